/- packed -/
import Derived.Test.YtplldnnnhgnbjaaGreatDoorMu07
namespace Go.Proofs.YtplldnnnhgnbjaaGreatDoor
open Go.RowKit Go.Maps
def inF(l:List ByteArray):ByteArray→Option Value:=fun s=>if s∈l then some (.bool true) else none
theorem inF_nil:inF []=fun _=>none:=by funext s;unfold inF;rw[if_neg (by simp)]
theorem inF_add{l:List ByteArray}{s:ByteArray}:updV (inF l) s (some (.bool true))=inF (l++[s]):=by
 funext t
 unfold updV inF
 by_cases h:t=s
 ·rw[if_pos h,if_pos (by rw[h];simp)]
 ·rw[if_neg h]
  by_cases h2:t∈l
  ·rw[if_pos h2,if_pos (by simp[h2])]
  ·rw[if_neg h2,if_neg (by simp[h2,h])]
theorem inF_get{l:List ByteArray}{s:ByteArray}:(inF l s).getD (.bool false)=.bool (decide (s∈l)):=by
 unfold inF
 by_cases h:s∈l
 ·rw[if_pos h,decide_eq_true h];rfl
 ·rw[if_neg h,decide_eq_false h];rfl
set_option maxRecDepth 20000 in
set_option maxHeartbeats 1600000 in
theorem checkOrder_any{F G:Nat→Prop}{w:World}{A B O:Option Addr}{na ca nb cb no co:Nat}{ag:Int}{av:ByteArray}{hd:List ByteArray}{od:List Ky}(hH:Strs F w (.slice A na ca) hd)(hO:Sl rdKy G w (.slice O no co) od)(hz:∀k∈od,k.var.size≤maxLen)(hl:na≤1048576)(hlo:no≤1048576) :
  Calls Tryz.prog 139 #[.agg #[.slice A na ca,.int .i64 ag,.string av,.slice B nb cb,.slice O no co]] w (Ret (fun x _=>x=.int .i64 (orderE hd od)) w):=by
 have hno:=hO.cap.1
 have hna:na=hd.length:=by
  obtain⟨A',c',e,-,-⟩:=hH
  injection e
 have HH:=zO hH;have HO:=zO hO;have HZ:=zO hz;have HN:=zO hno;have HNA:=zO hna
 obtain⟨ns,hns⟩:∃ns,ns=od.map Ky.var:=⟨_,rfl⟩
 obtain⟨f,hf⟩:∃f:Nat→Int,f=(fun i=>if ns.getD i ⟨#[]⟩∈hd then (if ns.getD i ⟨#[]⟩∈ns.take i then 8 else 0) else 7):=⟨_,rfl⟩
 have hEE:orderE hd od=firstI f no:=by rw[hf,hns,hno];rfl
 have HEE:=zO hEE;have HF:=zO hf;have HNS:=zO hns
 have hmm:=@run_makeMap Tryz.prog
 clear hEE hf hns hH hO hz hno hna
 go_enter Tryz.func139,Tryz.ntmps139
 go_wp2_with fail
 have hx:Ext w ((w.alloc (.cells #[.slice A na ca,.int .i64 ag,.string av,.slice B nb cb,.slice O no co] 28)).alloc (.map #[] 0)):=((Ext.refl w).alloc _).alloc _
 have kb:=(Bk.new w 28 [.slice A na ca,.int .i64 ag,.string av,.slice B nb cb,.slice O no co]).alloc (.map #[] 0)
 change Bk ((w.alloc (.cells #[.slice A na ca,.int .i64 ag,.string av,.slice B nb cb,.slice O no co] 28)).alloc (.map #[] 0)) _ _ _ at kb
 have hm1:=MapV.made (w.alloc (.cells #[.slice A na ca,.int .i64 ag,.string av,.slice B nb cb,.slice O no co] 28))
 rw[show (w.alloc (.cells #[.slice A na ca,.int .i64 ag,.string av,.slice B nb cb,.slice O no co] 28)).heap.size=w.heap.size+1 by simp]at hm1
 generalize ((w.alloc (.cells #[.slice A na ca,.int .i64 ag,.string av,.slice B nb cb,.slice O no co] 28)).alloc (.map #[] 0))=w1 at *
 rw[←inF_nil]at hm1
 have HM1:=zO hm1;have HX1:=zO hx;have HKB:=zO kb
 have hw1:w.heap.size<w1.heap.size:=kb.lt
 clear hm1 hmm hx kb
 go_loopw [10] (fun t wr=>∃i m:Nat,i≤no∧m≤i∧t=.int .i64 (i:Int)∧Hid (∀j,j<i→f j=0)∧MapV wr (w.heap.size+1) m (inF (ns.take i))∧Fr (fun b=>b=w.heap.size+1) w1 wr) (fun t _=>no-(intOf t).toNat)
 case atStart=>exact⟨0,0,jn _,jq _,rfl,zO (fun j hj=>by omega),HM1.out,Fr.refl _ _⟩
 case round =>
  obtain⟨i,m,hi,hmi,rfl,H,hM,hfr⟩:=hrel
  obtain⟨W,rfl⟩:∃W:World,W=wr:=⟨_,rfl⟩
  have hxr:Ext w W:=hfr.new HX1.out (fun b hb=>by omega)
  have hkb:=HKB.out.fr hfr (by omega)
  have b0:=hkb.cell (i:=0) (by simp)
  simp only[ja]at b0
  have HX:=zO hxr;have HMM:=zO hM;have HFR:=zO hfr
  have hW:w.heap.size<W.heap.size:=hkb.lt
  clear hM hfr hkb
  by_cases hlt:i<no
  ·have i1:(0:Int)≤(i:Int):=by omega
   have i2:(i:Int)<(no:Int):=by omega
   have hit:i<od.length:=by have:=HN.out;omega
   have hin:i<ns.length:=by rw[HNS.out,jm];exact hit
   obtain⟨ad,rfl,-,d0,d1⟩:=HO.out.ky hit
   replace d0:=HX.out.cell d0;replace d1:=HX.out.cell d1
   have hzi:=HZ.out _ (jg hit)
   have hg:ns.getD i ⟨#[]⟩=od[i].var:=by rw[HNS.out];simp[hit]
   have hfi:f i=if od[i].var∈hd then (if od[i].var∈ns.take i then 8 else 0) else 7:=by rw[HF.out];simp only[hg]
   have htk:ns.take (i+1)=ns.take i++[od[i].var]:=by rw[jj hin];simp[HNS.out]
   have hgo:f i=0→∀j,j<i+1→f j=0:=fun h j hj=>by
    rcases jB j i with h1|h1
    ·exact H.out j h1
    ·have:j=i:=by omega
     subst this;exact h
   have hst:∀m:Int,m≠0→f i=m→orderE hd od=m:=fun m hm h=>by rw[HEE.out,firstI_at hlt H.out (by rw[h];exact hm),h]
   obtain⟨⟨xv,xd⟩,hx⟩:∃x,x=od[i]:=⟨_,rfl⟩
   rw[←hx]at d0 d1 hzi hfi htk
   simp only at d0 d1 hzi hfi htk
   have HFI:=zO hfi;have HGO:=zO hgo;have HST:=zO hst;have HTK:=zO htk
   have HC:Hid (∀V,Ext W V→Calls Tryz.prog 206 #[.slice A na ca,.string xv] V (fun e w'=>e=.returned (.bool (decide (xv∈hd)))∧V=w')):=zO (fun V hV=>contains_str (HH.out.ext (HX.out.trans hV)) (by have:=HNA.out;simp only[maxLen];omega))
   clear hg hfi hgo hst hx htk hxr
   by_cases hin:xv∈hd
   ·have HIN:=zO (decide_eq_true hin)
    by_cases htw:xv∈ns.take i
    ·have HQ:=zO (HST.out 8 (by decide) (by rw[HFI.out,if_pos hin,if_pos htw]))
     have HGET:Hid ((inF (ns.take i) xv).getD (.bool false)=.bool true):=zO (by rw[inF_get,decide_eq_true htw])
     clear hin htw
     go_wp2_with fail
     refine(HC.out _ ((Ext.refl W).alloc _)).mono ?_
     rintro e w' ⟨rfl,rfl⟩
     rw[HIN.out]
     go_wp2_with (first|(refine wpList_lookup_V rfl _ _ 121 4 rfl Tryz.underlying121 (.bool false) (zero_bool _) (w.heap.size+1) m _ rfl (HMM.out.ext ((Ext.refl W).alloc _)) xv rfl hzi (.bool true) HGET.out ?_))
     go_ret
     exact Ret.mk (HX.out.alloc _) (ret_i HQ.out)
    ·have HG:=zO (HGO.out (by rw[HFI.out,if_pos hin,if_neg htw]))
     have HGET:Hid ((inF (ns.take i) xv).getD (.bool false)=.bool false):=zO (by rw[inF_get,decide_eq_false htw])
     clear hin htw
     go_wp2_with fail
     refine(HC.out _ ((Ext.refl W).alloc _)).mono ?_
     rintro e w' ⟨rfl,rfl⟩
     rw[HIN.out]
     go_wp2_with (first
      | (refine wpList_lookup_V rfl _ _ 121 4 rfl Tryz.underlying121 (.bool false) (zero_bool _) (w.heap.size+1) m _ rfl (HMM.out.ext ((Ext.refl W).alloc _)) xv rfl hzi (.bool false) HGET.out ?_)
      | (refine wpList_update_V rfl _ _ _ 121 4 rfl Tryz.underlying121 (w.heap.size+1) m (inF (ns.take i)) rfl (HMM.out.ext ((Ext.refl W).alloc _)) (by simp only[maxLen];omega) xv (.bool true) rfl hzi rfl ?_;intro w5 hm5 hg5;have HM5:=zO hm5;have HG5:=zO hg5;clear hm5 hg5))
     go_roundw
     case rel=>exact⟨i+1,m+1,by omega,by omega,by go_num,HG,by rw[HTK.out,←inF_add];exact HM5.out,(HFR.out.alloc _).grown HG5.out (fun k e=>.inl (by injection e with e;exact e.symm))⟩
     case measure=>simp[intOf];omega
   ·have HIN:=zO (decide_eq_false hin)
    have HQ:=zO (HST.out 7 (by decide) (by rw[HFI.out,if_neg hin]))
    clear hin
    go_wp2_with fail
    refine(HC.out _ ((Ext.refl W).alloc _)).mono ?_
    rintro e w' ⟨rfl,rfl⟩
    rw[HIN.out]
    go_wp2_with fail
    go_ret
    exact Ret.mk (HX.out.alloc _) (ret_i HQ.out)
  ·obtain rfl:i=no:=by omega
   have hdi:¬(i:Int)<(i:Int):=by omega
   have HQ:Hid (orderE hd od=0):=zO (by rw[HEE.out];exact firstI_zero.2 H.out)
   clear b0
   go_wp2_with fail
   go_ret
   exact Ret.mk HX.out (ret_i HQ.out)
structure QyR(F:Nat→Prop)(w:World)(A:Option Addr)(ca:Nat)(B:Option Addr)(cb:Nat)(O:Option Addr)(co:Nat)(q:Qy):Prop where
 hd:Strs F w (.slice A q.hd.length ca) q.hd
 rs:Sl rdRl F w (.slice B q.rs.length cb) q.rs
 od:Sl rdKy F w (.slice O q.od.length co) q.od
theorem QyR.ext{F:Nat→Prop}{w w':World}{A B O:Option Addr}{ca cb co:Nat}{q:Qy}(h:QyR F w A ca B cb O co q)(he:Ext w w'):QyR F w' A ca B cb O co q:=⟨h.hd.ext he,h.rs.ext he,h.od.ext he⟩
structure QyZ(q:Qy):Prop where
 hd:∀s∈q.hd,s.size≤maxLen
 av:q.av.size≤maxLen
 rs:∀r∈q.rs,RlZ r
 od:∀k∈q.od,k.var.size≤maxLen
theorem head_len{hd:List ByteArray}(h:headE hd=0):hd.length≤6:=by
 unfold headE at h
 split at h
 ·assumption
 ·cases h
set_option maxRecDepth 20000 in
set_option maxHeartbeats 1600000 in
theorem astCheck_any{F:Nat→Prop}{w:World}{A B O:Option Addr}{ca cb co:Nat}{q:Qy}(h:QyR F w A ca B cb O co q)(hz:QyZ q)(hlo:q.od.length≤1048576) :
  Calls Tryz.prog 63 #[.agg #[.slice A q.hd.length ca,.int .i64 q.ag,.string q.av,.slice B q.rs.length cb,.slice O q.od.length co]] w (Ret (fun x _=>x=.int .i64 (astE q)) w):=by
 obtain⟨hd,ag,av,rs,od⟩:=q
 simp only at h hz hlo ⊢
 have hH:=h.hd;have hR:=h.rs;have hO:=h.od
 simp only at hH hR hO
 have hE0:rs.length=0→astE ⟨hd,ag,av,rs,od⟩=10:=fun h=>if_pos (jS h)
 have hE1:rs.length≠0→¬(rs.length≤3∧(rs.length≤1∨ag=0))→astE ⟨hd,ag,av,rs,od⟩=12:=fun h h1=>(if_neg (fun e=>h (by simp only at e;rw[e];rfl))).trans (if_neg h1)
 have hE2:rs.length≠0→(rs.length≤3∧(rs.length≤1∨ag=0))→astE ⟨hd,ag,av,rs,od⟩=(if headE hd=0 then (if aggE ag av=0 then (if firstE (ruleE (needV hd av)) rs=0 then orderE hd od else firstE (ruleE (needV hd av)) rs) else aggE ag av) else headE hd):=fun h h1=>(if_neg (fun e=>h (by simp only at e;rw[e];rfl))).trans (if_pos h1)
 have HHL:=zO (head_len (hd:=hd))
 have HHZ:=zO hz.hd;have HAZ:=zO hz.av;have HRZ:=zO hz.rs;have HOZ:=zO hz.od
 obtain⟨nh,hnh⟩:∃n,n=hd.length:=⟨_,rfl⟩
 obtain⟨nr,hnr⟩:∃n,n=rs.length:=⟨_,rfl⟩
 obtain⟨no,hno⟩:∃n,n=od.length:=⟨_,rfl⟩
 rw[←hnh]at hH HHL ⊢
 rw[←hnr]at hR hE0 hE1 hE2 ⊢
 rw[←hno]at hO hlo ⊢
 have HH:=zO hH;have HR:=zO hR;have HO:=zO hO
 clear hnh hnr hno hH hR hO h hz
 by_cases h0:nr=0
 ·have HE:=zO (hE0 h0)
  subst h0
  clear hE0 hE1 hE2
  go_enter Tryz.func63,Tryz.ntmps63
  go_wp2_with fail
  go_ret
  exact Ret.mk ((Ext.refl w).alloc _) (ret_i HE.out)
 have hn0:((nr:Int) == 0)=false:=beq_false_of_ne (by omega)
 by_cases h3:¬(nr≤3∧(nr≤1∨ag=0))
 ·have HE:=zO (hE1 h0 h3)
  have h4 : 3<nr∨(¬3<nr∧1<nr∧ag≠0):=by
   by_cases e : 3<nr
   ·exact .inl e
   ·exact .inr ⟨e,by omega,fun e2=>h3 ⟨by omega,.inr e2⟩⟩
  clear hE0 hE1 hE2 h0 h3
  rcases h4 with h4|⟨h4,h5,h6⟩
  ·have k1:(3:Int)<(nr:Int):=by omega
   go_enter Tryz.func63,Tryz.ntmps63
   go_wp2_with fail
   go_ret
   exact Ret.mk ((Ext.refl w).alloc _) (ret_i HE.out)
  ·have k1:¬(3:Int)<(nr:Int):=by omega
   have k2:(1:Int)<(nr:Int):=by omega
   have k3:(ag != 0)=true:=by rw[bne_iff_ne];exact h6
   clear h6
   go_enter Tryz.func63,Tryz.ntmps63
   go_wp2_with fail
   go_ret
   exact Ret.mk ((Ext.refl w).alloc _) (ret_i HE.out)
 rw[Decidable.not_not]at h3
 have HE:=zO (hE2 h0 h3)
 have h31:=h3.1
 have h32:nr≤1∨(1<nr∧ag=0):=by omega
 have k1:¬(3:Int)<(nr:Int):=by omega
 clear hE0 hE1 hE2 h0 h3
 rcases h32 with h32|⟨h32,rfl⟩
 ·have k2:¬(1:Int)<(nr:Int):=by omega
  go_enter Tryz.func63,Tryz.ntmps63
  go_wp2_with fail
  have hx:Ext w (w.alloc (.cells #[.slice A nh ca,.int .i64 ag,.string av,.slice B nr cb,.slice O no co] 28)):=(Ext.refl w).alloc _
  have kb:=Bk.new w 28 [.slice A nh ca,.int .i64 ag,.string av,.slice B nr cb,.slice O no co]
  change Bk (w.alloc (.cells #[.slice A nh ca,.int .i64 ag,.string av,.slice B nr cb,.slice O no co] 28)) _ _ _ at kb
  generalize (w.alloc (.cells #[.slice A nh ca,.int .i64 ag,.string av,.slice B nr cb,.slice O no co] 28))=w1 at *
  have a0:=kb.cell (i:=0) (by simp);have a1:=kb.cell (i:=1) (by simp);have a2:=kb.cell (i:=2) (by simp);have a3:=kb.cell (i:=3) (by simp);have a4:=kb.cell (i:=4) (by simp)
  simp only[ja,je]at a0 a1 a2 a3 a4
  refine(checkHead_any (HH.out.ext hx) HHZ.out).mono ?_
  rintro e w2 ⟨y,rfl,he,rfl⟩
  replace a0:=he.cell a0;replace a1:=he.cell a1;replace a2:=he.cell a2;replace a3:=he.cell a3;replace a4:=he.cell a4
  have HX2:=zO (hx.trans he)
  clear kb hx he
  by_cases e1:headE hd=0
  ·have H1:=zO e1
   have hn6:=HHL.out e1
   rw[e1]
   clear e1
   go_wp2_with fail
   refine(checkAgg_any HAZ.out).mono ?_
   rintro e w3 ⟨y,rfl,he,rfl⟩
   replace a0:=he.cell a0;replace a1:=he.cell a1;replace a2:=he.cell a2;replace a3:=he.cell a3;replace a4:=he.cell a4
   have HX3:=zO (HX2.out.trans he)
   clear he
   by_cases e2:aggE ag av=0
   ·have H2:=zO e2
    rw[e2]
    clear e2
    go_wp2_with fail
    refine(checkRules_any (HH.out.ext HX3.out) (HR.out.ext HX3.out) HRZ.out HHZ.out HAZ.out hn6 h31).mono ?_
    rintro e w4 ⟨y,rfl,he,rfl⟩
    replace a0:=he.cell a0;replace a1:=he.cell a1;replace a2:=he.cell a2;replace a3:=he.cell a3;replace a4:=he.cell a4
    have HX4:=zO (HX3.out.trans he)
    clear he
    by_cases e3:firstE (ruleE (needV hd av)) rs=0
    ·have H3:=zO e3
     rw[e3]
     clear e3
     go_wp2_with fail
     refine(checkOrder_any (HH.out.ext HX4.out) (HO.out.ext HX4.out) HOZ.out (by omega) hlo).mono ?_
     rintro e w5 ⟨y,rfl,he,rfl⟩
     have HX5:=zO (HX4.out.trans he)
     clear he a0 a1 a2 a3 a4
     go_wp2_with fail
     go_ret
     exact Ret.mk HX5.out (ret_i (by rw[HE.out,if_pos H1.out,if_pos H2.out,if_pos H3.out]))
    ·have H3:=zO e3
     obtain⟨ev,hev⟩:∃ev,ev=firstE (ruleE (needV hd av)) rs:=⟨_,rfl⟩
     rw[←hev]at e3 ⊢
     have hne:(ev != 0)=true:=by rw[bne_iff_ne];exact e3
     have HEV:=zO hev
     clear hev e3
     go_wp2_with fail
     go_ret
     exact Ret.mk HX4.out (ret_i (by rw[HE.out,if_pos H1.out,if_pos H2.out,if_neg H3.out,HEV.out]))
   ·have H2:=zO e2
    obtain⟨ev,hev⟩:∃ev,ev=aggE ag av:=⟨_,rfl⟩
    rw[←hev]at e2 ⊢
    have hne:(ev != 0)=true:=by rw[bne_iff_ne];exact e2
    have HEV:=zO hev
    clear hev e2
    go_wp2_with fail
    go_ret
    exact Ret.mk HX3.out (ret_i (by rw[HE.out,if_pos H1.out,if_neg H2.out,HEV.out]))
  ·have H1:=zO e1
   obtain⟨ev,hev⟩:∃ev,ev=headE hd:=⟨_,rfl⟩
   rw[←hev]at e1 ⊢
   have hne:(ev != 0)=true:=by rw[bne_iff_ne];exact e1
   have HEV:=zO hev
   clear hev e1
   go_wp2_with fail
   go_ret
   exact Ret.mk HX2.out (ret_i (by rw[HE.out,if_neg H1.out,HEV.out]))
 ·have k2:(1:Int)<(nr:Int):=by omega
  go_enter Tryz.func63,Tryz.ntmps63
  go_wp2_with fail
  have hx:Ext w (w.alloc (.cells #[.slice A nh ca,.int .i64 0,.string av,.slice B nr cb,.slice O no co] 28)):=(Ext.refl w).alloc _
  have kb:=Bk.new w 28 [.slice A nh ca,.int .i64 0,.string av,.slice B nr cb,.slice O no co]
  change Bk (w.alloc (.cells #[.slice A nh ca,.int .i64 0,.string av,.slice B nr cb,.slice O no co] 28)) _ _ _ at kb
  generalize (w.alloc (.cells #[.slice A nh ca,.int .i64 0,.string av,.slice B nr cb,.slice O no co] 28))=w1 at *
  have a0:=kb.cell (i:=0) (by simp);have a1:=kb.cell (i:=1) (by simp);have a2:=kb.cell (i:=2) (by simp);have a3:=kb.cell (i:=3) (by simp);have a4:=kb.cell (i:=4) (by simp)
  simp only[ja,je]at a0 a1 a2 a3 a4
  refine(checkHead_any (HH.out.ext hx) HHZ.out).mono ?_
  rintro e w2 ⟨y,rfl,he,rfl⟩
  replace a0:=he.cell a0;replace a1:=he.cell a1;replace a2:=he.cell a2;replace a3:=he.cell a3;replace a4:=he.cell a4
  have HX2:=zO (hx.trans he)
  clear kb hx he
  by_cases e1:headE hd=0
  ·have H1:=zO e1
   have hn6:=HHL.out e1
   rw[e1]
   clear e1
   go_wp2_with fail
   refine(checkAgg_any HAZ.out).mono ?_
   rintro e w3 ⟨y,rfl,he,rfl⟩
   replace a0:=he.cell a0;replace a1:=he.cell a1;replace a2:=he.cell a2;replace a3:=he.cell a3;replace a4:=he.cell a4
   have HX3:=zO (HX2.out.trans he)
   clear he
   by_cases e2:aggE 0 av=0
   ·have H2:=zO e2
    rw[e2]
    clear e2
    go_wp2_with fail
    refine(checkRules_any (HH.out.ext HX3.out) (HR.out.ext HX3.out) HRZ.out HHZ.out HAZ.out hn6 h31).mono ?_
    rintro e w4 ⟨y,rfl,he,rfl⟩
    replace a0:=he.cell a0;replace a1:=he.cell a1;replace a2:=he.cell a2;replace a3:=he.cell a3;replace a4:=he.cell a4
    have HX4:=zO (HX3.out.trans he)
    clear he
    by_cases e3:firstE (ruleE (needV hd av)) rs=0
    ·have H3:=zO e3
     rw[e3]
     clear e3
     go_wp2_with fail
     refine(checkOrder_any (HH.out.ext HX4.out) (HO.out.ext HX4.out) HOZ.out (by omega) hlo).mono ?_
     rintro e w5 ⟨y,rfl,he,rfl⟩
     have HX5:=zO (HX4.out.trans he)
     clear he a0 a1 a2 a3 a4
     go_wp2_with fail
     go_ret
     exact Ret.mk HX5.out (ret_i (by rw[HE.out,if_pos H1.out,if_pos H2.out,if_pos H3.out]))
    ·have H3:=zO e3
     obtain⟨ev,hev⟩:∃ev,ev=firstE (ruleE (needV hd av)) rs:=⟨_,rfl⟩
     rw[←hev]at e3 ⊢
     have hne:(ev != 0)=true:=by rw[bne_iff_ne];exact e3
     have HEV:=zO hev
     clear hev e3
     go_wp2_with fail
     go_ret
     exact Ret.mk HX4.out (ret_i (by rw[HE.out,if_pos H1.out,if_pos H2.out,if_neg H3.out,HEV.out]))
   ·have H2:=zO e2
    obtain⟨ev,hev⟩:∃ev,ev=aggE 0 av:=⟨_,rfl⟩
    rw[←hev]at e2 ⊢
    have hne:(ev != 0)=true:=by rw[bne_iff_ne];exact e2
    have HEV:=zO hev
    clear hev e2
    go_wp2_with fail
    go_ret
    exact Ret.mk HX3.out (ret_i (by rw[HE.out,if_pos H1.out,if_neg H2.out,HEV.out]))
  ·have H1:=zO e1
   obtain⟨ev,hev⟩:∃ev,ev=headE hd:=⟨_,rfl⟩
   rw[←hev]at e1 ⊢
   have hne:(ev != 0)=true:=by rw[bne_iff_ne];exact e1
   have HEV:=zO hev
   clear hev e1
   go_wp2_with fail
   go_ret
   exact Ret.mk HX2.out (ret_i (by rw[HE.out,if_neg H1.out,HEV.out]))
end Go.Proofs.YtplldnnnhgnbjaaGreatDoor
namespace Go.Proofs.YtplldnnnhgnbjaaGreatDoor
open Go.RowKit Go.Maps
def FindSc(F:Nat→Prop)(ss:List Sc)(s:ByteArray)(w:World)(e:Ending)(w':World):Prop :=
 Ext w w'∧((findS ss s=none∧e=.returned (.tuple #[.agg #[.string ⟨#[]⟩,.slice none 0 0],.bool false]))∨∃x B d,findS ss s=some x∧x∈ss∧e=.returned (.tuple #[.agg #[.string x.name,.slice B x.kinds.length d],.bool true])∧Ins F w' (.slice B x.kinds.length d) x.kinds)
theorem findS_at{ss:List Sc}{s:ByteArray}{i:Nat}(hi:i<ss.length)(h0:∀j (_:j<i) (_:j<ss.length),ss[j].name≠s)(h1:ss[i].name=s):findS ss s=some ss[i]:=by
 unfold findS
 induction ss generalizing i with
 | nil=>simp at hi
 | cons a ss ih =>
  rcases i with _|i
  ·rw[List.find?_cons_of_pos (by simpa using h1)];rfl
  ·have ha:=h0 0 (by omega) (by simp)
   rw[List.find?_cons_of_neg (by simpa using ha)]
   exact ih (i:=i) (by simpa using hi) (fun j hj hl=>h0 (j+1) (by omega) (by simpa using hl)) (by simpa using h1)
theorem findS_no{ss:List Sc}{s:ByteArray}(h0:∀j (_:j<ss.length),ss[j].name≠s):findS ss s=none:=by
 unfold findS
 rw[List.find?_eq_none]
 intro x hx
 obtain⟨j,hj,rfl⟩:=jv hx
 simpa using h0 j hj
set_option maxRecDepth 20000 in
set_option maxHeartbeats 1600000 in
theorem find_any{F:Nat→Prop}{w:World}{v:Value}{ss:List Sc}{s:ByteArray}(h:Sl rdSc F w v ss)(hl:ss.length≤maxLen) :
  Calls Tryz.prog 140 #[v,.string s] w (FindSc F ss s w):=by
 unfold maxLen at hl
 obtain⟨A,c,rfl⟩:=h.sl
 obtain⟨n,hn⟩:∃n,n=ss.length:=⟨_,rfl⟩
 rw[←hn]at h hl ⊢
 have HN:=zO hn;have HS:=zO h
 clear hn h
 go_enter Tryz.func140,Tryz.ntmps140
 go_wp2_with fail
 have hx:Ext w (w.alloc (.cells #[.string ⟨#[]⟩,.slice none 0 0] 92)):=(Ext.refl w).alloc _
 have kb:=Bk.new w 92 [.string ⟨#[]⟩,.slice none 0 0]
 change Bk (w.alloc (.cells #[.string ⟨#[]⟩,.slice none 0 0] 92)) _ _ _ at kb
 generalize (w.alloc (.cells #[.string ⟨#[]⟩,.slice none 0 0] 92))=w1 at *
 have HK:=zO kb
 clear kb
 go_loopw [10] (fun t wr=>∃i:Nat,i≤n∧t=.int .i64 (i:Int)∧Hid (∀j (_:j<i) (_:j<ss.length),ss[j].name≠s)∧Ext w1 wr) (fun t _=>n-(intOf t).toNat)
 case atStart=>exact⟨0,jn _,rfl,zO (fun j hj=>by omega),Ext.refl _⟩
 case round =>
  obtain⟨i,hi,rfl,H,hxr⟩:=hrel
  obtain⟨W,rfl⟩:∃W:World,W=wr:=⟨_,rfl⟩
  have HX:=zO (hx.trans hxr);have HX1:=zO hxr;have HKW:=zO (HK.out.ext hxr)
  by_cases hlt:i<n
  ·have i1:(0:Int)≤(i:Int):=by omega
   have i2:(i:Int)<(n:Int):=by omega
   have hit:i<ss.length:=by have:=HN.out;omega
   obtain⟨ad,B,d,rfl,-,d0,d1,hk⟩:=HS.out.sc hit
   replace d0:=HX.out.cell d0;replace d1:=HX.out.cell d1
   have hat:=findS_at (s:=s) hit H.out
   have hno:ss[i].name≠s→∀j (_:j<i+1) (_:j<ss.length),ss[j].name≠s:=fun h j hj hl=>by
    rcases jB j i with h2|h2
    ·exact H.out j h2 hl
    ·have:j=i:=by omega
     subst this;exact h
   have hmem:=jg hit
   obtain⟨x,hx⟩:∃x,x=ss[i]:=⟨_,rfl⟩
   rw[←hx]at d0 d1 hk hat hno hmem
   have HK0:=zO hk;have HAT:=zO hat;have HNO:=zO hno;have HMEM:=zO hmem
   obtain⟨xn,xk⟩:=x
   simp only at d0 d1 HK0 HAT HNO
   obtain⟨nk,hnk⟩:∃nk,nk=xk.length:=⟨_,rfl⟩
   rw[←hnk]at d1 HK0
   have HNK:=zO hnk
   clear hx hk hat hno hmem hxr hnk
   have b0:=HKW.out.cell (i:=0) (by simp);have b1:=HKW.out.cell (i:=1) (by simp);have bf0:=HKW.out.free 0;have bf1:=HKW.out.free 1
   simp only[ja,je]at b0 b1
   have hW:w.heap.size<W.heap.size:=HKW.out.lt
   by_cases he:xn=s
   ·have HQ:=zO (HAT.out he)
    have hbe:(xn.toList == s.toList)=true:=by rw[he];simp
    clear he
    go_wp2_with fail
    have kz:Bk (((W.setCell ⟨w.heap.size,0,none⟩ (.string xn)).setCell ⟨w.heap.size,1,none⟩ (.slice B nk d)).alloc (.cells #[.string xn,.slice B nk d] 92)) w.heap.size 92 [.string xn,.slice B nk d]:=((HKW.out.set 0 _).set 1 _).alloc _
    have hez:Ext w (((W.setCell ⟨w.heap.size,0,none⟩ (.string xn)).setCell ⟨w.heap.size,1,none⟩ (.slice B nk d)).alloc (.cells #[.string xn,.slice B nk d] 92)):=((HX.out.setCell (p:=⟨w.heap.size,0,none⟩) (jq _) _).setCell (p:=⟨w.heap.size,1,none⟩) (jq _) _).alloc _
    have hkz:Ins F (((W.setCell ⟨w.heap.size,0,none⟩ (.string xn)).setCell ⟨w.heap.size,1,none⟩ (.slice B nk d)).alloc (.cells #[.string xn,.slice B nk d] 92)) (.slice B nk d) xk:=HK0.out.ext hez
    generalize (((W.setCell ⟨w.heap.size,0,none⟩ (.string xn)).setCell ⟨w.heap.size,1,none⟩ (.slice B nk d)).alloc (.cells #[.string xn,.slice B nk d] 92))=wz at *
    have z0:=kz.cell (i:=0) (by simp);have z1:=kz.cell (i:=1) (by simp)
    simp only[ja,je]at z0 z1
    refine bodyPost_ret (v:=.tuple #[.agg #[.string xn,.slice B nk d],.bool true]) (by simp[results,Tryz.results140,go_sem,z0,z1]) rfl ⟨hez,.inr ⟨⟨xn,xk⟩,B,d,HQ.out,HMEM.out,by rw[HNK.out],?_⟩⟩
    rw[HNK.out]at hkz
    exact hkz
   ·have hbe:(xn.toList == s.toList)=false:=by
     have:xn.toList≠s.toList:=fun e=>he (toList_inj' e)
     simpa using this
    have HG:=zO (HNO.out he)
    clear he
    go_wp2_with fail
    go_roundw
    case rel=>exact⟨i+1,by omega,by go_num,HG,HX1.out.alloc _⟩
    case measure=>simp[intOf];omega
  ·obtain rfl:i=n:=by omega
   have hdi:¬(i:Int)<(i:Int):=by omega
   have HQ:=zO (findS_no (ss:=ss) (s:=s) (fun j hj=>H.out j (by have:=HN.out;omega) hj))
   have b0:=HKW.out.cell (i:=0) (by simp);have b1:=HKW.out.cell (i:=1) (by simp);have bf0:=HKW.out.free 0;have bf1:=HKW.out.free 1
   simp only[ja,je]at b0 b1
   go_wp2_with fail
   have kz:Bk ((W.setCell ⟨w.heap.size,0,none⟩ (.string ⟨#[]⟩)).setCell ⟨w.heap.size,1,none⟩ (.slice none 0 0)) w.heap.size 92 [.string ⟨#[]⟩,.slice none 0 0]:=(HKW.out.set 0 _).set 1 _
   have hez:Ext w ((W.setCell ⟨w.heap.size,0,none⟩ (.string ⟨#[]⟩)).setCell ⟨w.heap.size,1,none⟩ (.slice none 0 0)):=(HX.out.setCell (p:=⟨w.heap.size,0,none⟩) (jq _) _).setCell (p:=⟨w.heap.size,1,none⟩) (jq _) _
   generalize ((W.setCell ⟨w.heap.size,0,none⟩ (.string ⟨#[]⟩)).setCell ⟨w.heap.size,1,none⟩ (.slice none 0 0))=wz at *
   have z0:=kz.cell (i:=0) (by simp);have z1:=kz.cell (i:=1) (by simp)
   simp only[ja,je]at z0 z1
   exact bodyPost_ret (v:=.tuple #[.agg #[.string ⟨#[]⟩,.slice none 0 0],.bool false]) (by simp[results,Tryz.results140,go_sem,z0,z1]) rfl ⟨hez,.inl ⟨HQ.out,rfl⟩⟩
end Go.Proofs.YtplldnnnhgnbjaaGreatDoor
