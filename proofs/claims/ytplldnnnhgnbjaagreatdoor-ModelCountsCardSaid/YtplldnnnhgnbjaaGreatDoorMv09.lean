/- packed -/
import Derived.Test.YtplldnnnhgnbjaaGreatDoorMv08
set_option maxRecDepth 20000
set_option maxHeartbeats 1600000
namespace Go.Proofs.YtplldnnnhgnbjaaGreatDoor
open Go.RowKit Go.Maps
def inF(l:List ByteArray):ByteArray→Option Value:=fun s=>if s∈l then some (.bool true) else none
theorem inF_nil:inF []=fun _=>none:=by funext s;unfold inF;rw[if_neg (by simp)]
theorem inF_add{l:List ByteArray}{s:ByteArray}:cI (inF l) s (some (.bool true))=inF (l++[s]):=by
 funext t
 unfold cI inF
 by_cases h:t=s
 ·rw[if_pos h,if_pos (by rw[h];simp)]
 ·rw[if_neg h]
  by_cases h2:t∈l
  ·rw[if_pos h2,if_pos (by simp[h2])]
  ·rw[if_neg h2,if_neg (by simp[h2,h])]
theorem mJ{l:List ByteArray}{s:ByteArray}:(inF l s).getD (.bool false)=.bool (decide (s∈l)):=by
 unfold inF
 by_cases h:s∈l
 ·rw[if_pos h,decide_eq_true h];rfl
 ·rw[if_neg h,decide_eq_false h];rfl
theorem gP{F G:Nat→Prop}{w:World}{A B O:Option Addr}{na ca nb cb no co:Nat}{ag:Int}{av:ByteArray}{hd:List ByteArray}{od:List Ky}(hH:Strs F w (.slice A na ca) hd)(hO:Sl iO G w (.slice O no co) od)(hz:∀k∈od,k.var.size≤maxLen)(hl:na≤1048576)(sX:no≤1048576) :
  Calls Tryz.prog 139 #[.agg #[.slice A na ca,.int .i64 ag,.string av,.slice B nb cb,.slice O no co]] w (Ret (fun x _=>x=.int .i64 (dp hd od)) w):=by
 have sB:=hO.cap.1
 have sJ:na=hd.length:=by
  obtain⟨A',c',e,-,-⟩:=hH
  injection e
 have HH:=zN hH;have HO:=zN hO;have HZ:=zN hz;have HN:=zN sB;have sS:=zN sJ
 obtain⟨ns,sC⟩:=sd (od.map Ky.var)
 obtain⟨f,hf⟩:∃f:Nat→Int,f=(fun i=>if ns.getD i ⟨#[]⟩∈hd then (if ns.getD i ⟨#[]⟩∈ns.take i then 8 else 0) else 7):=⟨_,rfl⟩
 have sF:dp hd od=kw f no:=by rw[hf,sC,sB];rfl
 have sD:=zN sF;have HF:=zN hf;have sy:=zN sC
 have sV:=@run_makeMap Tryz.prog
 clear sF hf sC hH hO hz sB sJ
 go_enter Tryz.func139,Tryz.ntmps139
 go_wp2_with fail
 have hx:Ext w ((w.alloc (.cells #[.slice A na ca,.int .i64 ag,.string av,.slice B nb cb,.slice O no co] 28)).alloc (.map #[] 0)):=((Ext.refl w).alloc _).alloc _
 have kb:=(Bk.new w 28 [.slice A na ca,.int .i64 ag,.string av,.slice B nb cb,.slice O no co]).alloc (.map #[] 0)
 change Bk ((w.alloc (.cells #[.slice A na ca,.int .i64 ag,.string av,.slice B nb cb,.slice O no co] 28)).alloc (.map #[] 0)) _ _ _ at kb
 have sr:=aI.made (w.alloc (.cells #[.slice A na ca,.int .i64 ag,.string av,.slice B nb cb,.slice O no co] 28))
 rw[show (w.alloc (.cells #[.slice A na ca,.int .i64 ag,.string av,.slice B nb cb,.slice O no co] 28)).heap.size=w.heap.size+1 by simp]at sr
 generalize ((w.alloc (.cells #[.slice A na ca,.int .i64 ag,.string av,.slice B nb cb,.slice O no co] 28)).alloc (.map #[] 0))=w1 at *
 rw[←inF_nil]at sr
 have sQ:=zN sr;have sU:=zN hx;have sP:=zN kb
 have sZ:w.heap.size<w1.heap.size:=kb.lt
 clear sr sV hx kb
 go_loopw [10] (fun t wr=>∃i m:Nat,i≤no∧m≤i∧t=.int .i64 (i:Int)∧Hid (∀j,j<i→f j=0)∧aI wr (w.heap.size+1) m (inF (ns.take i))∧Fr (fun b=>b=w.heap.size+1) w1 wr) (fun t _=>no-(intOf t).toNat)
 case atStart=>exact⟨0,0,jn _,jo _,rfl,zN (fun j hj=>by omega),sQ.out,Fr.refl _ _⟩
 case round =>
  obtain⟨i,m,hi,sY,rfl,H,hM,sp⟩:=hrel
  obtain⟨W,rfl⟩:∃W:World,W=wr:=⟨_,rfl⟩
  have sL:Ext w W:=sp.new sU.out (fun b hb=>by omega)
  have sA:=sP.out.fr sp (by omega)
  have b0:=sA.c0
  have HX:=zN sL;have sx:=zN hM;have sM:=zN sp
  have hW:w.heap.size<W.heap.size:=sA.lt
  clear hM sp sA
  by_cases hlt:i<no
  ·have i1:(0:Int)≤(i:Int):=by omega
   have i2:(i:Int)<(no:Int):=by omega
   have sq:i<od.length:=by have:=HN.out;omega
   have se:i<ns.length:=by rw[sy.out,jk];exact sq
   obtain⟨ad,rfl,-,d0,d1⟩:=HO.out.ky sq
   replace d0:=HX.out.cell d0;replace d1:=HX.out.cell d1
   have sh:=HZ.out _ (jf sq)
   have hg:ns.getD i ⟨#[]⟩=od[i].var:=by rw[sy.out];simp[sq]
   have sj:f i=if od[i].var∈hd then (if od[i].var∈ns.take i then 8 else 0) else 7:=by rw[HF.out];simp only[hg]
   have su:ns.take (i+1)=ns.take i++[od[i].var]:=by rw[jj se];simp[sy.out]
   have sH:f i=0→∀j,j<i+1→f j=0:=fun h j hj=>by
    rcases jz j i with h1|h1
    ·exact H.out j h1
    ·have:j=i:=by omega
     subst this;exact h
   have sK:∀m:Int,m≠0→f i=m→dp hd od=m:=fun m hm h=>by rw[sD.out,oN hlt H.out (by rw[h];exact hm),h]
   obtain⟨⟨xv,xd⟩,hx⟩:=sd (od[i])
   rw[←hx]at d0 d1 sh sj su
   simp only at d0 d1 sh sj su
   have sw:=zN sj;have sO:=zN sH;have sE:=zN sK;have sT:=zN su
   have HC:Hid (∀V,Ext W V→Calls Tryz.prog 206 #[.slice A na ca,.string xv] V (fun e w'=>e=.returned (.bool (decide (xv∈hd)))∧V=w')):=zN (fun V hV=>kZ (HH.out.ext (HX.out.trans hV)) (by have:=sS.out;simp only[maxLen];omega))
   clear hg sj sH sK hx su sL
   by_cases se:xv∈hd
   ·have si:=zN (decide_eq_true se)
    by_cases htw:xv∈ns.take i
    ·have HQ:=zN (sE.out 8 (by decide) (by rw[sw.out,if_pos se,if_pos htw]))
     have sg:Hid ((inF (ns.take i) xv).getD (.bool false)=.bool true):=zN (by rw[mJ,decide_eq_true htw])
     clear se htw
     go_wp2_with fail
     refine(HC.out _ ((Ext.refl W).alloc _)).mono ?_
     rintro e w' ⟨rfl,rfl⟩
     rw[si.out]
     go_wp2_with (first|(refine ao rfl _ _ 121 4 rfl Tryz.underlying121 (.bool false) (bI _) (w.heap.size+1) m _ rfl (sx.out.ext ((Ext.refl W).alloc _)) xv rfl sh (.bool true) sg.out ?_))
     go_ret
     exact Ret.mk (HX.out.alloc _) (bJ HQ.out)
    ·have HG:=zN (sO.out (by rw[sw.out,if_pos se,if_neg htw]))
     have sg:Hid ((inF (ns.take i) xv).getD (.bool false)=.bool false):=zN (by rw[mJ,decide_eq_false htw])
     clear se htw
     go_wp2_with fail
     refine(HC.out _ ((Ext.refl W).alloc _)).mono ?_
     rintro e w' ⟨rfl,rfl⟩
     rw[si.out]
     go_wp2_with (first
      | (refine ao rfl _ _ 121 4 rfl Tryz.underlying121 (.bool false) (bI _) (w.heap.size+1) m _ rfl (sx.out.ext ((Ext.refl W).alloc _)) xv rfl sh (.bool false) sg.out ?_)
      | (refine aN rfl _ _ _ 121 4 rfl Tryz.underlying121 (w.heap.size+1) m (inF (ns.take i)) rfl (sx.out.ext ((Ext.refl W).alloc _)) (by simp only[maxLen];omega) xv (.bool true) rfl sh rfl ?_;intro w5 sI sG;have sR:=zN sI;have sN:=zN sG;clear sI sG))
     go_roundw
     case rel=>exact⟨i+1,m+1,by omega,by omega,by go_num,HG,by rw[sT.out,←inF_add];exact sR.out,(sM.out.alloc _).grown sN.out (fun k e=>.inl (by injection e with e;exact e.symm))⟩
     case measure=>simp[intOf];omega
   ·have si:=zN (decide_eq_false se)
    have HQ:=zN (sE.out 7 (by decide) (by rw[sw.out,if_neg se]))
    clear se
    go_wp2_with fail
    refine(HC.out _ ((Ext.refl W).alloc _)).mono ?_
    rintro e w' ⟨rfl,rfl⟩
    rw[si.out]
    go_wp2_with fail
    go_ret
    exact Ret.mk (HX.out.alloc _) (bJ HQ.out)
  ·obtain rfl:i=no:=by omega
   have sW:¬(i:Int)<(i:Int):=by omega
   have HQ:Hid (dp hd od=0):=zN (by rw[sD.out];exact eV.2 H.out)
   clear b0
   go_wp2_with fail
   go_ret
   exact Ret.mk HX.out (bJ HQ.out)
structure QyR(F:Nat→Prop)(w:World)(A:Option Addr)(ca:Nat)(B:Option Addr)(cb:Nat)(O:Option Addr)(co:Nat)(q:Qy):Prop where
 hd:Strs F w (.slice A q.hd.length ca) q.hd
 rs:Sl rz F w (.slice B q.rs.length cb) q.rs
 od:Sl iO F w (.slice O q.od.length co) q.od
theorem QyR.ext{F:Nat→Prop}{w w':World}{A B O:Option Addr}{ca cb co:Nat}{q:Qy}(h:QyR F w A ca B cb O co q)(he:Ext w w'):QyR F w' A ca B cb O co q:=⟨h.hd.ext he,h.rs.ext he,h.od.ext he⟩
structure QyZ(q:Qy):Prop where
 hd:∀s∈q.hd,s.size≤maxLen
 av:q.av.size≤maxLen
 rs:∀r∈q.rs,RlZ r
 od:∀k∈q.od,k.var.size≤maxLen
theorem ia{hd:List ByteArray}(h:dr hd=0):hd.length≤6:=by
 unfold dr at h
 split at h
 ·assumption
 ·cases h
theorem pG{F:Nat→Prop}{w:World}{A B O:Option Addr}{ca cb co:Nat}{q:Qy}(h:QyR F w A ca B cb O co q)(hz:QyZ q)(sy:q.od.length≤1048576) :
  Calls Tryz.prog 63 #[.agg #[.slice A q.hd.length ca,.int .i64 q.ag,.string q.av,.slice B q.rs.length cb,.slice O q.od.length co]] w (Ret (fun x _=>x=.int .i64 (eU q)) w):=by
 obtain⟨hd,ag,av,rs,od⟩:=q
 simp only at h hz sy ⊢
 have hH:=h.hd;have hR:=h.rs;have hO:=h.od
 simp only at hH hR hO
 have sp:rs.length=0→eU ⟨hd,ag,av,rs,od⟩=10:=fun h=>if_pos (jZ h)
 have sq:rs.length≠0→¬(rs.length≤3∧(rs.length≤1∨ag=0))→eU ⟨hd,ag,av,rs,od⟩=12:=fun h h1=>(if_neg (fun e=>h (by simp only at e;rw[e];rfl))).trans (if_neg h1)
 have sr:rs.length≠0→(rs.length≤3∧(rs.length≤1∨ag=0))→eU ⟨hd,ag,av,rs,od⟩=(if dr hd=0 then (if gD ag av=0 then (if aA (cn (dI hd av)) rs=0 then dp hd od else aA (cn (dI hd av)) rs) else gD ag av) else dr hd):=fun h h1=>(if_neg (fun e=>h (by simp only at e;rw[e];rfl))).trans (if_pos h1)
 have sA:=zN (ia (hd:=hd))
 have sx:=zN hz.hd;have sw:=zN hz.av;have sF:=zN hz.rs;have sE:=zN hz.od
 obtain⟨nh,sH⟩:=sd hd.length
 obtain⟨nr,sJ⟩:=sd rs.length
 obtain⟨no,sI⟩:=sd od.length
 rw[←sH]at hH sA ⊢
 rw[←sJ]at hR sp sq sr ⊢
 rw[←sI]at hO sy ⊢
 have HH:=zN hH;have HR:=zN hR;have HO:=zN hO
 clear sH sJ sI hH hR hO h hz
 by_cases h0:nr=0
 ·have HE:=zN (sp h0)
  subst h0
  clear sp sq sr
  go_enter Tryz.func63,Tryz.ntmps63
  go_wp2_with fail
  go_ret
  exact Ret.mk ((Ext.refl w).alloc _) (bJ HE.out)
 have sK:((nr:Int) == 0)=false:=beq_false_of_ne (by omega)
 by_cases h3:¬(nr≤3∧(nr≤1∨ag=0))
 ·have HE:=zN (sq h0 h3)
  have h4 : 3<nr∨(¬3<nr∧1<nr∧ag≠0):=by
   by_cases e : 3<nr
   ·exact .inl e
   ·exact .inr ⟨e,by omega,fun e2=>h3 ⟨by omega,.inr e2⟩⟩
  clear sp sq sr h0 h3
  rcases h4 with h4|⟨h4,h5,h6⟩
  ·have k1:(3:Int)<(nr:Int):=by omega
   go_enter Tryz.func63,Tryz.ntmps63
   go_wp2_with fail
   go_ret
   exact Ret.mk ((Ext.refl w).alloc _) (bJ HE.out)
  ·have k1:¬(3:Int)<(nr:Int):=by omega
   have k2:(1:Int)<(nr:Int):=by omega
   have k3:(ag != 0)=true:=by rw[bne_iff_ne];exact h6
   clear h6
   go_enter Tryz.func63,Tryz.ntmps63
   go_wp2_with fail
   go_ret
   exact Ret.mk ((Ext.refl w).alloc _) (bJ HE.out)
 rw[Decidable.not_not]at h3
 have HE:=zN (sr h0 h3)
 have sG:=h3.1
 have sC:nr≤1∨(1<nr∧ag=0):=by omega
 have k1:¬(3:Int)<(nr:Int):=by omega
 clear sp sq sr h0 h3
 rcases sC with sC|⟨sC,rfl⟩
 ·have k2:¬(1:Int)<(nr:Int):=by omega
  go_enter Tryz.func63,Tryz.ntmps63
  go_wp2_with fail
  have hx:Ext w (w.alloc (.cells #[.slice A nh ca,.int .i64 ag,.string av,.slice B nr cb,.slice O no co] 28)):=(Ext.refl w).alloc _
  have kb:=Bk.new w 28 [.slice A nh ca,.int .i64 ag,.string av,.slice B nr cb,.slice O no co]
  change Bk (w.alloc (.cells #[.slice A nh ca,.int .i64 ag,.string av,.slice B nr cb,.slice O no co] 28)) _ _ _ at kb
  generalize (w.alloc (.cells #[.slice A nh ca,.int .i64 ag,.string av,.slice B nr cb,.slice O no co] 28))=w1 at *
  have a0:=kb.c0;have a1:=kb.c1;have a2:=kb.c2;have a3:=kb.c3;have a4:=kb.c4
  refine(iQ (HH.out.ext hx) sx.out).mono ?_
  rintro e w2 ⟨y,rfl,he,rfl⟩
  replace a0:=he.cell a0;replace a1:=he.cell a1;replace a2:=he.cell a2;replace a3:=he.cell a3;replace a4:=he.cell a4
  have sj:=zN (hx.trans he)
  clear kb hx he
  by_cases e1:dr hd=0
  ·have H1:=zN e1
   have sD:=sA.out e1
   rw[e1]
   clear e1
   go_wp2_with fail
   refine(kY sw.out).mono ?_
   rintro e w3 ⟨y,rfl,he,rfl⟩
   replace a0:=he.cell a0;replace a1:=he.cell a1;replace a2:=he.cell a2;replace a3:=he.cell a3;replace a4:=he.cell a4
   have sh:=zN (sj.out.trans he)
   clear he
   by_cases e2:gD ag av=0
   ·have H2:=zN e2
    rw[e2]
    clear e2
    go_wp2_with fail
    refine(gQ (HH.out.ext sh.out) (HR.out.ext sh.out) sF.out sx.out sw.out sD sG).mono ?_
    rintro e w4 ⟨y,rfl,he,rfl⟩
    replace a0:=he.cell a0;replace a1:=he.cell a1;replace a2:=he.cell a2;replace a3:=he.cell a3;replace a4:=he.cell a4
    have si:=zN (sh.out.trans he)
    clear he
    by_cases e3:aA (cn (dI hd av)) rs=0
    ·have H3:=zN e3
     rw[e3]
     clear e3
     go_wp2_with fail
     refine(gP (HH.out.ext si.out) (HO.out.ext si.out) sE.out (by omega) sy).mono ?_
     rintro e w5 ⟨y,rfl,he,rfl⟩
     have sB:=zN (si.out.trans he)
     clear he a0 a1 a2 a3 a4
     go_wp2_with fail
     go_ret
     exact Ret.mk sB.out (bJ (by rw[HE.out,if_pos H1.out,if_pos H2.out,if_pos H3.out]))
    ·have H3:=zN e3
     obtain⟨ev,se⟩:=sd (aA (cn (dI hd av)) rs)
     rw[←se]at e3 ⊢
     have su:(ev != 0)=true:=by rw[bne_iff_ne];exact e3
     have sg:=zN se
     clear se e3
     go_wp2_with fail
     go_ret
     exact Ret.mk si.out (bJ (by rw[HE.out,if_pos H1.out,if_pos H2.out,if_neg H3.out,sg.out]))
   ·have H2:=zN e2
    obtain⟨ev,se⟩:=sd (gD ag av)
    rw[←se]at e2 ⊢
    have su:(ev != 0)=true:=by rw[bne_iff_ne];exact e2
    have sg:=zN se
    clear se e2
    go_wp2_with fail
    go_ret
    exact Ret.mk sh.out (bJ (by rw[HE.out,if_pos H1.out,if_neg H2.out,sg.out]))
  ·have H1:=zN e1
   obtain⟨ev,se⟩:=sd (dr hd)
   rw[←se]at e1 ⊢
   have su:(ev != 0)=true:=by rw[bne_iff_ne];exact e1
   have sg:=zN se
   clear se e1
   go_wp2_with fail
   go_ret
   exact Ret.mk sj.out (bJ (by rw[HE.out,if_neg H1.out,sg.out]))
 ·have k2:(1:Int)<(nr:Int):=by omega
  go_enter Tryz.func63,Tryz.ntmps63
  go_wp2_with fail
  have hx:Ext w (w.alloc (.cells #[.slice A nh ca,.int .i64 0,.string av,.slice B nr cb,.slice O no co] 28)):=(Ext.refl w).alloc _
  have kb:=Bk.new w 28 [.slice A nh ca,.int .i64 0,.string av,.slice B nr cb,.slice O no co]
  change Bk (w.alloc (.cells #[.slice A nh ca,.int .i64 0,.string av,.slice B nr cb,.slice O no co] 28)) _ _ _ at kb
  generalize (w.alloc (.cells #[.slice A nh ca,.int .i64 0,.string av,.slice B nr cb,.slice O no co] 28))=w1 at *
  have a0:=kb.c0;have a1:=kb.c1;have a2:=kb.c2;have a3:=kb.c3;have a4:=kb.c4
  refine(iQ (HH.out.ext hx) sx.out).mono ?_
  rintro e w2 ⟨y,rfl,he,rfl⟩
  replace a0:=he.cell a0;replace a1:=he.cell a1;replace a2:=he.cell a2;replace a3:=he.cell a3;replace a4:=he.cell a4
  have sj:=zN (hx.trans he)
  clear kb hx he
  by_cases e1:dr hd=0
  ·have H1:=zN e1
   have sD:=sA.out e1
   rw[e1]
   clear e1
   go_wp2_with fail
   refine(kY sw.out).mono ?_
   rintro e w3 ⟨y,rfl,he,rfl⟩
   replace a0:=he.cell a0;replace a1:=he.cell a1;replace a2:=he.cell a2;replace a3:=he.cell a3;replace a4:=he.cell a4
   have sh:=zN (sj.out.trans he)
   clear he
   by_cases e2:gD 0 av=0
   ·have H2:=zN e2
    rw[e2]
    clear e2
    go_wp2_with fail
    refine(gQ (HH.out.ext sh.out) (HR.out.ext sh.out) sF.out sx.out sw.out sD sG).mono ?_
    rintro e w4 ⟨y,rfl,he,rfl⟩
    replace a0:=he.cell a0;replace a1:=he.cell a1;replace a2:=he.cell a2;replace a3:=he.cell a3;replace a4:=he.cell a4
    have si:=zN (sh.out.trans he)
    clear he
    by_cases e3:aA (cn (dI hd av)) rs=0
    ·have H3:=zN e3
     rw[e3]
     clear e3
     go_wp2_with fail
     refine(gP (HH.out.ext si.out) (HO.out.ext si.out) sE.out (by omega) sy).mono ?_
     rintro e w5 ⟨y,rfl,he,rfl⟩
     have sB:=zN (si.out.trans he)
     clear he a0 a1 a2 a3 a4
     go_wp2_with fail
     go_ret
     exact Ret.mk sB.out (bJ (by rw[HE.out,if_pos H1.out,if_pos H2.out,if_pos H3.out]))
    ·have H3:=zN e3
     obtain⟨ev,se⟩:=sd (aA (cn (dI hd av)) rs)
     rw[←se]at e3 ⊢
     have su:(ev != 0)=true:=by rw[bne_iff_ne];exact e3
     have sg:=zN se
     clear se e3
     go_wp2_with fail
     go_ret
     exact Ret.mk si.out (bJ (by rw[HE.out,if_pos H1.out,if_pos H2.out,if_neg H3.out,sg.out]))
   ·have H2:=zN e2
    obtain⟨ev,se⟩:=sd (gD 0 av)
    rw[←se]at e2 ⊢
    have su:(ev != 0)=true:=by rw[bne_iff_ne];exact e2
    have sg:=zN se
    clear se e2
    go_wp2_with fail
    go_ret
    exact Ret.mk sh.out (bJ (by rw[HE.out,if_pos H1.out,if_neg H2.out,sg.out]))
  ·have H1:=zN e1
   obtain⟨ev,se⟩:=sd (dr hd)
   rw[←se]at e1 ⊢
   have su:(ev != 0)=true:=by rw[bne_iff_ne];exact e1
   have sg:=zN se
   clear se e1
   go_wp2_with fail
   go_ret
   exact Ret.mk sj.out (bJ (by rw[HE.out,if_neg H1.out,sg.out]))
end Go.Proofs.YtplldnnnhgnbjaaGreatDoor
namespace Go.Proofs.YtplldnnnhgnbjaaGreatDoor
open Go.RowKit Go.Maps
def FindSc(F:Nat→Prop)(ss:List Sc)(s:ByteArray)(w:World)(e:Ending)(w':World):Prop :=
 Ext w w'∧((cm ss s=none∧e=.returned (.tuple #[.agg #[.string ⟨#[]⟩,.slice none 0 0],.bool false]))∨∃x B d,cm ss s=some x∧x∈ss∧e=.returned (.tuple #[.agg #[.string x.name,.slice B x.kinds.length d],.bool true])∧Ins F w' (.slice B x.kinds.length d) x.kinds)
theorem findS_at{ss:List Sc}{s:ByteArray}{i:Nat}(hi:i<ss.length)(h0:∀j (_:j<i) (_:j<ss.length),ss[j].name≠s)(h1:ss[i].name=s):cm ss s=some ss[i]:=by
 unfold cm
 induction ss generalizing i with
 | nil=>simp at hi
 | cons a ss ih =>
  rcases i with _|i
  ·rw[List.find?_cons_of_pos (by simpa using h1)];rfl
  ·have ha:=h0 0 (by omega) (by simp)
   rw[List.find?_cons_of_neg (by simpa using ha)]
   exact ih (i:=i) (by simpa using hi) (fun j hj hl=>h0 (j+1) (by omega) (by simpa using hl)) (by simpa using h1)
theorem findS_no{ss:List Sc}{s:ByteArray}(h0:∀j (_:j<ss.length),ss[j].name≠s):cm ss s=none:=by
 unfold cm
 rw[List.find?_eq_none]
 intro x hx
 obtain⟨j,hj,rfl⟩:=jx hx
 simpa using h0 j hj
theorem find_any{F:Nat→Prop}{w:World}{v:Value}{ss:List Sc}{s:ByteArray}(h:Sl el F w v ss)(hl:ss.length≤maxLen) :
  Calls Tryz.prog 140 #[v,.string s] w (FindSc F ss s w):=by
 unfold maxLen at hl
 obtain⟨A,c,rfl⟩:=h.sl
 obtain⟨n,hn⟩:=sd ss.length
 rw[←hn]at h hl ⊢
 have HN:=zN hn;have HS:=zN h
 clear hn h
 go_enter Tryz.func140,Tryz.ntmps140
 go_wp2_with fail
 have hx:Ext w (w.alloc (.cells #[.string ⟨#[]⟩,.slice none 0 0] 92)):=(Ext.refl w).alloc _
 have kb:=Bk.new w 92 [.string ⟨#[]⟩,.slice none 0 0]
 change Bk (w.alloc (.cells #[.string ⟨#[]⟩,.slice none 0 0] 92)) _ _ _ at kb
 generalize (w.alloc (.cells #[.string ⟨#[]⟩,.slice none 0 0] 92))=w1 at *
 have HK:=zN kb
 clear kb
 go_loopw [10] (fun t wr=>∃i:Nat,i≤n∧t=.int .i64 (i:Int)∧Hid (∀j (_:j<i) (_:j<ss.length),ss[j].name≠s)∧Ext w1 wr) (fun t _=>n-(intOf t).toNat)
 case atStart=>exact⟨0,jn _,rfl,zN (fun j hj=>by omega),Ext.refl _⟩
 case round =>
  obtain⟨i,hi,rfl,H,si⟩:=hrel
  obtain⟨W,rfl⟩:∃W:World,W=wr:=⟨_,rfl⟩
  have HX:=zN (hx.trans si);have sC:=zN si;have se:=zN (HK.out.ext si)
  by_cases hlt:i<n
  ·have i1:(0:Int)≤(i:Int):=by omega
   have i2:(i:Int)<(n:Int):=by omega
   have sr:i<ss.length:=by have:=HN.out;omega
   obtain⟨ad,B,d,rfl,-,d0,d1,hk⟩:=HS.out.sc sr
   replace d0:=HX.out.cell d0;replace d1:=HX.out.cell d1
   have sq:=findS_at (s:=s) sr H.out
   have sw:ss[i].name≠s→∀j (_:j<i+1) (_:j<ss.length),ss[j].name≠s:=fun h j hj hl=>by
    rcases jz j i with h2|h2
    ·exact H.out j h2 hl
    ·have:j=i:=by omega
     subst this;exact h
   have sg:=jf sr
   obtain⟨x,hx⟩:=sd (ss[i])
   rw[←hx]at d0 d1 hk sq sw sg
   have sj:=zN hk;have sx:=zN sq;have sA:=zN sw;have sp:=zN sg
   obtain⟨xn,xk⟩:=x
   simp only at d0 d1 sj sx sA
   obtain⟨nk,su⟩:=sd xk.length
   rw[←su]at d1 sj
   have sy:=zN su
   clear hx hk sq sw sg si su
   have b0:=se.out.c0;have b1:=se.out.c1;have sD:=se.out.free 0;have sE:=se.out.free 1
   have hW:w.heap.size<W.heap.size:=se.out.lt
   by_cases he:xn=s
   ·have HQ:=zN (sx.out he)
    have sF:(xn.toList == s.toList)=true:=by rw[he];simp
    clear he
    go_wp2_with fail
    have kz:Bk (((W.setCell ⟨w.heap.size,0,none⟩ (.string xn)).setCell ⟨w.heap.size,1,none⟩ (.slice B nk d)).alloc (.cells #[.string xn,.slice B nk d] 92)) w.heap.size 92 [.string xn,.slice B nk d]:=((se.out.set 0 _).set 1 _).alloc _
    have sh:Ext w (((W.setCell ⟨w.heap.size,0,none⟩ (.string xn)).setCell ⟨w.heap.size,1,none⟩ (.slice B nk d)).alloc (.cells #[.string xn,.slice B nk d] 92)):=((HX.out.setCell (p:=⟨w.heap.size,0,none⟩) (jo _) _).setCell (p:=⟨w.heap.size,1,none⟩) (jo _) _).alloc _
    have sB:Ins F (((W.setCell ⟨w.heap.size,0,none⟩ (.string xn)).setCell ⟨w.heap.size,1,none⟩ (.slice B nk d)).alloc (.cells #[.string xn,.slice B nk d] 92)) (.slice B nk d) xk:=sj.out.ext sh
    generalize (((W.setCell ⟨w.heap.size,0,none⟩ (.string xn)).setCell ⟨w.heap.size,1,none⟩ (.slice B nk d)).alloc (.cells #[.string xn,.slice B nk d] 92))=wz at *
    have z0:=kz.c0;have z1:=kz.c1
    refine bodyPost_ret (v:=.tuple #[.agg #[.string xn,.slice B nk d],.bool true]) (by simp[results,Tryz.results140,go_sem,z0,z1]) rfl ⟨sh,.inr ⟨⟨xn,xk⟩,B,d,HQ.out,sp.out,by rw[sy.out],?_⟩⟩
    rw[sy.out]at sB
    exact sB
   ·have sF:(xn.toList == s.toList)=false:=by
     have:xn.toList≠s.toList:=fun e=>he (dX e)
     simpa using this
    have HG:=zN (sA.out he)
    clear he
    go_wp2_with fail
    go_roundw
    case rel=>exact⟨i+1,by omega,by go_num,HG,sC.out.alloc _⟩
    case measure=>simp[intOf];omega
  ·obtain rfl:i=n:=by omega
   have sG:¬(i:Int)<(i:Int):=by omega
   have HQ:=zN (findS_no (ss:=ss) (s:=s) (fun j hj=>H.out j (by have:=HN.out;omega) hj))
   have b0:=se.out.c0;have b1:=se.out.c1;have sD:=se.out.free 0;have sE:=se.out.free 1
   go_wp2_with fail
   have kz:Bk ((W.setCell ⟨w.heap.size,0,none⟩ (.string ⟨#[]⟩)).setCell ⟨w.heap.size,1,none⟩ (.slice none 0 0)) w.heap.size 92 [.string ⟨#[]⟩,.slice none 0 0]:=(se.out.set 0 _).set 1 _
   have sh:Ext w ((W.setCell ⟨w.heap.size,0,none⟩ (.string ⟨#[]⟩)).setCell ⟨w.heap.size,1,none⟩ (.slice none 0 0)):=(HX.out.setCell (p:=⟨w.heap.size,0,none⟩) (jo _) _).setCell (p:=⟨w.heap.size,1,none⟩) (jo _) _
   generalize ((W.setCell ⟨w.heap.size,0,none⟩ (.string ⟨#[]⟩)).setCell ⟨w.heap.size,1,none⟩ (.slice none 0 0))=wz at *
   have z0:=kz.c0;have z1:=kz.c1
   exact bodyPost_ret (v:=.tuple #[.agg #[.string ⟨#[]⟩,.slice none 0 0],.bool false]) (by simp[results,Tryz.results140,go_sem,z0,z1]) rfl ⟨sh,.inl ⟨HQ.out,rfl⟩⟩
end Go.Proofs.YtplldnnnhgnbjaaGreatDoor
