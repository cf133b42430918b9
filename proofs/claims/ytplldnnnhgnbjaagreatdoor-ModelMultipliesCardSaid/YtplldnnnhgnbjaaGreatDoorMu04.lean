/- packed -/
import Derived.Test.YtplldnnnhgnbjaaGreatDoorMu03
namespace Go.Proofs.YtplldnnnhgnbjaaGreatDoor
open Go.RowKit Go.Maps
structure RlZ(r:Rl):Prop where
 rel:∀a∈r.ats,a.rel.size≤maxLen
 tms:∀a∈r.ats,TmZ a.terms
 var:∀c∈r.cds,c.var.size≤maxLen
 str:∀c∈r.cds,c.str.size≤maxLen
set_option maxRecDepth 20000 in
set_option maxHeartbeats 3200000 in
theorem checkItems_any{F G:Nat→Prop}{w:World}{va vc:Value}{r:Rl}(hA:Ats F w va r.ats)(hC:Sl rdCd G w vc r.cds)(hz:RlZ r) :
  Calls Tryz.prog 207 #[.agg #[va,vc]] w (Ret (fun x _=>x=.int .i64 (itemsE r)) w):=by
 obtain⟨A,c,rfl⟩:=hA.sl
 obtain⟨C,d,rfl⟩:=hC.sl
 obtain⟨n,hn⟩:∃n,n=r.ats.length:=⟨_,rfl⟩
 obtain⟨m,hm⟩:∃m,m=r.cds.length:=⟨_,rfl⟩
 rw[←hn]at hA ⊢
 rw[←hm]at hC ⊢
 have hE0:n=0→itemsE r=10:=fun h=>if_pos (jS (by omega))
 have hE1:n≠0→¬(n≤8∧m≤8)→itemsE r=12:=fun h h1=>(if_neg (fun e=>h (by rw[hn,e];rfl))).trans (if_neg (by rw[←hn,←hm];exact h1))
 have hE2:n≠0→n≤8∧m≤8→itemsE r=if firstE atomE r.ats=0 then firstE condE r.cds else firstE atomE r.ats:=fun h h1=>(if_neg (fun e=>h (by rw[hn,e];rfl))).trans (if_pos (by rw[←hn,←hm];exact h1))
 have HA:=zO hA.at2;have HC:=zO hC;have HN:=zO hn;have HM:=zO hm;have HZ:=zO hz
 clear hn hm hA hC hz
 by_cases h0:n=0
 ·have HE:=zO (hE0 h0)
  subst h0
  rw[HE.out]
  clear hE0 hE1 hE2
  go_enter Tryz.func207,Tryz.ntmps207
  go_wp2_with fail
  go_ret
  exact Ret.mk ((Ext.refl w).alloc _) rfl
 have hn0:((n:Int) == 0)=false:=beq_false_of_ne (by omega)
 have hn1 : 0<n:=by omega
 by_cases h8:¬(n≤8∧m≤8)
 ·have HE:=zO (hE1 h0 h8)
  rw[HE.out]
  have h9:(8<n)∨(¬8<n∧8<m):=by omega
  clear hE0 hE1 hE2 h0 h8
  rcases h9 with h9|⟨h9,h10⟩
  ·have k1:(8:Int)<(n:Int):=by omega
   go_enter Tryz.func207,Tryz.ntmps207
   go_wp2_with fail
   go_ret
   exact Ret.mk ((Ext.refl w).alloc _) rfl
  ·have k1:¬(8:Int)<(n:Int):=by omega
   have k2:(8:Int)<(m:Int):=by omega
   go_enter Tryz.func207,Tryz.ntmps207
   go_wp2_with fail
   go_ret
   exact Ret.mk ((Ext.refl w).alloc _) rfl
 rw[Decidable.not_not]at h8
 have HE:=zO (hE2 h0 h8)
 obtain⟨h8a,h8b⟩:=h8
 have k1:¬(8:Int)<(n:Int):=by omega
 have k2:¬(8:Int)<(m:Int):=by omega
 clear hE0 hE1 hE2 h0
 go_enter Tryz.func207,Tryz.ntmps207
 go_wp2_with fail
 have hx:Ext w (w.alloc (.cells #[.slice A n c,.slice C m d] 46)):=(Ext.refl w).alloc _
 have kb:=Bk.new w 46 [.slice A n c,.slice C m d]
 change Bk (w.alloc (.cells #[.slice A n c,.slice C m d] 46)) _ _ _ at kb
 generalize (w.alloc (.cells #[.slice A n c,.slice C m d] 46))=w1 at *
 go_loopw [25] (fun t wr=>∃i:Nat,i≤n∧t=.int .i64 (i:Int)∧Hid (∀j (_:j<i) (_:j<r.ats.length),atomE r.ats[j]=0)∧Ext w1 wr) (fun t _=>n-(intOf t).toNat)
 case atStart=>exact⟨0,jn _,rfl,zO (fun j hj=>by omega),Ext.refl _⟩
 case round =>
  obtain⟨i,hi,rfl,H,hxr⟩:=hrel
  obtain⟨W,rfl⟩:∃W:World,W=wr:=⟨_,rfl⟩
  have HX:=zO (hx.trans hxr);have HX1:=zO hxr
  by_cases hlt:i<n
  ·have i1:(0:Int)≤(i:Int):=by omega
   have i2:(i:Int)<(n:Int):=by omega
   have hit:i<r.ats.length:=by have:=HN.out;omega
   obtain⟨ad,Bt,dt,rfl,-,d0,d1,d2,hT⟩:=HA.out i hit
   replace d0:=HX.out.cell d0;replace d1:=HX.out.cell d1;replace d2:=HX.out.cell d2
   have hcall:=fun (V:World) (hV:Ext W V)=>checkAtom_any (F:=F) (a:=r.ats[i]) (Ts.ext ⟨Bt,dt,rfl,hT.1,hT.2⟩ (HX.out.trans hV)) (HZ.out.tms _ (jg hit)) (HZ.out.rel _ (jg hit))
   have hgo:=take_ok (f:=atomE) hit H.out
   have hst:=firstE_at (f:=atomE) hit H.out
   obtain⟨x,hx⟩:∃x,x=r.ats[i]:=⟨_,rfl⟩
   rw[←hx]at d0 d1 d2 hcall hgo hst
   have HGO:=zO hgo;have HST:=zO hst;have HCALL:=zO hcall
   clear hgo hst hcall hx hT kb
   go_wp2_with fail
   refine(HCALL.out _ ((Ext.refl _).alloc _)).mono ?_
   rintro e w2 ⟨y,rfl,he,rfl⟩
   have HF:=zO ((Ext.alloc (Ext.refl W) _).trans he)
   clear d0 d1 d2 he
   by_cases hz0:atomE x=0
   ·have HG:=zO (HGO.out hz0)
    have HZ0:=zO hz0
    rw[HZ0.out]
    clear hz0
    go_wp2_with fail
    go_roundw
    case rel=>exact⟨i+1,by omega,by go_num,HG,HX1.out.trans HF.out⟩
    case measure=>simp[intOf];omega
   ·have HR:=zO (HST.out hz0)
    obtain⟨ev,hev⟩:∃ev,ev=atomE x:=⟨_,rfl⟩
    rw[←hev]at hz0 HR ⊢
    have hne:(ev != 0)=true:=by rw[bne_iff_ne];exact hz0
    have HNE:=zO hz0
    clear hev hz0
    go_wp2_with fail
    go_ret
    exact Ret.mk (HX.out.trans HF.out) (ret_i (by rw[HE.out,if_neg (by rw[HR.out];exact HNE.out),HR.out]))
  ·obtain rfl:i=n:=by omega
   have hdi:¬(i:Int)<(i:Int):=by omega
   have HR:=zO (firstE_all (f:=atomE) (l:=r.ats) (fun j hj=>H.out j (by have:=HN.out;omega) hj))
   have b1:=(kb.ext hxr).cell (i:=1) (by simp)
   simp only[ja,je]at b1
   clear kb
   go_wp2_with fail
   go_loopw [38] (fun t wr=>∃k:Nat,k≤m∧t=.int .i64 (k:Int)∧Hid (∀j (_:j<k) (_:j<r.cds.length),condE r.cds[j]=0)∧Ext W wr) (fun t _=>m-(intOf t).toNat)
   case atStart=>exact⟨0,jn _,rfl,zO (fun j hj=>by omega),Ext.refl _⟩
   case round =>
    obtain⟨k,hk,rfl,H2,hxk⟩:=hrel
    have HY:=zO (HX.out.trans hxk);have HY1:=zO hxk
    by_cases hkm:k<m
    ·have j1:(0:Int)≤(k:Int):=by omega
     have j2:(k:Int)<(m:Int):=by omega
     have hit:k<r.cds.length:=by have:=HM.out;omega
     obtain⟨ad,rfl,-,d0,d1,d2,d3,d4⟩:=HC.out.cd hit
     replace d0:=HY.out.cell d0;replace d1:=HY.out.cell d1;replace d2:=HY.out.cell d2;replace d3:=HY.out.cell d3;replace d4:=HY.out.cell d4
     have hgo:=take_ok (f:=condE) hit H2.out
     have hst:=firstE_at (f:=condE) hit H2.out
     have hz1:=HZ.out.var _ (jg hit)
     have hz2:=HZ.out.str _ (jg hit)
     obtain⟨x,hx⟩:∃x,x=r.cds[k]:=⟨_,rfl⟩
     rw[←hx]at d0 d1 d2 d3 d4 hgo hst hz1 hz2
     obtain⟨xv,op,kd,it,st⟩:=x
     simp only at d0 d1 d2 d3 d4 hz1 hz2
     have HGO:=zO hgo
     have HS:Hid (∀m:Int,m≠0→condE ⟨xv,op,kd,it,st⟩=m→itemsE r=m):=zO (fun m hm h=>by rw[HE.out,if_pos HR.out,hst (by rw[h];exact hm),h])
     clear hgo hst hx b1
     by_cases hnm:nameB xv=true
     ·have HNM:=zO hnm
      by_cases hop : 0≤op∧op≤5
      ·obtain⟨o1,o2⟩:=hop
       have o3:¬op<0:=by omega
       have o4:¬(5:Int)<op:=by omega
       by_cases hb:valB kd it st=true
       ·have HG:=zO (HGO.out (show condE ⟨xv,op,kd,it,st⟩=0 from (if_pos hnm).trans ((if_pos ⟨o1,o2⟩).trans (if_pos hb))))
        have HB:=zO hb
        clear hnm hb
        go_wp2_with fail
        refine(valid_any xv _ hz1).mono ?_
        rintro e w' ⟨rfl,rfl⟩
        rw[HNM.out]
        go_wp2_with fail
        refine(vvalid_any kd it st _ hz2).mono ?_
        rintro e w2 ⟨y,rfl,he,rfl⟩
        rw[HB.out]
        have HF:=zO ((Ext.alloc HY1.out _).trans he)
        clear d0 d1 d2 d3 d4 he
        go_wp2_with fail
        go_roundw
        case rel=>exact⟨k+1,by omega,by go_num,HG,HF.out⟩
        case measure=>simp[intOf];omega
       ·have HQ:=zO (HS.out 4 (by decide) (show condE ⟨xv,op,kd,it,st⟩=4 from (if_pos hnm).trans ((if_pos ⟨o1,o2⟩).trans (if_neg hb))))
        rw[Bool.not_eq_true]at hb
        have HB:=zO hb
        clear hnm hb
        go_wp2_with fail
        refine(valid_any xv _ hz1).mono ?_
        rintro e w' ⟨rfl,rfl⟩
        rw[HNM.out]
        go_wp2_with fail
        refine(vvalid_any kd it st _ hz2).mono ?_
        rintro e w2 ⟨y,rfl,he,rfl⟩
        rw[HB.out]
        have HF:=zO ((Ext.alloc HY.out _).trans he)
        clear d0 d1 d2 d3 d4 he
        go_wp2_with fail
        go_ret
        exact Ret.mk HF.out (ret_i HQ.out)
      ·have HQ:=zO (HS.out 2 (by decide) (show condE ⟨xv,op,kd,it,st⟩=2 from (if_pos hnm).trans (if_neg hop)))
       have hop2:op<0∨(¬op<0∧5<op):=by omega
       clear hnm hop
       rcases hop2 with o1|⟨o1,o2⟩
       all_goals
        go_wp2_with fail
        refine(valid_any xv _ hz1).mono ?_
        rintro e w' ⟨rfl,rfl⟩
        rw[HNM.out]
        go_wp2_with fail
        go_ret
        exact Ret.mk (HY.out.alloc _) (ret_i HQ.out)
     ·have HQ:=zO (HS.out 7 (by decide) (show condE ⟨xv,op,kd,it,st⟩=7 from if_neg hnm))
      rw[Bool.not_eq_true]at hnm
      have HNM:=zO hnm
      clear hnm
      go_wp2_with fail
      refine(valid_any xv _ hz1).mono ?_
      rintro e w' ⟨rfl,rfl⟩
      rw[HNM.out]
      go_wp2_with fail
      go_ret
      exact Ret.mk (HY.out.alloc _) (ret_i HQ.out)
    ·obtain rfl:k=m:=by omega
     have hdk:¬(k:Int)<(k:Int):=by omega
     have HQ:=zO (firstE_all (f:=condE) (l:=r.cds) (fun j hj=>H2.out j (by have:=HM.out;omega) hj))
     clear b1
     go_wp2_with fail
     go_ret
     exact Ret.mk HY.out (ret_i (by rw[HE.out,if_pos HR.out,HQ.out]))
