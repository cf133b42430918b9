/- packed -/
import Derived.Test.YtplldnnnhgnbjaaGreatDoorMv04
namespace Go.Proofs.YtplldnnnhgnbjaaGreatDoor
open Go.RowKit Go.Maps
structure RlZ(r:Rl):Prop where
 rel:∀a∈r.ats,a.rel.size≤maxLen
 tms:∀a∈r.ats,TmZ a.terms
 var:∀c∈r.cds,c.var.size≤maxLen
 str:∀c∈r.cds,c.str.size≤maxLen
set_option maxRecDepth 20000 in
set_option maxHeartbeats 3200000 in
theorem ny{F G:Nat→Prop}{w:World}{va vc:Value}{r:Rl}(hA:Ats F w va r.ats)(hC:Sl eL G w vc r.cds)(hz:RlZ r) :
  Calls Tryz.prog 207 #[.agg #[va,vc]] w (Ret (fun x _=>x=.int .i64 (bQ r)) w):=by
 obtain⟨A,c,rfl⟩:=hA.sl
 obtain⟨C,d,rfl⟩:=hC.sl
 obtain⟨n,hn⟩:=sd r.ats.length
 obtain⟨m,hm⟩:=sd r.cds.length
 rw[←hn]at hA ⊢
 rw[←hm]at hC ⊢
 have sr:n=0→bQ r=10:=fun h=>if_pos (jZ (by omega))
 have su:n≠0→¬(n≤8∧m≤8)→bQ r=12:=fun h h1=>(if_neg (fun e=>h (by rw[hn,e];rfl))).trans (if_neg (by rw[←hn,←hm];exact h1))
 have sw:n≠0→n≤8∧m≤8→bQ r=if aA dA r.ats=0 then aA d6 r.cds else aA dA r.ats:=fun h h1=>(if_neg (fun e=>h (by rw[hn,e];rfl))).trans (if_pos (by rw[←hn,←hm];exact h1))
 have HA:=zN hA.at2;have HC:=zN hC;have HN:=zN hn;have HM:=zN hm;have HZ:=zN hz
 clear hn hm hA hC hz
 by_cases h0:n=0
 ·have HE:=zN (sr h0)
  subst h0
  rw[HE.out]
  clear sr su sw
  go_enter Tryz.func207,Tryz.ntmps207
  go_wp2_with fail
  go_ret
  exact Ret.mk ((Ext.refl w).alloc _) rfl
 have sN:((n:Int) == 0)=false:=beq_false_of_ne (by omega)
 have sO : 0<n:=by omega
 by_cases h8:¬(n≤8∧m≤8)
 ·have HE:=zN (su h0 h8)
  rw[HE.out]
  have h9:(8<n)∨(¬8<n∧8<m):=by omega
  clear sr su sw h0 h8
  rcases h9 with h9|⟨h9,h10⟩
  ·have k1:(8:Int)<(n:Int):=by omega
   go_enter Tryz.func207,Tryz.ntmps207
   go_wp2_with fail
   go_ret
   exact Ret.mk ((Ext.refl w).alloc _) rfl
  ·have k1:¬(8:Int)<(n:Int):=by omega
   have k2:(8:Int)<(m:Int):=by omega
   go_enter Tryz.func207,Tryz.ntmps207
   go_wp2_with fail
   go_ret
   exact Ret.mk ((Ext.refl w).alloc _) rfl
 rw[Decidable.not_not]at h8
 have HE:=zN (sw h0 h8)
 obtain⟨sJ,sK⟩:=h8
 have k1:¬(8:Int)<(n:Int):=by omega
 have k2:¬(8:Int)<(m:Int):=by omega
 clear sr su sw h0
 go_enter Tryz.func207,Tryz.ntmps207
 go_wp2_with fail
 have hx:Ext w (w.alloc (.cells #[.slice A n c,.slice C m d] 46)):=(Ext.refl w).alloc _
 have kb:=Bk.new w 46 [.slice A n c,.slice C m d]
 change Bk (w.alloc (.cells #[.slice A n c,.slice C m d] 46)) _ _ _ at kb
 generalize (w.alloc (.cells #[.slice A n c,.slice C m d] 46))=w1 at *
 go_loopw [25] (fun t wr=>∃i:Nat,i≤n∧t=.int .i64 (i:Int)∧Hid (∀j (_:j<i) (_:j<r.ats.length),dA r.ats[j]=0)∧Ext w1 wr) (fun t _=>n-(intOf t).toNat)
 case atStart=>exact⟨0,jn _,rfl,zN (fun j hj=>by omega),Ext.refl _⟩
 case round =>
  obtain⟨i,hi,rfl,H,sB⟩:=hrel
  obtain⟨W,rfl⟩:∃W:World,W=wr:=⟨_,rfl⟩
  have HX:=zN (hx.trans sB);have sG:=zN sB
  by_cases hlt:i<n
  ·have i1:(0:Int)≤(i:Int):=by omega
   have i2:(i:Int)<(n:Int):=by omega
   have sg:i<r.ats.length:=by have:=HN.out;omega
   obtain⟨ad,Bt,dt,rfl,-,d0,d1,d2,hT⟩:=HA.out i sg
   replace d0:=HX.out.cell d0;replace d1:=HX.out.cell d1;replace d2:=HX.out.cell d2
   have se:=fun (V:World) (hV:Ext W V)=>ou (F:=F) (a:=r.ats[i]) (Ts.ext ⟨Bt,dt,rfl,hT.1,hT.2⟩ (HX.out.trans hV)) (HZ.out.tms _ (jf sg)) (HZ.out.rel _ (jf sg))
   have sh:=dQ (f:=dA) sg H.out
   have si:=bT (f:=dA) sg H.out
   obtain⟨x,hx⟩:=sd (r.ats[i])
   rw[←hx]at d0 d1 d2 se sh si
   have sy:=zN sh;have sF:=zN si;have sp:=zN se
   clear sh si se hx hT kb
   go_wp2_with fail
   refine(sp.out _ ((Ext.refl _).alloc _)).mono ?_
   rintro e w2 ⟨y,rfl,he,rfl⟩
   have HF:=zN ((Ext.alloc (Ext.refl W) _).trans he)
   clear d0 d1 d2 he
   by_cases hz0:dA x=0
   ·have HG:=zN (sy.out hz0)
    have sI:=zN hz0
    rw[sI.out]
    clear hz0
    go_wp2_with fail
    go_roundw
    case rel=>exact⟨i+1,by omega,by go_num,HG,sG.out.trans HF.out⟩
    case measure=>simp[intOf];omega
   ·have HR:=zN (sF.out hz0)
    obtain⟨ev,sC⟩:=sd (dA x)
    rw[←sC]at hz0 HR ⊢
    have sP:(ev != 0)=true:=by rw[bne_iff_ne];exact hz0
    have sE:=zN hz0
    clear sC hz0
    go_wp2_with fail
    go_ret
    exact Ret.mk (HX.out.trans HF.out) (bJ (by rw[HE.out,if_neg (by rw[HR.out];exact sE.out),HR.out]))
  ·obtain rfl:i=n:=by omega
   have sL:¬(i:Int)<(i:Int):=by omega
   have HR:=zN (ce (f:=dA) (l:=r.ats) (fun j hj=>H.out j (by have:=HN.out;omega) hj))
   have b1:=(kb.ext sB).c1
   clear kb
   go_wp2_with fail
   go_loopw [38] (fun t wr=>∃k:Nat,k≤m∧t=.int .i64 (k:Int)∧Hid (∀j (_:j<k) (_:j<r.cds.length),d6 r.cds[j]=0)∧Ext W wr) (fun t _=>m-(intOf t).toNat)
   case atStart=>exact⟨0,jn _,rfl,zN (fun j hj=>by omega),Ext.refl _⟩
   case round =>
    obtain⟨k,hk,rfl,H2,sD⟩:=hrel
    have HY:=zN (HX.out.trans sD);have sH:=zN sD
    by_cases hkm:k<m
    ·have j1:(0:Int)≤(k:Int):=by omega
     have j2:(k:Int)<(m:Int):=by omega
     have sg:k<r.cds.length:=by have:=HM.out;omega
     obtain⟨ad,rfl,-,d0,d1,d2,d3,d4⟩:=HC.out.cd sg
     replace d0:=HY.out.cell d0;replace d1:=HY.out.cell d1;replace d2:=HY.out.cell d2;replace d3:=HY.out.cell d3;replace d4:=HY.out.cell d4
     have sh:=dQ (f:=d6) sg H2.out
     have si:=bT (f:=d6) sg H2.out
     have sj:=HZ.out.var _ (jf sg)
     have sx:=HZ.out.str _ (jf sg)
     obtain⟨x,hx⟩:=sd (r.cds[k])
     rw[←hx]at d0 d1 d2 d3 d4 sh si sj sx
     obtain⟨xv,op,kd,it,st⟩:=x
     simp only at d0 d1 d2 d3 d4 sj sx
     have sy:=zN sh
     have HS:Hid (∀m:Int,m≠0→d6 ⟨xv,op,kd,it,st⟩=m→bQ r=m):=zN (fun m hm h=>by rw[HE.out,if_pos HR.out,si (by rw[h];exact hm),h])
     clear sh si hx b1
     by_cases hnm:cO xv=true
     ·have sq:=zN hnm
      by_cases hop : 0≤op∧op≤5
      ·obtain⟨o1,o2⟩:=hop
       have o3:¬op<0:=by omega
       have o4:¬(5:Int)<op:=by omega
       by_cases hb:dY kd it st=true
       ·have HG:=zN (sy.out (show d6 ⟨xv,op,kd,it,st⟩=0 from (if_pos hnm).trans ((if_pos ⟨o1,o2⟩).trans (if_pos hb))))
        have HB:=zN hb
        clear hnm hb
        go_wp2_with fail
        refine(bz xv _ sj).mono ?_
        rintro e w' ⟨rfl,rfl⟩
        rw[sq.out]
        go_wp2_with fail
        refine(cG kd it st _ sx).mono ?_
        rintro e w2 ⟨y,rfl,he,rfl⟩
        rw[HB.out]
        have HF:=zN ((Ext.alloc sH.out _).trans he)
        clear d0 d1 d2 d3 d4 he
        go_wp2_with fail
        go_roundw
        case rel=>exact⟨k+1,by omega,by go_num,HG,HF.out⟩
        case measure=>simp[intOf];omega
       ·have HQ:=zN (HS.out 4 (by decide) (show d6 ⟨xv,op,kd,it,st⟩=4 from (if_pos hnm).trans ((if_pos ⟨o1,o2⟩).trans (if_neg hb))))
        rw[Bool.not_eq_true]at hb
        have HB:=zN hb
        clear hnm hb
        go_wp2_with fail
        refine(bz xv _ sj).mono ?_
        rintro e w' ⟨rfl,rfl⟩
        rw[sq.out]
        go_wp2_with fail
        refine(cG kd it st _ sx).mono ?_
        rintro e w2 ⟨y,rfl,he,rfl⟩
        rw[HB.out]
        have HF:=zN ((Ext.alloc HY.out _).trans he)
        clear d0 d1 d2 d3 d4 he
        go_wp2_with fail
        go_ret
        exact Ret.mk HF.out (bJ HQ.out)
      ·have HQ:=zN (HS.out 2 (by decide) (show d6 ⟨xv,op,kd,it,st⟩=2 from (if_pos hnm).trans (if_neg hop)))
       have sA:op<0∨(¬op<0∧5<op):=by omega
       clear hnm hop
       rcases sA with o1|⟨o1,o2⟩
       all_goals
        go_wp2_with fail
        refine(bz xv _ sj).mono ?_
        rintro e w' ⟨rfl,rfl⟩
        rw[sq.out]
        go_wp2_with fail
        go_ret
        exact Ret.mk (HY.out.alloc _) (bJ HQ.out)
     ·have HQ:=zN (HS.out 7 (by decide) (show d6 ⟨xv,op,kd,it,st⟩=7 from if_neg hnm))
      rw[Bool.not_eq_true]at hnm
      have sq:=zN hnm
      clear hnm
      go_wp2_with fail
      refine(bz xv _ sj).mono ?_
      rintro e w' ⟨rfl,rfl⟩
      rw[sq.out]
      go_wp2_with fail
      go_ret
      exact Ret.mk (HY.out.alloc _) (bJ HQ.out)
    ·obtain rfl:k=m:=by omega
     have sM:¬(k:Int)<(k:Int):=by omega
     have HQ:=zN (ce (f:=d6) (l:=r.cds) (fun j hj=>H2.out j (by have:=HM.out;omega) hj))
     clear b1
     go_wp2_with fail
     go_ret
     exact Ret.mk HY.out (bJ (by rw[HE.out,if_pos HR.out,HQ.out]))
