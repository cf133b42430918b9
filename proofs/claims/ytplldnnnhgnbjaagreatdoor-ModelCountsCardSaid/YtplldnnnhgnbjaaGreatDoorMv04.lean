/- packed -/
import Derived.Test.YtplldnnnhgnbjaaGreatDoorMv03
namespace Go.Proofs.YtplldnnnhgnbjaaGreatDoor
open Go.RowKit Go.Maps
theorem dQ{α : Type}{f : α→Int}{l:List α}{i:Nat}(hi:i<l.length)(h:∀j (_:j<i) (_:j<l.length),f l[j]=0)(h1:f l[i]=0):∀j (_:j<i+1) (_:j<l.length),f l[j]=0:=fun j hj hl=>by
 rcases jz j i with h2|h2
 ·exact h j h2 hl
 ·have:j=i:=by omega
  subst this;exact h1
theorem bJ{a b:Int}{k:IntKind}(h:a=b):Value.int k b=.int k a:=by rw[h]
theorem str_nil{s:ByteArray}(h:s=⟨#[]⟩):s.toList=[]:=by rw[h,ByteArray.toList_eq]
theorem rV{s:ByteArray}(h:¬s=⟨#[]⟩):¬s.toList=[]:=fun e=>h ((toList_nil_iff_emptyBytes s).1 e)
def TmZ(ts:List Tm):Prop:=∀t∈ts,t.var.size≤maxLen∧t.str.size≤maxLen
set_option maxRecDepth 20000 in
set_option maxHeartbeats 1600000 in
theorem ou{F:Nat→Prop}{w:World}{v:Value}{a:At}(hT:Ts F w v a.terms)(hz:TmZ a.terms)(hr:a.rel.size≤maxLen) :
  Calls Tryz.prog 251 #[.agg #[.bool a.neg,.string a.rel,v]] w (Ret (fun x _=>x=.int .i64 (dA a)) w):=by
 obtain⟨ng,rl,ts⟩:=a
 simp only at hT hz hr ⊢
 obtain⟨A,c,rfl,hc,sx⟩:=hT
 obtain⟨n,hn⟩:=sd ts.length
 rw[←hn]at hc ⊢
 have HN:=zN hn;have sB:=zN sx;have HZ:=zN hz
 clear hn sx hz
 by_cases h1:¬cO rl=true
 ·have HE:=zN (show dA ⟨ng,rl,ts⟩=7 from if_neg h1)
  rw[HE.out]
  rw[Bool.not_eq_true]at h1
  have H1:=zN h1;clear h1
  go_enter Tryz.func251,Tryz.ntmps251
  go_wp2_with fail
  refine(bz rl _ hr).mono ?_
  rintro e w' ⟨rfl,rfl⟩
  rw[H1.out]
  go_wp2_with fail
  go_ret
  exact Ret.mk ((Ext.refl w).alloc _) rfl
 rw[Decidable.not_not]at h1
 by_cases h6:¬n≤6
 ·have HE:=zN (show dA ⟨ng,rl,ts⟩=12 from (if_pos h1).trans (if_neg (by show ¬ts.length≤6;rw[←HN.out];exact h6)))
  rw[HE.out]
  have H1:=zN h1;clear h1
  have h7:(6:Int)<(n:Int):=by omega
  go_enter Tryz.func251,Tryz.ntmps251
  go_wp2_with fail
  refine(bz rl _ hr).mono ?_
  rintro e w' ⟨rfl,rfl⟩
  rw[H1.out]
  go_wp2_with fail
  go_ret
  exact Ret.mk ((Ext.refl w).alloc _) rfl
 have h7:¬(6:Int)<(n:Int):=by omega
 have HE:=zN (show dA ⟨ng,rl,ts⟩=aA fe ts from (if_pos h1).trans (if_pos (by show ts.length≤6;rw[←HN.out];omega)))
 rw[HE.out]
 have H1:=zN h1;clear h1
 go_enter Tryz.func251,Tryz.ntmps251
 go_wp2_with fail
 refine(bz rl _ hr).mono ?_
 rintro e w' ⟨rfl,rfl⟩
 rw[H1.out]
 go_wp2_with fail
 have hx:Ext w (w.alloc (.cells #[.bool ng,.string rl,.slice A n c] 49)):=(Ext.refl w).alloc _
 generalize (w.alloc (.cells #[.bool ng,.string rl,.slice A n c] 49))=w1 at *
 go_loopw [16] (fun t wr=>∃i:Nat,i≤n∧t=.int .i64 (i:Int)∧Hid (∀j (_:j<i) (_:j<ts.length),fe ts[j]=0)∧Ext w1 wr) (fun t _=>n-(intOf t).toNat)
 case atStart=>exact⟨0,jn _,rfl,zN (fun j hj=>by omega),Ext.refl _⟩
 case round =>
  obtain⟨i,hi,rfl,H,sy⟩:=hrel
  obtain⟨W,rfl⟩:∃W:World,W=wr:=⟨_,rfl⟩
  have HX:=zN (hx.trans sy);have su:=zN sy
  by_cases hlt:i<n
  ·have i1:(0:Int)≤(i:Int):=by omega
   have i2:(i:Int)<(n:Int):=by omega
   have sh:i<ts.length:=by have:=HN.out;omega
   obtain⟨ad,rfl,-,d0,d1,d2,d3⟩:=sB.out.term sh
   replace d0:=HX.out.cell d0;replace d1:=HX.out.cell d1;replace d2:=HX.out.cell d2;replace d3:=HX.out.cell d3
   have si:=dQ (f:=fe) sh H.out
   have sj:=bT (f:=fe) sh H.out
   have sq:=HZ.out _ (jf sh)
   obtain⟨x,hx⟩:=sd (ts[i])
   rw[←hx]at d0 d1 d2 d3 si sj sq
   obtain⟨xv,kd,it,st⟩:=x
   simp only at d0 d1 d2 d3 sq
   have sr:=zN si;have sC:=zN sj
   obtain⟨sp,sA⟩:=sq
   clear si sj hx
   have sg:∀m:Int,m≠0→fe ⟨xv,kd,it,st⟩=m→aA fe ts=m:=fun m hm h=>by rw[sC.out (by rw[h];exact hm),h]
   have HS:=zN sg
   clear sg
   by_cases hv:xv=⟨#[]⟩
   ·have sD:=gw hv
    by_cases hb:dY kd it st=true
    ·have HG:=zN (sr.out (show fe ⟨xv,kd,it,st⟩=0 from (if_pos hv).trans (if_pos hb)))
     have HB:=zN hb
     clear hv hb
     go_wp2_with fail
     refine(cG kd it st _ sA).mono ?_
     rintro e w2 ⟨y,rfl,he,rfl⟩
     rw[HB.out]
     have HF:=zN ((su.out.alloc _).trans he)
     clear d0 d1 d2 d3 he
     go_wp2_with fail
     go_roundw
     case rel=>exact⟨i+1,by omega,by go_num,HG,HF.out⟩
     case measure=>simp[intOf];omega
    ·have HR:=zN (HS.out 4 (by decide) (show fe ⟨xv,kd,it,st⟩=4 from (if_pos hv).trans (if_neg hb)))
     rw[Bool.not_eq_true]at hb
     have HB:=zN hb
     clear hv hb
     go_wp2_with fail
     refine(cG kd it st _ sA).mono ?_
     rintro e w2 ⟨y,rfl,he,rfl⟩
     rw[HB.out]
     have HF:=zN ((HX.out.alloc _).trans he)
     clear d0 d1 d2 d3 he
     go_wp2_with fail
     go_ret
     exact Ret.mk HF.out (bJ HR.out)
   ·have sD:=gy hv
    by_cases hnm:cO xv=true
    ·by_cases h0:kd=0∧it=0∧st=⟨#[]⟩
     ·have HG:=zN (sr.out (show fe ⟨xv,kd,it,st⟩=0 from (if_neg hv).trans ((if_pos hnm).trans (if_pos h0))))
      have se:=zN hnm
      obtain⟨rfl,rfl,sw⟩:=h0
      have sF:=str_nil sw
      clear hnm hv sw
      go_wp2_with fail
      refine(bz xv _ sp).mono ?_
      rintro e w' ⟨rfl,rfl⟩
      rw[se.out]
      go_wp2_with fail
      go_roundw
      case rel=>exact⟨i+1,by omega,by go_num,HG,su.out.alloc _⟩
      case measure=>simp[intOf];omega
     ·have HR:=zN (HS.out 1 (by decide) (show fe ⟨xv,kd,it,st⟩=1 from (if_neg hv).trans ((if_pos hnm).trans (if_neg h0))))
      have se:=zN hnm
      clear hnm hv
      have h3:¬kd=0∨(kd=0∧¬it=0)∨(kd=0∧it=0∧¬st=⟨#[]⟩):=by
       by_cases e1:kd=0
       ·by_cases e2:it=0
        ·exact .inr (.inr ⟨e1,e2,fun e3=>h0 ⟨e1,e2,e3⟩⟩)
        ·exact .inr (.inl ⟨e1,e2⟩)
       ·exact .inl e1
      clear h0
      rcases h3 with h3|⟨rfl,h3⟩|⟨rfl,rfl,h3⟩
      all_goals
       try replace h3:=rV h3
       go_wp2_with fail
       refine(bz xv _ sp).mono ?_
       rintro e w' ⟨rfl,rfl⟩
       rw[se.out]
       go_wp2_with fail
       go_ret
       exact Ret.mk (HX.out.alloc _) (bJ HR.out)
    ·have HR:=zN (HS.out 7 (by decide) (show fe ⟨xv,kd,it,st⟩=7 from (if_neg hv).trans (if_neg hnm)))
     rw[Bool.not_eq_true]at hnm
     have se:=zN hnm
     clear hnm hv
     go_wp2_with fail
     refine(bz xv _ sp).mono ?_
     rintro e w' ⟨rfl,rfl⟩
     rw[se.out]
     go_wp2_with fail
     go_ret
     exact Ret.mk (HX.out.alloc _) (bJ HR.out)
  ·obtain rfl:i=n:=by omega
   have sE:¬(i:Int)<(i:Int):=by omega
   have HR:=zN (ce (f:=fe) (l:=ts) (fun j hj=>H.out j (by have:=HN.out;omega) hj))
   go_wp2_with fail
   go_ret
   exact Ret.mk HX.out (bJ HR.out)
