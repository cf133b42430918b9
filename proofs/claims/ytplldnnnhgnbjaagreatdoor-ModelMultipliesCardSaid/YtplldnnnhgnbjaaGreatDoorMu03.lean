/- packed -/
import Derived.Test.YtplldnnnhgnbjaaGreatDoorMu02
namespace Go.Proofs.YtplldnnnhgnbjaaGreatDoor
open Go.RowKit Go.Maps
theorem take_ok{α : Type}{f : α→Int}{l:List α}{i:Nat}(hi:i<l.length)(h:∀j (_:j<i) (_:j<l.length),f l[j]=0)(h1:f l[i]=0):∀j (_:j<i+1) (_:j<l.length),f l[j]=0:=fun j hj hl=>by
 rcases jB j i with h2|h2
 ·exact h j h2 hl
 ·have:j=i:=by omega
  subst this;exact h1
theorem ret_i{a b:Int}{k:IntKind}(h:a=b):Value.int k b=.int k a:=by rw[h]
theorem str_nil{s:ByteArray}(h:s=⟨#[]⟩):s.toList=[]:=by rw[h,ByteArray.toList_eq]
theorem str_nnil{s:ByteArray}(h:¬s=⟨#[]⟩):¬s.toList=[]:=fun e=>h ((toList_nil_iff_emptyBytes s).1 e)
def TmZ(ts:List Tm):Prop:=∀t∈ts,t.var.size≤maxLen∧t.str.size≤maxLen
set_option maxRecDepth 20000 in
set_option maxHeartbeats 1600000 in
theorem checkAtom_any{F:Nat→Prop}{w:World}{v:Value}{a:At}(hT:Ts F w v a.terms)(hz:TmZ a.terms)(hr:a.rel.size≤maxLen) :
  Calls Tryz.prog 251 #[.agg #[.bool a.neg,.string a.rel,v]] w (Ret (fun x _=>x=.int .i64 (atomE a)) w):=by
 obtain⟨ng,rl,ts⟩:=a
 simp only at hT hz hr ⊢
 obtain⟨A,c,rfl,hc,hcl⟩:=hT
 obtain⟨n,hn⟩:∃n,n=ts.length:=⟨_,rfl⟩
 rw[←hn]at hc ⊢
 have HN:=zO hn;have HCL:=zO hcl;have HZ:=zO hz
 clear hn hcl hz
 by_cases h1:¬nameB rl=true
 ·have HE:=zO (show atomE ⟨ng,rl,ts⟩=7 from if_neg h1)
  rw[HE.out]
  rw[Bool.not_eq_true]at h1
  have H1:=zO h1;clear h1
  go_enter Tryz.func251,Tryz.ntmps251
  go_wp2_with fail
  refine(valid_any rl _ hr).mono ?_
  rintro e w' ⟨rfl,rfl⟩
  rw[H1.out]
  go_wp2_with fail
  go_ret
  exact Ret.mk ((Ext.refl w).alloc _) rfl
 rw[Decidable.not_not]at h1
 by_cases h6:¬n≤6
 ·have HE:=zO (show atomE ⟨ng,rl,ts⟩=12 from (if_pos h1).trans (if_neg (by show ¬ts.length≤6;rw[←HN.out];exact h6)))
  rw[HE.out]
  have H1:=zO h1;clear h1
  have h7:(6:Int)<(n:Int):=by omega
  go_enter Tryz.func251,Tryz.ntmps251
  go_wp2_with fail
  refine(valid_any rl _ hr).mono ?_
  rintro e w' ⟨rfl,rfl⟩
  rw[H1.out]
  go_wp2_with fail
  go_ret
  exact Ret.mk ((Ext.refl w).alloc _) rfl
 have h7:¬(6:Int)<(n:Int):=by omega
 have HE:=zO (show atomE ⟨ng,rl,ts⟩=firstE termE ts from (if_pos h1).trans (if_pos (by show ts.length≤6;rw[←HN.out];omega)))
 rw[HE.out]
 have H1:=zO h1;clear h1
 go_enter Tryz.func251,Tryz.ntmps251
 go_wp2_with fail
 refine(valid_any rl _ hr).mono ?_
 rintro e w' ⟨rfl,rfl⟩
 rw[H1.out]
 go_wp2_with fail
 have hx:Ext w (w.alloc (.cells #[.bool ng,.string rl,.slice A n c] 49)):=(Ext.refl w).alloc _
 generalize (w.alloc (.cells #[.bool ng,.string rl,.slice A n c] 49))=w1 at *
 go_loopw [16] (fun t wr=>∃i:Nat,i≤n∧t=.int .i64 (i:Int)∧Hid (∀j (_:j<i) (_:j<ts.length),termE ts[j]=0)∧Ext w1 wr) (fun t _=>n-(intOf t).toNat)
 case atStart=>exact⟨0,jn _,rfl,zO (fun j hj=>by omega),Ext.refl _⟩
 case round =>
  obtain⟨i,hi,rfl,H,hxr⟩:=hrel
  obtain⟨W,rfl⟩:∃W:World,W=wr:=⟨_,rfl⟩
  have HX:=zO (hx.trans hxr);have HX1:=zO hxr
  by_cases hlt:i<n
  ·have i1:(0:Int)≤(i:Int):=by omega
   have i2:(i:Int)<(n:Int):=by omega
   have hit:i<ts.length:=by have:=HN.out;omega
   obtain⟨ad,rfl,-,d0,d1,d2,d3⟩:=HCL.out.term hit
   replace d0:=HX.out.cell d0;replace d1:=HX.out.cell d1;replace d2:=HX.out.cell d2;replace d3:=HX.out.cell d3
   have hgo:=take_ok (f:=termE) hit H.out
   have hst:=firstE_at (f:=termE) hit H.out
   have hzt:=HZ.out _ (jg hit)
   obtain⟨x,hx⟩:∃x,x=ts[i]:=⟨_,rfl⟩
   rw[←hx]at d0 d1 d2 d3 hgo hst hzt
   obtain⟨xv,kd,it,st⟩:=x
   simp only at d0 d1 d2 d3 hzt
   have HGO:=zO hgo;have HST:=zO hst
   obtain⟨hz1,hz2⟩:=hzt
   clear hgo hst hx
   have hst4:∀m:Int,m≠0→termE ⟨xv,kd,it,st⟩=m→firstE termE ts=m:=fun m hm h=>by rw[HST.out (by rw[h];exact hm),h]
   have HS:=zO hst4
   clear hst4
   by_cases hv:xv=⟨#[]⟩
   ·have hve:=var_eq hv
    by_cases hb:valB kd it st=true
    ·have HG:=zO (HGO.out (show termE ⟨xv,kd,it,st⟩=0 from (if_pos hv).trans (if_pos hb)))
     have HB:=zO hb
     clear hv hb
     go_wp2_with fail
     refine(vvalid_any kd it st _ hz2).mono ?_
     rintro e w2 ⟨y,rfl,he,rfl⟩
     rw[HB.out]
     have HF:=zO ((HX1.out.alloc _).trans he)
     clear d0 d1 d2 d3 he
     go_wp2_with fail
     go_roundw
     case rel=>exact⟨i+1,by omega,by go_num,HG,HF.out⟩
     case measure=>simp[intOf];omega
    ·have HR:=zO (HS.out 4 (by decide) (show termE ⟨xv,kd,it,st⟩=4 from (if_pos hv).trans (if_neg hb)))
     rw[Bool.not_eq_true]at hb
     have HB:=zO hb
     clear hv hb
     go_wp2_with fail
     refine(vvalid_any kd it st _ hz2).mono ?_
     rintro e w2 ⟨y,rfl,he,rfl⟩
     rw[HB.out]
     have HF:=zO ((HX.out.alloc _).trans he)
     clear d0 d1 d2 d3 he
     go_wp2_with fail
     go_ret
     exact Ret.mk HF.out (ret_i HR.out)
   ·have hve:=var_ne hv
    by_cases hnm:nameB xv=true
    ·by_cases h0:kd=0∧it=0∧st=⟨#[]⟩
     ·have HG:=zO (HGO.out (show termE ⟨xv,kd,it,st⟩=0 from (if_neg hv).trans ((if_pos hnm).trans (if_pos h0))))
      have HNM:=zO hnm
      obtain⟨rfl,rfl,h03⟩:=h0
      have hs0:=str_nil h03
      clear hnm hv h03
      go_wp2_with fail
      refine(valid_any xv _ hz1).mono ?_
      rintro e w' ⟨rfl,rfl⟩
      rw[HNM.out]
      go_wp2_with fail
      go_roundw
      case rel=>exact⟨i+1,by omega,by go_num,HG,HX1.out.alloc _⟩
      case measure=>simp[intOf];omega
     ·have HR:=zO (HS.out 1 (by decide) (show termE ⟨xv,kd,it,st⟩=1 from (if_neg hv).trans ((if_pos hnm).trans (if_neg h0))))
      have HNM:=zO hnm
      clear hnm hv
      have h3:¬kd=0∨(kd=0∧¬it=0)∨(kd=0∧it=0∧¬st=⟨#[]⟩):=by
       by_cases e1:kd=0
       ·by_cases e2:it=0
        ·exact .inr (.inr ⟨e1,e2,fun e3=>h0 ⟨e1,e2,e3⟩⟩)
        ·exact .inr (.inl ⟨e1,e2⟩)
       ·exact .inl e1
      clear h0
      rcases h3 with h3|⟨rfl,h3⟩|⟨rfl,rfl,h3⟩
      all_goals
       try replace h3:=str_nnil h3
       go_wp2_with fail
       refine(valid_any xv _ hz1).mono ?_
       rintro e w' ⟨rfl,rfl⟩
       rw[HNM.out]
       go_wp2_with fail
       go_ret
       exact Ret.mk (HX.out.alloc _) (ret_i HR.out)
    ·have HR:=zO (HS.out 7 (by decide) (show termE ⟨xv,kd,it,st⟩=7 from (if_neg hv).trans (if_neg hnm)))
     rw[Bool.not_eq_true]at hnm
     have HNM:=zO hnm
     clear hnm hv
     go_wp2_with fail
     refine(valid_any xv _ hz1).mono ?_
     rintro e w' ⟨rfl,rfl⟩
     rw[HNM.out]
     go_wp2_with fail
     go_ret
     exact Ret.mk (HX.out.alloc _) (ret_i HR.out)
  ·obtain rfl:i=n:=by omega
   have hdi:¬(i:Int)<(i:Int):=by omega
   have HR:=zO (firstE_all (f:=termE) (l:=ts) (fun j hj=>H.out j (by have:=HN.out;omega) hj))
   go_wp2_with fail
   go_ret
   exact Ret.mk HX.out (ret_i HR.out)
