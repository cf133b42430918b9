/- packed -/
import Derived.Test.YtplldnnnhgnbjaaGreatDoorMu17
import Derived.Test.YtplldnnnhgnbjaaGreatDoorMu06
import Derived.Shelf.SlGeneric
import Derived.Shelf.SlIter.Nil
import Derived.Shelf.SortM.Plain
import Derived.Shelf.SortM.SortNone
import Derived.Ground.GgzProg
import Derived.Ground.SlgmProg
import Derived.Test.YtplldnnnhgnbjaaGreatDoorProg
import Derived.Test.YtplldnnnhgnbjaaGreatDoorMu13
namespace Go.Proofs.YtplldnnnhgnbjaaGreatDoor
open Go.RowKit Go.Maps
def idxI(l:List ByteArray)(s:ByteArray):Int:=if s∈l then ((l.findIdx (fun x=>decide (x=s)):Nat):Int) else -1
theorem idxI_at{l:List ByteArray}{s:ByteArray}{i:Nat}(hi:i<l.length)(he:l[i]=s)(hno:∀j (h:j<l.length),j<i→l[j]≠s):idxI l s=(i:Int):=by
 have hm:s∈l:=by rw[←he];exact jg hi
 rw[idxI,if_pos hm,(List.findIdx_eq hi).2 ⟨by simpa using he,fun j hj=>by simpa using hno j (by omega) hj⟩]
def IdxAt(l:List ByteArray)(s:ByteArray)(w:World)(e:Ending)(w':World):Prop:=e=.returned (.int .i64 (idxI l s))∧w=w'
set_option maxRecDepth 20000 in
set_option maxHeartbeats 800000 in
theorem index_at{F:Nat→Prop}{w:World}{v:Value}{l:List ByteArray}{s:ByteArray}(h:Strs F w v l)(hl:l.length≤maxLen) :
    Calls Tryz.prog 59 #[v,.string s] w (IdxAt l s w):=by
  unfold maxLen at hl
  obtain⟨A,c,rfl,hc,hat⟩:=h
  obtain⟨n,hn⟩:∃n,n=l.length:=⟨_,rfl⟩
  rw[←hn]at hc hl ⊢
  have HN:=zO hn;have HAT:=zO hat
  clear hn hat
  go_enter Tryz.func59,Tryz.ntmps59
  go_wp2_with fail
  go_loopw [8] (fun q wr=>∃i:Nat,i≤n∧q=.int .i64 (i:Int)∧(∀j (h:j<l.length),j<i→l[j]≠s)∧wr=w) (fun q _=>n-(intOf q).toNat)
  case atStart=>exact⟨0,jn _,rfl,fun _ _ h=>absurd h (by omega),rfl⟩
  case round =>
    obtain⟨i,hi,rfl,hgo,rfl⟩:=hrel
    have HGO:=zO hgo
    clear hgo
    by_cases hlt:i<n
    · have i1:(0:Int)≤(i:Int):=by omega
      have i2:(i:Int)<(n:Int):=by omega
      have hix:i<l.length:=by have:=HN.out;omega
      obtain⟨ad,rfl,-,c0⟩:=HAT.out.str hix
      by_cases he:l[i]=s
      · have HR:Hid ((i:Int)=idxI l s):=zO (idxI_at hix he (fun j h hj=>HGO.out j h hj)).symm
        rw[he]at c0
        clear he
        go_wp2_with fail
        go_ret
        exact(show IdxAt l s wr (.returned (.int .i64 (i:Int))) wr from ⟨by rw[←HR.out],rfl⟩)
      · have hne:¬s.toList=l[i].toList:=fun e=>he (toList_inj' e).symm
        obtain⟨x,hx⟩:∃x,x=l[i]:=⟨_,rfl⟩
        rw[←hx]at c0 hne
        have hne2:(s.toList == x.toList)=false:=by simp[hne]
        have HE:=zO he
        clear he hx
        go_wp2_with fail
        all_goals first
          | contradiction
          | (go_roundw
             case rel =>
               refine⟨i+1,by omega,by go_num,fun j hj hji=>?_,trivial⟩
               rcases jB j i with h|h
               · exact HGO.out j hj h
               · obtain rfl:j=i:=by omega
                 exact HE.out
             case measure=>simp[intOf];omega)
    · obtain rfl:i=n:=by omega
      have hdn:¬(i:Int)<(i:Int):=by omega
      have HR:Hid (s ∉ l):=zO (fun hm=>by
        obtain⟨j,hj,e⟩:=jv hm
        exact HGO.out j hj (by have:=HN.out;omega) e)
      go_wp2_with fail
      go_ret
      exact(show IdxAt l s wr (.returned (.int .i64 (-1))) wr from ⟨by rw[idxI,if_neg HR.out],rfl⟩)
def colsI(vars head:List ByteArray):List Int:=head.map (idxI vars)
theorem info_i64:(Tryz.prog.info? 3).map (fun i=>(i.zero,i.size,i.bytes))=some (some (.int .i64 0),1,8):=by kernel_rfl
set_option maxRecDepth 20000 in
set_option maxHeartbeats 1600000 in
theorem columns_any{F G:Nat→Prop}{w:World}{A B:Option Addr}{n c m d:Nat}{vars head:List ByteArray}(hV:Strs F w (.slice A n c) vars)(hH:Strs G w (.slice B m d) head)(hn:vars.length≤1000000)(hm:m≤1000000) :
  Calls Tryz.prog 47 #[.slice A n c,.slice B m d] w (Ret (fun x w'=>w'.ownsRow w.heap.size 3 1 x m ((colsI vars head).map I64)) w):=by
 have HV:=zO (fun (V:World) (hX:Ext w V) (s:ByteArray)=>index_at (s:=s) (hV.ext hX) (by unfold maxLen;omega))
 obtain⟨B',d',e,-,hcl⟩:=hH
 injection e with e1 e2 e3
 subst e1
 have HCL:=zO hcl;have HM:=zO e2
 clear hV hcl e2 e3
 obtain⟨i0,hi0,hz0,hz1,hz2⟩:=info_parts info_i64
 have HI0:=zO (And.intro hi0 (And.intro hz0 (And.intro hz1 hz2)));clear hi0 hz0 hz1 hz2
 go_enter Tryz.func47,Tryz.ntmps47
 go_wp2_with fail
 go_loopw [5,10] (fun v q wr=>∃(j:Nat) (P:Option Addr) (cp:Nat),j≤m∧q=.int .i64 (j:Int)∧v=.slice P j cp∧Hid (wr.ownsRow w.heap.size 3 1 (.slice P j cp) j ((colsI vars (head.take j)).map I64))∧Hid (Ext w wr)) (fun _ q _=>m-(intOf q).toNat)
 case atStart=>exact⟨0,none,0,jn _,rfl,rfl,zO (by simpa [colsI] using World.ownsRow_nil _ _ _ _),zO (Ext.refl w)⟩
 case round =>
  obtain⟨j,P,cp,hj,rfl,rfl,HOW,HX⟩:=hrel
  obtain⟨W,rfl⟩:∃W:World,W=wr:=⟨_,rfl⟩
  by_cases hlt:j<m
  ·have i1:(0:Int)≤(j:Int):=by omega
   have i2:(j:Int)<(m:Int):=by omega
   have hjl:j<head.length:=by have:=HM.out;omega
   obtain⟨ad,rfl,-,c0⟩:=HCL.out.str hjl
   replace c0:=HX.out.cell c0
   have htk:(colsI vars (head.take (j+1))).map I64=(colsI vars (head.take j)).map I64++[.int .i64 (idxI vars head[j])]:=by
    unfold colsI
    rw[jj hjl,jI,jI]
    rfl
   obtain⟨s,hs⟩:∃s,s=head[j]:=⟨_,rfl⟩
   rw[←hs]at c0 htk
   obtain⟨r,hr⟩:∃r,r=idxI vars s:=⟨_,rfl⟩
   have HIX:=zO (HV.out W HX.out s)
   unfold IdxAt at HIX
   rw[←hr]at HIX htk
   have HTK:=zO htk
   have hbw:w.heap.size≤W.heap.size:=HX.out.size
   clear hs hr htk hjl
   go_wp2_with fail
   refine HIX.out.mono ?_
   rintro e w2 ⟨rfl,rfl⟩
   clear c0
   go_wp2_with (first|(at_builtin;refine wpList_append_at rfl _ _ 63 rfl w.heap.size 3 i0 (.int .i64 0) 1 8 Tryz.underlying63 HI0.out.1 HI0.out.2.1 HI0.out.2.2.1 HI0.out.2.2.2 rfl (by omega) (.slice P j cp) j ((colsI vars (head.take j)).map I64) rfl (HOW.out.alloc _) ⟨W.heap.size,0,none⟩ 1 1 [.int .i64 r] rfl rfl (laid_news W _ _) (by simp[Value.oneCell']) (by simp only[maxLen];omega) (by omega) (by simp;omega) ?_;intro v3 w3 hr3 hg3 hl3;obtain⟨P3,c3,rfl⟩:=own_slice hr3;have HR3:=zO hr3;have HX3:=zO ((HX.out.alloc _).grown hg3 (fun k hk=>(HOW.out.lt k hk).1));clear hr3 hg3 hl3))
   go_roundw
   case rel=>exact⟨j+1,P3,c3,by omega,by go_num,rfl,zO (by rw[HTK.out];exact HR3.out),HX3⟩
   case measure=>simp[intOf];omega
  ·obtain rfl:j=m:=by omega
   have hdj:¬(j:Int)<(j:Int):=by omega
   have HQ:Hid (W.ownsRow w.heap.size 3 1 (.slice P j cp) j ((colsI vars head).map I64)):=zO (by have h:=HOW.out;rw[jo (by have:=HM.out;omega)]at h;exact h)
   go_wp2_with fail
   go_ret
   exact Ret.mk HX.out HQ.out
end Go.Proofs.YtplldnnnhgnbjaaGreatDoor
namespace Go.Proofs.YtplldnnnhgnbjaaGreatDoor
open Go.RowKit Go.Maps
def rowF(σ : ByteArray→Vl)(ts:List Tm):List Vl:=ts.map (fun t=>if t.var=⟨#[]⟩ then t.vl else σ t.var)
def satF(M:Dm)(r:Rl)(σ : ByteArray→Vl):Prop :=
 (∀a∈r.ats,rowF σ a.terms∈rowsD M a.rel↔a.neg=false)∧∀c∈r.cds,c.var≠⟨#[]⟩∧holdV (σ c.var) c=true
theorem rowF_of{vars:List ByteArray}{y:List Vl}{σ : ByteArray→Vl}{ts:List Tm}(h:∀t∈ts,t.var≠⟨#[]⟩→σ t.var=y.getD (posN vars t.var) zv):rowOf vars y ts=rowF σ ts:=by
 unfold rowOf rowF
 refine jU (fun t ht=>?_)
 by_cases h0:t.var=⟨#[]⟩
 ·rw[if_pos h0,if_pos h0]
 ·rw[if_neg h0,if_neg h0,h t ht h0]
theorem satF_of{M:Dm}{vars:List ByteArray}{r:Rl}{y:List Vl}{σ : ByteArray→Vl}(hs:SafeR vars r)(h:∀s∈vars,σ s=y.getD (posN vars s) zv):satM M vars r y↔satF M r σ:=by
 unfold satM satF
 have h1:∀a∈r.ats,rowOf vars y a.terms=rowF σ a.terms:=fun a ha=>rowF_of (fun t ht h0=>h _ (hs.at' a ha t ht h0))
 constructor
 ·rintro⟨k1,k2⟩
  refine⟨fun a ha=>?_,fun c hc=>⟨(k2 c hc).1,by rw[h _ (hs.cd c hc (k2 c hc).1)];exact(k2 c hc).2⟩⟩
  have:=k1 a ha
  rw[h1 a ha]at this
  rw[←hasR_iff,this]
  cases a.neg <;> simp
 ·rintro⟨k1,k2⟩
  refine⟨fun a ha=>?_,fun c hc=>⟨(k2 c hc).1,by rw[←h _ (hs.cd c hc (k2 c hc).1)];exact(k2 c hc).2⟩⟩
  have:=k1 a ha
  rw[←hasR_iff]at this
  rw[h1 a ha]
  cases hn:a.neg
  ·exact this.2 hn
  ·rcases hh:hasR (rowsD M a.rel) (rowF σ a.terms) with _|_
   ·rfl
   ·rw[this.1 hh]at hn;cases hn
def asgN(vars:List ByteArray)(y:List Vl)(s:ByteArray):Vl:=y.getD (posN vars s) zv
theorem satM_F{M:Dm}{vars:List ByteArray}{r:Rl}{y:List Vl}(hs:SafeR vars r):satM M vars r y↔satF M r (asgN vars y):=satF_of hs (fun _ _=>rfl)
theorem asg_map{vars:List ByteArray}(hn:vars.Nodup){σ : ByteArray→Vl}:∀s∈vars,σ s=(vars.map σ).getD (posN vars s) zv:=fun s hs=>by
 rw[jF,zG,jk (pos_lt hs),pos_at hs]
 rfl
theorem idxI_pos'{l:List ByteArray}{s:ByteArray}(hn:l.Nodup)(h:s∈l):idxI l s=(posN l s:Int):=by
 have h1:=pos_at h
 refine idxI_at (pos_lt h) h1 (fun j hj hlt e=>?_)
 have:=nd_inj hn hj (pos_lt h) (e.trans h1.symm)
 omega
theorem proj_asg{vars head:List ByteArray}(hn:vars.Nodup)(hh:∀s∈head,s∈vars)(y:List Vl):projR (colsI vars head) y=head.map (asgN vars y):=by
 unfold projR colsI
 rw[List.map_map]
 refine jU (fun s hs=>?_)
 simp only[Function.comp]
 rw[idxI_pos' hn (hh s hs),jO]
 rfl
theorem head_rows{M:Dm}{vars head:List ByteArray}{r:Rl}(hs:SafeR vars r)(hh:∀s∈head,s∈vars)(x:List Vl) :
  (∃y:List Vl,y.length=vars.length∧satM M vars r y∧x=projR (colsI vars head) y)↔∃σ,satF M r σ∧x=head.map σ:=by
 constructor
 ·rintro⟨y,-,h1,rfl⟩
  exact⟨asgN vars y,(satM_F hs).1 h1,proj_asg hs.nd hh y⟩
 ·rintro⟨σ,h1,rfl⟩
  refine⟨vars.map σ,by simp,(satF_of hs (asg_map hs.nd)).2 h1,?_⟩
  rw[proj_asg hs.nd hh]
  exact jU (fun s hx=>asg_map hs.nd s (hh s hx))
def ansP(M:Dm)(q:Qy)(x:List Vl):Prop:=∃r∈q.rs,∃σ,satF M r σ∧x=q.hd.map σ
theorem asc_unique{α : Type}{c : α→α→Int}(hirr:∀a,¬c a a<0)(htr:∀a b d,c a b<0→c b d<0→c a d<0):∀{l m:List α},l.Pairwise (fun a b=>c a b<0)→m.Pairwise (fun a b=>c a b<0)→(∀x,x∈l↔x∈m)→l=m
 | [],[],_,_,_=>rfl
 | [],b::m,_,_,h=>absurd ((h b).2 (by simp)) (by simp)
 | a::l,[],_,_,h=>absurd ((h a).1 (by simp)) (by simp)
 | a::l,b::m,hl,hm,h=>by
  rw[zJ]at hl hm
  have hab:a=b:=by
   rcases jC.1 ((h a).1 (by simp)) with e|e1
   ·exact e
   ·rcases jC.1 ((h b).2 (by simp)) with e|e2
    ·exact e.symm
    ·exact absurd (htr _ _ _ (hl.1 b e2) (hm.1 a e1)) (hirr a)
  subst hab
  have ht:l=m:=asc_unique hirr htr hl.2 hm.2 (fun x=>by
   constructor
   ·intro hx
    rcases jC.1 ((h x).1 (jr _ hx)) with rfl|h2
    ·exact absurd (hl.1 x hx) (hirr x)
    ·exact h2
   ·intro hx
    rcases jC.1 ((h x).2 (jr _ hx)) with rfl|h2
    ·exact absurd (hm.1 x hx) (hirr x)
    ·exact h2)
  rw[ht]
end Go.Proofs.YtplldnnnhgnbjaaGreatDoor
namespace Go.Proofs.YtplldnnnhgnbjaaGreatDoor
open Go.RowKit Go.Maps
section
variable {σ α : Type} {f : σ→α→Except Int σ}
theorem runX_cons{a : α}{l:List α}{s : σ}:runX f (a::l) s=match f s a with|.ok s'=>runX f l s'|.error e=>.error e:=rfl
theorem runX_step{R : σ→σ→Prop}(hr:∀s,R s s)(ht:∀s t u,R s t→R t u→R s u):∀{l:List α} {s s' : σ},(∀a∈l,∀t t',f t a=.ok t'→R t t')→runX f l s=.ok s'→R s s'∧∀a∈l,∃t t',f t a=.ok t'∧R s t∧R t' s'
 | [],s,s',_,h=>by
  injection h with h
  subst h
  exact⟨hr _,fun a ha=>by simp at ha⟩
 | a::l,s,s',hs,h=>by
  rw[runX_cons]at h
  rcases hf:f s a with e|t
  ·rw[hf]at h
   cases h
  ·rw[hf]at h
   have h1:=hs a (by simp) s t hf
   have h2:=runX_step hr ht (fun b hb=>hs b (jr _ hb)) h
   refine⟨ht _ _ _ h1 h2.1,fun b hb=>?_⟩
   rcases jC.1 hb with rfl|hb
   ·exact⟨s,t,hf,hr _,h2.1⟩
   ·obtain⟨u,u',k1,k2,k3⟩:=h2.2 b hb
    exact⟨u,u',k1,ht _ _ _ h1 k2,k3⟩
theorem runX_fit{I : σ→Prop}:∀{l:List α} {s : σ},(∀a∈l,∀t,I t→∃t',f t a=.ok t'∧I t')→I s→∃s',runX f l s=.ok s'∧I s'
 | [],s,_,h=>⟨s,rfl,h⟩
 | a::l,s,hs,h=>by
  obtain⟨t,h1,h2⟩:=hs a (by simp) s h
  obtain⟨u,h3,h4⟩:=runX_fit (l:=l) (fun b hb=>hs b (jr _ hb)) h2
  exact⟨u,by rw[runX_cons,h1];exact h3,h4⟩
end
def KmLe(m m':Km):Prop:=∀v k,m v=some k→m' v=some k
def KmFit(κ : ByteArray→Int)(m:Km):Prop:=∀v k,m v=some k→κ v=k
def TyT(κ : ByteArray→Int)(p:Tm×Int):Prop:=(if p.1.var=⟨#[]⟩ then p.1.kind else κ p.1.var)=p.2
def TyA(ss:List Sc)(κ : ByteArray→Int)(a:At):Prop:=∃s,findS ss a.rel=some s∧a.terms.length=s.kinds.length∧∀p∈a.terms.zip s.kinds,TyT κ p
theorem kindT_var{m:Km}{p:Tm×Int}(h0:p.1.var≠⟨#[]⟩):kindT m p=match m p.1.var with|some k=>if k=p.2 then .ok m else .error 5|none=>.ok (updK m p.1.var p.2):=if_neg h0
theorem kindT_cst{m:Km}{p:Tm×Int}(h0:p.1.var=⟨#[]⟩):kindT m p=if p.1.kind=p.2 then .ok m else .error 5:=if_pos h0
theorem kindT_ok{m m':Km}{p:Tm×Int}(h:kindT m p=.ok m'):KmLe m m'∧(if p.1.var=⟨#[]⟩ then p.1.kind=p.2 else m' p.1.var=some p.2):=by
 by_cases h0:p.1.var=⟨#[]⟩
 ·rw[kindT_cst h0]at h
  by_cases h1:p.1.kind=p.2
  ·rw[if_pos h1]at h
   injection h with h
   subst h
   exact⟨fun _ _ h=>h,by rw[if_pos h0];exact h1⟩
  ·rw[if_neg h1]at h
   cases h
 ·rw[kindT_var h0]at h
  rcases hm:m p.1.var with _|k
  ·rw[hm]at h
   injection h with h
   subst h
   refine⟨fun v k hv=>?_,?_⟩
   ·unfold updK
    by_cases e:v=p.1.var
    ·subst e
     rw[hm]at hv
     cases hv
    ·rw[if_neg e]
     exact hv
   ·rw[if_neg h0]
    unfold updK
    rw[if_pos rfl]
  ·rw[hm]at h
   change (if k=p.2 then Except.ok m else Except.error 5)=.ok m' at h
   by_cases h1:k=p.2
   ·rw[if_pos h1]at h
    injection h with h
    subst h
    exact⟨fun _ _ h=>h,by rw[if_neg h0,hm,h1]⟩
   ·rw[if_neg h1]at h
    cases h
theorem kindT_fit{κ : ByteArray→Int}{m:Km}{p:Tm×Int}(hm:KmFit κ m)(hp:TyT κ p):∃m',kindT m p=.ok m'∧KmFit κ m':=by
 unfold TyT at hp
 by_cases h0:p.1.var=⟨#[]⟩
 ·rw[if_pos h0]at hp
  exact⟨m,by rw[kindT_cst h0,if_pos hp],hm⟩
 ·rw[if_neg h0]at hp
  rw[kindT_var h0]
  rcases hk:m p.1.var with _|k
  ·refine⟨_,rfl,fun v k hv=>?_⟩
   unfold updK at hv
   by_cases e:v=p.1.var
   ·rw[if_pos e]at hv
    injection hv with hv
    rw[e,hp,hv]
   ·rw[if_neg e]at hv
    exact hm v k hv
  ·exact⟨m,if_pos (by rw[←hm _ _ hk,hp]),hm⟩
theorem kindA_ok{ss:List Sc}{m m':Km}{a:At}(h:kindA ss m a=.ok m'):KmLe m m'∧∃s,findS ss a.rel=some s∧a.terms.length=s.kinds.length∧∀p∈a.terms.zip s.kinds,if p.1.var=⟨#[]⟩ then p.1.kind=p.2 else m' p.1.var=some p.2:=by
 unfold kindA at h
 rcases hs:findS ss a.rel with _|s
 ·rw[hs]at h
  cases h
 ·rw[hs]at h
  change (if a.terms.length=s.kinds.length then runX kindT (a.terms.zip s.kinds) m else .error 6)=.ok m' at h
  by_cases h1:a.terms.length=s.kinds.length
  ·rw[if_pos h1]at h
   have h2:=runX_step (R:=KmLe) (fun _ _ _ h=>h) (fun _ _ _ h k v x e=>k v x (h v x e)) (fun p _ t t' ht=>(kindT_ok ht).1) h
   refine⟨h2.1,s,by rfl,h1,fun p hp=>?_⟩
   obtain⟨t,t',k1,-,k3⟩:=h2.2 p hp
   have k4:=(kindT_ok k1).2
   by_cases h0:p.1.var=⟨#[]⟩
   ·rw[if_pos h0]at k4 ⊢
    exact k4
   ·rw[if_neg h0]at k4 ⊢
    exact k3 _ _ k4
  ·rw[if_neg h1]at h
   cases h
theorem kindA_fit{ss:List Sc}{κ : ByteArray→Int}{m:Km}{a:At}(hm:KmFit κ m)(ha:TyA ss κ a):∃m',kindA ss m a=.ok m'∧KmFit κ m':=by
 obtain⟨s,h1,h2,h3⟩:=ha
 obtain⟨m',k1,k2⟩:=runX_fit (f:=kindT) (I:=KmFit κ) (l:=a.terms.zip s.kinds) (s:=m) (fun p hp t ht=>kindT_fit ht (h3 p hp)) hm
 exact⟨m',by unfold kindA;rw[h1];show (if a.terms.length=s.kinds.length then runX kindT (a.terms.zip s.kinds) m else .error 6)=_;rw[if_pos h2,k1],k2⟩
def occB(r:Rl)(v:ByteArray):Prop:=∃a∈r.ats,∃t∈a.terms,t.var=v∧v≠⟨#[]⟩
theorem zip_mem{α β : Type}{x : α}:∀{l:List α} {m:List β},l.length=m.length→x∈l→∃y,(x,y)∈l.zip m
 | a::l,b::m,h,hx=>by
  rcases jC.1 hx with rfl|hx
  ·exact⟨b,by simp⟩
  ·obtain⟨y,hy⟩:=zip_mem (l:=l) (m:=m) (by simpa using h) hx
   exact⟨y,by rw[List.zip_cons_cons];exact jr _ hy⟩
 | [],_,_,hx=>by simp at hx
 | _::_,[],h,_=>by simp at h
theorem infer_ok{ss:List Sc}{r:Rl}{m:Km}(h:inferX ss r=.ok m):∀a∈r.ats,∃s,findS ss a.rel=some s∧a.terms.length=s.kinds.length∧∀p∈a.terms.zip s.kinds,if p.1.var=⟨#[]⟩ then p.1.kind=p.2 else m p.1.var=some p.2:=fun a ha=>by
 unfold inferX at h
 have h2:=runX_step (R:=KmLe) (fun _ _ _ h=>h) (fun _ _ _ h k v x e=>k v x (h v x e)) (fun p _ t t' ht=>(kindA_ok ht).1) h
 obtain⟨t,t',k1,-,k3⟩:=h2.2 a ha
 obtain⟨-,s,k4,k5,k6⟩:=kindA_ok k1
 refine⟨s,k4,k5,fun p hp=>?_⟩
 have k7:=k6 p hp
 by_cases h0:p.1.var=⟨#[]⟩
 ·rw[if_pos h0]at k7 ⊢
  exact k7
 ·rw[if_neg h0]at k7 ⊢
  exact k3 _ _ k7
theorem infer_ty{ss:List Sc}{r:Rl}{m:Km}(h:inferX ss r=.ok m):∀a∈r.ats,TyA ss (fun v=>(m v).getD 0) a:=fun a ha=>by
 obtain⟨s,h1,h2,h3⟩:=infer_ok h a ha
 refine⟨s,h1,h2,fun p hp=>?_⟩
 have k7:=h3 p hp
 unfold TyT
 by_cases h0:p.1.var=⟨#[]⟩
 ·rw[if_pos h0]at k7 ⊢
  exact k7
 ·rw[if_neg h0]at k7 ⊢
  simp[k7]
theorem infer_fit{ss:List Sc}{r:Rl}{κ : ByteArray→Int}(h:∀a∈r.ats,TyA ss κ a):∃m,inferX ss r=.ok m∧KmFit κ m∧∀v,occB r v→m v=some (κ v):=by
 obtain⟨m,h1,h2⟩:=runX_fit (f:=kindA ss) (I:=KmFit κ) (l:=r.ats) (s:=fun _=>none) (fun a ha t ht=>kindA_fit ht (h a ha)) (fun v k hv=>by cases hv)
 refine⟨m,h1,h2,?_⟩
 rintro v ⟨a,ha,t,ht,rfl,h0⟩
 obtain⟨s,k1,k2,k3⟩:=infer_ok (r:=r) h1 a ha
 obtain⟨k,hk⟩:=zip_mem k2 ht
 have k4:=k3 _ hk
 rw[if_neg h0]at k4
 rw[k4,h2 _ _ k4]
def TyR(ss:List Sc)(κ : ByteArray→Int)(r:Rl):Prop:=(∀a∈r.ats,TyA ss κ a)∧(∀c∈r.cds,c.kind=κ c.var)∧∀a∈r.ats,a.neg=true→∃b∈r.ats,b.neg=false∧covB a b=true
structure RuleOk(nd:List ByteArray)(r:Rl):Prop where
 ne:r.ats≠[]
 la:r.ats.length≤8
 lc:r.cds.length≤8
 at':∀a∈r.ats,atomE a=0
 cd:∀c∈r.cds,condE c=0
 vs:(varsC r).length≤8
 bd:∀v,v∈nd∨v∈varsC r→boundB r v=true
theorem ruleE_iff{nd:List ByteArray}{r:Rl}:ruleE nd r=0↔RuleOk nd r:=by
 constructor
 ·intro h
  unfold ruleE at h
  by_cases h1:itemsE r=0
  ·rw[if_pos h1]at h
   by_cases h2:(varsC r).length≤8
   ·rw[if_pos h2]at h
    by_cases h3:(nd++varsC r).all (boundB r)=true
    ·have h4:=h1
     unfold itemsE at h4
     by_cases h5:r.ats=[]
     ·rw[if_pos h5]at h4
      cases h4
     ·rw[if_neg h5]at h4
      by_cases h6:r.ats.length≤8∧r.cds.length≤8
      ·rw[if_pos h6]at h4
       by_cases h7:firstE atomE r.ats=0
       ·rw[if_pos h7]at h4
        exact⟨h5,h6.1,h6.2,firstE_zero.1 h7,firstE_zero.1 h4,h2,fun v hv=>jz.1 h3 v (jp.2 hv)⟩
       ·rw[if_neg h7]at h4
        exact absurd h4 h7
      ·rw[if_neg h6]at h4
       cases h4
    ·rw[if_neg h3]at h
     cases h
   ·rw[if_neg h2]at h
    cases h
  ·rw[if_neg h1]at h
   exact absurd h h1
 ·intro h
  have h1:itemsE r=0:=by
   unfold itemsE
   rw[if_neg h.ne,if_pos ⟨h.la,h.lc⟩,if_pos (firstE_zero.2 h.at')]
   exact firstE_zero.2 h.cd
  unfold ruleE
  rw[if_pos h1,if_pos h.vs,if_pos]
  exact jz.2 (fun v hv=>h.bd v (jp.1 hv))
structure AstOk(q:Qy):Prop where
 ne:q.rs≠[]
 l3:q.rs.length≤3∧(q.rs.length≤1∨q.ag=0)
 hd:headE q.hd=0
 ag:aggE q.ag q.av=0
 rs:∀r∈q.rs,RuleOk (needV q.hd q.av) r
 od:orderE q.hd q.od=0
theorem astE_iff{q:Qy}:astE q=0↔AstOk q:=by
 constructor
 ·intro h
  unfold astE at h
  by_cases h1:q.rs=[]
  ·rw[if_pos h1]at h
   cases h
  ·rw[if_neg h1]at h
   by_cases h2:q.rs.length≤3∧(q.rs.length≤1∨q.ag=0)
   ·rw[if_pos h2]at h
    by_cases h3:headE q.hd=0
    ·rw[if_pos h3]at h
     by_cases h4:aggE q.ag q.av=0
     ·rw[if_pos h4]at h
      by_cases h5:firstE (ruleE (needV q.hd q.av)) q.rs=0
      ·rw[if_pos h5]at h
       exact⟨h1,h2,h3,h4,fun r hr=>ruleE_iff.1 (firstE_zero.1 h5 r hr),h⟩
      ·rw[if_neg h5]at h
       exact absurd h h5
     ·rw[if_neg h4]at h
      exact absurd h h4
    ·rw[if_neg h3]at h
     exact absurd h h3
   ·rw[if_neg h2]at h
    cases h
 ·intro h
  unfold astE
  rw[if_neg h.ne,if_pos h.l3,if_pos h.hd,if_pos h.ag,if_pos (firstE_zero.2 (fun r hr=>ruleE_iff.2 (h.rs r hr)))]
  exact h.od
theorem bound_occ{r:Rl}{v:ByteArray}(h:boundB r v=true):occB r v:=by
 unfold boundB at h
 rw[Bool.and_eq_true,decide_eq_true_eq,jL]at h
 obtain⟨h0,t,ht,e⟩:=h
 rw[decide_eq_true_eq]at e
 unfold posT at ht
 obtain⟨a,ha,ht⟩:=zB.1 ht
 by_cases hn:a.neg=true
 ·rw[if_pos hn]at ht
  simp at ht
 ·rw[if_neg hn]at ht
  exact⟨a,ha,t,ht,e,h0⟩
def ChkOk(ss:List Sc)(q:Qy):Prop:=AstOk q∧∃K:ByteArray→Int,∀r∈q.rs,∃κ,TyR ss κ r∧(∀v∈q.hd,κ v=K v)∧(q.ag=2→κ q.av=1)
theorem neg_guard{xs:List At}{a:At}:negE xs a=0↔(a.neg=true→∃b∈xs,b.neg=false∧covB a b=true):=by
 unfold negE
 by_cases hn:a.neg=true
 ·rw[if_pos hn]
  unfold guardI
  by_cases h1:(xs.findIdx? (fun b=>!b.neg && covB a b)).isSome=true
  ·rw[if_pos h1]
   rw[List.findIdx?_isSome,jL]at h1
   obtain⟨b,hb,h2⟩:=h1
   rw[Bool.and_eq_true,Bool.not_eq_true']at h2
   exact⟨fun _ _=>⟨b,hb,h2⟩,fun _=>rfl⟩
  ·rw[if_neg h1]
   refine⟨(fun h=>by cases h),fun h=>?_⟩
   obtain⟨b,hb,h2⟩:=h hn
   refine absurd ?_ h1
   rw[List.findIdx?_isSome,jL]
   exact⟨b,hb,by rw[h2.1,h2.2];rfl⟩
 ·rw[if_neg hn]
  exact⟨fun _ h=>absurd h hn,fun _=>rfl⟩
theorem verify_iff{m:Km}{r:Rl}:verifyE m r=0↔(∀c∈r.cds,c.kind=(m c.var).getD 0)∧∀a∈r.ats,a.neg=true→∃b∈r.ats,b.neg=false∧covB a b=true:=by
 have k:∀c,kindE m c=0↔c.kind=(m c.var).getD 0:=fun c=>by
  unfold kindE
  by_cases h:c.kind=(m c.var).getD 0
  ·rw[if_pos h];exact⟨fun _=>h,fun _=>rfl⟩
  ·rw[if_neg h];exact⟨(fun h=>by cases h),fun e=>absurd e h⟩
 unfold verifyE
 by_cases h1:firstE (kindE m) r.cds=0
 ·rw[if_pos h1,firstE_zero]
  have h2:=firstE_zero.1 h1
  exact⟨fun h=>⟨fun c hc=>(k c).1 (h2 c hc),fun a ha=>neg_guard.1 (h a ha)⟩,fun h a ha=>neg_guard.2 (h.2 a ha)⟩
 ·rw[if_neg h1]
  exact⟨fun h=>absurd h h1,fun h=>absurd (firstE_zero.2 (fun c hc=>(k c).2 (h.1 c hc))) h1⟩
theorem check_ast{ss:List Sc}{q:Qy}(h:checkE ss q=0):AstOk q:=by
 unfold checkE at h
 by_cases h1:astE q=0
 ·exact astE_iff.1 h1
 ·rw[if_neg h1]at h
  exact absurd h h1
theorem kmOf_eq{ss:List Sc}{r:Rl}{m:Km}(h:inferX ss r=.ok m):kmOf ss r=m:=by
 unfold kmOf
 rw[h]
theorem err_ok{ss:List Sc}{r:Rl}(h:errX (inferX ss r)=0)(hz:∀e,inferX ss r=.error e→e≠0):∃m,inferX ss r=.ok m:=by
 rcases hi:inferX ss r with e|m
 ·rw[hi]at h
  exact absurd h (hz e hi)
 ·exact⟨m,rfl⟩
theorem runX_err{σ α : Type}{f : σ→α→Except Int σ}(hf:∀s a e,f s a=.error e→e≠0):∀{l:List α} {s : σ} {e:Int},runX f l s=.error e→e≠0
 | [],_,_,h=>by cases h
 | a::l,s,e,h=>by
  rw[runX_cons]at h
  rcases hk:f s a with e'|t
  ·rw[hk]at h
   injection h with h
   subst h
   exact hf _ _ _ hk
  ·rw[hk]at h
   exact runX_err hf h
theorem kindT_err{m:Km}{p:Tm×Int}{e:Int}(h:kindT m p=.error e):e≠0:=by
 by_cases h0:p.1.var=⟨#[]⟩
 ·rw[kindT_cst h0]at h
  by_cases h1:p.1.kind=p.2
  ·rw[if_pos h1]at h
   cases h
  ·rw[if_neg h1]at h
   injection h with h
   omega
 ·rw[kindT_var h0]at h
  rcases hm:m p.1.var with _|k
  ·rw[hm]at h
   cases h
  ·rw[hm]at h
   change (if k=p.2 then Except.ok m else Except.error 5)=.error e at h
   by_cases h1:k=p.2
   ·rw[if_pos h1]at h
    cases h
   ·rw[if_neg h1]at h
    injection h with h
    omega
theorem infer_err{ss:List Sc}{r:Rl}{e:Int}(h:inferX ss r=.error e):e≠0:=by
 refine runX_err (f:=kindA ss) (fun m a e h=>?_) h
 unfold kindA at h
 rcases hs:findS ss a.rel with _|s
 ·rw[hs]at h
  injection h with h
  omega
 ·rw[hs]at h
  change (if a.terms.length=s.kinds.length then runX kindT (a.terms.zip s.kinds) m else .error 6)=.error e at h
  by_cases h1:a.terms.length=s.kinds.length
  ·rw[if_pos h1]at h
   exact runX_err (fun _ _ _ h=>kindT_err h) h
  ·rw[if_neg h1]at h
   injection h with h
   omega
theorem check_iff{ss:List Sc}{q:Qy}:checkE ss q=0↔ChkOk ss q:=by
 constructor
 ·intro h
  have hA:=check_ast h
  refine⟨hA,?_⟩
  unfold checkE at h
  rw[if_pos (astE_iff.2 hA)]at h
  by_cases h1:firstE (fun r=>errX (inferX ss r)) q.rs=0
  ·rw[if_pos h1]at h
   by_cases h2:firstE (fun r=>verifyE (kmOf ss r) r) q.rs=0
   ·rw[if_pos h2]at h
    by_cases h3:q.rs.all (fun r=>q.hd.all (fun v=>decide ((kmOf ss r v).getD 0=(kmOf ss (q.rs.headD ⟨[],[]⟩) v).getD 0)))=true
    ·rw[if_pos h3]at h
     have h4:q.ag=2→(kmOf ss (q.rs.headD ⟨[],[]⟩) q.av).getD 0=1:=fun e=>by
      by_cases h5:q.ag=2∧(kmOf ss (q.rs.headD ⟨[],[]⟩) q.av).getD 0≠1
      ·rw[if_pos h5]at h
       cases h
      ·exact Decidable.byContradiction (fun k=>h5 ⟨e,k⟩)
     refine⟨fun v=>(kmOf ss (q.rs.headD ⟨[],[]⟩) v).getD 0,fun r hr=>⟨fun v=>(kmOf ss r v).getD 0,?_,fun v hv=>?_,fun e=>?_⟩⟩
     ·obtain⟨m,hm⟩:=err_ok (firstE_zero.1 h1 r hr) (fun e he=>infer_err he)
      have hv:=verify_iff.1 (firstE_zero.1 h2 r hr)
      rw[kmOf_eq hm]at hv ⊢
      exact⟨infer_ty hm,hv.1,hv.2⟩
     ·exact of_decide_eq_true (jz.1 (jz.1 h3 r hr) v hv)
     ·have h5:=h4 e
      have h6:q.rs.length≤1:=by
       rcases hA.l3.2 with h|h
       ·exact h
       ·rw[h]at e
        cases e
      have h7:q.rs.headD ⟨[],[]⟩=r:=by
       rcases hq:q.rs with _|⟨r0,l⟩
       ·rw[hq]at hr
        simp at hr
       ·rw[hq]at hr h6
        have:l=[]:=jS (by simpa using h6)
        subst this
        simp at hr
        exact hr.symm
      rw[h7]at h5
      exact h5
    ·rw[if_neg h3]at h
     cases h
   ·rw[if_neg h2]at h
    exact absurd h h2
  ·rw[if_neg h1]at h
   exact absurd h h1
 ·rintro⟨hA,K,hK⟩
  have hm:∀r∈q.rs,∃m κ,inferX ss r=.ok m∧(∀v,occB r v→m v=some (κ v))∧TyR ss κ r∧(∀v∈q.hd,κ v=K v)∧(q.ag=2→κ q.av=1):=fun r hr=>by
   obtain⟨κ,h1,h2,h3⟩:=hK r hr
   obtain⟨m,k1,-,k3⟩:=infer_fit h1.1
   exact⟨m,κ,k1,k3,h1,h2,h3⟩
  have hhead:∀r∈q.rs,∀v∈q.hd,occB r v:=fun r hr v hv=>bound_occ ((hA.rs r hr).bd v (.inl (by unfold needV;split;exact hv;exact jJ _ hv)))
  have hcdv:∀r∈q.rs,∀c∈r.cds,c.var∈varsC r:=fun r hr c hc=>by
   have h1:=(hA.rs r hr).cd c hc
   have h2:nameB c.var=true:=by
    unfold condE at h1
    by_cases h:nameB c.var=true
    ·exact h
    ·rw[if_neg h]at h1
     cases h1
   rw[varsC_eq,varsT_iff]
   exact⟨cdT c,jR _ (jE.2 ⟨c,hc,rfl⟩),rfl,nameB_ne h2⟩
  have hcd:∀r∈q.rs,∀c∈r.cds,occB r c.var:=fun r hr c hc=>bound_occ ((hA.rs r hr).bd _ (.inr (hcdv r hr c hc)))
  unfold checkE
  rw[if_pos (astE_iff.2 hA),if_pos (firstE_zero.2 (fun r hr=>by obtain⟨m,κ,h1,-⟩:=hm r hr;show errX (inferX ss r)=0;rw[h1];rfl)),if_pos,if_pos,if_neg]
  ·rintro⟨h1,h2⟩
   have hr:q.rs.headD ⟨[],[]⟩∈q.rs:=by
    rcases hq:q.rs with _|⟨r0,l⟩
    ·exact absurd hq hA.ne
    ·simp
   obtain⟨m,κ,k1,k2,-,-,k5⟩:=hm _ hr
   rw[kmOf_eq k1,k2 q.av,Option.getD_some]at h2
   ·exact h2 (k5 h1)
   ·refine bound_occ ((hA.rs _ hr).bd _ (.inl ?_))
    have h6:=hA.ag
    unfold needV
    by_cases h7:q.av=⟨#[]⟩
    ·unfold aggE at h6
     rw[h1,if_neg (by omega),if_pos (by omega),h7,if_neg (by decide)]at h6
     cases h6
    ·rw[if_neg h7]
     simp
  ·refine jz.2 (fun r hr=>jz.2 (fun v hv=>decide_eq_true ?_))
   have hr0:q.rs.headD ⟨[],[]⟩∈q.rs:=by
    rcases hq:q.rs with _|⟨r0,l⟩
    ·exact absurd hq hA.ne
    ·simp
   obtain⟨m,κ,k1,k2,-,k4,-⟩:=hm _ hr
   obtain⟨m0,κ0,j1,j2,-,j4,-⟩:=hm _ hr0
   rw[kmOf_eq k1,kmOf_eq j1,k2 v (hhead _ hr v hv),j2 v (hhead _ hr0 v hv),Option.getD_some,Option.getD_some,k4 v hv,j4 v hv]
  ·refine firstE_zero.2 (fun r hr=>?_)
   obtain⟨m,κ,k1,k2,k3,-,-⟩:=hm _ hr
   show verifyE (kmOf ss r) r=0
   rw[kmOf_eq k1]
   exact verify_iff.2 ⟨fun c hc=>by rw[k2 _ (hcd r hr c hc)];exact k3.2.1 c hc,k3.2.2⟩
end Go.Proofs.YtplldnnnhgnbjaaGreatDoor
namespace Go.Proofs
open Go.Shelf
def Tryz.layKeys_ren:Go.Shelf.Ren:=⟨fun|7=>143|10=>213|n=>n,fun|23=>31|26=>9|3=>181|28=>250|0=>0|27=>249|33=>183|4=>4|n=>n,fun|n=>n⟩
theorem Tryz.layKeys:Go.Proofs.SlLaysZ.n7 Tryz.prog Tryz.layKeys_ren:={
 mixed:=by kernel_rfl
 f7:=⟨Tryz.f143.name,by decide,Tryz.func143.trans (congrArg some (by kernel_rfl))⟩
 f10:=⟨Tryz.f213.name,by decide,Tryz.func213.trans (congrArg some (by kernel_rfl))⟩
 t0:=Tryz.underlying0
 a0:=Tryz.isAgg0
 z0:=Tryz.sizeOf0
 v0:=Tryz.zeroValue0
 t4:=Tryz.underlying4
 a4:=Tryz.isAgg4
 z4:=Tryz.sizeOf4
 v4:=Tryz.zeroValue4
 t23:=Tryz.underlying31
 a23:=Tryz.isAgg31
 z23:=Tryz.sizeOf31
 v23:=Tryz.zeroValue31
 t26:=Tryz.underlying9
 a26:=Tryz.isAgg9
 z26:=Tryz.sizeOf9
 v26:=Tryz.zeroValue9
 t27:=Tryz.underlying249
 a27:=Tryz.isAgg249
 z27:=Tryz.sizeOf249
 v27:=Tryz.zeroValue249
 t28:=Tryz.underlying250
 a28:=Tryz.isAgg250
 z28:=Tryz.sizeOf250
 v28:=Tryz.zeroValue250
 t33:=Tryz.underlying183
 a33:=Tryz.isAgg183
 z33:=Tryz.sizeOf183
 v33:=Tryz.zeroValue183 }
def Tryz.laySorted_ren:Go.Shelf.Ren:=⟨fun|6=>142|8=>211|9=>212|11=>253|13=>123|12=>254|23=>196|24=>197|14=>278|15=>279|16=>280|17=>281|18=>282|19=>283|20=>284|21=>285|22=>286|25=>301|26=>242|27=>243|28=>302|29=>303|30=>304|31=>307|n=>n,fun|26=>9|28=>250|24=>24|0=>0|3=>3|37=>166|48=>165|50=>87|4=>4|40=>296|39=>295|45=>245|5=>5|9=>9|51=>341|55=>345|57=>373|58=>374|33=>183|n=>n,fun|n=>n⟩
theorem Tryz.laySorted:Go.Proofs.SlLaysZ.n6 Tryz.prog Tryz.laySorted_ren:={
 mixed:=by kernel_rfl
 f6:=⟨Tryz.f142.name,by decide,Tryz.func142.trans (congrArg some (by kernel_rfl))⟩
 f8:=⟨Tryz.f211.name,by decide,Tryz.func211.trans (congrArg some (by kernel_rfl))⟩
 f11:=⟨Tryz.f253.name,by decide,Tryz.func253.trans (congrArg some (by kernel_rfl))⟩
 t0:=Tryz.underlying0
 a0:=Tryz.isAgg0
 z0:=Tryz.sizeOf0
 v0:=Tryz.zeroValue0
 t24:=Tryz.underlying24
 a24:=Tryz.isAgg24
 z24:=Tryz.sizeOf24
 v24:=Tryz.zeroValue24
 t26:=Tryz.underlying9
 a26:=Tryz.isAgg9
 z26:=Tryz.sizeOf9
 v26:=Tryz.zeroValue9
 t28:=Tryz.underlying250
 a28:=Tryz.isAgg250
 z28:=Tryz.sizeOf250
 v28:=Tryz.zeroValue250
 i26:=by kernel_rfl }
def Tryz.laySortS_ren:Go.Shelf.Ren:=⟨fun|6=>212|8=>123|9=>254|19=>196|20=>197|21=>278|22=>279|23=>280|24=>281|25=>282|26=>283|27=>284|28=>285|29=>286|36=>301|31=>242|32=>243|37=>302|38=>303|39=>304|41=>307|n=>n,fun|27=>24|29=>9|3=>3|32=>166|26=>24|0=>0|44=>165|46=>87|4=>4|36=>296|35=>295|41=>245|5=>5|9=>9|53=>341|57=>345|63=>373|64=>374|n=>n,fun|n=>n⟩
theorem Tryz.laySortS:Go.Proofs.SlLaysM.n6 Tryz.prog Tryz.laySortS_ren:={
 mixed:=by kernel_rfl
 f6:=⟨Tryz.f212.name,by decide,Tryz.func212.trans (congrArg some (by kernel_rfl))⟩
 f8:=Tryz.func123.trans (congrArg some (by kernel_rfl))
 f9:=⟨Tryz.f254.name,by decide,Tryz.func254.trans (congrArg some (by kernel_rfl))⟩
 f19:=Tryz.func196.trans (congrArg some (by kernel_rfl))
 f20:=Tryz.func197.trans (congrArg some (by kernel_rfl))
 f21:=⟨Tryz.f278.name,by decide,Tryz.func278.trans (congrArg some (by kernel_rfl))⟩
 f22:=⟨Tryz.f279.name,by decide,Tryz.func279.trans (congrArg some (by kernel_rfl))⟩
 f23:=⟨Tryz.f280.name,by decide,Tryz.func280.trans (congrArg some (by kernel_rfl))⟩
 f24:=⟨Tryz.f281.name,by decide,Tryz.func281.trans (congrArg some (by kernel_rfl))⟩
 f25:=⟨Tryz.f282.name,by decide,Tryz.func282.trans (congrArg some (by kernel_rfl))⟩
 f26:=⟨Tryz.f283.name,by decide,Tryz.func283.trans (congrArg some (by kernel_rfl))⟩
 f27:=⟨Tryz.f284.name,by decide,Tryz.func284.trans (congrArg some (by kernel_rfl))⟩
 f28:=⟨Tryz.f285.name,by decide,Tryz.func285.trans (congrArg some (by kernel_rfl))⟩
 f29:=⟨Tryz.f286.name,by decide,Tryz.func286.trans (congrArg some (by kernel_rfl))⟩
 f31:=Tryz.func242.trans (congrArg some (by kernel_rfl))
 f32:=Tryz.func243.trans (congrArg some (by kernel_rfl))
 f36:=⟨Tryz.f301.name,by decide,Tryz.func301.trans (congrArg some (by kernel_rfl))⟩
 f37:=⟨Tryz.f302.name,by decide,Tryz.func302.trans (congrArg some (by kernel_rfl))⟩
 f38:=⟨Tryz.f303.name,by decide,Tryz.func303.trans (congrArg some (by kernel_rfl))⟩
 f39:=⟨Tryz.f304.name,by decide,Tryz.func304.trans (congrArg some (by kernel_rfl))⟩
 f41:=⟨Tryz.f307.name,by decide,Tryz.func307.trans (congrArg some (by kernel_rfl))⟩
 t0:=Tryz.underlying0
 a0:=Tryz.isAgg0
 z0:=Tryz.sizeOf0
 v0:=Tryz.zeroValue0
 t3:=Tryz.underlying3
 a3:=Tryz.isAgg3
 z3:=Tryz.sizeOf3
 v3:=Tryz.zeroValue3
 t4:=Tryz.underlying4
 a4:=Tryz.isAgg4
 z4:=Tryz.sizeOf4
 v4:=Tryz.zeroValue4
 t5:=Tryz.underlying5
 a5:=Tryz.isAgg5
 z5:=Tryz.sizeOf5
 v5:=Tryz.zeroValue5
 t9:=Tryz.underlying9
 a9:=Tryz.isAgg9
 z9:=Tryz.sizeOf9
 v9:=Tryz.zeroValue9
 t26:=Tryz.underlying24
 a26:=Tryz.isAgg24
 z26:=Tryz.sizeOf24
 v26:=Tryz.zeroValue24
 t27:=Tryz.underlying24
 a27:=Tryz.isAgg24
 z27:=Tryz.sizeOf24
 v27:=Tryz.zeroValue24
 t29:=Tryz.underlying9
 a29:=Tryz.isAgg9
 z29:=Tryz.sizeOf9
 v29:=Tryz.zeroValue9
 t32:=Tryz.underlying166
 a32:=Tryz.isAgg166
 z32:=Tryz.sizeOf166
 v32:=Tryz.zeroValue166
 t35:=Tryz.underlying295
 a35:=Tryz.isAgg295
 z35:=Tryz.sizeOf295
 v35:=Tryz.zeroValue295
 t36:=Tryz.underlying296
 a36:=Tryz.isAgg296
 z36:=Tryz.sizeOf296
 v36:=Tryz.zeroValue296
 t41:=Tryz.underlying245
 a41:=Tryz.isAgg245
 z41:=Tryz.sizeOf245
 v41:=Tryz.zeroValue245
 t44:=Tryz.underlying165
 a44:=Tryz.isAgg165
 z44:=Tryz.sizeOf165
 v44:=Tryz.zeroValue165
 t46:=Tryz.underlying87
 a46:=Tryz.isAgg87
 z46:=Tryz.sizeOf87
 v46:=Tryz.zeroValue87
 t53:=Tryz.underlying341
 a53:=Tryz.isAgg341
 z53:=Tryz.sizeOf341
 v53:=Tryz.zeroValue341
 t57:=Tryz.underlying345
 a57:=Tryz.isAgg345
 z57:=Tryz.sizeOf345
 v57:=Tryz.zeroValue345
 t63:=Tryz.underlying373
 a63:=Tryz.isAgg373
 z63:=Tryz.sizeOf373
 v63:=Tryz.zeroValue373
 t64:=Tryz.underlying374
 a64:=Tryz.isAgg374
 z64:=Tryz.sizeOf374
 v64:=Tryz.zeroValue374 }
end Go.Proofs
namespace Go.Proofs.YtplldnnnhgnbjaaGreatDoor
open Go.RowKit Go.Maps Go.Sort Go.Shelf
theorem sorts_s(m:Nat):AnyZ.SortsIn Tryz.prog Tryz.laySorted_ren Fence.wide m :=
  ⟨fun blk off cap ss W hH hblk hsz=>callsIn_wide.2 (AnyM.slices_Sort_string Tryz.laySortS blk off cap ss W hH hblk hsz),
   fun p cap W=>callsIn_wide.2 (AnyM.slices_Sort_string_none Tryz.laySortS p cap W)⟩
theorem maps_keys(mb:Option Nat)(W:World):CallsIn Fence.wide 5 Tryz.prog 143 #[.map mb] W fun e w'=>e=.returned (.func (.func 213) #[] #[.pointer (some ⟨W.heap.size,0,none⟩)])∧w'=W.alloc (.cells #[.map mb] 31) :=
 AnyZ.keys_in Tryz.layKeys Fence.wide 5 trivial rfl mb W
set_option maxHeartbeats 1000000 in
theorem sorted_keys{H:Type}(b nn:Nat)(D0:DataW H)(R:Value→Option (DataW H×List MemPlace))(w:World)(hown:w.ownsMap Tryz.prog 9 R b nn D0)(hmax:Maps.size D0≤maxLen)(hbytes:Maps.size D0*16≤140737488355328) :
  CallsIn Fence.wide 5 Tryz.prog 142 #[.func (.func 213) #[] #[.pointer (some ⟨w.heap.size,0,none⟩)]] (w.alloc (.cells #[.map (some b)] 31)) fun e w'=>∃(v:Value) (ss:List (List UInt8)),e=.returned v∧ss.Perm (strKeys D0) ∧
   w'.ownsRow (w.alloc (.cells #[.map (some b)] 31)).heap.size 9 1 v ss.length ((ss.mergeSort (fun x y=>decide (x≤y))).map encStr)∧(v=.slice none 0 0↔ss=[])∧Below (w.alloc (.cells #[.map (some b)] 31)).heap.size (w.alloc (.cells #[.map (some b)] 31)) w':=by
 have hbl:=hown.lt
 have hseq:SeqGives Fence.wide 2 Tryz.prog 213 #[.pointer (some ⟨w.heap.size,0,none⟩)] encStr (fun ss=>ss.Perm (strKeys D0)) (Maps.size D0) (w.alloc (.cells #[.map (some b)] 31)) :=
  AnyZ.keys_gives (ρ:=Tryz.layKeys_ren) { Tryz.layKeys with } Fence.wide _ trivial rfl (by omega) w.heap.size b nn D0 _ (by simp) (by simp) (by
   obtain⟨es,clock,hb,Ft,hs,hD⟩:=hown
   exact⟨es,clock,(Below.heap_alloc _ _ b hbl).trans hb,Ft,hs,hD⟩)
 exact AnyZ.sorted_in Tryz.laySorted Fence.wide 5 trivial trivial trivial trivial rfl (by omega) (sorts_s _) (enters_of Tryz.func212 (by kernel_rfl) rfl) 213 #[.pointer (some ⟨w.heap.size,0,none⟩)] trivial (enters_of Tryz.func213 (by kernel_rfl) rfl) _ _ hmax hbytes _ hseq
theorem key_mem{w:World}{b n:Nat}{D:DataW Value}(h:w.ownsMap Tryz.prog 9 Rv b n D){x:List UInt8}:x∈strKeys D↔Maps.has D (.string x)=true:=by
 obtain⟨es,rfl,hk⟩:=h.keysOf
 have hk2:∀p∈es,∃x,p.1=.string x:=fun p hp=>by
  obtain⟨v,hv⟩:=hk p hp
  obtain⟨y,-,e,-⟩:=Maps.keyOf_str Tryz.underlying9 hv
  exact⟨y,e⟩
 rw[Maps.has_eq,jL]
 show x∈es.map (fun p=>strOf p.1)↔_
 rw[jE]
 constructor
 ·rintro⟨p,hp',rfl⟩
  obtain⟨a,ha⟩:=hk2 p hp'
  exact⟨p,hp',by rw[ha];simp[Lit.sameKey,strOf]⟩
 ·rintro⟨p,hp',hs⟩
  obtain⟨a,ha⟩:=hk2 p hp'
  rw[ha]at hs
  exact⟨p,hp',by rw[ha];simpa [Lit.sameKey,strOf] using hs⟩
theorem key_nodup{w:World}{b n:Nat}{D:DataW Value}(h:w.ownsMap Tryz.prog 9 Rv b n D)(ht:Tidy D):(strKeys D).Nodup:=by
 obtain⟨es,rfl,hk⟩:=h.keysOf
 obtain⟨es',e,hp⟩:=ht
 injection e with e
 subst e
 show (es.map fun p=>strOf p.1).Nodup
 refine List.pairwise_map.2 (hp.imp_of_mem fun {p q} hp' hq' hne e=>hne ?_)
 obtain⟨v,hv⟩:=hk p hp'
 obtain⟨a,-,ha,-⟩:=Maps.keyOf_str Tryz.underlying9 hv
 obtain⟨v2,hv2⟩:=hk q hq'
 obtain⟨b',-,hb,-⟩:=Maps.keyOf_str Tryz.underlying9 hv2
 rw[ha,hb]at e ⊢
 exact congrArg _ e
theorem key_len{w:World}{b n:Nat}{D:DataW Value}(h:w.ownsMap Tryz.prog 9 Rv b n D):(strKeys D).length=Maps.size D∧Maps.size D≤n:=by
 have h1:=h.size_le
 obtain⟨es,rfl,hk⟩:=h.keysOf
 exact⟨by show (es.map _).length=es.length;simp,h1⟩
def NamesV(m:Dm)(n:Nat)(w:World)(x:Value)(w':World):Prop:=∃(B:Nat) (l:List ByteArray),w.heap.size≤B∧w'.ownsRow B 9 1 x l.length (l.map Sv)∧l.Nodup∧l.length≤n∧∀s,s∈l↔(m s).isSome=true
set_option maxRecDepth 20000 in
set_option maxHeartbeats 1600000 in
theorem names_any{F:Nat→Prop}{w:World}{b n:Nat}{m:Dm}(hD:DbB F w b n m)(hn:n≤1000000) :
  Calls Tryz.prog 66 #[.agg #[.map (some b)]] w (Ret (NamesV m n w) w):=by
 obtain⟨f,⟨D,h1,h2,h3,h4⟩,hm⟩:=hD
 obtain⟨hl1,hl2⟩:=key_len h1
 have hw1:(w.alloc (.cells #[.map (some b)] 33)).ownsMap Tryz.prog 9 Rv b n D:=by
  have hbl:=h1.lt
  obtain⟨es,clock,hb,Ft,hs,hD⟩:=h1
  exact⟨es,clock,(Below.heap_alloc _ _ b hbl).trans hb,Ft,hs,hD⟩
 have HSK:=zO (sorted_keys b n D Rv (w.alloc (.cells #[.map (some b)] 33)) hw1 (by unfold maxLen;omega) (by omega))
 have HMEM:=zO (fun (s:ByteArray)=>(show s.data.toList∈strKeys D↔(m s).isSome=true from by
  rw[key_mem h1,h4 s]
  rcases hm s with ⟨k1,k2⟩|⟨e,u,k1,k2,-⟩
  ·rw[k1,k2]
   simp
  ·rw[k1,k2]
   simp))
 have HND:=zO (key_nodup h1 h2)
 have HLEN:=zO (And.intro hl1 hl2)
 clear h1 h2 h3 h4 hm hl1 hl2 hw1
 go_enter Tryz.func66,Tryz.ntmps66
 go_upto_region 1 with fail
 have kb:=Bk.new w 33 [.map (some b)]
 change Bk (w.alloc (.cells #[.map (some b)] 33)) _ _ _ at kb
 have hx1:Ext w (w.alloc (.cells #[.map (some b)] 33)):=(Ext.refl w).alloc _
 generalize (w.alloc (.cells #[.map (some b)] 33))=w1 at *
 have b0:=kb.cell (i:=0) (by simp)
 simp only[ja]at b0
 have HX1:=zO hx1
 clear kb hx1
 go_wp2_with fail
 refine(callsIn_wide.1 (maps_keys (some b) w1)).mono ?_
 rintro e w2 ⟨rfl,hw2⟩
 have HW2:=zO hw2
 clear b0 hw2
 go_wp2_with fail
 have hc:=callsIn_wide.1 HSK.out
 rw[←HW2.out]at hc
 refine hc.mono ?_
 rintro e w3 ⟨v,ss,rfl,hp,hrow,-,hb⟩
 have hx2:Ext w1 w2:=by rw[HW2.out];exact(Ext.refl w1).alloc _
 have HX3:=zO (HX1.out.trans (hx2.trans hb))
 have HQ:Hid (NamesV m n w v w3):=zO (by
  have hpm:=(List.mergeSort_perm ss (fun x y=>decide (x≤y))).trans hp
  refine⟨w2.heap.size,(ss.mergeSort (fun x y=>decide (x≤y))).map (fun x=>⟨x.toArray⟩),(HX1.out.trans hx2).size,?_,?_,?_,fun s=>?_⟩
  ·rw[jm,List.length_mergeSort,List.map_map]
   exact hrow
  ·refine List.pairwise_map.2 ((hpm.nodup_iff.2 HND.out).imp (fun {a b} hne e=>hne ?_))
   have:=congrArg (fun z:ByteArray=>z.data.toList) e
   simpa using this
  ·rw[jm,hpm.length_eq]
   have:=HLEN.out
   omega
  ·rw[←HMEM.out s,jE]
   constructor
   ·rintro⟨x,hx,rfl⟩
    simpa using hpm.mem_iff.1 hx
   ·intro h
    exact⟨s.data.toList,hpm.mem_iff.2 h,by simp⟩)
 clear hc hp hrow hb hx2
 go_wp2_with fail
 go_ret
 exact Ret.mk HX3.out HQ.out
end Go.Proofs.YtplldnnnhgnbjaaGreatDoor
