/- packed -/
import Derived.Test.YtplldnnnhgnbjaaGreatDoorMv11
import Derived.Test.YtplldnnnhgnbjaaGreatDoorMv12
import Derived.Test.YtplldnnnhgnbjaaGreatDoorMv07
import Derived.Laws.StructEq
namespace Go.Proofs.YtplldnnnhgnbjaaGreatDoor
open Go.RowKit Go.Maps
def posN:List ByteArray→ByteArray→Nat
 | [],_=>0
 | a::l,s=>if a=s then 0 else posN l s+1
structure Vl where
 kind:Int
 int:Int
 str:ByteArray
def Vl.cells(v:Vl):List Value:=[.int .i64 v.kind,.int .i64 v.int,.string v.str]
def aM:Rdg Vl:=d8 Vl.cells 3 (fun _=>rfl)
def au(l:List Vl):List Value:=l.flatMap Vl.cells
theorem og(l:List Vl):(au l).length=l.length*3:=by
 induction l with
 | nil=>rfl
 | cons a l ih=>simp[au,Vl.cells]at ih ⊢;omega
theorem vcells_app(l:List Vl)(v:Vl):au (l++[v])=au l++v.cells:=by simp[au]
def Tm.vl(t:Tm):Vl:=⟨t.kind,t.int,t.str⟩
theorem Rw.of_flat{α : Type}{cells : α→List Value}{sz:Nat}{hl:∀x,(cells x).length=sz}{w:World}{base n:Nat}{E:TypeId}{v:Value}{l:List α}(h:w.ownsRow base E sz v n (l.flatMap cells)):Rw (d8 cells sz hl) w base E v n l (l.map cells) :=
 ⟨by simp,by rw[←List.flatMap_def];exact h,fun i hi h'=>by simp[d8]⟩
theorem nN{w:World}{b1 b2 s1 s2 n1 n2 k:Nat}{e1 e2:TypeId}{v1 v2:Value}{si sj:List Value}(h1:w.ownsRow b1 e1 s1 v1 n1 si)(h2:w.ownsRow b2 e2 s2 v2 n2 sj)(he:e1≠e2)(hk:v1.ownBlock=some k):v2.ownBlock≠some k:=by
 rcases h1.2 with ⟨rfl,_⟩|⟨g,cap,sp,rfl,_,hb,_⟩
 ·simp[Value.ownBlock]at hk
 ·rcases h2.2 with ⟨rfl,_⟩|⟨g',sg,sh,rfl,_,se,_⟩
  ·simp[Value.ownBlock]
  ·simp[Value.ownBlock]at hk ⊢
   rintro rfl
   subst hk
   rw[hb]at se
   injection se with se;injection se with _ se
   exact he se
theorem ic:(Tryz.prog.info? 51).map (fun i=>(i.zero,i.size,i.bytes))=some (some (.agg #[.int .i64 0,.int .i64 0,.string ⟨#[]⟩]),3,32):=by kernel_rfl
theorem bR{l:List ByteArray}{s:ByteArray}(h:s∈l):posN l s<l.length:=by
 induction l with
 | nil=>simp at h
 | cons a l ih =>
  show (if a=s then 0 else posN l s+1)<_
  by_cases h1:a=s
  ·rw[if_pos h1];simp
  ·rw[if_neg h1]
   have:=ih (by rcases jB.1 h with e|e;exact absurd e.symm h1;exact e)
   simp;omega
theorem lT{l:List ByteArray}{s:ByteArray}(h:s∈l):l[posN l s]'(bR h)=s:=by
 induction l with
 | nil=>simp at h
 | cons a l ih =>
  by_cases h1:a=s
  ·have e:posN (a::l) s=0:=if_pos h1
   simp only[e,ja]
   exact h1
  ·have e:posN (a::l) s=posN l s+1:=if_neg h1
   simp only[e,je]
   exact ih (by rcases jB.1 h with e|e;exact absurd e.symm h1;exact e)
theorem str_eq{a b:ByteArray}(h:a=b):(a.toList == b.toList)=true:=by rw[h];simp
theorem str_ne{a b:ByteArray}(h:a≠b):(a.toList == b.toList)=false:=by
 have:a.toList≠b.toList:=fun e=>h (dX e)
 simpa using this
theorem eqn_int(d:Nat)(w:World)(a b:Int):(Op.equalIn (d+1) 3 (.int .i64 a) (.int .i64 b)).run Tryz.prog w=.ok (a == b) w:=by
 simp[Op.equalIn,run_underlying Tryz.underlying3]
theorem eqn_str(d:Nat)(w:World)(a b:ByteArray):(Op.equalIn (d+1) 9 (.string a) (.string b)).run Tryz.prog w=.ok (a == b) w:=by
 simp[Op.equalIn,run_underlying Tryz.underlying9]
theorem eqn_val(d':Nat)(w:World)(a c:Int)(b d:Int)(s t:ByteArray):(Op.equalIn (d'+2) 51 (.agg #[.int .i64 a,.int .i64 b,.string s]) (.agg #[.int .i64 c,.int .i64 d,.string t])).run Tryz.prog w=.ok ((a == c) && ((b == d) && (s == t))) w:=by
 have hu:=Tryz.underlying51
 rw[run_equalIn_struct w (d'+1) _ _ _ (by simp[Program.fieldsOf,hu]) (by kernel_rfl)]
 simp only[Program.fieldsOf,hu]
 have e1:∀(x y:Int),(Op.equalIn (d'+1) 3 (.int .i64 x) (.int .i64 y)).run Tryz.prog w=.ok (x == y) w:=fun x y=>eqn_int d' w x y
 have e2:∀(x y:Int),(Op.equalIn (d'+1) 2 (.int .i64 x) (.int .i64 y)).run Tryz.prog w=.ok (x == y) w:=fun x y=>by
  simp[Op.equalIn,run_underlying Tryz.underlying2]
 have e3:∀(x y:ByteArray),(Op.equalIn (d'+1) 9 (.string x) (.string y)).run Tryz.prog w=.ok (x == y) w:=fun x y=>eqn_str d' w x y
 rcases h:(a == c) with _|_ <;> rcases h2:(b == d) with _|_ <;> rcases h3:(s == t) with _|_ <;>
  simp[Op.eqFields,part,isAgg,run_underlying Tryz.underlying3,run_underlying Tryz.underlying2,run_underlying Tryz.underlying9,e1,e2,e3,h,h2,h3]
theorem eq_val(w:World)(a c:Int)(b d:Int)(s t:ByteArray):(Op.equalIn 10000 51 (.agg #[.int .i64 a,.int .i64 b,.string s]) (.agg #[.int .i64 c,.int .i64 d,.string t])).run Tryz.prog w=.ok ((a == c) && ((b == d) && (s == t))) w:=eqn_val 9998 w a c b d s t
theorem Sl.vl{F:Nat→Prop}{w:World}{A:Option Addr}{n c:Nat}{xs:List Vl}(h:Sl aM F w (.slice A n c) xs){i:Nat}(hi:i<xs.length):∃ad,A=some ad∧F ad.block∧w.cell? (ad.add (i*3))=some (.int .i64 xs[i].kind)∧w.cell? ⟨(ad.add (i*3)).block,(ad.add (i*3)).off+1,none⟩=some (.int .i64 xs[i].int)∧w.cell? ⟨(ad.add (i*3)).block,(ad.add (i*3)).off+2,none⟩=some (.string xs[i].str):=by
 obtain⟨ad,cs,h1,h2,h3,h4,h5⟩:=h.at hi
 have e:cs=Vl.cells xs[i]:=h3
 subst e
 exact⟨ad,h1,h2,h4 (by simp[Vl.cells]),h5 0 (by simp[Vl.cells]),h5 1 (by simp[Vl.cells])⟩
def aG:Rdg (List Vl) where
 sz:=1
 R:=fun F w cs x=>∃u,cs=[u]∧Sl aM F w u x
 len:=fun ⟨_,e,_⟩=>by rw[e];rfl
 fr:=fun ⟨u,e,h⟩ hf hs=>⟨u,e,h.fr hf hs⟩
 mono:=fun ⟨u,e,h⟩ hs=>⟨u,e,h.mono (by decide) hs⟩
structure Re where
 ar:Int
 rows:List (List Vl)
structure En where
 kinds:List Int
 rel:Re
def EnV(F:Nat→Prop)(w:World)(v:Value)(e:En):Prop:=∃u y,v=.agg #[u,.int .i64 e.rel.ar,y]∧Ins F w u e.kinds∧(∀n c,y=.slice none n c→c=0)∧Sl aG F w y e.rel.rows
section
variable {F G S:Nat→Prop} {w w':World} {v:Value}
theorem EnV.fr{r:En}(h:EnV F w v r)(hf:Fr S w w')(hs:∀k,F k→¬S k):EnV F w' v r:=let ⟨u,y,e,h1,hn,h2⟩:=h;⟨u,y,e,h1.fr hf hs,hn,h2.fr hf hs⟩
theorem EnV.ext{r:En}(h:EnV F w v r)(he:Ext w w'):EnV F w' v r:=let ⟨u,y,e,h1,hn,h2⟩:=h;⟨u,y,e,h1.ext he,hn,h2.ext he⟩
theorem EnV.mono{r:En}(h:EnV F w v r)(hs:∀k,k<w.heap.size→F k→G k):EnV G w v r:=let ⟨u,y,e,h1,hn,h2⟩:=h;⟨u,y,e,h1.mono hs,hn,h2.mono (by decide) hs⟩
end
abbrev Dm:=ByteArray→Option En
def DbB(F:Nat→Prop)(w:World)(b n:Nat)(m:Dm):Prop :=
 ∃f:ByteArray→Option Value,aI w b n f∧∀s,(m s=none∧f s=none)∨∃e u,m s=some e∧f s=some u∧EnV F w u e
section
variable {F G S:Nat→Prop} {w w':World} {b n:Nat} {m:Dm}
theorem DbB.fr(h:DbB F w b n m)(hf:Fr S w w')(hb:¬S b)(hs:∀k,F k→¬S k):DbB F w' b n m:=by
 obtain⟨f,h1,h2⟩:=h
 refine⟨f,h1.fr hf hb,fun s=>?_⟩
 rcases h2 s with h|⟨e,u,h3,h4,h5⟩
 ·exact .inl h
 ·exact .inr ⟨e,u,h3,h4,h5.fr hf hs⟩
theorem DbB.ext(h:DbB F w b n m)(he:Ext w w'):DbB F w' b n m:=h.fr (he.fr (fun _=>False)) (fun h=>h) (fun _ _ h=>h)
theorem DbB.mono(h:DbB F w b n m)(hs:∀k,k<w.heap.size→F k→G k):DbB G w b n m:=by
 obtain⟨f,h1,h2⟩:=h
 refine⟨f,h1,fun s=>?_⟩
 rcases h2 s with h|⟨e,u,h3,h4,h5⟩
 ·exact .inl h
 ·exact .inr ⟨e,u,h3,h4,h5.mono hs⟩
theorem DbB.made(F:Nat→Prop)(w:World):DbB F (w.alloc (.map #[] 0)) w.heap.size 0 (fun _=>none):=⟨_,aI.made w,fun _=>.inl ⟨rfl,rfl⟩⟩
theorem DbB.lt(h:DbB F w b n m):b<w.heap.size:=let ⟨_,h,_⟩:=h;h.lt
end
def ly(m:Dm)(s:ByteArray)(e:En):Dm:=fun t=>if t=s then some e else m t
theorem DbB.put{F:Nat→Prop}{w w':World}{b n:Nat}{m:Dm}{f:ByteArray→Option Value}{s:ByteArray}{e:En}{u:Value}(h2:∀s,(m s=none∧f s=none)∨∃e u,m s=some e∧f s=some u∧EnV F w u e)(hM:aI w' b (n+1) (cI f s (some u)))(hg:w.grownBy w' (some b))(hF:∀k,F k→k≠b)(he:EnV F w u e):DbB F w' b (n+1) (ly m s e):=by
 have hf:=am hg
 have hs:∀k,F k→¬some b=some k:=fun k hk h=>hF k hk (by injection h with h;exact h.symm)
 refine⟨_,hM,fun t=>?_⟩
 unfold ly cI
 by_cases ht:t=s
 ·exact .inr ⟨e,u,by rw[if_pos ht],by rw[if_pos ht],he.fr hf hs⟩
 ·rw[if_neg ht,if_neg ht]
  rcases h2 t with h|⟨e',u',h3,h4,h5⟩
  ·exact .inl h
  ·exact .inr ⟨e',u',h3,h4,h5.fr hf hs⟩
def dmL(ss:List Sc):Dm:=fun s=>(cm ss s).map (fun x=>⟨x.kinds,⟨(x.kinds.length:Int),[]⟩⟩)
theorem dmL_app{ss:List Sc}{x:Sc}(h:cm ss x.name=none):dmL (ss++[x])=ly (dmL ss) x.name ⟨x.kinds,⟨(x.kinds.length:Int),[]⟩⟩:=by
 funext t
 unfold dmL ly cm at *
 rw[List.find?_append]
 by_cases ht:t=x.name
 ·subst ht
  rw[h,if_pos rfl]
  simp
 ·rw[if_neg ht]
  cases hf:ss.find? (fun y=>decide (y.name=t)) with
  | some y=>simp[hf]
  | none =>
   have:¬x.name=t:=fun e=>ht e.symm
   simp[this,hf]
deriving instance DecidableEq for Vl
