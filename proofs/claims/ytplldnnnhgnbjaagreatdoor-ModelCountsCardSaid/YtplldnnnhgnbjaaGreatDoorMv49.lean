/- packed -/
import Derived.Test.YtplldnnnhgnbjaaGreatDoorMv42
import Derived.Test.YtplldnnnhgnbjaaGreatDoorRows
import Derived.ProofKit
import Derived.OpenShut
import Derived.Deep.Slices
import Derived.Deep.Fields
import Derived.Deep.DeepHandedRow
import Derived.SizedLaws
import Derived.Lib.SmallJoins
import Derived.ChangeMaps5
namespace Go.Proofs.YtplldnnnhgnbjaaGreatDoor
open Go.RowKit Go.Maps
open Go.ChangeShapes Go.WideShapes Go.ChangeAt Go.RowKit Go.Joins Go.Deep
theorem own:ownKnob Tryz.prog.godebug=none:=by kernel_rfl
theorem pZ:laidOutB Tryz.prog=true:=by kernel_rfl
abbrev U1:Nat→Prop:=fun _=>True
theorem pickL{α : Type}{p:Nat→α→Prop}:∀n:Nat,(∀i,i<n→∃a,p i a)→∃l:List α,l.length=n∧∀i (hi:i<l.length),p i l[i]
 | 0,_=>⟨[],rfl,fun i hi=>by simp at hi⟩
 | n+1,h=>by
  obtain⟨l,h1,h2⟩:=pickL n (fun i hi=>h i (by omega))
  obtain⟨a,ha⟩:=h n (by omega)
  refine⟨l++[a],by simp[h1],fun i hi=>?_⟩
  rcases jz i l.length with h3|h3
  ·rw[jw h3];exact h2 i h3
  ·have:i=n:=by simp at hi;omega
   subst this
   rw[jv h3]
   simpa [h1] using ha
theorem cells_at{W:World}{cs:List Value}{a:Addr}{n:Nat}(h:W.cells? 0 a n=some cs){j:Nat}(hj:j<n):W.cell? (a.add j)=cs[j]?:=(World.cells?_some h).2.2 j hj
section
variable {H:Type} {enc:TypeId×Value→H} {W:World} {base:Nat}
theorem dD{α : Type}(r:Rdg α){t e:TypeId}(ht:Tryz.prog.underlying t=some (.slice e))(hC:Tryz.prog.cellsOf e=r.sz)(Good : α→Prop)(sj:∀{fuel:Nat} {cs:List Value} {x:DataW H×List MemPlace},DataW.trod enc Tryz.prog W 0 (fun _=>true) true fuel e cs=some x→∃a,r.R U1 W cs a∧Good a){fuel:Nat}{v:Value}{x:DataW H×List MemPlace}(h:DataW.trod enc Tryz.prog W 0 (fun _=>true) true fuel t [v]=some x) :
  ∃xs:List α,Sl r U1 W v xs∧xs.length≤maxLen∧∀a∈xs,Good a:=by
 rcases open_slice ht h with ⟨se,rfl⟩|⟨a,len,cap,m,n,D,Pl,se,-,hl,si,hm,rfl,hi⟩
 ·injection se with se
  subst se
  exact⟨[],Sl.nil _ _ _,jn _,fun a ha=>by simp at ha⟩
 ·injection se with se
  subst se
  simp only[if_true]at hm
  obtain⟨xs,h1,h2⟩:=pickL (p:=fun i (y : α)=>(∃cs,r.R U1 W cs y∧∀j (h:j<cs.length),W.cell? (a.add (i*r.sz+j))=some cs[j])∧Good y) len (fun i sr=>by
   obtain⟨sh,hc,sq⟩:=hi i (by omega)
   obtain⟨y,hy,hg⟩:=sj sq
   rw[hC]at hc
   refine⟨y,⟨sh,hy,fun j hj=>?_⟩,hg⟩
   have sp:j<r.sz:=by rw[←r.len hy];exact hj
   have k:=cells_at hc sp
   rw[Go.Deep.add_add]at k
   rw[k,jl hj])
  refine⟨xs,⟨some a,cap,by rw[h1],by omega,fun i sg=>?_⟩,by omega,fun y hy=>?_⟩
  ·obtain⟨⟨cs,k1,k2⟩,-⟩:=h2 i sg
   exact⟨a,cs,rfl,trivial,k1,k2⟩
  ·obtain⟨i,sg,rfl⟩:=jx hy
   exact(h2 i sg).2
end
theorem Sl.cl{α : Type}{cells : α→List Value}{sz:Nat}{hl:∀x,(cells x).length=sz}(hp : 0<sz){F:Nat→Prop}{w:World}{A:Option Addr}{n c:Nat}{l:List α}(h:Sl (d8 cells sz hl) F w (.slice A n c) l):Cl F w A (l.flatMap cells):=by
 have se:∀cs∈l.map cells,cs.length=sz:=fun cs sp=>by obtain⟨x,_,rfl⟩:=jG.1 sp;exact hl x
 have sg:(l.flatMap cells).length=l.length*sz:=by rw[List.flatMap_def,gZ se,jk]
 rcases l with _|⟨k,l⟩
 ·exact .inl rfl
 ·have h0:=h
  obtain⟨A',c',e,-,hh⟩:=h
  injection e with e1
  subst e1
  obtain⟨ad,cs,rfl,hF,-⟩:=hh 0 (by simp)
  refine .inr ⟨ad,rfl,hF,fun j hj=>?_⟩
  rw[sg]at hj
  have hq:j / sz<(k::l).length:=Nat.div_lt_of_lt_mul (by rw[Nat.mul_comm];exact hj)
  obtain⟨sr,sj,e,-,hr,hc⟩:=hh (j / sz) hq
  injection e with e
  subst e
  have e2:sj=cells ((k::l)[j / sz]):=hr
  subst e2
  have hm:j % sz<sz:=Nat.mod_lt _ hp
  have h1:=hc (j % sz) (by rw[hl];exact hm)
  have h2:=dW (css:=(k::l).map cells) (i:=j / sz) se (by simpa using hq) hm
  have ej:j / sz*sz+j % sz=j:=Nat.div_add_mod' j sz
  rw[←List.flatMap_def,jy,ej]at h2
  have si:j % sz<(cells ((k::l)[j / sz])).length:=by rw[hl];exact hm
  have sq:j<((k::l).flatMap cells).length:=by rw[sg];exact hj
  have sh:w.cell? (ad.add (j / sz*sz+j % sz))=some ((cells ((k::l)[j / sz]))[j % sz]'si):=h1
  rw[ej]at sh
  rw[sh,←jl si,←h2,jl sq]
theorem qM{α : Type}(f : α→Value)(l:List α):l.flatMap (fun x=>[f x])=l.map f:=by
 induction l with
 | nil=>rfl
 | cons a l ih=>simp[ih]
def rdAt:Rdg At where
 sz:=3
 R:=fun F w cs a=>∃u,cs=[.bool a.neg,.string a.rel,u]∧Ts F w u a.terms
 len:=fun ⟨_,e,_⟩=>by rw[e];rfl
 fr:=fun ⟨u,e,h⟩ hf hs=>⟨u,e,h.fr hf hs⟩
 mono:=fun ⟨u,e,h⟩ hs=>⟨u,e,h.mono hs⟩
theorem i6:∀(xs:List At) (vs:List Value),vs.length=xs.length→(fQ xs vs).length=xs.length*3
 | [],[],_=>rfl
 | a::xs,v::vs,h=>by
  simp only[fQ,jD]
  rw[i6 xs vs (by simpa using h)]
  omega
theorem Sl.ats{F:Nat→Prop}{w:World}{v:Value}{xs:List At}(h:Sl rdAt F w v xs):Ats F w v xs:=by
 obtain⟨A,c,e,hc,hh⟩:=h
 obtain⟨vs,h1,h2⟩:=pickL (p:=fun i (u:Value)=>∃hi:i<xs.length,Ts F w u xs[i].terms∧∃ad,A=some ad∧F ad.block∧w.cell? (ad.add (i*3))=some (.bool xs[i].neg)∧w.cell? (ad.add (i*3+1))=some (.string xs[i].rel)∧w.cell? (ad.add (i*3+2))=some u) xs.length (fun i hi=>by
  obtain⟨ad,cs,k1,k2,⟨u,rfl,k3⟩,k4⟩:=hh i hi
  exact⟨u,hi,k3,ad,k1,k2,k4 0 (by simp),k4 1 (by simp),k4 2 (by simp)⟩)
 refine⟨A,c,vs,e,hc,h1,?_,fun i hi hv=>?_⟩
 ·rcases Nat.eq_zero_or_pos xs.length with h0|h0
  ·have e1:=List.length_eq_zero_iff.1 h0
   have e2:=List.length_eq_zero_iff.1 (h1.trans h0)
   subst e1 e2
   exact .inl rfl
  ·obtain⟨-,-,ad,rfl,hF,-⟩:=h2 0 (by omega)
   refine .inr ⟨ad,rfl,hF,fun j hj=>?_⟩
   rw[i6 _ _ h1]at hj
   have hq:j / 3<vs.length:=by omega
   obtain⟨hx,-,sg,e',-,c0,c1,c2⟩:=h2 (j / 3) hq
   injection e' with e'
   subst e'
   obtain⟨g0,g1,g2⟩:=iZ hx hq
   have se:j<(fQ xs vs).length:=by rw[i6 _ _ h1];exact hj
   rcases(show j % 3=0∨j % 3=1∨j % 3=2 by omega) with hm|hm|hm
   ·have ej:j / 3*3=j:=by omega
    rw[ej]at c0 g0
    rw[c0,←g0,jl se]
   ·have ej:j / 3*3+1=j:=by omega
    rw[ej]at c1 g1
    rw[c1,←g1,jl se]
   ·have ej:j / 3*3+2=j:=by omega
    rw[ej]at c2 g2
    rw[c2,←g2,jl se]
 ·obtain⟨_,k,_⟩:=h2 i hv
  exact k
theorem Sl.strs{F:Nat→Prop}{w:World}{v:Value}{l:List ByteArray}(h:Sl (d8 (fun s:ByteArray=>[Value.string s]) 1 (fun _=>rfl)) F w v l):Strs F w v l:=by
 obtain⟨A,c,rfl⟩:=h.sl
 have hc:=h.cap.2
 have k:=h.cl (by decide)
 rw[qM]at k
 exact⟨A,c,rfl,hc,k⟩
theorem Sl.ints{F:Nat→Prop}{w:World}{v:Value}{l:List Int}(h:Sl (d8 (fun z:Int=>[Value.int .i64 z]) 1 (fun _=>rfl)) F w v l):Ins F w v l:=by
 obtain⟨A,c,rfl⟩:=h.sl
 have hc:=h.cap.2
 have k:=h.cl (by decide)
 rw[qM]at k
 exact⟨A,c,rfl,hc,k⟩
theorem Sl.ts{F:Nat→Prop}{w:World}{v:Value}{l:List Tm}(h:Sl (d8 Tm.cells 4 (fun _=>rfl)) F w v l):Ts F w v l:=by
 obtain⟨A,c,rfl⟩:=h.sl
 exact⟨A,c,rfl,h.cap.2,h.cl (by decide)⟩
section
variable {H:Type} {enc:TypeId×Value→H} {W:World} {base:Nat} {fuel:Nat} {cs:List Value} {v:Value} {x:DataW H×List MemPlace}
set_option maxRecDepth 20000
theorem nM{t:TypeId}(ht:Tryz.prog.underlying t=Tryz.prog.underlying 51)(h:DataW.trod enc Tryz.prog W 0 (fun _=>true) true fuel t cs=some x)(se:cs.length=3):∃(k i:Int) (s:ByteArray),cs=[.int .i64 k,.int .i64 i,.string s]∧s.size≤maxLen:=by
 obtain⟨xs,n,-,-,-,sg,hf⟩:=DataW.trod_struct (ht.trans Tryz.underlying51) h
 match cs,se with
 | [c1,c2,c3],_ =>
  match xs,sg with
  | [z0,z1,z2],_ =>
   have f0:DataW.trod enc Tryz.prog W 0 (fun _=>true) true n 3 [c1]=some z0:=hf 0 _ rfl
   have f1:DataW.trod enc Tryz.prog W 0 (fun _=>true) true n 2 [c2]=some z1:=hf 1 _ rfl
   have f2:DataW.trod enc Tryz.prog W 0 (fun _=>true) true n 9 [c3]=some z2:=hf 2 _ rfl
   obtain⟨k0,e1,-,-⟩:=DataW.trod_int Tryz.underlying3 f0
   obtain⟨k1,e2,-,-⟩:=DataW.trod_int Tryz.underlying2 f1
   obtain⟨s1,e3,-,hs⟩:=DataW.trod_string Tryz.underlying9 f2
   injection e1 with e1;injection e2 with e2;injection e3 with e3
   subst e1 e2 e3
   exact⟨_,_,_,rfl,hs⟩
theorem open_tm(h:DataW.trod enc Tryz.prog W 0 (fun _=>true) true fuel 132 cs=some x):∃t:Tm,(d8 Tm.cells 4 (fun _=>rfl)).R U1 W cs t∧t.var.size≤maxLen∧t.str.size≤maxLen:=by
 obtain⟨xs,n,-,-,hl,sh,hf⟩:=DataW.trod_struct Tryz.underlying132 h
 have se:cs.length=4:=hl.trans (by kernel_rfl)
 match cs,se with
 | [c0,c1,c2,c3],_ =>
  match xs,sh with
  | [y0,y1],_ =>
   have h0:DataW.trod enc Tryz.prog W 0 (fun _=>true) true n 9 [c0]=some y0:=hf 0 _ rfl
   have h1:DataW.trod enc Tryz.prog W 0 (fun _=>true) true n 51 [c1,c2,c3]=some y1:=hf 1 _ rfl
   obtain⟨s0,e0,-,sg⟩:=DataW.trod_string Tryz.underlying9 h0
   obtain⟨k,i,s,e1,hs⟩:=nM rfl h1 rfl
   injection e0 with e0
   subst e0
   injection e1 with a1 e1;injection e1 with a2 e1;injection e1 with a3 e1
   subst a1 a2 a3
   exact⟨⟨s0,k,i,s⟩,rfl,sg,hs⟩
theorem open_cdE(h:DataW.trod enc Tryz.prog W 0 (fun _=>true) true fuel 53 cs=some x):∃c:Cd,eL.R U1 W cs c∧c.var.size≤maxLen∧c.str.size≤maxLen:=by
 obtain⟨xs,n,-,-,hl,sh,hf⟩:=DataW.trod_struct Tryz.underlying53 h
 have se:cs.length=5:=hl.trans (by kernel_rfl)
 match cs,se with
 | [c0,c1,c2,c3,c4],_ =>
  match xs,sh with
  | [y0,y1,y2],_ =>
   have h0:DataW.trod enc Tryz.prog W 0 (fun _=>true) true n 9 [c0]=some y0:=hf 0 _ rfl
   have h1:DataW.trod enc Tryz.prog W 0 (fun _=>true) true n 3 [c1]=some y1:=hf 1 _ rfl
   have h2:DataW.trod enc Tryz.prog W 0 (fun _=>true) true n 51 [c2,c3,c4]=some y2:=hf 2 _ rfl
   obtain⟨s0,e0,-,sg⟩:=DataW.trod_string Tryz.underlying9 h0
   obtain⟨k0,e1,-,-⟩:=DataW.trod_int Tryz.underlying3 h1
   obtain⟨k,i,s,e2,hs⟩:=nM rfl h2 rfl
   injection e0 with e0;injection e1 with e1
   subst e0 e1
   injection e2 with a1 e2;injection e2 with a2 e2;injection e2 with a3 e2
   subst a1 a2 a3
   exact⟨⟨s0,k0,k,i,s⟩,rfl,sg,hs⟩
theorem open_kyE(h:DataW.trod enc Tryz.prog W 0 (fun _=>true) true fuel 208 cs=some x):∃k:Ky,iO.R U1 W cs k∧k.var.size≤maxLen:=by
 obtain⟨xs,n,-,-,hl,sh,hf⟩:=DataW.trod_struct Tryz.underlying208 h
 have se:cs.length=2:=hl.trans (by kernel_rfl)
 match cs,se with
 | [c0,c1],_ =>
  match xs,sh with
  | [y0,y1],_ =>
   have h0:DataW.trod enc Tryz.prog W 0 (fun _=>true) true n 9 [c0]=some y0:=hf 0 _ rfl
   have h1:DataW.trod enc Tryz.prog W 0 (fun _=>true) true n 4 [c1]=some y1:=hf 1 _ rfl
   obtain⟨s0,e0,-,sg⟩:=DataW.trod_string Tryz.underlying9 h0
   obtain⟨b,e1,-⟩:=DataW.trod_bool Tryz.underlying4 h1
   injection e0 with e0;injection e1 with e1
   subst e0 e1
   exact⟨⟨s0,b⟩,rfl,sg⟩
theorem open_strE(h:DataW.trod enc Tryz.prog W 0 (fun _=>true) true fuel 9 cs=some x):∃s:ByteArray,(d8 (fun s:ByteArray=>[Value.string s]) 1 (fun _=>rfl)).R U1 W cs s∧s.size≤maxLen:=by
 obtain⟨s0,e0,-,se⟩:=DataW.trod_string Tryz.underlying9 h
 exact⟨s0,e0,se⟩
theorem pf(h:DataW.trod enc Tryz.prog W 0 (fun _=>true) true fuel 3 cs=some x):∃z:Int,(d8 (fun z:Int=>[Value.int .i64 z]) 1 (fun _=>rfl)).R U1 W cs z∧True:=by
 obtain⟨s0,e0,-,-⟩:=DataW.trod_int Tryz.underlying3 h
 exact⟨s0,e0,trivial⟩
theorem open_scE(h:DataW.trod enc Tryz.prog W 0 (fun _=>true) true fuel 92 cs=some x):∃s:Sc,el.R U1 W cs s∧True:=by
 obtain⟨xs,n,-,-,hl,sg,hf⟩:=DataW.trod_struct Tryz.underlying92 h
 have se:cs.length=2:=hl.trans (by kernel_rfl)
 match cs,se with
 | [c0,c1],_ =>
  match xs,sg with
  | [y0,y1],_ =>
   have h0:DataW.trod enc Tryz.prog W 0 (fun _=>true) true n 9 [c0]=some y0:=hf 0 _ rfl
   have h1:DataW.trod enc Tryz.prog W 0 (fun _=>true) true n 63 [c1]=some y1:=hf 1 _ rfl
   obtain⟨s0,e0,-,-⟩:=DataW.trod_string Tryz.underlying9 h0
   obtain⟨ks,k1,-,-⟩:=dD (d8 (fun z:Int=>[Value.int .i64 z]) 1 (fun _=>rfl)) Tryz.underlying63 (by kernel_rfl) (fun _=>True) pf h1
   injection e0 with e0
   subst e0
   exact⟨⟨s0,ks⟩,⟨_,rfl,k1.ints⟩,trivial⟩
end
open Go.ChangeShapes Go.WideShapes Go.ChangeAt Go.RowKit Go.Joins Go.Deep
section
variable {H:Type} {enc:TypeId×Value→H} {W:World} {base:Nat} {fuel:Nat} {cs:List Value} {v:Value} {x:DataW H×List MemPlace}
set_option maxRecDepth 20000
theorem open_scE2(h:DataW.trod enc Tryz.prog W 0 (fun _=>true) true fuel 92 cs=some x):∃s:Sc,el.R U1 W cs s∧(s.name.size≤maxLen∧s.kinds.length≤maxLen):=by
 obtain⟨xs,n,-,-,hl,sg,hf⟩:=DataW.trod_struct Tryz.underlying92 h
 have se:cs.length=2:=hl.trans (by kernel_rfl)
 match cs,se with
 | [c0,c1],_ =>
  match xs,sg with
  | [y0,y1],_ =>
   have h0:DataW.trod enc Tryz.prog W 0 (fun _=>true) true n 9 [c0]=some y0:=hf 0 _ rfl
   have h1:DataW.trod enc Tryz.prog W 0 (fun _=>true) true n 63 [c1]=some y1:=hf 1 _ rfl
   obtain⟨s0,e0,-,hs⟩:=DataW.trod_string Tryz.underlying9 h0
   obtain⟨ks,k1,k2,-⟩:=dD (d8 (fun z:Int=>[Value.int .i64 z]) 1 (fun _=>rfl)) Tryz.underlying63 (by kernel_rfl) (fun _=>True) pf h1
   injection e0 with e0
   subst e0
   exact⟨⟨s0,ks⟩,⟨_,rfl,k1.ints⟩,hs,k2⟩
theorem open_scs2{d:DataW H}{p:List MemPlace}(hv:Value.okWide Tryz.prog W .any base 22 v)(h:DataW.Trod enc Tryz.prog W 0 (fun _=>true) true 22 v d p):∃(A:Option Addr) (c:Nat) (ss:List Sc),v=.slice A ss.length c∧Sl el U1 W (.slice A ss.length c) ss∧ss.length≤maxLen∧∀x∈ss,x.name.size≤maxLen∧x.kinds.length≤maxLen:=by
 obtain⟨a0,sg,se,rfl⟩:=okWide_slice Tryz.underlying22 hv
 obtain⟨fuel,hf⟩:=h
 obtain⟨ss,k1,k2,k3⟩:=dD el Tryz.underlying22 (by kernel_rfl) (fun s=>s.name.size≤maxLen∧s.kinds.length≤maxLen) open_scE2 hf
 obtain⟨A,c,e⟩:=k1.sl
 rw[e]at k1 ⊢
 exact⟨A,c,ss,rfl,k1,k2,k3⟩
end
open Go.ChangeShapes Go.WideShapes Go.ChangeAt Go.RowKit Go.Joins Go.Deep
section
variable {H:Type} {enc:TypeId×Value→H} {W:World} {base:Nat} {fuel:Nat} {cs:List Value} {v:Value} {x:DataW H×List MemPlace}
set_option maxRecDepth 20000
theorem open_vlE(h:DataW.trod enc Tryz.prog W 0 (fun _=>true) true fuel 51 cs=some x):∃y:Vl,aM.R U1 W cs y∧y.str.size≤maxLen:=by
 obtain⟨xs,n,-,-,hl,se,hf⟩:=DataW.trod_struct Tryz.underlying51 h
 obtain⟨k,i,s,e,hs⟩:=nM rfl h (hl.trans (by kernel_rfl))
 exact⟨⟨k,i,s⟩,e,hs⟩
theorem open_upE(h:DataW.trod enc Tryz.prog W 0 (fun _=>true) true fuel 97 cs=some x):∃y:Up,fJ.R U1 W cs y∧(y.rel.size≤maxLen∧y.row.length≤maxLen∧∀v∈y.row,v.str.size≤maxLen):=by
 obtain⟨xs,n,-,-,hl,sg,hf⟩:=DataW.trod_struct Tryz.underlying97 h
 have se:cs.length=3:=hl.trans (by kernel_rfl)
 match cs,se with
 | [c0,c1,c2],_ =>
  match xs,sg with
  | [y0,y1,y2],_ =>
   have h0:DataW.trod enc Tryz.prog W 0 (fun _=>true) true n 4 [c0]=some y0:=hf 0 _ rfl
   have h1:DataW.trod enc Tryz.prog W 0 (fun _=>true) true n 9 [c1]=some y1:=hf 1 _ rfl
   have h2:DataW.trod enc Tryz.prog W 0 (fun _=>true) true n 74 [c2]=some y2:=hf 2 _ rfl
   obtain⟨b,e0,-⟩:=DataW.trod_bool Tryz.underlying4 h0
   obtain⟨s,e1,-,hs⟩:=DataW.trod_string Tryz.underlying9 h1
   obtain⟨vs,k1,k2,k3⟩:=dD aM Tryz.underlying74 (by kernel_rfl) (fun v=>v.str.size≤maxLen) open_vlE h2
   injection e0 with e0;injection e1 with e1
   subst e0 e1
   exact⟨⟨b,s,vs⟩,⟨_,rfl,k1⟩,hs,k2,k3⟩
theorem open_ups{d:DataW H}{p:List MemPlace}(hv:Value.okWide Tryz.prog W .any base 23 v)(h:DataW.Trod enc Tryz.prog W 0 (fun _=>true) true 23 v d p):∃(A:Option Addr) (c:Nat) (us:List Up),v=.slice A us.length c∧Sl fJ U1 W (.slice A us.length c) us∧us.length≤maxLen∧∀u∈us,u.rel.size≤maxLen∧u.row.length≤maxLen∧∀v∈u.row,v.str.size≤maxLen:=by
 obtain⟨a0,sg,se,rfl⟩:=okWide_slice Tryz.underlying23 hv
 obtain⟨fuel,hf⟩:=h
 obtain⟨us,k1,k2,k3⟩:=dD fJ Tryz.underlying23 (by kernel_rfl) (fun u=>u.rel.size≤maxLen∧u.row.length≤maxLen∧∀v∈u.row,v.str.size≤maxLen) open_upE hf
 obtain⟨A,c,e⟩:=k1.sl
 rw[e]at k1 ⊢
 exact⟨A,c,us,rfl,k1,k2,k3⟩
end
open Go.ChangeShapes Go.WideShapes Go.ChangeAt Go.RowKit Go.Joins Go.Deep
