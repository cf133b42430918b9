/- packed -/
import Derived.Test.YtplldnnnhgnbjaaGreatDoorMv41
import Derived.Test.YtplldnnnhgnbjaaGreatDoorMv42
set_option maxRecDepth 20000
set_option maxHeartbeats 6400000
namespace Go.Proofs.YtplldnnnhgnbjaaGreatDoor
open Go.RowKit Go.Maps
def SmV(v:Vl):Prop:=-1099511627776≤v.int∧v.int≤1099511627776
structure DbI(l:List ByteArray)(i:Nat)(M:Dm):Prop where
 ok:DmOk M
 nm:bU M l
 sz:∀s∈l,s.size≤16
 ln:∀s e,M s=some e→e.rel.rows.length≤i
 sm:∀s e,M s=some e→∀x∈e.rel.rows,∀v∈x,SmV v
theorem updS_grow{rows rows':List (List Vl)}{x:List Vl}{del ch:Bool}(h:SoR rows)(hu:kL rows del x=some (rows',ch)):rows'.length≤rows.length+1:=by
 unfold kL at hu
 split at hu
 ·split at hu
  ·rename_i hh
   injection hu with hu;injection hu with h1 h2;subst h1
   obtain⟨se,-⟩:=pU h hh
   have:=qI se
   omega
  ·injection hu with hu;injection hu with h1 h2;subst h1
   omega
 ·split at hu
  ·injection hu with hu;injection hu with h1 h2;subst h1
   omega
  ·split at hu
   ·cases hu
   ·injection hu with hu;injection hu with h1 h2;subst h1
    rw[qX]
    exact jo _
theorem updD_some{M:Dm}{s t:ByteArray}{y:En}:(ly M s y t).isSome=true↔t=s∨(M t).isSome=true:=by
 unfold ly
 by_cases h:t=s
 ·rw[if_pos h]
  simp[h]
 ·rw[if_neg h]
  simp[h]
theorem DbI.app{l:List ByteArray}{i:Nat}{M M':Dm}{u:Up}{ch:Bool}(h:DbI l i M)(hu:∀v∈u.row,SmV v)(ha:i7 M u=.ok (M',ch)):DbI l (i+1) M':=by
 have sg:=appD_ok h.ok ha
 unfold i7 at ha
 split at ha
 ·rename_i hc
  split at ha
  ·cases ha
  ·rename_i e he
   split at ha
   ·cases ha
   ·rename_i p hp
    injection ha with ha
    injection ha with h1 h2
    have se:M'=M∨M'=ly M u.rel ⟨e.kinds,⟨e.rel.ar,p.1⟩⟩:=by
     rw[←h1]
     split
     ·exact .inr rfl
     ·exact .inl rfl
    rcases se with e1|e1
    ·subst e1
     exact⟨h.ok,h.nm,h.sz,fun s y hy=>Nat.le_succ_of_le (h.ln s y hy),h.sm⟩
    ·have q1:=updS_grow (rows':=p.1) (ch:=p.2) (h.ok.so _ _ he).1 hp
     obtain⟨-,-,q3⟩:=updS_ok (rows':=p.1) (ch:=p.2) (h.ok.so _ _ he).1 (h.ok.so _ _ he).2 hp
     refine⟨sg,⟨h.nm.1,fun s=>?_⟩,h.sz,fun s y hy=>?_,fun s y hy=>?_⟩
     ·rw[e1,updD_some,h.nm.2]
      constructor
      ·exact .inr
      ·rintro(rfl|h9)
       ·rw[he];rfl
       ·exact h9
     ·rw[e1]at hy
      unfold ly at hy
      split at hy
      ·injection hy with hy
       subst hy
       have:=h.ln _ _ he
       show p.1.length≤i+1
       omega
      ·exact Nat.le_succ_of_le (h.ln _ _ hy)
     ·rw[e1]at hy
      unfold ly at hy
      split at hy
      ·injection hy with hy
       subst hy
       intro x hx v hv
       rcases q3 x hx with rfl|hx
       ·exact hu v hv
       ·exact h.sm _ _ he x hx v hv
      ·exact h.sm _ _ hy
 ·cases ha
theorem DbI.le{l:List ByteArray}{i j:Nat}{M:Dm}(h:DbI l i M)(se:i≤j):DbI l j M:=⟨h.ok,h.nm,h.sz,fun s e he=>jr (h.ln s e he) se,h.sm⟩
theorem valB_ok{v:Vl}(h:dY v.kind v.int v.str=true)(hs:SmV v):okV v=true∧VOk v:=by
 refine⟨h,?_⟩
 unfold SmV at hs
 unfold dY at h
 by_cases h1:v.kind=1
 ·rw[if_pos h1,decide_eq_true_eq]at h
  refine⟨?_,by omega,by omega,by omega,by omega⟩
  rw[h]
  exact jn _
 ·rw[if_neg h1]at h
  by_cases h2:v.kind=2
  ·rw[if_pos h2,decide_eq_true_eq]at h
   exact⟨by omega,by omega,by omega,by omega,by omega⟩
  ·rw[if_neg h2]at h
   cases h
theorem DbI.db{l:List ByteArray}{i:Nat}{M:Dm}(h:DbI l i M):mD M where
 key:=fun s x hx=>⟨jr (h.sz s ((h.nm.2 s).2 (by rw[hx];rfl))) (by omega),jr (h.ok.ar s x hx).2 (by omega)⟩
 so:=fun s x hx=>(h.ok.so s x hx).1
 ln:=fun s x hx=>jr (h.ok.so s x hx).2 (by omega)
 row:=fun s x hx r hr=>by
  obtain⟨h1,-⟩:=h.ok.row s x hx r hr
  have h2:=(h.ok.ar s x hx).1
  unfold fg at h1
  by_cases h3:(r.length:Int)=x.rel.ar
  ·rw[if_pos h3]at h1
   by_cases h4:qh r=true
   ·exact⟨by omega,fun v hv=>valB_ok (jA.1 h4 v hv) (h.sm s x hx r hr v hv)⟩
   ·rw[if_neg h4]at h1
    cases h1
  ·rw[if_neg h3]at h1
   cases h1
def fk(ss:List Sc):List ByteArray:=(ss.map Sc.name).foldl eT []
theorem addW_mem{vs:List ByteArray}{s t:ByteArray}:t∈eT vs s↔t∈vs∨t=s:=by
 unfold eT
 by_cases h:s∈vs
 ·rw[if_pos h]
  exact⟨.inl,fun h2=>h2.elim id (fun e=>e ▸ h)⟩
 ·rw[if_neg h,ju,jq]
theorem addW_nodup{vs:List ByteArray}{s:ByteArray}(hn:vs.Nodup):(eT vs s).Nodup:=by
 unfold eT
 by_cases h:s∈vs
 ·rw[if_pos h];exact hn
 ·rw[if_neg h]
  refine zF.2 ⟨hn,by simp,fun x hx y hy e=>?_⟩
  rw[jq]at hy
  subst hy
  subst e
  exact h hx
theorem lL{t:ByteArray}:∀{ss vs:List ByteArray},t∈ss.foldl eT vs↔t∈vs∨t∈ss
 | [],vs=>by simp
 | s::ss,vs=>by
  rw[zr,lL,addW_mem,jB]
  exact⟨fun h=>h.elim (fun h=>h.imp id .inl) (fun h=>.inr (.inr h)),fun h=>h.elim (fun h=>.inl (.inl h)) (fun h=>h.elim (fun h=>.inl (.inr h)) .inr)⟩
theorem mx:∀{ss vs:List ByteArray},vs.Nodup→(ss.foldl eT vs).Nodup
 | [],_,h=>h
 | s::ss,vs,h=>by
  rw[zr]
  exact mx (addW_nodup h)
theorem names_of(ss:List Sc):bU (dmL ss) (fk ss):=by
 refine⟨mx zC,fun s=>?_⟩
 unfold fk
 rw[lL]
 unfold dmL cm
 rw[Option.isSome_map,List.find?_isSome]
 simp
theorem lK{ss:List Sc}{s:ByteArray}{x:Sc}(h:cm ss s=some x):x∈ss∧x.name=s:=by
 unfold cm at h
 have h2:=List.find?_some (p:=fun x:Sc=>decide (x.name=s)) h
 exact⟨List.mem_of_find?_eq_some h,of_decide_eq_true h2⟩
theorem DbI.new{ss:List Sc}(h:∀x∈ss,pE x):DbI (fk ss) 0 (dmL ss):=by
 have hm:∀s e,dmL ss s=some e→∃x∈ss,x.name=s∧e=⟨x.kinds,⟨(x.kinds.length:Int),[]⟩⟩:=fun s e he=>by
  unfold dmL at he
  rcases hf:cm ss s with _|x
  ·rw[hf]at he
   cases he
  ·rw[hf]at he
   injection he with he
   exact⟨x,(lK hf).1,(lK hf).2,he.symm⟩
 refine⟨⟨fun s e he=>?_,fun s e he=>?_,fun s e he=>?_⟩,names_of ss,fun s hs=>?_,fun s e he=>?_,fun s e he=>?_⟩
 ·obtain⟨x,hx,-,rfl⟩:=hm s e he
  exact⟨rfl,(h x hx).2.1⟩
 ·obtain⟨x,hx,-,rfl⟩:=hm s e he
  exact⟨List.Pairwise.nil,jn _⟩
 ·obtain⟨x,hx,-,rfl⟩:=hm s e he
  intro y hy
  simp at hy
 ·unfold fk at hs
  rw[lL]at hs
  rcases hs with hs|hs
  ·simp at hs
  ·obtain⟨x,hx,rfl⟩:=jG.1 hs
   have h1:=(h x hx).1
   unfold iL at h1
   simp only[Bool.and_eq_true,decide_eq_true_eq]at h1
   exact h1.1.2
 ·obtain⟨x,hx,-,rfl⟩:=hm s e he
  exact jn _
 ·obtain⟨x,hx,-,rfl⟩:=hm s e he
  intro y hy
  simp at hy
structure Tb where
 name:ByteArray
 ar:Int
 rows:List (List Vl)
def ow:Rdg Tb where
 sz:=3
 R:=fun F w cs x=>∃u,cs=[.string x.name,.int .i64 x.ar,u]∧Sl aG F w u x.rows
 len:=fun ⟨_,e,_⟩=>by rw[e];rfl
 fr:=fun ⟨u,e,h⟩ hf hs=>⟨u,e,h.fr hf hs⟩
 mono:=fun ⟨u,e,h⟩ hs=>⟨u,e,h.mono (by decide) hs⟩
theorem Sl.tb{F:Nat→Prop}{w:World}{A:Option Addr}{n c:Nat}{xs:List Tb}(h:Sl ow F w (.slice A n c) xs){i:Nat}(hi:i<xs.length):∃ad B d,A=some ad∧F ad.block∧w.cell? (ad.add (i*3))=some (.string xs[i].name)∧w.cell? ⟨(ad.add (i*3)).block,(ad.add (i*3)).off+1,none⟩=some (.int .i64 xs[i].ar)∧w.cell? ⟨(ad.add (i*3)).block,(ad.add (i*3)).off+2,none⟩=some (.slice B xs[i].rows.length d)∧Sl aG F w (.slice B xs[i].rows.length d) xs[i].rows:=by
 obtain⟨ad,cs,h1,h2,⟨u,rfl,hu⟩,h4,h5⟩:=h.at hi
 obtain⟨B,d,e1⟩:=hu.sl
 subst e1
 exact⟨ad,B,d,h1,h2,h4 (by simp),h5 0 (by simp),h5 1 (by simp),hu⟩
def tbOf(M:Dm)(s:ByteArray):Tb:=⟨s,((fE M s).length:Int),aS M s⟩
def fM(M:Dm)(l:List ByteArray):List Tb:=l.map (tbOf M)
end Go.Proofs.YtplldnnnhgnbjaaGreatDoor
namespace Go.Proofs.YtplldnnnhgnbjaaGreatDoor
open Go.RowKit Go.Maps
structure aX(w1:World)(u:Up)(P:Nat→Nat→Option Nat→Int→World→Prop)(b5 b6 b7 b8 b9 b10 b11 b12 b13 b14:Bool)(t10 t11 t12 t27 t33 t34 t35 t36 t37:Value)(mb:Option Nat)(k er:Int)(c d:Nat)(W:World):Prop where
 ext:Ext w1 W
 h5:b5=true→b6=false→∃S G,t33=.slice (some S) 1 1∧Sl fJ G W (.slice (some S) 1 1) [u]
 h6:b6=true→t34=.tuple #[.agg #[.map mb],.int .i64 k,.int .i64 er]∧P c d mb er W
 h7:b7=true→t27=.tuple #[.agg #[.map mb],.int .i64 k,.int .i64 er]
 h8:b8=true→t35=.agg #[.map mb]
 h9:b9=true→t36=.int .i64 k
 h10:b10=true→t37=.int .i64 er
 h11:b11=true→∃g,t10=.pointer (some ⟨g,0,none⟩)∧w1.heap.size≤g∧g<W.heap.size∧(b6=true→g<c∨d≤g)∧∃x,Bk W g 33 [x]∧(b12=true→x=.map mb)
 h13:b13=true→t11=.int .i64 k
 h14:b14=true→t12=.int .i64 er
 hc:b6=true→w1.heap.size≤c∧d≤W.heap.size
section
variable {w1 W W':World} {u:Up} {P:Nat→Nat→Option Nat→Int→World→Prop} {b5 b6 b7 b8 b9 b10 b11 b12 b13 b14:Bool} {t10 t11 t12 t27 t33 t34 t35 t36 t37 v x y:Value} {mb mb':Option Nat} {k er k' er':Int} {c d:Nat}
def PSt(w1:World)(P:Nat→Nat→Option Nat→Int→World→Prop):Prop:=∀c d mb er W W' S,P c d mb er W→Fr S W W'→(∀k,S k→w1.heap.size≤k∧(k<c∨d≤k))→P c d mb er W'
theorem aX.more(hP:PSt w1 P)(h:aX w1 u P b5 b6 b7 b8 b9 b10 b11 b12 b13 b14 t10 t11 t12 t27 t33 t34 t35 t36 t37 mb k er c d W)(he:Ext W W'):aX w1 u P b5 b6 b7 b8 b9 b10 b11 b12 b13 b14 t10 t11 t12 t27 t33 t34 t35 t36 t37 mb k er c d W' :=
 ⟨h.ext.trans he,fun q q'=>let ⟨S,G,e1,e2⟩:=h.h5 q q';⟨S,G,e1,e2.ext he⟩,fun q=>⟨(h.h6 q).1,hP _ _ _ _ _ _ _ (h.h6 q).2 (he.fr (fun _=>False)) (fun _ h=>h.elim)⟩,h.h7,h.h8,h.h9,h.h10,fun q=>let ⟨g,e1,e2,e2',e3,x,e4,e5⟩:=h.h11 q;⟨g,e1,e2,jE e2' he.size,e3,x,e4.ext he,e5⟩,h.h13,h.h14,fun q=>⟨(h.hc q).1,jr (h.hc q).2 he.size⟩⟩
theorem aX.start:aX w1 u P false false false false false false false false false false t10 t11 t12 t27 t33 t34 t35 t36 t37 none 0 0 0 0 w1.drew :=
 ⟨(Ext.refl w1).drew,(fun q=>by cases q),(fun q=>by cases q),(fun q=>by cases q),(fun q=>by cases q),(fun q=>by cases q),(fun q=>by cases q),(fun q=>by cases q),(fun q=>by cases q),(fun q=>by cases q),(fun q=>by cases q)⟩
theorem aX.bld{S:Addr}{G:Nat→Prop}(hP:PSt w1 P)(h:aX w1 u P false false b7 b8 b9 b10 b11 b12 b13 b14 t10 t11 t12 t27 t33 t34 t35 t36 t37 mb k er c d W)(he:Ext W W')(hs:Sl fJ G W' (.slice (some S) 1 1) [u]):aX w1 u P true false b7 b8 b9 b10 b11 b12 b13 b14 t10 t11 t12 t27 (.slice (some S) 1 1) t34 t35 t36 t37 mb k er c d W':=by
 have k:=h.more hP he
 exact⟨k.ext,fun _ _=>⟨S,G,rfl,hs⟩,k.h6,k.h7,k.h8,k.h9,k.h10,k.h11,k.h13,k.h14,k.hc⟩
theorem aX.call(h:aX w1 u P true false false false false false b11 false false false t10 t11 t12 t27 t33 t34 t35 t36 t37 mb k er c d W)(he:Ext W W')(hp:P W.heap.size W'.heap.size mb' er' W'):aX w1 u P true true false false false false b11 false false false t10 t11 t12 t27 t33 (.tuple #[.agg #[.map mb'],.int .i64 k',.int .i64 er']) t35 t36 t37 mb' k' er' W.heap.size W'.heap.size W' :=
 ⟨h.ext.trans he,(fun _ q=>by cases q),fun _=>⟨rfl,hp⟩,(fun q=>by cases q),(fun q=>by cases q),(fun q=>by cases q),(fun q=>by cases q),fun q=>let ⟨g,e1,e2,e2',_,x,e4,_⟩:=h.h11 q;⟨g,e1,e2,jE e2' he.size,fun _=>.inl e2',x,e4.ext he,(fun q=>by cases q)⟩,(fun q=>by cases q),(fun q=>by cases q),fun _=>⟨h.ext.size,jo _⟩⟩
theorem aX.mv(h:aX w1 u P b5 true false b8 b9 b10 b11 b12 b13 b14 t10 t11 t12 t27 t33 t34 t35 t36 t37 mb k er c d W):aX w1 u P b5 true true b8 b9 b10 b11 b12 b13 b14 t10 t11 t12 (.tuple #[.agg #[.map mb],.int .i64 k,.int .i64 er]) t33 t34 t35 t36 t37 mb k er c d W :=
 ⟨h.ext,h.h5,h.h6,fun _=>rfl,h.h8,h.h9,h.h10,h.h11,h.h13,h.h14,h.hc⟩
theorem aX.e0(h:aX w1 u P b5 b6 b7 false b9 b10 b11 b12 b13 b14 t10 t11 t12 t27 t33 t34 t35 t36 t37 mb k er c d W):aX w1 u P b5 b6 b7 true b9 b10 b11 b12 b13 b14 t10 t11 t12 t27 t33 t34 (.agg #[.map mb]) t36 t37 mb k er c d W :=
 ⟨h.ext,h.h5,h.h6,h.h7,fun _=>rfl,h.h9,h.h10,h.h11,h.h13,h.h14,h.hc⟩
theorem aX.e1(h:aX w1 u P b5 b6 b7 b8 false b10 b11 b12 b13 b14 t10 t11 t12 t27 t33 t34 t35 t36 t37 mb k er c d W):aX w1 u P b5 b6 b7 b8 true b10 b11 b12 b13 b14 t10 t11 t12 t27 t33 t34 t35 (.int .i64 k) t37 mb k er c d W :=
 ⟨h.ext,h.h5,h.h6,h.h7,h.h8,fun _=>rfl,h.h10,h.h11,h.h13,h.h14,h.hc⟩
theorem aX.e2(h:aX w1 u P b5 b6 b7 b8 b9 false b11 b12 b13 b14 t10 t11 t12 t27 t33 t34 t35 t36 t37 mb k er c d W):aX w1 u P b5 b6 b7 b8 b9 true b11 b12 b13 b14 t10 t11 t12 t27 t33 t34 t35 t36 (.int .i64 er) mb k er c d W :=
 ⟨h.ext,h.h5,h.h6,h.h7,h.h8,h.h9,fun _=>rfl,h.h11,h.h13,h.h14,h.hc⟩
theorem aX.box(hP:PSt w1 P)(h:aX w1 u P b5 b6 b7 b8 b9 b10 false false b13 b14 t10 t11 t12 t27 t33 t34 t35 t36 t37 mb k er c d W):aX w1 u P b5 b6 b7 b8 b9 b10 true false b13 b14 (.pointer (some ⟨W.heap.size,0,none⟩)) t11 t12 t27 t33 t34 t35 t36 t37 mb k er c d (W.alloc (.cells #[x] 33)):=by
 have k:=h.more hP ((Ext.refl W).alloc (.cells #[x] 33))
 exact⟨k.ext,k.h5,k.h6,k.h7,k.h8,k.h9,k.h10,fun _=>⟨W.heap.size,rfl,h.ext.size,by simp,fun q=>.inr (h.hc q).2,x,Bk.new W _ [x],(fun q=>by cases q)⟩,k.h13,k.h14,k.hc⟩
theorem aX.store{g:Nat}(hP:PSt w1 P)(h:aX w1 u P b5 true b7 b8 b9 b10 true false b13 b14 (.pointer (some ⟨g,0,none⟩)) t11 t12 t27 t33 t34 t35 t36 t37 mb k er c d W):aX w1 u P b5 true b7 b8 b9 b10 true true b13 b14 (.pointer (some ⟨g,0,none⟩)) t11 t12 t27 t33 t34 t35 t36 t37 mb k er c d (W.setCell ⟨g,0,none⟩ (.map mb)):=by
 have hf:Fr (fun q=>q=g) W (W.setCell ⟨g,0,none⟩ (.map mb)):=(Fr.refl (fun q=>q=g) W).setCell (p:=⟨g,0,none⟩) (.inl rfl) _
 obtain⟨g',e,hg,se,hs,x,hb,-⟩:=h.h11 rfl
 injection e with e
 injection e with e
 injection e with e
 subst e
 refine⟨hf.new h.ext (fun q hq=>by omega),(fun _ q=>by cases q),fun q=>⟨(h.h6 q).1,hP _ _ _ _ _ _ _ (h.h6 q).2 hf (fun q hq=>by rw[hq];exact⟨hg,hs rfl⟩)⟩,h.h7,h.h8,h.h9,h.h10,fun _=>⟨g,rfl,hg,jE se hf.size,hs,.map mb,hb.set 0 _,fun _=>rfl⟩,h.h13,h.h14,fun q=>⟨(h.hc q).1,jr (h.hc q).2 hf.size⟩⟩
theorem aX.a1(h:aX w1 u P b5 b6 b7 b8 b9 b10 b11 b12 false b14 t10 t11 t12 t27 t33 t34 t35 t36 t37 mb k er c d W):aX w1 u P b5 b6 b7 b8 b9 b10 b11 b12 true b14 t10 (.int .i64 k) t12 t27 t33 t34 t35 t36 t37 mb k er c d W :=
 ⟨h.ext,h.h5,h.h6,h.h7,h.h8,h.h9,h.h10,h.h11,fun _=>rfl,h.h14,h.hc⟩
theorem aX.a2(h:aX w1 u P b5 b6 b7 b8 b9 b10 b11 b12 b13 false t10 t11 t12 t27 t33 t34 t35 t36 t37 mb k er c d W):aX w1 u P b5 b6 b7 b8 b9 b10 b11 b12 b13 true t10 t11 (.int .i64 er) t27 t33 t34 t35 t36 t37 mb k er c d W :=
 ⟨h.ext,h.h5,h.h6,h.h7,h.h8,h.h9,h.h10,h.h11,h.h13,fun _=>rfl,h.hc⟩
end
theorem one_up(W:World){G:Nat→Prop}{B:Option Addr}{d:Nat}{u:Up}(h:Sl aM G W (.slice B u.row.length d) u.row):Sl fJ (fun _=>True) (W.alloc (.cells #[.bool u.del,.string u.rel,.slice B u.row.length d] 97)) (.slice (some ⟨W.heap.size,0,none⟩) 1 1) [u]:=by
 have kb:=Bk.new W 97 [.bool u.del,.string u.rel,.slice B u.row.length d]
 refine⟨_,_,rfl,jo _,fun i hi=>?_⟩
 have se:i=0:=by simpa using hi
 subst se
 refine⟨_,_,rfl,trivial,⟨_,rfl,(h.ext ((Ext.refl W).alloc _)).mono (by decide) (fun _ _ _=>trivial)⟩,fun j hj=>?_⟩
 have h3:j<3:=hj
 have h4:=kb.cell (i:=j) (by simpa using h3)
 have h5:j=0∨j=1∨j=2:=by omega
 rcases h5 with rfl|rfl|rfl
 ·have e:(⟨W.heap.size,0,none⟩:Addr).add (0*fJ.sz+0)=⟨W.heap.size,0,none⟩:=by simp[Addr.add]
  rw[e]
  exact h4
 ·have e:(⟨W.heap.size,0,none⟩:Addr).add (0*fJ.sz+1)=⟨W.heap.size,1,none⟩:=by simp[Addr.add]
  rw[e]
  exact h4
 ·have e:(⟨W.heap.size,0,none⟩:Addr).add (0*fJ.sz+2)=⟨W.heap.size,2,none⟩:=by simp[Addr.add]
  rw[e]
  exact h4
structure cw(w1:World)(ar:Int)(nr:Nat)(rows:List (List Vl))(F:Nat→Prop)(b6 b7 b8 b9 b10 b11 b12:Bool)(t6 t7 t16 t23 t24 t25:Value)(A:Option Addr)(c:Nat)(W:World):Prop where
 ext:Ext w1 W
 h6:b6=true→t23=.tuple #[.agg #[.int .i64 ar,.slice A nr c],.bool true]∧Sl aG F W (.slice A nr c) rows
 h7:b7=true→t16=.tuple #[.agg #[.int .i64 ar,.slice A nr c],.bool true]
 h8:b8=true→t24=.agg #[.int .i64 ar,.slice A nr c]
 h9:b9=true→t25=.bool true
 h10:b10=true→∃g x y,t6=.pointer (some ⟨g,0,none⟩)∧w1.heap.size≤g∧Bk W g 179 [x,y]∧(b11=true→x=.int .i64 ar∧y=.slice A nr c)
section
variable {w1 W W':World} {ar:Int} {nr:Nat} {rows:List (List Vl)} {F:Nat→Prop} {b6 b7 b8 b9 b10 b11 b12:Bool} {t6 t7 t16 t23 t24 t25 x y v:Value} {A A':Option Addr} {c c':Nat}
theorem cw.more(h:cw w1 ar nr rows F b6 b7 b8 b9 b10 b11 b12 t6 t7 t16 t23 t24 t25 A c W)(he:Ext W W'):cw w1 ar nr rows F b6 b7 b8 b9 b10 b11 b12 t6 t7 t16 t23 t24 t25 A c W' :=
 ⟨h.ext.trans he,fun q=>⟨(h.h6 q).1,(h.h6 q).2.ext he⟩,h.h7,h.h8,h.h9,fun q=>let ⟨g,x,y,e1,e2,e3,e4⟩:=h.h10 q;⟨g,x,y,e1,e2,e3.ext he,e4⟩⟩
theorem cw.start:cw w1 ar nr rows F false false false false false false false t6 t7 t16 t23 t24 t25 none 0 w1.drew :=
 ⟨(Ext.refl w1).drew,(fun q=>by cases q),(fun q=>by cases q),(fun q=>by cases q),(fun q=>by cases q),(fun q=>by cases q)⟩
theorem cw.call(h:cw w1 ar nr rows F false false false false b10 false false t6 t7 t16 t23 t24 t25 A c W)(he:Ext W W')(hs:Sl aG F W' (.slice A' nr c') rows):cw w1 ar nr rows F true false false false b10 false false t6 t7 t16 (.tuple #[.agg #[.int .i64 ar,.slice A' nr c'],.bool true]) t24 t25 A' c' W':=by
 have k:=h.more he
 exact⟨k.ext,fun _=>⟨rfl,hs⟩,(fun q=>by cases q),(fun q=>by cases q),(fun q=>by cases q),fun q=>let ⟨g,x,y,e1,e2,e3,_⟩:=k.h10 q;⟨g,x,y,e1,e2,e3,(fun q=>by cases q)⟩⟩
theorem cw.mv(h:cw w1 ar nr rows F true false b8 b9 b10 b11 b12 t6 t7 t16 t23 t24 t25 A c W):cw w1 ar nr rows F true true b8 b9 b10 b11 b12 t6 t7 (.tuple #[.agg #[.int .i64 ar,.slice A nr c],.bool true]) t23 t24 t25 A c W:=⟨h.ext,h.h6,fun _=>rfl,h.h8,h.h9,h.h10⟩
theorem cw.e0(h:cw w1 ar nr rows F b6 b7 false b9 b10 b11 b12 t6 t7 t16 t23 t24 t25 A c W):cw w1 ar nr rows F b6 b7 true b9 b10 b11 b12 t6 t7 t16 t23 (.agg #[.int .i64 ar,.slice A nr c]) t25 A c W:=⟨h.ext,h.h6,h.h7,fun _=>rfl,h.h9,h.h10⟩
theorem cw.e1(h:cw w1 ar nr rows F b6 b7 b8 false b10 b11 b12 t6 t7 t16 t23 t24 t25 A c W):cw w1 ar nr rows F b6 b7 b8 true b10 b11 b12 t6 t7 t16 t23 t24 (.bool true) A c W:=⟨h.ext,h.h6,h.h7,h.h8,fun _=>rfl,h.h10⟩
theorem cw.box(h:cw w1 ar nr rows F b6 b7 b8 b9 false false b12 t6 t7 t16 t23 t24 t25 A c W):cw w1 ar nr rows F b6 b7 b8 b9 true false b12 (.pointer (some ⟨W.heap.size,0,none⟩)) t7 t16 t23 t24 t25 A c (W.alloc (.cells #[x,y] 179)):=by
 have k:=h.more ((Ext.refl W).alloc (.cells #[x,y] 179))
 exact⟨k.ext,k.h6,k.h7,k.h8,k.h9,fun _=>⟨_,x,y,rfl,h.ext.size,Bk.new W _ [x,y],(fun q=>by cases q)⟩⟩
theorem cw.store{g:Nat}(hF:∀k,F k→k<w1.heap.size)(h:cw w1 ar nr rows F true b7 b8 b9 true false b12 (.pointer (some ⟨g,0,none⟩)) t7 t16 t23 t24 t25 A c W):cw w1 ar nr rows F true b7 b8 b9 true true b12 (.pointer (some ⟨g,0,none⟩)) t7 t16 t23 t24 t25 A c ((W.setCell ⟨g,0,none⟩ (.int .i64 ar)).setCell ⟨g,1,none⟩ (.slice A nr c)):=by
 have hf:Fr (fun k=>k=g) W ((W.setCell ⟨g,0,none⟩ (.int .i64 ar)).setCell ⟨g,1,none⟩ (.slice A nr c)):=((Fr.refl (fun k=>k=g) W).setCell (p:=⟨g,0,none⟩) (.inl rfl) _).setCell (p:=⟨g,1,none⟩) (.inl rfl) _
 obtain⟨g',x,y,e,hg,hb,-⟩:=h.h10 rfl
 injection e with e
 injection e with e
 injection e with e
 subst e
 exact⟨hf.new h.ext (fun q hq=>by omega),fun q=>⟨(h.h6 q).1,(h.h6 q).2.fr hf (fun k hk e=>by have:=hF k hk;omega)⟩,h.h7,h.h8,h.h9,fun _=>⟨g,.int .i64 ar,.slice A nr c,rfl,hg,(hb.set 0 _).set 1 _,fun _=>⟨rfl,rfl⟩⟩⟩
theorem cw.asg(h:cw w1 ar nr rows F b6 b7 b8 b9 b10 b11 false t6 t7 t16 t23 t24 t25 A c W):cw w1 ar nr rows F b6 b7 b8 b9 b10 b11 true t6 v t16 t23 t24 t25 A c W:=⟨h.ext,h.h6,h.h7,h.h8,h.h9,h.h10⟩
end
structure ed(w1:World)(base n c0:Nat)(A0:Option Addr)(xs:List Tb)(css:List (List Value))(x:Tb)(b13 b14 b15 b16 b17:Bool)(t3 t39 t40 t41 t42:Value)(W:World):Prop where
 fr:Fr (fun k=>(Value.slice A0 n c0).ownBlock=some k) w1 W
 ext:b16=false→Ext w1 W
 h13:b13=true→b16=false→∃A' c',t39=.slice A' x.rows.length c'∧Sl aG (fun k=>w1.heap.size≤k) W (.slice A' x.rows.length c') x.rows
 h14:b14=true→b16=false→t40=.agg #[.string x.name,.int .i64 x.ar,t39]
 h15:b15=true→b16=false→∃V A' c',Ext w1 V∧W=V.alloc (.cells #[.string x.name,.int .i64 x.ar,.slice A' x.rows.length c'] 120)∧t41=.slice (some ⟨V.heap.size,0,none⟩) 1 1∧Sl aG (fun k=>w1.heap.size≤k) V (.slice A' x.rows.length c') x.rows
 h16:b16=true→∃A9 c9 cs,t42=.slice A9 (n+1) c9∧Rw ow W base 120 (.slice A9 (n+1) c9) (n+1) (xs++[x]) (css++[cs])
 h17:b17=true→t3=t42
section
variable {w1 W W':World} {base n c0:Nat} {A0 A':Option Addr} {xs:List Tb} {css:List (List Value)} {x:Tb} {b13 b14 b15 b16 b17:Bool} {t3 t39 t40 t41 t42 v9:Value} {c':Nat}
theorem ed.start:ed w1 base n c0 A0 xs css x false false false false false t3 t39 t40 t41 t42 w1.drew :=
 ⟨(Fr.refl _ w1).drew,fun _=>(Ext.refl w1).drew,(fun q=>by cases q),(fun q=>by cases q),(fun q=>by cases q),(fun q=>by cases q),(fun q=>by cases q)⟩
theorem ed.call(h:ed w1 base n c0 A0 xs css x false false false false false t3 t39 t40 t41 t42 W)(he:Ext W W')(hs:Sl aG (fun k=>w1.heap.size≤k) W' (.slice A' x.rows.length c') x.rows):ed w1 base n c0 A0 xs css x true false false false false t3 (.slice A' x.rows.length c') t40 t41 t42 W' :=
 ⟨((h.ext rfl).trans he).fr _,fun _=>(h.ext rfl).trans he,fun _ _=>⟨A',c',rfl,hs⟩,(fun q=>by cases q),(fun q=>by cases q),(fun q=>by cases q),(fun q=>by cases q)⟩
theorem ed.bld(h:ed w1 base n c0 A0 xs css x true false false false false t3 t39 t40 t41 t42 W):ed w1 base n c0 A0 xs css x true true false false false t3 t39 (.agg #[.string x.name,.int .i64 x.ar,t39]) t41 t42 W :=
 ⟨h.fr,h.ext,h.h13,fun _ _=>rfl,(fun q=>by cases q),(fun q=>by cases q),(fun q=>by cases q)⟩
theorem ed.bsl(h:ed w1 base n c0 A0 xs css x true true false false false t3 (.slice A' x.rows.length c') t40 t41 t42 W)(hs:Sl aG (fun k=>w1.heap.size≤k) W (.slice A' x.rows.length c') x.rows):ed w1 base n c0 A0 xs css x true true true false false t3 (.slice A' x.rows.length c') t40 (.slice (some ⟨W.heap.size,0,none⟩) 1 1) t42 (W.alloc (.cells #[.string x.name,.int .i64 x.ar,.slice A' x.rows.length c'] 120)) :=
 ⟨((h.ext rfl).alloc _).fr _,fun _=>(h.ext rfl).alloc _,fun _ _=>⟨A',c',rfl,hs.ext ((Ext.refl W).alloc _)⟩,h.h14,fun _ _=>⟨W,A',c',h.ext rfl,rfl,rfl,hs⟩,(fun q=>by cases q),(fun q=>by cases q)⟩
theorem ed.app{V:World}{A9:Option Addr}{c9:Nat}(hO:Rw ow w1 base 120 (.slice A0 n c0) n xs css)(hb:base≤w1.heap.size)(hx:Ext w1 V)(hs:Sl aG (fun k=>w1.heap.size≤k) V (.slice A' x.rows.length c') x.rows)(hr:W'.ownsRow base 120 3 (.slice A9 (n+1) c9) (n+1) (css.flatten++[.string x.name,.int .i64 x.ar,.slice A' x.rows.length c']))(hg:(V.alloc (.cells #[.string x.name,.int .i64 x.ar,.slice A' x.rows.length c'] 120)).grownBy W' (Value.slice A0 n c0).ownBlock)(hl:df (V.alloc (.cells #[.string x.name,.int .i64 x.ar,.slice A' x.rows.length c'] 120)) (.slice A0 n c0) (.slice A9 (n+1) c9)):ed w1 base n c0 A0 xs css x true true true true false t3 t39 t40 t41 (.slice A9 (n+1) c9) W':=by
 have se:Ext w1 (V.alloc (.cells #[.string x.name,.int .i64 x.ar,.slice A' x.rows.length c'] 120)):=hx.alloc _
 refine⟨Fr.comp (se.fr _) (am hg) (fun k hk=>.inl hk),(fun q=>by cases q),(fun _ q=>by cases q),(fun _ q=>by cases q),(fun _ q=>by cases q),fun _=>⟨A9,c9,[.string x.name,.int .i64 x.ar,.slice A' x.rows.length c'],rfl,?_⟩,(fun q=>by cases q)⟩
 refine hO.more se ⟨_,rfl,(hs.ext ((Ext.refl V).alloc _)).mono (by decide) (fun k _ hk=>⟨jr hb hk,fun e=>?_⟩)⟩ hr hg hl
 have:=aV hO.own e
 omega
theorem ed.asg(h:ed w1 base n c0 A0 xs css x b13 b14 b15 b16 false t3 t39 t40 t41 t42 W):ed w1 base n c0 A0 xs css x b13 b14 b15 b16 true t42 t39 t40 t41 t42 W:=⟨h.fr,h.ext,h.h13,h.h14,h.h15,h.h16,fun _=>rfl⟩
end
theorem info_tb:(Tryz.prog.info? 120).map (fun i=>(i.zero,i.size,i.bytes))=some (some (.agg #[.string ⟨#[]⟩,.int .i64 0,.slice none 0 0]),3,48):=by kernel_rfl
structure fw(w1:World)(g4 g7 b:Nat)(Q:Value→World→Prop)(b2 b3 b4 b5:Bool)(t5 t6 t43:Value)(W:World):Prop where
 cell:W.cell? ⟨g7,0,none⟩=some (.map (some b))
 ext:b3=false→Ext w1 W
 h2:b2=true→b3=false→Q t43 W
 h3:b3=true→∃V,Q t43 V∧Ext w1 V∧W=V.setCell ⟨g4,0,none⟩ (.map (some b))
 h4:b4=true→t5=t43
 h5:b5=true→t6=.bool true
section
variable {w1 W W':World} {g4 g7 b:Nat} {Q:Value→World→Prop} {b2 b3 b4 b5:Bool} {t5 t6 t43 v:Value}
theorem fw.start(h:w1.cell? ⟨g7,0,none⟩=some (.map (some b))):fw w1 g4 g7 b Q false false false false t5 t6 t43 w1.drew:=⟨(Ext.refl w1).drew.cell h,fun _=>(Ext.refl w1).drew,(fun q=>by cases q),(fun q=>by cases q),(fun q=>by cases q),(fun q=>by cases q)⟩
theorem fw.call(h:fw w1 g4 g7 b Q false false false false t5 t6 t43 W)(he:Ext W W')(hq:Q v W'):fw w1 g4 g7 b Q true false false false t5 t6 v W':=⟨he.cell h.cell,fun _=>(h.ext rfl).trans he,fun _ _=>hq,(fun q=>by cases q),(fun q=>by cases q),(fun q=>by cases q)⟩
theorem fw.store(se:g4≠g7)(h:fw w1 g4 g7 b Q true false false false t5 t6 t43 W):fw w1 g4 g7 b Q true true false false t5 t6 t43 (W.setCell ⟨g4,0,none⟩ (.map (some b))) :=
 ⟨by rw[World.cell?_setCell_other _ _ _ _ (by simp[se])];exact h.cell,(fun q=>by cases q),(fun _ q=>by cases q),fun _=>⟨W,h.h2 rfl rfl,h.ext rfl,rfl⟩,(fun q=>by cases q),(fun q=>by cases q)⟩
theorem fw.a4(h:fw w1 g4 g7 b Q b2 b3 false b5 t5 t6 t43 W):fw w1 g4 g7 b Q b2 b3 true b5 t43 t6 t43 W:=⟨h.cell,h.ext,h.h2,h.h3,fun _=>rfl,h.h5⟩
theorem fw.a5(h:fw w1 g4 g7 b Q b2 b3 b4 false t5 t6 t43 W):fw w1 g4 g7 b Q b2 b3 b4 true t5 (.bool true) t43 W:=⟨h.cell,h.ext,h.h2,h.h3,h.h4,fun _=>rfl⟩
end
noncomputable def dbsRg:Code:=((Tryz.f12.body.bind (aK 7)).getD .skip)
inductive aL(w1:World)(u:Up)(P:Nat→Nat→Option Nat→Int→World→Prop)(Fz:Value→Value→Value→Value→Value→Value→Value→Value→Value→ Act):Nat→Array Bool→Act→World→Prop
 | s0 {t10 t11 t12 t27 t33 t34 t35 t36 t37:Value} {mb:Option Nat} {k:Int} {er:Int} {c:Nat} {d:Nat} {W:World} (h:aX w1 u P false false false false false false false false false false t10 t11 t12 t27 t33 t34 t35 t36 t37 mb k er c d W):aL w1 u P Fz 10 #[true,true,true,true,true,false,false,false,false,false,false,false,false,false,false] (Fz t10 t11 t12 t27 t33 t34 t35 t36 t37) W
 | s1 {t10 t11 t12 t27 t33 t34 t35 t36 t37:Value} {mb:Option Nat} {k:Int} {er:Int} {c:Nat} {d:Nat} {W:World} (h:aX w1 u P true false false false false false false false false false t10 t11 t12 t27 t33 t34 t35 t36 t37 mb k er c d W):aL w1 u P Fz 9 #[true,true,true,true,true,true,false,false,false,false,false,false,false,false,false] (Fz t10 t11 t12 t27 t33 t34 t35 t36 t37) W
 | s2 {t10 t11 t12 t27 t33 t34 t35 t36 t37:Value} {mb:Option Nat} {k:Int} {er:Int} {c:Nat} {d:Nat} {W:World} (h:aX w1 u P false false false false false false true false false false t10 t11 t12 t27 t33 t34 t35 t36 t37 mb k er c d W):aL w1 u P Fz 9 #[true,true,true,true,true,false,false,false,false,false,false,true,false,false,false] (Fz t10 t11 t12 t27 t33 t34 t35 t36 t37) W
 | s3 {t10 t11 t12 t27 t33 t34 t35 t36 t37:Value} {mb:Option Nat} {k:Int} {er:Int} {c:Nat} {d:Nat} {W:World} (h:aX w1 u P true true false false false false false false false false t10 t11 t12 t27 t33 t34 t35 t36 t37 mb k er c d W):aL w1 u P Fz 8 #[true,true,true,true,true,true,true,false,false,false,false,false,false,false,false] (Fz t10 t11 t12 t27 t33 t34 t35 t36 t37) W
 | s4 {t10 t11 t12 t27 t33 t34 t35 t36 t37:Value} {mb:Option Nat} {k:Int} {er:Int} {c:Nat} {d:Nat} {W:World} (h:aX w1 u P true false false false false false true false false false t10 t11 t12 t27 t33 t34 t35 t36 t37 mb k er c d W):aL w1 u P Fz 8 #[true,true,true,true,true,true,false,false,false,false,false,true,false,false,false] (Fz t10 t11 t12 t27 t33 t34 t35 t36 t37) W
 | s5 {t10 t11 t12 t27 t33 t34 t35 t36 t37:Value} {mb:Option Nat} {k:Int} {er:Int} {c:Nat} {d:Nat} {W:World} (h:aX w1 u P true true true false false false false false false false t10 t11 t12 t27 t33 t34 t35 t36 t37 mb k er c d W):aL w1 u P Fz 7 #[true,true,true,true,true,true,true,true,false,false,false,false,false,false,false] (Fz t10 t11 t12 t27 t33 t34 t35 t36 t37) W
 | s6 {t10 t11 t12 t27 t33 t34 t35 t36 t37:Value} {mb:Option Nat} {k:Int} {er:Int} {c:Nat} {d:Nat} {W:World} (h:aX w1 u P true true false false false false true false false false t10 t11 t12 t27 t33 t34 t35 t36 t37 mb k er c d W):aL w1 u P Fz 7 #[true,true,true,true,true,true,true,false,false,false,false,true,false,false,false] (Fz t10 t11 t12 t27 t33 t34 t35 t36 t37) W
 | s7 {t10 t11 t12 t27 t33 t34 t35 t36 t37:Value} {mb:Option Nat} {k:Int} {er:Int} {c:Nat} {d:Nat} {W:World} (h:aX w1 u P true true true true false false false false false false t10 t11 t12 t27 t33 t34 t35 t36 t37 mb k er c d W):aL w1 u P Fz 6 #[true,true,true,true,true,true,true,true,true,false,false,false,false,false,false] (Fz t10 t11 t12 t27 t33 t34 t35 t36 t37) W
 | s8 {t10 t11 t12 t27 t33 t34 t35 t36 t37:Value} {mb:Option Nat} {k:Int} {er:Int} {c:Nat} {d:Nat} {W:World} (h:aX w1 u P true true true false true false false false false false t10 t11 t12 t27 t33 t34 t35 t36 t37 mb k er c d W):aL w1 u P Fz 6 #[true,true,true,true,true,true,true,true,false,true,false,false,false,false,false] (Fz t10 t11 t12 t27 t33 t34 t35 t36 t37) W
 | s9 {t10 t11 t12 t27 t33 t34 t35 t36 t37:Value} {mb:Option Nat} {k:Int} {er:Int} {c:Nat} {d:Nat} {W:World} (h:aX w1 u P true true true false false true false false false false t10 t11 t12 t27 t33 t34 t35 t36 t37 mb k er c d W):aL w1 u P Fz 6 #[true,true,true,true,true,true,true,true,false,false,true,false,false,false,false] (Fz t10 t11 t12 t27 t33 t34 t35 t36 t37) W
 | s10 {t10 t11 t12 t27 t33 t34 t35 t36 t37:Value} {mb:Option Nat} {k:Int} {er:Int} {c:Nat} {d:Nat} {W:World} (h:aX w1 u P true true true false false false true false false false t10 t11 t12 t27 t33 t34 t35 t36 t37 mb k er c d W):aL w1 u P Fz 6 #[true,true,true,true,true,true,true,true,false,false,false,true,false,false,false] (Fz t10 t11 t12 t27 t33 t34 t35 t36 t37) W
 | s11 {t10 t11 t12 t27 t33 t34 t35 t36 t37:Value} {mb:Option Nat} {k:Int} {er:Int} {c:Nat} {d:Nat} {W:World} (h:aX w1 u P true true true true true false false false false false t10 t11 t12 t27 t33 t34 t35 t36 t37 mb k er c d W):aL w1 u P Fz 5 #[true,true,true,true,true,true,true,true,true,true,false,false,false,false,false] (Fz t10 t11 t12 t27 t33 t34 t35 t36 t37) W
 | s12 {t10 t11 t12 t27 t33 t34 t35 t36 t37:Value} {mb:Option Nat} {k:Int} {er:Int} {c:Nat} {d:Nat} {W:World} (h:aX w1 u P true true true true false true false false false false t10 t11 t12 t27 t33 t34 t35 t36 t37 mb k er c d W):aL w1 u P Fz 5 #[true,true,true,true,true,true,true,true,true,false,true,false,false,false,false] (Fz t10 t11 t12 t27 t33 t34 t35 t36 t37) W
 | s13 {t10 t11 t12 t27 t33 t34 t35 t36 t37:Value} {mb:Option Nat} {k:Int} {er:Int} {c:Nat} {d:Nat} {W:World} (h:aX w1 u P true true true true false false true false false false t10 t11 t12 t27 t33 t34 t35 t36 t37 mb k er c d W):aL w1 u P Fz 5 #[true,true,true,true,true,true,true,true,true,false,false,true,false,false,false] (Fz t10 t11 t12 t27 t33 t34 t35 t36 t37) W
 | s14 {t10 t11 t12 t27 t33 t34 t35 t36 t37:Value} {mb:Option Nat} {k:Int} {er:Int} {c:Nat} {d:Nat} {W:World} (h:aX w1 u P true true true false true true false false false false t10 t11 t12 t27 t33 t34 t35 t36 t37 mb k er c d W):aL w1 u P Fz 5 #[true,true,true,true,true,true,true,true,false,true,true,false,false,false,false] (Fz t10 t11 t12 t27 t33 t34 t35 t36 t37) W
 | s15 {t10 t11 t12 t27 t33 t34 t35 t36 t37:Value} {mb:Option Nat} {k:Int} {er:Int} {c:Nat} {d:Nat} {W:World} (h:aX w1 u P true true true false true false true false false false t10 t11 t12 t27 t33 t34 t35 t36 t37 mb k er c d W):aL w1 u P Fz 5 #[true,true,true,true,true,true,true,true,false,true,false,true,false,false,false] (Fz t10 t11 t12 t27 t33 t34 t35 t36 t37) W
 | s16 {t10 t11 t12 t27 t33 t34 t35 t36 t37:Value} {mb:Option Nat} {k:Int} {er:Int} {c:Nat} {d:Nat} {W:World} (h:aX w1 u P true true true false false true true false false false t10 t11 t12 t27 t33 t34 t35 t36 t37 mb k er c d W):aL w1 u P Fz 5 #[true,true,true,true,true,true,true,true,false,false,true,true,false,false,false] (Fz t10 t11 t12 t27 t33 t34 t35 t36 t37) W
 | s17 {t10 t11 t12 t27 t33 t34 t35 t36 t37:Value} {mb:Option Nat} {k:Int} {er:Int} {c:Nat} {d:Nat} {W:World} (h:aX w1 u P true true true true true true false false false false t10 t11 t12 t27 t33 t34 t35 t36 t37 mb k er c d W):aL w1 u P Fz 4 #[true,true,true,true,true,true,true,true,true,true,true,false,false,false,false] (Fz t10 t11 t12 t27 t33 t34 t35 t36 t37) W
 | s18 {t10 t11 t12 t27 t33 t34 t35 t36 t37:Value} {mb:Option Nat} {k:Int} {er:Int} {c:Nat} {d:Nat} {W:World} (h:aX w1 u P true true true true true false true false false false t10 t11 t12 t27 t33 t34 t35 t36 t37 mb k er c d W):aL w1 u P Fz 4 #[true,true,true,true,true,true,true,true,true,true,false,true,false,false,false] (Fz t10 t11 t12 t27 t33 t34 t35 t36 t37) W
 | s19 {t10 t11 t12 t27 t33 t34 t35 t36 t37:Value} {mb:Option Nat} {k:Int} {er:Int} {c:Nat} {d:Nat} {W:World} (h:aX w1 u P true true true true false true true false false false t10 t11 t12 t27 t33 t34 t35 t36 t37 mb k er c d W):aL w1 u P Fz 4 #[true,true,true,true,true,true,true,true,true,false,true,true,false,false,false] (Fz t10 t11 t12 t27 t33 t34 t35 t36 t37) W
 | s20 {t10 t11 t12 t27 t33 t34 t35 t36 t37:Value} {mb:Option Nat} {k:Int} {er:Int} {c:Nat} {d:Nat} {W:World} (h:aX w1 u P true true true true false false true true false false t10 t11 t12 t27 t33 t34 t35 t36 t37 mb k er c d W):aL w1 u P Fz 4 #[true,true,true,true,true,true,true,true,true,false,false,true,true,false,false] (Fz t10 t11 t12 t27 t33 t34 t35 t36 t37) W
 | s21 {t10 t11 t12 t27 t33 t34 t35 t36 t37:Value} {mb:Option Nat} {k:Int} {er:Int} {c:Nat} {d:Nat} {W:World} (h:aX w1 u P true true true false true true true false false false t10 t11 t12 t27 t33 t34 t35 t36 t37 mb k er c d W):aL w1 u P Fz 4 #[true,true,true,true,true,true,true,true,false,true,true,true,false,false,false] (Fz t10 t11 t12 t27 t33 t34 t35 t36 t37) W
 | s22 {t10 t11 t12 t27 t33 t34 t35 t36 t37:Value} {mb:Option Nat} {k:Int} {er:Int} {c:Nat} {d:Nat} {W:World} (h:aX w1 u P true true true true true true true false false false t10 t11 t12 t27 t33 t34 t35 t36 t37 mb k er c d W):aL w1 u P Fz 3 #[true,true,true,true,true,true,true,true,true,true,true,true,false,false,false] (Fz t10 t11 t12 t27 t33 t34 t35 t36 t37) W
 | s23 {t10 t11 t12 t27 t33 t34 t35 t36 t37:Value} {mb:Option Nat} {k:Int} {er:Int} {c:Nat} {d:Nat} {W:World} (h:aX w1 u P true true true true true false true true false false t10 t11 t12 t27 t33 t34 t35 t36 t37 mb k er c d W):aL w1 u P Fz 3 #[true,true,true,true,true,true,true,true,true,true,false,true,true,false,false] (Fz t10 t11 t12 t27 t33 t34 t35 t36 t37) W
 | s24 {t10 t11 t12 t27 t33 t34 t35 t36 t37:Value} {mb:Option Nat} {k:Int} {er:Int} {c:Nat} {d:Nat} {W:World} (h:aX w1 u P true true true true false true true true false false t10 t11 t12 t27 t33 t34 t35 t36 t37 mb k er c d W):aL w1 u P Fz 3 #[true,true,true,true,true,true,true,true,true,false,true,true,true,false,false] (Fz t10 t11 t12 t27 t33 t34 t35 t36 t37) W
 | s25 {t10 t11 t12 t27 t33 t34 t35 t36 t37:Value} {mb:Option Nat} {k:Int} {er:Int} {c:Nat} {d:Nat} {W:World} (h:aX w1 u P true true true true true true true true false false t10 t11 t12 t27 t33 t34 t35 t36 t37 mb k er c d W):aL w1 u P Fz 2 #[true,true,true,true,true,true,true,true,true,true,true,true,true,false,false] (Fz t10 t11 t12 t27 t33 t34 t35 t36 t37) W
 | s26 {t10 t11 t12 t27 t33 t34 t35 t36 t37:Value} {mb:Option Nat} {k:Int} {er:Int} {c:Nat} {d:Nat} {W:World} (h:aX w1 u P true true true true true false true true true false t10 t11 t12 t27 t33 t34 t35 t36 t37 mb k er c d W):aL w1 u P Fz 2 #[true,true,true,true,true,true,true,true,true,true,false,true,true,true,false] (Fz t10 t11 t12 t27 t33 t34 t35 t36 t37) W
 | s27 {t10 t11 t12 t27 t33 t34 t35 t36 t37:Value} {mb:Option Nat} {k:Int} {er:Int} {c:Nat} {d:Nat} {W:World} (h:aX w1 u P true true true true true true true true true false t10 t11 t12 t27 t33 t34 t35 t36 t37 mb k er c d W):aL w1 u P Fz 1 #[true,true,true,true,true,true,true,true,true,true,true,true,true,true,false] (Fz t10 t11 t12 t27 t33 t34 t35 t36 t37) W
 | s28 {t10 t11 t12 t27 t33 t34 t35 t36 t37:Value} {mb:Option Nat} {k:Int} {er:Int} {c:Nat} {d:Nat} {W:World} (h:aX w1 u P true true true true true true true true true true t10 t11 t12 t27 t33 t34 t35 t36 t37 mb k er c d W):aL w1 u P Fz 0 #[true,true,true,true,true,true,true,true,true,true,true,true,true,true,true] (Fz t10 t11 t12 t27 t33 t34 t35 t36 t37) W
theorem dbs_reg{K:Act→World→Prop}{Q:Exit→Act→World→Prop}{w1:World}{u:Up}{P:Nat→Nat→Option Nat→Int→World→Prop}{g0 i nu cu b d0:Nat}{ad:Addr}{B:Option Addr}{G0:Nat→Prop}{u0 u2 u3 u4 u5 u6 u8 sj sp sq sr su sw sx sy sA sB sC sD sE sF sG sH sI sJ sK sL sQ sR sS sT sU sV sW sX sY z28 z29 sZ ta z32:Value}(b0:w1.cell? ⟨g0,0,none⟩=some (.map (some b)))(i1:(0:Int)≤(i:Int))(i2:(i:Int)<(nu:Int))(c0:w1.cell? (ad.add (i*3))=some (.bool u.del))(c1:w1.cell? ⟨(ad.add (i*3)).block,(ad.add (i*3)).off+1,none⟩=some (.string u.rel))(c2:w1.cell? ⟨(ad.add (i*3)).block,(ad.add (i*3)).off+2,none⟩=some (.slice B u.row.length d0))(sh:Sl aM G0 w1 (.slice B u.row.length d0) u.row)(hP:PSt w1 P)(sM:Hid (∀V S G,Ext w1 V→Sl fJ G V (.slice (some S) 1 1) [u]→Calls Tryz.prog 33 #[.agg #[.map (some b)],.slice (some S) 1 1] V (fun e W=>Ext V W∧∃mb k er,e=.returned (.tuple #[.agg #[.map mb],.int .i64 k,.int .i64 er])∧P V.heap.size W.heap.size mb er W)))(hK:∀g t27 t33 t34 t35 t36 t37 mb k er c d W,Ext w1 W→P c d mb er W→w1.heap.size≤g→w1.heap.size≤c→d≤W.heap.size→Bk W g 33 [.map mb]→K ⟨#[u0,.slice (some ad) nu cu,u2,u3,u4,u5,u6,.pointer (some ⟨g0,0,none⟩),u8,.int .i64 (i:Int),.pointer (some ⟨g,0,none⟩),.int .i64 k,.int .i64 er,sj,sp,sq,sr,su,sw,sx,sy,sA,sB,sC,sD,sE,sF,t27,.agg #[.map (some b)],.slice (some ad) nu cu,.int .i64 (i:Int),.pointer (some (ad.add (i*3))),.agg #[.bool u.del,.string u.rel,.slice B u.row.length d0],t33,t34,t35,t36,t37,sG,sH,sI,sJ,sK,sL],[]⟩ W) :
  Code.wp Tryz.prog dbsRg (Exit.then K Q) ⟨#[u0,.slice (some ad) nu cu,u2,u3,u4,u5,u6,.pointer (some ⟨g0,0,none⟩),u8,.int .i64 (i:Int),sQ,sR,sS,sj,sp,sq,sr,su,sw,sx,sy,sA,sB,sC,sD,sE,sF,sT,z28,z29,sZ,ta,z32,sU,sV,sW,sX,sY,sG,sH,sI,sJ,sK,sL],[]⟩ w1:=by
 have HK:=zN hK
 clear hK
 conv=>arg 2;whnf
 refine cR ?_
 refine wp_region_held_drew (S:=fun V=>Ext w1 V) (by kernel_rfl) (Ext.refl w1).drew (fun se=>?_)
 refine wpAnyH_take (i:=0) (oi:=?ox0) (v:=.agg #[.map (some b)]) ?hx0 (by kernel_rfl) (by kernel_rfl) (by kernel_rfl) (fun _ _ _ h=>h) (Or.inl ⟨?wx0,?yx0⟩) se ?rx0
 case hx0=>simp only[jd,jb,jc];rfl
 case wx0=>rfl
 case yx0 =>
  intro V sg
  have q0:=Ext.cell sg b0
  simp[go_sem,q0] <;> with_reducible rfl
 (try simp only[Act.put,jg,jh,ji])
 refine wpAnyH_take (i:=1) (oi:=?ox1) (v:=.slice (some ad) nu cu) ?hx1 (by kernel_rfl) (by kernel_rfl) (by kernel_rfl) (fun _ _ _ h=>h) (Or.inl ⟨?wx1,?yx1⟩) se ?rx1
 case hx1=>simp only[jd,jb,jc];rfl
 case wx1=>rfl
 case yx1 =>
  intro V sg

  simp[go_sem] <;> with_reducible rfl
 (try simp only[Act.put,jg,jh,ji])
 refine wpAnyH_take (i:=2) (oi:=?ox2) (v:=.int .i64 (i:Int)) ?hx2 (by kernel_rfl) (by kernel_rfl) (by kernel_rfl) (fun _ _ _ h=>h) (Or.inl ⟨?wx2,?yx2⟩) se ?rx2
 case hx2=>simp only[jd,jb,jc];rfl
 case wx2=>rfl
 case yx2 =>
  intro V sg

  simp[go_sem] <;> with_reducible rfl
 (try simp only[Act.put,jg,jh,ji])
 refine wpAnyH_take (i:=3) (oi:=?ox3) (v:=.pointer (some (ad.add (i*3)))) ?hx3 (by kernel_rfl) (by kernel_rfl) (by kernel_rfl) (fun _ _ _ h=>h) (Or.inl ⟨?wx3,?yx3⟩) se ?rx3
 case hx3=>simp only[jd,jb,jc];rfl
 case wx3=>rfl
 case yx3 =>
  intro V sg

  simp[go_sem,i1,i2] <;> with_reducible rfl
 (try simp only[Act.put,jg,jh,ji])
 refine wpAnyH_take (i:=4) (oi:=?ox4) (v:=.agg #[.bool u.del,.string u.rel,.slice B u.row.length d0]) ?hx4 (by kernel_rfl) (by kernel_rfl) (by kernel_rfl) (fun _ _ _ h=>h) (Or.inl ⟨?wx4,?yx4⟩) se ?rx4
 case hx4=>simp only[jd,jb,jc];rfl
 case wx4=>rfl
 case yx4 =>
  intro V sg
  have q0:=Ext.cell sg c0
  have q1:=Ext.cell sg c1
  have q2:=Ext.cell sg c2
  simp[go_sem,q0,q1,q2] <;> with_reducible rfl
 (try simp only[Act.put,jg,jh,ji])
 clear b0 c0 c1 c2
 refine cD (I:=aL w1 u P (fun t10 t11 t12 t27 t33 t34 t35 t36 t37=>⟨#[u0,.slice (some ad) nu cu,u2,u3,u4,u5,u6,.pointer (some ⟨g0,0,none⟩),u8,.int .i64 (i:Int),t10,t11,t12,sj,sp,sq,sr,su,sw,sx,sy,sA,sB,sC,sD,sE,sF,t27,.agg #[.map (some b)],.slice (some ad) nu cu,.int .i64 (i:Int),.pointer (some (ad.add (i*3))),.agg #[.bool u.del,.string u.rel,.slice B u.row.length d0],t33,t34,t35,t36,t37,sG,sH,sI,sJ,sK,sL],[]⟩)) ?hS ?h0 ?h1 _ _ _ _ ?st
 case hS =>
  intro n l sN W hI
  cases hI with
  | s0 h=>exact h.ext
  | s1 h=>exact h.ext
  | s2 h=>exact h.ext
  | s3 h=>exact h.ext
  | s4 h=>exact h.ext
  | s5 h=>exact h.ext
  | s6 h=>exact h.ext
  | s7 h=>exact h.ext
  | s8 h=>exact h.ext
  | s9 h=>exact h.ext
  | s10 h=>exact h.ext
  | s11 h=>exact h.ext
  | s12 h=>exact h.ext
  | s13 h=>exact h.ext
  | s14 h=>exact h.ext
  | s15 h=>exact h.ext
  | s16 h=>exact h.ext
  | s17 h=>exact h.ext
  | s18 h=>exact h.ext
  | s19 h=>exact h.ext
  | s20 h=>exact h.ext
  | s21 h=>exact h.ext
  | s22 h=>exact h.ext
  | s23 h=>exact h.ext
  | s24 h=>exact h.ext
  | s25 h=>exact h.ext
  | s26 h=>exact h.ext
  | s27 h=>exact h.ext
  | s28 h=>exact h.ext
 case st=>exact aL.s0 aX.start
 case h0 =>
  intro l sN W hI
  cases hI with
  | s28 h =>
   refine⟨by kernel_rfl,?_⟩
   obtain⟨g,rfl,hg,-,-,x,hb,hx⟩:=h.h11 rfl
   obtain rfl:=hx rfl
   obtain rfl:=h.h13 rfl
   obtain rfl:=h.h14 rfl
   exact HK.out _ _ _ _ _ _ _ _ _ _ _ _ _ h.ext (h.h6 rfl).2 hg (h.hc rfl).1 (h.hc rfl).2 hb
 case h1 =>
  intro m l sN W hI
  cases hI with
  | s0 h =>
   refine ab (rs:=[5,11]) (by kernel_rfl) (by simp) ?_
   refine aa (o:=?a0_5) ?b0_5 (fun K hK=>?c0_5) ?d0_5
   case b0_5=>simp only[jd,jb,jc];rfl
   case c0_5 =>
    go_simp
    exact hK.out _ _ (aL.s1 (h.bld hP ((Ext.refl W).alloc _) (one_up W (sh.ext h.ext))))
   refine aa (o:=?a0_11) ?b0_11 (fun K hK=>?c0_11) ?d0_11
   case b0_11=>simp only[jd,jb,jc];rfl
   case c0_11 =>
    go_simp
    exact hK.out _ _ (aL.s2 (h.box hP))
   exact ah
  | s1 h =>
   refine ab (rs:=[6,11]) (by kernel_rfl) (by simp) ?_
   refine aa (o:=?a1_6) ?b1_6 (fun K hK=>?c1_6) ?d1_6
   case b1_6=>simp only[jd,jb,jc];rfl
   case c1_6 =>
    obtain⟨S,G,rfl,hs⟩:=h.h5 rfl rfl
    have hx:=h.ext
    go_simp
    go_at_call 33
    (with_reducible refine(sM.out _ _ _ hx hs).mono ?_)
    rintro e W2 ⟨he,sP,k2,sO,rfl,hp⟩
    (try simp only[Act.put,jg,jh,ji])
    exact hK.out _ _ (aL.s3 (h.call he hp))
   refine aa (o:=?a1_11) ?b1_11 (fun K hK=>?c1_11) ?d1_11
   case b1_11=>simp only[jd,jb,jc];rfl
   case c1_11 =>
    go_simp
    exact hK.out _ _ (aL.s4 (h.box hP))
   exact ah
  | s2 h =>
   refine ab (rs:=[5]) (by kernel_rfl) (by simp) ?_
   refine aa (o:=?a2_5) ?b2_5 (fun K hK=>?c2_5) ?d2_5
   case b2_5=>simp only[jd,jb,jc];rfl
   case c2_5 =>
    go_simp
    exact hK.out _ _ (aL.s4 (h.bld hP ((Ext.refl W).alloc _) (one_up W (sh.ext h.ext))))
   exact ah
  | s3 h =>
   refine ab (rs:=[7,11]) (by kernel_rfl) (by simp) ?_
   refine aa (o:=?a3_7) ?b3_7 (fun K hK=>?c3_7) ?d3_7
   case b3_7=>simp only[jd,jb,jc];rfl
   case c3_7 =>
    obtain rfl:=(h.h6 rfl).1
    go_simp
    exact hK.out _ _ (aL.s5 (h.mv))
   refine aa (o:=?a3_11) ?b3_11 (fun K hK=>?c3_11) ?d3_11
   case b3_11=>simp only[jd,jb,jc];rfl
   case c3_11 =>
    go_simp
    exact hK.out _ _ (aL.s6 (h.box hP))
   exact ah
  | s4 h =>
   refine ab (rs:=[6]) (by kernel_rfl) (by simp) ?_
   refine aa (o:=?a4_6) ?b4_6 (fun K hK=>?c4_6) ?d4_6
   case b4_6=>simp only[jd,jb,jc];rfl
   case c4_6 =>
    obtain⟨S,G,rfl,hs⟩:=h.h5 rfl rfl
    have hx:=h.ext
    go_simp
    go_at_call 33
    (with_reducible refine(sM.out _ _ _ hx hs).mono ?_)
    rintro e W2 ⟨he,sP,k2,sO,rfl,hp⟩
    (try simp only[Act.put,jg,jh,ji])
    exact hK.out _ _ (aL.s6 (h.call he hp))
   exact ah
  | s5 h =>
   refine ab (rs:=[8,9,10,11]) (by kernel_rfl) (by simp) ?_
   refine aa (o:=?a5_8) ?b5_8 (fun K hK=>?c5_8) ?d5_8
   case b5_8=>simp only[jd,jb,jc];rfl
   case c5_8 =>
    obtain rfl:=h.h7 rfl
    go_simp
    exact hK.out _ _ (aL.s7 (h.e0))
   refine aa (o:=?a5_9) ?b5_9 (fun K hK=>?c5_9) ?d5_9
   case b5_9=>simp only[jd,jb,jc];rfl
   case c5_9 =>
    obtain rfl:=h.h7 rfl
    go_simp
    exact hK.out _ _ (aL.s8 (h.e1))
   refine aa (o:=?a5_10) ?b5_10 (fun K hK=>?c5_10) ?d5_10
   case b5_10=>simp only[jd,jb,jc];rfl
   case c5_10 =>
    obtain rfl:=h.h7 rfl
    go_simp
    exact hK.out _ _ (aL.s9 (h.e2))
   refine aa (o:=?a5_11) ?b5_11 (fun K hK=>?c5_11) ?d5_11
   case b5_11=>simp only[jd,jb,jc];rfl
   case c5_11 =>
    go_simp
    exact hK.out _ _ (aL.s10 (h.box hP))
   exact ah
  | s6 h =>
   refine ab (rs:=[7]) (by kernel_rfl) (by simp) ?_
   refine aa (o:=?a6_7) ?b6_7 (fun K hK=>?c6_7) ?d6_7
   case b6_7=>simp only[jd,jb,jc];rfl
   case c6_7 =>
    obtain rfl:=(h.h6 rfl).1
    go_simp
    exact hK.out _ _ (aL.s10 (h.mv))
   exact ah
  | s7 h =>
   refine ab (rs:=[9,10,11]) (by kernel_rfl) (by simp) ?_
   refine aa (o:=?a7_9) ?b7_9 (fun K hK=>?c7_9) ?d7_9
   case b7_9=>simp only[jd,jb,jc];rfl
   case c7_9 =>
    obtain rfl:=h.h7 rfl
    go_simp
    exact hK.out _ _ (aL.s11 (h.e1))
   refine aa (o:=?a7_10) ?b7_10 (fun K hK=>?c7_10) ?d7_10
   case b7_10=>simp only[jd,jb,jc];rfl
   case c7_10 =>
    obtain rfl:=h.h7 rfl
    go_simp
    exact hK.out _ _ (aL.s12 (h.e2))
   refine aa (o:=?a7_11) ?b7_11 (fun K hK=>?c7_11) ?d7_11
   case b7_11=>simp only[jd,jb,jc];rfl
   case c7_11 =>
    go_simp
    exact hK.out _ _ (aL.s13 (h.box hP))
   exact ah
  | s8 h =>
   refine ab (rs:=[8,10,11]) (by kernel_rfl) (by simp) ?_
   refine aa (o:=?a8_8) ?b8_8 (fun K hK=>?c8_8) ?d8_8
   case b8_8=>simp only[jd,jb,jc];rfl
   case c8_8 =>
    obtain rfl:=h.h7 rfl
    go_simp
    exact hK.out _ _ (aL.s11 (h.e0))
   refine aa (o:=?a8_10) ?b8_10 (fun K hK=>?c8_10) ?d8_10
   case b8_10=>simp only[jd,jb,jc];rfl
   case c8_10 =>
    obtain rfl:=h.h7 rfl
    go_simp
    exact hK.out _ _ (aL.s14 (h.e2))
   refine aa (o:=?a8_11) ?b8_11 (fun K hK=>?c8_11) ?d8_11
   case b8_11=>simp only[jd,jb,jc];rfl
   case c8_11 =>
    go_simp
    exact hK.out _ _ (aL.s15 (h.box hP))
   exact ah
  | s9 h =>
   refine ab (rs:=[8,9,11]) (by kernel_rfl) (by simp) ?_
   refine aa (o:=?a9_8) ?b9_8 (fun K hK=>?c9_8) ?d9_8
   case b9_8=>simp only[jd,jb,jc];rfl
   case c9_8 =>
    obtain rfl:=h.h7 rfl
    go_simp
    exact hK.out _ _ (aL.s12 (h.e0))
   refine aa (o:=?a9_9) ?b9_9 (fun K hK=>?c9_9) ?d9_9
   case b9_9=>simp only[jd,jb,jc];rfl
   case c9_9 =>
    obtain rfl:=h.h7 rfl
    go_simp
    exact hK.out _ _ (aL.s14 (h.e1))
   refine aa (o:=?a9_11) ?b9_11 (fun K hK=>?c9_11) ?d9_11
   case b9_11=>simp only[jd,jb,jc];rfl
   case c9_11 =>
    go_simp
    exact hK.out _ _ (aL.s16 (h.box hP))
   exact ah
  | s10 h =>
   refine ab (rs:=[8,9,10]) (by kernel_rfl) (by simp) ?_
   refine aa (o:=?a10_8) ?b10_8 (fun K hK=>?c10_8) ?d10_8
   case b10_8=>simp only[jd,jb,jc];rfl
   case c10_8 =>
    obtain rfl:=h.h7 rfl
    go_simp
    exact hK.out _ _ (aL.s13 (h.e0))
   refine aa (o:=?a10_9) ?b10_9 (fun K hK=>?c10_9) ?d10_9
   case b10_9=>simp only[jd,jb,jc];rfl
   case c10_9 =>
    obtain rfl:=h.h7 rfl
    go_simp
    exact hK.out _ _ (aL.s15 (h.e1))
   refine aa (o:=?a10_10) ?b10_10 (fun K hK=>?c10_10) ?d10_10
   case b10_10=>simp only[jd,jb,jc];rfl
   case c10_10 =>
    obtain rfl:=h.h7 rfl
    go_simp
    exact hK.out _ _ (aL.s16 (h.e2))
   exact ah
  | s11 h =>
   refine ab (rs:=[10,11]) (by kernel_rfl) (by simp) ?_
   refine aa (o:=?a11_10) ?b11_10 (fun K hK=>?c11_10) ?d11_10
   case b11_10=>simp only[jd,jb,jc];rfl
   case c11_10 =>
    obtain rfl:=h.h7 rfl
    go_simp
    exact hK.out _ _ (aL.s17 (h.e2))
   refine aa (o:=?a11_11) ?b11_11 (fun K hK=>?c11_11) ?d11_11
   case b11_11=>simp only[jd,jb,jc];rfl
   case c11_11 =>
    go_simp
    exact hK.out _ _ (aL.s18 (h.box hP))
   exact ah
  | s12 h =>
   refine ab (rs:=[9,11]) (by kernel_rfl) (by simp) ?_
   refine aa (o:=?a12_9) ?b12_9 (fun K hK=>?c12_9) ?d12_9
   case b12_9=>simp only[jd,jb,jc];rfl
   case c12_9 =>
    obtain rfl:=h.h7 rfl
    go_simp
    exact hK.out _ _ (aL.s17 (h.e1))
   refine aa (o:=?a12_11) ?b12_11 (fun K hK=>?c12_11) ?d12_11
   case b12_11=>simp only[jd,jb,jc];rfl
   case c12_11 =>
    go_simp
    exact hK.out _ _ (aL.s19 (h.box hP))
   exact ah
  | s13 h =>
   refine ab (rs:=[9,10,12]) (by kernel_rfl) (by simp) ?_
   refine aa (o:=?a13_9) ?b13_9 (fun K hK=>?c13_9) ?d13_9
   case b13_9=>simp only[jd,jb,jc];rfl
   case c13_9 =>
    obtain rfl:=h.h7 rfl
    go_simp
    exact hK.out _ _ (aL.s18 (h.e1))
   refine aa (o:=?a13_10) ?b13_10 (fun K hK=>?c13_10) ?d13_10
   case b13_10=>simp only[jd,jb,jc];rfl
   case c13_10 =>
    obtain rfl:=h.h7 rfl
    go_simp
    exact hK.out _ _ (aL.s19 (h.e2))
   refine aa (o:=?a13_12) ?b13_12 (fun K hK=>?c13_12) ?d13_12
   case b13_12=>simp only[jd,jb,jc];rfl
   case c13_12 =>
    obtain rfl:=h.h8 rfl
    obtain⟨g,rfl,hg,si,hs,x,hb,-⟩:=h.h11 rfl
    have k0:=hb.c0;have k1:=hb.free 0
    have h9:=h.store hP
    clear hb h
    go_simp
    exact hK.out _ _ (aL.s20 (h9))
   exact ah
  | s14 h =>
   refine ab (rs:=[8,11]) (by kernel_rfl) (by simp) ?_
   refine aa (o:=?a14_8) ?b14_8 (fun K hK=>?c14_8) ?d14_8
   case b14_8=>simp only[jd,jb,jc];rfl
   case c14_8 =>
    obtain rfl:=h.h7 rfl
    go_simp
    exact hK.out _ _ (aL.s17 (h.e0))
   refine aa (o:=?a14_11) ?b14_11 (fun K hK=>?c14_11) ?d14_11
   case b14_11=>simp only[jd,jb,jc];rfl
   case c14_11 =>
    go_simp
    exact hK.out _ _ (aL.s21 (h.box hP))
   exact ah
  | s15 h =>
   refine ab (rs:=[8,10]) (by kernel_rfl) (by simp) ?_
   refine aa (o:=?a15_8) ?b15_8 (fun K hK=>?c15_8) ?d15_8
   case b15_8=>simp only[jd,jb,jc];rfl
   case c15_8 =>
    obtain rfl:=h.h7 rfl
    go_simp
    exact hK.out _ _ (aL.s18 (h.e0))
   refine aa (o:=?a15_10) ?b15_10 (fun K hK=>?c15_10) ?d15_10
   case b15_10=>simp only[jd,jb,jc];rfl
   case c15_10 =>
    obtain rfl:=h.h7 rfl
    go_simp
    exact hK.out _ _ (aL.s21 (h.e2))
   exact ah
  | s16 h =>
   refine ab (rs:=[8,9]) (by kernel_rfl) (by simp) ?_
   refine aa (o:=?a16_8) ?b16_8 (fun K hK=>?c16_8) ?d16_8
   case b16_8=>simp only[jd,jb,jc];rfl
   case c16_8 =>
    obtain rfl:=h.h7 rfl
    go_simp
    exact hK.out _ _ (aL.s19 (h.e0))
   refine aa (o:=?a16_9) ?b16_9 (fun K hK=>?c16_9) ?d16_9
   case b16_9=>simp only[jd,jb,jc];rfl
   case c16_9 =>
    obtain rfl:=h.h7 rfl
    go_simp
    exact hK.out _ _ (aL.s21 (h.e1))
   exact ah
  | s17 h =>
   refine ab (rs:=[11]) (by kernel_rfl) (by simp) ?_
   refine aa (o:=?a17_11) ?b17_11 (fun K hK=>?c17_11) ?d17_11
   case b17_11=>simp only[jd,jb,jc];rfl
   case c17_11 =>
    go_simp
    exact hK.out _ _ (aL.s22 (h.box hP))
   exact ah
  | s18 h =>
   refine ab (rs:=[10,12]) (by kernel_rfl) (by simp) ?_
   refine aa (o:=?a18_10) ?b18_10 (fun K hK=>?c18_10) ?d18_10
   case b18_10=>simp only[jd,jb,jc];rfl
   case c18_10 =>
    obtain rfl:=h.h7 rfl
    go_simp
    exact hK.out _ _ (aL.s22 (h.e2))
   refine aa (o:=?a18_12) ?b18_12 (fun K hK=>?c18_12) ?d18_12
   case b18_12=>simp only[jd,jb,jc];rfl
   case c18_12 =>
    obtain rfl:=h.h8 rfl
    obtain⟨g,rfl,hg,si,hs,x,hb,-⟩:=h.h11 rfl
    have k0:=hb.c0;have k1:=hb.free 0
    have h9:=h.store hP
    clear hb h
    go_simp
    exact hK.out _ _ (aL.s23 (h9))
   exact ah
  | s19 h =>
   refine ab (rs:=[9,12]) (by kernel_rfl) (by simp) ?_
   refine aa (o:=?a19_9) ?b19_9 (fun K hK=>?c19_9) ?d19_9
   case b19_9=>simp only[jd,jb,jc];rfl
   case c19_9 =>
    obtain rfl:=h.h7 rfl
    go_simp
    exact hK.out _ _ (aL.s22 (h.e1))
   refine aa (o:=?a19_12) ?b19_12 (fun K hK=>?c19_12) ?d19_12
   case b19_12=>simp only[jd,jb,jc];rfl
   case c19_12 =>
    obtain rfl:=h.h8 rfl
    obtain⟨g,rfl,hg,si,hs,x,hb,-⟩:=h.h11 rfl
    have k0:=hb.c0;have k1:=hb.free 0
    have h9:=h.store hP
    clear hb h
    go_simp
    exact hK.out _ _ (aL.s24 (h9))
   exact ah
  | s20 h =>
   refine ab (rs:=[9,10]) (by kernel_rfl) (by simp) ?_
   refine aa (o:=?a20_9) ?b20_9 (fun K hK=>?c20_9) ?d20_9
   case b20_9=>simp only[jd,jb,jc];rfl
   case c20_9 =>
    obtain rfl:=h.h7 rfl
    go_simp
    exact hK.out _ _ (aL.s23 (h.e1))
   refine aa (o:=?a20_10) ?b20_10 (fun K hK=>?c20_10) ?d20_10
   case b20_10=>simp only[jd,jb,jc];rfl
   case c20_10 =>
    obtain rfl:=h.h7 rfl
    go_simp
    exact hK.out _ _ (aL.s24 (h.e2))
   exact ah
  | s21 h =>
   refine ab (rs:=[8]) (by kernel_rfl) (by simp) ?_
   refine aa (o:=?a21_8) ?b21_8 (fun K hK=>?c21_8) ?d21_8
   case b21_8=>simp only[jd,jb,jc];rfl
   case c21_8 =>
    obtain rfl:=h.h7 rfl
    go_simp
    exact hK.out _ _ (aL.s22 (h.e0))
   exact ah
  | s22 h =>
   refine ab (rs:=[12]) (by kernel_rfl) (by simp) ?_
   refine aa (o:=?a22_12) ?b22_12 (fun K hK=>?c22_12) ?d22_12
   case b22_12=>simp only[jd,jb,jc];rfl
   case c22_12 =>
    obtain rfl:=h.h8 rfl
    obtain⟨g,rfl,hg,si,hs,x,hb,-⟩:=h.h11 rfl
    have k0:=hb.c0;have k1:=hb.free 0
    have h9:=h.store hP
    clear hb h
    go_simp
    exact hK.out _ _ (aL.s25 (h9))
   exact ah
  | s23 h =>
   refine ab (rs:=[10,13]) (by kernel_rfl) (by simp) ?_
   refine aa (o:=?a23_10) ?b23_10 (fun K hK=>?c23_10) ?d23_10
   case b23_10=>simp only[jd,jb,jc];rfl
   case c23_10 =>
    obtain rfl:=h.h7 rfl
    go_simp
    exact hK.out _ _ (aL.s25 (h.e2))
   refine aa (o:=?a23_13) ?b23_13 (fun K hK=>?c23_13) ?d23_13
   case b23_13=>simp only[jd,jb,jc];rfl
   case c23_13 =>
    obtain rfl:=h.h9 rfl
    go_simp
    exact hK.out _ _ (aL.s26 (h.a1))
   exact ah
  | s24 h =>
   refine ab (rs:=[9]) (by kernel_rfl) (by simp) ?_
   refine aa (o:=?a24_9) ?b24_9 (fun K hK=>?c24_9) ?d24_9
   case b24_9=>simp only[jd,jb,jc];rfl
   case c24_9 =>
    obtain rfl:=h.h7 rfl
    go_simp
    exact hK.out _ _ (aL.s25 (h.e1))
   exact ah
  | s25 h =>
   refine ab (rs:=[13]) (by kernel_rfl) (by simp) ?_
   refine aa (o:=?a25_13) ?b25_13 (fun K hK=>?c25_13) ?d25_13
   case b25_13=>simp only[jd,jb,jc];rfl
   case c25_13 =>
    obtain rfl:=h.h9 rfl
    go_simp
    exact hK.out _ _ (aL.s27 (h.a1))
   exact ah
  | s26 h =>
   refine ab (rs:=[10]) (by kernel_rfl) (by simp) ?_
   refine aa (o:=?a26_10) ?b26_10 (fun K hK=>?c26_10) ?d26_10
   case b26_10=>simp only[jd,jb,jc];rfl
   case c26_10 =>
    obtain rfl:=h.h7 rfl
    go_simp
    exact hK.out _ _ (aL.s27 (h.e2))
   exact ah
  | s27 h =>
   refine ab (rs:=[14]) (by kernel_rfl) (by simp) ?_
   refine aa (o:=?a27_14) ?b27_14 (fun K hK=>?c27_14) ?d27_14
   case b27_14=>simp only[jd,jb,jc];rfl
   case c27_14 =>
    obtain rfl:=h.h10 rfl
    go_simp
    exact hK.out _ _ (aL.s28 (h.a2))
   exact ah
noncomputable def tbsRg:Code:=((Tryz.f45.body.bind (aK 6)).getD .skip)
inductive cF(w1:World)(ar:Int)(nr:Nat)(rows:List (List Vl))(F:Nat→Prop)(Fz:Value→Value→Value→Value→Value→Value→ Act):Nat→Array Bool→Act→World→Prop
 | s0 {t6 t7 t16 t23 t24 t25:Value} {A:Option Addr} {c:Nat} {W:World} (h:cw w1 ar nr rows F false false false false false false false t6 t7 t16 t23 t24 t25 A c W):cF w1 ar nr rows F Fz 7 #[true,true,true,true,true,true,false,false,false,false,false,false,false] (Fz t6 t7 t16 t23 t24 t25) W
 | s1 {t6 t7 t16 t23 t24 t25:Value} {A:Option Addr} {c:Nat} {W:World} (h:cw w1 ar nr rows F true false false false false false false t6 t7 t16 t23 t24 t25 A c W):cF w1 ar nr rows F Fz 6 #[true,true,true,true,true,true,true,false,false,false,false,false,false] (Fz t6 t7 t16 t23 t24 t25) W
 | s2 {t6 t7 t16 t23 t24 t25:Value} {A:Option Addr} {c:Nat} {W:World} (h:cw w1 ar nr rows F false false false false true false false t6 t7 t16 t23 t24 t25 A c W):cF w1 ar nr rows F Fz 6 #[true,true,true,true,true,true,false,false,false,false,true,false,false] (Fz t6 t7 t16 t23 t24 t25) W
 | s3 {t6 t7 t16 t23 t24 t25:Value} {A:Option Addr} {c:Nat} {W:World} (h:cw w1 ar nr rows F true true false false false false false t6 t7 t16 t23 t24 t25 A c W):cF w1 ar nr rows F Fz 5 #[true,true,true,true,true,true,true,true,false,false,false,false,false] (Fz t6 t7 t16 t23 t24 t25) W
 | s4 {t6 t7 t16 t23 t24 t25:Value} {A:Option Addr} {c:Nat} {W:World} (h:cw w1 ar nr rows F true false false false true false false t6 t7 t16 t23 t24 t25 A c W):cF w1 ar nr rows F Fz 5 #[true,true,true,true,true,true,true,false,false,false,true,false,false] (Fz t6 t7 t16 t23 t24 t25) W
 | s5 {t6 t7 t16 t23 t24 t25:Value} {A:Option Addr} {c:Nat} {W:World} (h:cw w1 ar nr rows F true true true false false false false t6 t7 t16 t23 t24 t25 A c W):cF w1 ar nr rows F Fz 4 #[true,true,true,true,true,true,true,true,true,false,false,false,false] (Fz t6 t7 t16 t23 t24 t25) W
 | s6 {t6 t7 t16 t23 t24 t25:Value} {A:Option Addr} {c:Nat} {W:World} (h:cw w1 ar nr rows F true true false true false false false t6 t7 t16 t23 t24 t25 A c W):cF w1 ar nr rows F Fz 4 #[true,true,true,true,true,true,true,true,false,true,false,false,false] (Fz t6 t7 t16 t23 t24 t25) W
 | s7 {t6 t7 t16 t23 t24 t25:Value} {A:Option Addr} {c:Nat} {W:World} (h:cw w1 ar nr rows F true true false false true false false t6 t7 t16 t23 t24 t25 A c W):cF w1 ar nr rows F Fz 4 #[true,true,true,true,true,true,true,true,false,false,true,false,false] (Fz t6 t7 t16 t23 t24 t25) W
 | s8 {t6 t7 t16 t23 t24 t25:Value} {A:Option Addr} {c:Nat} {W:World} (h:cw w1 ar nr rows F true true true true false false false t6 t7 t16 t23 t24 t25 A c W):cF w1 ar nr rows F Fz 3 #[true,true,true,true,true,true,true,true,true,true,false,false,false] (Fz t6 t7 t16 t23 t24 t25) W
 | s9 {t6 t7 t16 t23 t24 t25:Value} {A:Option Addr} {c:Nat} {W:World} (h:cw w1 ar nr rows F true true true false true false false t6 t7 t16 t23 t24 t25 A c W):cF w1 ar nr rows F Fz 3 #[true,true,true,true,true,true,true,true,true,false,true,false,false] (Fz t6 t7 t16 t23 t24 t25) W
 | s10 {t6 t7 t16 t23 t24 t25:Value} {A:Option Addr} {c:Nat} {W:World} (h:cw w1 ar nr rows F true true false true true false false t6 t7 t16 t23 t24 t25 A c W):cF w1 ar nr rows F Fz 3 #[true,true,true,true,true,true,true,true,false,true,true,false,false] (Fz t6 t7 t16 t23 t24 t25) W
 | s11 {t6 t7 t16 t23 t24 t25:Value} {A:Option Addr} {c:Nat} {W:World} (h:cw w1 ar nr rows F true true true true true false false t6 t7 t16 t23 t24 t25 A c W):cF w1 ar nr rows F Fz 2 #[true,true,true,true,true,true,true,true,true,true,true,false,false] (Fz t6 t7 t16 t23 t24 t25) W
 | s12 {t6 t7 t16 t23 t24 t25:Value} {A:Option Addr} {c:Nat} {W:World} (h:cw w1 ar nr rows F true true true false true true false t6 t7 t16 t23 t24 t25 A c W):cF w1 ar nr rows F Fz 2 #[true,true,true,true,true,true,true,true,true,false,true,true,false] (Fz t6 t7 t16 t23 t24 t25) W
 | s13 {t6 t7 t16 t23 t24 t25:Value} {A:Option Addr} {c:Nat} {W:World} (h:cw w1 ar nr rows F true true true true true true false t6 t7 t16 t23 t24 t25 A c W):cF w1 ar nr rows F Fz 1 #[true,true,true,true,true,true,true,true,true,true,true,true,false] (Fz t6 t7 t16 t23 t24 t25) W
 | s14 {t6 t7 t16 t23 t24 t25:Value} {A:Option Addr} {c:Nat} {W:World} (h:cw w1 ar nr rows F true true true true true true true t6 t7 t16 t23 t24 t25 A c W):cF w1 ar nr rows F Fz 0 #[true,true,true,true,true,true,true,true,true,true,true,true,true] (Fz t6 t7 t16 t23 t24 t25) W
theorem tbs_reg{K:Act→World→Prop}{Q:Exit→Act→World→Prop}{w1:World}{ar:Int}{nr:Nat}{rows:List (List Vl)}{F:Nat→Prop}{g0 i nu cu b:Nat}{ad:Addr}{s:ByteArray}{u0 u2 u3 u8 u9 sh si sj sp sq sr su sw sx sy sA sB u32 sC sD sE sF sG sH sI sJ sK sL sM x6 x7 sQ sR sS sT sU sV sW z20 sX z22:Value}(b0:w1.cell? ⟨g0,0,none⟩=some (.map (some b)))(i1:(0:Int)≤(i:Int))(i2:(i:Int)<(nu:Int))(c0:w1.cell? (ad.add (i*2))=some (.string s))(hF:∀k,F k→k<w1.heap.size)(sN:Hid (∀V,Ext w1 V→Calls Tryz.prog 110 #[.agg #[.map (some b)],.string s] V (fun e W=>Ext V W∧∃A c,e=.returned (.tuple #[.agg #[.int .i64 ar,.slice A nr c],.bool true])∧Sl aG F W (.slice A nr c) rows)))(hK:∀g t7 t16 t23 t24 t25 A c W,Ext w1 W→w1.heap.size≤g→Bk W g 179 [.int .i64 ar,.slice A nr c]→Sl aG F W (.slice A nr c) rows→K ⟨#[u0,.pointer (some ⟨g0,0,none⟩),u2,u3,.slice (some ad) nu cu,.int .i64 (i:Int),.pointer (some ⟨g,0,none⟩),t7,u8,u9,sh,si,sj,sp,sq,sr,t16,.agg #[.map (some b)],.slice (some ad) nu cu,.int .i64 (i:Int),.pointer (some (ad.add (i*2))),.pointer (some (ad.add (i*2))),.string s,t23,t24,t25,su,sw,sx,sy,sA,sB,u32,sC,sD,sE,sF,sG,sH,sI,sJ,sK,sL,sM],[]⟩ W) :
  Code.wp Tryz.prog tbsRg (Exit.then K Q) ⟨#[u0,.pointer (some ⟨g0,0,none⟩),u2,u3,.slice (some ad) nu cu,.int .i64 (i:Int),x6,x7,u8,u9,sh,si,sj,sp,sq,sr,sQ,sU,sV,sW,z20,sX,z22,sR,sS,sT,su,sw,sx,sy,sA,sB,u32,sC,sD,sE,sF,sG,sH,sI,sJ,sK,sL,sM],[]⟩ w1:=by
 have HK:=zN hK
 clear hK
 conv=>arg 2;whnf
 refine cR ?_
 refine wp_region_held_drew (S:=fun V=>Ext w1 V) (by kernel_rfl) (Ext.refl w1).drew (fun se=>?_)
 refine wpAnyH_take (i:=0) (oi:=?ox0) (v:=.agg #[.map (some b)]) ?hx0 (by kernel_rfl) (by kernel_rfl) (by kernel_rfl) (fun _ _ _ h=>h) (Or.inl ⟨?wx0,?yx0⟩) se ?rx0
 case hx0=>simp only[jd,jb,jc];rfl
 case wx0=>rfl
 case yx0 =>
  intro V sg
  have q0:=Ext.cell sg b0
  simp[go_sem,q0] <;> with_reducible rfl
 (try simp only[Act.put,jg,jh,ji])
 refine wpAnyH_take (i:=1) (oi:=?ox1) (v:=.slice (some ad) nu cu) ?hx1 (by kernel_rfl) (by kernel_rfl) (by kernel_rfl) (fun _ _ _ h=>h) (Or.inl ⟨?wx1,?yx1⟩) se ?rx1
 case hx1=>simp only[jd,jb,jc];rfl
 case wx1=>rfl
 case yx1 =>
  intro V sg

  simp[go_sem] <;> with_reducible rfl
 (try simp only[Act.put,jg,jh,ji])
 refine wpAnyH_take (i:=2) (oi:=?ox2) (v:=.int .i64 (i:Int)) ?hx2 (by kernel_rfl) (by kernel_rfl) (by kernel_rfl) (fun _ _ _ h=>h) (Or.inl ⟨?wx2,?yx2⟩) se ?rx2
 case hx2=>simp only[jd,jb,jc];rfl
 case wx2=>rfl
 case yx2 =>
  intro V sg

  simp[go_sem] <;> with_reducible rfl
 (try simp only[Act.put,jg,jh,ji])
 refine wpAnyH_take (i:=3) (oi:=?ox3) (v:=.pointer (some (ad.add (i*2)))) ?hx3 (by kernel_rfl) (by kernel_rfl) (by kernel_rfl) (fun _ _ _ h=>h) (Or.inl ⟨?wx3,?yx3⟩) se ?rx3
 case hx3=>simp only[jd,jb,jc];rfl
 case wx3=>rfl
 case yx3 =>
  intro V sg

  simp[go_sem,i1,i2] <;> with_reducible rfl
 (try simp only[Act.put,jg,jh,ji])
 refine wpAnyH_take (i:=4) (oi:=?ox4) (v:=.pointer (some (ad.add (i*2)))) ?hx4 (by kernel_rfl) (by kernel_rfl) (by kernel_rfl) (fun _ _ _ h=>h) (Or.inl ⟨?wx4,?yx4⟩) se ?rx4
 case hx4=>simp only[jd,jb,jc];rfl
 case wx4=>rfl
 case yx4 =>
  intro V sg

  simp[go_sem] <;> with_reducible rfl
 (try simp only[Act.put,jg,jh,ji])
 refine wpAnyH_take (i:=5) (oi:=?ox5) (v:=.string s) ?hx5 (by kernel_rfl) (by kernel_rfl) (by kernel_rfl) (fun _ _ _ h=>h) (Or.inl ⟨?wx5,?yx5⟩) se ?rx5
 case hx5=>simp only[jd,jb,jc];rfl
 case wx5=>rfl
 case yx5 =>
  intro V sg
  have q0:=Ext.cell sg c0
  simp[go_sem,q0] <;> with_reducible rfl
 (try simp only[Act.put,jg,jh,ji])
 clear b0 c0
 refine cD (I:=cF w1 ar nr rows F (fun t6 t7 t16 t23 t24 t25=>⟨#[u0,.pointer (some ⟨g0,0,none⟩),u2,u3,.slice (some ad) nu cu,.int .i64 (i:Int),t6,t7,u8,u9,sh,si,sj,sp,sq,sr,t16,.agg #[.map (some b)],.slice (some ad) nu cu,.int .i64 (i:Int),.pointer (some (ad.add (i*2))),.pointer (some (ad.add (i*2))),.string s,t23,t24,t25,su,sw,sx,sy,sA,sB,u32,sC,sD,sE,sF,sG,sH,sI,sJ,sK,sL,sM],[]⟩)) ?hS ?h0 ?h1 _ _ _ _ ?st
 case hS =>
  intro n l sO W hI
  cases hI with
  | s0 h=>exact h.ext
  | s1 h=>exact h.ext
  | s2 h=>exact h.ext
  | s3 h=>exact h.ext
  | s4 h=>exact h.ext
  | s5 h=>exact h.ext
  | s6 h=>exact h.ext
  | s7 h=>exact h.ext
  | s8 h=>exact h.ext
  | s9 h=>exact h.ext
  | s10 h=>exact h.ext
  | s11 h=>exact h.ext
  | s12 h=>exact h.ext
  | s13 h=>exact h.ext
  | s14 h=>exact h.ext
 case st=>exact cF.s0 cw.start
 case h0 =>
  intro l sO W hI
  cases hI with
  | s14 h =>
   refine⟨by kernel_rfl,?_⟩
   obtain⟨g,x,y,rfl,hg,hb,sP⟩:=h.h10 rfl
   obtain⟨rfl,rfl⟩:=sP rfl
   exact HK.out _ _ _ _ _ _ _ _ _ h.ext hg hb (h.h6 rfl).2
 case h1 =>
  intro m l sO W hI
  cases hI with
  | s0 h =>
   refine ab (rs:=[6,10]) (by kernel_rfl) (by simp) ?_
   refine aa (o:=?a0_6) ?b0_6 (fun K hK=>?c0_6) ?d0_6
   case b0_6=>simp only[jd,jb,jc];rfl
   case c0_6 =>
    have hx:=h.ext
    go_simp
    go_at_call 110
    (with_reducible refine(sN.out _ hx).mono ?_)
    rintro e W2 ⟨he,A2,c2,rfl,hs⟩
    (try simp only[Act.put,jg,jh,ji])
    exact hK.out _ _ (cF.s1 (h.call he hs))
   refine aa (o:=?a0_10) ?b0_10 (fun K hK=>?c0_10) ?d0_10
   case b0_10=>simp only[jd,jb,jc];rfl
   case c0_10 =>
    go_simp
    exact hK.out _ _ (cF.s2 (h.box))
   exact ah
  | s1 h =>
   refine ab (rs:=[7,10]) (by kernel_rfl) (by simp) ?_
   refine aa (o:=?a1_7) ?b1_7 (fun K hK=>?c1_7) ?d1_7
   case b1_7=>simp only[jd,jb,jc];rfl
   case c1_7 =>
    obtain rfl:=(h.h6 rfl).1
    go_simp
    exact hK.out _ _ (cF.s3 (h.mv))
   refine aa (o:=?a1_10) ?b1_10 (fun K hK=>?c1_10) ?d1_10
   case b1_10=>simp only[jd,jb,jc];rfl
   case c1_10 =>
    go_simp
    exact hK.out _ _ (cF.s4 (h.box))
   exact ah
  | s2 h =>
   refine ab (rs:=[6]) (by kernel_rfl) (by simp) ?_
   refine aa (o:=?a2_6) ?b2_6 (fun K hK=>?c2_6) ?d2_6
   case b2_6=>simp only[jd,jb,jc];rfl
   case c2_6 =>
    have hx:=h.ext
    go_simp
    go_at_call 110
    (with_reducible refine(sN.out _ hx).mono ?_)
    rintro e W2 ⟨he,A2,c2,rfl,hs⟩
    (try simp only[Act.put,jg,jh,ji])
    exact hK.out _ _ (cF.s4 (h.call he hs))
   exact ah
  | s3 h =>
   refine ab (rs:=[8,9,10]) (by kernel_rfl) (by simp) ?_
   refine aa (o:=?a3_8) ?b3_8 (fun K hK=>?c3_8) ?d3_8
   case b3_8=>simp only[jd,jb,jc];rfl
   case c3_8 =>
    obtain rfl:=h.h7 rfl
    go_simp
    exact hK.out _ _ (cF.s5 (h.e0))
   refine aa (o:=?a3_9) ?b3_9 (fun K hK=>?c3_9) ?d3_9
   case b3_9=>simp only[jd,jb,jc];rfl
   case c3_9 =>
    obtain rfl:=h.h7 rfl
    go_simp
    exact hK.out _ _ (cF.s6 (h.e1))
   refine aa (o:=?a3_10) ?b3_10 (fun K hK=>?c3_10) ?d3_10
   case b3_10=>simp only[jd,jb,jc];rfl
   case c3_10 =>
    go_simp
    exact hK.out _ _ (cF.s7 (h.box))
   exact ah
  | s4 h =>
   refine ab (rs:=[7]) (by kernel_rfl) (by simp) ?_
   refine aa (o:=?a4_7) ?b4_7 (fun K hK=>?c4_7) ?d4_7
   case b4_7=>simp only[jd,jb,jc];rfl
   case c4_7 =>
    obtain rfl:=(h.h6 rfl).1
    go_simp
    exact hK.out _ _ (cF.s7 (h.mv))
   exact ah
  | s5 h =>
   refine ab (rs:=[9,10]) (by kernel_rfl) (by simp) ?_
   refine aa (o:=?a5_9) ?b5_9 (fun K hK=>?c5_9) ?d5_9
   case b5_9=>simp only[jd,jb,jc];rfl
   case c5_9 =>
    obtain rfl:=h.h7 rfl
    go_simp
    exact hK.out _ _ (cF.s8 (h.e1))
   refine aa (o:=?a5_10) ?b5_10 (fun K hK=>?c5_10) ?d5_10
   case b5_10=>simp only[jd,jb,jc];rfl
   case c5_10 =>
    go_simp
    exact hK.out _ _ (cF.s9 (h.box))
   exact ah
  | s6 h =>
   refine ab (rs:=[8,10]) (by kernel_rfl) (by simp) ?_
   refine aa (o:=?a6_8) ?b6_8 (fun K hK=>?c6_8) ?d6_8
   case b6_8=>simp only[jd,jb,jc];rfl
   case c6_8 =>
    obtain rfl:=h.h7 rfl
    go_simp
    exact hK.out _ _ (cF.s8 (h.e0))
   refine aa (o:=?a6_10) ?b6_10 (fun K hK=>?c6_10) ?d6_10
   case b6_10=>simp only[jd,jb,jc];rfl
   case c6_10 =>
    go_simp
    exact hK.out _ _ (cF.s10 (h.box))
   exact ah
  | s7 h =>
   refine ab (rs:=[8,9]) (by kernel_rfl) (by simp) ?_
   refine aa (o:=?a7_8) ?b7_8 (fun K hK=>?c7_8) ?d7_8
   case b7_8=>simp only[jd,jb,jc];rfl
   case c7_8 =>
    obtain rfl:=h.h7 rfl
    go_simp
    exact hK.out _ _ (cF.s9 (h.e0))
   refine aa (o:=?a7_9) ?b7_9 (fun K hK=>?c7_9) ?d7_9
   case b7_9=>simp only[jd,jb,jc];rfl
   case c7_9 =>
    obtain rfl:=h.h7 rfl
    go_simp
    exact hK.out _ _ (cF.s10 (h.e1))
   exact ah
  | s8 h =>
   refine ab (rs:=[10]) (by kernel_rfl) (by simp) ?_
   refine aa (o:=?a8_10) ?b8_10 (fun K hK=>?c8_10) ?d8_10
   case b8_10=>simp only[jd,jb,jc];rfl
   case c8_10 =>
    go_simp
    exact hK.out _ _ (cF.s11 (h.box))
   exact ah
  | s9 h =>
   refine ab (rs:=[9,11]) (by kernel_rfl) (by simp) ?_
   refine aa (o:=?a9_9) ?b9_9 (fun K hK=>?c9_9) ?d9_9
   case b9_9=>simp only[jd,jb,jc];rfl
   case c9_9 =>
    obtain rfl:=h.h7 rfl
    go_simp
    exact hK.out _ _ (cF.s11 (h.e1))
   refine aa (o:=?a9_11) ?b9_11 (fun K hK=>?c9_11) ?d9_11
   case b9_11=>simp only[jd,jb,jc];rfl
   case c9_11 =>
    obtain rfl:=h.h8 rfl
    obtain⟨g,x,y,rfl,hg,hb,-⟩:=h.h10 rfl
    have k0:=hb.c0;have k1:=hb.c1;have k2:=hb.free 0;have k3:=hb.free 1
    have h9:=h.store hF
    clear hb h
    go_simp
    exact hK.out _ _ (cF.s12 (h9))
   exact ah
  | s10 h =>
   refine ab (rs:=[8]) (by kernel_rfl) (by simp) ?_
   refine aa (o:=?a10_8) ?b10_8 (fun K hK=>?c10_8) ?d10_8
   case b10_8=>simp only[jd,jb,jc];rfl
   case c10_8 =>
    obtain rfl:=h.h7 rfl
    go_simp
    exact hK.out _ _ (cF.s11 (h.e0))
   exact ah
  | s11 h =>
   refine ab (rs:=[11]) (by kernel_rfl) (by simp) ?_
   refine aa (o:=?a11_11) ?b11_11 (fun K hK=>?c11_11) ?d11_11
   case b11_11=>simp only[jd,jb,jc];rfl
   case c11_11 =>
    obtain rfl:=h.h8 rfl
    obtain⟨g,x,y,rfl,hg,hb,-⟩:=h.h10 rfl
    have k0:=hb.c0;have k1:=hb.c1;have k2:=hb.free 0;have k3:=hb.free 1
    have h9:=h.store hF
    clear hb h
    go_simp
    exact hK.out _ _ (cF.s13 (h9))
   exact ah
  | s12 h =>
   refine ab (rs:=[9]) (by kernel_rfl) (by simp) ?_
   refine aa (o:=?a12_9) ?b12_9 (fun K hK=>?c12_9) ?d12_9
   case b12_9=>simp only[jd,jb,jc];rfl
   case c12_9 =>
    obtain rfl:=h.h7 rfl
    go_simp
    exact hK.out _ _ (cF.s13 (h.e1))
   exact ah
  | s13 h =>
   refine ab (rs:=[12]) (by kernel_rfl) (by simp) ?_
   refine aa (o:=?a13_12) ?b13_12 (fun K hK=>?c13_12) ?d13_12
   case b13_12=>simp only[jd,jb,jc];rfl
   case c13_12 =>
    obtain rfl:=h.h9 rfl
    go_simp
    exact hK.out _ _ (cF.s14 (h.asg))
   exact ah
noncomputable def tbaRg:Code:=((Tryz.f45.body.bind (aK 7)).getD .skip)
inductive ma(w1:World)(base n c0:Nat)(A0:Option Addr)(xs:List Tb)(css:List (List Value))(x:Tb)(Fz:Value→Value→Value→Value→Value→ Act):Nat→Array Bool→Act→World→Prop
 | s0 {t3 t39 t40 t41 t42:Value} {W:World} (h:ed w1 base n c0 A0 xs css x false false false false false t3 t39 t40 t41 t42 W):ma w1 base n c0 A0 xs css x Fz 5 #[true,true,true,true,true,true,true,true,true,true,true,true,true,false,false,false,false,false] (Fz t3 t39 t40 t41 t42) W
 | s1 {t3 t39 t40 t41 t42:Value} {W:World} (h:ed w1 base n c0 A0 xs css x true false false false false t3 t39 t40 t41 t42 W):ma w1 base n c0 A0 xs css x Fz 4 #[true,true,true,true,true,true,true,true,true,true,true,true,true,true,false,false,false,false] (Fz t3 t39 t40 t41 t42) W
 | s2 {t3 t39 t40 t41 t42:Value} {W:World} (h:ed w1 base n c0 A0 xs css x true true false false false t3 t39 t40 t41 t42 W):ma w1 base n c0 A0 xs css x Fz 3 #[true,true,true,true,true,true,true,true,true,true,true,true,true,true,true,false,false,false] (Fz t3 t39 t40 t41 t42) W
 | s3 {t3 t39 t40 t41 t42:Value} {W:World} (h:ed w1 base n c0 A0 xs css x true true true false false t3 t39 t40 t41 t42 W):ma w1 base n c0 A0 xs css x Fz 2 #[true,true,true,true,true,true,true,true,true,true,true,true,true,true,true,true,false,false] (Fz t3 t39 t40 t41 t42) W
 | s4 {t3 t39 t40 t41 t42:Value} {W:World} (h:ed w1 base n c0 A0 xs css x true true true true false t3 t39 t40 t41 t42 W):ma w1 base n c0 A0 xs css x Fz 1 #[true,true,true,true,true,true,true,true,true,true,true,true,true,true,true,true,true,false] (Fz t3 t39 t40 t41 t42) W
 | s5 {t3 t39 t40 t41 t42:Value} {W:World} (h:ed w1 base n c0 A0 xs css x true true true true true t3 t39 t40 t41 t42 W):ma w1 base n c0 A0 xs css x Fz 0 #[true,true,true,true,true,true,true,true,true,true,true,true,true,true,true,true,true,true] (Fz t3 t39 t40 t41 t42) W
theorem tba_reg{K:Act→World→Prop}{Q:Exit→Act→World→Prop}{w1:World}{base n c0:Nat}{A0:Option Addr}{xs:List Tb}{css:List (List Value)}{x:Tb}{g0 g6 i nu cu nk d c1:Nat}{ad:Addr}{B A1:Option Addr}{ar:Int}{u0 u2 u7 u8 u9 sj sp sq sr su sw sx sy sA sB sC sD sE sF sG sH sI sX sY sZ ta z26 z27 z28 z29 tc td z32 z33 te z35 z36 z37 z38:Value}(i1:(0:Int)≤(i:Int))(i2:(i:Int)<(nu:Int))(sK:w1.cell? (ad.add (i*2))=some (.string x.name))(sL:w1.cell? ⟨(ad.add (i*2)).block,(ad.add (i*2)).off+1,none⟩=some (.slice B nk d))(d0:w1.cell? ⟨g6,0,none⟩=some (.int .i64 ar))(d1:w1.cell? ⟨g6,1,none⟩=some (.slice A1 x.rows.length c1))(sN:x.ar=(nk:Int))(n1:¬(Value.slice A0 n c0).ownBlock=some ad.block)(n2:¬(Value.slice A0 n c0).ownBlock=some g6)(hO:Rw ow w1 base 120 (.slice A0 n c0) n xs css)(sh:base≤w1.heap.size)(hn:n≤1000000)(sT:Hid (∀V,Ext w1 V→Calls Tryz.prog 111 #[.agg #[.int .i64 ar,.slice A1 x.rows.length c1]] V (fun e W=>Ext V W∧∃A c,e=.returned (.slice A x.rows.length c)∧Sl aG (fun k=>w1.heap.size≤k) W (.slice A x.rows.length c) x.rows)))(hK:∀A9 c9 cs t39 t40 t41 t42 W,Fr (fun k=>(Value.slice A0 n c0).ownBlock=some k) w1 W→Rw ow W base 120 (.slice A9 (n+1) c9) (n+1) (xs++[x]) (css++[cs])→K ⟨#[u0,.pointer (some ⟨g0,0,none⟩),u2,.slice A9 (n+1) c9,.slice (some ad) nu cu,.int .i64 (i:Int),.pointer (some ⟨g6,0,none⟩),u7,u8,u9,sj,sp,sq,sr,su,sw,sx,sy,sA,sB,sC,sD,sE,sF,sG,sH,.slice A0 n c0,.slice (some ad) nu cu,.int .i64 (i:Int),.pointer (some (ad.add (i*2))),.pointer (some (ad.add (i*2))),.string x.name,.slice (some ad) nu cu,.int .i64 (i:Int),.pointer (some (ad.add (i*2))),.pointer (some ⟨(ad.add (i*2)).block,(ad.add (i*2)).off+1,none⟩),.slice B nk d,.int .i64 (nk:Int),.agg #[.int .i64 ar,.slice A1 x.rows.length c1],t39,t40,t41,t42,sI],[]⟩ W) :
  Code.wp Tryz.prog tbaRg (Exit.then K Q) ⟨#[u0,.pointer (some ⟨g0,0,none⟩),u2,.slice A0 n c0,.slice (some ad) nu cu,.int .i64 (i:Int),.pointer (some ⟨g6,0,none⟩),u7,u8,u9,sj,sp,sq,sr,su,sw,sx,sy,sA,sB,sC,sD,sE,sF,sG,sH,z26,z27,z28,z29,tc,td,z32,z33,te,z35,z36,z37,z38,sX,sY,sZ,ta,sI],[]⟩ w1:=by
 have HK:=zN hK
 have HO:=zN hO
 obtain⟨j0,sM,sP,sQ,sR⟩:=info_parts info_tb
 have si:=zN (And.intro sM (And.intro sP (And.intro sQ sR)))
 have sS:=zN sN
 clear hK hO sM sP sQ sR sN
 conv=>arg 2;whnf
 refine cR ?_
 refine wp_region_held_drew (S:=fun V=>Fr (fun k=>(Value.slice A0 n c0).ownBlock=some k) w1 V) (by kernel_rfl) (Fr.refl _ w1).drew (fun se=>?_)
 refine wpAnyH_take (i:=0) (oi:=?ox0) (v:=.slice A0 n c0) ?hx0 (by kernel_rfl) (by kernel_rfl) (by kernel_rfl) (fun _ _ _ h=>h) (Or.inl ⟨?wx0,?yx0⟩) se ?rx0
 case hx0=>simp only[jd,jb,jc];rfl
 case wx0=>rfl
 case yx0 =>
  intro V sg

  simp[go_sem] <;> with_reducible rfl
 (try simp only[Act.put,jg,jh,ji])
 refine wpAnyH_take (i:=1) (oi:=?ox1) (v:=.slice (some ad) nu cu) ?hx1 (by kernel_rfl) (by kernel_rfl) (by kernel_rfl) (fun _ _ _ h=>h) (Or.inl ⟨?wx1,?yx1⟩) se ?rx1
 case hx1=>simp only[jd,jb,jc];rfl
 case wx1=>rfl
 case yx1 =>
  intro V sg

  simp[go_sem] <;> with_reducible rfl
 (try simp only[Act.put,jg,jh,ji])
 refine wpAnyH_take (i:=2) (oi:=?ox2) (v:=.int .i64 (i:Int)) ?hx2 (by kernel_rfl) (by kernel_rfl) (by kernel_rfl) (fun _ _ _ h=>h) (Or.inl ⟨?wx2,?yx2⟩) se ?rx2
 case hx2=>simp only[jd,jb,jc];rfl
 case wx2=>rfl
 case yx2 =>
  intro V sg

  simp[go_sem] <;> with_reducible rfl
 (try simp only[Act.put,jg,jh,ji])
 refine wpAnyH_take (i:=3) (oi:=?ox3) (v:=.pointer (some (ad.add (i*2)))) ?hx3 (by kernel_rfl) (by kernel_rfl) (by kernel_rfl) (fun _ _ _ h=>h) (Or.inl ⟨?wx3,?yx3⟩) se ?rx3
 case hx3=>simp only[jd,jb,jc];rfl
 case wx3=>rfl
 case yx3 =>
  intro V sg

  simp[go_sem,i1,i2] <;> with_reducible rfl
 (try simp only[Act.put,jg,jh,ji])
 refine wpAnyH_take (i:=4) (oi:=?ox4) (v:=.pointer (some (ad.add (i*2)))) ?hx4 (by kernel_rfl) (by kernel_rfl) (by kernel_rfl) (fun _ _ _ h=>h) (Or.inl ⟨?wx4,?yx4⟩) se ?rx4
 case hx4=>simp only[jd,jb,jc];rfl
 case wx4=>rfl
 case yx4 =>
  intro V sg

  simp[go_sem] <;> with_reducible rfl
 (try simp only[Act.put,jg,jh,ji])
 refine wpAnyH_take (i:=5) (oi:=?ox5) (v:=.string x.name) ?hx5 (by kernel_rfl) (by kernel_rfl) (by kernel_rfl) (fun _ _ _ h=>h) (Or.inl ⟨?wx5,?yx5⟩) se ?rx5
 case hx5=>simp only[jd,jb,jc];rfl
 case wx5=>rfl
 case yx5 =>
  intro V sg
  have q0:=Fr.cell sg sK (by rw[aT];exact n1)
  simp[go_sem,q0] <;> with_reducible rfl
 (try simp only[Act.put,jg,jh,ji])
 refine wpAnyH_take (i:=6) (oi:=?ox6) (v:=.slice (some ad) nu cu) ?hx6 (by kernel_rfl) (by kernel_rfl) (by kernel_rfl) (fun _ _ _ h=>h) (Or.inl ⟨?wx6,?yx6⟩) se ?rx6
 case hx6=>simp only[jd,jb,jc];rfl
 case wx6=>rfl
 case yx6 =>
  intro V sg

  simp[go_sem] <;> with_reducible rfl
 (try simp only[Act.put,jg,jh,ji])
 refine wpAnyH_take (i:=7) (oi:=?ox7) (v:=.int .i64 (i:Int)) ?hx7 (by kernel_rfl) (by kernel_rfl) (by kernel_rfl) (fun _ _ _ h=>h) (Or.inl ⟨?wx7,?yx7⟩) se ?rx7
 case hx7=>simp only[jd,jb,jc];rfl
 case wx7=>rfl
 case yx7 =>
  intro V sg

  simp[go_sem] <;> with_reducible rfl
 (try simp only[Act.put,jg,jh,ji])
 refine wpAnyH_take (i:=8) (oi:=?ox8) (v:=.pointer (some (ad.add (i*2)))) ?hx8 (by kernel_rfl) (by kernel_rfl) (by kernel_rfl) (fun _ _ _ h=>h) (Or.inl ⟨?wx8,?yx8⟩) se ?rx8
 case hx8=>simp only[jd,jb,jc];rfl
 case wx8=>rfl
 case yx8 =>
  intro V sg

  simp[go_sem,i1,i2] <;> with_reducible rfl
 (try simp only[Act.put,jg,jh,ji])
 refine wpAnyH_take (i:=9) (oi:=?ox9) (v:=.pointer (some ⟨(ad.add (i*2)).block,(ad.add (i*2)).off+1,none⟩)) ?hx9 (by kernel_rfl) (by kernel_rfl) (by kernel_rfl) (fun _ _ _ h=>h) (Or.inl ⟨?wx9,?yx9⟩) se ?rx9
 case hx9=>simp only[jd,jb,jc];rfl
 case wx9=>rfl
 case yx9 =>
  intro V sg

  simp[go_sem] <;> with_reducible rfl
 (try simp only[Act.put,jg,jh,ji])
 refine wpAnyH_take (i:=10) (oi:=?ox10) (v:=.slice B nk d) ?hx10 (by kernel_rfl) (by kernel_rfl) (by kernel_rfl) (fun _ _ _ h=>h) (Or.inl ⟨?wx10,?yx10⟩) se ?rx10
 case hx10=>simp only[jd,jb,jc];rfl
 case wx10=>rfl
 case yx10 =>
  intro V sg
  have q0:=Fr.cell sg sL (by rw[aT];exact n1)
  simp[go_sem,q0] <;> with_reducible rfl
 (try simp only[Act.put,jg,jh,ji])
 refine wpAnyH_take (i:=11) (oi:=?ox11) (v:=.int .i64 (nk:Int)) ?hx11 (by kernel_rfl) (by kernel_rfl) (by kernel_rfl) (fun _ _ _ h=>h) (Or.inl ⟨?wx11,?yx11⟩) se ?rx11
 case hx11=>simp only[jd,jb,jc];rfl
 case wx11=>rfl
 case yx11 =>
  intro V sg

  simp[go_sem] <;> with_reducible rfl
 (try simp only[Act.put,jg,jh,ji])
 refine wpAnyH_take (i:=12) (oi:=?ox12) (v:=.agg #[.int .i64 ar,.slice A1 x.rows.length c1]) ?hx12 (by kernel_rfl) (by kernel_rfl) (by kernel_rfl) (fun _ _ _ h=>h) (Or.inl ⟨?wx12,?yx12⟩) se ?rx12
 case hx12=>simp only[jd,jb,jc];rfl
 case wx12=>rfl
 case yx12 =>
  intro V sg
  have q0:=Fr.cell sg d0 n2
  have q1:=Fr.cell sg d1 n2
  simp[go_sem,q0,q1] <;> with_reducible rfl
 (try simp only[Act.put,jg,jh,ji])
 clear sK sL d0 d1
 refine cD (I:=ma w1 base n c0 A0 xs css x (fun t3 t39 t40 t41 t42=>⟨#[u0,.pointer (some ⟨g0,0,none⟩),u2,t3,.slice (some ad) nu cu,.int .i64 (i:Int),.pointer (some ⟨g6,0,none⟩),u7,u8,u9,sj,sp,sq,sr,su,sw,sx,sy,sA,sB,sC,sD,sE,sF,sG,sH,.slice A0 n c0,.slice (some ad) nu cu,.int .i64 (i:Int),.pointer (some (ad.add (i*2))),.pointer (some (ad.add (i*2))),.string x.name,.slice (some ad) nu cu,.int .i64 (i:Int),.pointer (some (ad.add (i*2))),.pointer (some ⟨(ad.add (i*2)).block,(ad.add (i*2)).off+1,none⟩),.slice B nk d,.int .i64 (nk:Int),.agg #[.int .i64 ar,.slice A1 x.rows.length c1],t39,t40,t41,t42,sI],[]⟩)) ?hS ?h0 ?h1 _ _ _ _ ?st
 case hS =>
  intro n l sJ W hI
  cases hI with
  | s0 h=>exact h.fr
  | s1 h=>exact h.fr
  | s2 h=>exact h.fr
  | s3 h=>exact h.fr
  | s4 h=>exact h.fr
  | s5 h=>exact h.fr
 case st=>exact ma.s0 ed.start
 case h0 =>
  intro l sJ W hI
  cases hI with
  | s5 h =>
   refine⟨by kernel_rfl,?_⟩
   obtain⟨A9,c9,cs,rfl,hr⟩:=h.h16 rfl
   obtain rfl:=h.h17 rfl
   exact HK.out _ _ _ _ _ _ _ _ h.fr hr
 case h1 =>
  intro m l sJ W hI
  cases hI with
  | s0 h =>
   refine ab (rs:=[13]) (by kernel_rfl) (by simp) ?_
   refine aa (o:=?a0_13) ?b0_13 (fun K hK=>?c0_13) ?d0_13
   case b0_13=>simp only[jd,jb,jc];rfl
   case c0_13 =>
    have hx:=h.ext rfl
    go_simp
    go_at_call 111
    (with_reducible refine(sT.out _ hx).mono ?_)
    rintro e W2 ⟨he,A2,c2,rfl,hs⟩
    (try simp only[Act.put,jg,jh,ji])
    exact hK.out _ _ (ma.s1 (h.call he hs))
   exact ah
  | s1 h =>
   refine ab (rs:=[14]) (by kernel_rfl) (by simp) ?_
   refine aa (o:=?a1_14) ?b1_14 (fun K hK=>?c1_14) ?d1_14
   case b1_14=>simp only[jd,jb,jc];rfl
   case c1_14 =>
    obtain⟨A2,c2,rfl,hs⟩:=h.h13 rfl rfl
    have h9:=h.bld
    rw[sS.out]at h9
    go_simp
    exact hK.out _ _ (ma.s2 (h9))
   exact ah
  | s2 h =>
   refine ab (rs:=[15]) (by kernel_rfl) (by simp) ?_
   refine aa (o:=?a2_15) ?b2_15 (fun K hK=>?c2_15) ?d2_15
   case b2_15=>simp only[jd,jb,jc];rfl
   case c2_15 =>
    obtain⟨A2,c2,rfl,hs⟩:=h.h13 rfl rfl
    obtain rfl:=h.h14 rfl rfl
    go_simp
    exact hK.out _ _ (ma.s3 (h.bsl hs))
   exact ah
  | s3 h =>
   refine ab (rs:=[16]) (by kernel_rfl) (by simp) ?_
   refine aa (o:=?a3_16) ?b3_16 (fun K hK=>?c3_16) ?d3_16
   case b3_16=>simp only[jd,jb,jc];rfl
   case c3_16 =>
    obtain⟨V,A2,c2,hx,rfl,rfl,hs⟩:=h.h15 rfl rfl
    clear h
    have tf:=hx.size
    have sW:=aD HO.out.own (hx.alloc (.cells #[.string x.name,.int .i64 x.ar,.slice A2 x.rows.length c2] 120))
    refine bO (by rfl) _ _ _ (by rfl) base 120 j0 (.agg #[.string ⟨#[]⟩,.int .i64 0,.slice none 0 0]) 3 48 Tryz.underlying34 si.out.1 si.out.2.1 si.out.2.2.1 si.out.2.2.2 rfl (by omega) (.slice A0 n c0) n css.flatten (by rfl) sW ⟨V.heap.size,0,none⟩ 1 1 [.string x.name,.int .i64 x.ar,.slice A2 x.rows.length c2] (by rfl) (by rfl) (aE V _ _) (by simp[Value.oneCell']) (by simp only[maxLen];omega) (by omega) (by simp;omega) ?_
    intro v9 W9 sO sU sV
    obtain⟨A9,c9,rfl⟩:=af sO
    (try simp only[Act.put,jg,jh,ji])
    exact hK.out _ _ (ma.s4 (ed.app HO.out sh hx hs sO sU sV))
   exact ah
  | s4 h =>
   refine ab (rs:=[17]) (by kernel_rfl) (by simp) ?_
   refine aa (o:=?a4_17) ?b4_17 (fun K hK=>?c4_17) ?d4_17
   case b4_17=>simp only[jd,jb,jc];rfl
   case c4_17 =>
    obtain⟨A9,c9,cs,rfl,hr⟩:=h.h16 rfl
    go_simp
    exact hK.out _ _ (ma.s5 (h.asg))
   exact ah
noncomputable def dbrRg:Code:=((Tryz.f12.body.bind (aK 10)).getD .skip)
inductive nC(w1:World)(g4 g7 b:Nat)(Q':Value→World→Prop)(Fz:Value→Value→Value→ Act):Nat→Array Bool→Act→World→Prop
 | s0 {t5 t6 t43:Value} {W:World} (h:fw w1 g4 g7 b Q' false false false false t5 t6 t43 W):nC w1 g4 g7 b Q' Fz 4 #[true,true,false,false,false,false] (Fz t5 t6 t43) W
 | s1 {t5 t6 t43:Value} {W:World} (h:fw w1 g4 g7 b Q' true false false false t5 t6 t43 W):nC w1 g4 g7 b Q' Fz 3 #[true,true,true,false,false,false] (Fz t5 t6 t43) W
 | s2 {t5 t6 t43:Value} {W:World} (h:fw w1 g4 g7 b Q' true true false false t5 t6 t43 W):nC w1 g4 g7 b Q' Fz 2 #[true,true,true,true,false,false] (Fz t5 t6 t43) W
 | s3 {t5 t6 t43:Value} {W:World} (h:fw w1 g4 g7 b Q' true true true false t5 t6 t43 W):nC w1 g4 g7 b Q' Fz 1 #[true,true,true,true,true,false] (Fz t5 t6 t43) W
 | s4 {t5 t6 t43:Value} {W:World} (h:fw w1 g4 g7 b Q' true true true true t5 t6 t43 W):nC w1 g4 g7 b Q' Fz 0 #[true,true,true,true,true,true] (Fz t5 t6 t43) W
theorem dbr_reg{K:Act→World→Prop}{Q:Exit→Act→World→Prop}{w1:World}{g4 g7 b:Nat}{Q':Value→World→Prop}{x u0 u1 u2 u3 u8 u9 sh si sj sp sq sr su sw sx sy sA sB sC sD sE sF sG sH sI sJ sK sL u32 sM sN sO sP sQ sR sS sT x5 x6 sX z41 sY:Value}(b7:w1.cell? ⟨g7,0,none⟩=some (.map (some b)))(B1:Bk w1 g4 33 [x])(sW:g4≠g7)(sV:Hid (∀V,Ext w1 V→Calls Tryz.prog 45 #[.agg #[.map (some b)]] V (fun e W=>Ext V W∧∃v,e=.returned v∧Q' v W)))(hK:∀t43 V,Q' t43 V→Ext w1 V→K ⟨#[u0,u1,u2,u3,.pointer (some ⟨g4,0,none⟩),t43,.bool true,.pointer (some ⟨g7,0,none⟩),u8,u9,sh,si,sj,sp,sq,sr,su,sw,sx,sy,sA,sB,sC,sD,sE,sF,sG,sH,sI,sJ,sK,sL,u32,sM,sN,sO,sP,sQ,sR,sS,sT,.agg #[.map (some b)],.agg #[.map (some b)],t43],[]⟩ (V.setCell ⟨g4,0,none⟩ (.map (some b)))) :
  Code.wp Tryz.prog dbrRg (Exit.then K Q) ⟨#[u0,u1,u2,u3,.pointer (some ⟨g4,0,none⟩),x5,x6,.pointer (some ⟨g7,0,none⟩),u8,u9,sh,si,sj,sp,sq,sr,su,sw,sx,sy,sA,sB,sC,sD,sE,sF,sG,sH,sI,sJ,sK,sL,u32,sM,sN,sO,sP,sQ,sR,sS,sT,z41,sY,sX],[]⟩ w1:=by
 have HK:=zN hK
 have B0:=B1.c0
 clear hK
 conv=>arg 2;whnf
 refine cR ?_
 refine wp_region_held_drew (S:=fun V=>V.cell? ⟨g7,0,none⟩=some (.map (some b))) (by kernel_rfl) ((Ext.refl w1).drew.cell b7) (fun se=>?_)
 refine wpAnyH_take (i:=0) (oi:=?ox0) (v:=.agg #[.map (some b)]) ?hx0 (by kernel_rfl) (by kernel_rfl) (by kernel_rfl) (fun _ _ _ h=>h) (Or.inl ⟨?wx0,?yx0⟩) se ?rx0
 case hx0=>simp only[jd,jb,jc];rfl
 case wx0=>rfl
 case yx0 =>
  intro V sg
  have q0:=sg
  simp[go_sem,q0] <;> with_reducible rfl
 (try simp only[Act.put,jg,jh,ji])
 refine wpAnyH_take (i:=1) (oi:=?ox1) (v:=.agg #[.map (some b)]) ?hx1 (by kernel_rfl) (by kernel_rfl) (by kernel_rfl) (fun _ _ _ h=>h) (Or.inl ⟨?wx1,?yx1⟩) se ?rx1
 case hx1=>simp only[jd,jb,jc];rfl
 case wx1=>rfl
 case yx1 =>
  intro V sg
  have q0:=sg
  simp[go_sem,q0] <;> with_reducible rfl
 (try simp only[Act.put,jg,jh,ji])
 refine cD (I:=nC w1 g4 g7 b Q' (fun t5 t6 t43=>⟨#[u0,u1,u2,u3,.pointer (some ⟨g4,0,none⟩),t5,t6,.pointer (some ⟨g7,0,none⟩),u8,u9,sh,si,sj,sp,sq,sr,su,sw,sx,sy,sA,sB,sC,sD,sE,sF,sG,sH,sI,sJ,sK,sL,u32,sM,sN,sO,sP,sQ,sR,sS,sT,.agg #[.map (some b)],.agg #[.map (some b)],t43],[]⟩)) ?hS ?h0 ?h1 _ _ _ _ ?st
 case hS =>
  intro n l sU W hI
  cases hI with
  | s0 h=>exact h.cell
  | s1 h=>exact h.cell
  | s2 h=>exact h.cell
  | s3 h=>exact h.cell
  | s4 h=>exact h.cell
 case st=>exact nC.s0 (fw.start b7)
 case h0 =>
  intro l sU W hI
  cases hI with
  | s4 h =>
   refine⟨by kernel_rfl,?_⟩
   obtain⟨V,hq,hx,rfl⟩:=h.h3 rfl
   obtain rfl:=h.h4 rfl
   obtain rfl:=h.h5 rfl
   exact HK.out _ _ hq hx
 case h1 =>
  intro m l sU W hI
  cases hI with
  | s0 h =>
   refine ab (rs:=[2]) (by kernel_rfl) (by simp) ?_
   refine aa (o:=?a0_2) ?b0_2 (fun K hK=>?c0_2) ?d0_2
   case b0_2=>simp only[jd,jb,jc];rfl
   case c0_2 =>
    have hx:=h.ext rfl
    go_simp
    go_at_call 45
    (with_reducible refine(sV.out _ hx).mono ?_)
    rintro e W2 ⟨he,v,rfl,hq⟩
    (try simp only[Act.put,jg,jh,ji])
    exact hK.out _ _ (nC.s1 (h.call he hq))
   exact ah
  | s1 h =>
   refine ab (rs:=[3]) (by kernel_rfl) (by simp) ?_
   refine aa (o:=?a1_3) ?b1_3 (fun K hK=>?c1_3) ?d1_3
   case b1_3=>simp only[jd,jb,jc];rfl
   case c1_3 =>
    have k0:=(h.ext rfl).cell B0
    have k1:=(B1.ext (h.ext rfl)).free 0
    go_simp
    exact hK.out _ _ (nC.s2 (h.store sW))
   exact ah
  | s2 h =>
   refine ab (rs:=[4]) (by kernel_rfl) (by simp) ?_
   refine aa (o:=?a2_4) ?b2_4 (fun K hK=>?c2_4) ?d2_4
   case b2_4=>simp only[jd,jb,jc];rfl
   case c2_4 =>
    go_simp
    exact hK.out _ _ (nC.s3 (h.a4))
   exact ah
  | s3 h =>
   refine ab (rs:=[5]) (by kernel_rfl) (by simp) ?_
   refine aa (o:=?a3_5) ?b3_5 (fun K hK=>?c3_5) ?d3_5
   case b3_5=>simp only[jd,jb,jc];rfl
   case c3_5 =>
    go_simp
    exact hK.out _ _ (nC.s4 (h.a5))
   exact ah
end Go.Proofs.YtplldnnnhgnbjaaGreatDoor
namespace Go.Proofs.YtplldnnnhgnbjaaGreatDoor
open Go.RowKit Go.Maps
def fP(M:Dm)(nb:Nat)(w:World)(v:Value)(w':World):Prop :=
 ∃A c l,v=.slice A (fM M l).length c∧bU M l∧l.length≤nb∧Sl ow (fun k=>w.heap.size≤k) w' (.slice A (fM M l).length c) (fM M l)
theorem eD(M:Dm)(l:List ByteArray):(fM M l).length=l.length:=jk ..
theorem tables_any{H:Nat→Prop}{w:World}{b nb:Nat}{M:Dm}(hD:DbB H w b nb M)(hO:mD M)(hA:∀s e,M s=some e→e.kinds.length≤6∧e.rel.rows.length≤4096)(tw:nb≤1000000) :
  Calls Tryz.prog 45 #[.agg #[.map (some b)]] w (fun e w'=>Ext w w'∧∃v,e=.returned v∧fP M nb w v w'):=by
 have kb:=Bk.new w 33 [.map (some b)]
 have hx:=(Ext.refl w).alloc (.cells #[.map (some b)] 33)
 have sN:=hD.mono (G:=fun k=>H k∧k<w.heap.size) (fun k h1 h2=>⟨h2,h1⟩)
 have sK:=zN (fun (V:World) (hV:Ext w V)=>im (hD.ext hV) tw hO.key)
 have tj:=zN (fun (V:World) (s:ByteArray) (hV:Ext w V) (hs:s.size≤maxLen)=>gp (s:=s) (sN.ext hV) hs)
 have tn:=zN (fun (V:World) (F:Nat→Prop) (A:Option Addr) (n c:Nat) (a:Int) (rows:List (List Vl)) (h:Sl aG F V (.slice A n c) rows) (h1:∀x∈rows,x.length≤1048576) (h2:n≤1048576)=>rA (a:=a) h h1 h2)
 obtain⟨PP,sE⟩:∃P:Ending→World→Prop,P=(fun e w'=>Ext w w'∧∃v,e=.returned v∧fP M nb w v w'):=⟨_,rfl⟩
 have th:=zN sE
 rw[←sE]
 have HO:=zN hO;have HA:=zN hA
 clear hD sN hO hA sE
 go_enter Tryz.func45,Tryz.ntmps45
 go_upto_region 1 with fail
 change Bk (w.alloc (.cells #[.map (some b)] 33)) _ _ _ at kb
 generalize (w.alloc (.cells #[.map (some b)] 33))=w1 at *
 have sH:=zN kb;have HX:=zN hx
 have b0:=kb.c0
 obtain⟨gb,sS⟩:=sd w.heap.size
 rw[←sS]at sH b0 ⊢
 have tD:Hid (w.heap.size≤gb):=zN (by omega)
 clear kb hx sS
 go_wp2_with fail
 refine(sK.out _ HX.out).mono ?_
 rintro e w2 ⟨v,l,rfl,he,sj,sV,sW,sX⟩
 obtain⟨S,cs,hv⟩:=sj.sl
 subst hv
 have tC:(cH M l).length=l.length:=by unfold cH;rw[jk]
 have sL:=zN sj;have sI:Hid (bU M l):=zN ⟨sV,sX⟩
 have sx:=zN (HX.out.trans he);have sA:=zN (sH.out.ext he)
 obtain⟨n,hn⟩:=sd ((cH M l).length)
 rw[←hn]at sL ⊢
 have tz:n≤1000000:=by omega
 have HN:Hid (n=l.length):=zN (by omega)
 have tg:=zN sW
 clear he sj sV sW sX tC b0 hn sK
 go_wp2_with fail
 go_loopw [3,5] (fun v t wr=>∃(i:Nat) (P:Option Addr) (cp:Nat) (css:List (List Value)),i≤n∧t=.int .i64 (i:Int)∧v=.slice P i cp∧Hid (Rw ow wr w2.heap.size 120 (.slice P i cp) i ((fM M l).take i) css)∧Hid (Ext w2 wr)) (fun _ t _=>n-(intOf t).toNat)
 case atStart=>exact⟨0,none,0,[],jn _,rfl,rfl,zN (Rw.empty _ _ _ _),zN (Ext.refl _)⟩
 case round =>
  obtain⟨i,P,cp,css,hi,rfl,rfl,HR,HE⟩:=hrel
  obtain⟨W,rfl⟩:∃W:World,W=wr:=⟨_,rfl⟩
  by_cases hlt:i<n
  ·have i1:(0:Int)≤(i:Int):=by omega
   have i2:(i:Int)<(n:Int):=by omega
   have sy:i<l.length:=by have:=HN.out;omega
   have sT:i<(cH M l).length:=by unfold cH;rw[jk];exact sy
   obtain⟨ad,B,d,rfl,tq,c0,c1,sU⟩:=sL.out.sc sT
   have es:(cH M l)[i]=⟨l[i],fE M l[i]⟩:=jy _
   rw[es]at c0 c1 sU
   have sr:=World.block_lt_of_cell? _ _ c0
   rw[aT]at sr
   replace c0:=HE.out.cell c0;replace c1:=HE.out.cell c1
   have si:(M l[i]).isSome=true:=(sI.out.2 _).1 (jf sy)
   obtain⟨x,hx⟩:=Option.isSome_iff_exists.1 si
   have sF:fE M l[i]=x.kinds:=by unfold fE;rw[hx];rfl
   have tc:aS M l[i]=x.rel.rows:=kK hx
   have td:l[i].size≤maxLen:=by have:=(HO.out.key _ _ hx).1;unfold maxLen;omega
   have sp:(fM M l).take (i+1)=(fM M l).take i++[tbOf M l[i]]:=by
    unfold fM
    rw[jj (by rw[jk];exact sy),jy]
   have te:tbOf M l[i]=⟨l[i],((x.kinds.length:Nat):Int),x.rel.rows⟩:=by unfold tbOf;rw[sF,tc]
   rw[sF]at c1
   rw[te]at sp
   have sP:=HA.out _ _ hx
   have sG:=fun r hr=>(HO.out.row _ _ hx r hr).1
   have se:Hid (∀V,Ext W V→Calls Tryz.prog 110 #[.agg #[.map (some b)],.string l[i]] V (fun e Z=>Ext V Z∧∃A c,e=.returned (.tuple #[.agg #[.int .i64 x.rel.ar,.slice A x.rel.rows.length c],.bool true])∧Sl aG (fun k=>H k∧k<w.heap.size) Z (.slice A x.rel.rows.length c) x.rel.rows)):=zN (fun V hV=>(tj.out V l[i] (sx.out.trans (HE.out.trans hV)) td).mono (by
    rintro e Z ⟨he,⟨h0,-⟩|⟨y,A,c,h1,h2,h3⟩⟩
    ·rw[hx]at h0
     cases h0
    ·rw[hx]at h1
     injection h1 with h1
     subst h1
     exact⟨he,A,c,h2,h3⟩))
   obtain⟨s,hs⟩:=sd (l[i])
   rw[←hs]at c0 sp se
   obtain⟨nk,sZ⟩:=sd x.kinds.length
   rw[←sZ]at c1 sp
   obtain⟨rows,sh⟩:=sd x.rel.rows
   rw[←sh]at sp se sP sG
   obtain⟨ar,sO⟩:=sd x.rel.ar
   rw[←sO]at se
   have ta:∀r∈rows,r.length≤1048576:=fun r hr=>by rw[sG r hr];omega
   have tp:=zN sp;have sB:=zN ta
   have tB:rows.length≤1048576:=by omega
   have b0:=(sA.out.ext HE.out).c0
   clear sU es si hx sF tc td sp te sP sG hs sZ sh sO ta sT sy
   go_upto_region 6 with fail
   refine cS ?_
   intro KK sq
   refine tbs_reg b0 i1 i2 c0 (fun k hk=>by have:=hk.2;have:=sx.out.size;have:=HE.out.size;omega) se ?_
   intro g t7 t16 t23 t24 t25 A1 sM W2 hx2 hg hb sj
   have d0:=hb.c0;have d1:=hb.c1
   replace c0:=hx2.cell c0;replace c1:=hx2.cell c1
   have tG:=hx2.size;have tH:=HE.out.size
   have su:=HR.out.ext hx2
   have sg:∀k,(k<w2.heap.size∨W.heap.size≤k)→¬(Value.slice P i cp).ownBlock=some k:=fun k hk e=>by
    have h1:=aw HR.out.own e
    have h2:=aV HR.out.own e
    omega
   have sC:Hid (∀V,Ext W2 V→Calls Tryz.prog 111 #[.agg #[.int .i64 ar,.slice A1 rows.length sM]] V (fun e Z=>Ext V Z∧∃A c,e=.returned (.slice A rows.length c)∧Sl aG (fun k=>W2.heap.size≤k) Z (.slice A rows.length c) rows)):=zN (fun V hV=>(tn.out V _ A1 _ sM ar rows (sj.ext hV) sB.out tB).mono (by
    rintro e Z ⟨he,g9,us,sR,rfl,tA⟩
    have tI:=hV.size
    exact⟨he,_,_,rfl,tA.sl (fun k hk=>by have e2:g9=k:=(by injection hk);have:V.heap.size<g9:=sR;omega) (fun k hk=>by have h8:g9<k:=hk;have:V.heap.size<g9:=sR;omega)⟩))
   clear sj hb
   rw[sq]
   clear sq KK
   have tu:=sg g (.inr hg)
   have tt:=sg ad.block (.inl sr)
   have tE:Hid (w2.heap.size≤g):=zN (by omega)
   have sJ:Hid (w2.heap.size≤W2.heap.size∧Ext w2 W2):=zN ⟨by omega,HE.out.trans hx2⟩
   clear hx2
   go_upto_region 7 with fail
   refine cS ?_
   intro KK sq
   refine tba_reg (x:=⟨s,(nk:Int),rows⟩) i1 i2 c0 c1 d0 d1 rfl tt tu su sJ.out.1 (by omega) sC ?_
   intro A9 c9 cs t39 t40 t41 t42 W3 sQ sw
   have sD:Hid (Rw ow W3 w2.heap.size 120 (.slice A9 (i+1) c9) (i+1) ((fM M l).take (i+1)) (css++[cs])):=zN (by rw[tp.out];exact sw)
   have tf:=zN (sQ.new sJ.out.2 (fun k hk=>aw HR.out.own hk))
   clear sQ sw su c0 c1 d0 d1 b0
   rw[sq]
   clear sq KK
   go_wp2_with fail
   go_roundw
   case rel=>exact⟨i+1,A9,c9,_,by omega,by go_num,rfl,sD,tf⟩
   case measure=>simp[intOf];omega
  ·obtain rfl:i=n:=by omega
   have tF:¬(i:Int)<(i:Int):=by omega
   have HQ:Hid (PP (.returned (.slice P i cp)) W):=zN (by
    rw[th.out]
    have h:=HR.out
    have sY:(fM M l).length=i:=by rw[eD];exact HN.out.symm
    rw[jp (by omega)]at h
    have h2:=h.sl (by decide)
    refine⟨sx.out.trans HE.out,_,rfl,P,cp,l,by rw[sY],sI.out,tg.out,?_⟩
    rw[sY]
    exact h2.mono (by decide) (fun k _ hk=>by have:=sx.out.size;omega))
   go_wp2_with fail
   exact HQ.out
end Go.Proofs.YtplldnnnhgnbjaaGreatDoor
