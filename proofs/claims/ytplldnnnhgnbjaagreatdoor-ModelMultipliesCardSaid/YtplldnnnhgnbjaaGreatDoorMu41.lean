/- packed -/
import Derived.Test.YtplldnnnhgnbjaaGreatDoorMu39
import Derived.Test.YtplldnnnhgnbjaaGreatDoorMu40
namespace Go.Proofs.YtplldnnnhgnbjaaGreatDoor
open Go.RowKit Go.Maps
def SmV(v:Vl):Prop:=-1099511627776≤v.int∧v.int≤1099511627776
structure DbI(l:List ByteArray)(i:Nat)(M:Dm):Prop where
 ok:DmOk M
 nm:NamesOf M l
 sz:∀s∈l,s.size≤16
 ln:∀s e,M s=some e→e.rel.rows.length≤i
 sm:∀s e,M s=some e→∀x∈e.rel.rows,∀v∈x,SmV v
theorem updS_grow{rows rows':List (List Vl)}{x:List Vl}{del ch:Bool}(h:SoR rows)(hu:updS rows del x=some (rows',ch)):rows'.length≤rows.length+1:=by
 unfold updS at hu
 split at hu
 ·split at hu
  ·rename_i hh
   injection hu with hu;injection hu with h1 h2;subst h1
   obtain⟨hlt,-⟩:=has_at h hh
   have:=delR_len hlt
   omega
  ·injection hu with hu;injection hu with h1 h2;subst h1
   omega
 ·split at hu
  ·injection hu with hu;injection hu with h1 h2;subst h1
   omega
  ·split at hu
   ·cases hu
   ·injection hu with hu;injection hu with h1 h2;subst h1
    rw[insR_len]
    exact jq _
theorem updD_some{M:Dm}{s t:ByteArray}{y:En}:(updD M s y t).isSome=true↔t=s∨(M t).isSome=true:=by
 unfold updD
 by_cases h:t=s
 ·rw[if_pos h]
  simp[h]
 ·rw[if_neg h]
  simp[h]
theorem DbI.app{l:List ByteArray}{i:Nat}{M M':Dm}{u:Up}{ch:Bool}(h:DbI l i M)(hu:∀v∈u.row,SmV v)(ha:appD M u=.ok (M',ch)):DbI l (i+1) M':=by
 have hok:=appD_ok h.ok ha
 unfold appD at ha
 split at ha
 ·rename_i hc
  split at ha
  ·cases ha
  ·rename_i e he
   split at ha
   ·cases ha
   ·rename_i p hp
    injection ha with ha
    injection ha with h1 h2
    have hsub:M'=M∨M'=updD M u.rel ⟨e.kinds,⟨e.rel.ar,p.1⟩⟩:=by
     rw[←h1]
     split
     ·exact .inr rfl
     ·exact .inl rfl
    rcases hsub with e1|e1
    ·subst e1
     exact⟨h.ok,h.nm,h.sz,fun s y hy=>Nat.le_succ_of_le (h.ln s y hy),h.sm⟩
    ·have q1:=updS_grow (rows':=p.1) (ch:=p.2) (h.ok.so _ _ he).1 hp
     obtain⟨-,-,q3⟩:=updS_ok (rows':=p.1) (ch:=p.2) (h.ok.so _ _ he).1 (h.ok.so _ _ he).2 hp
     refine⟨hok,⟨h.nm.1,fun s=>?_⟩,h.sz,fun s y hy=>?_,fun s y hy=>?_⟩
     ·rw[e1,updD_some,h.nm.2]
      constructor
      ·exact .inr
      ·rintro(rfl|h9)
       ·rw[he];rfl
       ·exact h9
     ·rw[e1]at hy
      unfold updD at hy
      split at hy
      ·injection hy with hy
       subst hy
       have:=h.ln _ _ he
       show p.1.length≤i+1
       omega
      ·exact Nat.le_succ_of_le (h.ln _ _ hy)
     ·rw[e1]at hy
      unfold updD at hy
      split at hy
      ·injection hy with hy
       subst hy
       intro x hx v hv
       rcases q3 x hx with rfl|hx
       ·exact hu v hv
       ·exact h.sm _ _ he x hx v hv
      ·exact h.sm _ _ hy
 ·cases ha
theorem DbI.le{l:List ByteArray}{i j:Nat}{M:Dm}(h:DbI l i M)(hij:i≤j):DbI l j M:=⟨h.ok,h.nm,h.sz,fun s e he=>js (h.ln s e he) hij,h.sm⟩
theorem valB_ok{v:Vl}(h:valB v.kind v.int v.str=true)(hs:SmV v):okV v=true∧VOk v:=by
 refine⟨h,?_⟩
 unfold SmV at hs
 unfold valB at h
 by_cases h1:v.kind=1
 ·rw[if_pos h1,decide_eq_true_eq]at h
  refine⟨?_,by omega,by omega,by omega,by omega⟩
  rw[h]
  exact jn _
 ·rw[if_neg h1]at h
  by_cases h2:v.kind=2
  ·rw[if_pos h2,decide_eq_true_eq]at h
   exact⟨by omega,by omega,by omega,by omega,by omega⟩
  ·rw[if_neg h2]at h
   cases h
theorem DbI.db{l:List ByteArray}{i:Nat}{M:Dm}(h:DbI l i M):DbOk M where
 key:=fun s x hx=>⟨js (h.sz s ((h.nm.2 s).2 (by rw[hx];rfl))) (by omega),js (h.ok.ar s x hx).2 (by omega)⟩
 so:=fun s x hx=>(h.ok.so s x hx).1
 ln:=fun s x hx=>js (h.ok.so s x hx).2 (by omega)
 row:=fun s x hx r hr=>by
  obtain⟨h1,-⟩:=h.ok.row s x hx r hr
  have h2:=(h.ok.ar s x hx).1
  unfold accE at h1
  by_cases h3:(r.length:Int)=x.rel.ar
  ·rw[if_pos h3]at h1
   by_cases h4:valR r=true
   ·exact⟨by omega,fun v hv=>valB_ok (jz.1 h4 v hv) (h.sm s x hx r hr v hv)⟩
   ·rw[if_neg h4]at h1
    cases h1
  ·rw[if_neg h3]at h1
   cases h1
def namesL(ss:List Sc):List ByteArray:=(ss.map Sc.name).foldl addW []
theorem addW_mem{vs:List ByteArray}{s t:ByteArray}:t∈addW vs s↔t∈vs∨t=s:=by
 unfold addW
 by_cases h:s∈vs
 ·rw[if_pos h]
  exact⟨.inl,fun h2=>h2.elim id (fun e=>e ▸ h)⟩
 ·rw[if_neg h,jp,jt]
theorem addW_nodup{vs:List ByteArray}{s:ByteArray}(hn:vs.Nodup):(addW vs s).Nodup:=by
 unfold addW
 by_cases h:s∈vs
 ·rw[if_pos h];exact hn
 ·rw[if_neg h]
  refine List.nodup_append.2 ⟨hn,by simp,fun x hx y hy e=>?_⟩
  rw[jt]at hy
  subst hy
  subst e
  exact h hx
theorem foldW_mem{t:ByteArray}:∀{ss vs:List ByteArray},t∈ss.foldl addW vs↔t∈vs∨t∈ss
 | [],vs=>by simp
 | s::ss,vs=>by
  rw[zm,foldW_mem,addW_mem,jC]
  exact⟨fun h=>h.elim (fun h=>h.imp id .inl) (fun h=>.inr (.inr h)),fun h=>h.elim (fun h=>.inl (.inl h)) (fun h=>h.elim (fun h=>.inl (.inr h)) .inr)⟩
theorem foldW_nodup:∀{ss vs:List ByteArray},vs.Nodup→(ss.foldl addW vs).Nodup
 | [],_,h=>h
 | s::ss,vs,h=>by
  rw[zm]
  exact foldW_nodup (addW_nodup h)
theorem names_of(ss:List Sc):NamesOf (dmL ss) (namesL ss):=by
 refine⟨foldW_nodup List.nodup_nil,fun s=>?_⟩
 unfold namesL
 rw[foldW_mem]
 unfold dmL findS
 rw[Option.isSome_map,List.find?_isSome]
 simp
theorem findS_mem{ss:List Sc}{s:ByteArray}{x:Sc}(h:findS ss s=some x):x∈ss∧x.name=s:=by
 unfold findS at h
 have h2:=List.find?_some (p:=fun x:Sc=>decide (x.name=s)) h
 exact⟨List.mem_of_find?_eq_some h,of_decide_eq_true h2⟩
theorem DbI.new{ss:List Sc}(h:∀x∈ss,ScOk x):DbI (namesL ss) 0 (dmL ss):=by
 have hm:∀s e,dmL ss s=some e→∃x∈ss,x.name=s∧e=⟨x.kinds,⟨(x.kinds.length:Int),[]⟩⟩:=fun s e he=>by
  unfold dmL at he
  rcases hf:findS ss s with _|x
  ·rw[hf]at he
   cases he
  ·rw[hf]at he
   injection he with he
   exact⟨x,(findS_mem hf).1,(findS_mem hf).2,he.symm⟩
 refine⟨⟨fun s e he=>?_,fun s e he=>?_,fun s e he=>?_⟩,names_of ss,fun s hs=>?_,fun s e he=>?_,fun s e he=>?_⟩
 ·obtain⟨x,hx,-,rfl⟩:=hm s e he
  exact⟨rfl,(h x hx).2.1⟩
 ·obtain⟨x,hx,-,rfl⟩:=hm s e he
  exact⟨List.Pairwise.nil,jn _⟩
 ·obtain⟨x,hx,-,rfl⟩:=hm s e he
  intro y hy
  simp at hy
 ·unfold namesL at hs
  rw[foldW_mem]at hs
  rcases hs with hs|hs
  ·simp at hs
  ·obtain⟨x,hx,rfl⟩:=jE.1 hs
   have h1:=(h x hx).1
   unfold catB at h1
   simp only[Bool.and_eq_true,decide_eq_true_eq]at h1
   exact h1.1.2
 ·obtain⟨x,hx,-,rfl⟩:=hm s e he
  exact jn _
 ·obtain⟨x,hx,-,rfl⟩:=hm s e he
  intro y hy
  simp at hy
structure Tb where
 name:ByteArray
 ar:Int
 rows:List (List Vl)
def rdTb:Rdg Tb where
 sz:=3
 R:=fun F w cs x=>∃u,cs=[.string x.name,.int .i64 x.ar,u]∧Sl rdRow F w u x.rows
 len:=fun ⟨_,e,_⟩=>by rw[e];rfl
 fr:=fun ⟨u,e,h⟩ hf hs=>⟨u,e,h.fr hf hs⟩
 mono:=fun ⟨u,e,h⟩ hs=>⟨u,e,h.mono (by decide) hs⟩
theorem Sl.tb{F:Nat→Prop}{w:World}{A:Option Addr}{n c:Nat}{xs:List Tb}(h:Sl rdTb F w (.slice A n c) xs){i:Nat}(hi:i<xs.length):∃ad B d,A=some ad∧F ad.block∧w.cell? (ad.add (i*3))=some (.string xs[i].name)∧w.cell? ⟨(ad.add (i*3)).block,(ad.add (i*3)).off+1,none⟩=some (.int .i64 xs[i].ar)∧w.cell? ⟨(ad.add (i*3)).block,(ad.add (i*3)).off+2,none⟩=some (.slice B xs[i].rows.length d)∧Sl rdRow F w (.slice B xs[i].rows.length d) xs[i].rows:=by
 obtain⟨ad,cs,h1,h2,⟨u,rfl,hu⟩,h4,h5⟩:=h.at hi
 obtain⟨B,d,e1⟩:=hu.sl
 subst e1
 exact⟨ad,B,d,h1,h2,h4 (by simp),h5 0 (by simp),h5 1 (by simp),hu⟩
def tbOf(M:Dm)(s:ByteArray):Tb:=⟨s,((kdsOf M s).length:Int),rowsD M s⟩
def tbsOf(M:Dm)(l:List ByteArray):List Tb:=l.map (tbOf M)
end Go.Proofs.YtplldnnnhgnbjaaGreatDoor
namespace Go.Proofs.YtplldnnnhgnbjaaGreatDoor
open Go.RowKit Go.Maps
structure DbsI(w1:World)(u:Up)(P:Nat→Nat→Option Nat→Int→World→Prop)(b5 b6 b7 b8 b9 b10 b11 b12 b13 b14:Bool)(t10 t11 t12 t27 t33 t34 t35 t36 t37:Value)(mb:Option Nat)(k er:Int)(c d:Nat)(W:World):Prop where
 ext:Ext w1 W
 h5:b5=true→b6=false→∃S G,t33=.slice (some S) 1 1∧Sl rdUp G W (.slice (some S) 1 1) [u]
 h6:b6=true→t34=.tuple #[.agg #[.map mb],.int .i64 k,.int .i64 er]∧P c d mb er W
 h7:b7=true→t27=.tuple #[.agg #[.map mb],.int .i64 k,.int .i64 er]
 h8:b8=true→t35=.agg #[.map mb]
 h9:b9=true→t36=.int .i64 k
 h10:b10=true→t37=.int .i64 er
 h11:b11=true→∃g,t10=.pointer (some ⟨g,0,none⟩)∧w1.heap.size≤g∧g<W.heap.size∧(b6=true→g<c∨d≤g)∧∃x,Bk W g 33 [x]∧(b12=true→x=.map mb)
 h13:b13=true→t11=.int .i64 k
 h14:b14=true→t12=.int .i64 er
 hc:b6=true→w1.heap.size≤c∧d≤W.heap.size
section
variable {w1 W W':World} {u:Up} {P:Nat→Nat→Option Nat→Int→World→Prop} {b5 b6 b7 b8 b9 b10 b11 b12 b13 b14:Bool} {t10 t11 t12 t27 t33 t34 t35 t36 t37 v x y:Value} {mb mb':Option Nat} {k er k' er':Int} {c d:Nat}
def PSt(w1:World)(P:Nat→Nat→Option Nat→Int→World→Prop):Prop:=∀c d mb er W W' S,P c d mb er W→Fr S W W'→(∀k,S k→w1.heap.size≤k∧(k<c∨d≤k))→P c d mb er W'
theorem DbsI.more(hP:PSt w1 P)(h:DbsI w1 u P b5 b6 b7 b8 b9 b10 b11 b12 b13 b14 t10 t11 t12 t27 t33 t34 t35 t36 t37 mb k er c d W)(he:Ext W W'):DbsI w1 u P b5 b6 b7 b8 b9 b10 b11 b12 b13 b14 t10 t11 t12 t27 t33 t34 t35 t36 t37 mb k er c d W' :=
 ⟨h.ext.trans he,fun q q'=>let ⟨S,G,e1,e2⟩:=h.h5 q q';⟨S,G,e1,e2.ext he⟩,fun q=>⟨(h.h6 q).1,hP _ _ _ _ _ _ _ (h.h6 q).2 (he.fr (fun _=>False)) (fun _ h=>h.elim)⟩,h.h7,h.h8,h.h9,h.h10,fun q=>let ⟨g,e1,e2,e2',e3,x,e4,e5⟩:=h.h11 q;⟨g,e1,e2,jM e2' he.size,e3,x,e4.ext he,e5⟩,h.h13,h.h14,fun q=>⟨(h.hc q).1,js (h.hc q).2 he.size⟩⟩
theorem DbsI.start:DbsI w1 u P false false false false false false false false false false t10 t11 t12 t27 t33 t34 t35 t36 t37 none 0 0 0 0 w1.drew :=
 ⟨(Ext.refl w1).drew,(fun q=>by cases q),(fun q=>by cases q),(fun q=>by cases q),(fun q=>by cases q),(fun q=>by cases q),(fun q=>by cases q),(fun q=>by cases q),(fun q=>by cases q),(fun q=>by cases q),(fun q=>by cases q)⟩
theorem DbsI.bld{S:Addr}{G:Nat→Prop}(hP:PSt w1 P)(h:DbsI w1 u P false false b7 b8 b9 b10 b11 b12 b13 b14 t10 t11 t12 t27 t33 t34 t35 t36 t37 mb k er c d W)(he:Ext W W')(hs:Sl rdUp G W' (.slice (some S) 1 1) [u]):DbsI w1 u P true false b7 b8 b9 b10 b11 b12 b13 b14 t10 t11 t12 t27 (.slice (some S) 1 1) t34 t35 t36 t37 mb k er c d W':=by
 have k:=h.more hP he
 exact⟨k.ext,fun _ _=>⟨S,G,rfl,hs⟩,k.h6,k.h7,k.h8,k.h9,k.h10,k.h11,k.h13,k.h14,k.hc⟩
theorem DbsI.call(h:DbsI w1 u P true false false false false false b11 false false false t10 t11 t12 t27 t33 t34 t35 t36 t37 mb k er c d W)(he:Ext W W')(hp:P W.heap.size W'.heap.size mb' er' W'):DbsI w1 u P true true false false false false b11 false false false t10 t11 t12 t27 t33 (.tuple #[.agg #[.map mb'],.int .i64 k',.int .i64 er']) t35 t36 t37 mb' k' er' W.heap.size W'.heap.size W' :=
 ⟨h.ext.trans he,(fun _ q=>by cases q),fun _=>⟨rfl,hp⟩,(fun q=>by cases q),(fun q=>by cases q),(fun q=>by cases q),(fun q=>by cases q),fun q=>let ⟨g,e1,e2,e2',_,x,e4,_⟩:=h.h11 q;⟨g,e1,e2,jM e2' he.size,fun _=>.inl e2',x,e4.ext he,(fun q=>by cases q)⟩,(fun q=>by cases q),(fun q=>by cases q),fun _=>⟨h.ext.size,jq _⟩⟩
theorem DbsI.mv(h:DbsI w1 u P b5 true false b8 b9 b10 b11 b12 b13 b14 t10 t11 t12 t27 t33 t34 t35 t36 t37 mb k er c d W):DbsI w1 u P b5 true true b8 b9 b10 b11 b12 b13 b14 t10 t11 t12 (.tuple #[.agg #[.map mb],.int .i64 k,.int .i64 er]) t33 t34 t35 t36 t37 mb k er c d W :=
 ⟨h.ext,h.h5,h.h6,fun _=>rfl,h.h8,h.h9,h.h10,h.h11,h.h13,h.h14,h.hc⟩
theorem DbsI.e0(h:DbsI w1 u P b5 b6 b7 false b9 b10 b11 b12 b13 b14 t10 t11 t12 t27 t33 t34 t35 t36 t37 mb k er c d W):DbsI w1 u P b5 b6 b7 true b9 b10 b11 b12 b13 b14 t10 t11 t12 t27 t33 t34 (.agg #[.map mb]) t36 t37 mb k er c d W :=
 ⟨h.ext,h.h5,h.h6,h.h7,fun _=>rfl,h.h9,h.h10,h.h11,h.h13,h.h14,h.hc⟩
theorem DbsI.e1(h:DbsI w1 u P b5 b6 b7 b8 false b10 b11 b12 b13 b14 t10 t11 t12 t27 t33 t34 t35 t36 t37 mb k er c d W):DbsI w1 u P b5 b6 b7 b8 true b10 b11 b12 b13 b14 t10 t11 t12 t27 t33 t34 t35 (.int .i64 k) t37 mb k er c d W :=
 ⟨h.ext,h.h5,h.h6,h.h7,h.h8,fun _=>rfl,h.h10,h.h11,h.h13,h.h14,h.hc⟩
theorem DbsI.e2(h:DbsI w1 u P b5 b6 b7 b8 b9 false b11 b12 b13 b14 t10 t11 t12 t27 t33 t34 t35 t36 t37 mb k er c d W):DbsI w1 u P b5 b6 b7 b8 b9 true b11 b12 b13 b14 t10 t11 t12 t27 t33 t34 t35 t36 (.int .i64 er) mb k er c d W :=
 ⟨h.ext,h.h5,h.h6,h.h7,h.h8,h.h9,fun _=>rfl,h.h11,h.h13,h.h14,h.hc⟩
theorem DbsI.box(hP:PSt w1 P)(h:DbsI w1 u P b5 b6 b7 b8 b9 b10 false false b13 b14 t10 t11 t12 t27 t33 t34 t35 t36 t37 mb k er c d W):DbsI w1 u P b5 b6 b7 b8 b9 b10 true false b13 b14 (.pointer (some ⟨W.heap.size,0,none⟩)) t11 t12 t27 t33 t34 t35 t36 t37 mb k er c d (W.alloc (.cells #[x] 33)):=by
 have k:=h.more hP ((Ext.refl W).alloc (.cells #[x] 33))
 exact⟨k.ext,k.h5,k.h6,k.h7,k.h8,k.h9,k.h10,fun _=>⟨W.heap.size,rfl,h.ext.size,by simp,fun q=>.inr (h.hc q).2,x,Bk.new W _ [x],(fun q=>by cases q)⟩,k.h13,k.h14,k.hc⟩
theorem DbsI.store{g:Nat}(hP:PSt w1 P)(h:DbsI w1 u P b5 true b7 b8 b9 b10 true false b13 b14 (.pointer (some ⟨g,0,none⟩)) t11 t12 t27 t33 t34 t35 t36 t37 mb k er c d W):DbsI w1 u P b5 true b7 b8 b9 b10 true true b13 b14 (.pointer (some ⟨g,0,none⟩)) t11 t12 t27 t33 t34 t35 t36 t37 mb k er c d (W.setCell ⟨g,0,none⟩ (.map mb)):=by
 have hf:Fr (fun q=>q=g) W (W.setCell ⟨g,0,none⟩ (.map mb)):=(Fr.refl (fun q=>q=g) W).setCell (p:=⟨g,0,none⟩) (.inl rfl) _
 obtain⟨g',e,hg,hg2,hs,x,hb,-⟩:=h.h11 rfl
 injection e with e
 injection e with e
 injection e with e
 subst e
 refine⟨hf.new h.ext (fun q hq=>by omega),(fun _ q=>by cases q),fun q=>⟨(h.h6 q).1,hP _ _ _ _ _ _ _ (h.h6 q).2 hf (fun q hq=>by rw[hq];exact⟨hg,hs rfl⟩)⟩,h.h7,h.h8,h.h9,h.h10,fun _=>⟨g,rfl,hg,jM hg2 hf.size,hs,.map mb,hb.set 0 _,fun _=>rfl⟩,h.h13,h.h14,fun q=>⟨(h.hc q).1,js (h.hc q).2 hf.size⟩⟩
theorem DbsI.a1(h:DbsI w1 u P b5 b6 b7 b8 b9 b10 b11 b12 false b14 t10 t11 t12 t27 t33 t34 t35 t36 t37 mb k er c d W):DbsI w1 u P b5 b6 b7 b8 b9 b10 b11 b12 true b14 t10 (.int .i64 k) t12 t27 t33 t34 t35 t36 t37 mb k er c d W :=
 ⟨h.ext,h.h5,h.h6,h.h7,h.h8,h.h9,h.h10,h.h11,fun _=>rfl,h.h14,h.hc⟩
theorem DbsI.a2(h:DbsI w1 u P b5 b6 b7 b8 b9 b10 b11 b12 b13 false t10 t11 t12 t27 t33 t34 t35 t36 t37 mb k er c d W):DbsI w1 u P b5 b6 b7 b8 b9 b10 b11 b12 b13 true t10 t11 (.int .i64 er) t27 t33 t34 t35 t36 t37 mb k er c d W :=
 ⟨h.ext,h.h5,h.h6,h.h7,h.h8,h.h9,h.h10,h.h11,h.h13,fun _=>rfl,h.hc⟩
end
theorem one_up(W:World){G:Nat→Prop}{B:Option Addr}{d:Nat}{u:Up}(h:Sl rdVl G W (.slice B u.row.length d) u.row):Sl rdUp (fun _=>True) (W.alloc (.cells #[.bool u.del,.string u.rel,.slice B u.row.length d] 97)) (.slice (some ⟨W.heap.size,0,none⟩) 1 1) [u]:=by
 have kb:=Bk.new W 97 [.bool u.del,.string u.rel,.slice B u.row.length d]
 refine⟨_,_,rfl,jq _,fun i hi=>?_⟩
 have hi0:i=0:=by simpa using hi
 subst hi0
 refine⟨_,_,rfl,trivial,⟨_,rfl,(h.ext ((Ext.refl W).alloc _)).mono (by decide) (fun _ _ _=>trivial)⟩,fun j hj=>?_⟩
 have h3:j<3:=hj
 have h4:=kb.cell (i:=j) (by simpa using h3)
 have h5:j=0∨j=1∨j=2:=by omega
 rcases h5 with rfl|rfl|rfl
 ·have e:(⟨W.heap.size,0,none⟩:Addr).add (0*rdUp.sz+0)=⟨W.heap.size,0,none⟩:=by simp[Addr.add]
  rw[e]
  exact h4
 ·have e:(⟨W.heap.size,0,none⟩:Addr).add (0*rdUp.sz+1)=⟨W.heap.size,1,none⟩:=by simp[Addr.add]
  rw[e]
  exact h4
 ·have e:(⟨W.heap.size,0,none⟩:Addr).add (0*rdUp.sz+2)=⟨W.heap.size,2,none⟩:=by simp[Addr.add]
  rw[e]
  exact h4
structure TbsI(w1:World)(ar:Int)(nr:Nat)(rows:List (List Vl))(F:Nat→Prop)(b6 b7 b8 b9 b10 b11 b12:Bool)(t6 t7 t16 t23 t24 t25:Value)(A:Option Addr)(c:Nat)(W:World):Prop where
 ext:Ext w1 W
 h6:b6=true→t23=.tuple #[.agg #[.int .i64 ar,.slice A nr c],.bool true]∧Sl rdRow F W (.slice A nr c) rows
 h7:b7=true→t16=.tuple #[.agg #[.int .i64 ar,.slice A nr c],.bool true]
 h8:b8=true→t24=.agg #[.int .i64 ar,.slice A nr c]
 h9:b9=true→t25=.bool true
 h10:b10=true→∃g x y,t6=.pointer (some ⟨g,0,none⟩)∧w1.heap.size≤g∧Bk W g 179 [x,y]∧(b11=true→x=.int .i64 ar∧y=.slice A nr c)
section
variable {w1 W W':World} {ar:Int} {nr:Nat} {rows:List (List Vl)} {F:Nat→Prop} {b6 b7 b8 b9 b10 b11 b12:Bool} {t6 t7 t16 t23 t24 t25 x y v:Value} {A A':Option Addr} {c c':Nat}
theorem TbsI.more(h:TbsI w1 ar nr rows F b6 b7 b8 b9 b10 b11 b12 t6 t7 t16 t23 t24 t25 A c W)(he:Ext W W'):TbsI w1 ar nr rows F b6 b7 b8 b9 b10 b11 b12 t6 t7 t16 t23 t24 t25 A c W' :=
 ⟨h.ext.trans he,fun q=>⟨(h.h6 q).1,(h.h6 q).2.ext he⟩,h.h7,h.h8,h.h9,fun q=>let ⟨g,x,y,e1,e2,e3,e4⟩:=h.h10 q;⟨g,x,y,e1,e2,e3.ext he,e4⟩⟩
theorem TbsI.start:TbsI w1 ar nr rows F false false false false false false false t6 t7 t16 t23 t24 t25 none 0 w1.drew :=
 ⟨(Ext.refl w1).drew,(fun q=>by cases q),(fun q=>by cases q),(fun q=>by cases q),(fun q=>by cases q),(fun q=>by cases q)⟩
theorem TbsI.call(h:TbsI w1 ar nr rows F false false false false b10 false false t6 t7 t16 t23 t24 t25 A c W)(he:Ext W W')(hs:Sl rdRow F W' (.slice A' nr c') rows):TbsI w1 ar nr rows F true false false false b10 false false t6 t7 t16 (.tuple #[.agg #[.int .i64 ar,.slice A' nr c'],.bool true]) t24 t25 A' c' W':=by
 have k:=h.more he
 exact⟨k.ext,fun _=>⟨rfl,hs⟩,(fun q=>by cases q),(fun q=>by cases q),(fun q=>by cases q),fun q=>let ⟨g,x,y,e1,e2,e3,_⟩:=k.h10 q;⟨g,x,y,e1,e2,e3,(fun q=>by cases q)⟩⟩
theorem TbsI.mv(h:TbsI w1 ar nr rows F true false b8 b9 b10 b11 b12 t6 t7 t16 t23 t24 t25 A c W):TbsI w1 ar nr rows F true true b8 b9 b10 b11 b12 t6 t7 (.tuple #[.agg #[.int .i64 ar,.slice A nr c],.bool true]) t23 t24 t25 A c W:=⟨h.ext,h.h6,fun _=>rfl,h.h8,h.h9,h.h10⟩
theorem TbsI.e0(h:TbsI w1 ar nr rows F b6 b7 false b9 b10 b11 b12 t6 t7 t16 t23 t24 t25 A c W):TbsI w1 ar nr rows F b6 b7 true b9 b10 b11 b12 t6 t7 t16 t23 (.agg #[.int .i64 ar,.slice A nr c]) t25 A c W:=⟨h.ext,h.h6,h.h7,fun _=>rfl,h.h9,h.h10⟩
theorem TbsI.e1(h:TbsI w1 ar nr rows F b6 b7 b8 false b10 b11 b12 t6 t7 t16 t23 t24 t25 A c W):TbsI w1 ar nr rows F b6 b7 b8 true b10 b11 b12 t6 t7 t16 t23 t24 (.bool true) A c W:=⟨h.ext,h.h6,h.h7,h.h8,fun _=>rfl,h.h10⟩
theorem TbsI.box(h:TbsI w1 ar nr rows F b6 b7 b8 b9 false false b12 t6 t7 t16 t23 t24 t25 A c W):TbsI w1 ar nr rows F b6 b7 b8 b9 true false b12 (.pointer (some ⟨W.heap.size,0,none⟩)) t7 t16 t23 t24 t25 A c (W.alloc (.cells #[x,y] 179)):=by
 have k:=h.more ((Ext.refl W).alloc (.cells #[x,y] 179))
 exact⟨k.ext,k.h6,k.h7,k.h8,k.h9,fun _=>⟨_,x,y,rfl,h.ext.size,Bk.new W _ [x,y],(fun q=>by cases q)⟩⟩
theorem TbsI.store{g:Nat}(hF:∀k,F k→k<w1.heap.size)(h:TbsI w1 ar nr rows F true b7 b8 b9 true false b12 (.pointer (some ⟨g,0,none⟩)) t7 t16 t23 t24 t25 A c W):TbsI w1 ar nr rows F true b7 b8 b9 true true b12 (.pointer (some ⟨g,0,none⟩)) t7 t16 t23 t24 t25 A c ((W.setCell ⟨g,0,none⟩ (.int .i64 ar)).setCell ⟨g,1,none⟩ (.slice A nr c)):=by
 have hf:Fr (fun k=>k=g) W ((W.setCell ⟨g,0,none⟩ (.int .i64 ar)).setCell ⟨g,1,none⟩ (.slice A nr c)):=((Fr.refl (fun k=>k=g) W).setCell (p:=⟨g,0,none⟩) (.inl rfl) _).setCell (p:=⟨g,1,none⟩) (.inl rfl) _
 obtain⟨g',x,y,e,hg,hb,-⟩:=h.h10 rfl
 injection e with e
 injection e with e
 injection e with e
 subst e
 exact⟨hf.new h.ext (fun q hq=>by omega),fun q=>⟨(h.h6 q).1,(h.h6 q).2.fr hf (fun k hk e=>by have:=hF k hk;omega)⟩,h.h7,h.h8,h.h9,fun _=>⟨g,.int .i64 ar,.slice A nr c,rfl,hg,(hb.set 0 _).set 1 _,fun _=>⟨rfl,rfl⟩⟩⟩
theorem TbsI.asg(h:TbsI w1 ar nr rows F b6 b7 b8 b9 b10 b11 false t6 t7 t16 t23 t24 t25 A c W):TbsI w1 ar nr rows F b6 b7 b8 b9 b10 b11 true t6 v t16 t23 t24 t25 A c W:=⟨h.ext,h.h6,h.h7,h.h8,h.h9,h.h10⟩
end
structure TbaI(w1:World)(base n c0:Nat)(A0:Option Addr)(xs:List Tb)(css:List (List Value))(x:Tb)(b13 b14 b15 b16 b17:Bool)(t3 t39 t40 t41 t42:Value)(W:World):Prop where
 fr:Fr (fun k=>(Value.slice A0 n c0).ownBlock=some k) w1 W
 ext:b16=false→Ext w1 W
 h13:b13=true→b16=false→∃A' c',t39=.slice A' x.rows.length c'∧Sl rdRow (fun k=>w1.heap.size≤k) W (.slice A' x.rows.length c') x.rows
 h14:b14=true→b16=false→t40=.agg #[.string x.name,.int .i64 x.ar,t39]
 h15:b15=true→b16=false→∃V A' c',Ext w1 V∧W=V.alloc (.cells #[.string x.name,.int .i64 x.ar,.slice A' x.rows.length c'] 120)∧t41=.slice (some ⟨V.heap.size,0,none⟩) 1 1∧Sl rdRow (fun k=>w1.heap.size≤k) V (.slice A' x.rows.length c') x.rows
 h16:b16=true→∃A9 c9 cs,t42=.slice A9 (n+1) c9∧Rw rdTb W base 120 (.slice A9 (n+1) c9) (n+1) (xs++[x]) (css++[cs])
 h17:b17=true→t3=t42
section
variable {w1 W W':World} {base n c0:Nat} {A0 A':Option Addr} {xs:List Tb} {css:List (List Value)} {x:Tb} {b13 b14 b15 b16 b17:Bool} {t3 t39 t40 t41 t42 v9:Value} {c':Nat}
theorem TbaI.start:TbaI w1 base n c0 A0 xs css x false false false false false t3 t39 t40 t41 t42 w1.drew :=
 ⟨(Fr.refl _ w1).drew,fun _=>(Ext.refl w1).drew,(fun q=>by cases q),(fun q=>by cases q),(fun q=>by cases q),(fun q=>by cases q),(fun q=>by cases q)⟩
theorem TbaI.call(h:TbaI w1 base n c0 A0 xs css x false false false false false t3 t39 t40 t41 t42 W)(he:Ext W W')(hs:Sl rdRow (fun k=>w1.heap.size≤k) W' (.slice A' x.rows.length c') x.rows):TbaI w1 base n c0 A0 xs css x true false false false false t3 (.slice A' x.rows.length c') t40 t41 t42 W' :=
 ⟨((h.ext rfl).trans he).fr _,fun _=>(h.ext rfl).trans he,fun _ _=>⟨A',c',rfl,hs⟩,(fun q=>by cases q),(fun q=>by cases q),(fun q=>by cases q),(fun q=>by cases q)⟩
theorem TbaI.bld(h:TbaI w1 base n c0 A0 xs css x true false false false false t3 t39 t40 t41 t42 W):TbaI w1 base n c0 A0 xs css x true true false false false t3 t39 (.agg #[.string x.name,.int .i64 x.ar,t39]) t41 t42 W :=
 ⟨h.fr,h.ext,h.h13,fun _ _=>rfl,(fun q=>by cases q),(fun q=>by cases q),(fun q=>by cases q)⟩
theorem TbaI.bsl(h:TbaI w1 base n c0 A0 xs css x true true false false false t3 (.slice A' x.rows.length c') t40 t41 t42 W)(hs:Sl rdRow (fun k=>w1.heap.size≤k) W (.slice A' x.rows.length c') x.rows):TbaI w1 base n c0 A0 xs css x true true true false false t3 (.slice A' x.rows.length c') t40 (.slice (some ⟨W.heap.size,0,none⟩) 1 1) t42 (W.alloc (.cells #[.string x.name,.int .i64 x.ar,.slice A' x.rows.length c'] 120)) :=
 ⟨((h.ext rfl).alloc _).fr _,fun _=>(h.ext rfl).alloc _,fun _ _=>⟨A',c',rfl,hs.ext ((Ext.refl W).alloc _)⟩,h.h14,fun _ _=>⟨W,A',c',h.ext rfl,rfl,rfl,hs⟩,(fun q=>by cases q),(fun q=>by cases q)⟩
theorem TbaI.app{V:World}{A9:Option Addr}{c9:Nat}(hO:Rw rdTb w1 base 120 (.slice A0 n c0) n xs css)(hb:base≤w1.heap.size)(hx:Ext w1 V)(hs:Sl rdRow (fun k=>w1.heap.size≤k) V (.slice A' x.rows.length c') x.rows)(hr:W'.ownsRow base 120 3 (.slice A9 (n+1) c9) (n+1) (css.flatten++[.string x.name,.int .i64 x.ar,.slice A' x.rows.length c']))(hg:(V.alloc (.cells #[.string x.name,.int .i64 x.ar,.slice A' x.rows.length c'] 120)).grownBy W' (Value.slice A0 n c0).ownBlock)(hl:Lands (V.alloc (.cells #[.string x.name,.int .i64 x.ar,.slice A' x.rows.length c'] 120)) (.slice A0 n c0) (.slice A9 (n+1) c9)):TbaI w1 base n c0 A0 xs css x true true true true false t3 t39 t40 t41 (.slice A9 (n+1) c9) W':=by
 have hxa:Ext w1 (V.alloc (.cells #[.string x.name,.int .i64 x.ar,.slice A' x.rows.length c'] 120)):=hx.alloc _
 refine⟨Fr.comp (hxa.fr _) (grown_fr hg) (fun k hk=>.inl hk),(fun q=>by cases q),(fun _ q=>by cases q),(fun _ q=>by cases q),(fun _ q=>by cases q),fun _=>⟨A9,c9,[.string x.name,.int .i64 x.ar,.slice A' x.rows.length c'],rfl,?_⟩,(fun q=>by cases q)⟩
 refine hO.more hxa ⟨_,rfl,(hs.ext ((Ext.refl V).alloc _)).mono (by decide) (fun k _ hk=>⟨js hb hk,fun e=>?_⟩)⟩ hr hg hl
 have:=own_lt hO.own e
 omega
theorem TbaI.asg(h:TbaI w1 base n c0 A0 xs css x b13 b14 b15 b16 false t3 t39 t40 t41 t42 W):TbaI w1 base n c0 A0 xs css x b13 b14 b15 b16 true t42 t39 t40 t41 t42 W:=⟨h.fr,h.ext,h.h13,h.h14,h.h15,h.h16,fun _=>rfl⟩
end
theorem info_tb:(Tryz.prog.info? 120).map (fun i=>(i.zero,i.size,i.bytes))=some (some (.agg #[.string ⟨#[]⟩,.int .i64 0,.slice none 0 0]),3,48):=by kernel_rfl
structure DbrI(w1:World)(g4 g7 b:Nat)(Q:Value→World→Prop)(b2 b3 b4 b5:Bool)(t5 t6 t43:Value)(W:World):Prop where
 cell:W.cell? ⟨g7,0,none⟩=some (.map (some b))
 ext:b3=false→Ext w1 W
 h2:b2=true→b3=false→Q t43 W
 h3:b3=true→∃V,Q t43 V∧Ext w1 V∧W=V.setCell ⟨g4,0,none⟩ (.map (some b))
 h4:b4=true→t5=t43
 h5:b5=true→t6=.bool true
section
variable {w1 W W':World} {g4 g7 b:Nat} {Q:Value→World→Prop} {b2 b3 b4 b5:Bool} {t5 t6 t43 v:Value}
theorem DbrI.start(h:w1.cell? ⟨g7,0,none⟩=some (.map (some b))):DbrI w1 g4 g7 b Q false false false false t5 t6 t43 w1.drew:=⟨(Ext.refl w1).drew.cell h,fun _=>(Ext.refl w1).drew,(fun q=>by cases q),(fun q=>by cases q),(fun q=>by cases q),(fun q=>by cases q)⟩
theorem DbrI.call(h:DbrI w1 g4 g7 b Q false false false false t5 t6 t43 W)(he:Ext W W')(hq:Q v W'):DbrI w1 g4 g7 b Q true false false false t5 t6 v W':=⟨he.cell h.cell,fun _=>(h.ext rfl).trans he,fun _ _=>hq,(fun q=>by cases q),(fun q=>by cases q),(fun q=>by cases q)⟩
theorem DbrI.store(hne:g4≠g7)(h:DbrI w1 g4 g7 b Q true false false false t5 t6 t43 W):DbrI w1 g4 g7 b Q true true false false t5 t6 t43 (W.setCell ⟨g4,0,none⟩ (.map (some b))) :=
 ⟨by rw[World.cell?_setCell_other _ _ _ _ (by simp[hne])];exact h.cell,(fun q=>by cases q),(fun _ q=>by cases q),fun _=>⟨W,h.h2 rfl rfl,h.ext rfl,rfl⟩,(fun q=>by cases q),(fun q=>by cases q)⟩
theorem DbrI.a4(h:DbrI w1 g4 g7 b Q b2 b3 false b5 t5 t6 t43 W):DbrI w1 g4 g7 b Q b2 b3 true b5 t43 t6 t43 W:=⟨h.cell,h.ext,h.h2,h.h3,fun _=>rfl,h.h5⟩
theorem DbrI.a5(h:DbrI w1 g4 g7 b Q b2 b3 b4 false t5 t6 t43 W):DbrI w1 g4 g7 b Q b2 b3 b4 true t5 (.bool true) t43 W:=⟨h.cell,h.ext,h.h2,h.h3,h.h4,fun _=>rfl⟩
end
noncomputable def dbsRg:Code:=((Tryz.f12.body.bind (findRegion 7)).getD .skip)
inductive dbsJ(w1:World)(u:Up)(P:Nat→Nat→Option Nat→Int→World→Prop)(Fz:Value→Value→Value→Value→Value→Value→Value→Value→Value→ Act):Nat→Array Bool→Act→World→Prop
 | s0 {t10 t11 t12 t27 t33 t34 t35 t36 t37:Value} {mb:Option Nat} {k:Int} {er:Int} {c:Nat} {d:Nat} {W:World} (h:DbsI w1 u P false false false false false false false false false false t10 t11 t12 t27 t33 t34 t35 t36 t37 mb k er c d W):dbsJ w1 u P Fz 10 #[true,true,true,true,true,false,false,false,false,false,false,false,false,false,false] (Fz t10 t11 t12 t27 t33 t34 t35 t36 t37) W
 | s1 {t10 t11 t12 t27 t33 t34 t35 t36 t37:Value} {mb:Option Nat} {k:Int} {er:Int} {c:Nat} {d:Nat} {W:World} (h:DbsI w1 u P true false false false false false false false false false t10 t11 t12 t27 t33 t34 t35 t36 t37 mb k er c d W):dbsJ w1 u P Fz 9 #[true,true,true,true,true,true,false,false,false,false,false,false,false,false,false] (Fz t10 t11 t12 t27 t33 t34 t35 t36 t37) W
 | s2 {t10 t11 t12 t27 t33 t34 t35 t36 t37:Value} {mb:Option Nat} {k:Int} {er:Int} {c:Nat} {d:Nat} {W:World} (h:DbsI w1 u P false false false false false false true false false false t10 t11 t12 t27 t33 t34 t35 t36 t37 mb k er c d W):dbsJ w1 u P Fz 9 #[true,true,true,true,true,false,false,false,false,false,false,true,false,false,false] (Fz t10 t11 t12 t27 t33 t34 t35 t36 t37) W
 | s3 {t10 t11 t12 t27 t33 t34 t35 t36 t37:Value} {mb:Option Nat} {k:Int} {er:Int} {c:Nat} {d:Nat} {W:World} (h:DbsI w1 u P true true false false false false false false false false t10 t11 t12 t27 t33 t34 t35 t36 t37 mb k er c d W):dbsJ w1 u P Fz 8 #[true,true,true,true,true,true,true,false,false,false,false,false,false,false,false] (Fz t10 t11 t12 t27 t33 t34 t35 t36 t37) W
 | s4 {t10 t11 t12 t27 t33 t34 t35 t36 t37:Value} {mb:Option Nat} {k:Int} {er:Int} {c:Nat} {d:Nat} {W:World} (h:DbsI w1 u P true false false false false false true false false false t10 t11 t12 t27 t33 t34 t35 t36 t37 mb k er c d W):dbsJ w1 u P Fz 8 #[true,true,true,true,true,true,false,false,false,false,false,true,false,false,false] (Fz t10 t11 t12 t27 t33 t34 t35 t36 t37) W
 | s5 {t10 t11 t12 t27 t33 t34 t35 t36 t37:Value} {mb:Option Nat} {k:Int} {er:Int} {c:Nat} {d:Nat} {W:World} (h:DbsI w1 u P true true true false false false false false false false t10 t11 t12 t27 t33 t34 t35 t36 t37 mb k er c d W):dbsJ w1 u P Fz 7 #[true,true,true,true,true,true,true,true,false,false,false,false,false,false,false] (Fz t10 t11 t12 t27 t33 t34 t35 t36 t37) W
 | s6 {t10 t11 t12 t27 t33 t34 t35 t36 t37:Value} {mb:Option Nat} {k:Int} {er:Int} {c:Nat} {d:Nat} {W:World} (h:DbsI w1 u P true true false false false false true false false false t10 t11 t12 t27 t33 t34 t35 t36 t37 mb k er c d W):dbsJ w1 u P Fz 7 #[true,true,true,true,true,true,true,false,false,false,false,true,false,false,false] (Fz t10 t11 t12 t27 t33 t34 t35 t36 t37) W
 | s7 {t10 t11 t12 t27 t33 t34 t35 t36 t37:Value} {mb:Option Nat} {k:Int} {er:Int} {c:Nat} {d:Nat} {W:World} (h:DbsI w1 u P true true true true false false false false false false t10 t11 t12 t27 t33 t34 t35 t36 t37 mb k er c d W):dbsJ w1 u P Fz 6 #[true,true,true,true,true,true,true,true,true,false,false,false,false,false,false] (Fz t10 t11 t12 t27 t33 t34 t35 t36 t37) W
 | s8 {t10 t11 t12 t27 t33 t34 t35 t36 t37:Value} {mb:Option Nat} {k:Int} {er:Int} {c:Nat} {d:Nat} {W:World} (h:DbsI w1 u P true true true false true false false false false false t10 t11 t12 t27 t33 t34 t35 t36 t37 mb k er c d W):dbsJ w1 u P Fz 6 #[true,true,true,true,true,true,true,true,false,true,false,false,false,false,false] (Fz t10 t11 t12 t27 t33 t34 t35 t36 t37) W
 | s9 {t10 t11 t12 t27 t33 t34 t35 t36 t37:Value} {mb:Option Nat} {k:Int} {er:Int} {c:Nat} {d:Nat} {W:World} (h:DbsI w1 u P true true true false false true false false false false t10 t11 t12 t27 t33 t34 t35 t36 t37 mb k er c d W):dbsJ w1 u P Fz 6 #[true,true,true,true,true,true,true,true,false,false,true,false,false,false,false] (Fz t10 t11 t12 t27 t33 t34 t35 t36 t37) W
 | s10 {t10 t11 t12 t27 t33 t34 t35 t36 t37:Value} {mb:Option Nat} {k:Int} {er:Int} {c:Nat} {d:Nat} {W:World} (h:DbsI w1 u P true true true false false false true false false false t10 t11 t12 t27 t33 t34 t35 t36 t37 mb k er c d W):dbsJ w1 u P Fz 6 #[true,true,true,true,true,true,true,true,false,false,false,true,false,false,false] (Fz t10 t11 t12 t27 t33 t34 t35 t36 t37) W
 | s11 {t10 t11 t12 t27 t33 t34 t35 t36 t37:Value} {mb:Option Nat} {k:Int} {er:Int} {c:Nat} {d:Nat} {W:World} (h:DbsI w1 u P true true true true true false false false false false t10 t11 t12 t27 t33 t34 t35 t36 t37 mb k er c d W):dbsJ w1 u P Fz 5 #[true,true,true,true,true,true,true,true,true,true,false,false,false,false,false] (Fz t10 t11 t12 t27 t33 t34 t35 t36 t37) W
 | s12 {t10 t11 t12 t27 t33 t34 t35 t36 t37:Value} {mb:Option Nat} {k:Int} {er:Int} {c:Nat} {d:Nat} {W:World} (h:DbsI w1 u P true true true true false true false false false false t10 t11 t12 t27 t33 t34 t35 t36 t37 mb k er c d W):dbsJ w1 u P Fz 5 #[true,true,true,true,true,true,true,true,true,false,true,false,false,false,false] (Fz t10 t11 t12 t27 t33 t34 t35 t36 t37) W
 | s13 {t10 t11 t12 t27 t33 t34 t35 t36 t37:Value} {mb:Option Nat} {k:Int} {er:Int} {c:Nat} {d:Nat} {W:World} (h:DbsI w1 u P true true true true false false true false false false t10 t11 t12 t27 t33 t34 t35 t36 t37 mb k er c d W):dbsJ w1 u P Fz 5 #[true,true,true,true,true,true,true,true,true,false,false,true,false,false,false] (Fz t10 t11 t12 t27 t33 t34 t35 t36 t37) W
 | s14 {t10 t11 t12 t27 t33 t34 t35 t36 t37:Value} {mb:Option Nat} {k:Int} {er:Int} {c:Nat} {d:Nat} {W:World} (h:DbsI w1 u P true true true false true true false false false false t10 t11 t12 t27 t33 t34 t35 t36 t37 mb k er c d W):dbsJ w1 u P Fz 5 #[true,true,true,true,true,true,true,true,false,true,true,false,false,false,false] (Fz t10 t11 t12 t27 t33 t34 t35 t36 t37) W
 | s15 {t10 t11 t12 t27 t33 t34 t35 t36 t37:Value} {mb:Option Nat} {k:Int} {er:Int} {c:Nat} {d:Nat} {W:World} (h:DbsI w1 u P true true true false true false true false false false t10 t11 t12 t27 t33 t34 t35 t36 t37 mb k er c d W):dbsJ w1 u P Fz 5 #[true,true,true,true,true,true,true,true,false,true,false,true,false,false,false] (Fz t10 t11 t12 t27 t33 t34 t35 t36 t37) W
 | s16 {t10 t11 t12 t27 t33 t34 t35 t36 t37:Value} {mb:Option Nat} {k:Int} {er:Int} {c:Nat} {d:Nat} {W:World} (h:DbsI w1 u P true true true false false true true false false false t10 t11 t12 t27 t33 t34 t35 t36 t37 mb k er c d W):dbsJ w1 u P Fz 5 #[true,true,true,true,true,true,true,true,false,false,true,true,false,false,false] (Fz t10 t11 t12 t27 t33 t34 t35 t36 t37) W
 | s17 {t10 t11 t12 t27 t33 t34 t35 t36 t37:Value} {mb:Option Nat} {k:Int} {er:Int} {c:Nat} {d:Nat} {W:World} (h:DbsI w1 u P true true true true true true false false false false t10 t11 t12 t27 t33 t34 t35 t36 t37 mb k er c d W):dbsJ w1 u P Fz 4 #[true,true,true,true,true,true,true,true,true,true,true,false,false,false,false] (Fz t10 t11 t12 t27 t33 t34 t35 t36 t37) W
 | s18 {t10 t11 t12 t27 t33 t34 t35 t36 t37:Value} {mb:Option Nat} {k:Int} {er:Int} {c:Nat} {d:Nat} {W:World} (h:DbsI w1 u P true true true true true false true false false false t10 t11 t12 t27 t33 t34 t35 t36 t37 mb k er c d W):dbsJ w1 u P Fz 4 #[true,true,true,true,true,true,true,true,true,true,false,true,false,false,false] (Fz t10 t11 t12 t27 t33 t34 t35 t36 t37) W
 | s19 {t10 t11 t12 t27 t33 t34 t35 t36 t37:Value} {mb:Option Nat} {k:Int} {er:Int} {c:Nat} {d:Nat} {W:World} (h:DbsI w1 u P true true true true false true true false false false t10 t11 t12 t27 t33 t34 t35 t36 t37 mb k er c d W):dbsJ w1 u P Fz 4 #[true,true,true,true,true,true,true,true,true,false,true,true,false,false,false] (Fz t10 t11 t12 t27 t33 t34 t35 t36 t37) W
 | s20 {t10 t11 t12 t27 t33 t34 t35 t36 t37:Value} {mb:Option Nat} {k:Int} {er:Int} {c:Nat} {d:Nat} {W:World} (h:DbsI w1 u P true true true true false false true true false false t10 t11 t12 t27 t33 t34 t35 t36 t37 mb k er c d W):dbsJ w1 u P Fz 4 #[true,true,true,true,true,true,true,true,true,false,false,true,true,false,false] (Fz t10 t11 t12 t27 t33 t34 t35 t36 t37) W
 | s21 {t10 t11 t12 t27 t33 t34 t35 t36 t37:Value} {mb:Option Nat} {k:Int} {er:Int} {c:Nat} {d:Nat} {W:World} (h:DbsI w1 u P true true true false true true true false false false t10 t11 t12 t27 t33 t34 t35 t36 t37 mb k er c d W):dbsJ w1 u P Fz 4 #[true,true,true,true,true,true,true,true,false,true,true,true,false,false,false] (Fz t10 t11 t12 t27 t33 t34 t35 t36 t37) W
 | s22 {t10 t11 t12 t27 t33 t34 t35 t36 t37:Value} {mb:Option Nat} {k:Int} {er:Int} {c:Nat} {d:Nat} {W:World} (h:DbsI w1 u P true true true true true true true false false false t10 t11 t12 t27 t33 t34 t35 t36 t37 mb k er c d W):dbsJ w1 u P Fz 3 #[true,true,true,true,true,true,true,true,true,true,true,true,false,false,false] (Fz t10 t11 t12 t27 t33 t34 t35 t36 t37) W
 | s23 {t10 t11 t12 t27 t33 t34 t35 t36 t37:Value} {mb:Option Nat} {k:Int} {er:Int} {c:Nat} {d:Nat} {W:World} (h:DbsI w1 u P true true true true true false true true false false t10 t11 t12 t27 t33 t34 t35 t36 t37 mb k er c d W):dbsJ w1 u P Fz 3 #[true,true,true,true,true,true,true,true,true,true,false,true,true,false,false] (Fz t10 t11 t12 t27 t33 t34 t35 t36 t37) W
 | s24 {t10 t11 t12 t27 t33 t34 t35 t36 t37:Value} {mb:Option Nat} {k:Int} {er:Int} {c:Nat} {d:Nat} {W:World} (h:DbsI w1 u P true true true true false true true true false false t10 t11 t12 t27 t33 t34 t35 t36 t37 mb k er c d W):dbsJ w1 u P Fz 3 #[true,true,true,true,true,true,true,true,true,false,true,true,true,false,false] (Fz t10 t11 t12 t27 t33 t34 t35 t36 t37) W
 | s25 {t10 t11 t12 t27 t33 t34 t35 t36 t37:Value} {mb:Option Nat} {k:Int} {er:Int} {c:Nat} {d:Nat} {W:World} (h:DbsI w1 u P true true true true true true true true false false t10 t11 t12 t27 t33 t34 t35 t36 t37 mb k er c d W):dbsJ w1 u P Fz 2 #[true,true,true,true,true,true,true,true,true,true,true,true,true,false,false] (Fz t10 t11 t12 t27 t33 t34 t35 t36 t37) W
 | s26 {t10 t11 t12 t27 t33 t34 t35 t36 t37:Value} {mb:Option Nat} {k:Int} {er:Int} {c:Nat} {d:Nat} {W:World} (h:DbsI w1 u P true true true true true false true true true false t10 t11 t12 t27 t33 t34 t35 t36 t37 mb k er c d W):dbsJ w1 u P Fz 2 #[true,true,true,true,true,true,true,true,true,true,false,true,true,true,false] (Fz t10 t11 t12 t27 t33 t34 t35 t36 t37) W
 | s27 {t10 t11 t12 t27 t33 t34 t35 t36 t37:Value} {mb:Option Nat} {k:Int} {er:Int} {c:Nat} {d:Nat} {W:World} (h:DbsI w1 u P true true true true true true true true true false t10 t11 t12 t27 t33 t34 t35 t36 t37 mb k er c d W):dbsJ w1 u P Fz 1 #[true,true,true,true,true,true,true,true,true,true,true,true,true,true,false] (Fz t10 t11 t12 t27 t33 t34 t35 t36 t37) W
 | s28 {t10 t11 t12 t27 t33 t34 t35 t36 t37:Value} {mb:Option Nat} {k:Int} {er:Int} {c:Nat} {d:Nat} {W:World} (h:DbsI w1 u P true true true true true true true true true true t10 t11 t12 t27 t33 t34 t35 t36 t37 mb k er c d W):dbsJ w1 u P Fz 0 #[true,true,true,true,true,true,true,true,true,true,true,true,true,true,true] (Fz t10 t11 t12 t27 t33 t34 t35 t36 t37) W
set_option maxRecDepth 20000 in
set_option maxHeartbeats 3200000 in
theorem dbs_reg{K:Act→World→Prop}{Q:Exit→Act→World→Prop}{w1:World}{u:Up}{P:Nat→Nat→Option Nat→Int→World→Prop}{g0 i nu cu b d0:Nat}{ad:Addr}{B:Option Addr}{G0:Nat→Prop}{u0 u2 u3 u4 u5 u6 u8 u13 u14 u15 u16 u17 u18 u19 u20 u21 u22 u23 u24 u25 u26 u38 u39 u40 u41 u42 u43 x10 x11 x12 x27 x33 x34 x35 x36 x37 z28 z29 z30 z31 z32:Value}(b0:w1.cell? ⟨g0,0,none⟩=some (.map (some b)))(i1:(0:Int)≤(i:Int))(i2:(i:Int)<(nu:Int))(c0:w1.cell? (ad.add (i*3))=some (.bool u.del))(c1:w1.cell? ⟨(ad.add (i*3)).block,(ad.add (i*3)).off+1,none⟩=some (.string u.rel))(c2:w1.cell? ⟨(ad.add (i*3)).block,(ad.add (i*3)).off+2,none⟩=some (.slice B u.row.length d0))(hrow:Sl rdVl G0 w1 (.slice B u.row.length d0) u.row)(hP:PSt w1 P)(HAP:Hid (∀V S G,Ext w1 V→Sl rdUp G V (.slice (some S) 1 1) [u]→Calls Tryz.prog 33 #[.agg #[.map (some b)],.slice (some S) 1 1] V (fun e W=>Ext V W∧∃mb k er,e=.returned (.tuple #[.agg #[.map mb],.int .i64 k,.int .i64 er])∧P V.heap.size W.heap.size mb er W)))(hK:∀g t27 t33 t34 t35 t36 t37 mb k er c d W,Ext w1 W→P c d mb er W→w1.heap.size≤g→w1.heap.size≤c→d≤W.heap.size→Bk W g 33 [.map mb]→K ⟨#[u0,.slice (some ad) nu cu,u2,u3,u4,u5,u6,.pointer (some ⟨g0,0,none⟩),u8,.int .i64 (i:Int),.pointer (some ⟨g,0,none⟩),.int .i64 k,.int .i64 er,u13,u14,u15,u16,u17,u18,u19,u20,u21,u22,u23,u24,u25,u26,t27,.agg #[.map (some b)],.slice (some ad) nu cu,.int .i64 (i:Int),.pointer (some (ad.add (i*3))),.agg #[.bool u.del,.string u.rel,.slice B u.row.length d0],t33,t34,t35,t36,t37,u38,u39,u40,u41,u42,u43],[]⟩ W) :
  Code.wp Tryz.prog dbsRg (Exit.then K Q) ⟨#[u0,.slice (some ad) nu cu,u2,u3,u4,u5,u6,.pointer (some ⟨g0,0,none⟩),u8,.int .i64 (i:Int),x10,x11,x12,u13,u14,u15,u16,u17,u18,u19,u20,u21,u22,u23,u24,u25,u26,x27,z28,z29,z30,z31,z32,x33,x34,x35,x36,x37,u38,u39,u40,u41,u42,u43],[]⟩ w1:=by
 have HK:=zO hK
 clear hK
 conv=>arg 2;whnf
 refine wp_only ?_
 refine wp_region_held_drew (S:=fun V=>Ext w1 V) (by kernel_rfl) (Ext.refl w1).drew (fun hHeld=>?_)
 refine wpAnyH_take (i:=0) (oi:=?ox0) (v:=.agg #[.map (some b)]) ?hx0 (by kernel_rfl) (by kernel_rfl) (by kernel_rfl) (fun _ _ _ h=>h) (Or.inl ⟨?wx0,?yx0⟩) hHeld ?rx0
 case hx0=>simp only[jd,jb,jc];rfl
 case wx0=>rfl
 case yx0 =>
  intro V hSw
  have q0:=Ext.cell hSw b0
  simp[go_sem,q0] <;> with_reducible rfl
 (try simp only[Act.put,jf,jh,ji])
 refine wpAnyH_take (i:=1) (oi:=?ox1) (v:=.slice (some ad) nu cu) ?hx1 (by kernel_rfl) (by kernel_rfl) (by kernel_rfl) (fun _ _ _ h=>h) (Or.inl ⟨?wx1,?yx1⟩) hHeld ?rx1
 case hx1=>simp only[jd,jb,jc];rfl
 case wx1=>rfl
 case yx1 =>
  intro V hSw

  simp[go_sem] <;> with_reducible rfl
 (try simp only[Act.put,jf,jh,ji])
 refine wpAnyH_take (i:=2) (oi:=?ox2) (v:=.int .i64 (i:Int)) ?hx2 (by kernel_rfl) (by kernel_rfl) (by kernel_rfl) (fun _ _ _ h=>h) (Or.inl ⟨?wx2,?yx2⟩) hHeld ?rx2
 case hx2=>simp only[jd,jb,jc];rfl
 case wx2=>rfl
 case yx2 =>
  intro V hSw

  simp[go_sem] <;> with_reducible rfl
 (try simp only[Act.put,jf,jh,ji])
 refine wpAnyH_take (i:=3) (oi:=?ox3) (v:=.pointer (some (ad.add (i*3)))) ?hx3 (by kernel_rfl) (by kernel_rfl) (by kernel_rfl) (fun _ _ _ h=>h) (Or.inl ⟨?wx3,?yx3⟩) hHeld ?rx3
 case hx3=>simp only[jd,jb,jc];rfl
 case wx3=>rfl
 case yx3 =>
  intro V hSw

  simp[go_sem,i1,i2] <;> with_reducible rfl
 (try simp only[Act.put,jf,jh,ji])
 refine wpAnyH_take (i:=4) (oi:=?ox4) (v:=.agg #[.bool u.del,.string u.rel,.slice B u.row.length d0]) ?hx4 (by kernel_rfl) (by kernel_rfl) (by kernel_rfl) (fun _ _ _ h=>h) (Or.inl ⟨?wx4,?yx4⟩) hHeld ?rx4
 case hx4=>simp only[jd,jb,jc];rfl
 case wx4=>rfl
 case yx4 =>
  intro V hSw
  have q0:=Ext.cell hSw c0
  have q1:=Ext.cell hSw c1
  have q2:=Ext.cell hSw c2
  simp[go_sem,q0,q1,q2] <;> with_reducible rfl
 (try simp only[Act.put,jf,jh,ji])
 clear b0 c0 c1 c2
 refine inv_any (I:=dbsJ w1 u P (fun t10 t11 t12 t27 t33 t34 t35 t36 t37=>⟨#[u0,.slice (some ad) nu cu,u2,u3,u4,u5,u6,.pointer (some ⟨g0,0,none⟩),u8,.int .i64 (i:Int),t10,t11,t12,u13,u14,u15,u16,u17,u18,u19,u20,u21,u22,u23,u24,u25,u26,t27,.agg #[.map (some b)],.slice (some ad) nu cu,.int .i64 (i:Int),.pointer (some (ad.add (i*3))),.agg #[.bool u.del,.string u.rel,.slice B u.row.length d0],t33,t34,t35,t36,t37,u38,u39,u40,u41,u42,u43],[]⟩)) ?hS ?h0 ?h1 _ _ _ _ ?st
 case hS =>
  intro n l act W hI
  cases hI with
  | s0 h=>exact h.ext
  | s1 h=>exact h.ext
  | s2 h=>exact h.ext
  | s3 h=>exact h.ext
  | s4 h=>exact h.ext
  | s5 h=>exact h.ext
  | s6 h=>exact h.ext
  | s7 h=>exact h.ext
  | s8 h=>exact h.ext
  | s9 h=>exact h.ext
  | s10 h=>exact h.ext
  | s11 h=>exact h.ext
  | s12 h=>exact h.ext
  | s13 h=>exact h.ext
  | s14 h=>exact h.ext
  | s15 h=>exact h.ext
  | s16 h=>exact h.ext
  | s17 h=>exact h.ext
  | s18 h=>exact h.ext
  | s19 h=>exact h.ext
  | s20 h=>exact h.ext
  | s21 h=>exact h.ext
  | s22 h=>exact h.ext
  | s23 h=>exact h.ext
  | s24 h=>exact h.ext
  | s25 h=>exact h.ext
  | s26 h=>exact h.ext
  | s27 h=>exact h.ext
  | s28 h=>exact h.ext
 case st=>exact dbsJ.s0 DbsI.start
 case h0 =>
  intro l act W hI
  cases hI with
  | s28 h =>
   refine⟨by kernel_rfl,?_⟩
   obtain⟨g,rfl,hg,-,-,x,hb,hx⟩:=h.h11 rfl
   obtain rfl:=hx rfl
   obtain rfl:=h.h13 rfl
   obtain rfl:=h.h14 rfl
   exact HK.out _ _ _ _ _ _ _ _ _ _ _ _ _ h.ext (h.h6 rfl).2 hg (h.hc rfl).1 (h.hc rfl).2 hb
 case h1 =>
  intro m l act W hI
  cases hI with
  | s0 h =>
   refine inv_ready (rs:=[5,11]) (by kernel_rfl) (by simp) ?_
   refine inv_cons (o:=?ow0_5) ?ho0_5 (fun K hK=>?hst0_5) ?hmore0_5
   case ho0_5=>simp only[jd,jb,jc];rfl
   case hst0_5 =>
    go_simp
    exact hK.out _ _ (dbsJ.s1 (h.bld hP ((Ext.refl W).alloc _) (one_up W (hrow.ext h.ext))))
   refine inv_cons (o:=?ow0_11) ?ho0_11 (fun K hK=>?hst0_11) ?hmore0_11
   case ho0_11=>simp only[jd,jb,jc];rfl
   case hst0_11 =>
    go_simp
    exact hK.out _ _ (dbsJ.s2 (h.box hP))
   exact inv_nil
  | s1 h =>
   refine inv_ready (rs:=[6,11]) (by kernel_rfl) (by simp) ?_
   refine inv_cons (o:=?ow1_6) ?ho1_6 (fun K hK=>?hst1_6) ?hmore1_6
   case ho1_6=>simp only[jd,jb,jc];rfl
   case hst1_6 =>
    obtain⟨S,G,rfl,hs⟩:=h.h5 rfl rfl
    have hx:=h.ext
    go_simp
    go_at_call 33
    (with_reducible refine(HAP.out _ _ _ hx hs).mono ?_)
    rintro e W2 ⟨he,mb2,k2,er2,rfl,hp⟩
    (try simp only[Act.put,jf,jh,ji])
    exact hK.out _ _ (dbsJ.s3 (h.call he hp))
   refine inv_cons (o:=?ow1_11) ?ho1_11 (fun K hK=>?hst1_11) ?hmore1_11
   case ho1_11=>simp only[jd,jb,jc];rfl
   case hst1_11 =>
    go_simp
    exact hK.out _ _ (dbsJ.s4 (h.box hP))
   exact inv_nil
  | s2 h =>
   refine inv_ready (rs:=[5]) (by kernel_rfl) (by simp) ?_
   refine inv_cons (o:=?ow2_5) ?ho2_5 (fun K hK=>?hst2_5) ?hmore2_5
   case ho2_5=>simp only[jd,jb,jc];rfl
   case hst2_5 =>
    go_simp
    exact hK.out _ _ (dbsJ.s4 (h.bld hP ((Ext.refl W).alloc _) (one_up W (hrow.ext h.ext))))
   exact inv_nil
  | s3 h =>
   refine inv_ready (rs:=[7,11]) (by kernel_rfl) (by simp) ?_
   refine inv_cons (o:=?ow3_7) ?ho3_7 (fun K hK=>?hst3_7) ?hmore3_7
   case ho3_7=>simp only[jd,jb,jc];rfl
   case hst3_7 =>
    obtain rfl:=(h.h6 rfl).1
    go_simp
    exact hK.out _ _ (dbsJ.s5 (h.mv))
   refine inv_cons (o:=?ow3_11) ?ho3_11 (fun K hK=>?hst3_11) ?hmore3_11
   case ho3_11=>simp only[jd,jb,jc];rfl
   case hst3_11 =>
    go_simp
    exact hK.out _ _ (dbsJ.s6 (h.box hP))
   exact inv_nil
  | s4 h =>
   refine inv_ready (rs:=[6]) (by kernel_rfl) (by simp) ?_
   refine inv_cons (o:=?ow4_6) ?ho4_6 (fun K hK=>?hst4_6) ?hmore4_6
   case ho4_6=>simp only[jd,jb,jc];rfl
   case hst4_6 =>
    obtain⟨S,G,rfl,hs⟩:=h.h5 rfl rfl
    have hx:=h.ext
    go_simp
    go_at_call 33
    (with_reducible refine(HAP.out _ _ _ hx hs).mono ?_)
    rintro e W2 ⟨he,mb2,k2,er2,rfl,hp⟩
    (try simp only[Act.put,jf,jh,ji])
    exact hK.out _ _ (dbsJ.s6 (h.call he hp))
   exact inv_nil
  | s5 h =>
   refine inv_ready (rs:=[8,9,10,11]) (by kernel_rfl) (by simp) ?_
   refine inv_cons (o:=?ow5_8) ?ho5_8 (fun K hK=>?hst5_8) ?hmore5_8
   case ho5_8=>simp only[jd,jb,jc];rfl
   case hst5_8 =>
    obtain rfl:=h.h7 rfl
    go_simp
    exact hK.out _ _ (dbsJ.s7 (h.e0))
   refine inv_cons (o:=?ow5_9) ?ho5_9 (fun K hK=>?hst5_9) ?hmore5_9
   case ho5_9=>simp only[jd,jb,jc];rfl
   case hst5_9 =>
    obtain rfl:=h.h7 rfl
    go_simp
    exact hK.out _ _ (dbsJ.s8 (h.e1))
   refine inv_cons (o:=?ow5_10) ?ho5_10 (fun K hK=>?hst5_10) ?hmore5_10
   case ho5_10=>simp only[jd,jb,jc];rfl
   case hst5_10 =>
    obtain rfl:=h.h7 rfl
    go_simp
    exact hK.out _ _ (dbsJ.s9 (h.e2))
   refine inv_cons (o:=?ow5_11) ?ho5_11 (fun K hK=>?hst5_11) ?hmore5_11
   case ho5_11=>simp only[jd,jb,jc];rfl
   case hst5_11 =>
    go_simp
    exact hK.out _ _ (dbsJ.s10 (h.box hP))
   exact inv_nil
  | s6 h =>
   refine inv_ready (rs:=[7]) (by kernel_rfl) (by simp) ?_
   refine inv_cons (o:=?ow6_7) ?ho6_7 (fun K hK=>?hst6_7) ?hmore6_7
   case ho6_7=>simp only[jd,jb,jc];rfl
   case hst6_7 =>
    obtain rfl:=(h.h6 rfl).1
    go_simp
    exact hK.out _ _ (dbsJ.s10 (h.mv))
   exact inv_nil
  | s7 h =>
   refine inv_ready (rs:=[9,10,11]) (by kernel_rfl) (by simp) ?_
   refine inv_cons (o:=?ow7_9) ?ho7_9 (fun K hK=>?hst7_9) ?hmore7_9
   case ho7_9=>simp only[jd,jb,jc];rfl
   case hst7_9 =>
    obtain rfl:=h.h7 rfl
    go_simp
    exact hK.out _ _ (dbsJ.s11 (h.e1))
   refine inv_cons (o:=?ow7_10) ?ho7_10 (fun K hK=>?hst7_10) ?hmore7_10
   case ho7_10=>simp only[jd,jb,jc];rfl
   case hst7_10 =>
    obtain rfl:=h.h7 rfl
    go_simp
    exact hK.out _ _ (dbsJ.s12 (h.e2))
   refine inv_cons (o:=?ow7_11) ?ho7_11 (fun K hK=>?hst7_11) ?hmore7_11
   case ho7_11=>simp only[jd,jb,jc];rfl
   case hst7_11 =>
    go_simp
    exact hK.out _ _ (dbsJ.s13 (h.box hP))
   exact inv_nil
  | s8 h =>
   refine inv_ready (rs:=[8,10,11]) (by kernel_rfl) (by simp) ?_
   refine inv_cons (o:=?ow8_8) ?ho8_8 (fun K hK=>?hst8_8) ?hmore8_8
   case ho8_8=>simp only[jd,jb,jc];rfl
   case hst8_8 =>
    obtain rfl:=h.h7 rfl
    go_simp
    exact hK.out _ _ (dbsJ.s11 (h.e0))
   refine inv_cons (o:=?ow8_10) ?ho8_10 (fun K hK=>?hst8_10) ?hmore8_10
   case ho8_10=>simp only[jd,jb,jc];rfl
   case hst8_10 =>
    obtain rfl:=h.h7 rfl
    go_simp
    exact hK.out _ _ (dbsJ.s14 (h.e2))
   refine inv_cons (o:=?ow8_11) ?ho8_11 (fun K hK=>?hst8_11) ?hmore8_11
   case ho8_11=>simp only[jd,jb,jc];rfl
   case hst8_11 =>
    go_simp
    exact hK.out _ _ (dbsJ.s15 (h.box hP))
   exact inv_nil
  | s9 h =>
   refine inv_ready (rs:=[8,9,11]) (by kernel_rfl) (by simp) ?_
   refine inv_cons (o:=?ow9_8) ?ho9_8 (fun K hK=>?hst9_8) ?hmore9_8
   case ho9_8=>simp only[jd,jb,jc];rfl
   case hst9_8 =>
    obtain rfl:=h.h7 rfl
    go_simp
    exact hK.out _ _ (dbsJ.s12 (h.e0))
   refine inv_cons (o:=?ow9_9) ?ho9_9 (fun K hK=>?hst9_9) ?hmore9_9
   case ho9_9=>simp only[jd,jb,jc];rfl
   case hst9_9 =>
    obtain rfl:=h.h7 rfl
    go_simp
    exact hK.out _ _ (dbsJ.s14 (h.e1))
   refine inv_cons (o:=?ow9_11) ?ho9_11 (fun K hK=>?hst9_11) ?hmore9_11
   case ho9_11=>simp only[jd,jb,jc];rfl
   case hst9_11 =>
    go_simp
    exact hK.out _ _ (dbsJ.s16 (h.box hP))
   exact inv_nil
  | s10 h =>
   refine inv_ready (rs:=[8,9,10]) (by kernel_rfl) (by simp) ?_
   refine inv_cons (o:=?ow10_8) ?ho10_8 (fun K hK=>?hst10_8) ?hmore10_8
   case ho10_8=>simp only[jd,jb,jc];rfl
   case hst10_8 =>
    obtain rfl:=h.h7 rfl
    go_simp
    exact hK.out _ _ (dbsJ.s13 (h.e0))
   refine inv_cons (o:=?ow10_9) ?ho10_9 (fun K hK=>?hst10_9) ?hmore10_9
   case ho10_9=>simp only[jd,jb,jc];rfl
   case hst10_9 =>
    obtain rfl:=h.h7 rfl
    go_simp
    exact hK.out _ _ (dbsJ.s15 (h.e1))
   refine inv_cons (o:=?ow10_10) ?ho10_10 (fun K hK=>?hst10_10) ?hmore10_10
   case ho10_10=>simp only[jd,jb,jc];rfl
   case hst10_10 =>
    obtain rfl:=h.h7 rfl
    go_simp
    exact hK.out _ _ (dbsJ.s16 (h.e2))
   exact inv_nil
  | s11 h =>
   refine inv_ready (rs:=[10,11]) (by kernel_rfl) (by simp) ?_
   refine inv_cons (o:=?ow11_10) ?ho11_10 (fun K hK=>?hst11_10) ?hmore11_10
   case ho11_10=>simp only[jd,jb,jc];rfl
   case hst11_10 =>
    obtain rfl:=h.h7 rfl
    go_simp
    exact hK.out _ _ (dbsJ.s17 (h.e2))
   refine inv_cons (o:=?ow11_11) ?ho11_11 (fun K hK=>?hst11_11) ?hmore11_11
   case ho11_11=>simp only[jd,jb,jc];rfl
   case hst11_11 =>
    go_simp
    exact hK.out _ _ (dbsJ.s18 (h.box hP))
   exact inv_nil
  | s12 h =>
   refine inv_ready (rs:=[9,11]) (by kernel_rfl) (by simp) ?_
   refine inv_cons (o:=?ow12_9) ?ho12_9 (fun K hK=>?hst12_9) ?hmore12_9
   case ho12_9=>simp only[jd,jb,jc];rfl
   case hst12_9 =>
    obtain rfl:=h.h7 rfl
    go_simp
    exact hK.out _ _ (dbsJ.s17 (h.e1))
   refine inv_cons (o:=?ow12_11) ?ho12_11 (fun K hK=>?hst12_11) ?hmore12_11
   case ho12_11=>simp only[jd,jb,jc];rfl
   case hst12_11 =>
    go_simp
    exact hK.out _ _ (dbsJ.s19 (h.box hP))
   exact inv_nil
  | s13 h =>
   refine inv_ready (rs:=[9,10,12]) (by kernel_rfl) (by simp) ?_
   refine inv_cons (o:=?ow13_9) ?ho13_9 (fun K hK=>?hst13_9) ?hmore13_9
   case ho13_9=>simp only[jd,jb,jc];rfl
   case hst13_9 =>
    obtain rfl:=h.h7 rfl
    go_simp
    exact hK.out _ _ (dbsJ.s18 (h.e1))
   refine inv_cons (o:=?ow13_10) ?ho13_10 (fun K hK=>?hst13_10) ?hmore13_10
   case ho13_10=>simp only[jd,jb,jc];rfl
   case hst13_10 =>
    obtain rfl:=h.h7 rfl
    go_simp
    exact hK.out _ _ (dbsJ.s19 (h.e2))
   refine inv_cons (o:=?ow13_12) ?ho13_12 (fun K hK=>?hst13_12) ?hmore13_12
   case ho13_12=>simp only[jd,jb,jc];rfl
   case hst13_12 =>
    obtain rfl:=h.h8 rfl
    obtain⟨g,rfl,hg,hg2,hs,x,hb,-⟩:=h.h11 rfl
    have k0:=hb.cell (i:=0) (by simp);have k1:=hb.free 0
    simp only[ja]at k0
    have h9:=h.store hP
    clear hb h
    go_simp
    exact hK.out _ _ (dbsJ.s20 (h9))
   exact inv_nil
  | s14 h =>
   refine inv_ready (rs:=[8,11]) (by kernel_rfl) (by simp) ?_
   refine inv_cons (o:=?ow14_8) ?ho14_8 (fun K hK=>?hst14_8) ?hmore14_8
   case ho14_8=>simp only[jd,jb,jc];rfl
   case hst14_8 =>
    obtain rfl:=h.h7 rfl
    go_simp
    exact hK.out _ _ (dbsJ.s17 (h.e0))
   refine inv_cons (o:=?ow14_11) ?ho14_11 (fun K hK=>?hst14_11) ?hmore14_11
   case ho14_11=>simp only[jd,jb,jc];rfl
   case hst14_11 =>
    go_simp
    exact hK.out _ _ (dbsJ.s21 (h.box hP))
   exact inv_nil
  | s15 h =>
   refine inv_ready (rs:=[8,10]) (by kernel_rfl) (by simp) ?_
   refine inv_cons (o:=?ow15_8) ?ho15_8 (fun K hK=>?hst15_8) ?hmore15_8
   case ho15_8=>simp only[jd,jb,jc];rfl
   case hst15_8 =>
    obtain rfl:=h.h7 rfl
    go_simp
    exact hK.out _ _ (dbsJ.s18 (h.e0))
   refine inv_cons (o:=?ow15_10) ?ho15_10 (fun K hK=>?hst15_10) ?hmore15_10
   case ho15_10=>simp only[jd,jb,jc];rfl
   case hst15_10 =>
    obtain rfl:=h.h7 rfl
    go_simp
    exact hK.out _ _ (dbsJ.s21 (h.e2))
   exact inv_nil
  | s16 h =>
   refine inv_ready (rs:=[8,9]) (by kernel_rfl) (by simp) ?_
   refine inv_cons (o:=?ow16_8) ?ho16_8 (fun K hK=>?hst16_8) ?hmore16_8
   case ho16_8=>simp only[jd,jb,jc];rfl
   case hst16_8 =>
    obtain rfl:=h.h7 rfl
    go_simp
    exact hK.out _ _ (dbsJ.s19 (h.e0))
   refine inv_cons (o:=?ow16_9) ?ho16_9 (fun K hK=>?hst16_9) ?hmore16_9
   case ho16_9=>simp only[jd,jb,jc];rfl
   case hst16_9 =>
    obtain rfl:=h.h7 rfl
    go_simp
    exact hK.out _ _ (dbsJ.s21 (h.e1))
   exact inv_nil
  | s17 h =>
   refine inv_ready (rs:=[11]) (by kernel_rfl) (by simp) ?_
   refine inv_cons (o:=?ow17_11) ?ho17_11 (fun K hK=>?hst17_11) ?hmore17_11
   case ho17_11=>simp only[jd,jb,jc];rfl
   case hst17_11 =>
    go_simp
    exact hK.out _ _ (dbsJ.s22 (h.box hP))
   exact inv_nil
  | s18 h =>
   refine inv_ready (rs:=[10,12]) (by kernel_rfl) (by simp) ?_
   refine inv_cons (o:=?ow18_10) ?ho18_10 (fun K hK=>?hst18_10) ?hmore18_10
   case ho18_10=>simp only[jd,jb,jc];rfl
   case hst18_10 =>
    obtain rfl:=h.h7 rfl
    go_simp
    exact hK.out _ _ (dbsJ.s22 (h.e2))
   refine inv_cons (o:=?ow18_12) ?ho18_12 (fun K hK=>?hst18_12) ?hmore18_12
   case ho18_12=>simp only[jd,jb,jc];rfl
   case hst18_12 =>
    obtain rfl:=h.h8 rfl
    obtain⟨g,rfl,hg,hg2,hs,x,hb,-⟩:=h.h11 rfl
    have k0:=hb.cell (i:=0) (by simp);have k1:=hb.free 0
    simp only[ja]at k0
    have h9:=h.store hP
    clear hb h
    go_simp
    exact hK.out _ _ (dbsJ.s23 (h9))
   exact inv_nil
  | s19 h =>
   refine inv_ready (rs:=[9,12]) (by kernel_rfl) (by simp) ?_
   refine inv_cons (o:=?ow19_9) ?ho19_9 (fun K hK=>?hst19_9) ?hmore19_9
   case ho19_9=>simp only[jd,jb,jc];rfl
   case hst19_9 =>
    obtain rfl:=h.h7 rfl
    go_simp
    exact hK.out _ _ (dbsJ.s22 (h.e1))
   refine inv_cons (o:=?ow19_12) ?ho19_12 (fun K hK=>?hst19_12) ?hmore19_12
   case ho19_12=>simp only[jd,jb,jc];rfl
   case hst19_12 =>
    obtain rfl:=h.h8 rfl
    obtain⟨g,rfl,hg,hg2,hs,x,hb,-⟩:=h.h11 rfl
    have k0:=hb.cell (i:=0) (by simp);have k1:=hb.free 0
    simp only[ja]at k0
    have h9:=h.store hP
    clear hb h
    go_simp
    exact hK.out _ _ (dbsJ.s24 (h9))
   exact inv_nil
  | s20 h =>
   refine inv_ready (rs:=[9,10]) (by kernel_rfl) (by simp) ?_
   refine inv_cons (o:=?ow20_9) ?ho20_9 (fun K hK=>?hst20_9) ?hmore20_9
   case ho20_9=>simp only[jd,jb,jc];rfl
   case hst20_9 =>
    obtain rfl:=h.h7 rfl
    go_simp
    exact hK.out _ _ (dbsJ.s23 (h.e1))
   refine inv_cons (o:=?ow20_10) ?ho20_10 (fun K hK=>?hst20_10) ?hmore20_10
   case ho20_10=>simp only[jd,jb,jc];rfl
   case hst20_10 =>
    obtain rfl:=h.h7 rfl
    go_simp
    exact hK.out _ _ (dbsJ.s24 (h.e2))
   exact inv_nil
  | s21 h =>
   refine inv_ready (rs:=[8]) (by kernel_rfl) (by simp) ?_
   refine inv_cons (o:=?ow21_8) ?ho21_8 (fun K hK=>?hst21_8) ?hmore21_8
   case ho21_8=>simp only[jd,jb,jc];rfl
   case hst21_8 =>
    obtain rfl:=h.h7 rfl
    go_simp
    exact hK.out _ _ (dbsJ.s22 (h.e0))
   exact inv_nil
  | s22 h =>
   refine inv_ready (rs:=[12]) (by kernel_rfl) (by simp) ?_
   refine inv_cons (o:=?ow22_12) ?ho22_12 (fun K hK=>?hst22_12) ?hmore22_12
   case ho22_12=>simp only[jd,jb,jc];rfl
   case hst22_12 =>
    obtain rfl:=h.h8 rfl
    obtain⟨g,rfl,hg,hg2,hs,x,hb,-⟩:=h.h11 rfl
    have k0:=hb.cell (i:=0) (by simp);have k1:=hb.free 0
    simp only[ja]at k0
    have h9:=h.store hP
    clear hb h
    go_simp
    exact hK.out _ _ (dbsJ.s25 (h9))
   exact inv_nil
  | s23 h =>
   refine inv_ready (rs:=[10,13]) (by kernel_rfl) (by simp) ?_
   refine inv_cons (o:=?ow23_10) ?ho23_10 (fun K hK=>?hst23_10) ?hmore23_10
   case ho23_10=>simp only[jd,jb,jc];rfl
   case hst23_10 =>
    obtain rfl:=h.h7 rfl
    go_simp
    exact hK.out _ _ (dbsJ.s25 (h.e2))
   refine inv_cons (o:=?ow23_13) ?ho23_13 (fun K hK=>?hst23_13) ?hmore23_13
   case ho23_13=>simp only[jd,jb,jc];rfl
   case hst23_13 =>
    obtain rfl:=h.h9 rfl
    go_simp
    exact hK.out _ _ (dbsJ.s26 (h.a1))
   exact inv_nil
  | s24 h =>
   refine inv_ready (rs:=[9]) (by kernel_rfl) (by simp) ?_
   refine inv_cons (o:=?ow24_9) ?ho24_9 (fun K hK=>?hst24_9) ?hmore24_9
   case ho24_9=>simp only[jd,jb,jc];rfl
   case hst24_9 =>
    obtain rfl:=h.h7 rfl
    go_simp
    exact hK.out _ _ (dbsJ.s25 (h.e1))
   exact inv_nil
  | s25 h =>
   refine inv_ready (rs:=[13]) (by kernel_rfl) (by simp) ?_
   refine inv_cons (o:=?ow25_13) ?ho25_13 (fun K hK=>?hst25_13) ?hmore25_13
   case ho25_13=>simp only[jd,jb,jc];rfl
   case hst25_13 =>
    obtain rfl:=h.h9 rfl
    go_simp
    exact hK.out _ _ (dbsJ.s27 (h.a1))
   exact inv_nil
  | s26 h =>
   refine inv_ready (rs:=[10]) (by kernel_rfl) (by simp) ?_
   refine inv_cons (o:=?ow26_10) ?ho26_10 (fun K hK=>?hst26_10) ?hmore26_10
   case ho26_10=>simp only[jd,jb,jc];rfl
   case hst26_10 =>
    obtain rfl:=h.h7 rfl
    go_simp
    exact hK.out _ _ (dbsJ.s27 (h.e2))
   exact inv_nil
  | s27 h =>
   refine inv_ready (rs:=[14]) (by kernel_rfl) (by simp) ?_
   refine inv_cons (o:=?ow27_14) ?ho27_14 (fun K hK=>?hst27_14) ?hmore27_14
   case ho27_14=>simp only[jd,jb,jc];rfl
   case hst27_14 =>
    obtain rfl:=h.h10 rfl
    go_simp
    exact hK.out _ _ (dbsJ.s28 (h.a2))
   exact inv_nil
noncomputable def tbsRg:Code:=((Tryz.f45.body.bind (findRegion 6)).getD .skip)
inductive tbsJ(w1:World)(ar:Int)(nr:Nat)(rows:List (List Vl))(F:Nat→Prop)(Fz:Value→Value→Value→Value→Value→Value→ Act):Nat→Array Bool→Act→World→Prop
 | s0 {t6 t7 t16 t23 t24 t25:Value} {A:Option Addr} {c:Nat} {W:World} (h:TbsI w1 ar nr rows F false false false false false false false t6 t7 t16 t23 t24 t25 A c W):tbsJ w1 ar nr rows F Fz 7 #[true,true,true,true,true,true,false,false,false,false,false,false,false] (Fz t6 t7 t16 t23 t24 t25) W
 | s1 {t6 t7 t16 t23 t24 t25:Value} {A:Option Addr} {c:Nat} {W:World} (h:TbsI w1 ar nr rows F true false false false false false false t6 t7 t16 t23 t24 t25 A c W):tbsJ w1 ar nr rows F Fz 6 #[true,true,true,true,true,true,true,false,false,false,false,false,false] (Fz t6 t7 t16 t23 t24 t25) W
 | s2 {t6 t7 t16 t23 t24 t25:Value} {A:Option Addr} {c:Nat} {W:World} (h:TbsI w1 ar nr rows F false false false false true false false t6 t7 t16 t23 t24 t25 A c W):tbsJ w1 ar nr rows F Fz 6 #[true,true,true,true,true,true,false,false,false,false,true,false,false] (Fz t6 t7 t16 t23 t24 t25) W
 | s3 {t6 t7 t16 t23 t24 t25:Value} {A:Option Addr} {c:Nat} {W:World} (h:TbsI w1 ar nr rows F true true false false false false false t6 t7 t16 t23 t24 t25 A c W):tbsJ w1 ar nr rows F Fz 5 #[true,true,true,true,true,true,true,true,false,false,false,false,false] (Fz t6 t7 t16 t23 t24 t25) W
 | s4 {t6 t7 t16 t23 t24 t25:Value} {A:Option Addr} {c:Nat} {W:World} (h:TbsI w1 ar nr rows F true false false false true false false t6 t7 t16 t23 t24 t25 A c W):tbsJ w1 ar nr rows F Fz 5 #[true,true,true,true,true,true,true,false,false,false,true,false,false] (Fz t6 t7 t16 t23 t24 t25) W
 | s5 {t6 t7 t16 t23 t24 t25:Value} {A:Option Addr} {c:Nat} {W:World} (h:TbsI w1 ar nr rows F true true true false false false false t6 t7 t16 t23 t24 t25 A c W):tbsJ w1 ar nr rows F Fz 4 #[true,true,true,true,true,true,true,true,true,false,false,false,false] (Fz t6 t7 t16 t23 t24 t25) W
 | s6 {t6 t7 t16 t23 t24 t25:Value} {A:Option Addr} {c:Nat} {W:World} (h:TbsI w1 ar nr rows F true true false true false false false t6 t7 t16 t23 t24 t25 A c W):tbsJ w1 ar nr rows F Fz 4 #[true,true,true,true,true,true,true,true,false,true,false,false,false] (Fz t6 t7 t16 t23 t24 t25) W
 | s7 {t6 t7 t16 t23 t24 t25:Value} {A:Option Addr} {c:Nat} {W:World} (h:TbsI w1 ar nr rows F true true false false true false false t6 t7 t16 t23 t24 t25 A c W):tbsJ w1 ar nr rows F Fz 4 #[true,true,true,true,true,true,true,true,false,false,true,false,false] (Fz t6 t7 t16 t23 t24 t25) W
 | s8 {t6 t7 t16 t23 t24 t25:Value} {A:Option Addr} {c:Nat} {W:World} (h:TbsI w1 ar nr rows F true true true true false false false t6 t7 t16 t23 t24 t25 A c W):tbsJ w1 ar nr rows F Fz 3 #[true,true,true,true,true,true,true,true,true,true,false,false,false] (Fz t6 t7 t16 t23 t24 t25) W
 | s9 {t6 t7 t16 t23 t24 t25:Value} {A:Option Addr} {c:Nat} {W:World} (h:TbsI w1 ar nr rows F true true true false true false false t6 t7 t16 t23 t24 t25 A c W):tbsJ w1 ar nr rows F Fz 3 #[true,true,true,true,true,true,true,true,true,false,true,false,false] (Fz t6 t7 t16 t23 t24 t25) W
 | s10 {t6 t7 t16 t23 t24 t25:Value} {A:Option Addr} {c:Nat} {W:World} (h:TbsI w1 ar nr rows F true true false true true false false t6 t7 t16 t23 t24 t25 A c W):tbsJ w1 ar nr rows F Fz 3 #[true,true,true,true,true,true,true,true,false,true,true,false,false] (Fz t6 t7 t16 t23 t24 t25) W
 | s11 {t6 t7 t16 t23 t24 t25:Value} {A:Option Addr} {c:Nat} {W:World} (h:TbsI w1 ar nr rows F true true true true true false false t6 t7 t16 t23 t24 t25 A c W):tbsJ w1 ar nr rows F Fz 2 #[true,true,true,true,true,true,true,true,true,true,true,false,false] (Fz t6 t7 t16 t23 t24 t25) W
 | s12 {t6 t7 t16 t23 t24 t25:Value} {A:Option Addr} {c:Nat} {W:World} (h:TbsI w1 ar nr rows F true true true false true true false t6 t7 t16 t23 t24 t25 A c W):tbsJ w1 ar nr rows F Fz 2 #[true,true,true,true,true,true,true,true,true,false,true,true,false] (Fz t6 t7 t16 t23 t24 t25) W
 | s13 {t6 t7 t16 t23 t24 t25:Value} {A:Option Addr} {c:Nat} {W:World} (h:TbsI w1 ar nr rows F true true true true true true false t6 t7 t16 t23 t24 t25 A c W):tbsJ w1 ar nr rows F Fz 1 #[true,true,true,true,true,true,true,true,true,true,true,true,false] (Fz t6 t7 t16 t23 t24 t25) W
 | s14 {t6 t7 t16 t23 t24 t25:Value} {A:Option Addr} {c:Nat} {W:World} (h:TbsI w1 ar nr rows F true true true true true true true t6 t7 t16 t23 t24 t25 A c W):tbsJ w1 ar nr rows F Fz 0 #[true,true,true,true,true,true,true,true,true,true,true,true,true] (Fz t6 t7 t16 t23 t24 t25) W
set_option maxRecDepth 20000 in
set_option maxHeartbeats 3200000 in
theorem tbs_reg{K:Act→World→Prop}{Q:Exit→Act→World→Prop}{w1:World}{ar:Int}{nr:Nat}{rows:List (List Vl)}{F:Nat→Prop}{g0 i nu cu b:Nat}{ad:Addr}{s:ByteArray}{u0 u2 u3 u8 u9 u10 u11 u12 u13 u14 u15 u26 u27 u28 u29 u30 u31 u32 u33 u34 u35 u36 u37 u38 u39 u40 u41 u42 u43 x6 x7 x16 x23 x24 x25 z17 z18 z19 z20 z21 z22:Value}(b0:w1.cell? ⟨g0,0,none⟩=some (.map (some b)))(i1:(0:Int)≤(i:Int))(i2:(i:Int)<(nu:Int))(c0:w1.cell? (ad.add (i*2))=some (.string s))(hF:∀k,F k→k<w1.heap.size)(HRL:Hid (∀V,Ext w1 V→Calls Tryz.prog 110 #[.agg #[.map (some b)],.string s] V (fun e W=>Ext V W∧∃A c,e=.returned (.tuple #[.agg #[.int .i64 ar,.slice A nr c],.bool true])∧Sl rdRow F W (.slice A nr c) rows)))(hK:∀g t7 t16 t23 t24 t25 A c W,Ext w1 W→w1.heap.size≤g→Bk W g 179 [.int .i64 ar,.slice A nr c]→Sl rdRow F W (.slice A nr c) rows→K ⟨#[u0,.pointer (some ⟨g0,0,none⟩),u2,u3,.slice (some ad) nu cu,.int .i64 (i:Int),.pointer (some ⟨g,0,none⟩),t7,u8,u9,u10,u11,u12,u13,u14,u15,t16,.agg #[.map (some b)],.slice (some ad) nu cu,.int .i64 (i:Int),.pointer (some (ad.add (i*2))),.pointer (some (ad.add (i*2))),.string s,t23,t24,t25,u26,u27,u28,u29,u30,u31,u32,u33,u34,u35,u36,u37,u38,u39,u40,u41,u42,u43],[]⟩ W) :
  Code.wp Tryz.prog tbsRg (Exit.then K Q) ⟨#[u0,.pointer (some ⟨g0,0,none⟩),u2,u3,.slice (some ad) nu cu,.int .i64 (i:Int),x6,x7,u8,u9,u10,u11,u12,u13,u14,u15,x16,z17,z18,z19,z20,z21,z22,x23,x24,x25,u26,u27,u28,u29,u30,u31,u32,u33,u34,u35,u36,u37,u38,u39,u40,u41,u42,u43],[]⟩ w1:=by
 have HK:=zO hK
 clear hK
 conv=>arg 2;whnf
 refine wp_only ?_
 refine wp_region_held_drew (S:=fun V=>Ext w1 V) (by kernel_rfl) (Ext.refl w1).drew (fun hHeld=>?_)
 refine wpAnyH_take (i:=0) (oi:=?ox0) (v:=.agg #[.map (some b)]) ?hx0 (by kernel_rfl) (by kernel_rfl) (by kernel_rfl) (fun _ _ _ h=>h) (Or.inl ⟨?wx0,?yx0⟩) hHeld ?rx0
 case hx0=>simp only[jd,jb,jc];rfl
 case wx0=>rfl
 case yx0 =>
  intro V hSw
  have q0:=Ext.cell hSw b0
  simp[go_sem,q0] <;> with_reducible rfl
 (try simp only[Act.put,jf,jh,ji])
 refine wpAnyH_take (i:=1) (oi:=?ox1) (v:=.slice (some ad) nu cu) ?hx1 (by kernel_rfl) (by kernel_rfl) (by kernel_rfl) (fun _ _ _ h=>h) (Or.inl ⟨?wx1,?yx1⟩) hHeld ?rx1
 case hx1=>simp only[jd,jb,jc];rfl
 case wx1=>rfl
 case yx1 =>
  intro V hSw

  simp[go_sem] <;> with_reducible rfl
 (try simp only[Act.put,jf,jh,ji])
 refine wpAnyH_take (i:=2) (oi:=?ox2) (v:=.int .i64 (i:Int)) ?hx2 (by kernel_rfl) (by kernel_rfl) (by kernel_rfl) (fun _ _ _ h=>h) (Or.inl ⟨?wx2,?yx2⟩) hHeld ?rx2
 case hx2=>simp only[jd,jb,jc];rfl
 case wx2=>rfl
 case yx2 =>
  intro V hSw

  simp[go_sem] <;> with_reducible rfl
 (try simp only[Act.put,jf,jh,ji])
 refine wpAnyH_take (i:=3) (oi:=?ox3) (v:=.pointer (some (ad.add (i*2)))) ?hx3 (by kernel_rfl) (by kernel_rfl) (by kernel_rfl) (fun _ _ _ h=>h) (Or.inl ⟨?wx3,?yx3⟩) hHeld ?rx3
 case hx3=>simp only[jd,jb,jc];rfl
 case wx3=>rfl
 case yx3 =>
  intro V hSw

  simp[go_sem,i1,i2] <;> with_reducible rfl
 (try simp only[Act.put,jf,jh,ji])
 refine wpAnyH_take (i:=4) (oi:=?ox4) (v:=.pointer (some (ad.add (i*2)))) ?hx4 (by kernel_rfl) (by kernel_rfl) (by kernel_rfl) (fun _ _ _ h=>h) (Or.inl ⟨?wx4,?yx4⟩) hHeld ?rx4
 case hx4=>simp only[jd,jb,jc];rfl
 case wx4=>rfl
 case yx4 =>
  intro V hSw

  simp[go_sem] <;> with_reducible rfl
 (try simp only[Act.put,jf,jh,ji])
 refine wpAnyH_take (i:=5) (oi:=?ox5) (v:=.string s) ?hx5 (by kernel_rfl) (by kernel_rfl) (by kernel_rfl) (fun _ _ _ h=>h) (Or.inl ⟨?wx5,?yx5⟩) hHeld ?rx5
 case hx5=>simp only[jd,jb,jc];rfl
 case wx5=>rfl
 case yx5 =>
  intro V hSw
  have q0:=Ext.cell hSw c0
  simp[go_sem,q0] <;> with_reducible rfl
 (try simp only[Act.put,jf,jh,ji])
 clear b0 c0
 refine inv_any (I:=tbsJ w1 ar nr rows F (fun t6 t7 t16 t23 t24 t25=>⟨#[u0,.pointer (some ⟨g0,0,none⟩),u2,u3,.slice (some ad) nu cu,.int .i64 (i:Int),t6,t7,u8,u9,u10,u11,u12,u13,u14,u15,t16,.agg #[.map (some b)],.slice (some ad) nu cu,.int .i64 (i:Int),.pointer (some (ad.add (i*2))),.pointer (some (ad.add (i*2))),.string s,t23,t24,t25,u26,u27,u28,u29,u30,u31,u32,u33,u34,u35,u36,u37,u38,u39,u40,u41,u42,u43],[]⟩)) ?hS ?h0 ?h1 _ _ _ _ ?st
 case hS =>
  intro n l act W hI
  cases hI with
  | s0 h=>exact h.ext
  | s1 h=>exact h.ext
  | s2 h=>exact h.ext
  | s3 h=>exact h.ext
  | s4 h=>exact h.ext
  | s5 h=>exact h.ext
  | s6 h=>exact h.ext
  | s7 h=>exact h.ext
  | s8 h=>exact h.ext
  | s9 h=>exact h.ext
  | s10 h=>exact h.ext
  | s11 h=>exact h.ext
  | s12 h=>exact h.ext
  | s13 h=>exact h.ext
  | s14 h=>exact h.ext
 case st=>exact tbsJ.s0 TbsI.start
 case h0 =>
  intro l act W hI
  cases hI with
  | s14 h =>
   refine⟨by kernel_rfl,?_⟩
   obtain⟨g,x,y,rfl,hg,hb,hxy⟩:=h.h10 rfl
   obtain⟨rfl,rfl⟩:=hxy rfl
   exact HK.out _ _ _ _ _ _ _ _ _ h.ext hg hb (h.h6 rfl).2
 case h1 =>
  intro m l act W hI
  cases hI with
  | s0 h =>
   refine inv_ready (rs:=[6,10]) (by kernel_rfl) (by simp) ?_
   refine inv_cons (o:=?ow0_6) ?ho0_6 (fun K hK=>?hst0_6) ?hmore0_6
   case ho0_6=>simp only[jd,jb,jc];rfl
   case hst0_6 =>
    have hx:=h.ext
    go_simp
    go_at_call 110
    (with_reducible refine(HRL.out _ hx).mono ?_)
    rintro e W2 ⟨he,A2,c2,rfl,hs⟩
    (try simp only[Act.put,jf,jh,ji])
    exact hK.out _ _ (tbsJ.s1 (h.call he hs))
   refine inv_cons (o:=?ow0_10) ?ho0_10 (fun K hK=>?hst0_10) ?hmore0_10
   case ho0_10=>simp only[jd,jb,jc];rfl
   case hst0_10 =>
    go_simp
    exact hK.out _ _ (tbsJ.s2 (h.box))
   exact inv_nil
  | s1 h =>
   refine inv_ready (rs:=[7,10]) (by kernel_rfl) (by simp) ?_
   refine inv_cons (o:=?ow1_7) ?ho1_7 (fun K hK=>?hst1_7) ?hmore1_7
   case ho1_7=>simp only[jd,jb,jc];rfl
   case hst1_7 =>
    obtain rfl:=(h.h6 rfl).1
    go_simp
    exact hK.out _ _ (tbsJ.s3 (h.mv))
   refine inv_cons (o:=?ow1_10) ?ho1_10 (fun K hK=>?hst1_10) ?hmore1_10
   case ho1_10=>simp only[jd,jb,jc];rfl
   case hst1_10 =>
    go_simp
    exact hK.out _ _ (tbsJ.s4 (h.box))
   exact inv_nil
  | s2 h =>
   refine inv_ready (rs:=[6]) (by kernel_rfl) (by simp) ?_
   refine inv_cons (o:=?ow2_6) ?ho2_6 (fun K hK=>?hst2_6) ?hmore2_6
   case ho2_6=>simp only[jd,jb,jc];rfl
   case hst2_6 =>
    have hx:=h.ext
    go_simp
    go_at_call 110
    (with_reducible refine(HRL.out _ hx).mono ?_)
    rintro e W2 ⟨he,A2,c2,rfl,hs⟩
    (try simp only[Act.put,jf,jh,ji])
    exact hK.out _ _ (tbsJ.s4 (h.call he hs))
   exact inv_nil
  | s3 h =>
   refine inv_ready (rs:=[8,9,10]) (by kernel_rfl) (by simp) ?_
   refine inv_cons (o:=?ow3_8) ?ho3_8 (fun K hK=>?hst3_8) ?hmore3_8
   case ho3_8=>simp only[jd,jb,jc];rfl
   case hst3_8 =>
    obtain rfl:=h.h7 rfl
    go_simp
    exact hK.out _ _ (tbsJ.s5 (h.e0))
   refine inv_cons (o:=?ow3_9) ?ho3_9 (fun K hK=>?hst3_9) ?hmore3_9
   case ho3_9=>simp only[jd,jb,jc];rfl
   case hst3_9 =>
    obtain rfl:=h.h7 rfl
    go_simp
    exact hK.out _ _ (tbsJ.s6 (h.e1))
   refine inv_cons (o:=?ow3_10) ?ho3_10 (fun K hK=>?hst3_10) ?hmore3_10
   case ho3_10=>simp only[jd,jb,jc];rfl
   case hst3_10 =>
    go_simp
    exact hK.out _ _ (tbsJ.s7 (h.box))
   exact inv_nil
  | s4 h =>
   refine inv_ready (rs:=[7]) (by kernel_rfl) (by simp) ?_
   refine inv_cons (o:=?ow4_7) ?ho4_7 (fun K hK=>?hst4_7) ?hmore4_7
   case ho4_7=>simp only[jd,jb,jc];rfl
   case hst4_7 =>
    obtain rfl:=(h.h6 rfl).1
    go_simp
    exact hK.out _ _ (tbsJ.s7 (h.mv))
   exact inv_nil
  | s5 h =>
   refine inv_ready (rs:=[9,10]) (by kernel_rfl) (by simp) ?_
   refine inv_cons (o:=?ow5_9) ?ho5_9 (fun K hK=>?hst5_9) ?hmore5_9
   case ho5_9=>simp only[jd,jb,jc];rfl
   case hst5_9 =>
    obtain rfl:=h.h7 rfl
    go_simp
    exact hK.out _ _ (tbsJ.s8 (h.e1))
   refine inv_cons (o:=?ow5_10) ?ho5_10 (fun K hK=>?hst5_10) ?hmore5_10
   case ho5_10=>simp only[jd,jb,jc];rfl
   case hst5_10 =>
    go_simp
    exact hK.out _ _ (tbsJ.s9 (h.box))
   exact inv_nil
  | s6 h =>
   refine inv_ready (rs:=[8,10]) (by kernel_rfl) (by simp) ?_
   refine inv_cons (o:=?ow6_8) ?ho6_8 (fun K hK=>?hst6_8) ?hmore6_8
   case ho6_8=>simp only[jd,jb,jc];rfl
   case hst6_8 =>
    obtain rfl:=h.h7 rfl
    go_simp
    exact hK.out _ _ (tbsJ.s8 (h.e0))
   refine inv_cons (o:=?ow6_10) ?ho6_10 (fun K hK=>?hst6_10) ?hmore6_10
   case ho6_10=>simp only[jd,jb,jc];rfl
   case hst6_10 =>
    go_simp
    exact hK.out _ _ (tbsJ.s10 (h.box))
   exact inv_nil
  | s7 h =>
   refine inv_ready (rs:=[8,9]) (by kernel_rfl) (by simp) ?_
   refine inv_cons (o:=?ow7_8) ?ho7_8 (fun K hK=>?hst7_8) ?hmore7_8
   case ho7_8=>simp only[jd,jb,jc];rfl
   case hst7_8 =>
    obtain rfl:=h.h7 rfl
    go_simp
    exact hK.out _ _ (tbsJ.s9 (h.e0))
   refine inv_cons (o:=?ow7_9) ?ho7_9 (fun K hK=>?hst7_9) ?hmore7_9
   case ho7_9=>simp only[jd,jb,jc];rfl
   case hst7_9 =>
    obtain rfl:=h.h7 rfl
    go_simp
    exact hK.out _ _ (tbsJ.s10 (h.e1))
   exact inv_nil
  | s8 h =>
   refine inv_ready (rs:=[10]) (by kernel_rfl) (by simp) ?_
   refine inv_cons (o:=?ow8_10) ?ho8_10 (fun K hK=>?hst8_10) ?hmore8_10
   case ho8_10=>simp only[jd,jb,jc];rfl
   case hst8_10 =>
    go_simp
    exact hK.out _ _ (tbsJ.s11 (h.box))
   exact inv_nil
  | s9 h =>
   refine inv_ready (rs:=[9,11]) (by kernel_rfl) (by simp) ?_
   refine inv_cons (o:=?ow9_9) ?ho9_9 (fun K hK=>?hst9_9) ?hmore9_9
   case ho9_9=>simp only[jd,jb,jc];rfl
   case hst9_9 =>
    obtain rfl:=h.h7 rfl
    go_simp
    exact hK.out _ _ (tbsJ.s11 (h.e1))
   refine inv_cons (o:=?ow9_11) ?ho9_11 (fun K hK=>?hst9_11) ?hmore9_11
   case ho9_11=>simp only[jd,jb,jc];rfl
   case hst9_11 =>
    obtain rfl:=h.h8 rfl
    obtain⟨g,x,y,rfl,hg,hb,-⟩:=h.h10 rfl
    have k0:=hb.cell (i:=0) (by simp);have k1:=hb.cell (i:=1) (by simp);have k2:=hb.free 0;have k3:=hb.free 1
    simp only[ja,je]at k0 k1
    have h9:=h.store hF
    clear hb h
    go_simp
    exact hK.out _ _ (tbsJ.s12 (h9))
   exact inv_nil
  | s10 h =>
   refine inv_ready (rs:=[8]) (by kernel_rfl) (by simp) ?_
   refine inv_cons (o:=?ow10_8) ?ho10_8 (fun K hK=>?hst10_8) ?hmore10_8
   case ho10_8=>simp only[jd,jb,jc];rfl
   case hst10_8 =>
    obtain rfl:=h.h7 rfl
    go_simp
    exact hK.out _ _ (tbsJ.s11 (h.e0))
   exact inv_nil
  | s11 h =>
   refine inv_ready (rs:=[11]) (by kernel_rfl) (by simp) ?_
   refine inv_cons (o:=?ow11_11) ?ho11_11 (fun K hK=>?hst11_11) ?hmore11_11
   case ho11_11=>simp only[jd,jb,jc];rfl
   case hst11_11 =>
    obtain rfl:=h.h8 rfl
    obtain⟨g,x,y,rfl,hg,hb,-⟩:=h.h10 rfl
    have k0:=hb.cell (i:=0) (by simp);have k1:=hb.cell (i:=1) (by simp);have k2:=hb.free 0;have k3:=hb.free 1
    simp only[ja,je]at k0 k1
    have h9:=h.store hF
    clear hb h
    go_simp
    exact hK.out _ _ (tbsJ.s13 (h9))
   exact inv_nil
  | s12 h =>
   refine inv_ready (rs:=[9]) (by kernel_rfl) (by simp) ?_
   refine inv_cons (o:=?ow12_9) ?ho12_9 (fun K hK=>?hst12_9) ?hmore12_9
   case ho12_9=>simp only[jd,jb,jc];rfl
   case hst12_9 =>
    obtain rfl:=h.h7 rfl
    go_simp
    exact hK.out _ _ (tbsJ.s13 (h.e1))
   exact inv_nil
  | s13 h =>
   refine inv_ready (rs:=[12]) (by kernel_rfl) (by simp) ?_
   refine inv_cons (o:=?ow13_12) ?ho13_12 (fun K hK=>?hst13_12) ?hmore13_12
   case ho13_12=>simp only[jd,jb,jc];rfl
   case hst13_12 =>
    obtain rfl:=h.h9 rfl
    go_simp
    exact hK.out _ _ (tbsJ.s14 (h.asg))
   exact inv_nil
noncomputable def tbaRg:Code:=((Tryz.f45.body.bind (findRegion 7)).getD .skip)
inductive tbaJ(w1:World)(base n c0:Nat)(A0:Option Addr)(xs:List Tb)(css:List (List Value))(x:Tb)(Fz:Value→Value→Value→Value→Value→ Act):Nat→Array Bool→Act→World→Prop
 | s0 {t3 t39 t40 t41 t42:Value} {W:World} (h:TbaI w1 base n c0 A0 xs css x false false false false false t3 t39 t40 t41 t42 W):tbaJ w1 base n c0 A0 xs css x Fz 5 #[true,true,true,true,true,true,true,true,true,true,true,true,true,false,false,false,false,false] (Fz t3 t39 t40 t41 t42) W
 | s1 {t3 t39 t40 t41 t42:Value} {W:World} (h:TbaI w1 base n c0 A0 xs css x true false false false false t3 t39 t40 t41 t42 W):tbaJ w1 base n c0 A0 xs css x Fz 4 #[true,true,true,true,true,true,true,true,true,true,true,true,true,true,false,false,false,false] (Fz t3 t39 t40 t41 t42) W
 | s2 {t3 t39 t40 t41 t42:Value} {W:World} (h:TbaI w1 base n c0 A0 xs css x true true false false false t3 t39 t40 t41 t42 W):tbaJ w1 base n c0 A0 xs css x Fz 3 #[true,true,true,true,true,true,true,true,true,true,true,true,true,true,true,false,false,false] (Fz t3 t39 t40 t41 t42) W
 | s3 {t3 t39 t40 t41 t42:Value} {W:World} (h:TbaI w1 base n c0 A0 xs css x true true true false false t3 t39 t40 t41 t42 W):tbaJ w1 base n c0 A0 xs css x Fz 2 #[true,true,true,true,true,true,true,true,true,true,true,true,true,true,true,true,false,false] (Fz t3 t39 t40 t41 t42) W
 | s4 {t3 t39 t40 t41 t42:Value} {W:World} (h:TbaI w1 base n c0 A0 xs css x true true true true false t3 t39 t40 t41 t42 W):tbaJ w1 base n c0 A0 xs css x Fz 1 #[true,true,true,true,true,true,true,true,true,true,true,true,true,true,true,true,true,false] (Fz t3 t39 t40 t41 t42) W
 | s5 {t3 t39 t40 t41 t42:Value} {W:World} (h:TbaI w1 base n c0 A0 xs css x true true true true true t3 t39 t40 t41 t42 W):tbaJ w1 base n c0 A0 xs css x Fz 0 #[true,true,true,true,true,true,true,true,true,true,true,true,true,true,true,true,true,true] (Fz t3 t39 t40 t41 t42) W
set_option maxRecDepth 20000 in
set_option maxHeartbeats 3200000 in
theorem tba_reg{K:Act→World→Prop}{Q:Exit→Act→World→Prop}{w1:World}{base n c0:Nat}{A0:Option Addr}{xs:List Tb}{css:List (List Value)}{x:Tb}{g0 g6 i nu cu nk d c1:Nat}{ad:Addr}{B A1:Option Addr}{ar:Int}{u0 u2 u7 u8 u9 u10 u11 u12 u13 u14 u15 u16 u17 u18 u19 u20 u21 u22 u23 u24 u25 u43 x39 x40 x41 x42 z26 z27 z28 z29 z30 z31 z32 z33 z34 z35 z36 z37 z38:Value}(i1:(0:Int)≤(i:Int))(i2:(i:Int)<(nu:Int))(c0':w1.cell? (ad.add (i*2))=some (.string x.name))(c1':w1.cell? ⟨(ad.add (i*2)).block,(ad.add (i*2)).off+1,none⟩=some (.slice B nk d))(d0:w1.cell? ⟨g6,0,none⟩=some (.int .i64 ar))(d1:w1.cell? ⟨g6,1,none⟩=some (.slice A1 x.rows.length c1))(hnk:x.ar=(nk:Int))(n1:¬(Value.slice A0 n c0).ownBlock=some ad.block)(n2:¬(Value.slice A0 n c0).ownBlock=some g6)(hO:Rw rdTb w1 base 120 (.slice A0 n c0) n xs css)(hbase:base≤w1.heap.size)(hn:n≤1000000)(HRO:Hid (∀V,Ext w1 V→Calls Tryz.prog 111 #[.agg #[.int .i64 ar,.slice A1 x.rows.length c1]] V (fun e W=>Ext V W∧∃A c,e=.returned (.slice A x.rows.length c)∧Sl rdRow (fun k=>w1.heap.size≤k) W (.slice A x.rows.length c) x.rows)))(hK:∀A9 c9 cs t39 t40 t41 t42 W,Fr (fun k=>(Value.slice A0 n c0).ownBlock=some k) w1 W→Rw rdTb W base 120 (.slice A9 (n+1) c9) (n+1) (xs++[x]) (css++[cs])→K ⟨#[u0,.pointer (some ⟨g0,0,none⟩),u2,.slice A9 (n+1) c9,.slice (some ad) nu cu,.int .i64 (i:Int),.pointer (some ⟨g6,0,none⟩),u7,u8,u9,u10,u11,u12,u13,u14,u15,u16,u17,u18,u19,u20,u21,u22,u23,u24,u25,.slice A0 n c0,.slice (some ad) nu cu,.int .i64 (i:Int),.pointer (some (ad.add (i*2))),.pointer (some (ad.add (i*2))),.string x.name,.slice (some ad) nu cu,.int .i64 (i:Int),.pointer (some (ad.add (i*2))),.pointer (some ⟨(ad.add (i*2)).block,(ad.add (i*2)).off+1,none⟩),.slice B nk d,.int .i64 (nk:Int),.agg #[.int .i64 ar,.slice A1 x.rows.length c1],t39,t40,t41,t42,u43],[]⟩ W) :
  Code.wp Tryz.prog tbaRg (Exit.then K Q) ⟨#[u0,.pointer (some ⟨g0,0,none⟩),u2,.slice A0 n c0,.slice (some ad) nu cu,.int .i64 (i:Int),.pointer (some ⟨g6,0,none⟩),u7,u8,u9,u10,u11,u12,u13,u14,u15,u16,u17,u18,u19,u20,u21,u22,u23,u24,u25,z26,z27,z28,z29,z30,z31,z32,z33,z34,z35,z36,z37,z38,x39,x40,x41,x42,u43],[]⟩ w1:=by
 have HK:=zO hK
 have HO:=zO hO
 obtain⟨j0,hj0,hz0,hz1,hz2⟩:=info_parts info_tb
 have HJ0:=zO (And.intro hj0 (And.intro hz0 (And.intro hz1 hz2)))
 have HNK:=zO hnk
 clear hK hO hj0 hz0 hz1 hz2 hnk
 conv=>arg 2;whnf
 refine wp_only ?_
 refine wp_region_held_drew (S:=fun V=>Fr (fun k=>(Value.slice A0 n c0).ownBlock=some k) w1 V) (by kernel_rfl) (Fr.refl _ w1).drew (fun hHeld=>?_)
 refine wpAnyH_take (i:=0) (oi:=?ox0) (v:=.slice A0 n c0) ?hx0 (by kernel_rfl) (by kernel_rfl) (by kernel_rfl) (fun _ _ _ h=>h) (Or.inl ⟨?wx0,?yx0⟩) hHeld ?rx0
 case hx0=>simp only[jd,jb,jc];rfl
 case wx0=>rfl
 case yx0 =>
  intro V hSw

  simp[go_sem] <;> with_reducible rfl
 (try simp only[Act.put,jf,jh,ji])
 refine wpAnyH_take (i:=1) (oi:=?ox1) (v:=.slice (some ad) nu cu) ?hx1 (by kernel_rfl) (by kernel_rfl) (by kernel_rfl) (fun _ _ _ h=>h) (Or.inl ⟨?wx1,?yx1⟩) hHeld ?rx1
 case hx1=>simp only[jd,jb,jc];rfl
 case wx1=>rfl
 case yx1 =>
  intro V hSw

  simp[go_sem] <;> with_reducible rfl
 (try simp only[Act.put,jf,jh,ji])
 refine wpAnyH_take (i:=2) (oi:=?ox2) (v:=.int .i64 (i:Int)) ?hx2 (by kernel_rfl) (by kernel_rfl) (by kernel_rfl) (fun _ _ _ h=>h) (Or.inl ⟨?wx2,?yx2⟩) hHeld ?rx2
 case hx2=>simp only[jd,jb,jc];rfl
 case wx2=>rfl
 case yx2 =>
  intro V hSw

  simp[go_sem] <;> with_reducible rfl
 (try simp only[Act.put,jf,jh,ji])
 refine wpAnyH_take (i:=3) (oi:=?ox3) (v:=.pointer (some (ad.add (i*2)))) ?hx3 (by kernel_rfl) (by kernel_rfl) (by kernel_rfl) (fun _ _ _ h=>h) (Or.inl ⟨?wx3,?yx3⟩) hHeld ?rx3
 case hx3=>simp only[jd,jb,jc];rfl
 case wx3=>rfl
 case yx3 =>
  intro V hSw

  simp[go_sem,i1,i2] <;> with_reducible rfl
 (try simp only[Act.put,jf,jh,ji])
 refine wpAnyH_take (i:=4) (oi:=?ox4) (v:=.pointer (some (ad.add (i*2)))) ?hx4 (by kernel_rfl) (by kernel_rfl) (by kernel_rfl) (fun _ _ _ h=>h) (Or.inl ⟨?wx4,?yx4⟩) hHeld ?rx4
 case hx4=>simp only[jd,jb,jc];rfl
 case wx4=>rfl
 case yx4 =>
  intro V hSw

  simp[go_sem] <;> with_reducible rfl
 (try simp only[Act.put,jf,jh,ji])
 refine wpAnyH_take (i:=5) (oi:=?ox5) (v:=.string x.name) ?hx5 (by kernel_rfl) (by kernel_rfl) (by kernel_rfl) (fun _ _ _ h=>h) (Or.inl ⟨?wx5,?yx5⟩) hHeld ?rx5
 case hx5=>simp only[jd,jb,jc];rfl
 case wx5=>rfl
 case yx5 =>
  intro V hSw
  have q0:=Fr.cell hSw c0' (by rw[block_add];exact n1)
  simp[go_sem,q0] <;> with_reducible rfl
 (try simp only[Act.put,jf,jh,ji])
 refine wpAnyH_take (i:=6) (oi:=?ox6) (v:=.slice (some ad) nu cu) ?hx6 (by kernel_rfl) (by kernel_rfl) (by kernel_rfl) (fun _ _ _ h=>h) (Or.inl ⟨?wx6,?yx6⟩) hHeld ?rx6
 case hx6=>simp only[jd,jb,jc];rfl
 case wx6=>rfl
 case yx6 =>
  intro V hSw

  simp[go_sem] <;> with_reducible rfl
 (try simp only[Act.put,jf,jh,ji])
 refine wpAnyH_take (i:=7) (oi:=?ox7) (v:=.int .i64 (i:Int)) ?hx7 (by kernel_rfl) (by kernel_rfl) (by kernel_rfl) (fun _ _ _ h=>h) (Or.inl ⟨?wx7,?yx7⟩) hHeld ?rx7
 case hx7=>simp only[jd,jb,jc];rfl
 case wx7=>rfl
 case yx7 =>
  intro V hSw

  simp[go_sem] <;> with_reducible rfl
 (try simp only[Act.put,jf,jh,ji])
 refine wpAnyH_take (i:=8) (oi:=?ox8) (v:=.pointer (some (ad.add (i*2)))) ?hx8 (by kernel_rfl) (by kernel_rfl) (by kernel_rfl) (fun _ _ _ h=>h) (Or.inl ⟨?wx8,?yx8⟩) hHeld ?rx8
 case hx8=>simp only[jd,jb,jc];rfl
 case wx8=>rfl
 case yx8 =>
  intro V hSw

  simp[go_sem,i1,i2] <;> with_reducible rfl
 (try simp only[Act.put,jf,jh,ji])
 refine wpAnyH_take (i:=9) (oi:=?ox9) (v:=.pointer (some ⟨(ad.add (i*2)).block,(ad.add (i*2)).off+1,none⟩)) ?hx9 (by kernel_rfl) (by kernel_rfl) (by kernel_rfl) (fun _ _ _ h=>h) (Or.inl ⟨?wx9,?yx9⟩) hHeld ?rx9
 case hx9=>simp only[jd,jb,jc];rfl
 case wx9=>rfl
 case yx9 =>
  intro V hSw

  simp[go_sem] <;> with_reducible rfl
 (try simp only[Act.put,jf,jh,ji])
 refine wpAnyH_take (i:=10) (oi:=?ox10) (v:=.slice B nk d) ?hx10 (by kernel_rfl) (by kernel_rfl) (by kernel_rfl) (fun _ _ _ h=>h) (Or.inl ⟨?wx10,?yx10⟩) hHeld ?rx10
 case hx10=>simp only[jd,jb,jc];rfl
 case wx10=>rfl
 case yx10 =>
  intro V hSw
  have q0:=Fr.cell hSw c1' (by rw[block_add];exact n1)
  simp[go_sem,q0] <;> with_reducible rfl
 (try simp only[Act.put,jf,jh,ji])
 refine wpAnyH_take (i:=11) (oi:=?ox11) (v:=.int .i64 (nk:Int)) ?hx11 (by kernel_rfl) (by kernel_rfl) (by kernel_rfl) (fun _ _ _ h=>h) (Or.inl ⟨?wx11,?yx11⟩) hHeld ?rx11
 case hx11=>simp only[jd,jb,jc];rfl
 case wx11=>rfl
 case yx11 =>
  intro V hSw

  simp[go_sem] <;> with_reducible rfl
 (try simp only[Act.put,jf,jh,ji])
 refine wpAnyH_take (i:=12) (oi:=?ox12) (v:=.agg #[.int .i64 ar,.slice A1 x.rows.length c1]) ?hx12 (by kernel_rfl) (by kernel_rfl) (by kernel_rfl) (fun _ _ _ h=>h) (Or.inl ⟨?wx12,?yx12⟩) hHeld ?rx12
 case hx12=>simp only[jd,jb,jc];rfl
 case wx12=>rfl
 case yx12 =>
  intro V hSw
  have q0:=Fr.cell hSw d0 n2
  have q1:=Fr.cell hSw d1 n2
  simp[go_sem,q0,q1] <;> with_reducible rfl
 (try simp only[Act.put,jf,jh,ji])
 clear c0' c1' d0 d1
 refine inv_any (I:=tbaJ w1 base n c0 A0 xs css x (fun t3 t39 t40 t41 t42=>⟨#[u0,.pointer (some ⟨g0,0,none⟩),u2,t3,.slice (some ad) nu cu,.int .i64 (i:Int),.pointer (some ⟨g6,0,none⟩),u7,u8,u9,u10,u11,u12,u13,u14,u15,u16,u17,u18,u19,u20,u21,u22,u23,u24,u25,.slice A0 n c0,.slice (some ad) nu cu,.int .i64 (i:Int),.pointer (some (ad.add (i*2))),.pointer (some (ad.add (i*2))),.string x.name,.slice (some ad) nu cu,.int .i64 (i:Int),.pointer (some (ad.add (i*2))),.pointer (some ⟨(ad.add (i*2)).block,(ad.add (i*2)).off+1,none⟩),.slice B nk d,.int .i64 (nk:Int),.agg #[.int .i64 ar,.slice A1 x.rows.length c1],t39,t40,t41,t42,u43],[]⟩)) ?hS ?h0 ?h1 _ _ _ _ ?st
 case hS =>
  intro n l act W hI
  cases hI with
  | s0 h=>exact h.fr
  | s1 h=>exact h.fr
  | s2 h=>exact h.fr
  | s3 h=>exact h.fr
  | s4 h=>exact h.fr
  | s5 h=>exact h.fr
 case st=>exact tbaJ.s0 TbaI.start
 case h0 =>
  intro l act W hI
  cases hI with
  | s5 h =>
   refine⟨by kernel_rfl,?_⟩
   obtain⟨A9,c9,cs,rfl,hr⟩:=h.h16 rfl
   obtain rfl:=h.h17 rfl
   exact HK.out _ _ _ _ _ _ _ _ h.fr hr
 case h1 =>
  intro m l act W hI
  cases hI with
  | s0 h =>
   refine inv_ready (rs:=[13]) (by kernel_rfl) (by simp) ?_
   refine inv_cons (o:=?ow0_13) ?ho0_13 (fun K hK=>?hst0_13) ?hmore0_13
   case ho0_13=>simp only[jd,jb,jc];rfl
   case hst0_13 =>
    have hx:=h.ext rfl
    go_simp
    go_at_call 111
    (with_reducible refine(HRO.out _ hx).mono ?_)
    rintro e W2 ⟨he,A2,c2,rfl,hs⟩
    (try simp only[Act.put,jf,jh,ji])
    exact hK.out _ _ (tbaJ.s1 (h.call he hs))
   exact inv_nil
  | s1 h =>
   refine inv_ready (rs:=[14]) (by kernel_rfl) (by simp) ?_
   refine inv_cons (o:=?ow1_14) ?ho1_14 (fun K hK=>?hst1_14) ?hmore1_14
   case ho1_14=>simp only[jd,jb,jc];rfl
   case hst1_14 =>
    obtain⟨A2,c2,rfl,hs⟩:=h.h13 rfl rfl
    have h9:=h.bld
    rw[HNK.out]at h9
    go_simp
    exact hK.out _ _ (tbaJ.s2 (h9))
   exact inv_nil
  | s2 h =>
   refine inv_ready (rs:=[15]) (by kernel_rfl) (by simp) ?_
   refine inv_cons (o:=?ow2_15) ?ho2_15 (fun K hK=>?hst2_15) ?hmore2_15
   case ho2_15=>simp only[jd,jb,jc];rfl
   case hst2_15 =>
    obtain⟨A2,c2,rfl,hs⟩:=h.h13 rfl rfl
    obtain rfl:=h.h14 rfl rfl
    go_simp
    exact hK.out _ _ (tbaJ.s3 (h.bsl hs))
   exact inv_nil
  | s3 h =>
   refine inv_ready (rs:=[16]) (by kernel_rfl) (by simp) ?_
   refine inv_cons (o:=?ow3_16) ?ho3_16 (fun K hK=>?hst3_16) ?hmore3_16
   case ho3_16=>simp only[jd,jb,jc];rfl
   case hst3_16 =>
    obtain⟨V,A2,c2,hx,rfl,rfl,hs⟩:=h.h15 rfl rfl
    clear h
    have hsz:=hx.size
    have how:=own_ext' HO.out.own (hx.alloc (.cells #[.string x.name,.int .i64 x.ar,.slice A2 x.rows.length c2] 120))
    refine step_append_at (by rfl) _ _ _ (by rfl) base 120 j0 (.agg #[.string ⟨#[]⟩,.int .i64 0,.slice none 0 0]) 3 48 Tryz.underlying34 HJ0.out.1 HJ0.out.2.1 HJ0.out.2.2.1 HJ0.out.2.2.2 rfl (by omega) (.slice A0 n c0) n css.flatten (by rfl) how ⟨V.heap.size,0,none⟩ 1 1 [.string x.name,.int .i64 x.ar,.slice A2 x.rows.length c2] (by rfl) (by rfl) (laid_news V _ _) (by simp[Value.oneCell']) (by simp only[maxLen];omega) (by omega) (by simp;omega) ?_
    intro v9 W9 hr9 hg9 hl9
    obtain⟨A9,c9,rfl⟩:=own_slice hr9
    (try simp only[Act.put,jf,jh,ji])
    exact hK.out _ _ (tbaJ.s4 (TbaI.app HO.out hbase hx hs hr9 hg9 hl9))
   exact inv_nil
  | s4 h =>
   refine inv_ready (rs:=[17]) (by kernel_rfl) (by simp) ?_
   refine inv_cons (o:=?ow4_17) ?ho4_17 (fun K hK=>?hst4_17) ?hmore4_17
   case ho4_17=>simp only[jd,jb,jc];rfl
   case hst4_17 =>
    obtain⟨A9,c9,cs,rfl,hr⟩:=h.h16 rfl
    go_simp
    exact hK.out _ _ (tbaJ.s5 (h.asg))
   exact inv_nil
noncomputable def dbrRg:Code:=((Tryz.f12.body.bind (findRegion 10)).getD .skip)
inductive dbrJ(w1:World)(g4 g7 b:Nat)(Q':Value→World→Prop)(Fz:Value→Value→Value→ Act):Nat→Array Bool→Act→World→Prop
 | s0 {t5 t6 t43:Value} {W:World} (h:DbrI w1 g4 g7 b Q' false false false false t5 t6 t43 W):dbrJ w1 g4 g7 b Q' Fz 4 #[true,true,false,false,false,false] (Fz t5 t6 t43) W
 | s1 {t5 t6 t43:Value} {W:World} (h:DbrI w1 g4 g7 b Q' true false false false t5 t6 t43 W):dbrJ w1 g4 g7 b Q' Fz 3 #[true,true,true,false,false,false] (Fz t5 t6 t43) W
 | s2 {t5 t6 t43:Value} {W:World} (h:DbrI w1 g4 g7 b Q' true true false false t5 t6 t43 W):dbrJ w1 g4 g7 b Q' Fz 2 #[true,true,true,true,false,false] (Fz t5 t6 t43) W
 | s3 {t5 t6 t43:Value} {W:World} (h:DbrI w1 g4 g7 b Q' true true true false t5 t6 t43 W):dbrJ w1 g4 g7 b Q' Fz 1 #[true,true,true,true,true,false] (Fz t5 t6 t43) W
 | s4 {t5 t6 t43:Value} {W:World} (h:DbrI w1 g4 g7 b Q' true true true true t5 t6 t43 W):dbrJ w1 g4 g7 b Q' Fz 0 #[true,true,true,true,true,true] (Fz t5 t6 t43) W
set_option maxRecDepth 20000 in
set_option maxHeartbeats 3200000 in
theorem dbr_reg{K:Act→World→Prop}{Q:Exit→Act→World→Prop}{w1:World}{g4 g7 b:Nat}{Q':Value→World→Prop}{x u0 u1 u2 u3 u8 u9 u10 u11 u12 u13 u14 u15 u16 u17 u18 u19 u20 u21 u22 u23 u24 u25 u26 u27 u28 u29 u30 u31 u32 u33 u34 u35 u36 u37 u38 u39 u40 x5 x6 x43 z41 z42:Value}(b7:w1.cell? ⟨g7,0,none⟩=some (.map (some b)))(B1:Bk w1 g4 33 [x])(hne:g4≠g7)(HTB:Hid (∀V,Ext w1 V→Calls Tryz.prog 45 #[.agg #[.map (some b)]] V (fun e W=>Ext V W∧∃v,e=.returned v∧Q' v W)))(hK:∀t43 V,Q' t43 V→Ext w1 V→K ⟨#[u0,u1,u2,u3,.pointer (some ⟨g4,0,none⟩),t43,.bool true,.pointer (some ⟨g7,0,none⟩),u8,u9,u10,u11,u12,u13,u14,u15,u16,u17,u18,u19,u20,u21,u22,u23,u24,u25,u26,u27,u28,u29,u30,u31,u32,u33,u34,u35,u36,u37,u38,u39,u40,.agg #[.map (some b)],.agg #[.map (some b)],t43],[]⟩ (V.setCell ⟨g4,0,none⟩ (.map (some b)))) :
  Code.wp Tryz.prog dbrRg (Exit.then K Q) ⟨#[u0,u1,u2,u3,.pointer (some ⟨g4,0,none⟩),x5,x6,.pointer (some ⟨g7,0,none⟩),u8,u9,u10,u11,u12,u13,u14,u15,u16,u17,u18,u19,u20,u21,u22,u23,u24,u25,u26,u27,u28,u29,u30,u31,u32,u33,u34,u35,u36,u37,u38,u39,u40,z41,z42,x43],[]⟩ w1:=by
 have HK:=zO hK
 have B0:=B1.cell (i:=0) (by simp)
 simp only[ja]at B0
 clear hK
 conv=>arg 2;whnf
 refine wp_only ?_
 refine wp_region_held_drew (S:=fun V=>V.cell? ⟨g7,0,none⟩=some (.map (some b))) (by kernel_rfl) ((Ext.refl w1).drew.cell b7) (fun hHeld=>?_)
 refine wpAnyH_take (i:=0) (oi:=?ox0) (v:=.agg #[.map (some b)]) ?hx0 (by kernel_rfl) (by kernel_rfl) (by kernel_rfl) (fun _ _ _ h=>h) (Or.inl ⟨?wx0,?yx0⟩) hHeld ?rx0
 case hx0=>simp only[jd,jb,jc];rfl
 case wx0=>rfl
 case yx0 =>
  intro V hSw
  have q0:=hSw
  simp[go_sem,q0] <;> with_reducible rfl
 (try simp only[Act.put,jf,jh,ji])
 refine wpAnyH_take (i:=1) (oi:=?ox1) (v:=.agg #[.map (some b)]) ?hx1 (by kernel_rfl) (by kernel_rfl) (by kernel_rfl) (fun _ _ _ h=>h) (Or.inl ⟨?wx1,?yx1⟩) hHeld ?rx1
 case hx1=>simp only[jd,jb,jc];rfl
 case wx1=>rfl
 case yx1 =>
  intro V hSw
  have q0:=hSw
  simp[go_sem,q0] <;> with_reducible rfl
 (try simp only[Act.put,jf,jh,ji])
 refine inv_any (I:=dbrJ w1 g4 g7 b Q' (fun t5 t6 t43=>⟨#[u0,u1,u2,u3,.pointer (some ⟨g4,0,none⟩),t5,t6,.pointer (some ⟨g7,0,none⟩),u8,u9,u10,u11,u12,u13,u14,u15,u16,u17,u18,u19,u20,u21,u22,u23,u24,u25,u26,u27,u28,u29,u30,u31,u32,u33,u34,u35,u36,u37,u38,u39,u40,.agg #[.map (some b)],.agg #[.map (some b)],t43],[]⟩)) ?hS ?h0 ?h1 _ _ _ _ ?st
 case hS =>
  intro n l act W hI
  cases hI with
  | s0 h=>exact h.cell
  | s1 h=>exact h.cell
  | s2 h=>exact h.cell
  | s3 h=>exact h.cell
  | s4 h=>exact h.cell
 case st=>exact dbrJ.s0 (DbrI.start b7)
 case h0 =>
  intro l act W hI
  cases hI with
  | s4 h =>
   refine⟨by kernel_rfl,?_⟩
   obtain⟨V,hq,hx,rfl⟩:=h.h3 rfl
   obtain rfl:=h.h4 rfl
   obtain rfl:=h.h5 rfl
   exact HK.out _ _ hq hx
 case h1 =>
  intro m l act W hI
  cases hI with
  | s0 h =>
   refine inv_ready (rs:=[2]) (by kernel_rfl) (by simp) ?_
   refine inv_cons (o:=?ow0_2) ?ho0_2 (fun K hK=>?hst0_2) ?hmore0_2
   case ho0_2=>simp only[jd,jb,jc];rfl
   case hst0_2 =>
    have hx:=h.ext rfl
    go_simp
    go_at_call 45
    (with_reducible refine(HTB.out _ hx).mono ?_)
    rintro e W2 ⟨he,v,rfl,hq⟩
    (try simp only[Act.put,jf,jh,ji])
    exact hK.out _ _ (dbrJ.s1 (h.call he hq))
   exact inv_nil
  | s1 h =>
   refine inv_ready (rs:=[3]) (by kernel_rfl) (by simp) ?_
   refine inv_cons (o:=?ow1_3) ?ho1_3 (fun K hK=>?hst1_3) ?hmore1_3
   case ho1_3=>simp only[jd,jb,jc];rfl
   case hst1_3 =>
    have k0:=(h.ext rfl).cell B0
    have k1:=(B1.ext (h.ext rfl)).free 0
    go_simp
    exact hK.out _ _ (dbrJ.s2 (h.store hne))
   exact inv_nil
  | s2 h =>
   refine inv_ready (rs:=[4]) (by kernel_rfl) (by simp) ?_
   refine inv_cons (o:=?ow2_4) ?ho2_4 (fun K hK=>?hst2_4) ?hmore2_4
   case ho2_4=>simp only[jd,jb,jc];rfl
   case hst2_4 =>
    go_simp
    exact hK.out _ _ (dbrJ.s3 (h.a4))
   exact inv_nil
  | s3 h =>
   refine inv_ready (rs:=[5]) (by kernel_rfl) (by simp) ?_
   refine inv_cons (o:=?ow3_5) ?ho3_5 (fun K hK=>?hst3_5) ?hmore3_5
   case ho3_5=>simp only[jd,jb,jc];rfl
   case hst3_5 =>
    go_simp
    exact hK.out _ _ (dbrJ.s4 (h.a5))
   exact inv_nil
end Go.Proofs.YtplldnnnhgnbjaaGreatDoor
namespace Go.Proofs.YtplldnnnhgnbjaaGreatDoor
open Go.RowKit Go.Maps
def TablesQ(M:Dm)(nb:Nat)(w:World)(v:Value)(w':World):Prop :=
 ∃A c l,v=.slice A (tbsOf M l).length c∧NamesOf M l∧l.length≤nb∧Sl rdTb (fun k=>w.heap.size≤k) w' (.slice A (tbsOf M l).length c) (tbsOf M l)
theorem tbsOf_len(M:Dm)(l:List ByteArray):(tbsOf M l).length=l.length:=jm ..
set_option maxRecDepth 20000 in
set_option maxHeartbeats 6400000 in
theorem tables_any{H:Nat→Prop}{w:World}{b nb:Nat}{M:Dm}(hD:DbB H w b nb M)(hO:DbOk M)(hA:∀s e,M s=some e→e.kinds.length≤6∧e.rel.rows.length≤4096)(hnb:nb≤1000000) :
  Calls Tryz.prog 45 #[.agg #[.map (some b)]] w (fun e w'=>Ext w w'∧∃v,e=.returned v∧TablesQ M nb w v w'):=by
 have kb:=Bk.new w 33 [.map (some b)]
 have hx:=(Ext.refl w).alloc (.cells #[.map (some b)] 33)
 have hD2:=hD.mono (G:=fun k=>H k∧k<w.heap.size) (fun k h1 h2=>⟨h2,h1⟩)
 have HSC:=zO (fun (V:World) (hV:Ext w V)=>schemas_any (hD.ext hV) hnb hO.key)
 have HRL:=zO (fun (V:World) (s:ByteArray) (hV:Ext w V) (hs:s.size≤maxLen)=>relation_any (s:=s) (hD2.ext hV) hs)
 have HRO:=zO (fun (V:World) (F:Nat→Prop) (A:Option Addr) (n c:Nat) (a:Int) (rows:List (List Vl)) (h:Sl rdRow F V (.slice A n c) rows) (h1:∀x∈rows,x.length≤1048576) (h2:n≤1048576)=>rows_any (a:=a) h h1 h2)
 obtain⟨PP,hPP⟩:∃P:Ending→World→Prop,P=(fun e w'=>Ext w w'∧∃v,e=.returned v∧TablesQ M nb w v w'):=⟨_,rfl⟩
 have HPP:=zO hPP
 rw[←hPP]
 have HO:=zO hO;have HA:=zO hA
 clear hD hD2 hO hA hPP
 go_enter Tryz.func45,Tryz.ntmps45
 go_upto_region 1 with fail
 change Bk (w.alloc (.cells #[.map (some b)] 33)) _ _ _ at kb
 generalize (w.alloc (.cells #[.map (some b)] 33))=w1 at *
 have HKB:=zO kb;have HX:=zO hx
 have b0:=kb.cell (i:=0) (by simp)
 simp only[ja]at b0
 obtain⟨gb,hgb⟩:∃g,g=w.heap.size:=⟨_,rfl⟩
 rw[←hgb]at HKB b0 ⊢
 have HGB:Hid (w.heap.size≤gb):=zO (by omega)
 clear kb hx hgb
 go_wp2_with fail
 refine(HSC.out _ HX.out).mono ?_
 rintro e w2 ⟨v,l,rfl,he,hsl,hl1,hl2,hl3⟩
 obtain⟨S,cs,hv⟩:=hsl.sl
 subst hv
 have hsn:(schL M l).length=l.length:=by unfold schL;rw[jm]
 have HSL:=zO hsl;have HNM:Hid (NamesOf M l):=zO ⟨hl1,hl3⟩
 have HX2:=zO (HX.out.trans he);have HKB2:=zO (HKB.out.ext he)
 obtain⟨n,hn⟩:∃n,n=(schL M l).length:=⟨_,rfl⟩
 rw[←hn]at HSL ⊢
 have hnb2:n≤1000000:=by omega
 have HN:Hid (n=l.length):=zO (by omega)
 have HL2:=zO hl2
 clear he hsl hl1 hl2 hl3 hsn b0 hn HSC
 go_wp2_with fail
 go_loopw [3,5] (fun v t wr=>∃(i:Nat) (P:Option Addr) (cp:Nat) (css:List (List Value)),i≤n∧t=.int .i64 (i:Int)∧v=.slice P i cp∧Hid (Rw rdTb wr w2.heap.size 120 (.slice P i cp) i ((tbsOf M l).take i) css)∧Hid (Ext w2 wr)) (fun _ t _=>n-(intOf t).toNat)
 case atStart=>exact⟨0,none,0,[],jn _,rfl,rfl,zO (Rw.empty _ _ _ _),zO (Ext.refl _)⟩
 case round =>
  obtain⟨i,P,cp,css,hi,rfl,rfl,HR,HE⟩:=hrel
  obtain⟨W,rfl⟩:∃W:World,W=wr:=⟨_,rfl⟩
  by_cases hlt:i<n
  ·have i1:(0:Int)≤(i:Int):=by omega
   have i2:(i:Int)<(n:Int):=by omega
   have hil:i<l.length:=by have:=HN.out;omega
   have his:i<(schL M l).length:=by unfold schL;rw[jm];exact hil
   obtain⟨ad,B,d,rfl,hadk,c0,c1,hks⟩:=HSL.out.sc his
   have es:(schL M l)[i]=⟨l[i],kdsOf M l[i]⟩:=jy _
   rw[es]at c0 c1 hks
   have hadl:=World.block_lt_of_cell? _ _ c0
   rw[block_add]at hadl
   replace c0:=HE.out.cell c0;replace c1:=HE.out.cell c1
   have hsome:(M l[i]).isSome=true:=(HNM.out.2 _).1 (jg hil)
   obtain⟨x,hx⟩:=Option.isSome_iff_exists.1 hsome
   have hkl:kdsOf M l[i]=x.kinds:=by unfold kdsOf;rw[hx];rfl
   have hrw:rowsD M l[i]=x.rel.rows:=rowsD_some hx
   have hsz:l[i].size≤maxLen:=by have:=(HO.out.key _ _ hx).1;unfold maxLen;omega
   have htk:(tbsOf M l).take (i+1)=(tbsOf M l).take i++[tbOf M l[i]]:=by
    unfold tbsOf
    rw[jj (by rw[jm];exact hil),jy]
   have htb:tbOf M l[i]=⟨l[i],((x.kinds.length:Nat):Int),x.rel.rows⟩:=by unfold tbOf;rw[hkl,hrw]
   rw[hkl]at c1
   rw[htb]at htk
   have hbd:=HA.out _ _ hx
   have hro:=fun r hr=>(HO.out.row _ _ hx r hr).1
   have HREL:Hid (∀V,Ext W V→Calls Tryz.prog 110 #[.agg #[.map (some b)],.string l[i]] V (fun e Z=>Ext V Z∧∃A c,e=.returned (.tuple #[.agg #[.int .i64 x.rel.ar,.slice A x.rel.rows.length c],.bool true])∧Sl rdRow (fun k=>H k∧k<w.heap.size) Z (.slice A x.rel.rows.length c) x.rel.rows)):=zO (fun V hV=>(HRL.out V l[i] (HX2.out.trans (HE.out.trans hV)) hsz).mono (by
    rintro e Z ⟨he,⟨h0,-⟩|⟨y,A,c,h1,h2,h3⟩⟩
    ·rw[hx]at h0
     cases h0
    ·rw[hx]at h1
     injection h1 with h1
     subst h1
     exact⟨he,A,c,h2,h3⟩))
   obtain⟨s,hs⟩:∃s,s=l[i]:=⟨_,rfl⟩
   rw[←hs]at c0 htk HREL
   obtain⟨nk,hnk⟩:∃k,k=x.kinds.length:=⟨_,rfl⟩
   rw[←hnk]at c1 htk
   obtain⟨rows,hrows⟩:∃r,r=x.rel.rows:=⟨_,rfl⟩
   rw[←hrows]at htk HREL hbd hro
   obtain⟨ar,har⟩:∃r,r=x.rel.ar:=⟨_,rfl⟩
   rw[←har]at HREL
   have hrl:∀r∈rows,r.length≤1048576:=fun r hr=>by rw[hro r hr];omega
   have HTK:=zO htk;have HRLN:=zO hrl
   have hrn:rows.length≤1048576:=by omega
   have b0:=(HKB2.out.ext HE.out).cell (i:=0) (by simp)
   simp only[ja]at b0
   clear hks es hsome hx hkl hrw hsz htk htb hbd hro hs hnk hrows har hrl his hil
   go_upto_region 6 with fail
   refine wp_then ?_
   intro KK hKK
   refine tbs_reg b0 i1 i2 c0 (fun k hk=>by have:=hk.2;have:=HX2.out.size;have:=HE.out.size;omega) HREL ?_
   intro g t7 t16 t23 t24 t25 A1 c1' W2 hx2 hg hb hsl
   have d0:=hb.cell (i:=0) (by simp);have d1:=hb.cell (i:=1) (by simp)
   simp only[ja,je]at d0 d1
   replace c0:=hx2.cell c0;replace c1:=hx2.cell c1
   have hs2:=hx2.size;have hsE:=HE.out.size
   have hrw2:=HR.out.ext hx2
   have hnown:∀k,(k<w2.heap.size∨W.heap.size≤k)→¬(Value.slice P i cp).ownBlock=some k:=fun k hk e=>by
    have h1:=own_ge HR.out.own e
    have h2:=own_lt HR.out.own e
    omega
   have HROW:Hid (∀V,Ext W2 V→Calls Tryz.prog 111 #[.agg #[.int .i64 ar,.slice A1 rows.length c1']] V (fun e Z=>Ext V Z∧∃A c,e=.returned (.slice A rows.length c)∧Sl rdRow (fun k=>W2.heap.size≤k) Z (.slice A rows.length c) rows)):=zO (fun V hV=>(HRO.out V _ A1 _ c1' ar rows (hsl.ext hV) HRLN.out hrn).mono (by
    rintro e Z ⟨he,g9,us,hg9,rfl,how⟩
    have hsV:=hV.size
    exact⟨he,_,_,rfl,how.sl (fun k hk=>by have e2:g9=k:=(by injection hk);have:V.heap.size<g9:=hg9;omega) (fun k hk=>by have h8:g9<k:=hk;have:V.heap.size<g9:=hg9;omega)⟩))
   clear hsl hb
   rw[hKK]
   clear hKK KK
   have hgn:=hnown g (.inr hg)
   have han:=hnown ad.block (.inl hadl)
   have HK6:Hid (w2.heap.size≤g):=zO (by omega)
   have HS2:Hid (w2.heap.size≤W2.heap.size∧Ext w2 W2):=zO ⟨by omega,HE.out.trans hx2⟩
   clear hx2
   go_upto_region 7 with fail
   refine wp_then ?_
   intro KK hKK
   refine tba_reg (x:=⟨s,(nk:Int),rows⟩) i1 i2 c0 c1 d0 d1 rfl han hgn hrw2 HS2.out.1 (by omega) HROW ?_
   intro A9 c9 cs t39 t40 t41 t42 W3 hfr hrw3
   have HRW3:Hid (Rw rdTb W3 w2.heap.size 120 (.slice A9 (i+1) c9) (i+1) ((tbsOf M l).take (i+1)) (css++[cs])):=zO (by rw[HTK.out];exact hrw3)
   have HE3:=zO (hfr.new HS2.out.2 (fun k hk=>own_ge HR.out.own hk))
   clear hfr hrw3 hrw2 c0 c1 d0 d1 b0
   rw[hKK]
   clear hKK KK
   go_wp2_with fail
   go_roundw
   case rel=>exact⟨i+1,A9,c9,_,by omega,by go_num,rfl,HRW3,HE3⟩
   case measure=>simp[intOf];omega
  ·obtain rfl:i=n:=by omega
   have hdi:¬(i:Int)<(i:Int):=by omega
   have HQ:Hid (PP (.returned (.slice P i cp)) W):=zO (by
    rw[HPP.out]
    have h:=HR.out
    have hn2:(tbsOf M l).length=i:=by rw[tbsOf_len];exact HN.out.symm
    rw[jo (by omega)]at h
    have h2:=h.sl (by decide)
    refine⟨HX2.out.trans HE.out,_,rfl,P,cp,l,by rw[hn2],HNM.out,HL2.out,?_⟩
    rw[hn2]
    exact h2.mono (by decide) (fun k _ hk=>by have:=HX2.out.size;omega))
   go_wp2_with fail
   exact HQ.out
end Go.Proofs.YtplldnnnhgnbjaaGreatDoor
