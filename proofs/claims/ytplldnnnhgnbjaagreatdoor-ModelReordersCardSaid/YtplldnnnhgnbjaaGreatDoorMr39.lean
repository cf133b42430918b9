/- packed -/
import Derived.Test.YtplldnnnhgnbjaaGreatDoorMr37
import Derived.Test.YtplldnnnhgnbjaaGreatDoorMr38
namespace Go.Proofs.YtplldnnnhgnbjaaGreatDoor
open Go.RowKit Go.Maps
def SmV (v:Vl):Prop:=-1099511627776≤v.int∧v.int≤1099511627776
structure DbI (l:List ByteArray) (i:Nat) (M:Dm):Prop where
 ok:DmOk M
 nm:NamesOf M l
 sz:∀ s ∈ l,s.size≤16
 ln:∀ s e,M s=some e→e.rel.rows.length≤i
 sm:∀ s e,M s=some e→∀ x ∈ e.rel.rows,∀ v ∈ x,SmV v
theorem updS_grow {rows rows':List (List Vl)} {x:List Vl} {del ch:Bool} (h:SoR rows) (hu:updS rows del x=some (rows',ch)):rows'.length≤rows.length + 1:=by
 unfold updS at hu
 split at hu
 ·split at hu
  ·rename_i hh
   injection hu with hu;injection hu with h1 h2;subst h1
   obtain ⟨hlt,-⟩:=has_at h hh
   have:=delR_len hlt
   omega
  ·injection hu with hu;injection hu with h1 h2;subst h1
   omega
 ·split at hu
  ·injection hu with hu;injection hu with h1 h2;subst h1
   omega
  ·split at hu
   ·cases hu
   ·injection hu with hu;injection hu with h1 h2;subst h1
    rw [insR_len]
    exact Nat.le_refl _
theorem updD_some {M:Dm} {s t:ByteArray} {y:En}:(updD M s y t).isSome=true ↔ t=s ∨ (M t).isSome=true:=by
 unfold updD
 by_cases h:t=s
 ·rw [if_pos h]
  simp [h]
 ·rw [if_neg h]
  simp [h]
theorem DbI.app {l:List ByteArray} {i:Nat} {M M':Dm} {u:Up} {ch:Bool} (h:DbI l i M) (hu:∀ v ∈ u.row,SmV v) (ha:appD M u = .ok (M',ch)):DbI l (i + 1) M':=by
 have hok:=appD_ok h.ok ha
 unfold appD at ha
 split at ha
 ·rename_i hc
  split at ha
  ·cases ha
  ·rename_i e he
   split at ha
   ·cases ha
   ·rename_i p hp
    injection ha with ha
    injection ha with h1 h2
    have hsub:M'=M ∨ M'=updD M u.rel ⟨e.kinds,⟨e.rel.ar,p.1⟩⟩:=by
     rw [← h1]
     split
     ·exact .inr rfl
     ·exact .inl rfl
    rcases hsub with e1 | e1
    ·subst e1
     exact ⟨h.ok,h.nm,h.sz,fun s y hy=>Nat.le_succ_of_le (h.ln s y hy),h.sm⟩
    ·have q1:=updS_grow (rows':=p.1) (ch:=p.2) (h.ok.so _ _ he).1 hp
     obtain ⟨-,-,q3⟩:=updS_ok (rows':=p.1) (ch:=p.2) (h.ok.so _ _ he).1 (h.ok.so _ _ he).2 hp
     refine ⟨hok,⟨h.nm.1,fun s=>?_⟩,h.sz,fun s y hy=>?_,fun s y hy=>?_⟩
     ·rw [e1,updD_some,h.nm.2]
      constructor
      ·exact .inr
      ·rintro (rfl | h9)
       ·rw [he];rfl
       ·exact h9
     ·rw [e1] at hy
      unfold updD at hy
      split at hy
      ·injection hy with hy
       subst hy
       have:=h.ln _ _ he
       show p.1.length≤i + 1
       omega
      ·exact Nat.le_succ_of_le (h.ln _ _ hy)
     ·rw [e1] at hy
      unfold updD at hy
      split at hy
      ·injection hy with hy
       subst hy
       intro x hx v hv
       rcases q3 x hx with rfl | hx
       ·exact hu v hv
       ·exact h.sm _ _ he x hx v hv
      ·exact h.sm _ _ hy
 ·cases ha
theorem DbI.le {l:List ByteArray} {i j:Nat} {M:Dm} (h:DbI l i M) (hij:i≤j):DbI l j M:=⟨h.ok,h.nm,h.sz,fun s e he=>Nat.le_trans (h.ln s e he) hij,h.sm⟩
theorem valB_ok {v:Vl} (h:valB v.kind v.int v.str=true) (hs:SmV v):okV v=true∧VOk v:=by
 refine ⟨h,?_⟩
 unfold SmV at hs
 unfold valB at h
 by_cases h1:v.kind=1
 ·rw [if_pos h1,decide_eq_true_eq] at h
  refine ⟨?_,by omega,by omega,by omega,by omega⟩
  rw [h]
  exact Nat.zero_le _
 ·rw [if_neg h1] at h
  by_cases h2:v.kind=2
  ·rw [if_pos h2,decide_eq_true_eq] at h
   exact ⟨by omega,by omega,by omega,by omega,by omega⟩
  ·rw [if_neg h2] at h
   cases h
theorem DbI.db {l:List ByteArray} {i:Nat} {M:Dm} (h:DbI l i M):DbOk M where
 key:=fun s x hx=>⟨Nat.le_trans (h.sz s ((h.nm.2 s).2 (by rw [hx];rfl))) (by omega),Nat.le_trans (h.ok.ar s x hx).2 (by omega)⟩
 so:=fun s x hx=>(h.ok.so s x hx).1
 ln:=fun s x hx=>Nat.le_trans (h.ok.so s x hx).2 (by omega)
 row:=fun s x hx r hr=>by
  obtain ⟨h1,-⟩:=h.ok.row s x hx r hr
  have h2:=(h.ok.ar s x hx).1
  unfold accE at h1
  by_cases h3:(r.length:Int)=x.rel.ar
  ·rw [if_pos h3] at h1
   by_cases h4:valR r=true
   ·exact ⟨by omega,fun v hv=>valB_ok (List.all_eq_true.1 h4 v hv) (h.sm s x hx r hr v hv)⟩
   ·rw [if_neg h4] at h1
    cases h1
  ·rw [if_neg h3] at h1
   cases h1
def namesL (ss:List Sc):List ByteArray:=(ss.map Sc.name).foldl addW []
theorem addW_mem {vs:List ByteArray} {s t:ByteArray}:t ∈ addW vs s ↔ t ∈ vs ∨ t=s:=by
 unfold addW
 by_cases h:s ∈ vs
 ·rw [if_pos h]
  exact ⟨.inl,fun h2=>h2.elim id (fun e=>e ▸ h)⟩
 ·rw [if_neg h,List.mem_append,List.mem_singleton]
theorem addW_nodup {vs:List ByteArray} {s:ByteArray} (hn:vs.Nodup):(addW vs s).Nodup:=by
 unfold addW
 by_cases h:s ∈ vs
 ·rw [if_pos h];exact hn
 ·rw [if_neg h]
  refine List.nodup_append.2 ⟨hn,by simp,fun x hx y hy e=>?_⟩
  rw [List.mem_singleton] at hy
  subst hy
  subst e
  exact h hx
theorem foldW_mem {t:ByteArray}:∀ {ss vs:List ByteArray},t ∈ ss.foldl addW vs ↔ t ∈ vs ∨ t ∈ ss
 | [],vs=>by simp
 | s :: ss,vs=>by
  rw [List.foldl_cons,foldW_mem,addW_mem,List.mem_cons]
  exact ⟨fun h=>h.elim (fun h=>h.imp id .inl) (fun h=>.inr (.inr h)),fun h=>h.elim (fun h=>.inl (.inl h)) (fun h=>h.elim (fun h=>.inl (.inr h)) .inr)⟩
theorem foldW_nodup:∀ {ss vs:List ByteArray},vs.Nodup→(ss.foldl addW vs).Nodup
 | [],_,h=>h
 | s :: ss,vs,h=>by
  rw [List.foldl_cons]
  exact foldW_nodup (addW_nodup h)
theorem names_of (ss:List Sc):NamesOf (dmL ss) (namesL ss):=by
 refine ⟨foldW_nodup List.nodup_nil,fun s=>?_⟩
 unfold namesL
 rw [foldW_mem]
 unfold dmL findS
 rw [Option.isSome_map,List.find?_isSome]
 simp
theorem findS_mem {ss:List Sc} {s:ByteArray} {x:Sc} (h:findS ss s=some x):x ∈ ss∧x.name=s:=by
 unfold findS at h
 have h2:=List.find?_some (p:=fun x:Sc=>decide (x.name=s)) h
 exact ⟨List.mem_of_find?_eq_some h,of_decide_eq_true h2⟩
theorem DbI.new {ss:List Sc} (h:∀ x ∈ ss,ScOk x):DbI (namesL ss) 0 (dmL ss):=by
 have hm:∀ s e,dmL ss s=some e→∃ x ∈ ss,x.name=s∧e=⟨x.kinds,⟨(x.kinds.length:Int),[]⟩⟩:=fun s e he=>by
  unfold dmL at he
  rcases hf:findS ss s with _ | x
  ·rw [hf] at he
   cases he
  ·rw [hf] at he
   injection he with he
   exact ⟨x,(findS_mem hf).1,(findS_mem hf).2,he.symm⟩
 refine ⟨⟨fun s e he=>?_,fun s e he=>?_,fun s e he=>?_⟩,names_of ss,fun s hs=>?_,fun s e he=>?_,fun s e he=>?_⟩
 ·obtain ⟨x,hx,-,rfl⟩:=hm s e he
  exact ⟨rfl,(h x hx).2.1⟩
 ·obtain ⟨x,hx,-,rfl⟩:=hm s e he
  exact ⟨List.Pairwise.nil,Nat.zero_le _⟩
 ·obtain ⟨x,hx,-,rfl⟩:=hm s e he
  intro y hy
  simp at hy
 ·unfold namesL at hs
  rw [foldW_mem] at hs
  rcases hs with hs | hs
  ·simp at hs
  ·obtain ⟨x,hx,rfl⟩:=List.mem_map.1 hs
   have h1:=(h x hx).1
   unfold catB at h1
   simp only [Bool.and_eq_true,decide_eq_true_eq] at h1
   exact h1.1.2
 ·obtain ⟨x,hx,-,rfl⟩:=hm s e he
  exact Nat.zero_le _
 ·obtain ⟨x,hx,-,rfl⟩:=hm s e he
  intro y hy
  simp at hy
structure Tb where
 name:ByteArray
 ar:Int
 rows:List (List Vl)
def rdTb:Rdg Tb where
 sz:=3
 R:=fun F w cs x=>∃ u,cs = [.string x.name,.int .i64 x.ar,u]∧Sl rdRow F w u x.rows
 len:=fun ⟨_,e,_⟩=>by rw [e];rfl
 fr:=fun ⟨u,e,h⟩ hf hs=>⟨u,e,h.fr hf hs⟩
 mono:=fun ⟨u,e,h⟩ hs=>⟨u,e,h.mono (by decide) hs⟩
theorem Sl.tb {F:Nat→Prop} {w:World} {A:Option Addr} {n c:Nat} {xs:List Tb} (h:Sl rdTb F w (.slice A n c) xs) {i:Nat} (hi:i < xs.length):∃ ad B d,A=some ad∧F ad.block∧w.cell? (ad.add (i * 3))=some (.string xs[i].name)∧w.cell? ⟨(ad.add (i * 3)).block,(ad.add (i * 3)).off + 1,none⟩=some (.int .i64 xs[i].ar)∧w.cell? ⟨(ad.add (i * 3)).block,(ad.add (i * 3)).off + 2,none⟩=some (.slice B xs[i].rows.length d)∧Sl rdRow F w (.slice B xs[i].rows.length d) xs[i].rows:=by
 obtain ⟨ad,cs,h1,h2,⟨u,rfl,hu⟩,h4,h5⟩:=h.at hi
 obtain ⟨B,d,e1⟩:=hu.sl
 subst e1
 exact ⟨ad,B,d,h1,h2,h4 (by simp),h5 0 (by simp),h5 1 (by simp),hu⟩
def tbOf (M:Dm) (s:ByteArray):Tb:=⟨s,((kdsOf M s).length:Int),rowsD M s⟩
def tbsOf (M:Dm) (l:List ByteArray):List Tb:=l.map (tbOf M)
end Go.Proofs.YtplldnnnhgnbjaaGreatDoor
