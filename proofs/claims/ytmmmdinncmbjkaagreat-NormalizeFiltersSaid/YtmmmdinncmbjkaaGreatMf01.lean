/- Words for memory. -/
import Derived.Test.YtmmmdinncmbjkaaGreatProg
import Derived.Test.YtmmmdinncmbjkaaGreatShelf
import Derived.BigQuiet
import Derived.Deep.AppendLies
import Derived.Deep.CutBlock
import Derived.Deep.DeepCutAuto
import Derived.Deep.QuietTactic
import Derived.Deep.RegionHeld3
import Derived.Deep.RegionLaw
import Derived.Deep.Upon
import Derived.KernelRfl
import Derived.Laws.BytesString
import Derived.Laws.EntriesVeiled
import Derived.Lib.AppendStr
import Derived.Lib.Hide
import Derived.Lib.ItoaLen
import Derived.Lib.SliceRun
import Derived.Maps.OwnOps
import Derived.Maps.OwnSet
import Derived.Maps.Views
import Derived.OwnWalk
import Derived.Shelf.Slices.Clone
import Derived.WalkKit
import Derived.WalkLawsBesides
import Derived.WalkSpells
namespace Go.Proofs.YtmmmdinncmbjkaaGreat
open Go.RowKit Go.Maps
/-- Only blocks of S, and what is new, may have turned. -/
structure Fr (S : Nat → Prop) (w w' : World) : Prop where
  os : w'.os = w.os
  tape : w'.tape = w.tape
  output : w'.output = w.output
  size : w.heap.size ≤ w'.heap.size
  block : ∀ k, k < w.heap.size → ¬ S k → w'.heap[k]? = w.heap[k]?
/-- All that was there is as it was; there may be more. -/
def Ext (w w' : World) : Prop := Below w.heap.size w w'
theorem Ext.refl (w : World) : Ext w w := Below.refl _ _
theorem Ext.size {w w' : World} (h : Ext w w') : w.heap.size ≤ w'.heap.size := Below.size h
theorem Ext.trans {a b c : World} (h : Ext a b) (k : Ext b c) : Ext a c := Below.trans h (Below.mono k h.size)
theorem Ext.drew {a w : World} (h : Ext a w) : Ext a w.drew := Below.drew h
theorem Ext.drewN {a w : World} (h : Ext a w) (n : Nat) : Ext a (w.drewN n) := ⟨h.os, h.tape, h.output, h.size, h.block⟩
theorem Ext.alloc {a w : World} (h : Ext a w) (o : Obj) : Ext a (w.alloc o) := Below.alloc h h.size o
theorem Ext.setCell {a w : World} (h : Ext a w) {p : Addr} (hp : a.heap.size ≤ p.block) (u : Value) : Ext a (w.setCell p u) := Below.setCell h hp u
theorem Ext.heap {w w' : World} (h : Ext w w') {k : Nat} (hk : k < w.heap.size) : w'.heap[k]? = w.heap[k]? := Below.block h k hk
theorem Ext.fr {w w' : World} (h : Ext w w') (S : Nat → Prop) : Fr S w w' := ⟨h.os, h.tape, h.output, h.size, fun _ hk _ => h.heap hk⟩
theorem Fr.refl (S : Nat → Prop) (w : World) : Fr S w w := (Ext.refl w).fr S
theorem Fr.mono {S T : Nat → Prop} {w w' : World} (h : Fr S w w') (hs : ∀ k, k < w.heap.size → S k → T k) : Fr T w w' := ⟨h.os, h.tape, h.output, h.size, fun k hk hn => h.block k hk (fun e => hn (hs k hk e))⟩
theorem Fr.trans {S : Nat → Prop} {a b c : World} (h : Fr S a b) (k : Fr S b c) : Fr S a c :=
  ⟨k.os.trans h.os, k.tape.trans h.tape, k.output.trans h.output, Nat.le_trans h.size k.size, fun i hi hn => (k.block i (Nat.lt_of_lt_of_le hi h.size) hn).trans (h.block i hi hn)⟩
theorem Fr.comp {S T : Nat → Prop} {a b c : World} (h : Fr S a b) (k : Fr T b c) (hs : ∀ k, T k → S k ∨ a.heap.size ≤ k) : Fr S a c :=
  ⟨k.os.trans h.os, k.tape.trans h.tape, k.output.trans h.output, Nat.le_trans h.size k.size, fun i hi hn => (k.block i (Nat.lt_of_lt_of_le hi h.size) (fun e => by rcases hs i e with h1 | h1; exact hn h1; omega)).trans (h.block i hi hn)⟩
theorem Fr.ext {S : Nat → Prop} {a b c : World} (h : Fr S a b) (k : Ext b c) : Fr S a c := h.trans (k.fr S)
/-- Where all that turned is new, seen from a. -/
theorem Fr.new {S : Nat → Prop} {a w w' : World} (ha : Ext a w) (h : Fr S w w') (hS : ∀ k, S k → a.heap.size ≤ k) : Ext a w' :=
  ⟨h.os.trans ha.os, h.tape.trans ha.tape, h.output.trans ha.output, Nat.le_trans ha.size h.size,
    fun k hk => (h.block k (Nat.lt_of_lt_of_le hk ha.size) (fun e => by have := hS k e; omega)).trans (ha.heap hk)⟩
theorem Fr.grown {S : Nat → Prop} {a w w' : World} {row : Option Nat} (h : Fr S a w) (hg : w.grownBy w' row) (hr : ∀ k, row = some k → S k ∨ a.heap.size ≤ k) : Fr S a w' :=
  ⟨hg.os.trans h.os, hg.tape.trans h.tape, hg.output.trans h.output, Nat.le_trans h.size hg.size, fun k hk hn =>
    (hg.block k (Nat.lt_of_lt_of_le hk h.size) (fun e => by rcases hr k e.symm with h1 | h1; exact hn h1; omega)).trans (h.block k hk hn)⟩
theorem Fr.setCell {S : Nat → Prop} {a w : World} (h : Fr S a w) {p : Addr} (hp : S p.block ∨ a.heap.size ≤ p.block) (u : Value) : Fr S a (w.setCell p u) :=
  ⟨h.os, h.tape, h.output, by simpa [World.setCell] using h.size, fun i hi hn => (Below.heap_setCell w p u i (by
    rintro rfl
    rcases hp with e | e
    · exact hn e
    · omega)).trans (h.block i hi hn)⟩
theorem Ext.grown {a w w' : World} {row : Option Nat} (h : Ext a w) (hg : w.grownBy w' row) (hr : ∀ k, row = some k → a.heap.size ≤ k) : Ext a w' := Below.grown h hg h.size hr
theorem grown_fr {w w' : World} {row : Option Nat} (hg : w.grownBy w' row) : Fr (fun k => row = some k) w w' := ⟨hg.os, hg.tape, hg.output, hg.size, fun k hk hn => hg.block k hk (fun e => hn e.symm)⟩
theorem cell_lt {w : World} {p : Addr} {v : Value} (h : w.cell? p = some v) : p.block < w.heap.size := by
  rcases Nat.lt_or_ge p.block w.heap.size with hlt | hge
  · exact hlt
  · simp [World.cell?, Array.getElem?_eq_none hge] at h
theorem Ext.cell {w w' : World} (h : Ext w w') {p : Addr} {v : Value} (hc : w.cell? p = some v) : w'.cell? p = some v := (Below.cell h (cell_lt hc)).trans hc
theorem Fr.cell {S : Nat → Prop} {w w' : World} (h : Fr S w w') {p : Addr} {v : Value} (hc : w.cell? p = some v) (hp : ¬ S p.block) : w'.cell? p = some v :=
  (World.cell?_of_block (h.block _ (cell_lt hc) hp)).trans hc
theorem block_add (a : Addr) (n : Nat) : (a.add n).block = a.block := by unfold Addr.add; split <;> rfl
theorem add_add (a : Addr) (i j : Nat) : (a.add i).add j = a.add (i + j) := by
  unfold Addr.add
  by_cases hi : i = 0 <;> by_cases hj : j = 0 <;> simp [hi, hj, Nat.add_assoc]
theorem add_own (g i : Nat) : (⟨g, 0, none⟩ : Addr).add i = ⟨g, i, none⟩ := by rcases i with _ | i <;> simp [Addr.add]
/-- Block g is just the cells xs, none frozen. -/
def Bk (w : World) (g : Nat) (t : TypeId) (xs : List Value) : Prop := w.heap[g]? = some (.cells xs.toArray t (0, 0))
theorem Bk.lt {w : World} {g : Nat} {t : TypeId} {xs : List Value} (h : Bk w g t xs) : g < w.heap.size := by
  rcases Nat.lt_or_ge g w.heap.size with h1 | h1
  · exact h1
  · unfold Bk at h; rw [Array.getElem?_eq_none h1] at h; cases h
theorem Bk.cell {w : World} {g : Nat} {t : TypeId} {xs : List Value} (h : Bk w g t xs) {i : Nat} (hi : i < xs.length) : w.cell? ⟨g, i, none⟩ = some xs[i] := by
  unfold Bk at h; simp [World.cell?, h, hi]
theorem Bk.free {w : World} {g : Nat} {t : TypeId} {xs : List Value} (h : Bk w g t xs) (i : Nat) : w.frozen? ⟨g, i, none⟩ = false := by
  unfold Bk at h; simp [World.frozen?, h]
theorem Bk.set {w : World} {g : Nat} {t : TypeId} {xs : List Value} (h : Bk w g t xs) (i : Nat) (u : Value) : Bk (w.setCell ⟨g, i, none⟩ u) g t (xs.set i u) := by
  unfold Bk at h ⊢; simp [World.setCell, Array.getElem?_modify, h]
theorem Bk.ext {w w' : World} {g : Nat} {t : TypeId} {xs : List Value} (h : Bk w g t xs) (he : Ext w w') : Bk w' g t xs := (he.heap h.lt).trans h
theorem Bk.fr {S : Nat → Prop} {w w' : World} {g : Nat} {t : TypeId} {xs : List Value} (h : Bk w g t xs) (hf : Fr S w w') (hg : ¬ S g) : Bk w' g t xs := (hf.block g h.lt hg).trans h
theorem Bk.alloc {w : World} {g : Nat} {t : TypeId} {xs : List Value} (h : Bk w g t xs) (o : Obj) : Bk (w.alloc o) g t xs := h.ext ((Ext.refl w).alloc o)
theorem Bk.new (w : World) (t : TypeId) (xs : List Value) : Bk (w.alloc (.cells xs.toArray t)) w.heap.size t xs := by
  show (w.heap.push _)[w.heap.size]? = _
  simp
theorem Bk.ne {w : World} {g h : Nat} {t u : TypeId} {xs : List Value} {o : Array Value} (hb : Bk w g t xs) (hc : w.heap[h]? = some (.cells o u (0, 0))) (htu : t ≠ u) : g ≠ h := fun e => by
  subst e
  have := hb.symm.trans hc
  injection this with this; injection this with _ this; exact htu this
/-- A returned value, and old memory as it was. -/
def Ret (S : Value → World → Prop) (w : World) (e : Ending) (w' : World) : Prop := ∃ v, e = .returned v ∧ Ext w w' ∧ S v w'
theorem Ret.mk {S : Value → World → Prop} {w w' : World} {v : Value} (he : Ext w w') (hs : S v w') : Ret S w (.returned v) w' := ⟨v, rfl, he, hs⟩
/-- Cells in a row, from an address that lies in F (if there are any). -/
def Cl (F : Nat → Prop) (w : World) (A : Option Addr) (xs : List Value) : Prop :=
  xs = [] ∨ ∃ ad, A = some ad ∧ F ad.block ∧ ∀ j (h : j < xs.length), w.cell? (ad.add j) = some xs[j]
theorem Cl.ext {F : Nat → Prop} {w w' : World} {A : Option Addr} {xs : List Value} (h : Cl F w A xs) (he : Ext w w') : Cl F w' A xs := by
  rcases h with h | ⟨ad, h1, h2, h3⟩
  · exact .inl h
  · exact .inr ⟨ad, h1, h2, fun j hj => he.cell (h3 j hj)⟩
theorem Cl.fr {S F : Nat → Prop} {w w' : World} {A : Option Addr} {xs : List Value} (h : Cl F w A xs) (hf : Fr S w w') (hs : ∀ k, F k → ¬ S k) : Cl F w' A xs := by
  rcases h with h | ⟨ad, h1, h2, h3⟩
  · exact .inl h
  · exact .inr ⟨ad, h1, h2, fun j hj => hf.cell (h3 j hj) (by rw [block_add]; exact hs _ h2)⟩
theorem Cl.mono {F G : Nat → Prop} {w : World} {A : Option Addr} {xs : List Value} (h : Cl F w A xs) (hs : ∀ k, k < w.heap.size → F k → G k) : Cl G w A xs := by
  rcases h with h | ⟨ad, h1, h2, h3⟩
  · exact .inl h
  · rcases xs with _ | ⟨x, xs⟩
    · exact .inl rfl
    · refine .inr ⟨ad, h1, hs _ ?_ h2, h3⟩
      have := cell_lt (h3 0 (by simp))
      rwa [block_add] at this
theorem Cl.at' {F : Nat → Prop} {w : World} {A : Option Addr} {xs : List Value} (h : Cl F w A xs) {j : Nat} {x : Value} (hj : xs[j]? = some x) : ∃ ad, A = some ad ∧ F ad.block ∧ w.cell? (ad.add j) = some x := by
  rcases h with rfl | ⟨ad, h1, h2, h3⟩
  · simp at hj
  · obtain ⟨hl, e⟩ := List.getElem?_eq_some_iff.1 hj
    exact ⟨ad, h1, h2, by rw [h3 j hl, e]⟩
theorem Cl.of_own {w : World} {base size n : Nat} {e : TypeId} {v : Value} {xs : List Value} (h : w.ownsRow base e size v n xs) : ∃ A c, v = .slice A n c ∧ n ≤ c ∧ Cl (fun k => v.ownBlock = some k ∧ base ≤ k) w A xs := by
  obtain ⟨hl, h⟩ := h
  rcases h with ⟨rfl, rfl⟩ | ⟨g, cap, cur, rfl, hb, hc, hn, hm, hs, hx⟩
  · exact ⟨none, 0, rfl, Nat.le_refl _, .inl (by simpa using hl)⟩
  · refine ⟨_, _, rfl, hn, .inr ⟨_, rfl, ⟨rfl, hb⟩, fun j hj => ?_⟩⟩
    subst hx
    rw [add_own]
    have hj2 : j < cur.size := by simp at hj; omega
    simp [World.cell?, hc, hj2]
theorem own_slice {w : World} {base size n : Nat} {e : TypeId} {v : Value} {xs : List Value} (h : w.ownsRow base e size v n xs) : ∃ A c, v = .slice A n c := by
  obtain ⟨A, c, h, _⟩ := Cl.of_own h; exact ⟨A, c, h⟩
/-- A term: a variable's name, or a constant. -/
structure Tm where
  var : ByteArray
  kind : Int
  int : Int
  str : ByteArray
deriving DecidableEq
def Tm.cells (t : Tm) : List Value := [.string t.var, .int .i64 t.kind, .int .i64 t.int, .string t.str]
abbrev Tm.val (t : Tm) : Value := .agg #[.string t.var, .int .i64 t.kind, .int .i64 t.int, .string t.str]
def tcells (ts : List Tm) : List Value := ts.flatMap Tm.cells
theorem tcells_get : ∀ {ts : List Tm} {i : Nat} (hi : i < ts.length) (j : Nat), j < 4 → (tcells ts)[4 * i + j]? = (ts[i].cells)[j]?
  | t :: ts, 0, _, j, hj => by
    simp only [tcells, List.flatMap_cons, Nat.mul_zero, Nat.zero_add, List.getElem_cons_zero]
    rw [List.getElem?_append_left (by simpa [Tm.cells] using hj)]
  | t :: ts, i + 1, hi, j, hj => by
    have ih := tcells_get (ts := ts) (i := i) (by simpa using hi) j hj
    simp only [tcells, List.flatMap_cons, List.getElem_cons_succ] at ih ⊢
    rw [List.getElem?_append_right (by simp [Tm.cells]; omega)]
    rw [← ih]
    congr 1
    simp [Tm.cells]; omega
/-- A slice of terms. -/
def Ts (F : Nat → Prop) (w : World) (v : Value) (ts : List Tm) : Prop := ∃ A c, v = .slice A ts.length c ∧ ts.length ≤ c ∧ Cl F w A (tcells ts)
theorem Ts.ext {F : Nat → Prop} {w w' : World} {v : Value} {ts : List Tm} (h : Ts F w v ts) (he : Ext w w') : Ts F w' v ts := let ⟨A, c, h1, h2, h3⟩ := h; ⟨A, c, h1, h2, h3.ext he⟩
theorem Ts.fr {S F : Nat → Prop} {w w' : World} {v : Value} {ts : List Tm} (h : Ts F w v ts) (hf : Fr S w w') (hs : ∀ k, F k → ¬ S k) : Ts F w' v ts := let ⟨A, c, h1, h2, h3⟩ := h; ⟨A, c, h1, h2, h3.fr hf hs⟩
theorem Ts.mono {F G : Nat → Prop} {w : World} {v : Value} {ts : List Tm} (h : Ts F w v ts) (hs : ∀ k, k < w.heap.size → F k → G k) : Ts G w v ts := let ⟨A, c, h1, h2, h3⟩ := h; ⟨A, c, h1, h2, h3.mono hs⟩
theorem add_succ' (a : Addr) (n j : Nat) : a.add (n + (j + 1)) = ⟨(a.add n).block, (a.add n).off + (j + 1), none⟩ := by
  rw [← add_add]
  generalize a.add n = p
  simp [Addr.add]
/-- Term i, as four cells, in the walk's spelling. -/
theorem Cl.term {F : Nat → Prop} {w : World} {A : Option Addr} {ts : List Tm} (h : Cl F w A (tcells ts)) {i : Nat} (hi : i < ts.length) : ∃ ad, A = some ad ∧ F ad.block ∧ w.cell? (ad.add (i * 4)) = some (.string ts[i].var) ∧ w.cell? ⟨(ad.add (i * 4)).block, (ad.add (i * 4)).off + 1, none⟩ = some (.int .i64 ts[i].kind) ∧ w.cell? ⟨(ad.add (i * 4)).block, (ad.add (i * 4)).off + 2, none⟩ = some (.int .i64 ts[i].int) ∧ w.cell? ⟨(ad.add (i * 4)).block, (ad.add (i * 4)).off + 3, none⟩ = some (.string ts[i].str) := by
  obtain ⟨ad, h1, h2, c0⟩ := h.at' ((tcells_get hi 0 (by omega)).trans rfl)
  obtain ⟨ad1, e1, _, c1⟩ := h.at' ((tcells_get hi 1 (by omega)).trans rfl)
  obtain ⟨ad2, e2, _, c2⟩ := h.at' ((tcells_get hi 2 (by omega)).trans rfl)
  obtain ⟨ad3, e3, _, c3⟩ := h.at' ((tcells_get hi 3 (by omega)).trans rfl)
  subst h1
  injection e1 with e1; injection e2 with e2; injection e3 with e3
  subst e1 e2 e3
  rw [show 4 * i + 0 = i * 4 by omega] at c0
  rw [show 4 * i + 1 = i * 4 + (0 + 1) by omega, add_succ'] at c1
  rw [show 4 * i + 2 = i * 4 + (1 + 1) by omega, add_succ'] at c2
  rw [show 4 * i + 3 = i * 4 + (2 + 1) by omega, add_succ'] at c3
  exact ⟨ad, rfl, h2, c0, c1, c2, c3⟩
/-- The row lies where it lay, or in the block that is new. -/
def Lands (w : World) (v v' : Value) : Prop := v'.ownBlock = v.ownBlock ∨ v'.ownBlock = some w.heap.size
theorem run_append_at {P : Program} (w : World) (base : Nat) (t ty e : TypeId) (i : TypeInfo) (z : Value) (size bytes : Nat) (ht : P.underlying t = some (.slice e)) (hi : P.info? e = some i) (hz : i.zero = some z)
    (hsize : i.size = size) (hby : i.bytes = bytes) (hzs : z.cells.size = size) (hsz : 0 < size)
    (v : Value) (n : Nat) (xs : List Value) (hown : w.ownsRow base e size v n xs)
    (a : Addr) (m c : Nat) (news : List Value) (hl : news.length = m * size) (hnews : ∀ j u, news[j]? = some u → w.cell? (a.add j) = some u) (h1 : ∀ u ∈ news, u.oneCell' = true)
    (h63 : n + m ≤ maxLen) (hbytes : (n + m) * bytes ≤ 140737488355328) (hbase : base ≤ w.heap.size) :
    ∃ v' w', (Builtin.append_ #[t, t] ty #[v, .slice (some a) m c]).run P w = .ok v' w' ∧ w'.ownsRow base e size v' (n + m) (xs ++ news) ∧ w.grownBy w' v.ownBlock ∧ Lands w v v' := by
  obtain ⟨v', w', hr, h2, h3, h4⟩ := run_append_own (P := P) w base t ty e i z size bytes ht hi hz hsize hby hzs hsz v n xs hown a m c news hl hnews h1 h63 hbytes hbase
  refine ⟨v', w', hr, h2, h3, ?_⟩
  subst hsize
  subst hby
  have hsmall : n + m ≤ 9223372036854775807 := by simp only [maxLen] at h63; omega
  rcases hown.2 with ⟨rfl, rfl⟩ | ⟨g, cap, cur, rfl, hbg, hg, hnc, hcm, hcs, htake⟩
  · by_cases hm : m = 0
    · left; rw [h4.2 ⟨rfl, hm⟩]
    · have hr2 := run_append_nil (P := P) w t ty e i z ht hi hz a m c news hl hnews (by omega) (by omega) (by have hb := hbytes; simp only [Nat.zero_add] at hb; omega)
      rw [hr] at hr2
      injection hr2 with e1 _
      subst e1
      right; rfl
  · by_cases hroom : n + m ≤ cap
    · have hfit : n * i.size + news.length ≤ cur.size := by rw [hl, hcs, ← Nat.add_mul]; exact Nat.mul_le_mul_right _ hroom
      have hr2 := run_append_room (P := P) w t ty e i ht hi g n cap cur hg a m c news hl hnews h1 hroom hfit
      rw [hr] at hr2
      injection hr2 with e1 _
      subst e1
      left; rfl
    · have holds : ∀ j u, xs[j]? = some u → w.cell? ((⟨g, 0, none⟩ : Addr).add j) = some u := hown.cells (g := g) rfl
      have hr2 := run_append_grow (P := P) w t ty e i z ht hi hz ⟨g, 0, none⟩ n cap xs hown.1 holds a m c news hl hnews (by omega) (by omega) (growslice_fits (by omega) hbytes)
      rw [hr] at hr2
      injection hr2 with e1 _
      subst e1
      right; rfl
theorem wpList_append_at {P : Program} {w : World} {ops : Array Oper} {rest : List Oper} {o : Oper} {a : Act} {Q : Exit → Act → World → Prop} (hgd : o.guard = none) (s y : Operand) (t : TypeId)
    (ho : o.op = .call { callee := .builtin .append, args := #[s, y], argTypes := #[t, t] })
    (base : Nat) (e : TypeId) (i : TypeInfo) (z : Value) (size bytes : Nat) (ht : P.underlying t = some (.slice e)) (hi : P.info? e = some i) (hz : i.zero = some z) (hsize : i.size = size) (hby : i.bytes = bytes) (hzs : z.cells.size = size) (hsz : 0 < size)
    (v : Value) (n : Nat) (xs : List Value) (hs : a.eval s = v) (hown : w.ownsRow base e size v n xs) (ad : Addr) (m c : Nat) (news : List Value) (hx : a.eval y = .slice (some ad) m c) (hl : news.length = m * size) (hnews : ∀ j u, news[j]? = some u → w.cell? (ad.add j) = some u) (h1 : ∀ u ∈ news, u.oneCell' = true)
    (h63 : n + m ≤ maxLen) (hbytes : (n + m) * bytes ≤ 140737488355328) (hbase : base ≤ w.heap.size)
    (h : ∀ v' w', w'.ownsRow base e size v' (n + m) (xs ++ news) → w.grownBy w' v.ownBlock → Lands w v v' → wpList P ops Q rest (a.put o.dst v') w') : wpList P ops Q (o :: rest) a w :=
  wpList_plain hgd fun K hK => by
    obtain ⟨v', w', hr, h2, h3, h4⟩ := run_append_at (P := P) w base t o.type e i z size bytes ht hi hz hsize hby hzs hsz v n xs hown ad m c news hl hnews h1 h63 hbytes hbase
    unfold Oper.wp execOp
    simp only [ho, resolve, invoke, builtin, Sem.run_bind, Sem.run_pure, Result.andThen_ok, List.map_toArray, List.map_cons, List.map_nil, hs, hx, hr]
    exact hK _ _ (h v' w' h2 h3 h4)
/-- A block of cells just laid, as the news of an append. -/
theorem laid_news (w : World) (t : TypeId) (xs : List Value) : ∀ j u, xs[j]? = some u → (w.alloc (.cells xs.toArray t)).cell? ((⟨w.heap.size, 0, none⟩ : Addr).add j) = some u := by
  intro j u hu
  obtain ⟨hj, rfl⟩ := List.getElem?_eq_some_iff.1 hu
  rw [add_own]
  exact (Bk.new w t xs).cell hj
theorem var_empty (s : ByteArray) : s.toList.isEmpty = decide (s = ⟨#[]⟩) := by
  by_cases h : s = ⟨#[]⟩
  · subst h; rw [ByteArray.toList_eq]; rfl
  · have : s.toList ≠ [] := fun e => h ((toList_nil_iff_emptyBytes s).1 e)
    rw [decide_eq_false h]
    rcases hs : s.toList with _ | ⟨a, l⟩
    · exact absurd hs this
    · rfl
abbrev I64 (n : Int) : Value := .int .i64 n
/-- A slice of ints. -/
def Ins (F : Nat → Prop) (w : World) (v : Value) (zs : List Int) : Prop := ∃ A c, v = .slice A zs.length c ∧ zs.length ≤ c ∧ Cl F w A (zs.map I64)
theorem Ins.ext {F : Nat → Prop} {w w' : World} {v : Value} {zs : List Int} (h : Ins F w v zs) (he : Ext w w') : Ins F w' v zs := let ⟨A, c, h1, h2, h3⟩ := h; ⟨A, c, h1, h2, h3.ext he⟩
theorem Ins.fr {S F : Nat → Prop} {w w' : World} {v : Value} {zs : List Int} (h : Ins F w v zs) (hf : Fr S w w') (hs : ∀ k, F k → ¬ S k) : Ins F w' v zs := let ⟨A, c, h1, h2, h3⟩ := h; ⟨A, c, h1, h2, h3.fr hf hs⟩
theorem Ins.mono {F G : Nat → Prop} {w : World} {v : Value} {zs : List Int} (h : Ins F w v zs) (hs : ∀ k, k < w.heap.size → F k → G k) : Ins G w v zs := let ⟨A, c, h1, h2, h3⟩ := h; ⟨A, c, h1, h2, h3.mono hs⟩
theorem Ins.of_own {w : World} {base n : Nat} {e : TypeId} {v : Value} {zs : List Int} (h : w.ownsRow base e 1 v n (zs.map I64)) : Ins (fun k => v.ownBlock = some k ∧ base ≤ k) w v zs := by
  have hn : n = zs.length := by have := h.1; simp at this; omega
  subst hn
  obtain ⟨A, c, h1, h2, h3⟩ := Cl.of_own h
  exact ⟨A, c, h1, h2, h3⟩
theorem Cl.int {F : Nat → Prop} {w : World} {A : Option Addr} {zs : List Int} (h : Cl F w A (zs.map I64)) {i : Nat} (hi : i < zs.length) : ∃ ad, A = some ad ∧ F ad.block ∧ w.cell? (ad.add i) = some (.int .i64 zs[i]) :=
  h.at' (by simp [hi])
/-- An atom. -/
structure At where
  neg : Bool
  rel : ByteArray
  terms : List Tm
def acells : List At → List Value → List Value
  | a :: xs, v :: vs => .bool a.neg :: .string a.rel :: v :: acells xs vs
  | _, _ => []
theorem acells_get : ∀ {xs : List At} {vs : List Value} {i : Nat} (hi : i < xs.length) (hv : i < vs.length), (acells xs vs)[i * 3]? = some (.bool xs[i].neg) ∧ (acells xs vs)[i * 3 + 1]? = some (.string xs[i].rel) ∧ (acells xs vs)[i * 3 + 2]? = some vs[i]
  | a :: xs, v :: vs, 0, _, _ => ⟨rfl, rfl, rfl⟩
  | a :: xs, v :: vs, i + 1, hi, hv => by
    obtain ⟨h1, h2, h3⟩ := acells_get (xs := xs) (vs := vs) (i := i) (by simpa using hi) (by simpa using hv)
    rw [show (i + 1) * 3 = i * 3 + 1 + 1 + 1 by omega]
    exact ⟨h1, h2, h3⟩
/-- A slice of atoms. -/
def Ats (F : Nat → Prop) (w : World) (v : Value) (xs : List At) : Prop :=
  ∃ A c vs, v = .slice A xs.length c ∧ xs.length ≤ c ∧ vs.length = xs.length ∧ Cl F w A (acells xs vs) ∧ ∀ i (h : i < xs.length) (h' : i < vs.length), Ts F w vs[i] xs[i].terms
theorem Ats.ext {F : Nat → Prop} {w w' : World} {v : Value} {xs : List At} (h : Ats F w v xs) (he : Ext w w') : Ats F w' v xs := let ⟨A, c, vs, h1, h2, h3, h4, h5⟩ := h; ⟨A, c, vs, h1, h2, h3, h4.ext he, fun i h h' => (h5 i h h').ext he⟩
theorem Ats.fr {S F : Nat → Prop} {w w' : World} {v : Value} {xs : List At} (h : Ats F w v xs) (hf : Fr S w w') (hs : ∀ k, F k → ¬ S k) : Ats F w' v xs := let ⟨A, c, vs, h1, h2, h3, h4, h5⟩ := h; ⟨A, c, vs, h1, h2, h3, h4.fr hf hs, fun i h h' => (h5 i h h').fr hf hs⟩
/-- Atom i, as three cells, in the walk's spelling. -/
theorem Cl.atom {F : Nat → Prop} {w : World} {A : Option Addr} {xs : List At} {vs : List Value} (h : Cl F w A (acells xs vs)) {i : Nat} (hi : i < xs.length) (hv : i < vs.length) : ∃ ad, A = some ad ∧ F ad.block ∧ w.cell? (ad.add (i * 3)) = some (.bool xs[i].neg) ∧ w.cell? ⟨(ad.add (i * 3)).block, (ad.add (i * 3)).off + 1, none⟩ = some (.string xs[i].rel) ∧ w.cell? ⟨(ad.add (i * 3)).block, (ad.add (i * 3)).off + 2, none⟩ = some vs[i] := by
  obtain ⟨g0, g1, g2⟩ := acells_get hi hv
  obtain ⟨ad, h1, h2, c0⟩ := h.at' g0
  obtain ⟨ad1, e1, _, c1⟩ := h.at' g1
  obtain ⟨ad2, e2, _, c2⟩ := h.at' g2
  subst h1
  injection e1 with e1; injection e2 with e2
  subst e1 e2
  rw [show i * 3 + 1 = i * 3 + (0 + 1) by omega, add_succ'] at c1
  rw [show i * 3 + 2 = i * 3 + (1 + 1) by omega, add_succ'] at c2
  exact ⟨ad, rfl, h2, c0, c1, c2⟩
theorem own_bk {w : World} {b s n k g : Nat} {e t : TypeId} {v : Value} {xs ys : List Value} (h : w.ownsRow b e s v n xs) (hb : Bk w g t ys) (he : e ≠ t) (hk : v.ownBlock = some k) : k ≠ g := by
  rcases h.2 with ⟨rfl, _⟩ | ⟨g', cap, cur, rfl, _, hc, _⟩
  · simp [Value.ownBlock] at hk
  · simp [Value.ownBlock] at hk
    subst hk
    exact (hb.ne hc (fun e' => he e'.symm)).symm
theorem own_fr {S : Nat → Prop} {w w' : World} {b s n : Nat} {e : TypeId} {v : Value} {xs : List Value} (h : w.ownsRow b e s v n xs) (hf : Fr S w w') (hs : ∀ k, v.ownBlock = some k → ¬ S k) : w'.ownsRow b e s v n xs := by
  obtain ⟨h1, h2⟩ := h
  refine ⟨h1, ?_⟩
  rcases h2 with h2 | ⟨g, cap, cur, rfl, h3, h4, h5⟩
  · exact .inl h2
  · have hlt : g < w.heap.size := by
      rcases Nat.lt_or_ge g w.heap.size with h | h
      · exact h
      · rw [Array.getElem?_eq_none h] at h4; cases h4
    exact .inr ⟨g, cap, cur, rfl, h3, (hf.block g hlt (hs g rfl)).trans h4, h5⟩
def allT (xs : List At) : List Tm := xs.flatMap (·.terms)
theorem allT_take {xs : List At} {i : Nat} (h : i < xs.length) : allT (xs.take (i + 1)) = allT (xs.take i) ++ xs[i].terms := by
  unfold allT
  rw [List.take_succ_eq_append_getElem h, List.flatMap_append, List.flatMap_cons, List.flatMap_nil, List.append_nil]
theorem allT_le {xs : List At} (i : Nat) : (allT (xs.take i)).length ≤ (allT xs).length := by
  have h : xs = xs.take i ++ xs.drop i := (List.take_append_drop i xs).symm
  have e : allT xs = allT (xs.take i) ++ allT (xs.drop i) := by simp only [allT]; rw [← List.flatMap_append, ← h]
  rw [e]; simp
/-- Atom i, with the slice of its terms. -/
theorem Ats.at' {F : Nat → Prop} {w : World} {v : Value} {xs : List At} (h : Ats F w v xs) : ∃ A c, v = .slice A xs.length c ∧ xs.length ≤ c ∧ ∀ i (hi : i < xs.length), ∃ ad B d, A = some ad ∧ F ad.block ∧
    w.cell? (ad.add (i * 3)) = some (.bool xs[i].neg) ∧ w.cell? ⟨(ad.add (i * 3)).block, (ad.add (i * 3)).off + 1, none⟩ = some (.string xs[i].rel) ∧ w.cell? ⟨(ad.add (i * 3)).block, (ad.add (i * 3)).off + 2, none⟩ = some (.slice B xs[i].terms.length d) ∧ xs[i].terms.length ≤ d ∧ Cl F w B (tcells xs[i].terms) := by
  obtain ⟨A, c, vs, rfl, hc, hvs, hcl, hts⟩ := h
  refine ⟨A, c, rfl, hc, fun i hi => ?_⟩
  obtain ⟨ad, h1, h2, c0, c1, c2⟩ := hcl.atom (i := i) hi (by omega)
  obtain ⟨B, d, e, hd, hc2⟩ := hts i hi (by omega)
  rw [e] at c2
  exact ⟨ad, B, d, h1, h2, c0, c1, c2, hd, hc2⟩
theorem terms_le {xs : List At} {i : Nat} (hi : i < xs.length) : xs[i].terms.length ≤ (allT xs).length := by
  have h1 := allT_le (xs := xs) (i + 1)
  rw [allT_take hi, List.length_append] at h1
  omega
theorem var_ne {s : ByteArray} (h : ¬ s = ⟨#[]⟩) : s.toList.isEmpty = false := by rw [var_empty, decide_eq_false h]
theorem var_eq {s : ByteArray} (h : s = ⟨#[]⟩) : s.toList.isEmpty = true := by rw [var_empty, decide_eq_true h]
theorem Ats.mono {F G : Nat → Prop} {w : World} {v : Value} {xs : List At} (h : Ats F w v xs) (hs : ∀ k, k < w.heap.size → F k → G k) : Ats G w v xs :=
  let ⟨A, c, vs, h1, h2, h3, h4, h5⟩ := h; ⟨A, c, vs, h1, h2, h3, h4.mono hs, fun i h h' => (h5 i h h').mono hs⟩
theorem law_str : Keyed Tryz.prog 9 := string_keyed Tryz.underlying9
/-- An element reads as itself. -/
abbrev Rv (v : Value) : Option (DataW Value × List MemPlace) := some (.held v, [])
/-- Block b is a map of at most n entries: f says what it holds. -/
def MapV (w : World) (b n : Nat) (f : ByteArray → Option Value) : Prop :=
  ∃ D : DataW Value, w.ownsMap Tryz.prog 9 Rv b n D ∧ Tidy D ∧ (∀ s : ByteArray, ∀ zd, D.atKey (.string s.data.toList) zd = match f s with | some v => .held v | none => zd) ∧ ∀ s : ByteArray, Maps.has D (.string s.data.toList) = (f s).isSome
theorem MapV.made (w : World) : MapV (w.alloc (.map #[] 0)) w.heap.size 0 (fun _ => none) := ⟨.map [], World.ownsMap_made w _ _ _, tidy_empty, fun _ _ => rfl, fun _ => rfl⟩
theorem MapV.lt {w : World} {b n : Nat} {f : ByteArray → Option Value} (h : MapV w b n f) : b < w.heap.size := let ⟨_, h, _⟩ := h; h.lt
theorem MapV.fr {S : Nat → Prop} {w w' : World} {b n : Nat} {f : ByteArray → Option Value} (h : MapV w b n f) (hf : Fr S w w') (hb : ¬ S b) : MapV w' b n f := by
  obtain ⟨D, ⟨es, clock, h1, h2⟩, h3⟩ := h
  have hlt : b < w.heap.size := by
    rcases Nat.lt_or_ge b w.heap.size with h | h
    · exact h
    · rw [Array.getElem?_eq_none h] at h1; cases h1
  exact ⟨D, ⟨es, clock, (hf.block b hlt hb).trans h1, h2⟩, h3⟩
theorem MapV.ext {w w' : World} {b n : Nat} {f : ByteArray → Option Value} (h : MapV w b n f) (he : Ext w w') : MapV w' b n f := h.fr (he.fr (fun _ => False)) (fun h => h)
theorem MapV.mono {w : World} {b n m : Nat} {f : ByteArray → Option Value} (h : MapV w b n f) (hm : n ≤ m) : MapV w b m f := let ⟨D, h1, h2⟩ := h; ⟨D, h1.mono hm, h2⟩
def updV (f : ByteArray → Option Value) (s : ByteArray) (v : Option Value) : ByteArray → Option Value := fun t => if t = s then v else f t
theorem key_ne {s t : ByteArray} (h : t ≠ s) : (Lit.string t.data.toList) ≠ .string s.data.toList := fun e => by injection e with e; exact h (Go.WideShapes.bytes_inj e)
theorem keyOf_str (s : ByteArray) (hs : s.size ≤ maxLen) : keyOf Tryz.prog 9 (.string s) = some (.string s.data.toList) := Go.WideMaps.keyOf_string_mk Tryz.underlying9 hs
theorem put_view {D : DataW Value} {f : ByteArray → Option Value} (ht : Tidy D) (h1 : ∀ s : ByteArray, ∀ zd, D.atKey (.string s.data.toList) zd = match f s with | some v => .held v | none => zd) (h2 : ∀ s : ByteArray, Maps.has D (.string s.data.toList) = (f s).isSome) (s : ByteArray) (v : Value) :
    Tidy (D.put (.string s.data.toList) (.held v)) ∧ (∀ t : ByteArray, ∀ zd, (D.put (.string s.data.toList) (.held v)).atKey (.string t.data.toList) zd = match updV f s (some v) t with | some v => .held v | none => zd) ∧ ∀ t : ByteArray, Maps.has (D.put (.string s.data.toList) (.held v)) (.string t.data.toList) = (updV f s (some v) t).isSome := by
  have hk : WideAt.IsKeyLit (Lit.string s.data.toList) := trivial
  refine ⟨ht.put hk _, fun t zd => ?_, fun t => ?_⟩
  · by_cases e : t = s
    · subst e; rw [atKey_put_same ht.isMap hk]; simp [updV]
    · rw [atKey_put_other (key_ne e), h1 t zd]; simp [updV, e]
  · by_cases e : t = s
    · subst e; rw [has_put_same ht.isMap hk]; simp [updV]
    · rw [has_put_other (key_ne e), h2 t]; simp [updV, e]
/-- m[k]. -/
theorem wpList_lookup_V {w : World} {ops : Array Oper} {rest : List Oper} {o : Oper} {a : Act} {Q : Exit → Act → World → Prop} (hg : o.guard = none) (m x : Operand) (t e : TypeId) (hop : o.op = Op.lookup t m x false)
    (ht : Tryz.prog.underlying t = some (.map 9 e)) (z : Value) (hz : (zeroValue e).run Tryz.prog w = .ok z w) (b n : Nat) (f : ByteArray → Option Value)
    (hm : a.eval m = .map (some b)) (hown : MapV w b n f) (s : ByteArray) (hx : a.eval x = .string s) (hs : s.size ≤ maxLen) (u : Value) (hu : (f s).getD z = u)
    (hK : wpList Tryz.prog ops Q rest (a.put o.dst u) w) : wpList Tryz.prog ops Q (o :: rest) a w := by
  refine wpList_plain hg fun K' hK' => ?_
  obtain ⟨D, hD, -, hat, -⟩ := hown
  obtain ⟨v, ps, hrun, hv⟩ := hD.lookup law_str ht hz (zd := .held z) (zp := []) rfl (keyOf_str s hs)
  have hvu : v = u := by
    have h1 := hat s (.held z)
    rw [h1] at hv
    rcases hf : f s with _ | y
    · rw [hf] at hv hu; simp at hv hu; rw [hv.1, hu]
    · rw [hf] at hv hu; simp at hv hu; rw [hv.1, hu]
  subst hvu
  unfold Oper.wp
  simp [execOp, hop, hm, hx, hrun, Result.andThen]
  exact hK' _ _ hK
/-- v, ok := m[k]. -/
theorem wpList_lookup_okV {w : World} {ops : Array Oper} {rest : List Oper} {o : Oper} {a : Act} {Q : Exit → Act → World → Prop} (hg : o.guard = none) (m x : Operand) (t e : TypeId) (hop : o.op = Op.lookup t m x true)
    (ht : Tryz.prog.underlying t = some (.map 9 e)) (z : Value) (hz : (zeroValue e).run Tryz.prog w = .ok z w) (b n : Nat) (f : ByteArray → Option Value)
    (hm : a.eval m = .map (some b)) (hown : MapV w b n f) (s : ByteArray) (hx : a.eval x = .string s) (hs : s.size ≤ maxLen) (u : Value) (hu : (f s).getD z = u) (ok : Bool) (hok : (f s).isSome = ok)
    (hK : wpList Tryz.prog ops Q rest (a.put o.dst (.tuple #[u, .bool ok])) w) : wpList Tryz.prog ops Q (o :: rest) a w := by
  refine wpList_plain hg fun K' hK' => ?_
  obtain ⟨D, hD, -, hat, hhas⟩ := hown
  obtain ⟨v, ps, hrun, hv⟩ := hD.look_ok law_str ht hz (zd := .held z) (zp := []) rfl (keyOf_str s hs)
  have hvu : v = u := by
    have h1 := hat s (.held z)
    rw [h1] at hv
    rcases hf : f s with _ | y
    · rw [hf] at hv hu; simp at hv hu; rw [hv.1, hu]
    · rw [hf] at hv hu; simp at hv hu; rw [hv.1, hu]
  subst hvu
  rw [hhas s, hok] at hrun
  unfold Oper.wp
  simp [execOp, hop, hm, hx, hrun, Result.andThen]
  exact hK' _ _ hK
/-- m[k] = v. -/
theorem wpList_update_V {w : World} {ops : Array Oper} {rest : List Oper} {o : Oper} {a : Act} {Q : Exit → Act → World → Prop} (hg : o.guard = none) (m x v : Operand) (t e : TypeId) (hop : o.op = Op.mapUpdate t m x v)
    (ht : Tryz.prog.underlying t = some (.map 9 e)) (b n : Nat) (f : ByteArray → Option Value)
    (hm : a.eval m = .map (some b)) (hown : MapV w b n f) (hn : n < maxLen) (s : ByteArray) (u : Value) (hx : a.eval x = .string s) (hs : s.size ≤ maxLen) (hv : a.eval v = u)
    (hK : ∀ w', MapV w' b (n + 1) (updV f s (some u)) → w.grownBy w' (some b) → wpList Tryz.prog ops Q rest (a.put o.dst undef) w') : wpList Tryz.prog ops Q (o :: rest) a w := by
  obtain ⟨D, hD, hti, hat, hhas⟩ := hown
  obtain ⟨p1, p2, p3⟩ := put_view hti hat hhas s u
  exact wpList_mapUpdate_own w hg m x v t hop 9 e law_str ht Rv b n D hm hD hn (.string s) u (.string s.data.toList) hx hv (keyOf_str s hs) (.held u) [] rfl (fun w' h1 h2 => hK w' ⟨_, h1, p1, p2, p3⟩ h2)
/-- An entry of a map literal. -/
theorem wpList_insert_V {w : World} {ops : Array Oper} {rest : List Oper} {o : Oper} {a : Act} {Q : Exit → Act → World → Prop} (hg : o.guard = none) (m x v : Operand) (t e : TypeId) (hop : o.op = Op.insert t m x v)
    (ht : Tryz.prog.underlying t = some (.map 9 e)) (b n : Nat) (f : ByteArray → Option Value)
    (hm : a.eval m = .map (some b)) (hown : MapV w b n f) (hn : n < maxLen) (s : ByteArray) (u : Value) (hx : a.eval x = .string s) (hs : s.size ≤ maxLen) (hv : a.eval v = u)
    (hK : ∀ w', MapV w' b (n + 1) (updV f s (some u)) → w.grownBy w' (some b) → wpList Tryz.prog ops Q rest (a.put o.dst undef) w') : wpList Tryz.prog ops Q (o :: rest) a w := by
  obtain ⟨D, hD, hti, hat, hhas⟩ := hown
  obtain ⟨p1, p2, p3⟩ := put_view hti hat hhas s u
  refine wpList_plain hg fun K' hK' => ?_
  obtain ⟨w', hrun, r1, r2⟩ := hD.update law_str ht hn (keyOf_str s hs) (val := u) (d := .held u) (ps := []) rfl
  unfold Oper.wp
  simp [execOp, hop, hm, hx, hv, hrun, Result.andThen]
  exact hK' _ _ (hK w' ⟨_, r1, p1, p2, p3⟩ r2)
theorem zero_bool (w : World) : (zeroValue 4).run Tryz.prog w = .ok (.bool false) w := by kernel_rfl
theorem info_str : (Tryz.prog.info? 9).map (fun i => (i.zero, i.size, i.bytes)) = some (some (.string ⟨#[]⟩), 1, 16) := by kernel_rfl
abbrev Sv (s : ByteArray) : Value := .string s
instance memBA (s : ByteArray) : (vs : List ByteArray) → Decidable (s ∈ vs)
  | [] => isFalse (by simp)
  | v :: vs => if h : s = v then isTrue (by simp [h]) else match memBA s vs with
    | isTrue h' => isTrue (List.mem_cons_of_mem _ h')
    | isFalse h' => isFalse (fun e => by rcases List.mem_cons.1 e with e | e; exact h e; exact h' e)
/-- Names, each once, the empty one never. -/
def addV (vs : List ByteArray) (s : ByteArray) : List ByteArray := if s = ⟨#[]⟩ ∨ s ∈ vs then vs else vs ++ [s]
def seenF (vs : List ByteArray) : ByteArray → Option Value := fun s => if s = ⟨#[]⟩ ∨ s ∈ vs then some (.bool true) else none
/-- The two variables that the closure has captured, the map and the row. -/
structure VarB (w : World) (base b gs gv n : Nat) (vv : Value) (vs : List ByteArray) : Prop where
  map : MapV w b n (seenF vs)
  seen : Bk w gs 168 [.map (some b)]
  vars : Bk w gv 30 [vv]
  row : w.ownsRow base 9 1 vv vs.length (vs.map Sv)
theorem VarB.ext {w w' : World} {base b gs gv n : Nat} {vv : Value} {vs : List ByteArray} (h : VarB w base b gs gv n vv vs) (he : Ext w w') : VarB w' base b gs gv n vv vs :=
  ⟨h.map.ext he, h.seen.ext he, h.vars.ext he, own_fr h.row (he.fr (fun _ => False)) (fun _ _ h => h)⟩
set_option maxRecDepth 20000 in
set_option maxHeartbeats 800000 in
theorem add_old {w : World} {base b gs gv n : Nat} {vv : Value} {vs : List ByteArray} {s : ByteArray} (h : VarB w base b gs gv n vv vs) (hs : s.size ≤ maxLen) (ho : Hid (s = ⟨#[]⟩ ∨ s ∈ vs)) :
    Calls Tryz.prog 62 #[.string s, .pointer (some ⟨gs, 0, none⟩), .pointer (some ⟨gv, 0, none⟩)] w (fun e w' => e = .returned (.tuple #[]) ∧ w = w') := by
  have d0 := h.seen.cell (i := 0) (by simp)
  simp only [List.getElem_cons_zero] at d0
  have HM := Lib.hid h.map
  clear h
  go_enter Tryz.func62, Tryz.ntmps62
  go_wp2_with (first | (at_lookup; refine wpList_lookup_V rfl _ _ 168 4 rfl Tryz.underlying168 (.bool false) (zero_bool _) b n (seenF vs) rfl HM.out s rfl hs (.bool true) (by rw [seenF, if_pos ho.out]; rfl) ?_))
  exact bodyPost_end (results_none rfl _ _ _) rfl ⟨rfl, rfl⟩
theorem MapV.ne {w : World} {b n g : Nat} {f : ByteArray → Option Value} {t : TypeId} {xs : List Value} (h : MapV w b n f) (hb : Bk w g t xs) : g ≠ b := by
  obtain ⟨D, ⟨es, clock, h1, _⟩, _⟩ := h
  rintro rfl
  have := hb.symm.trans h1
  injection this with this; cases this
theorem MapV.ne_own {w : World} {b n base size m k : Nat} {f : ByteArray → Option Value} {e : TypeId} {v : Value} {xs : List Value} (h : MapV w b n f) (hr : w.ownsRow base e size v m xs) (hk : v.ownBlock = some k) : k ≠ b := by
  obtain ⟨D, ⟨es, clock, h1, _⟩, _⟩ := h
  rcases hr.2 with ⟨rfl, _⟩ | ⟨g, cap, cur, rfl, _, hc, _⟩
  · simp [Value.ownBlock] at hk
  · simp [Value.ownBlock] at hk
    subst hk
    rintro rfl
    have := hc.symm.trans h1
    injection this with this; cases this
theorem seenF_add {vs : List ByteArray} {s : ByteArray} (h : ¬ (s = ⟨#[]⟩ ∨ s ∈ vs)) : updV (seenF vs) s (some (.bool true)) = seenF (vs ++ [s]) := by
  funext t
  unfold updV seenF
  by_cases e : t = s
  · subst e; rw [if_pos rfl, if_pos (.inr (by simp))]
  · rw [if_neg e]
    by_cases h2 : t = ⟨#[]⟩ ∨ t ∈ vs
    · rw [if_pos h2, if_pos (h2.imp id (fun h => by simp [h]))]
    · rw [if_neg h2, if_neg (fun h3 => h2 (h3.imp id (fun h4 => by simp [e] at h4; exact h4)))]
/-- What add leaves. -/
def AddPost (base b gs gv n : Nat) (vv : Value) (vs : List ByteArray) (s : ByteArray) (w : World) (e : Ending) (w' : World) : Prop :=
  ∃ vv', e = .returned (.tuple #[]) ∧ VarB w' base b gs gv (n + 1) vv' (addV vs s) ∧ Fr (fun k => k = b ∨ k = gv ∨ vv.ownBlock = some k) w w' ∧ (vv'.ownBlock = vv.ownBlock ∨ ∀ k, vv'.ownBlock = some k → w.heap.size ≤ k)
set_option maxRecDepth 20000 in
set_option maxHeartbeats 800000 in
theorem add_new {w : World} {base b gs gv n : Nat} {vv : Value} {vs : List ByteArray} {s : ByteArray} (h : VarB w base b gs gv n vv vs) (hbase : base ≤ w.heap.size) (hn : n ≤ 2097152) (hl : vs.length ≤ 1048576) (hs : s.size ≤ maxLen) (ho : Hid (¬ (s = ⟨#[]⟩ ∨ s ∈ vs))) :
    Calls Tryz.prog 62 #[.string s, .pointer (some ⟨gs, 0, none⟩), .pointer (some ⟨gv, 0, none⟩)] w (AddPost base b gs gv n vv vs s w) := by
  obtain ⟨A, c, rfl⟩ := own_slice h.row
  have d0 := h.seen.cell (i := 0) (by simp)
  simp only [List.getElem_cons_zero] at d0
  have HH := Lib.hid h
  obtain ⟨m, hm⟩ : ∃ m, m = vs.length := ⟨_, rfl⟩
  have HMM := Lib.hid hm
  clear h hm
  obtain ⟨i0, hi0, hz0, hz1, hz2⟩ := info_parts info_str
  have HI0 := Lib.hid (And.intro hi0 (And.intro hz0 (And.intro hz1 hz2))); clear hi0 hz0 hz1 hz2
  go_enter Tryz.func62, Tryz.ntmps62
  go_wp2_with (first
    | (at_lookup; refine wpList_lookup_V rfl _ _ 168 4 rfl Tryz.underlying168 (.bool false) (zero_bool _) b n (seenF vs) rfl HH.out.map s rfl hs (.bool false) (by rw [seenF, if_neg ho.out]; rfl) ?_)
    | (at_mapUpdate; refine wpList_update_V rfl _ _ _ 168 4 rfl Tryz.underlying168 b n (seenF vs) rfl HH.out.map (by simp only [maxLen]; omega) s (.bool true) rfl hs rfl ?_; intro w1 hm1 hg1; have hv1 : Bk w1 gv 30 [.slice A vs.length c] := Bk.fr HH.out.vars (grown_fr hg1) (fun e => by injection e with e; exact HH.out.map.ne HH.out.vars e.symm); have a0 := hv1.cell (i := 0) (by simp); simp only [List.getElem_cons_zero] at a0; have HR1 := Lib.hid (own_fr HH.out.row (grown_fr hg1) (fun k hk e => by injection e with e; exact HH.out.map.ne_own HH.out.row hk e.symm)); have HM1 := Lib.hid hm1; have HG1 := Lib.hid hg1; have HV1 := Lib.hid hv1; have hsz1 : base ≤ w1.heap.size := Nat.le_trans hbase hg1.size; clear hm1 hg1 hv1)
    | (at_builtin; refine wpList_append_at rfl _ _ 30 rfl base 9 i0 (.string ⟨#[]⟩) 1 16 Tryz.underlying30 HI0.out.1 HI0.out.2.1 HI0.out.2.2.1 HI0.out.2.2.2 rfl (by omega) _ vs.length (vs.map Sv) rfl (HR1.out.alloc _) ⟨w1.heap.size, 0, none⟩ 1 1 [.string s] rfl rfl (laid_news w1 _ _) (by simp [Value.oneCell']) (by simp only [maxLen]; omega) (by omega) (by simp; omega) ?_; intro v9 w9 hr9 hg9 hl9; obtain ⟨A9, c9, rfl⟩ := own_slice hr9; have hv9 : Bk w9 gv 30 [.slice A vs.length c] := Bk.fr (HV1.out.alloc _) (grown_fr hg9) (fun e => own_bk HR1.out HV1.out (by decide) e rfl); have b0 := hv9.cell (i := 0) (by simp); have f0 := hv9.free 0; simp only [List.getElem_cons_zero] at b0; have HR9 := Lib.hid hr9; have HG9 := Lib.hid hg9; have HL9 := Lib.hid hl9; have HV9 := Lib.hid hv9; clear hr9 hg9 hl9 hv9))
  refine bodyPost_end (results_none rfl _ _ _) rfl ⟨.slice A9 (vs.length + 1) c9, rfl, ?_, ?_, ?_⟩
  · have hgb : gv ≠ b := HH.out.map.ne HH.out.vars
    have hsb : gs ≠ b := HH.out.map.ne HH.out.seen
    have hgs : gs ≠ gv := HH.out.seen.ne (o := [Value.slice A vs.length c].toArray) HH.out.vars (by decide)
    have hob : ∀ k, (Value.slice A vs.length c).ownBlock = some k → k ≠ b ∧ k ≠ gs := fun k hk => ⟨HH.out.map.ne_own HH.out.row hk, own_bk HH.out.row HH.out.seen (by decide) hk⟩
    have hset : Fr (fun k => k = gv) w9 (w9.setCell ⟨gv, 0, none⟩ (.slice A9 (vs.length + 1) c9)) := Fr.setCell (S := fun k => k = gv) (Fr.refl _ w9) (p := ⟨gv, 0, none⟩) (.inl rfl) _
    have e : addV vs s = vs ++ [s] := by rw [addV, if_neg ho.out]
    rw [e]
    refine ⟨?_, ?_, ?_, ?_⟩
    · rw [← seenF_add ho.out]
      exact ((((HM1.out).ext ((Ext.refl w1).alloc _)).fr (grown_fr HG9.out) (fun e => (hob b e).1 rfl))).fr hset (fun e => hgb e.symm)
    · exact ((((HH.out.seen.fr (grown_fr HG1.out) (fun e => by injection e with e; exact hsb e.symm)).alloc _).fr (grown_fr HG9.out) (fun e => (hob gs e).2 rfl))).fr hset hgs
    · exact HV9.out.set 0 _
    · rw [List.length_append, List.map_append]
      exact own_fr HR9.out hset (fun k hk e => by subst e; exact own_bk HR9.out HV9.out (by decide) hk rfl)
  · exact Fr.setCell (Fr.comp (((grown_fr HG1.out).mono (T := fun k => k = b ∨ k = gv ∨ (Value.slice A vs.length c).ownBlock = some k) (fun k _ e => .inl (by injection e with e; exact e.symm))).ext ((Ext.refl w1).alloc _)) (grown_fr HG9.out) (fun k hk => .inl (.inr (.inr hk)))) (.inl (.inr (.inl rfl))) _
  · rcases HL9.out with h | h
    · exact .inl h
    · right; intro k hk; rw [h] at hk; injection hk with hk; subst hk; have := HG1.out.size; simp; omega
theorem add_any {w : World} {base b gs gv n : Nat} {vv : Value} {vs : List ByteArray} {s : ByteArray} (h : VarB w base b gs gv n vv vs) (hbase : base ≤ w.heap.size) (hn : n ≤ 2097152) (hl : vs.length ≤ 1048576) (hs : s.size ≤ maxLen) :
    Calls Tryz.prog 62 #[.string s, .pointer (some ⟨gs, 0, none⟩), .pointer (some ⟨gv, 0, none⟩)] w (AddPost base b gs gv n vv vs s w) := by
  by_cases ho : s = ⟨#[]⟩ ∨ s ∈ vs
  · refine (add_old h hs (Lib.hid ho)).mono ?_
    rintro e w' ⟨rfl, rfl⟩
    exact ⟨vv, rfl, by rw [addV, if_pos ho]; exact ⟨h.map.mono (by omega), h.seen, h.vars, h.row⟩, Fr.refl _ _, .inl rfl⟩
  · exact add_new h hbase hn hl hs (Lib.hid ho)
def varsT (l : List Tm) : List ByteArray := l.foldl (fun vs t => addV vs t.var) []
theorem varsT_snoc (l : List Tm) (t : Tm) : varsT (l ++ [t]) = addV (varsT l) t.var := by simp [varsT]
theorem addV_length (vs : List ByteArray) (s : ByteArray) : (addV vs s).length ≤ vs.length + 1 := by unfold addV; split <;> simp
theorem foldV_length : ∀ (l : List Tm) (vs : List ByteArray), (l.foldl (fun vs t => addV vs t.var) vs).length ≤ vs.length + l.length
  | [], _ => by simp
  | t :: l, vs => by have := foldV_length l (addV vs t.var); have := addV_length vs t.var; simp at *; omega
theorem varsT_length (l : List Tm) : (varsT l).length ≤ l.length := by have := foldV_length l []; simpa [varsT] using this
/-- After the terms l. -/
structure VaI (w wr : World) (b gs gv n : Nat) (vv : Value) (l : List Tm) (bx : List Value) : Prop where
  vb : VarB wr w.heap.size b gs gv n vv (varsT l)
  ext : Ext w wr
  box : Bk wr w.heap.size 73 bx
  cnt : n ≤ 1 + l.length
theorem VaI.fore {w wr w' : World} {b gs gv n : Nat} {vv : Value} {l : List Tm} {bx : List Value} (h : VaI w wr b gs gv n vv l bx) (he : Ext wr w') : VaI w w' b gs gv n vv l bx := ⟨h.vb.ext he, h.ext.trans he, h.box.ext he, h.cnt⟩
theorem VaI.step {w wr w1 w2 : World} {b gs gv n : Nat} {vv : Value} {l : List Tm} {bx : List Value} {t : Tm} {e : Ending} (h : VaI w wr b gs gv n vv l bx) (hb : w.heap.size ≤ b) (hg : w.heap.size < gv) (he : Ext wr w1) (hp : AddPost w.heap.size b gs gv n vv (varsT l) t.var w1 e w2) :
    ∃ vv', VaI w w2 b gs gv (n + 1) vv' (l ++ [t]) bx := by
  obtain ⟨vv', -, h1, h2, h3⟩ := hp
  have hr := (h.fore he).vb.row
  refine ⟨vv', ?_, ?_, ?_, by have := h.cnt; simp; omega⟩
  · rw [varsT_snoc]; exact h1
  · exact Fr.new (h.ext.trans he) h2 (fun k hk => by
      rcases hk with hk | hk | hk
      · omega
      · omega
      · exact (hr.lt k hk).1)
  · refine (h.box.ext he).fr h2 (fun hk => ?_)
    rcases hk with hk | hk | hk
    · exact (h.fore he).vb.map.ne (h.box.ext he) hk
    · omega
    · exact own_bk hr (h.box.ext he) (by decide) hk rfl
/-- A slice of names. -/
def Strs (F : Nat → Prop) (w : World) (v : Value) (l : List ByteArray) : Prop := ∃ A c, v = .slice A l.length c ∧ l.length ≤ c ∧ Cl F w A (l.map Sv)
theorem own_ge {w : World} {b s n k : Nat} {e : TypeId} {v : Value} {xs : List Value} (h : w.ownsRow b e s v n xs) (hk : v.ownBlock = some k) : b ≤ k := by
  rcases h.2 with ⟨rfl, rfl⟩ | ⟨g, cap, cur, rfl, hb, -⟩
  · simp [Value.ownBlock] at hk
  · simp [Value.ownBlock] at hk; omega
theorem foldV_mem {s : ByteArray} : ∀ (l : List Tm) (vs : List ByteArray), s ∈ l.foldl (fun vs t => addV vs t.var) vs ↔ s ∈ vs ∨ ∃ t ∈ l, t.var = s ∧ s ≠ ⟨#[]⟩
  | [], vs => by simp
  | t :: l, vs => by
    rw [List.foldl_cons, foldV_mem l (addV vs t.var)]
    have hA : s ∈ addV vs t.var ↔ s ∈ vs ∨ (t.var = s ∧ s ≠ ⟨#[]⟩) := by
      unfold addV
      by_cases e : t.var = ⟨#[]⟩ ∨ t.var ∈ vs
      · rw [if_pos e]
        constructor
        · exact .inl
        · rintro (h | ⟨h1, h2⟩)
          · exact h
          · rcases e with e | e
            · exact absurd (h1.symm.trans e) h2
            · rwa [h1] at e
      · rw [if_neg e, List.mem_append, List.mem_singleton]
        constructor
        · rintro (h | h)
          · exact .inl h
          · exact .inr ⟨h.symm, fun e2 => e (.inl (h.symm.trans e2))⟩
        · rintro (h | ⟨h1, _⟩)
          · exact .inl h
          · exact .inr h1.symm
    rw [hA]
    clear hA
    constructor
    · rintro ((h | h) | ⟨u, hu, h⟩)
      · exact .inl h
      · exact .inr ⟨t, by simp, h⟩
      · exact .inr ⟨u, by simp [hu], h⟩
    · rintro (h | ⟨u, hu, h⟩)
      · exact .inl (.inl h)
      · rcases List.mem_cons.1 hu with rfl | hu
        · exact .inl (.inr h)
        · exact .inr ⟨u, hu, h⟩
theorem varsT_iff {l : List Tm} {s : ByteArray} : s ∈ varsT l ↔ ∃ t ∈ l, t.var = s ∧ s ≠ ⟨#[]⟩ := by
  unfold varsT; rw [foldV_mem]; simp
theorem allT_iff {xs : List At} {t : Tm} : t ∈ allT xs ↔ ∃ a ∈ xs, t ∈ a.terms := by unfold allT; simp
theorem Strs.ext {F : Nat → Prop} {w w' : World} {v : Value} {l : List ByteArray} (h : Strs F w v l) (he : Ext w w') : Strs F w' v l := let ⟨A, c, h1, h2, h3⟩ := h; ⟨A, c, h1, h2, h3.ext he⟩
theorem Strs.fr {S F : Nat → Prop} {w w' : World} {v : Value} {l : List ByteArray} (h : Strs F w v l) (hf : Fr S w w') (hs : ∀ k, F k → ¬ S k) : Strs F w' v l := let ⟨A, c, h1, h2, h3⟩ := h; ⟨A, c, h1, h2, h3.fr hf hs⟩
theorem Strs.mono {F G : Nat → Prop} {w : World} {v : Value} {l : List ByteArray} (h : Strs F w v l) (hs : ∀ k, k < w.heap.size → F k → G k) : Strs G w v l := let ⟨A, c, h1, h2, h3⟩ := h; ⟨A, c, h1, h2, h3.mono hs⟩
theorem step_append_at {P : Program} {w : World} {ops : Array Oper} {o : Oper} {a : Act} {K : Act → World → Prop} {Q : Exit → Act → World → Prop} {E : Prop} (hgd : o.guard = none) (s y : Operand) (t : TypeId)
    (ho : o.op = .call { callee := .builtin .append, args := #[s, y], argTypes := #[t, t] })
    (base : Nat) (e : TypeId) (i : TypeInfo) (z : Value) (size bytes : Nat) (ht : P.underlying t = some (.slice e)) (hi : P.info? e = some i) (hz : i.zero = some z) (hsize : i.size = size) (hby : i.bytes = bytes) (hzs : z.cells.size = size) (hsz : 0 < size)
    (v : Value) (n : Nat) (xs : List Value) (hs : a.eval s = v) (hown : w.ownsRow base e size v n xs) (ad : Addr) (m c : Nat) (news : List Value) (hx : a.eval y = .slice (some ad) m c) (hl : news.length = m * size) (hnews : ∀ j u, news[j]? = some u → w.cell? (ad.add j) = some u) (h1 : ∀ u ∈ news, u.oneCell' = true)
    (h63 : n + m ≤ maxLen) (hbytes : (n + m) * bytes ≤ 140737488355328) (hbase : base ≤ w.heap.size)
    (h : ∀ v' w', w'.ownsRow base e size v' (n + m) (xs ++ news) → w.grownBy w' v.ownBlock → Lands w v v' → K (a.put o.dst v') w') :
    if Region.wanted o (yielded ops a.tmps) = true then Oper.wp P o a w K Q else E := by
  have hw : Region.wanted o (yielded ops a.tmps) = true := by simp [Region.wanted, hgd]
  rw [if_pos hw]
  obtain ⟨v', w', hr, h2, h3, h4⟩ := run_append_at (P := P) w base t o.type e i z size bytes ht hi hz hsize hby hzs hsz v n xs hown ad m c news hl hnews h1 h63 hbytes hbase
  unfold Oper.wp execOp
  simp only [ho, resolve, invoke, builtin, Sem.run_bind, Sem.run_pure, Result.andThen_ok, List.map_toArray, List.map_cons, List.map_nil, hs, hx, hr]
  exact h v' w' h2 h3 h4
theorem grown_refl (w : World) (row : Option Nat) : w.grownBy w row := ⟨rfl, rfl, rfl, Nat.le_refl _, fun _ _ _ => rfl⟩
theorem run_append_opt {P : Program} (w : World) (base : Nat) (t ty e : TypeId) (i : TypeInfo) (z : Value) (size bytes : Nat) (ht : P.underlying t = some (.slice e)) (hi : P.info? e = some i) (hz : i.zero = some z)
    (hsize : i.size = size) (hby : i.bytes = bytes) (hzs : z.cells.size = size) (hsz : 0 < size)
    (v : Value) (n : Nat) (xs : List Value) (hown : w.ownsRow base e size v n xs)
    (A : Option Addr) (m c : Nat) (news : List Value) (hl : news.length = m * size) (hnews : ∀ j u, news[j]? = some u → ∃ ad, A = some ad ∧ w.cell? (ad.add j) = some u) (h1 : ∀ u ∈ news, u.oneCell' = true)
    (h63 : n + m ≤ maxLen) (hbytes : (n + m) * bytes ≤ 140737488355328) (hbase : base ≤ w.heap.size) :
    ∃ v' w', (Builtin.append_ #[t, t] ty #[v, .slice A m c]).run P w = .ok v' w' ∧ w'.ownsRow base e size v' (n + m) (xs ++ news) ∧ w.grownBy w' v.ownBlock ∧ Lands w v v' := by
  rcases A with _ | a
  · have hnil : news = [] := by
      cases news with
      | nil => rfl
      | cons u l => obtain ⟨ad, e, _⟩ := hnews 0 u rfl; cases e
    subst hnil
    obtain rfl : m = 0 := by
      rcases Nat.eq_zero_or_pos m with h | h
      · exact h
      · have := Nat.mul_pos h hsz; simp at hl; omega
    refine ⟨v, w, ?_, by simpa using hown, grown_refl _ _, .inl rfl⟩
    subst hsize
    rcases hown.2 with ⟨rfl, rfl⟩ | ⟨g, cap, cur, rfl, hbg, hg, hnc, hcm, hcs, htake⟩
    · exact run_append_nothing w t t ty e i ht hi none 0 0 (Nat.le_refl _) _ (Src.ofNil (w := w) ht c)
    · exact run_append_nothing w t t ty e i ht hi _ n cap hnc _ (Src.ofNil (w := w) ht c)
  · exact run_append_at w base t ty e i z size bytes ht hi hz hsize hby hzs hsz v n xs hown a m c news hl (fun j u hu => by obtain ⟨ad, e, h⟩ := hnews j u hu; injection e with e; rw [e]; exact h) h1 h63 hbytes hbase
theorem wpList_append_opt {P : Program} {w : World} {ops : Array Oper} {rest : List Oper} {o : Oper} {a : Act} {Q : Exit → Act → World → Prop} (hgd : o.guard = none) (s y : Operand) (t : TypeId)
    (ho : o.op = .call { callee := .builtin .append, args := #[s, y], argTypes := #[t, t] })
    (base : Nat) (e : TypeId) (i : TypeInfo) (z : Value) (size bytes : Nat) (ht : P.underlying t = some (.slice e)) (hi : P.info? e = some i) (hz : i.zero = some z) (hsize : i.size = size) (hby : i.bytes = bytes) (hzs : z.cells.size = size) (hsz : 0 < size)
    (v : Value) (n : Nat) (xs : List Value) (hs : a.eval s = v) (hown : w.ownsRow base e size v n xs) (A : Option Addr) (m c : Nat) (news : List Value) (hx : a.eval y = .slice A m c) (hl : news.length = m * size) (hnews : ∀ j u, news[j]? = some u → ∃ ad, A = some ad ∧ w.cell? (ad.add j) = some u) (h1 : ∀ u ∈ news, u.oneCell' = true)
    (h63 : n + m ≤ maxLen) (hbytes : (n + m) * bytes ≤ 140737488355328) (hbase : base ≤ w.heap.size)
    (h : ∀ v' w', w'.ownsRow base e size v' (n + m) (xs ++ news) → w.grownBy w' v.ownBlock → Lands w v v' → wpList P ops Q rest (a.put o.dst v') w') : wpList P ops Q (o :: rest) a w :=
  wpList_plain hgd fun K hK => by
    obtain ⟨v', w', hr, h2, h3, h4⟩ := run_append_opt (P := P) w base t o.type e i z size bytes ht hi hz hsize hby hzs hsz v n xs hown A m c news hl hnews h1 h63 hbytes hbase
    unfold Oper.wp execOp
    simp only [ho, resolve, invoke, builtin, Sem.run_bind, Sem.run_pure, Result.andThen_ok, List.map_toArray, List.map_cons, List.map_nil, hs, hx, hr]
    exact hK _ _ (h v' w' h2 h3 h4)
/-- Cells in a row, as the news of an append. -/
theorem Cl.news {F : Nat → Prop} {w : World} {A : Option Addr} {xs : List Value} (h : Cl F w A xs) : ∀ j u, xs[j]? = some u → ∃ ad, A = some ad ∧ w.cell? (ad.add j) = some u := fun j u hu => by
  obtain ⟨ad, h1, _, h3⟩ := h.at' hu
  exact ⟨ad, h1, h3⟩
theorem Strs.of_own {w : World} {base n : Nat} {e : TypeId} {v : Value} {l : List ByteArray} (h : w.ownsRow base e 1 v n (l.map Sv)) : Strs (fun k => v.ownBlock = some k ∧ base ≤ k) w v l := by
  have hn : n = l.length := by have := h.1; simp at this; omega
  subst hn
  obtain ⟨A, c, rfl, hc, hcl⟩ := Cl.of_own h
  exact ⟨A, c, rfl, by simpa using hc, hcl⟩
theorem own_ext' {w w' : World} {base size n : Nat} {e : TypeId} {v : Value} {xs : List Value} (h : w.ownsRow base e size v n xs) (he : Ext w w') : w'.ownsRow base e size v n xs := own_fr h (he.fr (fun _ => False)) (fun _ _ h => h)
/-- Atom i of a slice in a known place. -/
theorem Ats.at2 {F : Nat → Prop} {w : World} {A : Option Addr} {n c : Nat} {xs : List At} (h : Ats F w (.slice A n c) xs) : ∀ i (hi : i < xs.length), ∃ ad B d, A = some ad ∧ F ad.block ∧
    w.cell? (ad.add (i * 3)) = some (.bool xs[i].neg) ∧ w.cell? ⟨(ad.add (i * 3)).block, (ad.add (i * 3)).off + 1, none⟩ = some (.string xs[i].rel) ∧ w.cell? ⟨(ad.add (i * 3)).block, (ad.add (i * 3)).off + 2, none⟩ = some (.slice B xs[i].terms.length d) ∧ xs[i].terms.length ≤ d ∧ Cl F w B (tcells xs[i].terms) := by
  obtain ⟨A', c', e, -, hh⟩ := h.at'
  injection e with e1 e2 e3
  subst e1
  exact hh
theorem Cl.str {F : Nat → Prop} {w : World} {A : Option Addr} {l : List ByteArray} (h : Cl F w A (l.map Sv)) {i : Nat} (hi : i < l.length) : ∃ ad, A = some ad ∧ F ad.block ∧ w.cell? (ad.add i) = some (.string l[i]) := h.at' (by simp [hi])
theorem Ats.sl {F : Nat → Prop} {w : World} {v : Value} {xs : List At} (h : Ats F w v xs) : ∃ A c, v = .slice A xs.length c := let ⟨A, c, _, e, _⟩ := h; ⟨A, c, e⟩
theorem MapV.look {w : World} {b n : Nat} {f : ByteArray → Option Value} (h : MapV w b n f) {t e : TypeId} (ht : Tryz.prog.underlying t = some (.map 9 e)) {z : Value} (hz : (zeroValue e).run Tryz.prog w = .ok z w) {s : ByteArray} (hs : s.size ≤ maxLen) {u : Value} (hu : (f s).getD z = u) : (Instr.lookup t (.map (some b)) (.string s) false).run Tryz.prog w = .ok u w := by
  obtain ⟨D, hD, -, hat, -⟩ := h
  obtain ⟨v, ps, hrun, hv⟩ := hD.lookup law_str ht hz (zd := .held z) (zp := []) rfl (keyOf_str s hs)
  have hvu : v = u := by
    have h1 := hat s (.held z)
    rw [h1] at hv
    rcases hf : f s with _ | y
    · rw [hf] at hv hu; simp at hv hu; rw [hv.1, hu]
    · rw [hf] at hv hu; simp at hv hu; rw [hv.1, hu]
  subst hvu
  exact hrun
end Go.Proofs.YtmmmdinncmbjkaaGreat
