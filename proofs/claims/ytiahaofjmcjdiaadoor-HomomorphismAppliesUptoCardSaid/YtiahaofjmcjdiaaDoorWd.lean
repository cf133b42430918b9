/- Words for memory, for any program: a world that only grew, or turned in some blocks; a block known whole; cells in a row. -/
import Derived.Test.YtiahaofjmcjdiaaDoorProg
import Derived.WalkKit
import Derived.WalkSpells
import Derived.WalkLawsBesides
import Derived.Deep.QuietTactic
import Derived.BigQuiet
import Derived.Lib.Hide
import Derived.KernelRfl
namespace Go.Proofs.YtiahaofjmcjdiaaDoor
open Go.RowKit

/-- Only blocks of S, and what is new, may have turned. -/
structure Fr (S : Nat → Prop) (w w' : World) : Prop where
  os : w'.os = w.os
  tape : w'.tape = w.tape
  output : w'.output = w.output
  size : w.heap.size ≤ w'.heap.size
  block : ∀ k, k < w.heap.size → ¬ S k → w'.heap[k]? = w.heap[k]?
/-- All that was there is as it was; there may be more. -/
def Ext (w w' : World) : Prop := Below w.heap.size w w'
theorem Ext.refl (w : World) : Ext w w := Below.refl _ _
theorem Ext.size {w w' : World} (h : Ext w w') : w.heap.size ≤ w'.heap.size := Below.size h
theorem Ext.trans {a b c : World} (h : Ext a b) (k : Ext b c) : Ext a c := Below.trans h (Below.mono k h.size)
theorem Ext.drew {a w : World} (h : Ext a w) : Ext a w.drew := Below.drew h
theorem Ext.drewN {a w : World} (h : Ext a w) (n : Nat) : Ext a (w.drewN n) := ⟨h.os, h.tape, h.output, h.size, h.block⟩
theorem Ext.alloc {a w : World} (h : Ext a w) (o : Obj) : Ext a (w.alloc o) := Below.alloc h h.size o
theorem Ext.setCell {a w : World} (h : Ext a w) {p : Addr} (hp : a.heap.size ≤ p.block) (u : Value) : Ext a (w.setCell p u) := Below.setCell h hp u
theorem Ext.heap {w w' : World} (h : Ext w w') {k : Nat} (hk : k < w.heap.size) : w'.heap[k]? = w.heap[k]? := Below.block h k hk
theorem Ext.fr {w w' : World} (h : Ext w w') (S : Nat → Prop) : Fr S w w' := ⟨h.os, h.tape, h.output, h.size, fun _ hk _ => h.heap hk⟩

theorem Fr.refl (S : Nat → Prop) (w : World) : Fr S w w := (Ext.refl w).fr S
theorem Fr.mono {S T : Nat → Prop} {w w' : World} (h : Fr S w w') (hs : ∀ k, k < w.heap.size → S k → T k) : Fr T w w' := ⟨h.os, h.tape, h.output, h.size, fun k hk hn => h.block k hk (fun e => hn (hs k hk e))⟩
theorem Fr.trans {S : Nat → Prop} {a b c : World} (h : Fr S a b) (k : Fr S b c) : Fr S a c :=
  ⟨k.os.trans h.os, k.tape.trans h.tape, k.output.trans h.output, Nat.le_trans h.size k.size, fun i hi hn => (k.block i (Nat.lt_of_lt_of_le hi h.size) hn).trans (h.block i hi hn)⟩
theorem Fr.comp {S T : Nat → Prop} {a b c : World} (h : Fr S a b) (k : Fr T b c) (hs : ∀ k, T k → S k ∨ a.heap.size ≤ k) : Fr S a c :=
  ⟨k.os.trans h.os, k.tape.trans h.tape, k.output.trans h.output, Nat.le_trans h.size k.size, fun i hi hn => (k.block i (Nat.lt_of_lt_of_le hi h.size) (fun e => by rcases hs i e with h1 | h1; exact hn h1; omega)).trans (h.block i hi hn)⟩
theorem Fr.ext {S : Nat → Prop} {a b c : World} (h : Fr S a b) (k : Ext b c) : Fr S a c := h.trans (k.fr S)
/-- Where all that turned is new, seen from a. -/
theorem Fr.new {S : Nat → Prop} {a w w' : World} (ha : Ext a w) (h : Fr S w w') (hS : ∀ k, S k → a.heap.size ≤ k) : Ext a w' :=
  ⟨h.os.trans ha.os, h.tape.trans ha.tape, h.output.trans ha.output, Nat.le_trans ha.size h.size,
    fun k hk => (h.block k (Nat.lt_of_lt_of_le hk ha.size) (fun e => by have := hS k e; omega)).trans (ha.heap hk)⟩
theorem Fr.grown {S : Nat → Prop} {a w w' : World} {row : Option Nat} (h : Fr S a w) (hg : w.grownBy w' row) (hr : ∀ k, row = some k → S k ∨ a.heap.size ≤ k) : Fr S a w' :=
  ⟨hg.os.trans h.os, hg.tape.trans h.tape, hg.output.trans h.output, Nat.le_trans h.size hg.size, fun k hk hn =>
    (hg.block k (Nat.lt_of_lt_of_le hk h.size) (fun e => by rcases hr k e.symm with h1 | h1; exact hn h1; omega)).trans (h.block k hk hn)⟩
theorem Fr.setCell {S : Nat → Prop} {a w : World} (h : Fr S a w) {p : Addr} (hp : S p.block ∨ a.heap.size ≤ p.block) (u : Value) : Fr S a (w.setCell p u) :=
  ⟨h.os, h.tape, h.output, by simpa [World.setCell] using h.size, fun i hi hn => (Below.heap_setCell w p u i (by
    rintro rfl
    rcases hp with e | e
    · exact hn e
    · omega)).trans (h.block i hi hn)⟩
theorem Ext.grown {a w w' : World} {row : Option Nat} (h : Ext a w) (hg : w.grownBy w' row) (hr : ∀ k, row = some k → a.heap.size ≤ k) : Ext a w' := Below.grown h hg h.size hr
theorem grown_fr {w w' : World} {row : Option Nat} (hg : w.grownBy w' row) : Fr (fun k => row = some k) w w' := ⟨hg.os, hg.tape, hg.output, hg.size, fun k hk hn => hg.block k hk (fun e => hn e.symm)⟩

theorem cell_lt {w : World} {p : Addr} {v : Value} (h : w.cell? p = some v) : p.block < w.heap.size := by
  rcases Nat.lt_or_ge p.block w.heap.size with hlt | hge
  · exact hlt
  · simp [World.cell?, Array.getElem?_eq_none hge] at h
theorem Ext.cell {w w' : World} (h : Ext w w') {p : Addr} {v : Value} (hc : w.cell? p = some v) : w'.cell? p = some v := (Below.cell h (cell_lt hc)).trans hc
theorem Fr.cell {S : Nat → Prop} {w w' : World} (h : Fr S w w') {p : Addr} {v : Value} (hc : w.cell? p = some v) (hp : ¬ S p.block) : w'.cell? p = some v :=
  (World.cell?_of_block (h.block _ (cell_lt hc) hp)).trans hc
theorem block_add (a : Addr) (n : Nat) : (a.add n).block = a.block := by unfold Addr.add; split <;> rfl
theorem add_add (a : Addr) (i j : Nat) : (a.add i).add j = a.add (i + j) := by
  unfold Addr.add
  by_cases hi : i = 0 <;> by_cases hj : j = 0 <;> simp [hi, hj, Nat.add_assoc]
theorem add_zero (a : Addr) : a.add 0 = a := by simp [Addr.add]
theorem add_own (g i : Nat) : (⟨g, 0, none⟩ : Addr).add i = ⟨g, i, none⟩ := by rcases i with _ | i <;> simp [Addr.add]

/-- Block g is just the cells xs, none frozen. -/
def Bk (w : World) (g : Nat) (t : TypeId) (xs : List Value) : Prop := w.heap[g]? = some (.cells xs.toArray t (0, 0))
theorem Bk.lt {w : World} {g : Nat} {t : TypeId} {xs : List Value} (h : Bk w g t xs) : g < w.heap.size := by
  rcases Nat.lt_or_ge g w.heap.size with h1 | h1
  · exact h1
  · unfold Bk at h; rw [Array.getElem?_eq_none h1] at h; cases h
theorem Bk.cell {w : World} {g : Nat} {t : TypeId} {xs : List Value} (h : Bk w g t xs) {i : Nat} (hi : i < xs.length) : w.cell? ⟨g, i, none⟩ = some xs[i] := by
  unfold Bk at h; simp [World.cell?, h, hi]
theorem Bk.free {w : World} {g : Nat} {t : TypeId} {xs : List Value} (h : Bk w g t xs) (i : Nat) : w.frozen? ⟨g, i, none⟩ = false := by
  unfold Bk at h; simp [World.frozen?, h]
theorem Bk.set {w : World} {g : Nat} {t : TypeId} {xs : List Value} (h : Bk w g t xs) (i : Nat) (u : Value) : Bk (w.setCell ⟨g, i, none⟩ u) g t (xs.set i u) := by
  unfold Bk at h ⊢; simp [World.setCell, Array.getElem?_modify, h]
theorem Bk.far {w : World} {g : Nat} {t : TypeId} {xs : List Value} (h : Bk w g t xs) {p : Addr} (hp : g ≠ p.block) (u : Value) : Bk (w.setCell p u) g t xs :=
  (Below.heap_setCell w p u g hp).trans h
theorem Bk.ext {w w' : World} {g : Nat} {t : TypeId} {xs : List Value} (h : Bk w g t xs) (he : Ext w w') : Bk w' g t xs := (he.heap h.lt).trans h
theorem Bk.fr {S : Nat → Prop} {w w' : World} {g : Nat} {t : TypeId} {xs : List Value} (h : Bk w g t xs) (hf : Fr S w w') (hg : ¬ S g) : Bk w' g t xs := (hf.block g h.lt hg).trans h
theorem Bk.alloc {w : World} {g : Nat} {t : TypeId} {xs : List Value} (h : Bk w g t xs) (o : Obj) : Bk (w.alloc o) g t xs := h.ext ((Ext.refl w).alloc o)
theorem Bk.new (w : World) (t : TypeId) (xs : List Value) : Bk (w.alloc (.cells xs.toArray t)) w.heap.size t xs := by
  show (w.heap.push _)[w.heap.size]? = _
  simp
theorem Bk.ne {w : World} {g h : Nat} {t u : TypeId} {xs : List Value} {o : Array Value} (hb : Bk w g t xs) (hc : w.heap[h]? = some (.cells o u (0, 0))) (htu : t ≠ u) : g ≠ h := fun e => by
  subst e
  have := hb.symm.trans hc
  injection this with this; injection this with _ this; exact htu this

/-- A returned value, and old memory as it was. -/
def Ret (S : Value → World → Prop) (w : World) (e : Ending) (w' : World) : Prop := ∃ v, e = .returned v ∧ Ext w w' ∧ S v w'
theorem Ret.mk {S : Value → World → Prop} {w w' : World} {v : Value} (he : Ext w w') (hs : S v w') : Ret S w (.returned v) w' := ⟨v, rfl, he, hs⟩

/-- Cells in a row, from an address that lies in F (if there are any). -/
def Cl (F : Nat → Prop) (w : World) (A : Option Addr) (xs : List Value) : Prop :=
  xs = [] ∨ ∃ ad, A = some ad ∧ F ad.block ∧ ∀ j (h : j < xs.length), w.cell? (ad.add j) = some xs[j]
theorem Cl.ext {F : Nat → Prop} {w w' : World} {A : Option Addr} {xs : List Value} (h : Cl F w A xs) (he : Ext w w') : Cl F w' A xs := by
  rcases h with h | ⟨ad, h1, h2, h3⟩
  · exact .inl h
  · exact .inr ⟨ad, h1, h2, fun j hj => he.cell (h3 j hj)⟩
theorem Cl.fr {S F : Nat → Prop} {w w' : World} {A : Option Addr} {xs : List Value} (h : Cl F w A xs) (hf : Fr S w w') (hs : ∀ k, F k → ¬ S k) : Cl F w' A xs := by
  rcases h with h | ⟨ad, h1, h2, h3⟩
  · exact .inl h
  · exact .inr ⟨ad, h1, h2, fun j hj => hf.cell (h3 j hj) (by rw [block_add]; exact hs _ h2)⟩
theorem Cl.mono {F G : Nat → Prop} {w : World} {A : Option Addr} {xs : List Value} (h : Cl F w A xs) (hs : ∀ k, k < w.heap.size → F k → G k) : Cl G w A xs := by
  rcases h with h | ⟨ad, h1, h2, h3⟩
  · exact .inl h
  · rcases xs with _ | ⟨x, xs⟩
    · exact .inl rfl
    · refine .inr ⟨ad, h1, hs _ ?_ h2, h3⟩
      have := cell_lt (h3 0 (by simp))
      rwa [block_add] at this
theorem Cl.at' {F : Nat → Prop} {w : World} {A : Option Addr} {xs : List Value} (h : Cl F w A xs) {j : Nat} {x : Value} (hj : xs[j]? = some x) : ∃ ad, A = some ad ∧ F ad.block ∧ w.cell? (ad.add j) = some x := by
  rcases h with rfl | ⟨ad, h1, h2, h3⟩
  · simp at hj
  · obtain ⟨hl, e⟩ := List.getElem?_eq_some_iff.1 hj
    exact ⟨ad, h1, h2, by rw [h3 j hl, e]⟩
theorem Cl.of_own {w : World} {base size n : Nat} {e : TypeId} {v : Value} {xs : List Value} (h : w.ownsRow base e size v n xs) : ∃ A c, v = .slice A n c ∧ n ≤ c ∧ Cl (fun k => v.ownBlock = some k ∧ base ≤ k) w A xs := by
  obtain ⟨hl, h⟩ := h
  rcases h with ⟨rfl, rfl⟩ | ⟨g, cap, cur, rfl, hb, hc, hn, hm, hs, hx⟩
  · exact ⟨none, 0, rfl, Nat.le_refl _, .inl (by simpa using hl)⟩
  · refine ⟨_, _, rfl, hn, .inr ⟨_, rfl, ⟨rfl, hb⟩, fun j hj => ?_⟩⟩
    subst hx
    rw [add_own]
    have hj2 : j < cur.size := by simp at hj; omega
    simp [World.cell?, hc, hj2]
theorem own_slice {w : World} {base size n : Nat} {e : TypeId} {v : Value} {xs : List Value} (h : w.ownsRow base e size v n xs) : ∃ A c, v = .slice A n c := by
  obtain ⟨A, c, h, _⟩ := Cl.of_own h; exact ⟨A, c, h⟩
end Go.Proofs.YtiahaofjmcjdiaaDoor
