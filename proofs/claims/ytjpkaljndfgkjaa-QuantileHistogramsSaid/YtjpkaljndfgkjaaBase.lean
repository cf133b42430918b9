/- Words for memory: a world that only grew; a slice of words that reads as digits. -/
import Derived.Test.YtjpkaljndfgkjaaProg
import Derived.Test.YtjpkaljndfgkjaaMath
import Derived.WalkKit
import Derived.WalkSpells
import Derived.WalkLawsBesides
import Derived.Deep.QuietTactic
import Derived.BigQuiet
import Derived.Lib.Hide
import Derived.KernelRfl
namespace Go.Proofs.Ytjpkaljndfgkjaa
open Go.RowKit

/-- All that was there is as it was; there may be more. -/
def Ext (w w' : World) : Prop := Below w.heap.size w w'

theorem Ext.refl (w : World) : Ext w w := Below.refl _ _
theorem Ext.size {w w' : World} (h : Ext w w') : w.heap.size ≤ w'.heap.size := Below.size h
theorem Ext.trans {a b c : World} (h : Ext a b) (k : Ext b c) : Ext a c := Below.trans h (Below.mono k h.size)
theorem Ext.drew {a w : World} (h : Ext a w) : Ext a w.drew := Below.drew h
theorem Ext.drewN {a w : World} (h : Ext a w) (n : Nat) : Ext a (w.drewN n) := ⟨h.os, h.tape, h.output, h.size, h.block⟩
theorem Ext.alloc {a w : World} (h : Ext a w) (o : Obj) : Ext a (w.alloc o) := Below.alloc h h.size o
theorem Ext.setCell {a w : World} (h : Ext a w) {p : Addr} (hp : a.heap.size ≤ p.block) (u : Value) : Ext a (w.setCell p u) := Below.setCell h hp u
theorem Ext.below {w w' : World} (h : Ext w w') : Below w.heap.size w w' := h
theorem Ext.heap {w w' : World} (h : Ext w w') {k : Nat} (hk : k < w.heap.size) : w'.heap[k]? = w.heap[k]? := Below.block h k hk

/-- The same world, but for draws. -/
def Qt (w w' : World) : Prop := ∃ n, w' = w.drewN n
theorem Qt.refl (w : World) : Qt w w := ⟨0, rfl⟩
theorem Qt.drewN {a w : World} (h : Qt a w) (n : Nat) : Qt a (w.drewN n) := by obtain ⟨m, rfl⟩ := h; exact ⟨_, World.drewN_drewN _ _ _⟩
theorem Qt.trans {a b c : World} (h : Qt a b) (k : Qt b c) : Qt a c := by obtain ⟨m, rfl⟩ := k; exact h.drewN m
theorem Qt.ext {a w : World} (h : Qt a w) : Ext a w := by obtain ⟨m, rfl⟩ := h; exact (Ext.refl a).drewN m

theorem cell_lt {w : World} {p : Addr} {v : Value} (h : w.cell? p = some v) : p.block < w.heap.size := by
  rcases Nat.lt_or_ge p.block w.heap.size with hlt | hge
  · exact hlt
  · simp [World.cell?, Array.getElem?_eq_none hge] at h

theorem Ext.cell {w w' : World} (h : Ext w w') {p : Addr} {v : Value} (hc : w.cell? p = some v) : w'.cell? p = some v :=
  (Below.cell h (cell_lt hc)).trans hc

theorem block_add (a : Addr) (n : Nat) : (a.add n).block = a.block := by unfold Addr.add; split <;> rfl
theorem add_add (a : Addr) (i j : Nat) : (a.add i).add j = a.add (i + j) := by
  unfold Addr.add
  by_cases hi : i = 0 <;> by_cases hj : j = 0 <;> simp [hi, hj, Nat.add_assoc]
theorem add_zero (a : Addr) : a.add 0 = a := by simp [Addr.add]

/-- A slice value whose cells are xs (one cell each). -/
def Sl (w : World) (v : Value) (xs : List Value) : Prop :=
  ∃ A cap, v = .slice A xs.length cap ∧ xs.length ≤ cap ∧ (0 < xs.length → ∃ ad, A = some ad ∧ ∀ i (h : i < xs.length), w.cell? (ad.add i) = some xs[i])

theorem Sl.ext {w w' : World} {v : Value} {xs : List Value} (h : Sl w v xs) (he : Ext w w') : Sl w' v xs := by
  obtain ⟨A, cap, rfl, hc, hx⟩ := h
  refine ⟨A, cap, rfl, hc, fun h0 => ?_⟩
  obtain ⟨ad, rfl, hy⟩ := hx h0
  exact ⟨ad, rfl, fun i hi => he.cell (hy i hi)⟩

/-- The word for a digit. -/
abbrev U32 (d : Nat) : Value := .int .u32 (d : Int)

/-- A slice of words that holds the digits ds. -/
def Dg (w : World) (v : Value) (ds : List Nat) : Prop := Low ds ∧ ds.length ≤ 35184372088832 ∧ Sl w v (ds.map U32)

theorem Dg.ext {w w' : World} {v : Value} {ds : List Nat} (h : Dg w v ds) (he : Ext w w') : Dg w' v ds := ⟨h.1, h.2.1, h.2.2.ext he⟩
theorem Dg.len {w : World} {v : Value} {ds : List Nat} (h : Dg w v ds) : ds.length ≤ 35184372088832 := h.2.1

/-- The parts that a walk wants. -/
theorem Dg.parts {w : World} {v : Value} {ds : List Nat} (h : Dg w v ds) :
    ∃ A n cap, v = .slice A n cap ∧ n = ds.length ∧ n ≤ cap ∧ n ≤ 35184372088832 ∧ Low ds ∧ ∀ i, i < n → ∃ ad, A = some ad ∧ w.cell? (ad.add i) = some (.int .u32 ((ds.getD i 0 : Nat) : Int)) := by
  obtain ⟨hl, hn, A, cap, rfl, hc, hx⟩ := h
  simp only [List.length_map] at hc hx ⊢
  refine ⟨A, ds.length, cap, rfl, rfl, hc, hn, hl, fun i hi => ?_⟩
  obtain ⟨ad, rfl, hy⟩ := hx (by omega)
  refine ⟨ad, rfl, ?_⟩
  rw [hy i hi]; simp [List.getD, hi]

theorem Dg.of_parts {w : World} {A : Option Addr} {n cap : Nat} {ds : List Nat} (hn : n = ds.length) (hc : n ≤ cap) (hb : n ≤ 35184372088832) (hl : Low ds)
    (hx : ∀ i, i < n → ∃ ad, A = some ad ∧ w.cell? (ad.add i) = some (.int .u32 ((ds.getD i 0 : Nat) : Int))) : Dg w (.slice A n cap) ds := by
  subst hn
  refine ⟨hl, hb, A, cap, by simp, by simpa using hc, fun h0 => ?_⟩
  simp only [List.length_map] at h0 ⊢
  obtain ⟨ad, rfl, _⟩ := hx 0 h0
  refine ⟨ad, rfl, fun i hi => ?_⟩
  obtain ⟨ad', e, h'⟩ := hx i hi
  injection e with e; subst e
  rw [h']; simp [List.getD, hi]

/-- A slice that is the number n, whatever zeros stand at its upper end. -/
def Nv (w : World) (v : Value) (n : Nat) : Prop := ∃ ds, Dg w v ds ∧ val ds = n
/-- A slice that is the number n, without zeros at its upper end. -/
def Nz (w : World) (v : Value) (n : Nat) : Prop := Dg w v (dig n)

theorem Nz.nv {w : World} {v : Value} {n : Nat} (h : Nz w v n) : Nv w v n := ⟨_, h, val_dig n⟩
theorem Nz.ext {w w' : World} {v : Value} {n : Nat} (h : Nz w v n) (he : Ext w w') : Nz w' v n := Dg.ext h he
theorem Nv.ext {w w' : World} {v : Value} {n : Nat} (h : Nv w v n) (he : Ext w w') : Nv w' v n := let ⟨ds, h1, h2⟩ := h; ⟨ds, h1.ext he, h2⟩
theorem Dg.nv {w : World} {v : Value} {ds : List Nat} (h : Dg w v ds) : Nv w v (val ds) := ⟨ds, h, rfl⟩

/-- nil is 0. -/
theorem Nz.nil (w : World) : Nz w (.slice none 0 0) 0 := by
  refine Dg.of_parts (by simp [dig_zero]) (Nat.le_refl _) (by omega) (low_dig 0) (fun i hi => by omega)
theorem Nz.slice {w : World} {v : Value} {n : Nat} (h : Nz w v n) : ∃ A c, v = .slice A (dig n).length c := by
  obtain ⟨A, k, cap, rfl, rfl, _⟩ := Dg.parts h; exact ⟨A, cap, rfl⟩

/-- Block g is just the cells xs, none frozen. -/
def Bk (w : World) (g : Nat) (t : TypeId) (xs : List Value) : Prop := w.heap[g]? = some (.cells xs.toArray t (0, 0))

theorem Bk.lt {w : World} {g : Nat} {t : TypeId} {xs : List Value} (h : Bk w g t xs) : g < w.heap.size := by
  rcases Nat.lt_or_ge g w.heap.size with h1 | h1
  · exact h1
  · unfold Bk at h; rw [Array.getElem?_eq_none h1] at h; cases h
theorem Bk.cell {w : World} {g : Nat} {t : TypeId} {xs : List Value} (h : Bk w g t xs) {i : Nat} (hi : i < xs.length) : w.cell? ⟨g, i, none⟩ = some xs[i] := by
  unfold Bk at h; simp [World.cell?, h, hi]
theorem Bk.cellD {w : World} {g : Nat} {t : TypeId} {xs : List Value} (h : Bk w g t xs) {i : Nat} (hi : i < xs.length) : w.cell? ⟨g, i, none⟩ = some (xs.getD i undef) := by
  rw [h.cell hi]; simp [List.getD, hi]
theorem Bk.free {w : World} {g : Nat} {t : TypeId} {xs : List Value} (h : Bk w g t xs) (i : Nat) : w.frozen? ⟨g, i, none⟩ = false := by
  unfold Bk at h; simp [World.frozen?, h]
theorem Bk.set {w : World} {g : Nat} {t : TypeId} {xs : List Value} (h : Bk w g t xs) (i : Nat) (u : Value) : Bk (w.setCell ⟨g, i, none⟩ u) g t (xs.set i u) := by
  unfold Bk at h ⊢; simp [World.setCell, Array.getElem?_modify, h]
theorem Bk.far {w : World} {g : Nat} {t : TypeId} {xs : List Value} (h : Bk w g t xs) {p : Addr} (hp : g ≠ p.block) (u : Value) : Bk (w.setCell p u) g t xs :=
  (Below.heap_setCell w p u g hp).trans h
theorem Bk.ext {w w' : World} {g : Nat} {t : TypeId} {xs : List Value} (h : Bk w g t xs) (he : Ext w w') : Bk w' g t xs := (he.heap h.lt).trans h
theorem Bk.drew {w : World} {g : Nat} {t : TypeId} {xs : List Value} (h : Bk w g t xs) : Bk w.drew g t xs := h
theorem Bk.drewN {w : World} {g : Nat} {t : TypeId} {xs : List Value} (h : Bk w g t xs) (n : Nat) : Bk (w.drewN n) g t xs := h
theorem Bk.alloc {w : World} {g : Nat} {t : TypeId} {xs : List Value} (h : Bk w g t xs) (o : Obj) : Bk (w.alloc o) g t xs := h.ext ((Ext.refl w).alloc o)
theorem Bk.new (w : World) (t : TypeId) (xs : List Value) : Bk (w.alloc (.cells xs.toArray t)) w.heap.size t xs := by
  show (w.heap.push _)[w.heap.size]? = _
  simp

/-- make of a row of one-cell elements. -/
theorem make_row {P : Program} (t e : TypeId) (z : Value) (b : Nat) (ht : P.underlying t = some (.slice e)) (hi : (P.info? e).map (fun i => (i.zero, i.size, i.bytes)) = some (some z, 1, b)) (hz : z.cells = #[z])
    (n : Nat) (hb : b * n ≤ 281474976710656) (hn : n ≤ 281474976710656) (w : World) :
    (Instr.makeSlice t (.int .i64 (n : Int)) (.int .i64 (n : Int))).run P w = .ok (.slice (some ⟨w.heap.size, 0, none⟩) n n) (w.alloc (.cells (List.replicate n z).toArray e)) := by
  obtain ⟨i, hi, h1, h2, h3⟩ := info_parts hi
  have hr := run_make (P := P) w t e i z ht hi h1 .i64 .i64 n n (by omega) (by omega) (by rw [h3, ← Int.natCast_mul]; exact Int.ofNat_le.2 hb) (by omega)
  rw [hr, Int.toNat_natCast, h2, hz, Nat.mul_one]
  have : madeCells #[z] n = (List.replicate n z).toArray := by
    unfold madeCells
    apply Array.ext
    · simp
    · intro j h1 h2
      simp [Nat.mod_one]
  rw [this]

/-- A row that a block holds from its beginning reads as digits. -/
theorem Bk.dg {w : World} {g : Nat} {t : TypeId} {ds : List Nat} (h : Bk w g t (ds.map U32)) (hl : Low ds) (hb : ds.length ≤ 35184372088832) {n c : Nat} (hn : n = ds.length) (hc : n ≤ c) : Dg w (.slice (some ⟨g, 0, none⟩) n c) ds :=
  Dg.of_parts hn hc (by omega) hl fun i hi => ⟨_, rfl, by
    subst hn
    have hi' : i < (ds.map U32).length := by simpa using hi
    have := h.cell hi'
    have e : (⟨g, 0, none⟩ : Addr).add i = ⟨g, i, none⟩ := by unfold Addr.add; split <;> simp_all
    rw [e, this]; simp [List.getD, hi]⟩

end Go.Proofs.Ytjpkaljndfgkjaa
