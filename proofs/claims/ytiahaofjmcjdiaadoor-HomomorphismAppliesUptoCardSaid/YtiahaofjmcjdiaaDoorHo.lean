/- Words for rules: terms, atoms, rules in memory. Plain: the numbers of terms. -/
import Derived.Test.YtiahaofjmcjdiaaDoorWd
namespace Go.Proofs.YtiahaofjmcjdiaaDoor
open Go.RowKit

/-- A term: a variable's name, or a constant. -/
structure Tm where
  var : ByteArray
  kind : Int
  int : Int
  str : ByteArray
deriving DecidableEq
def Tm.cells (t : Tm) : List Value := [.string t.var, .int .i64 t.kind, .int .i64 t.int, .string t.str]
abbrev Tm.val (t : Tm) : Value := .agg #[.string t.var, .int .i64 t.kind, .int .i64 t.int, .string t.str]
def tcells (ts : List Tm) : List Value := ts.flatMap Tm.cells
theorem tcells_length (ts : List Tm) : (tcells ts).length = ts.length * 4 := by
  induction ts with
  | nil => rfl
  | cons t ts ih => simp [tcells, Tm.cells] at ih ⊢; omega
theorem tcells_append (ts us : List Tm) : tcells (ts ++ us) = tcells ts ++ tcells us := by simp [tcells]
theorem tcells_get : ∀ {ts : List Tm} {i : Nat} (hi : i < ts.length) (j : Nat), j < 4 → (tcells ts)[4 * i + j]? = (ts[i].cells)[j]?
  | t :: ts, 0, _, j, hj => by
    simp only [tcells, List.flatMap_cons, Nat.mul_zero, Nat.zero_add, List.getElem_cons_zero]
    rw [List.getElem?_append_left (by simpa [Tm.cells] using hj)]
  | t :: ts, i + 1, hi, j, hj => by
    have ih := tcells_get (ts := ts) (i := i) (by simpa using hi) j hj
    simp only [tcells, List.flatMap_cons, List.getElem_cons_succ] at ih ⊢
    rw [List.getElem?_append_right (by simp [Tm.cells]; omega)]
    rw [← ih]
    congr 1
    simp [Tm.cells]; omega

/-- A slice of terms. -/
def Ts (F : Nat → Prop) (w : World) (v : Value) (ts : List Tm) : Prop := ∃ A c, v = .slice A ts.length c ∧ ts.length ≤ c ∧ Cl F w A (tcells ts)
theorem Ts.ext {F : Nat → Prop} {w w' : World} {v : Value} {ts : List Tm} (h : Ts F w v ts) (he : Ext w w') : Ts F w' v ts := let ⟨A, c, h1, h2, h3⟩ := h; ⟨A, c, h1, h2, h3.ext he⟩
theorem Ts.fr {S F : Nat → Prop} {w w' : World} {v : Value} {ts : List Tm} (h : Ts F w v ts) (hf : Fr S w w') (hs : ∀ k, F k → ¬ S k) : Ts F w' v ts := let ⟨A, c, h1, h2, h3⟩ := h; ⟨A, c, h1, h2, h3.fr hf hs⟩
theorem Ts.mono {F G : Nat → Prop} {w : World} {v : Value} {ts : List Tm} (h : Ts F w v ts) (hs : ∀ k, k < w.heap.size → F k → G k) : Ts G w v ts := let ⟨A, c, h1, h2, h3⟩ := h; ⟨A, c, h1, h2, h3.mono hs⟩
theorem add_succ' (a : Addr) (n j : Nat) : a.add (n + (j + 1)) = ⟨(a.add n).block, (a.add n).off + (j + 1), none⟩ := by
  rw [← add_add]
  generalize a.add n = p
  simp [Addr.add]
/-- Term i, as four cells, in the walk's spelling. -/
theorem Cl.term {F : Nat → Prop} {w : World} {A : Option Addr} {ts : List Tm} (h : Cl F w A (tcells ts)) {i : Nat} (hi : i < ts.length) : ∃ ad, A = some ad ∧ F ad.block ∧ w.cell? (ad.add (i * 4)) = some (.string ts[i].var) ∧ w.cell? ⟨(ad.add (i * 4)).block, (ad.add (i * 4)).off + 1, none⟩ = some (.int .i64 ts[i].kind) ∧ w.cell? ⟨(ad.add (i * 4)).block, (ad.add (i * 4)).off + 2, none⟩ = some (.int .i64 ts[i].int) ∧ w.cell? ⟨(ad.add (i * 4)).block, (ad.add (i * 4)).off + 3, none⟩ = some (.string ts[i].str) := by
  obtain ⟨ad, h1, h2, c0⟩ := h.at' ((tcells_get hi 0 (by omega)).trans rfl)
  obtain ⟨ad1, e1, _, c1⟩ := h.at' ((tcells_get hi 1 (by omega)).trans rfl)
  obtain ⟨ad2, e2, _, c2⟩ := h.at' ((tcells_get hi 2 (by omega)).trans rfl)
  obtain ⟨ad3, e3, _, c3⟩ := h.at' ((tcells_get hi 3 (by omega)).trans rfl)
  subst h1
  injection e1 with e1; injection e2 with e2; injection e3 with e3
  subst e1 e2 e3
  rw [show 4 * i + 0 = i * 4 by omega] at c0
  rw [show 4 * i + 1 = i * 4 + (0 + 1) by omega, add_succ'] at c1
  rw [show 4 * i + 2 = i * 4 + (1 + 1) by omega, add_succ'] at c2
  rw [show 4 * i + 3 = i * 4 + (2 + 1) by omega, add_succ'] at c3
  exact ⟨ad, rfl, h2, c0, c1, c2, c3⟩

/-- The term that numbers looks for: a variable's constant is struck. -/
def Tm.key (t : Tm) : Tm := if t.var = ⟨#[]⟩ then t else ⟨t.var, 0, 0, ⟨#[]⟩⟩
def addT (ts : List Tm) (t : Tm) : List Tm := if t.key ∈ ts then ts else ts ++ [t.key]
def numT (ts : List Tm) (t : Tm) : Int := if t.var = ⟨#[]⟩ then 1 + ((addT ts t).idxOf t.key : Int) else -1 - ((addT ts t).idxOf t.key : Int)

/-- The receiver of numbers' methods: its cell, and the row of its terms. -/
structure NumB (w : World) (base g : Nat) (v : Value) (ts : List Tm) : Prop where
  cell : Bk w g 35 [v]
  row : w.ownsRow base 47 4 v ts.length (tcells ts)
theorem NumB.ext {w w' : World} {base g : Nat} {v : Value} {ts : List Tm} (h : NumB w base g v ts) (he : Ext w w') : NumB w' base g v ts :=
  ⟨h.cell.ext he, h.row.kept (row := none) ⟨he.os, he.tape, he.output, he.size, fun _ hk _ => he.heap hk⟩ (by cases v.ownBlock <;> simp)⟩
end Go.Proofs.YtiahaofjmcjdiaaDoor
