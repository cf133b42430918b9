/- Contract: the reference's Derive. -/
import Derived.Test.YtmmmdinncmbjkaaGreatMf36
namespace Go.Proofs.YtmmmdinncmbjkaaGreat
open Go.RowKit Go.Maps
/-- The tests of Derive on a row. -/
def derF (x : List Vl) (g : Fl) : Bool := holdI g.op (cmpV (x.getD g.col.toNat zv) ⟨g.kind, g.int, g.str⟩)
def derS (x : List Vl) (p : Pi) : Bool := decide (x.getD p.a.toNat zv = x.getD p.b.toNat zv)
def pickV (ps : List (Int × Int)) (x : List Vl) (v : Int) (c : Vl) : Vl := ps.foldl (fun a p => if p.1 = v then x.getD p.2.toNat zv else a) c
def notRow (s : Src) (x : List Vl) (y : Nt) : List Vl := (y.vars.zip y.cs).map (fun p => pickV (s.vars.zip s.cols) x p.1 p.2)
def derN (f : List Fc) (s : Src) (x : List Vl) (y : Nt) : Bool := !hasFc f y.rel (notRow s x y)
def derB (f : List Fc) (s : Src) (x : Fc) : Bool := ((decide (x.rel = s.rel) && s.fs.all (derF x.row)) && s.same.all (derS x.row)) && s.nots.all (derN f s x.row)
def addR (out : List (List Vl)) (r : List Vl) : List (List Vl) := if r ∈ out then out else out ++ [r]
def derOne (f : List Fc) (s : Src) (out : List (List Vl)) (x : Fc) : List (List Vl) := if derB f s x = true then addR out (projR s.cols x.row) else out
/-- What Derive answers. -/
def deriveL (f : List Fc) (s : Src) (l : List Fc) : List (List Vl) := l.foldl (derOne f s) []
theorem all_take {α : Type} {p : α → Bool} {l : List α} {i : Nat} (hi : i < l.length) (h : (l.take i).all p = true) : (l.take (i + 1)).all p = p l[i] := by
  rw [List.take_succ_eq_append_getElem hi, List.all_append, h]
  simp
/-- A source whose columns stand in the facts. -/
structure DerOk (s : Src) (f : List Fc) : Prop where
  n : f.length ≤ 1048576
  row : ∀ x ∈ f, x.row.length ≤ 1048576
  b1 : s.vars.length ≤ 1048576
  b3 : s.same.length ≤ 1048576
  b4 : s.fs.length ≤ 1048576
  b5 : s.nots.length ≤ 1048576
  vc : s.vars.length = s.cols.length
  nots : ∀ y ∈ s.nots, y.cs.length = y.vars.length ∧ y.vars.length ≤ 1048576
  ops : ∀ g ∈ s.fs, 0 ≤ g.op ∧ g.op ≤ 5
  fs : ∀ x ∈ f, x.rel = s.rel → ∀ g ∈ s.fs, 0 ≤ g.col ∧ g.col < (x.row.length : Int)
  same : ∀ x ∈ f, x.rel = s.rel → ∀ p ∈ s.same, (0 ≤ p.a ∧ p.a < (x.row.length : Int)) ∧ 0 ≤ p.b ∧ p.b < (x.row.length : Int)
  cols : ∀ x ∈ f, x.rel = s.rel → ∀ c ∈ s.cols, 0 ≤ c ∧ c < (x.row.length : Int)
theorem vcells_app1 (l : List Vl) (v : Vl) : vcells (l ++ [v]) = vcells l ++ [.int .i64 v.kind, .int .i64 v.int, .string v.str] := by rw [vcells_app]; rfl
/-- A Value in a row, by the index as an integer. -/
theorem Sl.vlI {F : Nat → Prop} {w : World} {A : Option Addr} {n c : Nat} {xs : List Vl} (h : Sl rdVl F w (.slice A n c) xs) {z : Int} (h0 : 0 ≤ z) (h1 : z < (xs.length : Int)) : ∃ (k : Nat) (ad : Addr), z = (k : Int) ∧ k < xs.length ∧ A = some ad ∧ w.cell? (ad.add (k * 3)) = some (.int .i64 (xs.getD z.toNat zv).kind) ∧ w.cell? ⟨(ad.add (k * 3)).block, (ad.add (k * 3)).off + 1, none⟩ = some (.int .i64 (xs.getD z.toNat zv).int) ∧ w.cell? ⟨(ad.add (k * 3)).block, (ad.add (k * 3)).off + 2, none⟩ = some (.string (xs.getD z.toNat zv).str) := by
  have hk : z.toNat < xs.length := by omega
  obtain ⟨ad, e, -, h2, h3, h4⟩ := h.vl hk
  have e2 : xs.getD z.toNat zv = xs[z.toNat] := by rw [List.getD_eq_getElem?_getD, List.getElem?_eq_getElem hk]; rfl
  rw [e2]
  exact ⟨z.toNat, ad, by omega, hk, e, h2, h3, h4⟩
end Go.Proofs.YtmmmdinncmbjkaaGreat
