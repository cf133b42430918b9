/- From readings of arguments to the words of the walks (rows). -/
import Derived.Test.YtjpkaljndfgkjaaZl
import Derived.Deep.Slices
import Derived.Deep.Fields
import Derived.Deep.DeepHandedRow
import Derived.Deep.DeepHandedRow
import Derived.Deep.Fields
import Derived.Deep.Slices
import Derived.Lib.SmallJoins
import Derived.OpenShut
import Derived.ProofKit
import Derived.SizedLaws
namespace Go.Proofs.Ytjpkaljndfgkjaa.R
open Go.ChangeShapes Go.WideShapes Go.ChangeAt Go.RowKit Go.Joins Go.Deep

abbrev U1 : Nat → Prop := fun _ => True
theorem pickL {α : Type} {p : Nat → α → Prop} : ∀ n : Nat, (∀ i, i < n → ∃ a, p i a) → ∃ l : List α, l.length = n ∧ ∀ i (hi : i < l.length), p i l[i]
  | 0, _ => ⟨[], rfl, fun i hi => by simp at hi⟩
  | n + 1, h => by
    obtain ⟨l, h1, h2⟩ := pickL n (fun i hi => h i (by omega))
    obtain ⟨a, ha⟩ := h n (by omega)
    refine ⟨l ++ [a], by simp [h1], fun i hi => ?_⟩
    rcases Nat.lt_or_ge i l.length with h3 | h3
    · rw [List.getElem_append_left h3]; exact h2 i h3
    · have : i = n := by simp at hi; omega
      subst this
      rw [List.getElem_append_right h3]
      simpa [h1] using ha
theorem cells_at {W : World} {cs : List Value} {a : Addr} {n : Nat} (h : W.cells? 0 a n = some cs) {j : Nat} (hj : j < n) : W.cell? (a.add j) = cs[j]? := (World.cells?_some h).2.2 j hj
section
variable {H : Type} {enc : TypeId × Value → H} {W : World} {base : Nat}
theorem open_sl {α : Type} (r : Rdg α) {t e : TypeId} (ht : Try.prog.underlying t = some (.slice e)) (hC : Try.prog.cellsOf e = r.sz) (Good : α → Prop) (hel : ∀ {fuel : Nat} {cs : List Value} {x : DataW H × List MemPlace}, DataW.trod enc Try.prog W 0 (fun _ => true) true fuel e cs = some x → ∃ a, r.R U1 W cs a ∧ Good a) {fuel : Nat} {v : Value} {x : DataW H × List MemPlace} (h : DataW.trod enc Try.prog W 0 (fun _ => true) true fuel t [v] = some x) :
    ∃ xs : List α, Sl r U1 W v xs ∧ xs.length ≤ maxLen ∧ ∀ a ∈ xs, Good a := by
  rcases open_slice ht h with ⟨hcs, rfl⟩ | ⟨a, len, cap, m, n, D, Pl, hcs, -, hl, hcap, hm, rfl, hi⟩
  · injection hcs with hcs
    subst hcs
    exact ⟨[], Sl.nil _ _ _, Nat.zero_le _, fun a ha => by simp at ha⟩
  · injection hcs with hcs
    subst hcs
    simp only [if_true] at hm
    obtain ⟨xs, h1, h2⟩ := pickL (p := fun i (y : α) => (∃ cs, r.R U1 W cs y ∧ ∀ j (h : j < cs.length), W.cell? (a.add (i * r.sz + j)) = some cs[j]) ∧ Good y) len (fun i hil => by
      obtain ⟨cs', hc, htr⟩ := hi i (by omega)
      obtain ⟨y, hy, hg⟩ := hel htr
      rw [hC] at hc
      refine ⟨y, ⟨cs', hy, fun j hj => ?_⟩, hg⟩
      have hj2 : j < r.sz := by rw [← r.len hy]; exact hj
      have k := cells_at hc hj2
      rw [Go.Deep.add_add] at k
      rw [k, List.getElem?_eq_getElem hj])
    refine ⟨xs, ⟨some a, cap, by rw [h1], by omega, fun i hi2 => ?_⟩, by omega, fun y hy => ?_⟩
    · obtain ⟨⟨cs, k1, k2⟩, -⟩ := h2 i hi2
      exact ⟨a, cs, rfl, trivial, k1, k2⟩
    · obtain ⟨i, hi2, rfl⟩ := List.getElem_of_mem hy
      exact (h2 i hi2).2
end
section
variable {H : Type} {enc : TypeId × Value → H} {W : World} {base : Nat} {fuel : Nat} {cs : List Value} {v : Value} {x : DataW H × List MemPlace}
set_option maxRecDepth 20000
theorem open_val {t : TypeId} (ht : Try.prog.underlying t = Try.prog.underlying 81) (h : DataW.trod enc Try.prog W 0 (fun _ => true) true fuel t cs = some x) (hc3 : cs.length = 3) : ∃ (k i : Int) (s : ByteArray), cs = [.int .i64 k, .int .i64 i, .string s] ∧ s.size ≤ maxLen := by
  obtain ⟨xs, n, -, -, -, hxl, hf⟩ := DataW.trod_struct (ht.trans Try.underlying81) h
  match cs, hc3 with
  | [c1, c2, c3], _ =>
    match xs, hxl with
    | [z0, z1, z2], _ =>
      have f0 : DataW.trod enc Try.prog W 0 (fun _ => true) true n 3 [c1] = some z0 := hf 0 _ rfl
      have f1 : DataW.trod enc Try.prog W 0 (fun _ => true) true n 2 [c2] = some z1 := hf 1 _ rfl
      have f2 : DataW.trod enc Try.prog W 0 (fun _ => true) true n 9 [c3] = some z2 := hf 2 _ rfl
      obtain ⟨k0, e1, -, -⟩ := DataW.trod_int Try.underlying3 f0
      obtain ⟨k1, e2, -, -⟩ := DataW.trod_int Try.underlying2 f1
      obtain ⟨s1, e3, -, hs⟩ := DataW.trod_string Try.underlying9 f2
      injection e1 with e1; injection e2 with e2; injection e3 with e3
      subst e1 e2 e3
      exact ⟨_, _, _, rfl, hs⟩
end

section
variable {H : Type} {enc : TypeId × Value → H} {W : World} {base : Nat} {fuel : Nat} {cs : List Value} {v : Value} {x : DataW H × List MemPlace}
set_option maxRecDepth 20000
theorem open_vlE (h : DataW.trod enc Try.prog W 0 (fun _ => true) true fuel 81 cs = some x) : ∃ y : Vl, rdVl.R U1 W cs y ∧ True := by
  obtain ⟨xs, n, -, -, hl, hxl, hf⟩ := DataW.trod_struct Try.underlying81 h
  obtain ⟨k, i, s, e, -⟩ := open_val rfl h (hl.trans (by kernel_rfl))
  exact ⟨⟨k, i, s⟩, e, trivial⟩
theorem open_rowE (h : DataW.trod enc Try.prog W 0 (fun _ => true) true fuel 29 cs = some x) : ∃ y : List Vl, rdRow.R U1 W cs y ∧ y.length ≤ maxLen := by
  have h0 := h
  obtain ⟨u, hu⟩ : ∃ u, cs = [u] := by
    rcases open_slice Try.underlying29 h with ⟨hcs, -⟩ | ⟨a, len, cap, m, n, D, Pl, hcs, -⟩
    · exact ⟨_, hcs⟩
    · exact ⟨_, hcs⟩
  subst hu
  obtain ⟨xs, k1, k2, -⟩ := open_sl rdVl Try.underlying29 (by kernel_rfl) (fun _ => True) open_vlE h
  exact ⟨xs, ⟨u, rfl, k1⟩, k2⟩
theorem open_rows {d : DataW H} {p : List MemPlace} (hv : Value.okWide Try.prog W .any base 22 v) (h : DataW.Trod enc Try.prog W 0 (fun _ => true) true 22 v d p) : ∃ (A : Option Addr) (c : Nat) (rs : List (List Vl)), v = .slice A rs.length c ∧ Sl rdRow U1 W (.slice A rs.length c) rs ∧ rs.length ≤ maxLen ∧ ∀ x ∈ rs, x.length ≤ maxLen := by
  obtain ⟨a0, len0, cap0, rfl⟩ := okWide_slice Try.underlying22 hv
  obtain ⟨fuel, hf⟩ := h
  obtain ⟨ss, k1, k2, k3⟩ := open_sl rdRow Try.underlying22 (by kernel_rfl) (fun y => y.length ≤ maxLen) open_rowE hf
  obtain ⟨A, c, e⟩ := k1.sl
  rw [e] at k1 ⊢
  exact ⟨A, c, ss, rfl, k1, k2, k3⟩
end
end Go.Proofs.Ytjpkaljndfgkjaa.R
