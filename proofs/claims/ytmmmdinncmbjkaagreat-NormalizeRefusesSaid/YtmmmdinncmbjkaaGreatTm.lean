/- From readings of arguments to the words of the walks: schemas with bounds, a string. -/
import Derived.Test.YtmmmdinncmbjkaaGreatOr
import Derived.ChangeMaps5
namespace Go.Proofs.YtmmmdinncmbjkaaGreat
open Go.ChangeShapes Go.WideShapes Go.ChangeAt Go.RowKit Go.Joins Go.Deep

theorem wf_u8 {n : Int} (h : (Lit.int .u8 n).wf = true) : 0 ≤ n ∧ n < 256 := by have := bounds_u8 h; omega
section
variable {H : Type} {enc : TypeId × Value → H} {W : World} {base : Nat} {fuel : Nat} {cs : List Value} {v : Value} {x : DataW H × List MemPlace}
set_option maxRecDepth 20000
theorem open_scE2 (h : DataW.trod enc Tryz.prog W 0 (fun _ => true) true fuel 45 cs = some x) : ∃ s : Sc, rdSc.R U1 W cs s ∧ (s.name.size ≤ maxLen ∧ s.kinds.length ≤ maxLen) := by
  obtain ⟨xs, n, -, -, hl, hxl, hf⟩ := DataW.trod_struct Tryz.underlying45 h
  have hc2 : cs.length = 2 := hl.trans (by kernel_rfl)
  match cs, hc2 with
  | [c0, c1], _ =>
    match xs, hxl with
    | [y0, y1], _ =>
      have h0 : DataW.trod enc Tryz.prog W 0 (fun _ => true) true n 9 [c0] = some y0 := hf 0 _ rfl
      have h1 : DataW.trod enc Tryz.prog W 0 (fun _ => true) true n 31 [c1] = some y1 := hf 1 _ rfl
      obtain ⟨s0, e0, -, hs⟩ := DataW.trod_string Tryz.underlying9 h0
      obtain ⟨ks, k1, k2, -⟩ := open_sl (flatR (fun z : Int => [Value.int .i64 z]) 1 (fun _ => rfl)) Tryz.underlying31 (by kernel_rfl) (fun _ => True) open_intE h1
      injection e0 with e0
      subst e0
      exact ⟨⟨s0, ks⟩, ⟨_, rfl, k1.ints⟩, hs, k2⟩
theorem open_scs2 {d : DataW H} {p : List MemPlace} (hv : Value.okWide Tryz.prog W .any base 22 v) (h : DataW.Trod enc Tryz.prog W 0 (fun _ => true) true 22 v d p) : ∃ (A : Option Addr) (c : Nat) (ss : List Sc), v = .slice A ss.length c ∧ Sl rdSc U1 W (.slice A ss.length c) ss ∧ ss.length ≤ maxLen ∧ ∀ x ∈ ss, x.name.size ≤ maxLen ∧ x.kinds.length ≤ maxLen := by
  obtain ⟨a0, len0, cap0, rfl⟩ := okWide_slice Tryz.underlying22 hv
  obtain ⟨fuel, hf⟩ := h
  obtain ⟨ss, k1, k2, k3⟩ := open_sl rdSc Tryz.underlying22 (by kernel_rfl) (fun s => s.name.size ≤ maxLen ∧ s.kinds.length ≤ maxLen) open_scE2 hf
  obtain ⟨A, c, e⟩ := k1.sl
  rw [e] at k1 ⊢
  exact ⟨A, c, ss, rfl, k1, k2, k3⟩
end
end Go.Proofs.YtmmmdinncmbjkaaGreat
