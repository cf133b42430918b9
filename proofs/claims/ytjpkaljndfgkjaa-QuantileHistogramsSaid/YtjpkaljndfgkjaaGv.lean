/- A reading of [2]api.Row. -/
import Derived.Test.YtjpkaljndfgkjaaGp
import Derived.Laws.IdiomArrays
import Derived.OpenShut
namespace Go.Proofs.Ytjpkaljndfgkjaa.R
open Go.RowKit Go.ChangeShapes Go.WideShapes

section
variable {H : Type} {enc : TypeId × Value → H} {W : World} {base : Nat} {v : Value}
set_option maxRecDepth 20000
theorem open_two {d : DataW H} {p : List MemPlace} (hv : Value.okWide Try.prog W .any base 52 v) (h : DataW.Trod enc Try.prog W 0 (fun _ => true) true 52 v d p) :
    ∃ (B0 : Option Addr) (d0 : Nat) (B1 : Option Addr) (d1 : Nat) (r0 r1 : List Vl), v = .agg #[.slice B0 r0.length d0, .slice B1 r1.length d1] ∧ Sl rdVl U1 W (.slice B0 r0.length d0) r0 ∧ Sl rdVl U1 W (.slice B1 r1.length d1) r1 := by
  have hu : Try.prog.underlying 52 = some (.array 2 29) := Try.underlying52
  simp only [Value.okWide, hu] at hv
  obtain ⟨cs, rfl, -, -⟩ := hv
  obtain ⟨fuel, hf⟩ := h
  obtain ⟨xs, n, -, -, hl, hxl, hi⟩ := DataW.trod_array hu hf
  have hc : Try.prog.cellsOf 29 = 1 := by kernel_rfl
  have hc2 : Try.prog.cellsOf 52 = 2 := by kernel_rfl
  rw [hc2] at hl
  obtain ⟨cl⟩ := cs
  have hl2 : cl.length = 2 := hl
  match cl, hl2 with
  | [u0, u1], _ =>
    match xs, hxl with
    | [z0, z1], _ =>
      have f0 := hi 0 (by omega)
      have f1 := hi 1 (by omega)
      rw [hc] at f0 f1
      have g0 : DataW.trod enc Try.prog W 0 (fun _ => true) true n 29 [u0] = some z0 := f0
      have g1 : DataW.trod enc Try.prog W 0 (fun _ => true) true n 29 [u1] = some z1 := f1
      obtain ⟨y0, ⟨v0, e0, h0⟩, -⟩ := open_rowE g0
      obtain ⟨y1, ⟨v1, e1, h1⟩, -⟩ := open_rowE g1
      injection e0 with e0
      injection e1 with e1
      subst e0 e1
      obtain ⟨B0, d0, k0⟩ := h0.sl
      obtain ⟨B1, d1, k1⟩ := h1.sl
      rw [k0] at h0 ⊢
      rw [k1] at h1 ⊢
      exact ⟨B0, d0, B1, d1, y0, y1, rfl, h0, h1⟩
end
end Go.Proofs.Ytjpkaljndfgkjaa.R
