/- An argument of type []byte. -/
import Derived.Test.YtamkbboijblooaaLift
namespace Go.Proofs.Ytamkbboijblooaa
open Go.ChangeShapes Go.WideShapes Go.ChangeAt Go.RowKit Go.Joins
section
variable {H : Type} {enc : TypeId × Value → H} {W : World} {base : Nat}
set_option maxRecDepth 100000 in
theorem open_bytes_arg {v : Value} {d : DataW H} {p : List MemPlace} (hv : Value.okWide Try.prog W .any base 23 v) (h : DataW.Trod enc Try.prog W 0 (fun _ => true) true 23 v d p)
    (hs : (d.weights Try.prog 23).all (· ≤ reachBytes) = true) : ∃ bs, By W v bs := by
  obtain ⟨a0, len0, cap0, rfl⟩ := okWide_slice Try.underlying23 hv
  obtain ⟨fuel, hf⟩ := h
  exact open_bytes (x := (d, p)) hf hs
end
end Go.Proofs.Ytamkbboijblooaa
