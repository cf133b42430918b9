/- sample.Uniform in one form for every number and tape; two keepers for regions that draw. -/
import Derived.Test.YtamkbboijblooaaSamI
namespace Go.Proofs.Ytamkbboijblooaa
open Go.RowKit

/-- By what is drawn. -/
def unifSome (bs : List Nat) : Option (Nat × Nat) → Nat × List Nat × Nat × Nat
  | none => (0, [], 0, 36)
  | some (x, p) => (x, bs, p, 0)
/-- What Uniform returns: the number, the bytes and the position of the tape, the error. -/
def unifOut (bs : List Nat) (n pos : Nat) : Nat × List Nat × Nat × Nat :=
  if n = 0 then (0, [], 0, 18) else unifSome bs (uni (bitAt bs) (8 * bs.length) n (blen (n - 1)) (8 * bs.length + 1) pos)

/-- What Uniform leaves. -/
def UOut (o : Nat × List Nat × Nat × Nat) (w : World) (e : Ending) (w' : World) : Prop :=
  Ext w w' ∧ ∃ v A c, e = .returned (.tuple #[v, .agg #[.slice A o.2.1.length c, .int .i64 (o.2.2.1 : Int)], .int .i64 (o.2.2.2 : Int)]) ∧ Nz w' v o.1 ∧ By w' (.slice A o.2.1.length c) o.2.1

theorem Uniform_out {w : World} {u t : Value} {n pos : Nat} {bs : List Nat} (hu : Nv w u n) (hln : (dig n).length ≤ 100000) (ht : Tp w t bs pos) (hp : pos ≤ 8 * bs.length) :
    Calls Try.prog 18 #[u, t] w (UOut (unifOut bs n pos) w) := by
  unfold unifOut
  by_cases h0 : n = 0
  · subst h0
    rw [if_pos rfl]
    refine (Uniform_zero hu ht).mono ?_
    rintro e w' ⟨rfl, he⟩
    exact ⟨he, _, _, _, rfl, Nz.nil w', By.nil w'⟩
  · rw [if_neg h0]
    refine (Uniform_any hu (by omega) hln ht hp).mono ?_
    intro e w' h
    generalize uni (bitAt bs) (8 * bs.length) n (blen (n - 1)) (8 * bs.length + 1) pos = R at *
    rcases R with _ | ⟨x, p⟩
    · obtain ⟨he, rfl⟩ := h
      exact ⟨he, _, _, _, rfl, Nz.nil w', By.nil w'⟩
    · obtain ⟨he, v, u, rfl, hv, s, rfl, hs⟩ := h
      obtain ⟨A, c, rfl, -⟩ := hs.parts
      exact ⟨he, v, A, c, rfl, hv, hs⟩

theorem dig_small {n : Nat} (h : n < 18446744073709551616) : (dig n).length ≤ 100000 := Nat.le_trans (dig_len_le (k := 2) (by omega)) (by omega)

/-- The reference's number and position. -/
def rX : Option (Nat × Nat) → Int | none => 0 | some (x, _) => x
def rP : Option (Nat × Nat) → Int | none => -1 | some (_, p) => p
theorem refUniform_out {w : World} {v : Value} {bs : List Nat} {n L pos : Nat} (h : In w v (bitsOf bs L)) (hn : 1 ≤ n) (hn2 : n ≤ 1048576) (hp : pos ≤ L) :
    Calls Try.prog 22 #[.int .i64 (n : Int), v, .int .i64 (pos : Int)] w fun e w' => e = .returned (.tuple #[.int .i64 (rX (uni (bitAt bs) L n (blen (n - 1)) (L + 1) pos)), .int .i64 (rP (uni (bitAt bs) L n (blen (n - 1)) (L + 1) pos))]) ∧ w = w' := by
  refine (refUniform h hn hn2 hp).mono ?_
  rintro e w' ⟨rfl, rfl⟩
  generalize uni (bitAt bs) L n (blen (n - 1)) (L + 1) pos = R
  rcases R with _ | ⟨x, p⟩ <;> exact ⟨rfl, rfl⟩

end Go.Proofs.Ytamkbboijblooaa
