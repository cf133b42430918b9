/- Plain law: drawing a permutation. No program in sight. -/
import Derived.Test.YtjpkaljndfgkjaaSamM
import Derived.Test.YtjpkaljndfgkjaaNatE
namespace Go.Proofs.Ytjpkaljndfgkjaa

/-- Two places exchanged. -/
def swp (l : List Nat) (i j : Nat) : List Nat := (l.set i (l.getD j 0)).set j (l.getD i 0)
theorem swp_length (l : List Nat) (i j : Nat) : (swp l i j).length = l.length := by simp [swp]

/-- From place i down to place 1: the list and the position behind the last bit; none where the tape ends. -/
def perm (b : Nat → Nat) (L : Nat) : Nat → List Nat → Nat → Option (List Nat × Nat)
  | 0, l, pos => some (l, pos)
  | i + 1, l, pos => match uni b L (i + 2) (blen (i + 1)) (L + 1) pos with
    | none => none
    | some (j, p) => perm b L i (swp l (i + 1) j) p

theorem perm_none {b : Nat → Nat} {L i pos : Nat} {l : List Nat} (h : uni b L (i + 2) (blen (i + 1)) (L + 1) pos = none) : perm b L (i + 1) l pos = none := by simp [perm, h]
theorem perm_some {b : Nat → Nat} {L i pos j p : Nat} {l : List Nat} (h : uni b L (i + 2) (blen (i + 1)) (L + 1) pos = some (j, p)) : perm b L (i + 1) l pos = perm b L i (swp l (i + 1) j) p := by simp [perm, h]

/-- The values of a list of naturals. -/
theorem getD_map {α : Type} (f : Nat → α) (l : List Nat) (i : Nat) (h : i < l.length) (z : α) : (l.map f).getD i z = f (l.getD i 0) := by simp [List.getD, h]
theorem swp_map {α : Type} (f : Nat → α) (l : List Nat) (i j : Nat) : (swp l i j).map f = ((l.map f).set i (f (l.getD j 0))).set j (f (l.getD i 0)) := by simp [swp, List.map_set]

theorem perm_length {b : Nat → Nat} {L : Nat} : ∀ {i : Nat} {l : List Nat} {pos : Nat} {r : List Nat} {p : Nat}, perm b L i l pos = some (r, p) → r.length = l.length
  | 0, l, pos, r, p, h => by simp only [perm] at h; injection h with h; injection h with h1 h2; rw [h1]
  | i + 1, l, pos, r, p, h => by
    rcases hu : uni b L (i + 2) (blen (i + 1)) (L + 1) pos with _ | ⟨j, q⟩
    · rw [perm_none hu] at h; cases h
    · rw [perm_some hu] at h
      rw [perm_length h, swp_length]
end Go.Proofs.Ytjpkaljndfgkjaa
