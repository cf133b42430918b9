/- Plain law: the number that k bits denote; drawing a number below n from a tape of bits. No program in sight. -/
import Derived.Test.YtjpkaljndfgkjaaMath
namespace Go.Proofs.Ytjpkaljndfgkjaa

/-- The number whose bits are b pos, b (pos + 1), .. (k of them), least first. -/
def wrd (b : Nat → Nat) (pos : Nat) : Nat → Nat
  | 0 => 0
  | k + 1 => wrd b pos k + 2 ^ k * b (pos + k)

theorem wrd_lt (b : Nat → Nat) (hb : ∀ i, b i ≤ 1) (pos : Nat) : ∀ k, wrd b pos k < 2 ^ k
  | 0 => by simp [wrd]
  | k + 1 => by
    have h := wrd_lt b hb pos k
    have h2 : 2 ^ k * b (pos + k) ≤ 2 ^ k * 1 := Nat.mul_le_mul_left _ (hb _)
    simp only [wrd, Nat.pow_succ]; omega

theorem wrd_congr {b c : Nat → Nat} {pos : Nat} : ∀ {k : Nat}, (∀ i, i < k → b (pos + i) = c (pos + i)) → wrd b pos k = wrd c pos k
  | 0, _ => rfl
  | k + 1, h => by simp only [wrd]; rw [wrd_congr (fun i hi => h i (by omega)), h k (by omega)]

/-- Attempts of l bits each, from pos on, in a tape of L bits, till a number is below n: the number and the position behind it. -/
def uni (b : Nat → Nat) (L n l : Nat) : Nat → Nat → Option (Nat × Nat)
  | 0, _ => none
  | f + 1, pos => if L < pos + l then none else if wrd b pos l < n then some (wrd b pos l, pos + l) else uni b L n l f (pos + l)

/-- More fuel than bits: no matter how much. -/
theorem uni_fuel {b : Nat → Nat} {L n l : Nat} (hl : 0 < l ∨ 0 < n) : ∀ (f g pos : Nat), L < pos + f → L < pos + g → uni b L n l f pos = uni b L n l g pos
  | 0, 0, _, _, _ => rfl
  | 0, g + 1, pos, hf, _ => by simp only [uni]; rw [if_pos (by omega)]
  | f + 1, 0, pos, _, hg => by simp only [uni]; rw [if_pos (by omega)]
  | f + 1, g + 1, pos, hf, hg => by
    simp only [uni]
    split
    · rfl
    · split
      · rfl
      · rename_i h1 h2
        have hl' : 0 < l := by
          rcases hl with h | h
          · exact h
          · rcases Nat.eq_zero_or_pos l with e | e
            · subst e; simp [wrd] at h2; omega
            · exact e
        exact uni_fuel hl f g (pos + l) (by omega) (by omega)

theorem uni_some {b : Nat → Nat} {L n l : Nat} : ∀ {f pos x p : Nat}, uni b L n l f pos = some (x, p) → x < n ∧ pos + l ≤ p ∧ p ≤ L ∧ (p - pos) % l = 0 ∧ x = wrd b (p - l) l
  | 0, _, _, _, h => by simp [uni] at h
  | f + 1, pos, x, p, h => by
    simp only [uni] at h
    split at h
    · cases h
    · split at h
      · rename_i h1 h2
        injection h with h; injection h with h3 h4
        subst h3; subst h4
        refine ⟨h2, Nat.le_refl _, by omega, ?_, ?_⟩
        · rw [Nat.add_sub_cancel_left]; exact Nat.mod_self l
        · rw [Nat.add_sub_cancel]
      · obtain ⟨a1, a2, a3, a4, a5⟩ := uni_some h
        refine ⟨a1, by omega, a3, ?_, a5⟩
        have : p - pos = (p - (pos + l)) + l := by omega
        rw [this, Nat.add_mod_right]; exact a4

end Go.Proofs.Ytjpkaljndfgkjaa
