/- Contract: the reference's Uniform. -/
import Derived.Test.YtamkbboijblooaaSamG
namespace Go.Proofs.Ytamkbboijblooaa
open Go.RowKit

theorem wrap_add_pow (x i : Nat) (hx : x < 2 ^ i) (hi : 2 ^ i ≤ 2 ^ 19) : wrap64 ((x : Int) + wrap64 (2 ^ i)) = ((x + 2 ^ i * 1 : Nat) : Int) := by
  have e : (2 : Int) ^ i = ((2 ^ i : Nat) : Int) := by simp
  rw [e, IntWalk.wrap64_in ((2 ^ i : Nat) : Int) (by omega), IntWalk.wrap64_in _ (by omega)]
  omega

/-- What the reference's Uniform returns. -/
def refU (R : Option (Nat × Nat)) : Value := match R with
  | none => .tuple #[.int .i64 0, .int .i64 (-1)]
  | some (x, p) => .tuple #[.int .i64 (x : Int), .int .i64 (p : Int)]

set_option maxRecDepth 20000 in
set_option maxHeartbeats 1000000 in
theorem refUniform {w : World} {v : Value} {bs : List Nat} {n L pos : Nat} (h : In w v (bitsOf bs L)) (hn : 1 ≤ n) (hn2 : n ≤ 1048576) (hp : pos ≤ L) :
    Calls Try.prog 22 #[.int .i64 (n : Int), v, .int .i64 (pos : Int)] w fun e w' => e = .returned (refU (uni (bitAt bs) L n (blen (n - 1)) (L + 1) pos)) ∧ w = w' := by
  have hlb := h.1
  obtain ⟨A, c, rfl, hc, hcells⟩ := h.parts
  clear h
  rw [bitsOf_length] at *
  have HC := Lib.hid hcells; clear hcells
  have hbl : blen (n - 1) ≤ 20 := by
    rcases Nat.eq_zero_or_pos (n - 1) with e | e
    · rw [e]; decide
    · have h1 := two_pow_blen_le e
      rcases Nat.lt_or_ge 20 (blen (n - 1)) with h2 | h2
      · have : 2 ^ 20 ≤ 2 ^ (blen (n - 1) - 1) := Nat.pow_le_pow_right (by omega) (by omega)
        omega
      · exact h2
  go_enter Try.func22, Try.ntmps22
  go_wp2_with fail
  go_loop [8, 9] (fun t q => ∃ j m : Nat, t = .int .i64 j ∧ q = .int .i64 m ∧ m ≤ 1048576 ∧ j ≤ 20 ∧ blen (n - 1) = j + blen m) (fun _ q => (intOf q).toNat)
  case atStart => exact ⟨0, n - 1, rfl, by go_num, by omega, by omega, by omega⟩
  case round =>
    obtain ⟨j, m, rfl, rfl, hm, hj, hbe⟩ := hrel
    have HB := Lib.hid hbe; clear hbe
    by_cases hm0 : 0 < m
    · have hj2 : j < 20 := by have := HB.out; have := blen_half hm0; omega
      go_wp2_with fail
      go_round
      case rel => exact ⟨j + 1, m / 2, by go_num, by go_num, by omega, by omega, by have := HB.out; have := blen_half hm0; omega⟩
      case measure => simp [intOf]; omega
    · obtain rfl : m = 0 := by omega
      have hjl : blen (n - 1) = j := by have := HB.out; simpa [blen] using this
      rw [hjl] at hbl
      have HJ := Lib.hid hjl; clear hjl
      go_wp2_with fail
      go_loopg [2] (L + 1) (fun f t wr => ∃ p : Nat, t = .int .i64 p ∧ p ≤ L ∧ L < p + f ∧ uni (bitAt bs) L n j f p = uni (bitAt bs) L n (blen (n - 1)) (L + 1) pos ∧ w = wr)
      case atStart => exact ⟨pos, rfl, hp, by omega, by rw [HJ.out], rfl⟩
      case round =>
        obtain ⟨p, rfl, hp1, hp2, hu, rfl⟩ := hrel
        have HU := Lib.hid hu; clear hu
        go_wp2_with fail
        go_loop [2, 10, 11] (fun t x q => ∃ i : Nat, i ≤ j ∧ q = .int .i64 i ∧ p + i ≤ L ∧ t = .int .i64 ((p + i : Nat) : Int) ∧ x = .int .i64 (wrd (bitAt bs) p i : Nat)) (fun _ _ q => j - (intOf q).toNat)
        case atStart => exact ⟨0, Nat.zero_le _, rfl, by omega, by go_num, rfl⟩
        case round =>
          obtain ⟨i, hi, rfl, hpi, rfl, rfl⟩ := hrel
          by_cases hij : i < j
          · by_cases hend : p + i = L
            · have HE := Lib.hid hend; clear hend
              have b1 : ¬ ((p + i : Nat) : Int) < 0 := by omega
              have b2 : (L : Int) ≤ ((p + i : Nat) : Int) := by have := HE.out; omega
              have hfin : uni (bitAt bs) L n (blen (n - 1)) (L + 1) pos = none := by
                rw [← HU.out]
                cases gk with
                | zero => rfl
                | succ f => simp only [uni]; rw [if_pos (by have := HE.out; omega)]
              have HF := Lib.hid hfin; clear hfin
              go_wp2_with fail
              go_ret2
              rw [HF.out]
              exact ⟨rfl, rfl⟩
            · obtain ⟨ad, rfl, hcell⟩ := HC.out (p + i) (by omega)
              rw [bitsOf_get bs L (p + i) (by omega)] at hcell
              have hbit := bitAt_le bs (p + i)
              have hwl := wrd_lt (bitAt bs) (bitAt_le bs) p i
              have hpw : 2 ^ i ≤ 2 ^ 19 := Nat.pow_le_pow_right (by omega) (by omega)
              have hws : wrd (bitAt bs) p (i + 1) = wrd (bitAt bs) p i + 2 ^ i * bitAt bs (p + i) := rfl
              have HW := Lib.hid hws; clear hws
              generalize bitAt bs (p + i) = b at *
              generalize wrd (bitAt bs) p i = x at *
              rcases Nat.lt_or_ge 0 b with hb | hb
              · obtain rfl : b = 1 := by omega
                go_wp2_with fail
                rw [wrap_add_pow x i hwl hpw]
                go_round
                case rel => exact ⟨i + 1, by omega, by go_num, by omega, by go_num, by rw [HW.out]⟩
                case measure => simp [intOf]; omega
              · obtain rfl : b = 0 := by omega
                go_wp2_with fail
                go_round
                case rel => exact ⟨i + 1, by omega, by go_num, by omega, by go_num, by rw [HW.out]; simp⟩
                case measure => simp [intOf]; omega
          · have hij2 : i = j := by omega
            subst hij2
            by_cases hx : wrd (bitAt bs) p i < n
            · have hfin : uni (bitAt bs) L n (blen (n - 1)) (L + 1) pos = some (wrd (bitAt bs) p i, p + i) := by
                rw [← HU.out]
                cases gk with
                | zero => omega
                | succ f => simp only [uni]; rw [if_neg (by omega), if_pos hx]
              have HF := Lib.hid hfin; clear hfin
              go_wp2_with fail
              go_ret2
              rw [HF.out]
              exact ⟨rfl, rfl⟩
            · go_wp2_with fail
              go_roundg (gk - 1)
              case measure => omega
              case rel =>
                have hi0 : 0 < i := by
                  rcases Nat.eq_zero_or_pos i with e | e
                  · subst e; simp [wrd] at hx; omega
                  · exact e
                refine ⟨p + i, by go_num, hpi, by omega, ?_, rfl⟩
                rw [← HU.out]
                cases gk with
                | zero => omega
                | succ f =>
                  simp only [uni, Nat.add_sub_cancel]
                  rw [if_neg (show ¬ L < p + i by omega), if_neg hx]
end Go.Proofs.Ytamkbboijblooaa
