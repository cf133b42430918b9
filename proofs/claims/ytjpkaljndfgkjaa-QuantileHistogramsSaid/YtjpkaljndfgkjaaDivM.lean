/- Plain law: long division, a place at a time (no program in sight). -/
import Derived.Test.YtjpkaljndfgkjaaMath
namespace Go.Proofs.Ytjpkaljndfgkjaa

/-- One step of subtracting f times v: the product's low digit and the borrow are taken off a digit. -/
def sdig (u c b : Nat) : Nat := (u + 2 * 4294967296 - c % 4294967296 - b) % 4294967296
def sbor (u c b : Nat) : Nat := if u < c % 4294967296 + b then 1 else 0
theorem sdig_lt (u c b : Nat) : sdig u c b < 4294967296 := Nat.mod_lt _ (by omega)
theorem sbor_le (u c b : Nat) : sbor u c b ≤ 1 := by unfold sbor; split <;> omega
theorem sdig_eq (u c b : Nat) (hu : u < 4294967296) (hb : b ≤ 1) : sdig u c b + c % 4294967296 + b = u + 4294967296 * sbor u c b := by
  unfold sdig sbor
  have : c % 4294967296 < 4294967296 := Nat.mod_lt _ (by omega)
  split <;> omega

theorem sub_prod_step (out : List Nat) (i U V f u v c c' b P : Nat) (hP : P = 4294967296 ^ i) (hi : out.length = i) (hu : u < 4294967296) (hb : b ≤ 1) (hc' : c' = c + f * v)
    (h : val out + f * V = U + P * (c + b)) :
    val (out ++ [sdig u c' b]) + f * (V + P * v) = (U + P * u) + P * 4294967296 * (c' / 4294967296 + sbor u c' b) := by
  have e := sdig_eq u c' b hu hb
  have m := Nat.mod_add_div c' 4294967296
  rw [val_snoc, hi, ← hP]
  have e2 := congrArg (fun z => P * z) e
  have m2 := congrArg (fun z => P * z) m
  simp only [Nat.mul_add] at e2 m2 h ⊢
  rw [hc'] at m2
  simp only [Nat.mul_add] at m2
  have r1 : f * (P * v) = P * (f * v) := by rw [Nat.mul_left_comm]
  have r2 : P * 4294967296 * (c' / 4294967296) = P * (4294967296 * (c' / 4294967296)) := Nat.mul_assoc _ _ _
  have r3 : P * 4294967296 * sbor u c' b = P * (4294967296 * sbor u c' b) := Nat.mul_assoc _ _ _
  rw [r1, r2, r3]
  rw [hc'] at e2 ⊢
  omega

/-- Adding back, without the last carry. -/
theorem add_back_step (out : List Nat) (i U V u v c s P : Nat) (hP : P = 4294967296 ^ i) (hi : out.length = i) (hs : s = c + (u + v)) (h : val out + P * c = U + V) :
    val (out ++ [s % 4294967296]) + P * 4294967296 * (s / 4294967296) = (U + P * u) + (V + P * v) := by
  have m := congrArg (fun z => P * z) (Nat.mod_add_div s 4294967296)
  simp only [Nat.mul_add] at m
  rw [val_snoc, hi, ← hP, Nat.mul_assoc]
  rw [hs] at m ⊢
  simp only [Nat.mul_add] at m ⊢
  omega

/-- The digit that is guessed from three digits and two. -/
theorem guess_lower (q v1 V P top Pv lo : Nat) (hq : q * V ≤ Pv) (hV : v1 * P ≤ V) (hPv : Pv = top * P + lo) (hlo : lo < P) : q * v1 ≤ top := by
  have h1 : q * (v1 * P) ≤ q * V := Nat.mul_le_mul_left _ hV
  rcases Nat.lt_or_ge top (q * v1) with h | h
  · have h2 : (top + 1) * P ≤ q * v1 * P := Nat.mul_le_mul_right _ h
    rw [Nat.mul_assoc] at h2
    rw [Nat.add_mul, Nat.one_mul] at h2
    omega
  · exact h

theorem guess_upper (g V2 V P U3 Pv lo vlo q : Nat) (hg : g * V2 ≤ U3) (hPv : Pv = U3 * P + lo) (hV : V = V2 * P + vlo) (hvlo : vlo < P) (hgB : g ≤ 4294967296) (hVbig : 4294967296 * P ≤ V) (hq : Pv < (q + 1) * V) : g ≤ q + 1 := by
  have h1 : g * V2 * P ≤ U3 * P := Nat.mul_le_mul_right _ hg
  have h2 : g * vlo ≤ 4294967296 * P := Nat.mul_le_mul hgB (Nat.le_of_lt hvlo)
  have h3 : g * V = g * V2 * P + g * vlo := by rw [hV, Nat.mul_add, Nat.mul_assoc]
  rcases Nat.lt_or_ge (q + 1) g with h | h
  · have h4 : (q + 2) * V ≤ g * V := Nat.mul_le_mul_right _ h
    have h5 : (q + 2) * V = (q + 1) * V + V := by rw [show q + 2 = (q + 1) + 1 from rfl, Nat.add_mul (q + 1) 1, Nat.one_mul]
    omega
  · exact h

/-- The last n digits of a slice of digits, by the number. -/
theorem val_top1 (l : List Nat) (n : Nat) (h : l.length = n + 1) : val l = val (l.take n) + 4294967296 ^ n * l.getD n 0 := by
  have e := val_split l n
  rw [Nat.min_eq_left (by omega), List.drop_eq_getElem_cons (show n < l.length by omega), List.drop_of_length_le (by omega)] at e
  rw [e]; simp [val, List.getD, show n < l.length by omega]

/-- What normalising by a shift gives: the divisor has n digits, the greatest at least half of the base. -/
theorem norm_shift (b n td s L : Nat) (hn : 1 ≤ n) (hlo : 4294967296 ^ (n - 1) * td ≤ b) (hhi : b < 4294967296 ^ (n - 1) * (td + 1)) (hs : s + L = 32) (h1 : 2 ^ (L - 1) ≤ td) (hL : 1 ≤ L) (h2 : td < 2 ^ L) :
    b * 2 ^ s < 4294967296 ^ n ∧ 2147483648 * 4294967296 ^ (n - 1) ≤ b * 2 ^ s := by
  have hp : 4294967296 ^ n = 4294967296 ^ (n - 1) * 4294967296 := by have := Nat.pow_succ 4294967296 (n - 1); rwa [show (n - 1).succ = n by omega] at this
  have e32 : 2 ^ L * 2 ^ s = 4294967296 := by rw [← Nat.pow_add, show L + s = 32 by omega]
  have e31 : 2 ^ (L - 1) * 2 ^ s = 2147483648 := by rw [← Nat.pow_add, show L - 1 + s = 31 by omega]
  have hpos : 0 < 2 ^ s := Nat.pow_pos (by omega)
  constructor
  · have h3 : b < 4294967296 ^ (n - 1) * 2 ^ L := Nat.lt_of_lt_of_le hhi (Nat.mul_le_mul_left _ h2)
    have h4 := Nat.mul_lt_mul_of_pos_right h3 hpos
    rw [Nat.mul_assoc, e32] at h4
    rw [hp]; exact h4
  · have h3 : 4294967296 ^ (n - 1) * 2 ^ (L - 1) ≤ b := Nat.le_trans (Nat.mul_le_mul_left _ h1) hlo
    have h4 := Nat.mul_le_mul_right (2 ^ s) h3
    rw [Nat.mul_assoc, e31, Nat.mul_comm] at h4
    exact h4

/-- Digits above a bound are zeros. -/
theorem val_take_of_lt {l : List Nat} {n : Nat} (hl : n ≤ l.length) (h : val l < 4294967296 ^ n) : val (l.take n) = val l ∧ val (l.drop n) = 0 := by
  have e := val_split l n
  rw [Nat.min_eq_left hl] at e
  rcases Nat.eq_zero_or_pos (val (l.drop n)) with z | z
  · rw [z] at e; exact ⟨by omega, z⟩
  · have := Nat.mul_le_mul_left (4294967296 ^ n) z
    omega

/-- The greatest digit of a number that is large enough. -/
theorem top_ge (l : List Nat) (n c : Nat) (hn : 1 ≤ n) (hl : l.length = n) (hlow : Low l) (h : c * 4294967296 ^ (n - 1) ≤ val l) : c ≤ l.getD (n - 1) 0 := by
  have e := val_top1 l (n - 1) (by omega)
  have m := val_lt (hlow.take (n - 1))
  rw [List.length_take, Nat.min_eq_left (by omega)] at m
  rcases Nat.lt_or_ge (l.getD (n - 1) 0) c with h1 | h1
  · have h2 := Nat.mul_le_mul_left (4294967296 ^ (n - 1)) (Nat.succ_le_of_lt h1)
    rw [Nat.mul_succ] at h2
    rw [Nat.mul_comm] at h
    omega
  · exact h1

/-- One round of long division on the whole row. -/
theorem div_round (cu part part' : List Nat) (qs : List Nat) (U V j n q : Nat) (hcu : cu = cu.take j ++ part ++ cu.drop (j + n + 1)) (hj : j ≤ cu.length) (_hpl : part.length = n + 1) (_hpl' : part'.length = n + 1)
    (hpost : val (cu.drop (j + n + 1)) = 0) (hq : val part = q * V + val part') (hU : U = val cu + val qs * 4294967296 ^ (j + 1) * V) :
    U = val (cu.take j ++ part' ++ cu.drop (j + n + 1)) + val (q :: qs) * 4294967296 ^ j * V ∧ val ((cu.take j ++ part' ++ cu.drop (j + n + 1)).drop j) = val part' := by
  have hlj : (cu.take j).length = j := by rw [List.length_take]; exact Nat.min_eq_left hj
  have e1 : val cu = val (cu.take j) + 4294967296 ^ j * val part := by
    conv => lhs; rw [hcu]
    rw [List.append_assoc, val_append, val_append, hpost, hlj]; simp
  have e2 : val (cu.take j ++ part' ++ cu.drop (j + n + 1)) = val (cu.take j) + 4294967296 ^ j * val part' := by
    rw [List.append_assoc, val_append, val_append, hpost, hlj]; simp
  constructor
  · rw [hU, e1, e2, hq]
    simp only [val, Nat.pow_succ, Nat.mul_add, Nat.add_mul]
    have r1 : 4294967296 ^ j * (q * V) = q * 4294967296 ^ j * V := by rw [Nat.mul_left_comm, ← Nat.mul_assoc]
    have r2 : val qs * (4294967296 ^ j * 4294967296) * V = 4294967296 * val qs * 4294967296 ^ j * V := by
      rw [Nat.mul_comm (4294967296 ^ j) 4294967296, ← Nat.mul_assoc (val qs), Nat.mul_comm (val qs) 4294967296]
    rw [r1, r2]; omega
  · rw [List.append_assoc, List.drop_append_of_le_length (by omega), List.drop_of_length_le (by omega), List.nil_append, val_append, hpost]; simp

theorem val_drop_succ (l : List Nat) (j : Nat) (h : j < l.length) : val (l.drop j) = l.getD j 0 + 4294967296 * val (l.drop (j + 1)) := by
  rw [List.drop_eq_getElem_cons h]; simp [val, List.getD, h]

end Go.Proofs.Ytjpkaljndfgkjaa
