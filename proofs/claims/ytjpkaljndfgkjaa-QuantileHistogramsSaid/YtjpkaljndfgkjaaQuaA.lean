/- Contracts: quantile's quotient, Median, Quantile, Pages, Page; the law's of and is. -/
import Derived.Test.YtjpkaljndfgkjaaDivF
namespace Go.Proofs.Ytjpkaljndfgkjaa
open Go.RowKit

theorem dig_len_add {a b k : Nat} (ha : (dig a).length ≤ k) (hb : (dig b).length ≤ k) : (dig (a + b)).length ≤ k + 1 := by
  refine dig_len_le ?_
  have h1 := lt_of_dig_len ha
  have h2 := lt_of_dig_len hb
  rw [Nat.pow_succ]; omega
theorem dig_len_mul {a b k l : Nat} (ha : (dig a).length ≤ k) (hb : (dig b).length ≤ l) : (dig (a * b)).length ≤ k + l := by
  refine dig_len_le ?_
  have h1 := lt_of_dig_len ha
  have h2 := lt_of_dig_len hb
  rw [Nat.pow_add]
  exact Nat.mul_lt_mul_of_lt_of_lt h1 h2
theorem dig_len_u64 {a : Nat} (ha : a < 18446744073709551616) : (dig a).length ≤ 2 := dig_len_le (by omega)

theorem of45 (n : Nat) (hn : n < 9223372036854775808) (w : World) :
    Calls Try.prog 26 #[.int .i64 (n : Int)] w (Ret (fun v w' => Nz w' v n) w) := by
  go_enter Try.func26, Try.ntmps26
  go_wp2_with fail
  refine (of_nz n (by omega) _).mono ?_
  rintro e w1 ⟨x, rfl, he, hx⟩
  obtain ⟨X, xn, xc, rfl, -⟩ := Dg.parts hx
  go_wp2_with fail
  go_ret
  exact Ret.mk he hx

theorem is45 {w : World} {u : Value} {a n : Nat} (hu : Nv w u a) (hn : n < 9223372036854775808) :
    Calls Try.prog 27 #[u, .int .i64 (n : Int)] w (Ret (fun x _ => x = .bool (decide (a = n))) w) := by
  go_enter Try.func27, Try.ntmps27
  go_wp2_with fail
  refine (of45 n hn _).mono ?_
  rintro e w1 ⟨x, rfl, he, hx⟩
  go_wp2_with fail
  refine (cmp_nv (hu.ext he) hx.nv).mono ?_
  rintro e w2 ⟨rfl, hq⟩
  have hz := cmpI_zero (a := a) (b := n)
  generalize cmpI a n = c at *
  by_cases h : c = 0
  · have h2 := hz.1 h
    subst h
    clear hz
    go_wp2_with fail
    go_ret
    exact Ret.mk (he.trans hq.ext) (by simp [h2])
  · have h2 : ¬ a = n := fun e => h (hz.2 e)
    clear hz
    have h3 : (c == 0) = false := by simpa using h
    go_wp2_with fail
    go_ret
    exact Ret.mk (he.trans hq.ext) (by simp [h2])

theorem quotient_nv {w : World} {u v : Value} {a b : Nat} (hu : Nv w u a) (hv : Nv w v b) (hb0 : 0 < b) (hla : (dig a).length ≤ 100000) (hlb : (dig b).length ≤ 100000) :
    Calls Try.prog 61 #[u, v] w (Ret (fun x w' => Nz w' x (a / b)) w) := by
  go_enter Try.func61, Try.ntmps61
  go_wp2_with fail
  refine (divMod_any hu hv hb0 hla hlb).mono ?_
  rintro e w1 ⟨A, n, c, B, m, d, rfl, hA, hB, he⟩
  go_wp2_with fail
  go_ret
  exact Ret.mk he hA

theorem median_zero {w : World} {u : Value} (hu : Nv w u 0) :
    Calls Try.prog 40 #[u] w (Ret (fun x _ => x = .tuple #[.slice none 0 0, .slice none 0 0, .int .i64 10]) w) := by
  go_enter Try.func40, Try.ntmps40
  go_wp2_with fail
  refine (of_nz 1 (by omega) _).mono ?_
  rintro e w1 ⟨x, rfl, he, hx⟩
  go_wp2_with fail
  refine (sub_less (hu.ext he) hx.nv (by omega)).mono ?_
  rintro e w2 ⟨rfl, hq⟩
  go_wp2_with fail
  go_ret3
  exact Ret.mk (he.trans hq.ext) rfl

set_option maxHeartbeats 800000 in
theorem median_any {w : World} {u : Value} {n : Nat} (hu : Nv w u n) (h0 : 0 < n) (hl : (dig n).length ≤ 1000) :
    Calls Try.prog 40 #[u] w (Ret (fun x w' => ∃ A n1 c B n2 d, x = .tuple #[.slice A n1 c, .slice B n2 d, .int .i64 0] ∧ Nz w' (.slice A n1 c) ((n - 1) / 2) ∧ Nz w' (.slice B n2 d) (n / 2)) w) := by
  go_enter Try.func40, Try.ntmps40
  go_wp2_with fail
  refine (of_nz 1 (by omega) _).mono ?_
  rintro e w1 ⟨x, rfl, he, hx⟩
  go_wp2_with fail
  refine (sub_nv (hu.ext he) hx.nv h0 (by omega)).mono ?_
  rintro e w2 ⟨_, rfl, he2, d2, rfl, hd2⟩
  have hd3 : (dig (n - 1)).length ≤ 1000 := Nat.le_trans (dig_len_mono (by omega)) hl
  go_wp2_with fail
  refine (of_nz 2 (by omega) _).mono ?_
  rintro e w3 ⟨y, rfl, he3, hy⟩
  go_wp2_with fail
  refine (quotient_nv (hd2.ext he3).nv hy.nv (by omega) (by omega) (Nat.le_trans (dig_len_u64 (by omega)) (by omega))).mono ?_
  rintro e w4 ⟨p, rfl, he4, hp⟩
  go_wp2_with fail
  refine (of_nz 2 (by omega) _).mono ?_
  rintro e w5 ⟨z, rfl, he5, hz⟩
  go_wp2_with fail
  have hw := (((he.trans he2).trans he3).trans he4).trans he5
  refine (quotient_nv (hu.ext hw) hz.nv (by omega) (by omega) (Nat.le_trans (dig_len_u64 (by omega)) (by omega))).mono ?_
  rintro e w6 ⟨q, rfl, he6, hq⟩
  obtain ⟨P, pn, pc, rfl, -⟩ := Dg.parts hp
  obtain ⟨Q, qn, qc, rfl, -⟩ := Dg.parts hq
  go_wp2_with fail
  go_ret3
  exact Ret.mk (hw.trans he6) ⟨_, _, _, _, _, _, rfl, (hp.ext he5).ext he6, hq⟩

/-- What Quantile answers. -/
def quantE (n p q : Nat) : Nat := if q = 0 then 18 else if q < p then 3 else if n = 0 then 10 else 0
def quantV (n p q : Nat) : Nat := if q = 0 then 0 else if q < p then 0 else p * (n - 1) / q

set_option maxHeartbeats 800000 in
theorem quantile_any {w : World} {u : Value} {n p q : Nat} (hu : Nv w u n) (hp : p < 18446744073709551616) (hq : q < 18446744073709551616) (hl : (dig n).length ≤ 1000) :
    Calls Try.prog 41 #[u, .int .u64 (p : Int), .int .u64 (q : Int)] w (Ret (fun x w' => ∃ A n1 c, x = .tuple #[.slice A n1 c, .int .i64 (quantE n p q : Nat)] ∧ Nz w' (.slice A n1 c) (quantV n p q)) w) := by
  by_cases h0 : q = 0
  · subst h0
    go_enter Try.func41, Try.ntmps41
    go_wp2_with fail
    go_ret2
    exact Ret.mk (Ext.refl _) ⟨none, 0, 0, by simp [quantE], by simp [quantV]; exact Nz.nil _⟩
  by_cases h1 : q < p
  · have hb : ((q : Int) == 0) = false := by simp; omega
    go_enter Try.func41, Try.ntmps41
    go_wp2_with fail
    go_ret2
    exact Ret.mk (Ext.refl _) ⟨none, 0, 0, by simp [quantE, h0, h1], by simp [quantV, h0, h1]; exact Nz.nil _⟩
  have hb : ((q : Int) == 0) = false := by simp; omega
  have hc : ¬ (q : Int) < p := by omega
  by_cases h2 : n = 0
  · subst h2
    go_enter Try.func41, Try.ntmps41
    go_wp2_with fail
    refine (of_nz 1 (by omega) _).mono ?_
    rintro e w1 ⟨x, rfl, he, hx⟩
    go_wp2_with fail
    refine (sub_less (hu.ext he) hx.nv (by omega)).mono ?_
    rintro e w2 ⟨rfl, hq⟩
    go_wp2_with fail
    go_ret2
    exact Ret.mk (he.trans hq.ext) ⟨none, 0, 0, by simp [quantE, h0, h1], by simp [quantV, h0, h1]; exact Nz.nil _⟩
  · go_enter Try.func41, Try.ntmps41
    go_wp2_with fail
    refine (of_nz 1 (by omega) _).mono ?_
    rintro e w1 ⟨x, rfl, he, hx⟩
    go_wp2_with fail
    refine (sub_nv (hu.ext he) hx.nv (by omega) (by omega)).mono ?_
    rintro e w2 ⟨_, rfl, he2, d2, rfl, hd2⟩
    have hd3 : (dig (n - 1)).length ≤ 1000 := Nat.le_trans (dig_len_mono (by omega)) hl
    go_wp2_with fail
    refine (of_nz p hp _).mono ?_
    rintro e w3 ⟨y, rfl, he3, hy⟩
    go_wp2_with fail
    refine (mul_nv hy.nv (hd2.ext he3).nv (Nat.le_trans (dig_len_u64 hp) (by omega)) (by omega)).mono ?_
    rintro e w4 ⟨m, rfl, he4, hm⟩
    go_wp2_with fail
    refine (of_nz q hq _).mono ?_
    rintro e w5 ⟨z, rfl, he5, hz⟩
    go_wp2_with fail
    refine (quotient_nv (hm.ext he5).nv hz.nv (by omega) (Nat.le_trans (dig_len_mul (dig_len_u64 hp) hd3) (by omega)) (Nat.le_trans (dig_len_u64 hq) (by omega))).mono ?_
    rintro e w6 ⟨r, rfl, he6, hr⟩
    obtain ⟨R, rn, rc, rfl, -⟩ := Dg.parts hr
    go_wp2_with fail
    go_ret2
    exact Ret.mk (((((he.trans he2).trans he3).trans he4).trans he5).trans he6) ⟨R, rn, rc, by simp [quantE, h0, h1, h2], by simp only [quantV, h0, h1, if_false]; exact hr⟩

theorem pages_zero {w : World} {u : Value} {n : Nat} (_hu : Nv w u n) :
    Calls Try.prog 42 #[u, .int .u64 0] w (Ret (fun x _ => x = .tuple #[.slice none 0 0, .int .i64 18]) w) := by
  go_enter Try.func42, Try.ntmps42
  go_wp2_with fail
  go_ret2
  exact Ret.mk (Ext.refl _) rfl

theorem pages_any {w : World} {u : Value} {n s : Nat} (hu : Nv w u n) (h0 : 0 < s) (hs : s < 18446744073709551616) (hl : (dig n).length ≤ 1000) :
    Calls Try.prog 42 #[u, .int .u64 (s : Int)] w (Ret (fun x w' => ∃ A n1 c, x = .tuple #[.slice A n1 c, .int .i64 0] ∧ Nz w' (.slice A n1 c) ((n + (s - 1)) / s)) w) := by
  have hb : ((s : Int) == 0) = false := by simp; omega
  have hsub : (s : Int) - 1 = ((s - 1 : Nat) : Int) := by omega
  go_enter Try.func42, Try.ntmps42
  go_wp2_with fail
  refine (of_nz (s - 1) (by omega) _).mono ?_
  rintro e w1 ⟨x, rfl, he, hx⟩
  go_wp2_with fail
  refine (add_nv (hu.ext he) hx.nv (by omega) (Nat.le_trans (dig_len_u64 (by omega)) (by omega))).mono ?_
  rintro e w2 ⟨y, rfl, he2, hy⟩
  go_wp2_with fail
  refine (of_nz s hs _).mono ?_
  rintro e w3 ⟨z, rfl, he3, hz⟩
  go_wp2_with fail
  refine (quotient_nv (hy.ext he3).nv hz.nv h0 (Nat.le_trans (dig_len_add hl (Nat.le_trans (dig_len_u64 (by omega)) (by omega))) (by omega)) (Nat.le_trans (dig_len_u64 hs) (by omega))).mono ?_
  rintro e w4 ⟨r, rfl, he4, hr⟩
  obtain ⟨R, rn, rc, rfl, -⟩ := Dg.parts hr
  go_wp2_with fail
  go_ret2
  exact Ret.mk (((he.trans he2).trans he3).trans he4) ⟨_, _, _, rfl, hr⟩

theorem page_zero {w : World} {u v : Value} {n p : Nat} (hu : Nv w u n) (_hv : Nv w v p) :
    Calls Try.prog 43 #[u, .int .u64 0, v] w (Ret (fun x _ => x = .tuple #[.slice none 0 0, .slice none 0 0, .int .i64 18]) w) := by
  go_enter Try.func43, Try.ntmps43
  go_wp2_with fail
  refine (pages_zero hu).mono ?_
  rintro e w1 ⟨x, rfl, he, rfl⟩
  go_wp2_with fail
  go_ret3
  exact Ret.mk he rfl

theorem page_past {w : World} {u v : Value} {n s p : Nat} (hu : Nv w u n) (hv : Nv w v p) (h0 : 0 < s) (hs : s < 18446744073709551616) (hl : (dig n).length ≤ 1000) (hp : (n + (s - 1)) / s ≤ p) :
    Calls Try.prog 43 #[u, .int .u64 (s : Int), v] w (Ret (fun x _ => x = .tuple #[.slice none 0 0, .slice none 0 0, .int .i64 3]) w) := by
  go_enter Try.func43, Try.ntmps43
  go_wp2_with fail
  refine (pages_any hu h0 hs hl).mono ?_
  rintro e w1 ⟨_, rfl, he, A, n1, c, rfl, hA⟩
  go_wp2_with fail
  refine (cmp_nv (hv.ext he) hA.nv).mono ?_
  rintro e w2 ⟨rfl, hq⟩
  have hc : 0 ≤ cmpI p ((n + (s - 1)) / s) := by have := cmpI_neg (a := p) (b := (n + (s - 1)) / s); omega
  generalize cmpI p ((n + (s - 1)) / s) = c at *
  go_wp2_with fail
  go_ret3
  exact Ret.mk (he.trans hq.ext) rfl

/-- The end of a page. -/
def pageHi (n s p : Nat) : Nat := if n < p * s + s then n else p * s + s

set_option maxHeartbeats 800000 in
theorem page_any {w : World} {u v : Value} {n s p : Nat} (hu : Nv w u n) (hv : Nv w v p) (h0 : 0 < s) (hs : s < 18446744073709551616) (hl : (dig n).length ≤ 1000) (hlp : (dig p).length ≤ 1000) (hp : p < (n + (s - 1)) / s) :
    Calls Try.prog 43 #[u, .int .u64 (s : Int), v] w (Ret (fun x w' => ∃ A n1 c B n2 d, x = .tuple #[.slice A n1 c, .slice B n2 d, .int .i64 0] ∧ Nz w' (.slice A n1 c) (p * s) ∧ Nz w' (.slice B n2 d) (pageHi n s p)) w) := by
  go_enter Try.func43, Try.ntmps43
  go_wp2_with fail
  refine (pages_any hu h0 hs hl).mono ?_
  rintro e w1 ⟨_, rfl, he, A, n1, c, rfl, hA⟩
  go_wp2_with fail
  refine (cmp_nv (hv.ext he) hA.nv).mono ?_
  rintro e w2 ⟨rfl, hq⟩
  rw [cmpI_lt hp]
  have he2 := he.trans hq.ext
  clear hA hq
  go_wp2_with fail
  refine (of_nz s hs _).mono ?_
  rintro e w3 ⟨z, rfl, he3, hz⟩
  go_wp2_with fail
  refine (mul_nv ((hv.ext he2).ext he3) hz.nv (by omega) (Nat.le_trans (dig_len_u64 hs) (by omega))).mono ?_
  rintro e w4 ⟨y, rfl, he4, hy⟩
  go_wp2_with fail
  refine (of_nz s hs _).mono ?_
  rintro e w5 ⟨z5, rfl, he5, hz5⟩
  go_wp2_with fail
  have hlm : (dig (p * s)).length ≤ 1002 := Nat.le_trans (dig_len_mul hlp (dig_len_u64 hs)) (by omega)
  refine (add_nv (hy.ext he5).nv hz5.nv (by omega) (Nat.le_trans (dig_len_u64 hs) (by omega))).mono ?_
  rintro e w6 ⟨x6, rfl, he6, hx6⟩
  have hw := (((he2.trans he3).trans he4).trans he5).trans he6
  have hy6 := (hy.ext he5).ext he6
  clear hy hz hz5 he he3 he4 he5 he6 he2
  go_wp2_with fail
  refine (cmp_nv hx6.nv (hu.ext hw)).mono ?_
  rintro e w7 ⟨rfl, hq7⟩
  obtain ⟨Y, yn, yc, rfl, -⟩ := Dg.parts hy6
  by_cases hlt : n < p * s + s
  · rw [cmpI_gt hlt]
    go_wp2_with fail
    refine (norm_nv ((hu.ext hw).ext hq7.ext)).mono ?_
    rintro e w8 ⟨x8, rfl, he8, hx8⟩
    obtain ⟨X, xn, xc, rfl, -⟩ := Dg.parts hx8
    go_wp2_with fail
    go_ret3
    exact Ret.mk ((hw.trans hq7.ext).trans he8) ⟨_, _, _, _, _, _, rfl, (hy6.ext hq7.ext).ext he8, by rw [pageHi, if_pos hlt]; exact hx8⟩
  · have hc : ¬ 0 < cmpI (p * s + s) n := by rw [cmpI_pos]; omega
    generalize cmpI (p * s + s) n = c at *
    obtain ⟨X, xn, xc, rfl, -⟩ := Dg.parts hx6
    go_wp2_with fail
    go_ret3
    exact Ret.mk (hw.trans hq7.ext) ⟨_, _, _, _, _, _, rfl, hy6.ext hq7.ext, by rw [pageHi, if_neg hlt]; exact hx6.ext hq7.ext⟩
end Go.Proofs.Ytjpkaljndfgkjaa
