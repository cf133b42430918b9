/- The walk of QuantileRises. -/
import Derived.Test.YtamkbboijblooaaLawPositions
namespace Go.Proofs.Ytamkbboijblooaa
open Go.RowKit

theorem Nz.cast {w : World} {v : Value} {a b : Nat} (h : Nz w v a) (e : a = b) : Nz w v b := e ▸ h
/-- Cmp, where the first is not above the second. -/
theorem cmp_le {w : World} {u v : Value} {a b : Nat} (ha : Nv w u a) (hb : Nv w v b) (h : a ≤ b) :
    Calls Try.prog 21 #[u, v] w fun e w' => ∃ c : Int, e = .returned (.int .i64 c) ∧ c ≤ 0 ∧ Qt w w' :=
  (cmp_nv ha hb).mono (by
    rintro e w' ⟨rfl, hq⟩
    refine ⟨_, rfl, ?_, hq⟩
    rcases Nat.lt_or_ge a b with hl | hl
    · rw [cmpI_lt hl]; omega
    · rw [cmpI_eq (by omega)]; omega)
theorem cmp_lt {w : World} {u v : Value} {a b : Nat} (ha : Nv w u a) (hb : Nv w v b) (h : a < b) :
    Calls Try.prog 21 #[u, v] w fun e w' => e = .returned (.int .i64 (-1)) ∧ Qt w w' :=
  (cmp_nv ha hb).mono (by rintro e w' ⟨rfl, hq⟩; exact ⟨by rw [cmpI_lt h], hq⟩)
theorem cmp_eq {w : World} {u v : Value} {a : Nat} (ha : Nv w u a) (hb : Nv w v a) :
    Calls Try.prog 21 #[u, v] w fun e w' => e = .returned (.int .i64 0) ∧ Qt w w' :=
  (cmp_nv ha hb).mono (by rintro e w' ⟨rfl, hq⟩; exact ⟨by rw [cmpI_eq rfl], hq⟩)

theorem rise_le (p n q : Nat) : p * (n - 1) / q ≤ (p + 1) * (n - 1) / q := Nat.div_le_div_right (Nat.mul_le_mul_right _ (by omega))
theorem rise_lt {p n q : Nat} (h : p < q) (hn : 0 < n) : (p + 1) * (n - 1) / q < n := by
  have h1 : (p + 1) * (n - 1) / q ≤ q * (n - 1) / q := Nat.div_le_div_right (Nat.mul_le_mul_right _ (by omega))
  rw [Nat.mul_div_cancel_left _ (by omega)] at h1
  omega
theorem rise_one {n q : Nat} (h : 0 < q) : q * (n - 1) / q = n - 1 := Nat.mul_div_cancel_left _ h
theorem rise_zero (n q : Nat) : 0 * (n - 1) / q = 0 := by simp

set_option maxRecDepth 20000 in
set_option maxHeartbeats 1600000 in
theorem rises_long {w : World} {v : Value} {ds : List Nat} {p q : Nat} (hd : Dg w v ds) (_hp : p < 18446744073709551616) (_hq : q < 18446744073709551616) (hlen : Hid (40 < ds.length)) :
    Calls Try.prog 11 #[v, .int .u64 (p : Int), .int .u64 (q : Int)] w (Ret (fun x _ => x = .bool true) w) := by
  have hnv := hd.nv
  have hlow := dig_len_ds hd.1
  obtain ⟨A, n, c, rfl, hn, -⟩ := hd.parts
  have HN := Lib.hid hn
  clear hn hd
  have hlen' : decide ((40 : Int) < n) = true := by have := hlen.out; have := HN.out; simp; omega
  clear hlow hnv hlen HN
  go_enter Try.func11, Try.ntmps11
  go_wp2_with fail
  refine (awake45 _).mono ?_
  rintro e w1 ⟨_, rfl, he1, rfl⟩
  have hx := he1
  clear he1
  go_wp2_with fail
  go_ret
  exact Ret.mk hx rfl

set_option maxRecDepth 20000 in
set_option maxHeartbeats 1600000 in
theorem rises_z {w : World} {v : Value} {ds : List Nat} {p q : Nat} (hd : Dg w v ds) (_hp : p < 18446744073709551616) (_hq : q < 18446744073709551616) (hlen : Hid (ds.length ≤ 40)) (H0 : Hid (val ds = 0)) :
    Calls Try.prog 11 #[v, .int .u64 (p : Int), .int .u64 (q : Int)] w (Ret (fun x _ => x = .bool true) w) := by
  have hnv := hd.nv
  have hlow := dig_len_ds hd.1
  obtain ⟨A, n, c, rfl, hn, -⟩ := hd.parts
  have HN := Lib.hid hn
  clear hn hd
  have hlen' : decide ((40 : Int) < n) = false := by have := hlen.out; have := HN.out; simp; omega
  have hl40 : (dig (val ds)).length ≤ 40 := by have := hlen.out; omega
  clear hlow hlen HN
  rw [H0.out] at hnv hl40
  clear H0
  go_enter Try.func11, Try.ntmps11
  go_wp2_with fail
  refine (awake45 _).mono ?_
  rintro e w1 ⟨_, rfl, he1, rfl⟩
  replace hnv := hnv.ext he1
  have hx := he1
  clear he1
  go_wp2_with fail
  refine (bits_nv hnv (by omega)).mono ?_
  rintro e w2 ⟨rfl, hq2⟩
  have he2 := hq2.ext
  replace hnv := hnv.ext he2
  replace hx := hx.trans he2
  clear he2 hq2
  rw [show blen 0 = 0 from rfl]
  go_wp2_with fail
  go_ret
  exact Ret.mk hx rfl

set_option maxRecDepth 20000 in
set_option maxHeartbeats 1600000 in
theorem rises_q0 {w : World} {v : Value} {ds : List Nat} {p q : Nat} (hd : Dg w v ds) (_hp : p < 18446744073709551616) (hq : q < 18446744073709551616) (hlen : Hid (ds.length ≤ 40)) (H0 : 0 < val ds) (HC : Hid (q = 0)) :
    Calls Try.prog 11 #[v, .int .u64 (p : Int), .int .u64 (q : Int)] w (Ret (fun x _ => x = .bool true) w) := by
  have hnv := hd.nv
  have hlow := dig_len_ds hd.1
  obtain ⟨A, n, c, rfl, hn, -⟩ := hd.parts
  have HN := Lib.hid hn
  clear hn hd
  have hlen' : decide ((40 : Int) < n) = false := by have := hlen.out; have := HN.out; simp; omega
  have hl40 : (dig (val ds)).length ≤ 40 := by have := hlen.out; omega
  clear hlow hlen HN
  generalize val ds = N at *
  have hb0 := blen_pos H0
  have hbl : ((blen N : Int) == 0) = false := by simp; omega
  clear hb0
  obtain rfl : q = 0 := HC.out
  clear HC
  go_enter Try.func11, Try.ntmps11
  go_wp2_with fail
  refine (awake45 _).mono ?_
  rintro e w1 ⟨_, rfl, he1, rfl⟩
  replace hnv := hnv.ext he1
  have hx := he1
  clear he1
  go_wp2_with fail
  refine (bits_nv hnv (by omega)).mono ?_
  rintro e w2 ⟨rfl, hq2⟩
  have he2 := hq2.ext
  replace hnv := hnv.ext he2
  replace hx := hx.trans he2
  clear he2 hq2
  go_wp2_with fail
  go_ret
  exact Ret.mk hx rfl

set_option maxRecDepth 20000 in
set_option maxHeartbeats 1600000 in
theorem rises_ge {w : World} {v : Value} {ds : List Nat} {p q : Nat} (hd : Dg w v ds) (_hp : p < 18446744073709551616) (hq : q < 18446744073709551616) (hlen : Hid (ds.length ≤ 40)) (H0 : 0 < val ds) (HC : Hid (0 < q ∧ q ≤ p)) :
    Calls Try.prog 11 #[v, .int .u64 (p : Int), .int .u64 (q : Int)] w (Ret (fun x _ => x = .bool true) w) := by
  have hnv := hd.nv
  have hlow := dig_len_ds hd.1
  obtain ⟨A, n, c, rfl, hn, -⟩ := hd.parts
  have HN := Lib.hid hn
  clear hn hd
  have hlen' : decide ((40 : Int) < n) = false := by have := hlen.out; have := HN.out; simp; omega
  have hl40 : (dig (val ds)).length ≤ 40 := by have := hlen.out; omega
  clear hlow hlen HN
  generalize val ds = N at *
  have hb0 := blen_pos H0
  have hbl : ((blen N : Int) == 0) = false := by simp; omega
  clear hb0
  obtain ⟨h1, h2⟩ := HC.out
  clear HC
  have hq0 : ((q : Int) == 0) = false := by simp; omega
  have hpq : decide (q ≤ p) = true := by simp; omega
  clear h1 h2
  go_enter Try.func11, Try.ntmps11
  go_wp2_with fail
  refine (awake45 _).mono ?_
  rintro e w1 ⟨_, rfl, he1, rfl⟩
  replace hnv := hnv.ext he1
  have hx := he1
  clear he1
  go_wp2_with fail
  refine (bits_nv hnv (by omega)).mono ?_
  rintro e w2 ⟨rfl, hq2⟩
  have he2 := hq2.ext
  replace hnv := hnv.ext he2
  replace hx := hx.trans he2
  clear he2 hq2
  go_wp2_with fail
  go_ret
  exact Ret.mk hx rfl

set_option maxRecDepth 20000 in
set_option maxHeartbeats 1600000 in
theorem rises_ok {w : World} {v : Value} {ds : List Nat} {p q : Nat} (hd : Dg w v ds) (hp : p < 18446744073709551616) (hq : q < 18446744073709551616) (hlen : Hid (ds.length ≤ 40)) (H0 : 0 < val ds) (HC : p < q) :
    Calls Try.prog 11 #[v, .int .u64 (p : Int), .int .u64 (q : Int)] w (Ret (fun x _ => x = .bool true) w) := by
  have hnv := hd.nv
  have hlow := dig_len_ds hd.1
  obtain ⟨A, n, c, rfl, hn, -⟩ := hd.parts
  have HN := Lib.hid hn
  clear hn hd
  have hlen' : decide ((40 : Int) < n) = false := by have := hlen.out; have := HN.out; simp; omega
  have hl40 : (dig (val ds)).length ≤ 40 := by have := hlen.out; omega
  clear hlow hlen HN
  generalize val ds = N at *
  have hb0 := blen_pos H0
  have hbl : ((blen N : Int) == 0) = false := by simp; omega
  clear hb0
  have h1 : 0 < q := by omega
  have hq0 : ((q : Int) == 0) = false := by simp; omega
  have hpq : decide (q ≤ p) = false := by simp; omega
  go_enter Try.func11, Try.ntmps11
  go_wp2_with fail
  refine (awake45 _).mono ?_
  rintro e w1 ⟨_, rfl, he1, rfl⟩
  replace hnv := hnv.ext he1
  have hx := he1
  clear he1
  go_wp2_with fail
  refine (bits_nv hnv (by omega)).mono ?_
  rintro e w2 ⟨rfl, hq2⟩
  have he2 := hq2.ext
  replace hnv := hnv.ext he2
  replace hx := hx.trans he2
  clear he2 hq2
  go_wp2_with fail
  refine (quantile_ok hnv H0 hq h1 (by omega) hl40).mono ?_
  rintro e w3 ⟨_, rfl, he3, A2, a2, c2, rfl, hqa⟩
  replace hnv := hnv.ext he3
  replace hx := hx.trans he3
  clear he3
  go_wp2_with fail
  rw [show ((p : Int) + 1) = ((p + 1 : Nat) : Int) by omega]
  refine (quantile_ok (p := p + 1) hnv H0 hq h1 (by omega) hl40).mono ?_
  rintro e w4 ⟨_, rfl, he4, A3, a3, c3, rfl, hqb⟩
  replace hnv := hnv.ext he4
  replace hqa := hqa.ext he4
  replace hx := hx.trans he4
  clear he4
  go_wp2_with fail
  refine (quantile_ok (p := 0) hnv H0 hq h1 (by omega) hl40).mono ?_
  rintro e w5 ⟨_, rfl, he5, A4, a4, c4, rfl, hqc⟩
  replace hnv := hnv.ext he5
  replace hqa := hqa.ext he5
  replace hqb := hqb.ext he5
  replace hx := hx.trans he5
  clear he5
  replace hqc := hqc.cast (rise_zero _ _)
  go_wp2_with fail
  refine (quantile_ok (p := q) hnv H0 hq h1 (by omega) hl40).mono ?_
  rintro e w6 ⟨_, rfl, he6, A5, a5, c5, rfl, hqd⟩
  replace hnv := hnv.ext he6
  replace hqa := hqa.ext he6
  replace hqb := hqb.ext he6
  replace hqc := hqc.ext he6
  replace hx := hx.trans he6
  clear he6
  replace hqd := hqd.cast (rise_one h1)
  go_wp2_with fail
  refine (cmp_le hqa.nv hqb.nv (rise_le _ _ _)).mono ?_
  rintro e w7 ⟨ce, rfl, hce, hQhe7⟩
  have he7 := hQhe7.ext
  clear hQhe7
  replace hnv := hnv.ext he7
  replace hqa := hqa.ext he7
  replace hqb := hqb.ext he7
  replace hqc := hqc.ext he7
  replace hqd := hqd.ext he7
  replace hx := hx.trans he7
  clear he7
  go_wp2_with fail
  refine (bits_nv hqc.nv (by rw [dig_zero]; simp)).mono ?_
  rintro e w8 ⟨rfl, hq8⟩
  have he8 := hq8.ext
  replace hnv := hnv.ext he8
  replace hqa := hqa.ext he8
  replace hqb := hqb.ext he8
  replace hqc := hqc.ext he8
  replace hqd := hqd.ext he8
  replace hx := hx.trans he8
  clear he8 hq8
  rw [show blen 0 = 0 from rfl]
  go_wp2_with fail
  refine (of45 1 (by omega) _).mono ?_
  rintro e w9 ⟨_, rfl, he9, h1'⟩
  replace hnv := hnv.ext he9
  replace hqa := hqa.ext he9
  replace hqb := hqb.ext he9
  replace hqc := hqc.ext he9
  replace hqd := hqd.ext he9
  replace hx := hx.trans he9
  clear he9
  go_wp2_with fail
  refine (add_nv hqd.nv h1'.nv (Nat.le_trans (dlm (Nat.sub_le _ _) hl40) (by omega)) (Nat.le_trans (dl (by omega)) (by omega))).mono ?_
  rintro e w10 ⟨_, rfl, he10, hs⟩
  replace hnv := hnv.ext he10
  replace hqa := hqa.ext he10
  replace hqb := hqb.ext he10
  replace hqc := hqc.ext he10
  replace hqd := hqd.ext he10
  replace h1' := h1'.ext he10
  replace hx := hx.trans he10
  clear he10
  replace hs := hs.cast (show N - 1 + 1 = N by omega)
  go_wp2_with fail
  refine (cmp_eq hs.nv hnv).mono ?_
  rintro e w11 ⟨rfl, hq11⟩
  have he11 := hq11.ext
  replace hnv := hnv.ext he11
  replace hqa := hqa.ext he11
  replace hqb := hqb.ext he11
  replace hqc := hqc.ext he11
  replace hqd := hqd.ext he11
  replace h1' := h1'.ext he11
  replace hs := hs.ext he11
  replace hx := hx.trans he11
  clear he11 hq11
  go_wp2_with fail
  refine (cmp_lt hqb.nv hnv (rise_lt HC H0)).mono ?_
  rintro e w12 ⟨rfl, hq12⟩
  have he12 := hq12.ext
  replace hnv := hnv.ext he12
  replace hqa := hqa.ext he12
  replace hqb := hqb.ext he12
  replace hqc := hqc.ext he12
  replace hqd := hqd.ext he12
  replace h1' := h1'.ext he12
  replace hs := hs.ext he12
  replace hx := hx.trans he12
  clear he12 hq12
  go_wp2_with fail
  go_ret
  exact Ret.mk hx rfl


theorem law_rises {w : World} {v : Value} {ds : List Nat} {p q : Nat} (hd : Dg w v ds) (hp : p < 18446744073709551616) (hq : q < 18446744073709551616) :
    Calls Try.prog 11 #[v, .int .u64 (p : Int), .int .u64 (q : Int)] w (Ret (fun x _ => x = .bool true) w) := by
  by_cases hlen : ds.length ≤ 40
  · by_cases h0 : val ds = 0
    · exact rises_z hd hp hq (Lib.hid hlen) (Lib.hid h0)
    · by_cases h1 : q = 0
      · exact rises_q0 hd hp hq (Lib.hid hlen) (by omega) (Lib.hid h1)
      · by_cases h2 : p < q
        · exact rises_ok hd hp hq (Lib.hid hlen) (by omega) h2
        · exact rises_ge hd hp hq (Lib.hid hlen) (by omega) (Lib.hid ⟨by omega, by omega⟩)
  · exact rises_long hd hp hq (Lib.hid (by omega))
end Go.Proofs.Ytamkbboijblooaa
