/- The walk of QuantilePages. -/
import Derived.Test.YtamkbboijblooaaLawRises
import Derived.Test.YtamkbboijblooaaRefQ
namespace Go.Proofs.Ytamkbboijblooaa
open Go.RowKit

/-- Where page i begins: the end of the pages before it. -/
def endAt (n s i : Nat) : Nat := min (i * s) n
theorem pageHi_end (n s p : Nat) : pageHi n s p = endAt n s (p + 1) := by
  unfold pageHi endAt; rw [Nat.add_mul]; split <;> omega
theorem endAt_lt {n s i : Nat} (h : i * s < n) : endAt n s i = i * s := by unfold endAt; omega
theorem endAt_le (n s i : Nat) : endAt n s i ≤ n := by unfold endAt; omega
theorem endAt_all {n s i : Nat} (h : n ≤ i * s) : endAt n s i = n := by unfold endAt; omega
theorem endAt_zero (n s : Nat) : endAt n s 0 = 0 := by simp [endAt]
theorem mod600 (n : Nat) : (n : Int) % 600 = ((n % 600 : Nat) : Int) := by omega
theorem pages_great {m s : Nat} (hm : m < 600) (hs : 1000 ≤ s) (h0 : 0 < m) : (m + (s - 1)) / s = 1 := by
  rw [Nat.div_eq_iff (by omega)]; constructor <;> omega
theorem pages_none {s : Nat} (hs : 0 < s) : (0 + (s - 1)) / s = 0 := Nat.div_eq_of_lt (by omega)

set_option maxRecDepth 20000 in
set_option maxHeartbeats 3200000 in
theorem pages_s0 {w : World} {n s : Nat} (hn : n < 65536) (_hs : s < 18446744073709551616) (H0 : Hid (s = 0)) :
    Calls Try.prog 8 #[.int .u16 (n : Int), .int .u64 (s : Int)] w (Ret (fun x _ => x = .bool true) w) := by
  have hm600 : n % 600 < 600 := Nat.mod_lt _ (by omega)
  have hmod := mod600 n
  generalize n % 600 = m at *
  clear _hs
  obtain rfl : s = 0 := H0.out
  clear H0
  go_enter Try.func8, Try.ntmps8
  go_wp2_with fail
  refine (awake45 _).mono ?_
  rintro e w1 ⟨_, rfl, he1, rfl⟩
  have hx := he1
  clear he1
  go_wp2_with fail
  refine (of45 m (by omega) _).mono ?_
  rintro e w2 ⟨_, rfl, he2, h1⟩
  replace hx := hx.trans he2
  clear he2
  go_wp2_with fail
  refine (pages_zero h1.nv).mono ?_
  rintro e w3 ⟨_, rfl, he3, rfl⟩
  replace h1 := h1.ext he3
  replace hx := hx.trans he3
  clear he3
  go_wp2_with fail
  refine (of45 m (by omega) _).mono ?_
  rintro e w4 ⟨_, rfl, he4, h2⟩
  replace h1 := h1.ext he4
  replace hx := hx.trans he4
  clear he4
  go_wp2_with fail
  refine (page_zero h2.nv (Nz.nil _).nv).mono ?_
  rintro e w5 ⟨_, rfl, he5, rfl⟩
  replace h1 := h1.ext he5
  replace h2 := h2.ext he5
  replace hx := hx.trans he5
  clear he5
  go_wp2_with fail
  go_ret
  exact Ret.mk hx rfl

theorem page_first {w : World} {u v : Value} {n s : Nat} (hu : Nv w u n) (hv : Nv w v 0) (h0 : 0 < s) (hs : s < 18446744073709551616) (hn : n < 600) :
    Calls Try.prog 37 #[u, .int .u64 (s : Int), v] w (Ret (fun x _ => ∃ A n1 c B n2 d e, x = .tuple #[.slice A n1 c, .slice B n2 d, .int .i64 e]) w) := by
  by_cases h : 0 < n
  · refine (page_any hu hv h0 hs (dl (by omega)) (dl (by omega)) ((lt_pages h0).1 (by omega))).mono ?_
    rintro e w' ⟨x, rfl, he, A, n1, c, B, n2, d, rfl, -, -⟩
    exact Ret.mk he ⟨A, n1, c, B, n2, d, 0, rfl⟩
  · obtain rfl : n = 0 := by omega
    refine (page_past hu hv h0 hs (dl (by omega)) (by rw [pages_none h0]; omega)).mono ?_
    rintro e w' ⟨x, rfl, he, rfl⟩
    exact Ret.mk he ⟨none, 0, 0, none, 0, 0, 3, rfl⟩

set_option maxRecDepth 20000 in
set_option maxHeartbeats 3200000 in
theorem pages_small {w : World} {n s : Nat} (hn : n < 65536) (hs : s < 18446744073709551616) (H0 : 0 < s) (hss : s < 1000) :
    Calls Try.prog 8 #[.int .u16 (n : Int), .int .u64 (s : Int)] w (Ret (fun x _ => x = .bool true) w) := by
  have hm600 : n % 600 < 600 := Nat.mod_lt _ (by omega)
  have hmod := mod600 n
  have hs0 : ((s : Int) == 0) = false := by simp; omega
  generalize n % 600 = m at *
  obtain ⟨C, hC⟩ : ∃ C, C = (m + (s - 1)) / s := ⟨_, rfl⟩
  have HP : ∀ k, k * s < m ↔ k < C := fun k => by rw [hC]; exact lt_pages H0
  have HP := Lib.hid HP
  have HC := Lib.hid hC
  clear hC
  have hC2 : C ≤ 600 := by
    rcases Nat.lt_or_ge 600 C with h | h
    · have h1 := (HP.out 600).2 h
      have h2 : 600 * 1 ≤ 600 * s := Nat.mul_le_mul_left _ H0
      omega
    · exact h
  have hlt : (s : Int) < 1000 := by omega
  go_enter Try.func8, Try.ntmps8
  go_wp2_with fail
  refine (awake45 _).mono ?_
  rintro e w1 ⟨_, rfl, he1, rfl⟩
  have hx := he1
  clear he1
  go_wp2_with fail
  refine (of45 m (by omega) _).mono ?_
  rintro e w2 ⟨_, rfl, he2, h1⟩
  replace hx := hx.trans he2
  clear he2
  go_wp2_with fail
  refine (pages_any h1.nv H0 hs (dl (by omega))).mono ?_
  rintro e w3 ⟨_, rfl, he3, A1, a1, c1, rfl, hpg⟩
  replace h1 := h1.ext he3
  replace hx := hx.trans he3
  clear he3
  rw [← HC.out] at hpg
  go_wp2_with fail
  refine (of45 m (by omega) _).mono ?_
  rintro e w4 ⟨_, rfl, he4, h2⟩
  replace h1 := h1.ext he4
  replace hpg := hpg.ext he4
  replace hx := hx.trans he4
  clear he4
  go_wp2_with fail
  refine (page_first h2.nv (Nz.nil _).nv H0 hs (by omega)).mono ?_
  rintro e w5 ⟨_, rfl, he5, A2, a2, c2, B2, b2, d2, e2, rfl⟩
  replace h1 := h1.ext he5
  replace hpg := hpg.ext he5
  replace h2 := h2.ext he5
  replace hx := hx.trans he5
  clear he5
  go_wp2_with fail
  refine (refPages (n := m) H0 (by omega) (by omega)).mono ?_
  rintro e w6 ⟨rfl, rfl⟩
  rw [← HC.out]
  go_wp2_with fail
  refine (is45_yes (n := C) hpg.nv (by omega)).mono ?_
  rintro e w7 ⟨_, rfl, he7, rfl⟩
  replace h1 := h1.ext he7
  replace hpg := hpg.ext he7
  replace h2 := h2.ext he7
  replace hx := hx.trans he7
  clear he7
  clear hpg
  clear h1
  clear h2
  go_wp2_with fail
  obtain ⟨wS, rfl⟩ : ∃ wS : World, wS = w7 := ⟨_, rfl⟩
  go_loopw [12, 13] (fun t q wr => ∃ (i : Nat), i ≤ C ∧ q = .int .i64 i ∧ Nz wr t (endAt m s i) ∧ (∃ A a c, t = .slice A a c) ∧ Ext w wr) (fun _ q _ => C - (intOf q).toNat)
  case atStart => exact ⟨0, Nat.zero_le _, rfl, (Nz.nil _).cast (endAt_zero _ _).symm, ⟨_, _, _, rfl⟩, hx⟩
  case round =>
    clear hx
    obtain ⟨i, hi, rfl, hend, ⟨A0, a0, c0, rfl⟩, hx⟩ := hrel
    by_cases hic : i < C
    · have hbeg := (HP.out i).2 hic
      replace hend := hend.cast (endAt_lt hbeg)
      go_wp2_with fail
      refine (of45 m (by omega) _).mono ?_
      rintro e w8 ⟨_, rfl, he8, h3⟩
      replace hend := hend.ext he8
      replace hx := hx.trans he8
      clear he8
      go_wp2_with fail
      refine (of45 i (by omega) _).mono ?_
      rintro e w9 ⟨_, rfl, he9, h4⟩
      replace hend := hend.ext he9
      replace h3 := h3.ext he9
      replace hx := hx.trans he9
      clear he9
      go_wp2_with fail
      refine (page_any (p := i) h3.nv h4.nv H0 hs (dl (by omega)) (dl (by omega)) (by rw [← HC.out]; exact hic)).mono ?_
      rintro e w10 ⟨_, rfl, he10, A3, a3, c3, B3, b3, d3, rfl, hlo, hhi⟩
      replace hend := hend.ext he10
      replace h3 := h3.ext he10
      replace h4 := h4.ext he10
      replace hx := hx.trans he10
      clear he10
      clear h3
      clear h4
      replace hhi := hhi.cast (pageHi_end _ _ _)
      have hle := endAt_le m s (i + 1)
      have hge : i * s < endAt m s (i + 1) := by unfold endAt; rw [Nat.add_mul]; omega
      go_wp2_with fail
      refine (sub_nv hhi.nv hlo.nv (by omega) (Nat.le_trans (dl (by omega)) (by omega))).mono ?_
      rintro e w11 ⟨_, rfl, he11, len, rfl, hlen⟩
      replace hend := hend.ext he11
      replace hlo := hlo.ext he11
      replace hhi := hhi.ext he11
      replace hx := hx.trans he11
      clear he11
      go_wp2_with fail
      refine (cmp_eq hlo.nv hend.nv).mono ?_
      rintro e w12 ⟨rfl, hq12⟩
      have he12 := hq12.ext
      replace hend := hend.ext he12
      replace hlo := hlo.ext he12
      replace hhi := hhi.ext he12
      replace hlen := hlen.ext he12
      replace hx := hx.trans he12
      clear he12 hq12
      go_wp2_with fail
      refine (cmp_lt hlo.nv hhi.nv hge).mono ?_
      rintro e w13 ⟨rfl, hq13⟩
      have he13 := hq13.ext
      replace hend := hend.ext he13
      replace hlo := hlo.ext he13
      replace hhi := hhi.ext he13
      replace hlen := hlen.ext he13
      replace hx := hx.trans he13
      clear he13 hq13
      by_cases hil : i < C - 1
      · have hd : decide ((i : Int) < C - 1) = true := by simp; omega
        have hfull : endAt m s (i + 1) - i * s = s := by
          have h := (HP.out (i + 1)).2 (by omega)
          rw [endAt_lt h, Nat.add_mul]; omega
        replace hlen := hlen.cast hfull
        clear hfull
        go_wp2_with fail
        refine (of_nz s hs _).mono ?_
        rintro e w14 ⟨_, rfl, he14, hS⟩
        replace hend := hend.ext he14
        replace hlo := hlo.ext he14
        replace hhi := hhi.ext he14
        replace hlen := hlen.ext he14
        replace hx := hx.trans he14
        clear he14
        go_wp2_with fail
        refine (cmp_eq hlen.nv hS.nv).mono ?_
        rintro e w15 ⟨rfl, hq15⟩
        have he15 := hq15.ext
        replace hend := hend.ext he15
        replace hlo := hlo.ext he15
        replace hhi := hhi.ext he15
        replace hlen := hlen.ext he15
        replace hS := hS.ext he15
        replace hx := hx.trans he15
        clear he15 hq15
        clear hd hge hle hbeg
        go_wp2_with fail
        go_roundw
        case rel => exact ⟨i + 1, by omega, by go_num, hhi, ⟨_, _, _, rfl⟩, hx⟩
        case measure => simp [intOf]; omega
      · have hd : decide ((i : Int) < C - 1) = false := by simp; omega
        clear hge hle hbeg
        go_wp2_with fail
        go_roundw
        case rel => exact ⟨i + 1, by omega, by go_num, hhi, ⟨_, _, _, rfl⟩, hx⟩
        case measure => simp [intOf]; omega
    · obtain rfl : i = C := by omega
      have hfin : m ≤ i * s := by
        rcases Nat.lt_or_ge (i * s) m with h | h
        · have := (HP.out _).1 h; omega
        · exact h
      replace hend := hend.cast (endAt_all hfin)
      clear hfin
      go_wp2_with fail
      refine (of45 m (by omega) _).mono ?_
      rintro e w14 ⟨_, rfl, he14, h3⟩
      replace hend := hend.ext he14
      replace hx := hx.trans he14
      clear he14
      go_wp2_with fail
      refine (of45 i (by omega) _).mono ?_
      rintro e w15 ⟨_, rfl, he15, h4⟩
      replace hend := hend.ext he15
      replace h3 := h3.ext he15
      replace hx := hx.trans he15
      clear he15
      go_wp2_with fail
      refine (page_past (p := i) h3.nv h4.nv H0 hs (dl (by omega)) (by rw [← HC.out]; omega)).mono ?_
      rintro e w16 ⟨_, rfl, he16, rfl⟩
      replace hend := hend.ext he16
      replace h3 := h3.ext he16
      replace h4 := h4.ext he16
      replace hx := hx.trans he16
      clear he16
      go_wp2_with fail
      refine (is45_yes (n := m) hend.nv (by omega)).mono ?_
      rintro e w17 ⟨_, rfl, he17, rfl⟩
      replace hend := hend.ext he17
      replace h3 := h3.ext he17
      replace h4 := h4.ext he17
      replace hx := hx.trans he17
      clear he17
      go_wp2_with fail
      go_ret
      exact Ret.mk hx rfl

set_option maxRecDepth 20000 in
set_option maxHeartbeats 3200000 in
theorem pages_great_ {w : World} {n s : Nat} (hn : n < 65536) (hs : s < 18446744073709551616) (H0 : 0 < s) (hss : 1000 ≤ s) (HM : 0 < n % 600) :
    Calls Try.prog 8 #[.int .u16 (n : Int), .int .u64 (s : Int)] w (Ret (fun x _ => x = .bool true) w) := by
  have hm600 : n % 600 < 600 := Nat.mod_lt _ (by omega)
  have hmod := mod600 n
  have hs0 : ((s : Int) == 0) = false := by simp; omega
  generalize n % 600 = m at *
  obtain ⟨C, hC⟩ : ∃ C, C = (m + (s - 1)) / s := ⟨_, rfl⟩
  have HP : ∀ k, k * s < m ↔ k < C := fun k => by rw [hC]; exact lt_pages H0
  have HP := Lib.hid HP
  have HC := Lib.hid hC
  clear hC
  have hC2 : C ≤ 600 := by
    rcases Nat.lt_or_ge 600 C with h | h
    · have h1 := (HP.out 600).2 h
      have h2 : 600 * 1 ≤ 600 * s := Nat.mul_le_mul_left _ H0
      omega
    · exact h
  have hlt : ¬ (s : Int) < 1000 := by omega
  have hm0 : ((m : Int) == 0) = false := by simp; omega
  go_enter Try.func8, Try.ntmps8
  go_wp2_with fail
  refine (awake45 _).mono ?_
  rintro e w1 ⟨_, rfl, he1, rfl⟩
  have hx := he1
  clear he1
  go_wp2_with fail
  refine (of45 m (by omega) _).mono ?_
  rintro e w2 ⟨_, rfl, he2, h1⟩
  replace hx := hx.trans he2
  clear he2
  go_wp2_with fail
  refine (pages_any h1.nv H0 hs (dl (by omega))).mono ?_
  rintro e w3 ⟨_, rfl, he3, A1, a1, c1, rfl, hpg⟩
  replace h1 := h1.ext he3
  replace hx := hx.trans he3
  clear he3
  rw [← HC.out] at hpg
  go_wp2_with fail
  refine (of45 m (by omega) _).mono ?_
  rintro e w4 ⟨_, rfl, he4, h2⟩
  replace h1 := h1.ext he4
  replace hpg := hpg.ext he4
  replace hx := hx.trans he4
  clear he4
  go_wp2_with fail
  refine (page_any (p := 0) h2.nv (Nz.nil _).nv H0 hs (dl (by omega)) (dl (by omega)) ((lt_pages H0).1 (by omega))).mono ?_
  rintro e w5 ⟨_, rfl, he5, A2, a2, c2, B2, b2, d2, rfl, -, -⟩
  replace h1 := h1.ext he5
  replace hpg := hpg.ext he5
  replace h2 := h2.ext he5
  replace hx := hx.trans he5
  clear he5
  obtain rfl : C = 1 := by rw [HC.out]; exact pages_great (by omega) (by omega) (by omega)
  go_wp2_with fail
  refine (is45_yes (n := 1) hpg.nv (by omega)).mono ?_
  rintro e w6 ⟨_, rfl, he6, rfl⟩
  replace h1 := h1.ext he6
  replace hpg := hpg.ext he6
  replace h2 := h2.ext he6
  replace hx := hx.trans he6
  clear he6
  clear hpg
  clear h1
  clear h2
  go_wp2_with fail
  obtain ⟨wS, rfl⟩ : ∃ wS : World, wS = w6 := ⟨_, rfl⟩
  go_loopw [12, 13] (fun t q wr => ∃ (i : Nat), i ≤ 1 ∧ q = .int .i64 i ∧ Nz wr t (endAt m s i) ∧ (∃ A a c, t = .slice A a c) ∧ Ext w wr) (fun _ q _ => 1 - (intOf q).toNat)
  case atStart => exact ⟨0, Nat.zero_le _, rfl, (Nz.nil _).cast (endAt_zero _ _).symm, ⟨_, _, _, rfl⟩, hx⟩
  case round =>
    clear hx
    obtain ⟨i, hi, rfl, hend, ⟨A0, a0, c0, rfl⟩, hx⟩ := hrel
    by_cases hic : i < 1
    · have hbeg := (HP.out i).2 hic
      replace hend := hend.cast (endAt_lt hbeg)
      go_wp2_with fail
      refine (of45 m (by omega) _).mono ?_
      rintro e w7 ⟨_, rfl, he7, h3⟩
      replace hend := hend.ext he7
      replace hx := hx.trans he7
      clear he7
      go_wp2_with fail
      refine (of45 i (by omega) _).mono ?_
      rintro e w8 ⟨_, rfl, he8, h4⟩
      replace hend := hend.ext he8
      replace h3 := h3.ext he8
      replace hx := hx.trans he8
      clear he8
      go_wp2_with fail
      refine (page_any (p := i) h3.nv h4.nv H0 hs (dl (by omega)) (dl (by omega)) (by rw [← HC.out]; exact hic)).mono ?_
      rintro e w9 ⟨_, rfl, he9, A3, a3, c3, B3, b3, d3, rfl, hlo, hhi⟩
      replace hend := hend.ext he9
      replace h3 := h3.ext he9
      replace h4 := h4.ext he9
      replace hx := hx.trans he9
      clear he9
      clear h3
      clear h4
      replace hhi := hhi.cast (pageHi_end _ _ _)
      have hle := endAt_le m s (i + 1)
      have hge : i * s < endAt m s (i + 1) := by unfold endAt; rw [Nat.add_mul]; omega
      go_wp2_with fail
      refine (sub_nv hhi.nv hlo.nv (by omega) (Nat.le_trans (dl (by omega)) (by omega))).mono ?_
      rintro e w10 ⟨_, rfl, he10, len, rfl, hlen⟩
      replace hend := hend.ext he10
      replace hlo := hlo.ext he10
      replace hhi := hhi.ext he10
      replace hx := hx.trans he10
      clear he10
      go_wp2_with fail
      refine (cmp_eq hlo.nv hend.nv).mono ?_
      rintro e w11 ⟨rfl, hq11⟩
      have he11 := hq11.ext
      replace hend := hend.ext he11
      replace hlo := hlo.ext he11
      replace hhi := hhi.ext he11
      replace hlen := hlen.ext he11
      replace hx := hx.trans he11
      clear he11 hq11
      go_wp2_with fail
      refine (cmp_lt hlo.nv hhi.nv hge).mono ?_
      rintro e w12 ⟨rfl, hq12⟩
      have he12 := hq12.ext
      replace hend := hend.ext he12
      replace hlo := hlo.ext he12
      replace hhi := hhi.ext he12
      replace hlen := hlen.ext he12
      replace hx := hx.trans he12
      clear he12 hq12
      obtain rfl : i = 0 := by omega
      clear hge hle hbeg
      go_wp2_with fail
      go_roundw
      case rel => exact ⟨1, by omega, rfl, hhi, ⟨_, _, _, rfl⟩, hx⟩
      case measure => simp [intOf]
    · obtain rfl : i = 1 := by omega
      have hfin : m ≤ 1 * s := by
        rcases Nat.lt_or_ge (1 * s) m with h | h
        · have := (HP.out _).1 h; omega
        · exact h
      replace hend := hend.cast (endAt_all hfin)
      clear hfin
      go_wp2_with fail
      refine (of45 m (by omega) _).mono ?_
      rintro e w13 ⟨_, rfl, he13, h3⟩
      replace hend := hend.ext he13
      replace hx := hx.trans he13
      clear he13
      go_wp2_with fail
      refine (of45 1 (by omega) _).mono ?_
      rintro e w14 ⟨_, rfl, he14, h4⟩
      replace hend := hend.ext he14
      replace h3 := h3.ext he14
      replace hx := hx.trans he14
      clear he14
      go_wp2_with fail
      refine (page_past (p := 1) h3.nv h4.nv H0 hs (dl (by omega)) (by rw [← HC.out]; omega)).mono ?_
      rintro e w15 ⟨_, rfl, he15, rfl⟩
      replace hend := hend.ext he15
      replace h3 := h3.ext he15
      replace h4 := h4.ext he15
      replace hx := hx.trans he15
      clear he15
      go_wp2_with fail
      refine (is45_yes (n := m) hend.nv (by omega)).mono ?_
      rintro e w16 ⟨_, rfl, he16, rfl⟩
      replace hend := hend.ext he16
      replace h3 := h3.ext he16
      replace h4 := h4.ext he16
      replace hx := hx.trans he16
      clear he16
      go_wp2_with fail
      go_ret
      exact Ret.mk hx rfl

set_option maxRecDepth 20000 in
set_option maxHeartbeats 3200000 in
theorem pages_none_ {w : World} {n s : Nat} (hn : n < 65536) (hs : s < 18446744073709551616) (H0 : 0 < s) (hss : 1000 ≤ s) (HM : Hid (n % 600 = 0)) :
    Calls Try.prog 8 #[.int .u16 (n : Int), .int .u64 (s : Int)] w (Ret (fun x _ => x = .bool true) w) := by
  have hm600 : n % 600 < 600 := Nat.mod_lt _ (by omega)
  have hmod := mod600 n
  have hs0 : ((s : Int) == 0) = false := by simp; omega
  generalize n % 600 = m at *
  obtain ⟨C, hC⟩ : ∃ C, C = (m + (s - 1)) / s := ⟨_, rfl⟩
  have HP : ∀ k, k * s < m ↔ k < C := fun k => by rw [hC]; exact lt_pages H0
  have HP := Lib.hid HP
  have HC := Lib.hid hC
  clear hC
  have hC2 : C ≤ 600 := by
    rcases Nat.lt_or_ge 600 C with h | h
    · have h1 := (HP.out 600).2 h
      have h2 : 600 * 1 ≤ 600 * s := Nat.mul_le_mul_left _ H0
      omega
    · exact h
  have hlt : ¬ (s : Int) < 1000 := by omega
  obtain rfl : m = 0 := HM.out
  clear HM
  go_enter Try.func8, Try.ntmps8
  go_wp2_with fail
  refine (awake45 _).mono ?_
  rintro e w1 ⟨_, rfl, he1, rfl⟩
  have hx := he1
  clear he1
  go_wp2_with fail
  refine (of45 0 (by omega) _).mono ?_
  rintro e w2 ⟨_, rfl, he2, h1⟩
  replace hx := hx.trans he2
  clear he2
  go_wp2_with fail
  refine (pages_any h1.nv H0 hs (dl (by omega))).mono ?_
  rintro e w3 ⟨_, rfl, he3, A1, a1, c1, rfl, hpg⟩
  replace h1 := h1.ext he3
  replace hx := hx.trans he3
  clear he3
  rw [← HC.out] at hpg
  go_wp2_with fail
  refine (of45 0 (by omega) _).mono ?_
  rintro e w4 ⟨_, rfl, he4, h2⟩
  replace h1 := h1.ext he4
  replace hpg := hpg.ext he4
  replace hx := hx.trans he4
  clear he4
  go_wp2_with fail
  refine (page_past (p := 0) h2.nv (Nz.nil _).nv H0 hs (dl (by omega)) (by rw [pages_none H0]; omega)).mono ?_
  rintro e w5 ⟨_, rfl, he5, rfl⟩
  replace h1 := h1.ext he5
  replace hpg := hpg.ext he5
  replace h2 := h2.ext he5
  replace hx := hx.trans he5
  clear he5
  obtain rfl : C = 0 := by rw [HC.out]; exact pages_none H0
  go_wp2_with fail
  refine (is45_yes (n := 0) hpg.nv (by omega)).mono ?_
  rintro e w6 ⟨_, rfl, he6, rfl⟩
  replace h1 := h1.ext he6
  replace hpg := hpg.ext he6
  replace h2 := h2.ext he6
  replace hx := hx.trans he6
  clear he6
  clear hpg
  clear h1
  clear h2
  go_wp2_with fail
  obtain ⟨wS, rfl⟩ : ∃ wS : World, wS = w6 := ⟨_, rfl⟩
  go_loopw [12, 13] (fun t q wr => ∃ (i : Nat), i ≤ 0 ∧ q = .int .i64 i ∧ Nz wr t (endAt 0 s i) ∧ (∃ A a c, t = .slice A a c) ∧ Ext w wr) (fun _ q _ => 0 - (intOf q).toNat)
  case atStart => exact ⟨0, Nat.zero_le _, rfl, (Nz.nil _).cast (endAt_zero _ _).symm, ⟨_, _, _, rfl⟩, hx⟩
  case round =>
    clear hx
    obtain ⟨i, hi, rfl, hend, ⟨A0, a0, c0, rfl⟩, hx⟩ := hrel
    obtain rfl : i = 0 := by omega
    have hfin : 0 ≤ 0 * s := by
      rcases Nat.lt_or_ge (0 * s) 0 with h | h
      · have := (HP.out _).1 h; omega
      · exact h
    replace hend := hend.cast (endAt_all hfin)
    clear hfin
    go_wp2_with fail
    refine (of45 0 (by omega) _).mono ?_
    rintro e w7 ⟨_, rfl, he7, h3⟩
    replace hend := hend.ext he7
    replace hx := hx.trans he7
    clear he7
    go_wp2_with fail
    refine (of45 0 (by omega) _).mono ?_
    rintro e w8 ⟨_, rfl, he8, h4⟩
    replace hend := hend.ext he8
    replace h3 := h3.ext he8
    replace hx := hx.trans he8
    clear he8
    go_wp2_with fail
    refine (page_past (p := 0) h3.nv h4.nv H0 hs (dl (by omega)) (by rw [← HC.out]; omega)).mono ?_
    rintro e w9 ⟨_, rfl, he9, rfl⟩
    replace hend := hend.ext he9
    replace h3 := h3.ext he9
    replace h4 := h4.ext he9
    replace hx := hx.trans he9
    clear he9
    go_wp2_with fail
    refine (is45_yes (n := 0) hend.nv (by omega)).mono ?_
    rintro e w10 ⟨_, rfl, he10, rfl⟩
    replace hend := hend.ext he10
    replace h3 := h3.ext he10
    replace h4 := h4.ext he10
    replace hx := hx.trans he10
    clear he10
    go_wp2_with fail
    go_ret
    exact Ret.mk hx rfl


theorem law_pages {w : World} {n s : Nat} (hn : n < 65536) (hs : s < 18446744073709551616) :
    Calls Try.prog 8 #[.int .u16 (n : Int), .int .u64 (s : Int)] w (Ret (fun x _ => x = .bool true) w) := by
  by_cases h0 : s = 0
  · exact pages_s0 hn hs (Lib.hid h0)
  · by_cases h1 : s < 1000
    · exact pages_small hn hs (by omega) h1
    · by_cases h2 : n % 600 = 0
      · exact pages_none_ hn hs (by omega) (by omega) (Lib.hid h2)
      · exact pages_great_ hn hs (by omega) (by omega) (by omega)
end Go.Proofs.Ytamkbboijblooaa
