/- The walk of QuantilePositions. -/
import Derived.Test.YtamkbboijblooaaAwk
namespace Go.Proofs.Ytamkbboijblooaa
open Go.RowKit

theorem dig_len_ds {ds : List Nat} (hl : Low ds) : (dig (val ds)).length ≤ ds.length := by
  rw [← tr_eq_dig hl, length_tr]; exact tlen_le _ _
theorem nz0 {w : World} {A : Option Addr} {k c : Nat} (h : Nz w (.slice A k c) 0) : k = 0 := by
  obtain ⟨A', n, c', e, hn, -⟩ := Dg.parts h
  injection e with e1 e2 e3
  subst e2; rw [hn, dig_zero]; rfl
theorem blen_pos {n : Nat} (h : 0 < n) : 0 < blen n := by
  rcases Nat.eq_zero_or_pos (blen n) with h0 | h0
  · have := lt_two_pow_blen n; rw [h0] at this; omega
  · exact h0
theorem dlm {a b : Nat} (h : a ≤ b) (hb : (dig b).length ≤ 40) : (dig a).length ≤ 40 := Nat.le_trans (dig_len_mono h) hb

/-- Quantile, case by case. -/
theorem quantile_q0 {w : World} {u : Value} {n p : Nat} (hu : Nv w u n) (hp : p < 18446744073709551616) (hl : (dig n).length ≤ 40) :
    Calls Try.prog 43 #[u, .int .u64 (p : Int), .int .u64 0] w (Ret (fun x _ => ∃ A c, x = .tuple #[.slice A 0 c, .int .i64 18]) w) :=
  (quantile_any (q := 0) hu hp (by omega) (by omega)).mono (by
    rintro e w' ⟨x, rfl, he, A, n1, c, rfl, hA⟩
    refine Ret.mk he ⟨A, c, ?_⟩
    have hv : quantV n p 0 = 0 := by simp [quantV]
    rw [hv] at hA
    obtain rfl := nz0 hA
    simp [quantE])
theorem quantile_far {w : World} {u : Value} {n p q : Nat} (hu : Nv w u n) (hp : p < 18446744073709551616) (h0 : 0 < q) (hq : q < p) (hl : (dig n).length ≤ 40) :
    Calls Try.prog 43 #[u, .int .u64 (p : Int), .int .u64 (q : Int)] w (Ret (fun x _ => ∃ A c, x = .tuple #[.slice A 0 c, .int .i64 3]) w) :=
  (quantile_any hu hp (by omega) (by omega)).mono (by
    rintro e w' ⟨x, rfl, he, A, n1, c, rfl, hA⟩
    refine Ret.mk he ⟨A, c, ?_⟩
    have h1 : ¬ q = 0 := by omega
    have hv : quantV n p q = 0 := by simp [quantV, hq]
    rw [hv] at hA
    obtain rfl := nz0 hA
    simp [quantE, h1, hq])
theorem quantile_none {w : World} {u : Value} {p q : Nat} (hu : Nv w u 0) (hp : p < 18446744073709551616) (hqq : q < 18446744073709551616) (h0 : 0 < q) (hq : p ≤ q) :
    Calls Try.prog 43 #[u, .int .u64 (p : Int), .int .u64 (q : Int)] w (Ret (fun x _ => ∃ A c, x = .tuple #[.slice A 0 c, .int .i64 10]) w) :=
  (quantile_any hu hp hqq (dl (by omega))).mono (by
    rintro e w' ⟨x, rfl, he, A, n1, c, rfl, hA⟩
    refine Ret.mk he ⟨A, c, ?_⟩
    have h1 : ¬ q = 0 := by omega
    have h2 : ¬ q < p := by omega
    have hv : quantV 0 p q = 0 := by simp [quantV]
    rw [hv] at hA
    obtain rfl := nz0 hA
    simp [quantE, h1, h2])
theorem quantile_ok {w : World} {u : Value} {n p q : Nat} (hu : Nv w u n) (hn : 0 < n) (hqq : q < 18446744073709551616) (h0 : 0 < q) (hq : p ≤ q) (hl : (dig n).length ≤ 40) :
    Calls Try.prog 43 #[u, .int .u64 (p : Int), .int .u64 (q : Int)] w (Ret (fun x w' => ∃ A n1 c, x = .tuple #[.slice A n1 c, .int .i64 0] ∧ Nz w' (.slice A n1 c) (p * (n - 1) / q)) w) :=
  (quantile_any hu (by omega) hqq (by omega)).mono (by
    rintro e w' ⟨x, rfl, he, A, n1, c, rfl, hA⟩
    have h1 : ¬ q = 0 := by omega
    have h2 : ¬ q < p := by omega
    have h3 : ¬ n = 0 := by omega
    have hv : quantV n p q = p * (n - 1) / q := by simp [quantV, h1, h2]
    have hv2 : quantE n p q = 0 := by simp [quantE, h1, h2, h3]
    rw [hv] at hA
    exact Ret.mk he ⟨A, n1, c, by rw [hv2]; rfl, hA⟩)

set_option maxRecDepth 20000 in
set_option maxHeartbeats 1600000 in
theorem positions_long {w : World} {v : Value} {ds : List Nat} {p q : Nat} (hd : Dg w v ds) (_hp : p < 18446744073709551616) (_hq : q < 18446744073709551616) (hlen : Hid (40 < ds.length)) :
    Calls Try.prog 10 #[v, .int .u64 (p : Int), .int .u64 (q : Int)] w (Ret (fun x _ => x = .bool true) w) := by
  have hnv := hd.nv
  have hlow := dig_len_ds hd.1
  obtain ⟨A, n, c, rfl, hn, -⟩ := hd.parts
  rw [← hn] at hlow hlen
  clear hn hd
  have hlen' : (40 : Int) < n := by have := hlen.out; omega
  clear hlow hnv hlen
  go_enter Try.func10, Try.ntmps10
  go_wp2_with fail
  refine (awake45 _).mono ?_
  rintro e w1 ⟨_, rfl, he1, rfl⟩
  have hx := he1
  clear he1
  go_wp2_with fail
  go_ret
  exact Ret.mk hx rfl

set_option maxRecDepth 20000 in
set_option maxHeartbeats 1600000 in
theorem positions_z_q0 {w : World} {v : Value} {ds : List Nat} {p q : Nat} (hd : Dg w v ds) (hp : p < 18446744073709551616) (hq : q < 18446744073709551616) (hlen : ds.length ≤ 40) (H0 : Hid (val ds = 0)) (HC : Hid (q = 0)) :
    Calls Try.prog 10 #[v, .int .u64 (p : Int), .int .u64 (q : Int)] w (Ret (fun x _ => x = .bool true) w) := by
  have hnv := hd.nv
  have hlow := dig_len_ds hd.1
  obtain ⟨A, n, c, rfl, hn, -⟩ := hd.parts
  rw [← hn] at hlow
  clear hd
  rw [← hn] at hlen
  clear hn
  have hlen' : ¬ (40 : Int) < n := by omega
  have hl40 : (dig (val ds)).length ≤ 40 := by omega
  clear hlow hlen
  rw [H0.out] at hnv hl40
  clear H0
  obtain rfl : q = 0 := HC.out
  clear HC
  go_enter Try.func10, Try.ntmps10
  go_wp2_with fail
  refine (awake45 _).mono ?_
  rintro e w1 ⟨_, rfl, he1, rfl⟩
  replace hnv := hnv.ext he1
  have hx := he1
  clear he1
  go_wp2_with fail
  refine (median_zero hnv).mono ?_
  rintro e w2 ⟨_, rfl, he2, rfl⟩
  replace hnv := hnv.ext he2
  replace hx := hx.trans he2
  clear he2
  go_wp2_with fail
  refine (quantile_q0 hnv hp (by first | omega | exact hl40)).mono ?_
  rintro e w3 ⟨_, rfl, he3, A2, c2, rfl⟩
  replace hnv := hnv.ext he3
  replace hx := hx.trans he3
  clear he3
  go_wp2_with fail
  refine (bits_nv hnv (by omega)).mono ?_
  rintro e w4 ⟨rfl, hq4⟩
  have he4 := hq4.ext
  replace hnv := hnv.ext he4
  replace hx := hx.trans he4
  clear he4 hq4
  rw [show blen 0 = 0 from rfl]
  go_wp2_with fail
  go_ret
  exact Ret.mk hx rfl

set_option maxRecDepth 20000 in
set_option maxHeartbeats 1600000 in
theorem positions_z_far {w : World} {v : Value} {ds : List Nat} {p q : Nat} (hd : Dg w v ds) (hp : p < 18446744073709551616) (hq : q < 18446744073709551616) (hlen : ds.length ≤ 40) (H0 : Hid (val ds = 0)) (HC : Hid (0 < q ∧ q < p)) :
    Calls Try.prog 10 #[v, .int .u64 (p : Int), .int .u64 (q : Int)] w (Ret (fun x _ => x = .bool true) w) := by
  have hnv := hd.nv
  have hlow := dig_len_ds hd.1
  obtain ⟨A, n, c, rfl, hn, -⟩ := hd.parts
  rw [← hn] at hlow
  clear hd
  rw [← hn] at hlen
  clear hn
  have hlen' : ¬ (40 : Int) < n := by omega
  have hl40 : (dig (val ds)).length ≤ 40 := by omega
  clear hlow hlen
  rw [H0.out] at hnv hl40
  clear H0
  obtain ⟨hc1, hc2⟩ := HC.out
  clear HC
  have hq0 : ((q : Int) == 0) = false := by simp; omega
  have hpq : (q : Int) < p := by omega
  go_enter Try.func10, Try.ntmps10
  go_wp2_with fail
  refine (awake45 _).mono ?_
  rintro e w1 ⟨_, rfl, he1, rfl⟩
  replace hnv := hnv.ext he1
  have hx := he1
  clear he1
  go_wp2_with fail
  refine (median_zero hnv).mono ?_
  rintro e w2 ⟨_, rfl, he2, rfl⟩
  replace hnv := hnv.ext he2
  replace hx := hx.trans he2
  clear he2
  go_wp2_with fail
  refine (quantile_far hnv hp hc1 hc2 (by first | omega | exact hl40)).mono ?_
  rintro e w3 ⟨_, rfl, he3, A2, c2, rfl⟩
  replace hnv := hnv.ext he3
  replace hx := hx.trans he3
  clear he3
  go_wp2_with fail
  refine (bits_nv hnv (by omega)).mono ?_
  rintro e w4 ⟨rfl, hq4⟩
  have he4 := hq4.ext
  replace hnv := hnv.ext he4
  replace hx := hx.trans he4
  clear he4 hq4
  rw [show blen 0 = 0 from rfl]
  go_wp2_with fail
  go_ret
  exact Ret.mk hx rfl

set_option maxRecDepth 20000 in
set_option maxHeartbeats 1600000 in
theorem positions_z_ok {w : World} {v : Value} {ds : List Nat} {p q : Nat} (hd : Dg w v ds) (hp : p < 18446744073709551616) (hq : q < 18446744073709551616) (hlen : ds.length ≤ 40) (H0 : Hid (val ds = 0)) (HC : Hid (0 < q ∧ p ≤ q)) :
    Calls Try.prog 10 #[v, .int .u64 (p : Int), .int .u64 (q : Int)] w (Ret (fun x _ => x = .bool true) w) := by
  have hnv := hd.nv
  have hlow := dig_len_ds hd.1
  obtain ⟨A, n, c, rfl, hn, -⟩ := hd.parts
  rw [← hn] at hlow
  clear hd
  rw [← hn] at hlen
  clear hn
  have hlen' : ¬ (40 : Int) < n := by omega
  have hl40 : (dig (val ds)).length ≤ 40 := by omega
  clear hlow hlen
  rw [H0.out] at hnv hl40
  clear H0
  obtain ⟨hc1, hc2⟩ := HC.out
  clear HC
  have hq0 : ((q : Int) == 0) = false := by simp; omega
  have hpq : ¬ (q : Int) < p := by omega
  go_enter Try.func10, Try.ntmps10
  go_wp2_with fail
  refine (awake45 _).mono ?_
  rintro e w1 ⟨_, rfl, he1, rfl⟩
  replace hnv := hnv.ext he1
  have hx := he1
  clear he1
  go_wp2_with fail
  refine (median_zero hnv).mono ?_
  rintro e w2 ⟨_, rfl, he2, rfl⟩
  replace hnv := hnv.ext he2
  replace hx := hx.trans he2
  clear he2
  go_wp2_with fail
  refine (quantile_none hnv hp hq hc1 hc2).mono ?_
  rintro e w3 ⟨_, rfl, he3, A2, c2, rfl⟩
  replace hnv := hnv.ext he3
  replace hx := hx.trans he3
  clear he3
  go_wp2_with fail
  refine (bits_nv hnv (by omega)).mono ?_
  rintro e w4 ⟨rfl, hq4⟩
  have he4 := hq4.ext
  replace hnv := hnv.ext he4
  replace hx := hx.trans he4
  clear he4 hq4
  rw [show blen 0 = 0 from rfl]
  go_wp2_with fail
  go_ret
  exact Ret.mk hx rfl

set_option maxRecDepth 20000 in
set_option maxHeartbeats 1600000 in
theorem positions_n_q0 {w : World} {v : Value} {ds : List Nat} {p q : Nat} (hd : Dg w v ds) (hp : p < 18446744073709551616) (hq : q < 18446744073709551616) (hlen : ds.length ≤ 40) (H0 : 0 < val ds) (HC : Hid (q = 0)) :
    Calls Try.prog 10 #[v, .int .u64 (p : Int), .int .u64 (q : Int)] w (Ret (fun x _ => x = .bool true) w) := by
  have hnv := hd.nv
  have hlow := dig_len_ds hd.1
  obtain ⟨A, n, c, rfl, hn, -⟩ := hd.parts
  rw [← hn] at hlow
  clear hd
  rw [← hn] at hlen
  clear hn
  have hlen' : ¬ (40 : Int) < n := by omega
  have hl40 : (dig (val ds)).length ≤ 40 := by omega
  clear hlow hlen
  generalize val ds = N at *
  obtain rfl : q = 0 := HC.out
  clear HC
  have hb0 := blen_pos H0
  have hbl : ((blen N : Int) == 0) = false := by simp; omega
  clear hb0
  go_enter Try.func10, Try.ntmps10
  go_wp2_with fail
  refine (awake45 _).mono ?_
  rintro e w1 ⟨_, rfl, he1, rfl⟩
  replace hnv := hnv.ext he1
  have hx := he1
  clear he1
  go_wp2_with fail
  refine (median_any hnv H0 (by omega)).mono ?_
  rintro e w2 ⟨_, rfl, he2, A1, a1, c1, B1, b1, d1, rfl, hma, hmb⟩
  replace hnv := hnv.ext he2
  replace hx := hx.trans he2
  clear he2
  go_wp2_with fail
  refine (quantile_q0 hnv hp (by first | omega | exact hl40)).mono ?_
  rintro e w3 ⟨_, rfl, he3, A2, c2, rfl⟩
  replace hnv := hnv.ext he3
  replace hma := hma.ext he3
  replace hmb := hmb.ext he3
  replace hx := hx.trans he3
  clear he3
  go_wp2_with fail
  refine (bits_nv hnv (by omega)).mono ?_
  rintro e w4 ⟨rfl, hq4⟩
  have he4 := hq4.ext
  replace hnv := hnv.ext he4
  replace hma := hma.ext he4
  replace hmb := hmb.ext he4
  replace hx := hx.trans he4
  clear he4 hq4
  go_wp2_with fail
  refine (of45 1 (by omega) _).mono ?_
  rintro e w5 ⟨_, rfl, he5, h1⟩
  replace hnv := hnv.ext he5
  replace hma := hma.ext he5
  replace hmb := hmb.ext he5
  replace hx := hx.trans he5
  clear he5
  go_wp2_with fail
  refine (sub_nv hnv h1.nv (by omega) (by omega)).mono ?_
  rintro e w6 ⟨_, rfl, he6, la, rfl, hla⟩
  replace hnv := hnv.ext he6
  replace hma := hma.ext he6
  replace hmb := hmb.ext he6
  replace h1 := h1.ext he6
  replace hx := hx.trans he6
  clear he6
  go_wp2_with fail
  refine (of45 2 (by omega) _).mono ?_
  rintro e w7 ⟨_, rfl, he7, h2⟩
  replace hnv := hnv.ext he7
  replace hma := hma.ext he7
  replace hmb := hmb.ext he7
  replace h1 := h1.ext he7
  replace hla := hla.ext he7
  replace hx := hx.trans he7
  clear he7
  go_wp2_with fail
  refine (divMod_any hla.nv h2.nv (by omega) (Nat.le_trans (dlm (Nat.sub_le _ _) hl40) (by omega)) (Nat.le_trans (dl (by omega)) (by omega))).mono ?_
  rintro e w8 ⟨A3, a3, c3, B3, b3, d3, rfl, h3a, h3b, he8⟩
  replace hnv := hnv.ext he8
  replace hma := hma.ext he8
  replace hmb := hmb.ext he8
  replace h1 := h1.ext he8
  replace hla := hla.ext he8
  replace h2 := h2.ext he8
  replace hx := hx.trans he8
  clear he8
  go_wp2_with fail
  refine (of45 2 (by omega) _).mono ?_
  rintro e w9 ⟨_, rfl, he9, h2'⟩
  replace hnv := hnv.ext he9
  replace hma := hma.ext he9
  replace hmb := hmb.ext he9
  replace h1 := h1.ext he9
  replace hla := hla.ext he9
  replace h2 := h2.ext he9
  replace h3a := h3a.ext he9
  replace hx := hx.trans he9
  clear he9
  go_wp2_with fail
  refine (divMod_any hnv h2'.nv (by omega) (by omega) (Nat.le_trans (dl (by omega)) (by omega))).mono ?_
  rintro e w10 ⟨A4, a4, c4, B4, b4, d4, rfl, h4a, h4b, he10⟩
  replace hnv := hnv.ext he10
  replace hma := hma.ext he10
  replace hmb := hmb.ext he10
  replace h1 := h1.ext he10
  replace hla := hla.ext he10
  replace h2 := h2.ext he10
  replace h3a := h3a.ext he10
  replace h2' := h2'.ext he10
  replace hx := hx.trans he10
  clear he10
  go_wp2_with fail
  refine (cmp_nv hma.nv h3a.nv).mono ?_
  rintro e w11 ⟨rfl, hq11⟩
  have he11 := hq11.ext
  replace hnv := hnv.ext he11
  replace hma := hma.ext he11
  replace hmb := hmb.ext he11
  replace h1 := h1.ext he11
  replace hla := hla.ext he11
  replace h2 := h2.ext he11
  replace h3a := h3a.ext he11
  replace h2' := h2'.ext he11
  replace h4a := h4a.ext he11
  replace hx := hx.trans he11
  clear he11 hq11
  rw [cmpI_eq rfl]
  go_wp2_with fail
  refine (cmp_nv hmb.nv h4a.nv).mono ?_
  rintro e w12 ⟨rfl, hq12⟩
  have he12 := hq12.ext
  replace hnv := hnv.ext he12
  replace hma := hma.ext he12
  replace hmb := hmb.ext he12
  replace h1 := h1.ext he12
  replace hla := hla.ext he12
  replace h2 := h2.ext he12
  replace h3a := h3a.ext he12
  replace h2' := h2'.ext he12
  replace h4a := h4a.ext he12
  replace hx := hx.trans he12
  clear he12 hq12
  rw [cmpI_eq rfl]
  go_wp2_with fail
  go_ret
  exact Ret.mk hx rfl

set_option maxRecDepth 20000 in
set_option maxHeartbeats 1600000 in
theorem positions_n_far {w : World} {v : Value} {ds : List Nat} {p q : Nat} (hd : Dg w v ds) (hp : p < 18446744073709551616) (hq : q < 18446744073709551616) (hlen : ds.length ≤ 40) (H0 : 0 < val ds) (HC : Hid (0 < q ∧ q < p)) :
    Calls Try.prog 10 #[v, .int .u64 (p : Int), .int .u64 (q : Int)] w (Ret (fun x _ => x = .bool true) w) := by
  have hnv := hd.nv
  have hlow := dig_len_ds hd.1
  obtain ⟨A, n, c, rfl, hn, -⟩ := hd.parts
  rw [← hn] at hlow
  clear hd
  rw [← hn] at hlen
  clear hn
  have hlen' : ¬ (40 : Int) < n := by omega
  have hl40 : (dig (val ds)).length ≤ 40 := by omega
  clear hlow hlen
  generalize val ds = N at *
  obtain ⟨hc1, hc2⟩ := HC.out
  clear HC
  have hq0 : ((q : Int) == 0) = false := by simp; omega
  have hpq : (q : Int) < p := by omega
  have hb0 := blen_pos H0
  have hbl : ((blen N : Int) == 0) = false := by simp; omega
  clear hb0
  go_enter Try.func10, Try.ntmps10
  go_wp2_with fail
  refine (awake45 _).mono ?_
  rintro e w1 ⟨_, rfl, he1, rfl⟩
  replace hnv := hnv.ext he1
  have hx := he1
  clear he1
  go_wp2_with fail
  refine (median_any hnv H0 (by omega)).mono ?_
  rintro e w2 ⟨_, rfl, he2, A1, a1, c1, B1, b1, d1, rfl, hma, hmb⟩
  replace hnv := hnv.ext he2
  replace hx := hx.trans he2
  clear he2
  go_wp2_with fail
  refine (quantile_far hnv hp hc1 hc2 (by first | omega | exact hl40)).mono ?_
  rintro e w3 ⟨_, rfl, he3, A2, c2, rfl⟩
  replace hnv := hnv.ext he3
  replace hma := hma.ext he3
  replace hmb := hmb.ext he3
  replace hx := hx.trans he3
  clear he3
  go_wp2_with fail
  refine (bits_nv hnv (by omega)).mono ?_
  rintro e w4 ⟨rfl, hq4⟩
  have he4 := hq4.ext
  replace hnv := hnv.ext he4
  replace hma := hma.ext he4
  replace hmb := hmb.ext he4
  replace hx := hx.trans he4
  clear he4 hq4
  go_wp2_with fail
  refine (of45 1 (by omega) _).mono ?_
  rintro e w5 ⟨_, rfl, he5, h1⟩
  replace hnv := hnv.ext he5
  replace hma := hma.ext he5
  replace hmb := hmb.ext he5
  replace hx := hx.trans he5
  clear he5
  go_wp2_with fail
  refine (sub_nv hnv h1.nv (by omega) (by omega)).mono ?_
  rintro e w6 ⟨_, rfl, he6, la, rfl, hla⟩
  replace hnv := hnv.ext he6
  replace hma := hma.ext he6
  replace hmb := hmb.ext he6
  replace h1 := h1.ext he6
  replace hx := hx.trans he6
  clear he6
  go_wp2_with fail
  refine (of45 2 (by omega) _).mono ?_
  rintro e w7 ⟨_, rfl, he7, h2⟩
  replace hnv := hnv.ext he7
  replace hma := hma.ext he7
  replace hmb := hmb.ext he7
  replace h1 := h1.ext he7
  replace hla := hla.ext he7
  replace hx := hx.trans he7
  clear he7
  go_wp2_with fail
  refine (divMod_any hla.nv h2.nv (by omega) (Nat.le_trans (dlm (Nat.sub_le _ _) hl40) (by omega)) (Nat.le_trans (dl (by omega)) (by omega))).mono ?_
  rintro e w8 ⟨A3, a3, c3, B3, b3, d3, rfl, h3a, h3b, he8⟩
  replace hnv := hnv.ext he8
  replace hma := hma.ext he8
  replace hmb := hmb.ext he8
  replace h1 := h1.ext he8
  replace hla := hla.ext he8
  replace h2 := h2.ext he8
  replace hx := hx.trans he8
  clear he8
  go_wp2_with fail
  refine (of45 2 (by omega) _).mono ?_
  rintro e w9 ⟨_, rfl, he9, h2'⟩
  replace hnv := hnv.ext he9
  replace hma := hma.ext he9
  replace hmb := hmb.ext he9
  replace h1 := h1.ext he9
  replace hla := hla.ext he9
  replace h2 := h2.ext he9
  replace h3a := h3a.ext he9
  replace hx := hx.trans he9
  clear he9
  go_wp2_with fail
  refine (divMod_any hnv h2'.nv (by omega) (by omega) (Nat.le_trans (dl (by omega)) (by omega))).mono ?_
  rintro e w10 ⟨A4, a4, c4, B4, b4, d4, rfl, h4a, h4b, he10⟩
  replace hnv := hnv.ext he10
  replace hma := hma.ext he10
  replace hmb := hmb.ext he10
  replace h1 := h1.ext he10
  replace hla := hla.ext he10
  replace h2 := h2.ext he10
  replace h3a := h3a.ext he10
  replace h2' := h2'.ext he10
  replace hx := hx.trans he10
  clear he10
  go_wp2_with fail
  refine (cmp_nv hma.nv h3a.nv).mono ?_
  rintro e w11 ⟨rfl, hq11⟩
  have he11 := hq11.ext
  replace hnv := hnv.ext he11
  replace hma := hma.ext he11
  replace hmb := hmb.ext he11
  replace h1 := h1.ext he11
  replace hla := hla.ext he11
  replace h2 := h2.ext he11
  replace h3a := h3a.ext he11
  replace h2' := h2'.ext he11
  replace h4a := h4a.ext he11
  replace hx := hx.trans he11
  clear he11 hq11
  rw [cmpI_eq rfl]
  go_wp2_with fail
  refine (cmp_nv hmb.nv h4a.nv).mono ?_
  rintro e w12 ⟨rfl, hq12⟩
  have he12 := hq12.ext
  replace hnv := hnv.ext he12
  replace hma := hma.ext he12
  replace hmb := hmb.ext he12
  replace h1 := h1.ext he12
  replace hla := hla.ext he12
  replace h2 := h2.ext he12
  replace h3a := h3a.ext he12
  replace h2' := h2'.ext he12
  replace h4a := h4a.ext he12
  replace hx := hx.trans he12
  clear he12 hq12
  rw [cmpI_eq rfl]
  go_wp2_with fail
  go_ret
  exact Ret.mk hx rfl

set_option maxRecDepth 20000 in
set_option maxHeartbeats 1600000 in
theorem positions_n_ok {w : World} {v : Value} {ds : List Nat} {p q : Nat} (hd : Dg w v ds) (hp : p < 18446744073709551616) (hq : q < 18446744073709551616) (hlen : ds.length ≤ 40) (H0 : 0 < val ds) (HC : Hid (0 < q ∧ p ≤ q)) :
    Calls Try.prog 10 #[v, .int .u64 (p : Int), .int .u64 (q : Int)] w (Ret (fun x _ => x = .bool true) w) := by
  have hnv := hd.nv
  have hlow := dig_len_ds hd.1
  obtain ⟨A, n, c, rfl, hn, -⟩ := hd.parts
  rw [← hn] at hlow
  clear hd
  rw [← hn] at hlen
  clear hn
  have hlen' : ¬ (40 : Int) < n := by omega
  have hl40 : (dig (val ds)).length ≤ 40 := by omega
  clear hlow hlen
  generalize val ds = N at *
  obtain ⟨hc1, hc2⟩ := HC.out
  clear HC
  have hq0 : ((q : Int) == 0) = false := by simp; omega
  have hpq : ¬ (q : Int) < p := by omega
  have hb0 := blen_pos H0
  have hbl : ((blen N : Int) == 0) = false := by simp; omega
  clear hb0
  go_enter Try.func10, Try.ntmps10
  go_wp2_with fail
  refine (awake45 _).mono ?_
  rintro e w1 ⟨_, rfl, he1, rfl⟩
  replace hnv := hnv.ext he1
  have hx := he1
  clear he1
  go_wp2_with fail
  refine (median_any hnv H0 (by omega)).mono ?_
  rintro e w2 ⟨_, rfl, he2, A1, a1, c1, B1, b1, d1, rfl, hma, hmb⟩
  replace hnv := hnv.ext he2
  replace hx := hx.trans he2
  clear he2
  go_wp2_with fail
  refine (quantile_ok hnv H0 hq hc1 hc2 hl40).mono ?_
  rintro e w3 ⟨_, rfl, he3, A2, a2, c2, rfl, hqa⟩
  replace hnv := hnv.ext he3
  replace hma := hma.ext he3
  replace hmb := hmb.ext he3
  replace hx := hx.trans he3
  clear he3
  go_wp2_with fail
  refine (bits_nv hnv (by omega)).mono ?_
  rintro e w4 ⟨rfl, hq4⟩
  have he4 := hq4.ext
  replace hnv := hnv.ext he4
  replace hma := hma.ext he4
  replace hmb := hmb.ext he4
  replace hqa := hqa.ext he4
  replace hx := hx.trans he4
  clear he4 hq4
  go_wp2_with fail
  refine (of45 1 (by omega) _).mono ?_
  rintro e w5 ⟨_, rfl, he5, h1⟩
  replace hnv := hnv.ext he5
  replace hma := hma.ext he5
  replace hmb := hmb.ext he5
  replace hqa := hqa.ext he5
  replace hx := hx.trans he5
  clear he5
  go_wp2_with fail
  refine (sub_nv hnv h1.nv (by omega) (by omega)).mono ?_
  rintro e w6 ⟨_, rfl, he6, la, rfl, hla⟩
  replace hnv := hnv.ext he6
  replace hma := hma.ext he6
  replace hmb := hmb.ext he6
  replace hqa := hqa.ext he6
  replace h1 := h1.ext he6
  replace hx := hx.trans he6
  clear he6
  go_wp2_with fail
  refine (of45 2 (by omega) _).mono ?_
  rintro e w7 ⟨_, rfl, he7, h2⟩
  replace hnv := hnv.ext he7
  replace hma := hma.ext he7
  replace hmb := hmb.ext he7
  replace hqa := hqa.ext he7
  replace h1 := h1.ext he7
  replace hla := hla.ext he7
  replace hx := hx.trans he7
  clear he7
  go_wp2_with fail
  refine (divMod_any hla.nv h2.nv (by omega) (Nat.le_trans (dlm (Nat.sub_le _ _) hl40) (by omega)) (Nat.le_trans (dl (by omega)) (by omega))).mono ?_
  rintro e w8 ⟨A3, a3, c3, B3, b3, d3, rfl, h3a, h3b, he8⟩
  replace hnv := hnv.ext he8
  replace hma := hma.ext he8
  replace hmb := hmb.ext he8
  replace hqa := hqa.ext he8
  replace h1 := h1.ext he8
  replace hla := hla.ext he8
  replace h2 := h2.ext he8
  replace hx := hx.trans he8
  clear he8
  go_wp2_with fail
  refine (of45 2 (by omega) _).mono ?_
  rintro e w9 ⟨_, rfl, he9, h2'⟩
  replace hnv := hnv.ext he9
  replace hma := hma.ext he9
  replace hmb := hmb.ext he9
  replace hqa := hqa.ext he9
  replace h1 := h1.ext he9
  replace hla := hla.ext he9
  replace h2 := h2.ext he9
  replace h3a := h3a.ext he9
  replace hx := hx.trans he9
  clear he9
  go_wp2_with fail
  refine (divMod_any hnv h2'.nv (by omega) (by omega) (Nat.le_trans (dl (by omega)) (by omega))).mono ?_
  rintro e w10 ⟨A4, a4, c4, B4, b4, d4, rfl, h4a, h4b, he10⟩
  replace hnv := hnv.ext he10
  replace hma := hma.ext he10
  replace hmb := hmb.ext he10
  replace hqa := hqa.ext he10
  replace h1 := h1.ext he10
  replace hla := hla.ext he10
  replace h2 := h2.ext he10
  replace h3a := h3a.ext he10
  replace h2' := h2'.ext he10
  replace hx := hx.trans he10
  clear he10
  go_wp2_with fail
  refine (cmp_nv hma.nv h3a.nv).mono ?_
  rintro e w11 ⟨rfl, hq11⟩
  have he11 := hq11.ext
  replace hnv := hnv.ext he11
  replace hma := hma.ext he11
  replace hmb := hmb.ext he11
  replace hqa := hqa.ext he11
  replace h1 := h1.ext he11
  replace hla := hla.ext he11
  replace h2 := h2.ext he11
  replace h3a := h3a.ext he11
  replace h2' := h2'.ext he11
  replace h4a := h4a.ext he11
  replace hx := hx.trans he11
  clear he11 hq11
  rw [cmpI_eq rfl]
  go_wp2_with fail
  refine (cmp_nv hmb.nv h4a.nv).mono ?_
  rintro e w12 ⟨rfl, hq12⟩
  have he12 := hq12.ext
  replace hnv := hnv.ext he12
  replace hma := hma.ext he12
  replace hmb := hmb.ext he12
  replace hqa := hqa.ext he12
  replace h1 := h1.ext he12
  replace hla := hla.ext he12
  replace h2 := h2.ext he12
  replace h3a := h3a.ext he12
  replace h2' := h2'.ext he12
  replace h4a := h4a.ext he12
  replace hx := hx.trans he12
  clear he12 hq12
  rw [cmpI_eq rfl]
  go_wp2_with fail
  refine (of_nz p hp _).mono ?_
  rintro e w13 ⟨_, rfl, he13, hP⟩
  replace hnv := hnv.ext he13
  replace hma := hma.ext he13
  replace hmb := hmb.ext he13
  replace hqa := hqa.ext he13
  replace h1 := h1.ext he13
  replace hla := hla.ext he13
  replace h2 := h2.ext he13
  replace h3a := h3a.ext he13
  replace h2' := h2'.ext he13
  replace h4a := h4a.ext he13
  replace hx := hx.trans he13
  clear he13
  go_wp2_with fail
  refine (mul_nv hP.nv hla.nv (Nat.le_trans (dl hp) (by omega)) (Nat.le_trans (dlm (Nat.sub_le _ _) hl40) (by omega))).mono ?_
  rintro e w14 ⟨_, rfl, he14, hM⟩
  replace hnv := hnv.ext he14
  replace hma := hma.ext he14
  replace hmb := hmb.ext he14
  replace hqa := hqa.ext he14
  replace h1 := h1.ext he14
  replace hla := hla.ext he14
  replace h2 := h2.ext he14
  replace h3a := h3a.ext he14
  replace h2' := h2'.ext he14
  replace h4a := h4a.ext he14
  replace hP := hP.ext he14
  replace hx := hx.trans he14
  clear he14
  go_wp2_with fail
  refine (of_nz q hq _).mono ?_
  rintro e w15 ⟨_, rfl, he15, hQ⟩
  replace hnv := hnv.ext he15
  replace hma := hma.ext he15
  replace hmb := hmb.ext he15
  replace hqa := hqa.ext he15
  replace h1 := h1.ext he15
  replace hla := hla.ext he15
  replace h2 := h2.ext he15
  replace h3a := h3a.ext he15
  replace h2' := h2'.ext he15
  replace h4a := h4a.ext he15
  replace hP := hP.ext he15
  replace hM := hM.ext he15
  replace hx := hx.trans he15
  clear he15
  go_wp2_with fail
  refine (divMod_any hM.nv hQ.nv hc1 (Nat.le_trans (dig_len_mul (dl hp) (dlm (Nat.sub_le _ _) hl40)) (by omega)) (Nat.le_trans (dl hq) (by omega))).mono ?_
  rintro e w16 ⟨A5, a5, c5, B5, b5, d5, rfl, h5a, h5b, he16⟩
  replace hnv := hnv.ext he16
  replace hma := hma.ext he16
  replace hmb := hmb.ext he16
  replace hqa := hqa.ext he16
  replace h1 := h1.ext he16
  replace hla := hla.ext he16
  replace h2 := h2.ext he16
  replace h3a := h3a.ext he16
  replace h2' := h2'.ext he16
  replace h4a := h4a.ext he16
  replace hP := hP.ext he16
  replace hM := hM.ext he16
  replace hQ := hQ.ext he16
  replace hx := hx.trans he16
  clear he16
  go_wp2_with fail
  refine (cmp_nv hqa.nv h5a.nv).mono ?_
  rintro e w17 ⟨rfl, hq17⟩
  have he17 := hq17.ext
  replace hnv := hnv.ext he17
  replace hma := hma.ext he17
  replace hmb := hmb.ext he17
  replace hqa := hqa.ext he17
  replace h1 := h1.ext he17
  replace hla := hla.ext he17
  replace h2 := h2.ext he17
  replace h3a := h3a.ext he17
  replace h2' := h2'.ext he17
  replace h4a := h4a.ext he17
  replace hP := hP.ext he17
  replace hM := hM.ext he17
  replace hQ := hQ.ext he17
  replace h5a := h5a.ext he17
  replace hx := hx.trans he17
  clear he17 hq17
  rw [cmpI_eq rfl]
  go_wp2_with fail
  go_ret
  exact Ret.mk hx rfl


theorem law_positions {w : World} {v : Value} {ds : List Nat} {p q : Nat} (hd : Dg w v ds) (hp : p < 18446744073709551616) (hq : q < 18446744073709551616) :
    Calls Try.prog 10 #[v, .int .u64 (p : Int), .int .u64 (q : Int)] w (Ret (fun x _ => x = .bool true) w) := by
  by_cases hlen : ds.length ≤ 40
  · by_cases h0 : val ds = 0
    · by_cases h1 : q = 0
      · exact positions_z_q0 hd hp hq hlen (Lib.hid h0) (Lib.hid h1)
      · by_cases h2 : q < p
        · exact positions_z_far hd hp hq hlen (Lib.hid h0) (Lib.hid ⟨by omega, h2⟩)
        · exact positions_z_ok hd hp hq hlen (Lib.hid h0) (Lib.hid ⟨by omega, by omega⟩)
    · by_cases h1 : q = 0
      · exact positions_n_q0 hd hp hq hlen (by omega) (Lib.hid h1)
      · by_cases h2 : q < p
        · exact positions_n_far hd hp hq hlen (by omega) (Lib.hid ⟨by omega, h2⟩)
        · exact positions_n_ok hd hp hq hlen (by omega) (Lib.hid ⟨by omega, by omega⟩)
  · exact positions_long hd hp hq (Lib.hid (by omega))
end Go.Proofs.Ytamkbboijblooaa
