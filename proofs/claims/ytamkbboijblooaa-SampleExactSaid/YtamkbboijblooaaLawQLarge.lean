/- The walk of QuantileLarge. -/
import Derived.Test.YtamkbboijblooaaLawPages
namespace Go.Proofs.Ytamkbboijblooaa
open Go.RowKit

theorem cutAt_all {n p : Nat} (hp : 0 < p) : cutAt n p p = n := by
  have h1 := Nat.div_add_mod n p
  have h2 := Nat.mod_lt n hp
  unfold cutAt; omega
theorem cutAt_diff (n p i : Nat) : cutAt n p (i + 1) - cutAt n p i = cnt p n i := by rw [cutAt_succ]; omega
theorem cutAt_mono (n p i : Nat) : cutAt n p i ≤ cutAt n p (i + 1) := by rw [cutAt_succ]; omega
theorem cnt_anti {p n i j : Nat} (h : i ≤ j) : cnt p n j ≤ cnt p n i := by unfold cnt; split <;> split <;> omega
theorem cnt_near (p n i j : Nat) : cnt p n i ≤ cnt p n j + 1 := by unfold cnt; split <;> split <;> omega
theorem cmp_ge {w : World} {u v : Value} {a b : Nat} (ha : Nv w u a) (hb : Nv w v b) (h : b ≤ a) :
    Calls Try.prog 21 #[u, v] w fun e w' => ∃ c : Int, e = .returned (.int .i64 c) ∧ 0 ≤ c ∧ Qt w w' :=
  (cmp_nv ha hb).mono (by
    rintro e w' ⟨rfl, hq⟩
    refine ⟨_, rfl, ?_, hq⟩
    rcases Nat.lt_or_ge b a with hl | hl
    · rw [cmpI_gt hl]; omega
    · rw [cmpI_eq (by omega)]; omega)
theorem pages_le {n s : Nat} (hs : 0 < s) : (n + (s - 1)) / s ≤ n := by
  rcases Nat.lt_or_ge n ((n + (s - 1)) / s) with h | h
  · have h1 := (lt_pages hs).2 h
    have h2 : n * 1 ≤ n * s := Nat.mul_le_mul_left _ hs
    omega
  · exact h

set_option maxRecDepth 20000 in
set_option maxHeartbeats 3200000 in
theorem large_long {w : World} {v : Value} {ds : List Nat} {r s : Nat} (hd : Dg w v ds) (_hr : r < 256) (_hs : s < 18446744073709551616) (hlen : Hid (40 < ds.length)) :
    Calls Try.prog 12 #[v, .int .u8 (r : Int), .int .u64 (s : Int)] w (Ret (fun x _ => x = .bool true) w) := by
  have hnv := hd.nv
  have hlow := dig_len_ds hd.1
  obtain ⟨A, n, c, rfl, hn, -⟩ := hd.parts
  have HN := Lib.hid hn
  clear hn hd
  have hlen' : decide ((40 : Int) < n) = true := by have := hlen.out; have := HN.out; simp; omega
  clear hlow hnv hlen HN
  go_enter Try.func12, Try.ntmps12
  go_wp2_with fail
  refine (awake45 _).mono ?_
  rintro e w1 ⟨_, rfl, he1, rfl⟩
  have hx := he1
  clear he1
  go_wp2_with fail
  go_ret
  exact Ret.mk hx rfl

theorem cnt_small (n p i : Nat) : cnt p n i ≤ n := by
  unfold cnt
  have := Nat.div_le_self n p
  split
  · rename_i h
    have h1 := Nat.div_add_mod n p
    rcases Nat.eq_zero_or_pos p with rfl | hp
    · simp at h ⊢; omega
    · have h2 : n / p ≤ p * (n / p) := Nat.le_mul_of_pos_left _ hp
      omega
  · omega

set_option maxRecDepth 20000 in
set_option maxHeartbeats 3200000 in
theorem large_ok {w : World} {v : Value} {ds : List Nat} {r s : Nat} (hd : Dg w v ds) (hr : r < 256) (hs : s < 18446744073709551616) (hlen : Hid (ds.length ≤ 40)) :
    Calls Try.prog 12 #[v, .int .u8 (r : Int), .int .u64 (s : Int)] w (Ret (fun x _ => x = .bool true) w) := by
  have hnv := hd.nv
  have hlow := dig_len_ds hd.1
  obtain ⟨A, n, c, rfl, hn, -⟩ := hd.parts
  have HN := Lib.hid hn
  clear hn hd
  have hlen' : decide ((40 : Int) < n) = false := by have := hlen.out; have := HN.out; simp; omega
  have hl40 : (dig (val ds)).length ≤ 40 := by have := hlen.out; omega
  clear hlow hlen HN
  generalize val ds = N at *
  obtain ⟨q, hq⟩ : ∃ q, q = r % 50 := ⟨_, rfl⟩
  have hmod : (r : Int) % 50 = (q : Int) := by omega
  have hq50 : q < 50 := by omega
  obtain ⟨p, hpq⟩ : ∃ p, p = q + 1 := ⟨_, rfl⟩
  have hpe : (q : Int) + 1 = (p : Int) := by omega
  have h0 : 0 < p := by omega
  have hp50 : p ≤ 50 := by omega
  clear hq hpq hq50
  go_enter Try.func12, Try.ntmps12
  go_wp2_with fail
  refine (awake45 _).mono ?_
  rintro e w1 ⟨_, rfl, he1, rfl⟩
  replace hnv := hnv.ext he1
  have hx := he1
  clear he1
  go_wp2_with fail
  refine (cuts_any (p := p) hnv h0 (by omega) (by omega)).mono ?_
  rintro e w2 ⟨A1, m, c1, rfl, hm, hns, he2⟩
  replace hnv := hnv.ext he2
  replace hx := hx.trans he2
  clear he2
  have hme : ((m : Int) != (p : Int) + 1) = false := by simp; omega
  have hmp : p < m := by omega
  obtain ⟨ad, B0, b0, d0, rfl, hc0, hz0⟩ := hns 0 (by omega)
  obtain ⟨ad', B1, b1, d1, e1, hc1, hz1⟩ := hns 1 (by omega)
  obtain rfl : ad = ad' := by injection e1
  obtain ⟨ad', Bp, bp, dp, e2, hcp, hzp⟩ := hns p hmp
  obtain rfl : ad = ad' := by injection e2
  clear e1 e2 hmod hpe
  have HM := Lib.hid hm
  clear hm
  rw [add_zero] at hc0
  rw [show ad.add 1 = ⟨ad.block, ad.off + 1, none⟩ from rfl] at hc1
  replace hz0 := hz0.cast (cutAt_zero _ _)
  replace hzp := hzp.cast (cutAt_all h0)
  have i1 : (0 : Int) ≤ (p : Int) := by omega
  have i2 : (p : Int) < (m : Int) := by omega
  have i3 : (1 : Int) < (m : Int) := by omega
  have i4 : (0 : Int) < (m : Int) := by omega
  have i5 : 0 < m := by omega
  have i6 : 1 < m := by omega
  go_wp2_with fail
  refine (bits_nv hz0.nv (by rw [dig_zero]; simp)).mono ?_
  rintro e w3 ⟨rfl, hq3⟩
  have he3 := hq3.ext
  replace hnv := hnv.ext he3
  replace hz0 := hz0.ext he3
  replace hz1 := hz1.ext he3
  replace hzp := hzp.ext he3
  replace hns := hns.ext he3
  replace hc0 := he3.cell hc0
  replace hc1 := he3.cell hc1
  replace hcp := he3.cell hcp
  replace hx := hx.trans he3
  clear he3 hq3
  rw [show blen 0 = 0 from rfl]
  go_wp2_with fail
  refine (cmp_eq hzp.nv hnv).mono ?_
  rintro e w4 ⟨rfl, hq4⟩
  have he4 := hq4.ext
  replace hnv := hnv.ext he4
  replace hz0 := hz0.ext he4
  replace hz1 := hz1.ext he4
  replace hzp := hzp.ext he4
  replace hns := hns.ext he4
  replace hc0 := he4.cell hc0
  replace hc1 := he4.cell hc1
  replace hcp := he4.cell hcp
  replace hx := hx.trans he4
  clear he4 hq4
  clear hcp hzp hme
  go_upto_region 9 with fail
  go_region_held3 (fun V => Ext w4 V ∧ V.cell? ⟨ad.block, ad.off + 1, none⟩ = some (.slice B1 b1 d1) ∧ V.cell? ad = some (.slice B0 b0 d0))
    ((refine (fun he => ⟨he, Ext.cell he hc1, Ext.cell he hc0⟩) ?_; repeat (first | exact Ext.refl _ | exact (Ext.refl _).drew | refine Ext.drew ?_ | refine Ext.trans ?_ (by assumption))))
    ((go_at_call 29; refine (sub_nv (hz1.ext (And.left (by assumption))).nv (hz0.ext (And.left (by assumption))).nv (by omega) (Nat.le_trans (dlm (cutAt_le h0 (by omega)) hl40) (by omega))).mono ?_; rintro e wa ⟨_, rfl, hea, fst, rfl, hfst⟩))
  have hfin := And.left (b := _ ∧ _) (by assumption)
  replace hfst := hfst.cast (show cutAt N p 1 - 0 = cnt p N 0 by have := cutAt_diff N p 0; rw [cutAt_zero] at this; exact this)
  replace hnv := hnv.ext hfin
  replace hns := hns.ext hfin
  replace hx := hx.trans hfin
  clear hz0 hz1 hc0 hc1 hfin
  go_wp2_with fail
  have HNS := Lib.hid hns
  clear hns
  obtain ⟨w0, rfl⟩ : ∃ w0 : World, w0 = wa := ⟨_, rfl⟩
  go_loopw [12, 13] (fun t q wr => ∃ (i : Nat), 1 ≤ i ∧ i ≤ p + 1 ∧ q = .int .i64 i ∧ Nz wr t (cnt p N (i - 2)) ∧ Ext w0 wr) (fun _ q _ => p + 1 - (intOf q).toNat)
  case atStart => exact ⟨1, by omega, by omega, rfl, hfst, Ext.refl _⟩
  case round =>
    obtain ⟨i, hi1, hi2, rfl, hbf, hext⟩ := hrel
    by_cases hip : i ≤ p
    · obtain ⟨ad', B2, b2, d2, e1, hc2, hz2⟩ := HNS.out i (by omega)
      obtain rfl : ad = ad' := by injection e1
      obtain ⟨ad', B3, b3, d3, e2, hc3, hz3⟩ := HNS.out (i - 1) (by omega)
      obtain rfl : ad = ad' := by injection e2
      clear e1 e2
      replace hc2 := hext.cell hc2
      replace hc3 := hext.cell hc3
      replace hz2 := hz2.ext hext
      replace hz3 := hz3.ext hext
      have j1 : (0 : Int) ≤ (i : Int) := by omega
      have j2 : (i : Int) < (m : Int) := by omega
      have j3 : (0 : Int) ≤ (i : Int) - 1 := by omega
      have j4 : (i : Int) - 1 < (m : Int) := by omega
      have j5 : IntKind.i64.wrap ((i : Int) - 1) = (i : Int) - 1 := IntWalk.i64_in _ (by omega)
      have j6 : ((i : Int) - 1).toNat = i - 1 := by omega
      have j7 : (i : Int) ≤ (p : Int) := by omega
      have j8 : (1 : Int) ≤ (i : Int) := by omega
      have j9 : (i : Int) < (m : Int) + 1 := by omega
      have j10 : (i : Int) ≤ (m : Int) := by omega
      have j11 : i < m + 1 := by omega
      have hcm := cutAt_mono N p (i - 1)
      have hcd := cutAt_diff N p (i - 1)
      rw [show i - 1 + 1 = i by omega] at hcm hcd
      have HCM := Lib.hid hcm; have HCD := Lib.hid hcd
      clear hcm hcd
      go_upto_region 14 with fail
      go_region_held3 (fun V => Ext wr V ∧ V.cell? (ad.add i) = some (.slice B2 b2 d2) ∧ V.cell? (ad.add (i - 1)) = some (.slice B3 b3 d3))
        ((refine (fun he => ⟨he, Ext.cell he hc2, Ext.cell he hc3⟩) ?_; repeat (first | exact Ext.refl _ | exact (Ext.refl _).drew | refine Ext.drew ?_ | refine Ext.trans ?_ (by assumption))))
        ((go_at_call 29; refine (sub_nv (hz2.ext (And.left (by assumption))).nv (hz3.ext (And.left (by assumption))).nv HCM.out (Nat.le_trans (dlm (cutAt_le h0 (by omega)) hl40) (by omega))).mono ?_; rintro e wa ⟨_, rfl, hea, dd, rfl, hdd⟩))
      have hfin := And.left (b := _ ∧ _) (by assumption)
      replace hdd := hdd.cast HCD.out
      replace hbf := hbf.ext hfin
      replace hext := hext.trans hfin
      have hfst2 := hfst.ext hext
      clear hc2 hc3 hz2 hz3 hfin j3 j4 j5 j6 HCM HCD
      go_wp2_with fail
      refine (cmp_le hdd.nv hbf.nv (cnt_anti (by omega))).mono ?_
      rintro e v1 ⟨ce, rfl, hce, hq1⟩
      go_wp2_with fail
      refine (of45 1 (by omega) _).mono ?_
      rintro e v2 ⟨_, rfl, hv2, h1⟩
      have hv12 := hq1.ext.trans hv2
      go_wp2_with fail
      refine (add_nv (hdd.ext hv12).nv h1.nv (Nat.le_trans (dlm (cnt_small N p _) hl40) (by omega)) (Nat.le_trans (dl (by omega)) (by omega))).mono ?_
      rintro e v3 ⟨_, rfl, hv3, hsum⟩
      have hv13 := hv12.trans hv3
      go_wp2_with fail
      refine (cmp_ge hsum.nv (hfst2.ext hv13).nv (cnt_near _ _ _ _)).mono ?_
      rintro e v4 ⟨cf, rfl, hcf, hq4⟩
      have hv14 := hv13.trans hq4.ext
      replace hdd := hdd.ext hv14
      replace hext := hext.trans hv14
      have hcf' : ¬ cf < 0 := by omega
      clear hq1 hv2 h1 hv12 hv3 hsum hv13 hq4 hv14 hbf hfst2
      go_wp2_with fail
      go_roundw
      case rel => exact ⟨i + 1, by omega, by omega, by go_num, by rw [show i + 1 - 2 = i - 1 by omega]; exact hdd, hext⟩
      case measure => simp [intOf]; omega
    · obtain rfl : i = p + 1 := by omega
      have hip' : ¬ ((p : Int) + 1 ≤ (p : Int)) := by omega
      replace hnv := hnv.ext hext
      replace hx := hx.trans hext
      clear hext hbf hfst HNS
      by_cases hs0 : s = 0
      · subst hs0
        go_wp2_with fail
        go_ret
        exact Ret.mk hx rfl
      · have hsb : ((s : Int) == 0) = false := by simp; omega
        by_cases hN : N = 0
        · subst hN
          go_wp2_with fail
          refine (bits_nv hnv (by rw [dig_zero]; simp)).mono ?_
          rintro e v1 ⟨rfl, hq1⟩
          rw [show blen 0 = 0 from rfl]
          go_wp2_with fail
          go_ret
          exact Ret.mk (hx.trans hq1.ext) rfl
        · have hb0 := blen_pos (show 0 < N by omega)
          have hbl : ((blen N : Int) == 0) = false := by simp; omega
          have H0 : 0 < s := by omega
          have hK1 := (lt_pages (n := N) (k := 0) H0).1 (by omega)
          have hK2 := pages_le (n := N) H0
          have hlt := (lt_pages (n := N) (k := (N + (s - 1)) / s - 1) H0).2 (by omega)
          have hge : N ≤ (N + (s - 1)) / s * s := by
            rcases Nat.lt_or_ge ((N + (s - 1)) / s * s) N with h | h
            · have := (lt_pages H0).1 h; omega
            · exact h
          obtain ⟨K, hK⟩ : ∃ K, K = (N + (s - 1)) / s := ⟨_, rfl⟩
          rw [← hK] at hK1 hK2 hlt hge
          have HK := Lib.hid hK
          have HLT := Lib.hid hlt; have HGE := Lib.hid hge
          clear hK hb0 hlt hge
          go_wp2_with fail
          refine (bits_nv hnv (by omega)).mono ?_
          rintro e w61 ⟨rfl, hq61⟩
          have he61 := hq61.ext
          replace hnv := hnv.ext he61
          replace hx := hx.trans he61
          clear he61 hq61
          go_wp2_with fail
          refine (pages_any hnv H0 hs (by omega)).mono ?_
          rintro e w62 ⟨_, rfl, he62, Ak, ak, ck, rfl, hk⟩
          replace hnv := hnv.ext he62
          replace hx := hx.trans he62
          clear he62
          rw [← HK.out] at hk
          go_wp2_with fail
          refine (of45 1 (by omega) _).mono ?_
          rintro e w63 ⟨_, rfl, he63, h1⟩
          replace hnv := hnv.ext he63
          replace hk := hk.ext he63
          replace hx := hx.trans he63
          clear he63
          go_wp2_with fail
          refine (sub_nv hk.nv h1.nv (by omega) (Nat.le_trans (dlm hK2 hl40) (by omega))).mono ?_
          rintro e w64 ⟨_, rfl, he64, la, rfl, hla⟩
          replace hnv := hnv.ext he64
          replace hk := hk.ext he64
          replace h1 := h1.ext he64
          replace hx := hx.trans he64
          clear he64
          clear h1
          clear hk
          go_wp2_with fail
          refine (page_any (p := K - 1) hnv hla.nv H0 hs (by omega) (Nat.le_trans (dlm (by omega) hl40) (by omega)) (by rw [← HK.out]; omega)).mono ?_
          rintro e w65 ⟨_, rfl, he65, A2, a2, c2, B2, b2, d2, rfl, hlo, hhi⟩
          replace hnv := hnv.ext he65
          replace hla := hla.ext he65
          replace hx := hx.trans he65
          clear he65
          replace hhi := hhi.cast (show pageHi N s (K - 1) = N by rw [pageHi_end, show K - 1 + 1 = K by omega]; exact endAt_all HGE.out)
          go_wp2_with fail
          refine (cmp_lt hlo.nv hnv HLT.out).mono ?_
          rintro e w66 ⟨rfl, hq66⟩
          have he66 := hq66.ext
          replace hnv := hnv.ext he66
          replace hla := hla.ext he66
          replace hlo := hlo.ext he66
          replace hhi := hhi.ext he66
          replace hx := hx.trans he66
          clear he66 hq66
          go_wp2_with fail
          refine (cmp_eq hhi.nv hnv).mono ?_
          rintro e w67 ⟨rfl, hq67⟩
          have he67 := hq67.ext
          replace hnv := hnv.ext he67
          replace hla := hla.ext he67
          replace hlo := hlo.ext he67
          replace hhi := hhi.ext he67
          replace hx := hx.trans he67
          clear he67 hq67
          go_wp2_with fail
          refine (of_nz s hs _).mono ?_
          rintro e w68 ⟨_, rfl, he68, hS⟩
          replace hnv := hnv.ext he68
          replace hla := hla.ext he68
          replace hlo := hlo.ext he68
          replace hhi := hhi.ext he68
          replace hx := hx.trans he68
          clear he68
          go_wp2_with fail
          refine (mul_nv hla.nv hS.nv (Nat.le_trans (dlm (by omega) hl40) (by omega)) (Nat.le_trans (dl hs) (by omega))).mono ?_
          rintro e w69 ⟨_, rfl, he69, hM⟩
          replace hnv := hnv.ext he69
          replace hla := hla.ext he69
          replace hlo := hlo.ext he69
          replace hhi := hhi.ext he69
          replace hS := hS.ext he69
          replace hx := hx.trans he69
          clear he69
          go_wp2_with fail
          refine (cmp_eq hlo.nv hM.nv).mono ?_
          rintro e w70 ⟨rfl, hq70⟩
          have he70 := hq70.ext
          replace hnv := hnv.ext he70
          replace hla := hla.ext he70
          replace hlo := hlo.ext he70
          replace hhi := hhi.ext he70
          replace hS := hS.ext he70
          replace hM := hM.ext he70
          replace hx := hx.trans he70
          clear he70 hq70
          go_wp2_with fail
          go_ret
          exact Ret.mk hx rfl


theorem law_large {w : World} {v : Value} {ds : List Nat} {r s : Nat} (hd : Dg w v ds) (hr : r < 256) (hs : s < 18446744073709551616) :
    Calls Try.prog 12 #[v, .int .u8 (r : Int), .int .u64 (s : Int)] w (Ret (fun x _ => x = .bool true) w) := by
  by_cases hlen : ds.length ≤ 40
  · exact large_ok hd hr hs (Lib.hid hlen)
  · exact large_long hd hr hs (Lib.hid (by omega))
end Go.Proofs.Ytamkbboijblooaa
