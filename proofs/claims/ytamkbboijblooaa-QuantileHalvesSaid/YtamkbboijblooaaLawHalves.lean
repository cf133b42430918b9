/- The walk of QuantileHalves. -/
import Derived.Test.YtamkbboijblooaaLawQLarge
namespace Go.Proofs.Ytamkbboijblooaa
open Go.RowKit

theorem half_cut (n : Nat) (h : 0 < n) : cutAt n 2 1 = (n - 1) / 2 + 1 := by unfold cutAt; omega

set_option maxRecDepth 20000 in
set_option maxHeartbeats 6400000 in
theorem halves_long {w : World} {v : Value} {ds : List Nat} (hd : Dg w v ds) (hlen : Hid (40 < ds.length)) :
    Calls Try.prog 13 #[v] w (Ret (fun x _ => x = .bool true) w) := by
  have hnv := hd.nv
  have hlow := dig_len_ds hd.1
  obtain ⟨A, n, c, rfl, hn, -⟩ := hd.parts
  have HN := Lib.hid hn
  clear hn hd
  have hlen' : decide ((40 : Int) < n) = true := by have := hlen.out; have := HN.out; simp; omega
  clear hlow hnv hlen HN
  go_enter Try.func13, Try.ntmps13
  go_wp2_with fail
  refine (awake45 _).mono ?_
  rintro e w1 ⟨_, rfl, he1, rfl⟩
  have hx := he1
  clear he1
  go_wp2_with fail
  go_ret
  exact Ret.mk hx rfl

set_option maxRecDepth 20000 in
set_option maxHeartbeats 6400000 in
theorem halves_zero {w : World} {v : Value} {ds : List Nat} (hd : Dg w v ds) (hlen : Hid (ds.length ≤ 40)) (H0 : Hid (val ds = 0)) :
    Calls Try.prog 13 #[v] w (Ret (fun x _ => x = .bool true) w) := by
  have hnv := hd.nv
  have hlow := dig_len_ds hd.1
  obtain ⟨A, n, c, rfl, hn, -⟩ := hd.parts
  have HN := Lib.hid hn
  clear hn hd
  have hlen' : decide ((40 : Int) < n) = false := by have := hlen.out; have := HN.out; simp; omega
  have hl40 : (dig (val ds)).length ≤ 40 := by have := hlen.out; omega
  clear hlow hlen HN
  rw [H0.out] at hnv hl40
  clear H0
  go_enter Try.func13, Try.ntmps13
  go_wp2_with fail
  refine (awake45 _).mono ?_
  rintro e w1 ⟨_, rfl, he1, rfl⟩
  replace hnv := hnv.ext he1
  have hx := he1
  clear he1
  go_wp2_with fail
  refine (bits_nv hnv (by omega)).mono ?_
  rintro e w2 ⟨rfl, hq2⟩
  have he2 := hq2.ext
  replace hnv := hnv.ext he2
  replace hx := hx.trans he2
  clear he2 hq2
  rw [show blen 0 = 0 from rfl]
  go_wp2_with fail
  go_ret
  exact Ret.mk hx rfl

set_option maxRecDepth 20000 in
set_option maxHeartbeats 6400000 in
theorem halves_ok {w : World} {v : Value} {ds : List Nat} (hd : Dg w v ds) (hlen : Hid (ds.length ≤ 40)) (H0 : 0 < val ds) :
    Calls Try.prog 13 #[v] w (Ret (fun x _ => x = .bool true) w) := by
  have hnv := hd.nv
  have hlow := dig_len_ds hd.1
  obtain ⟨A, n, c, rfl, hn, -⟩ := hd.parts
  have HN := Lib.hid hn
  clear hn hd
  have hlen' : decide ((40 : Int) < n) = false := by have := hlen.out; have := HN.out; simp; omega
  have hl40 : (dig (val ds)).length ≤ 40 := by have := hlen.out; omega
  clear hlow hlen HN
  generalize val ds = N at *
  have hb0 := blen_pos H0
  have hbl : ((blen N : Int) == 0) = false := by simp; omega
  clear hb0
  go_enter Try.func13, Try.ntmps13
  go_wp2_with fail
  refine (awake45 _).mono ?_
  rintro e w1 ⟨_, rfl, he1, rfl⟩
  replace hnv := hnv.ext he1
  have hx := he1
  clear he1
  go_wp2_with fail
  refine (bits_nv hnv (by omega)).mono ?_
  rintro e w2 ⟨rfl, hq2⟩
  have he2 := hq2.ext
  replace hnv := hnv.ext he2
  replace hx := hx.trans he2
  clear he2 hq2
  go_wp2_with fail
  refine (median_any hnv H0 (by omega)).mono ?_
  rintro e w3 ⟨_, rfl, he3, A1, a1, c1, B1, b1, d1, rfl, hma, hmb⟩
  replace hnv := hnv.ext he3
  replace hx := hx.trans he3
  clear he3
  go_wp2_with fail
  refine (quantile_ok (p := 1) (q := 2) hnv H0 (by omega) (by omega) (by omega) hl40).mono ?_
  rintro e w4 ⟨_, rfl, he4, A2, a2, c2, rfl, hqa⟩
  replace hnv := hnv.ext he4
  replace hma := hma.ext he4
  replace hmb := hmb.ext he4
  replace hx := hx.trans he4
  clear he4
  replace hqa := hqa.cast (show 1 * (N - 1) / 2 = (N - 1) / 2 by rw [Nat.one_mul])
  go_wp2_with fail
  refine (cuts_any (p := 2) hnv (by omega) (by omega) (by omega)).mono ?_
  rintro e w5 ⟨A3, m, c3, rfl, hm, hns, he5⟩
  replace hnv := hnv.ext he5
  replace hma := hma.ext he5
  replace hmb := hmb.ext he5
  replace hqa := hqa.ext he5
  replace hx := hx.trans he5
  clear he5
  obtain rfl : m = 3 := hm
  obtain ⟨ad, B4, b4, d4, rfl, hc1, hz1⟩ := hns 1 (by omega)
  rw [show ad.add 1 = ⟨ad.block, ad.off + 1, none⟩ from rfl] at hc1
  replace hz1 := hz1.cast (half_cut N H0)
  clear hns hbl
  have hla : (dig ((N - 1) / 2)).length ≤ 40 := dlm (by omega) hl40
  have hlb : (dig (N / 2)).length ≤ 40 := dlm (by omega) hl40
  have hls : (dig ((N - 1) / 2 + N / 2)).length ≤ 40 := dlm (by omega) hl40
  have hl1 : (dig 1).length ≤ 2 := dig_len_u64 (by omega)
  go_upto_region 8 with fail
  go_region_held3 (fun V => Ext w5 V ∧ V.cell? ⟨ad.block, ad.off + 1, none⟩ = some (.slice B4 b4 d4))
    ((refine (fun he => ⟨he, Ext.cell he hc1⟩) ?_; repeat (first | exact Ext.refl _ | exact (Ext.refl _).drew | refine Ext.drew ?_ | refine Ext.trans ?_ (by assumption))))
    (first
      | (go_at_call 36; refine (of45 1 (by omega) _).mono ?_; rintro e wa ⟨o, rfl, hea, hoa⟩)
      | (go_at_call 21; (with_reducible refine (cmp_eq (a := (N - 1) / 2) (u := .slice A1 a1 c1) (v := .slice A2 a2 c2) (hma.ext (And.left (by assumption))).nv (hqa.ext (And.left (by assumption))).nv).mono ?_); rintro e wb ⟨rfl, hqb⟩; have heb := Qt.ext hqb)
      | (go_at_call 21; (with_reducible refine (cmp_le (u := .slice A1 a1 c1) (v := .slice B1 b1 d1) (hma.ext (And.left (by assumption))).nv (hmb.ext (And.left (by assumption))).nv (by omega)).mono ?_); rintro e wb ⟨cx, rfl, hcx, hqb⟩; have heb := Qt.ext hqb)
      | (go_at_call 27; (with_reducible refine (add_nv (u := .slice A1 a1 c1) (v := .slice B1 b1 d1) (hma.ext (And.left (by assumption))).nv (hmb.ext (And.left (by assumption))).nv (by omega) (by omega)).mono ?_); rintro e ws ⟨os, rfl, hes, hos⟩)
      | (go_at_call 27; (with_reducible refine (add_nv (u := .slice A1 a1 c1) (v := o) (hma.ext (And.left (by assumption))).nv hoa.nv (by omega) (by omega)).mono ?_); rintro e wd ⟨od, rfl, hed, hod⟩)
      | (go_at_call 21; (with_reducible refine (cmp_eq (u := od) (v := .slice B4 b4 d4) hod.nv (hz1.ext (And.left (by assumption))).nv).mono ?_); rintro e wb ⟨rfl, hqb⟩; have heb := Qt.ext hqb)
      | (go_at_call 21; (with_reducible refine (cmp_le (u := .slice B1 b1 d1) (v := od) (hmb.ext (And.left (by assumption))).nv hod.nv (by omega)).mono ?_); rintro e wb ⟨cy, rfl, hcy, hqb⟩; have heb := Qt.ext hqb)
      | (go_at_call 27; (with_reducible refine (add_nv (u := os) (v := o) (hos.ext hea).nv hoa.nv (by omega) (by omega)).mono ?_); rintro e wf ⟨of', rfl, hef, hof⟩; replace hof := Nz.cast hof (show (N - 1) / 2 + N / 2 + 1 = N by omega))
      | (go_at_call 21; (with_reducible refine (cmp_eq (u := of') (v := .slice A n c) hof.nv (hnv.ext (And.left (by assumption)))).mono ?_); rintro e wb ⟨rfl, hqb⟩; have heb := Qt.ext hqb))
  have hfin : Ext w5 _ := And.left (b := World.cell? _ _ = _) (by assumption)
  replace hx := hx.trans hfin
  go_wp2_with fail
  go_ret
  exact Ret.mk hx rfl


theorem law_halves {w : World} {v : Value} {ds : List Nat} (hd : Dg w v ds) :
    Calls Try.prog 13 #[v] w (Ret (fun x _ => x = .bool true) w) := by
  by_cases hlen : ds.length ≤ 40
  · by_cases h0 : val ds = 0
    · exact halves_zero hd (Lib.hid hlen) (Lib.hid h0)
    · exact halves_ok hd (Lib.hid hlen) (by omega)
  · exact halves_long hd (Lib.hid (by omega))
end Go.Proofs.Ytamkbboijblooaa
