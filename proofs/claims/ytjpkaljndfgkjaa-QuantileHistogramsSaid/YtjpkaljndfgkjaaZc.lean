/- awake of law 45. -/
import Derived.Test.YtjpkaljndfgkjaaZb
namespace Go.Proofs.Ytjpkaljndfgkjaa
open Go.RowKit Go.Maps

theorem dl {a : Nat} (h : a < 18446744073709551616) : (dig a).length ≤ 1000 := Nat.le_trans (dig_len_u64 h) (by omega)
theorem is45_yes {w : World} {u : Value} {n : Nat} (hu : Nv w u n) (hn : n < 9223372036854775808) :
    Calls Try.prog 27 #[u, .int .i64 (n : Int)] w (Ret (fun x _ => x = .bool true) w) :=
  (is45 hu hn).mono (by rintro e w' ⟨x, rfl, he, rfl⟩; exact Ret.mk he (by simp))
theorem is45_no {w : World} {u : Value} {a n : Nat} (hu : Nv w u a) (hn : n < 9223372036854775808) (h : a ≠ n) :
    Calls Try.prog 27 #[u, .int .i64 (n : Int)] w (Ret (fun x _ => x = .bool false) w) :=
  (is45 hu hn).mono (by rintro e w' ⟨x, rfl, he, rfl⟩; exact Ret.mk he (by simp [h]))
set_option maxRecDepth 20000 in
set_option maxHeartbeats 1600000 in
theorem awake45 (w : World) : Calls Try.prog 17 #[] w (Ret (fun x _ => x = .bool true) w) := by
  go_enter Try.func17, Try.ntmps17
  go_wp2_with fail
  refine (of45 10 (by omega) _).mono ?_
  rintro e w1 ⟨_, rfl, he1, h10⟩
  have hx := he1
  clear he1
  go_wp2_with fail
  refine (median_any h10.nv (by omega) (dl (by omega))).mono ?_
  rintro e w2 ⟨_, rfl, he2, A1, a1, c1, B1, b1, d1, rfl, hma, hmb⟩
  replace h10 := h10.ext he2
  replace hx := hx.trans he2
  clear he2
  clear h10
  replace hma : Nz w2 _ 4 := hma
  replace hmb : Nz w2 _ 5 := hmb
  go_wp2_with fail
  refine (of45 10 (by omega) _).mono ?_
  rintro e w3 ⟨_, rfl, he3, h10⟩
  replace hma := hma.ext he3
  replace hmb := hmb.ext he3
  replace hx := hx.trans he3
  clear he3
  go_wp2_with fail
  refine (quantile_any (p := 1) (q := 4) h10.nv (by omega) (by omega) (dl (by omega))).mono ?_
  rintro e w4 ⟨_, rfl, he4, A2, a2, c2, rfl, hqa⟩
  replace hma := hma.ext he4
  replace hmb := hmb.ext he4
  replace h10 := h10.ext he4
  replace hx := hx.trans he4
  clear he4
  clear h10
  rw [show ((quantE 10 1 4 : Nat) : Int) = 0 from rfl]
  replace hqa : Nz w4 _ 2 := hqa
  go_wp2_with fail
  refine (of45 10 (by omega) _).mono ?_
  rintro e w5 ⟨_, rfl, he5, h10⟩
  replace hma := hma.ext he5
  replace hmb := hmb.ext he5
  replace hqa := hqa.ext he5
  replace hx := hx.trans he5
  clear he5
  go_wp2_with fail
  refine (pages_any (s := 3) h10.nv (by omega) (by omega) (dl (by omega))).mono ?_
  rintro e w6 ⟨_, rfl, he6, A3, a3, c3, rfl, hpa⟩
  replace hma := hma.ext he6
  replace hmb := hmb.ext he6
  replace hqa := hqa.ext he6
  replace h10 := h10.ext he6
  replace hx := hx.trans he6
  clear he6
  clear h10
  replace hpa : Nz w6 _ 4 := hpa
  go_wp2_with fail
  refine (of45 10 (by omega) _).mono ?_
  rintro e w7 ⟨_, rfl, he7, h10⟩
  replace hma := hma.ext he7
  replace hmb := hmb.ext he7
  replace hqa := hqa.ext he7
  replace hpa := hpa.ext he7
  replace hx := hx.trans he7
  clear he7
  go_wp2_with fail
  refine (of45 3 (by omega) _).mono ?_
  rintro e w8 ⟨_, rfl, he8, h3⟩
  replace hma := hma.ext he8
  replace hmb := hmb.ext he8
  replace hqa := hqa.ext he8
  replace hpa := hpa.ext he8
  replace h10 := h10.ext he8
  replace hx := hx.trans he8
  clear he8
  go_wp2_with fail
  refine (page_any (s := 3) (p := 3) h10.nv h3.nv (by omega) (by omega) (dl (by omega)) (dl (by omega)) (by omega)).mono ?_
  rintro e w9 ⟨_, rfl, he9, A4, a4, c4, B4, b4, d4, rfl, hlo, hhi⟩
  replace hma := hma.ext he9
  replace hmb := hmb.ext he9
  replace hqa := hqa.ext he9
  replace hpa := hpa.ext he9
  replace h10 := h10.ext he9
  replace h3 := h3.ext he9
  replace hx := hx.trans he9
  clear he9
  clear h10
  clear h3
  replace hlo : Nz w9 _ 9 := hlo
  replace hhi : Nz w9 _ 10 := hhi
  go_wp2_with fail
  refine (of45 10 (by omega) _).mono ?_
  rintro e w10 ⟨_, rfl, he10, h10⟩
  replace hma := hma.ext he10
  replace hmb := hmb.ext he10
  replace hqa := hqa.ext he10
  replace hpa := hpa.ext he10
  replace hlo := hlo.ext he10
  replace hhi := hhi.ext he10
  replace hx := hx.trans he10
  clear he10
  go_wp2_with fail
  refine (cuts_any (p := 4) h10.nv (by omega) (by omega) (dl (by omega))).mono ?_
  rintro e w11 ⟨A5, m5, c5, rfl, hm5, hns, he11⟩
  replace hma := hma.ext he11
  replace hmb := hmb.ext he11
  replace hqa := hqa.ext he11
  replace hpa := hpa.ext he11
  replace hlo := hlo.ext he11
  replace hhi := hhi.ext he11
  replace h10 := h10.ext he11
  replace hx := hx.trans he11
  clear he11
  clear h10
  obtain rfl : m5 = 5 := hm5
  obtain ⟨ad, B6, b6, d6, rfl, hc1, hn1⟩ := hns 1 (by omega)
  obtain ⟨ad', B7, b7, d7, e7, hc2, hn2⟩ := hns 2 (by omega)
  obtain rfl : ad = ad' := by injection e7
  obtain ⟨ad', B8, b8, d8, e8, hc3, hn3⟩ := hns 3 (by omega)
  obtain rfl : ad = ad' := by injection e8
  clear e7 e8 hns
  replace hn1 : Nz w11 _ 3 := hn1
  replace hn2 : Nz w11 _ 6 := hn2
  replace hn3 : Nz w11 _ 8 := hn3
  rw [show ad.add 1 = ⟨ad.block, ad.off + 1, none⟩ from rfl] at hc1
  rw [show ad.add 2 = ⟨ad.block, ad.off + 2, none⟩ from rfl] at hc2
  rw [show ad.add 3 = ⟨ad.block, ad.off + 3, none⟩ from rfl] at hc3
  go_wp2_with fail
  refine (is45_yes (n := 4) hma.nv (by omega)).mono ?_
  rintro e w12 ⟨_, rfl, he12, rfl⟩
  replace hma := hma.ext he12
  replace hmb := hmb.ext he12
  replace hqa := hqa.ext he12
  replace hpa := hpa.ext he12
  replace hlo := hlo.ext he12
  replace hhi := hhi.ext he12
  replace hn1 := hn1.ext he12
  replace hn2 := hn2.ext he12
  replace hn3 := hn3.ext he12
  replace hc1 := he12.cell hc1
  replace hc2 := he12.cell hc2
  replace hc3 := he12.cell hc3
  replace hx := hx.trans he12
  clear he12
  clear hma
  go_wp2_with fail
  refine (is45_yes (n := 5) hmb.nv (by omega)).mono ?_
  rintro e w13 ⟨_, rfl, he13, rfl⟩
  replace hmb := hmb.ext he13
  replace hqa := hqa.ext he13
  replace hpa := hpa.ext he13
  replace hlo := hlo.ext he13
  replace hhi := hhi.ext he13
  replace hn1 := hn1.ext he13
  replace hn2 := hn2.ext he13
  replace hn3 := hn3.ext he13
  replace hc1 := he13.cell hc1
  replace hc2 := he13.cell hc2
  replace hc3 := he13.cell hc3
  replace hx := hx.trans he13
  clear he13
  clear hmb
  go_wp2_with fail
  refine (is45_yes (n := 2) hqa.nv (by omega)).mono ?_
  rintro e w14 ⟨_, rfl, he14, rfl⟩
  replace hqa := hqa.ext he14
  replace hpa := hpa.ext he14
  replace hlo := hlo.ext he14
  replace hhi := hhi.ext he14
  replace hn1 := hn1.ext he14
  replace hn2 := hn2.ext he14
  replace hn3 := hn3.ext he14
  replace hc1 := he14.cell hc1
  replace hc2 := he14.cell hc2
  replace hc3 := he14.cell hc3
  replace hx := hx.trans he14
  clear he14
  clear hqa
  go_wp2_with fail
  refine (is45_yes (n := 4) hpa.nv (by omega)).mono ?_
  rintro e w15 ⟨_, rfl, he15, rfl⟩
  replace hpa := hpa.ext he15
  replace hlo := hlo.ext he15
  replace hhi := hhi.ext he15
  replace hn1 := hn1.ext he15
  replace hn2 := hn2.ext he15
  replace hn3 := hn3.ext he15
  replace hc1 := he15.cell hc1
  replace hc2 := he15.cell hc2
  replace hc3 := he15.cell hc3
  replace hx := hx.trans he15
  clear he15
  clear hpa
  go_wp2_with fail
  refine (is45_yes (n := 9) hlo.nv (by omega)).mono ?_
  rintro e w16 ⟨_, rfl, he16, rfl⟩
  replace hlo := hlo.ext he16
  replace hhi := hhi.ext he16
  replace hn1 := hn1.ext he16
  replace hn2 := hn2.ext he16
  replace hn3 := hn3.ext he16
  replace hc1 := he16.cell hc1
  replace hc2 := he16.cell hc2
  replace hc3 := he16.cell hc3
  replace hx := hx.trans he16
  clear he16
  clear hlo
  go_wp2_with fail
  refine (is45_yes (n := 10) hhi.nv (by omega)).mono ?_
  rintro e w17 ⟨_, rfl, he17, rfl⟩
  replace hhi := hhi.ext he17
  replace hn1 := hn1.ext he17
  replace hn2 := hn2.ext he17
  replace hn3 := hn3.ext he17
  replace hc1 := he17.cell hc1
  replace hc2 := he17.cell hc2
  replace hc3 := he17.cell hc3
  replace hx := hx.trans he17
  clear he17
  clear hhi
  go_wp2_with fail
  refine (is45_yes (n := 3) hn1.nv (by omega)).mono ?_
  rintro e w18 ⟨_, rfl, he18, rfl⟩
  replace hn1 := hn1.ext he18
  replace hn2 := hn2.ext he18
  replace hn3 := hn3.ext he18
  replace hc1 := he18.cell hc1
  replace hc2 := he18.cell hc2
  replace hc3 := he18.cell hc3
  replace hx := hx.trans he18
  clear he18
  clear hn1
  go_wp2_with fail
  refine (is45_yes (n := 6) hn2.nv (by omega)).mono ?_
  rintro e w19 ⟨_, rfl, he19, rfl⟩
  replace hn2 := hn2.ext he19
  replace hn3 := hn3.ext he19
  replace hc1 := he19.cell hc1
  replace hc2 := he19.cell hc2
  replace hc3 := he19.cell hc3
  replace hx := hx.trans he19
  clear he19
  clear hn2
  go_wp2_with fail
  refine (is45_yes (n := 8) hn3.nv (by omega)).mono ?_
  rintro e w20 ⟨_, rfl, he20, rfl⟩
  replace hn3 := hn3.ext he20
  replace hc1 := he20.cell hc1
  replace hc2 := he20.cell hc2
  replace hc3 := he20.cell hc3
  replace hx := hx.trans he20
  clear he20
  clear hn3
  go_wp2_with fail
  go_ret
  exact Ret.mk hx rfl
end Go.Proofs.Ytjpkaljndfgkjaa
