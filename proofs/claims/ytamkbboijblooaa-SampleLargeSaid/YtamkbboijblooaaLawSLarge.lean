/- The walk of SampleLarge. -/
import Derived.Test.YtamkbboijblooaaSamJ
import Derived.Test.YtamkbboijblooaaLawRises
namespace Go.Proofs.Ytamkbboijblooaa
open Go.RowKit

/-- 2 to the power 63. -/
def P63 : Nat := 9223372036854775808
theorem of_p63 (w : World) : Calls Try.prog 19 #[.int .u64 9223372036854775808] w (Ret (fun v w' => Nz w' v P63) w) := of_nz 9223372036854775808 (by omega) w
theorem len_p63 : (dig P63).length ≤ 2 := dig_len_u64 (by unfold P63; omega)
theorem len_pow {k : Nat} (h : k ≤ 480) : (dig (2 ^ k)).length ≤ 482 := by
  rcases Nat.eq_zero_or_pos k with rfl | hk
  · exact Nat.le_trans (dig_len_u64 (by omega)) (by omega)
  · exact Nat.le_trans (dig_len_le (Nat.pow_lt_pow_left (by omega) (by omega))) (by omega : k ≤ 482)
theorem len_wrd (b : Nat → Nat) (hb : ∀ i, b i ≤ 1) (pos : Nat) {k : Nat} (h : k ≤ 480) : (dig (wrd b pos k)).length ≤ 482 :=
  Nat.le_trans (dig_len_mono (Nat.le_of_lt (wrd_lt b hb pos k))) (len_pow h)
theorem wrd_one {b : Nat → Nat} {pos k : Nat} (h : b (pos + k) = 1) : wrd b pos k + 2 ^ k = wrd b pos (k + 1) := by simp [wrd, h]
theorem wrd_none {b : Nat → Nat} {pos k : Nat} (h : b (pos + k) = 0) : wrd b pos k = wrd b pos (k + 1) := by simp [wrd, h]
theorem pow_two (k : Nat) : 2 ^ k + 2 ^ k = 2 ^ (k + 1) := by rw [Nat.pow_succ]; omega

set_option maxRecDepth 20000 in
set_option maxHeartbeats 1600000 in
theorem slarge_great {w : World} {t : Value} {hi lo : Nat} {bs : List Nat} {pos : Int} (ht : Tp w t bs pos) (hg : Hid (greatB bs.length pos = true)) :
    Calls Try.prog 6 #[.int .u64 (hi : Int), .int .u64 (lo : Int), t] w (Ret (fun x _ => x = .bool true) w) := by
  obtain ⟨s, rfl, hs⟩ := ht
  obtain ⟨A, c, rfl, -⟩ := hs.parts
  go_enter Try.func6, Try.ntmps6
  go_wp2_with fail
  have hx : Ext w (w.alloc (.cells #[.slice A bs.length c, .int .i64 pos] 25)) := (Ext.refl w).alloc _
  have k0 := Bk.new w 25 [.slice A bs.length c, .int .i64 pos]
  change Bk (w.alloc (.cells #[.slice A bs.length c, .int .i64 pos] 25)) _ _ _ at k0
  generalize (w.alloc (.cells #[.slice A bs.length c, .int .i64 pos] 25)) = W at *
  have hW := hs.ext hx
  have d0 := k0.cell (i := 0) (by simp)
  have d1 := k0.cell (i := 1) (by simp)
  simp only [List.getElem_cons_zero, List.getElem_cons_succ] at d0 d1
  refine (great_tp ⟨_, rfl, hW⟩).mono ?_
  rintro e w1 ⟨x, rfl, he1, rfl⟩
  replace hx := hx.trans he1
  replace d0 := he1.cell d0
  replace d1 := he1.cell d1
  replace hW := hW.ext he1
  clear k0 he1
  rw [hg.out]
  clear d0 d1
  go_wp2_with fail
  refine (awake_true _).mono ?_
  rintro e w2 ⟨x, rfl, he2, rfl⟩
  go_wp2_with fail
  go_ret
  exact Ret.mk (hx.trans he2) rfl

set_option maxRecDepth 20000 in
set_option maxHeartbeats 1600000 in
theorem slarge_zero {w : World} {t : Value} {hi lo : Nat} {bs : List Nat} {pos : Int} (ht : Tp w t bs pos) (hhi : hi < 18446744073709551616) (hlo : lo < 18446744073709551616) (hg : Hid (greatB bs.length pos = false)) (hp0 : Hid (0 ≤ pos)) (hp1 : Hid (pos ≤ 8 * bs.length)) (hlen0 : Hid (bs.length ≤ 60)) (hz : Hid (hi * (P63 * 2) + lo = 0)) :
    Calls Try.prog 6 #[.int .u64 (hi : Int), .int .u64 (lo : Int), t] w (Ret (fun x _ => x = .bool true) w) := by
  obtain ⟨s, rfl, hs⟩ := ht
  obtain ⟨A, c, rfl, -⟩ := hs.parts
  go_enter Try.func6, Try.ntmps6
  go_wp2_with fail
  have hx : Ext w (w.alloc (.cells #[.slice A bs.length c, .int .i64 pos] 25)) := (Ext.refl w).alloc _
  have k0 := Bk.new w 25 [.slice A bs.length c, .int .i64 pos]
  change Bk (w.alloc (.cells #[.slice A bs.length c, .int .i64 pos] 25)) _ _ _ at k0
  generalize (w.alloc (.cells #[.slice A bs.length c, .int .i64 pos] 25)) = W at *
  have hW := hs.ext hx
  have d0 := k0.cell (i := 0) (by simp)
  have d1 := k0.cell (i := 1) (by simp)
  simp only [List.getElem_cons_zero, List.getElem_cons_succ] at d0 d1
  refine (great_tp ⟨_, rfl, hW⟩).mono ?_
  rintro e w1 ⟨x, rfl, he1, rfl⟩
  replace hx := hx.trans he1
  replace d0 := he1.cell d0
  replace d1 := he1.cell d1
  replace hW := hW.ext he1
  clear k0 he1
  have hl4 : (dig (P63 * 2)).length ≤ 4 := dig_len_mul len_p63 (dig_len_u64 (by omega))
  have hl5 : (dig (hi * (P63 * 2))).length ≤ 6 := dig_len_mul (dig_len_u64 hhi) hl4
  have hlN : (dig (hi * (P63 * 2) + lo)).length ≤ 7 := dig_len_add hl5 (Nat.le_trans (dig_len_u64 hlo) (by omega))
  rw [hg.out]
  obtain ⟨p, rfl⟩ := Int.eq_ofNat_of_zero_le hp0.out
  have hp : p ≤ 8 * bs.length := by have := hp1.out; omega
  have hlen := hlen0.out
  clear hg hp0 hp1 hlen0
  go_wp2_with fail
  refine (of_nz hi hhi _).mono ?_
  rintro e w11 ⟨_, rfl, he11, h1⟩
  replace hW := hW.ext he11
  replace d0 := he11.cell d0
  replace d1 := he11.cell d1
  replace hx := hx.trans he11
  clear he11
  go_wp2_with fail
  refine (of_p63 _).mono ?_
  rintro e w12 ⟨_, rfl, he12, h2⟩
  replace hW := hW.ext he12
  replace h1 := h1.ext he12
  replace d0 := he12.cell d0
  replace d1 := he12.cell d1
  replace hx := hx.trans he12
  clear he12
  go_wp2_with fail
  refine (of_nz 2 (by omega) _).mono ?_
  rintro e w13 ⟨_, rfl, he13, h3⟩
  replace hW := hW.ext he13
  replace h1 := h1.ext he13
  replace h2 := h2.ext he13
  replace d0 := he13.cell d0
  replace d1 := he13.cell d1
  replace hx := hx.trans he13
  clear he13
  go_wp2_with fail
  refine (mul_nv h2.nv h3.nv (Nat.le_trans len_p63 (by omega)) (Nat.le_trans (dl (by omega)) (by omega))).mono ?_
  rintro e w14 ⟨_, rfl, he14, h4⟩
  replace hW := hW.ext he14
  replace h1 := h1.ext he14
  replace h2 := h2.ext he14
  replace h3 := h3.ext he14
  replace d0 := he14.cell d0
  replace d1 := he14.cell d1
  replace hx := hx.trans he14
  clear he14
  clear h2
  clear h3
  go_wp2_with fail
  refine (mul_nv h1.nv h4.nv (Nat.le_trans (dl hhi) (by omega)) (Nat.le_trans hl4 (by omega))).mono ?_
  rintro e w15 ⟨_, rfl, he15, h5⟩
  replace hW := hW.ext he15
  replace h1 := h1.ext he15
  replace h4 := h4.ext he15
  replace d0 := he15.cell d0
  replace d1 := he15.cell d1
  replace hx := hx.trans he15
  clear he15
  clear h1
  clear h4
  go_wp2_with fail
  refine (of_nz lo hlo _).mono ?_
  rintro e w16 ⟨_, rfl, he16, h6⟩
  replace hW := hW.ext he16
  replace h5 := h5.ext he16
  replace d0 := he16.cell d0
  replace d1 := he16.cell d1
  replace hx := hx.trans he16
  clear he16
  go_wp2_with fail
  refine (add_nv h5.nv h6.nv (Nat.le_trans hl5 (by omega)) (Nat.le_trans (dl hlo) (by omega))).mono ?_
  rintro e w17 ⟨_, rfl, he17, hN⟩
  replace hW := hW.ext he17
  replace h5 := h5.ext he17
  replace h6 := h6.ext he17
  replace d0 := he17.cell d0
  replace d1 := he17.cell d1
  replace hx := hx.trans he17
  clear he17
  clear h5
  clear h6
  replace hN := hN.cast hz.out
  go_wp2_with fail
  refine (cmp_eq hN.nv (Nz.nil _).nv).mono ?_
  rintro e w18 ⟨rfl, hq18⟩
  have he18 := hq18.ext
  replace hW := hW.ext he18
  replace hN := hN.ext he18
  replace d0 := he18.cell d0
  replace d1 := he18.cell d1
  replace hx := hx.trans he18
  clear he18 hq18
  go_wp2_with fail
  refine (awake_true _).mono ?_
  rintro e w19 ⟨_, rfl, he19, rfl⟩
  replace hW := hW.ext he19
  replace hN := hN.ext he19
  replace d0 := he19.cell d0
  replace d1 := he19.cell d1
  replace hx := hx.trans he19
  clear he19
  go_wp2_with fail
  go_ret
  exact Ret.mk hx rfl

set_option maxRecDepth 20000 in
set_option maxHeartbeats 1600000 in
theorem slarge_none {w : World} {t : Value} {hi lo : Nat} {bs : List Nat} {pos : Int} (ht : Tp w t bs pos) (hhi : hi < 18446744073709551616) (hlo : lo < 18446744073709551616) (hg : Hid (greatB bs.length pos = false)) (hp0 : Hid (0 ≤ pos)) (hp1 : Hid (pos ≤ 8 * bs.length)) (hlen0 : Hid (bs.length ≤ 60)) (hz : 0 < hi * (P63 * 2) + lo) (hR : Hid (uni (bitAt bs) (8 * bs.length) (hi * (P63 * 2) + lo) (blen (hi * (P63 * 2) + lo - 1)) (8 * bs.length + 1) pos.toNat = none)) :
    Calls Try.prog 6 #[.int .u64 (hi : Int), .int .u64 (lo : Int), t] w (Ret (fun x _ => x = .bool true) w) := by
  obtain ⟨s, rfl, hs⟩ := ht
  obtain ⟨A, c, rfl, -⟩ := hs.parts
  go_enter Try.func6, Try.ntmps6
  go_wp2_with fail
  have hx : Ext w (w.alloc (.cells #[.slice A bs.length c, .int .i64 pos] 25)) := (Ext.refl w).alloc _
  have k0 := Bk.new w 25 [.slice A bs.length c, .int .i64 pos]
  change Bk (w.alloc (.cells #[.slice A bs.length c, .int .i64 pos] 25)) _ _ _ at k0
  generalize (w.alloc (.cells #[.slice A bs.length c, .int .i64 pos] 25)) = W at *
  have hW := hs.ext hx
  have d0 := k0.cell (i := 0) (by simp)
  have d1 := k0.cell (i := 1) (by simp)
  simp only [List.getElem_cons_zero, List.getElem_cons_succ] at d0 d1
  refine (great_tp ⟨_, rfl, hW⟩).mono ?_
  rintro e w1 ⟨x, rfl, he1, rfl⟩
  replace hx := hx.trans he1
  replace d0 := he1.cell d0
  replace d1 := he1.cell d1
  replace hW := hW.ext he1
  clear k0 he1
  have hl4 : (dig (P63 * 2)).length ≤ 4 := dig_len_mul len_p63 (dig_len_u64 (by omega))
  have hl5 : (dig (hi * (P63 * 2))).length ≤ 6 := dig_len_mul (dig_len_u64 hhi) hl4
  have hlN : (dig (hi * (P63 * 2) + lo)).length ≤ 7 := dig_len_add hl5 (Nat.le_trans (dig_len_u64 hlo) (by omega))
  rw [hg.out]
  obtain ⟨p, rfl⟩ := Int.eq_ofNat_of_zero_le hp0.out
  have hp : p ≤ 8 * bs.length := by have := hp1.out; omega
  have hlen := hlen0.out
  clear hg hp0 hp1 hlen0
  have HR : Hid (uni (bitAt bs) (8 * bs.length) (hi * (P63 * 2) + lo) (blen (hi * (P63 * 2) + lo - 1)) (8 * bs.length + 1) p = none) := Lib.hid (by have := hR.out; rw [Int.toNat_natCast] at this; exact this)
  clear hR
  go_wp2_with fail
  refine (of_nz hi hhi _).mono ?_
  rintro e w11 ⟨_, rfl, he11, h1⟩
  replace hW := hW.ext he11
  replace d0 := he11.cell d0
  replace d1 := he11.cell d1
  replace hx := hx.trans he11
  clear he11
  go_wp2_with fail
  refine (of_p63 _).mono ?_
  rintro e w12 ⟨_, rfl, he12, h2⟩
  replace hW := hW.ext he12
  replace h1 := h1.ext he12
  replace d0 := he12.cell d0
  replace d1 := he12.cell d1
  replace hx := hx.trans he12
  clear he12
  go_wp2_with fail
  refine (of_nz 2 (by omega) _).mono ?_
  rintro e w13 ⟨_, rfl, he13, h3⟩
  replace hW := hW.ext he13
  replace h1 := h1.ext he13
  replace h2 := h2.ext he13
  replace d0 := he13.cell d0
  replace d1 := he13.cell d1
  replace hx := hx.trans he13
  clear he13
  go_wp2_with fail
  refine (mul_nv h2.nv h3.nv (Nat.le_trans len_p63 (by omega)) (Nat.le_trans (dl (by omega)) (by omega))).mono ?_
  rintro e w14 ⟨_, rfl, he14, h4⟩
  replace hW := hW.ext he14
  replace h1 := h1.ext he14
  replace h2 := h2.ext he14
  replace h3 := h3.ext he14
  replace d0 := he14.cell d0
  replace d1 := he14.cell d1
  replace hx := hx.trans he14
  clear he14
  clear h2
  clear h3
  go_wp2_with fail
  refine (mul_nv h1.nv h4.nv (Nat.le_trans (dl hhi) (by omega)) (Nat.le_trans hl4 (by omega))).mono ?_
  rintro e w15 ⟨_, rfl, he15, h5⟩
  replace hW := hW.ext he15
  replace h1 := h1.ext he15
  replace h4 := h4.ext he15
  replace d0 := he15.cell d0
  replace d1 := he15.cell d1
  replace hx := hx.trans he15
  clear he15
  clear h1
  clear h4
  go_wp2_with fail
  refine (of_nz lo hlo _).mono ?_
  rintro e w16 ⟨_, rfl, he16, h6⟩
  replace hW := hW.ext he16
  replace h5 := h5.ext he16
  replace d0 := he16.cell d0
  replace d1 := he16.cell d1
  replace hx := hx.trans he16
  clear he16
  go_wp2_with fail
  refine (add_nv h5.nv h6.nv (Nat.le_trans hl5 (by omega)) (Nat.le_trans (dl hlo) (by omega))).mono ?_
  rintro e w17 ⟨_, rfl, he17, hN⟩
  replace hW := hW.ext he17
  replace h5 := h5.ext he17
  replace h6 := h6.ext he17
  replace d0 := he17.cell d0
  replace d1 := he17.cell d1
  replace hx := hx.trans he17
  clear he17
  clear h5
  clear h6
  generalize hi * (P63 * 2) + lo = N at *
  clear hl4 hl5
  go_wp2_with fail
  refine (cmp_nv hN.nv (Nz.nil _).nv).mono ?_
  rintro e w18 ⟨rfl, hq18⟩
  have he18 := hq18.ext
  replace hW := hW.ext he18
  replace hN := hN.ext he18
  replace d0 := he18.cell d0
  replace d1 := he18.cell d1
  replace hx := hx.trans he18
  clear he18 hq18
  rw [cmpI_gt hz]
  go_wp2_with fail
  refine (of_nz 1 (by omega) _).mono ?_
  rintro e w19 ⟨_, rfl, he19, h1⟩
  replace hW := hW.ext he19
  replace hN := hN.ext he19
  replace d0 := he19.cell d0
  replace d1 := he19.cell d1
  replace hx := hx.trans he19
  clear he19
  go_wp2_with fail
  refine (sub_nv hN.nv h1.nv (by omega) (Nat.le_trans hlN (by omega))).mono ?_
  rintro e w20 ⟨_, rfl, he20, la, rfl, hla⟩
  replace hW := hW.ext he20
  replace hN := hN.ext he20
  replace h1 := h1.ext he20
  replace d0 := he20.cell d0
  replace d1 := he20.cell d1
  replace hx := hx.trans he20
  clear he20
  clear h1
  go_wp2_with fail
  refine (bits_nv hla.nv (Nat.le_trans (dig_len_mono (Nat.sub_le _ _)) (Nat.le_trans hlN (by omega)))).mono ?_
  rintro e w21 ⟨rfl, hq21⟩
  have he21 := hq21.ext
  replace hW := hW.ext he21
  replace hN := hN.ext he21
  replace hla := hla.ext he21
  replace d0 := he21.cell d0
  replace d1 := he21.cell d1
  replace hx := hx.trans he21
  clear he21 hq21
  clear hla
  go_wp2_with fail
  refine (Uniform_out hN.nv (Nat.le_trans hlN (by omega)) ⟨_, rfl, hW⟩ hp).mono ?_
  rintro e wu ⟨heu, vx, A', c', rfl, hvx, hby⟩
  have hu0 : unifOut bs N p = unifSome bs (uni (bitAt bs) (8 * bs.length) N (blen (N - 1)) (8 * bs.length + 1) p) := by unfold unifOut; rw [if_neg (by omega)]
  rw [hu0, HR.out] at hvx hby ⊢
  clear hu0
  simp only [unifSome] at hvx hby ⊢
  replace hN := hN.ext heu
  replace hW := hW.ext heu
  replace d0 := heu.cell d0
  replace d1 := heu.cell d1
  replace hx := hx.trans heu
  clear heu
  simp only [List.length_nil] at hby ⊢
  clear d0 d1 hW hN
  go_wp2_with fail
  refine (zero_tp (bs := []) (pos := 0) ⟨_, rfl, hby.ext ((Ext.refl _).alloc _)⟩).mono ?_
  rintro e w3 ⟨x, rfl, he3, rfl⟩
  rw [show zeroB ([] : List Nat).length 0 = true from rfl]
  go_wp2_with fail
  refine (awake_true _).mono ?_
  rintro e w5 ⟨x, rfl, he5, rfl⟩
  go_wp2_with fail
  go_ret
  exact Ret.mk (((hx.alloc _).trans he3).trans he5) rfl

set_option maxRecDepth 20000 in
set_option maxHeartbeats 3200000 in
theorem slarge_some {w : World} {t : Value} {hi lo : Nat} {bs : List Nat} {pos : Int} (ht : Tp w t bs pos) (hhi : hi < 18446744073709551616) (hlo : lo < 18446744073709551616) (hg : Hid (greatB bs.length pos = false)) (hp0 : Hid (0 ≤ pos)) (hp1 : Hid (pos ≤ 8 * bs.length)) (hlen0 : Hid (bs.length ≤ 60)) (hz : 0 < hi * (P63 * 2) + lo) {y q : Nat} (hR : Hid (uni (bitAt bs) (8 * bs.length) (hi * (P63 * 2) + lo) (blen (hi * (P63 * 2) + lo - 1)) (8 * bs.length + 1) pos.toNat = some (y, q))) :
    Calls Try.prog 6 #[.int .u64 (hi : Int), .int .u64 (lo : Int), t] w (Ret (fun x _ => x = .bool true) w) := by
  obtain ⟨s, rfl, hs⟩ := ht
  obtain ⟨A, c, rfl, -⟩ := hs.parts
  go_enter Try.func6, Try.ntmps6
  go_wp2_with fail
  have hx : Ext w (w.alloc (.cells #[.slice A bs.length c, .int .i64 pos] 25)) := (Ext.refl w).alloc _
  have k0 := Bk.new w 25 [.slice A bs.length c, .int .i64 pos]
  change Bk (w.alloc (.cells #[.slice A bs.length c, .int .i64 pos] 25)) _ _ _ at k0
  generalize (w.alloc (.cells #[.slice A bs.length c, .int .i64 pos] 25)) = W at *
  have hW := hs.ext hx
  have d0 := k0.cell (i := 0) (by simp)
  have d1 := k0.cell (i := 1) (by simp)
  simp only [List.getElem_cons_zero, List.getElem_cons_succ] at d0 d1
  refine (great_tp ⟨_, rfl, hW⟩).mono ?_
  rintro e w1 ⟨x, rfl, he1, rfl⟩
  replace hx := hx.trans he1
  replace d0 := he1.cell d0
  replace d1 := he1.cell d1
  replace hW := hW.ext he1
  clear k0 he1
  have hl4 : (dig (P63 * 2)).length ≤ 4 := dig_len_mul len_p63 (dig_len_u64 (by omega))
  have hl5 : (dig (hi * (P63 * 2))).length ≤ 6 := dig_len_mul (dig_len_u64 hhi) hl4
  have hlN : (dig (hi * (P63 * 2) + lo)).length ≤ 7 := dig_len_add hl5 (Nat.le_trans (dig_len_u64 hlo) (by omega))
  rw [hg.out]
  obtain ⟨p, rfl⟩ := Int.eq_ofNat_of_zero_le hp0.out
  have hp : p ≤ 8 * bs.length := by have := hp1.out; omega
  have hlen := hlen0.out
  clear hg hp0 hp1 hlen0
  have HR : Hid (uni (bitAt bs) (8 * bs.length) (hi * (P63 * 2) + lo) (blen (hi * (P63 * 2) + lo - 1)) (8 * bs.length + 1) p = some (y, q)) := Lib.hid (by have := hR.out; rw [Int.toNat_natCast] at this; exact this)
  clear hR
  go_wp2_with fail
  refine (of_nz hi hhi _).mono ?_
  rintro e w11 ⟨_, rfl, he11, h1⟩
  replace hW := hW.ext he11
  replace d0 := he11.cell d0
  replace d1 := he11.cell d1
  replace hx := hx.trans he11
  clear he11
  go_wp2_with fail
  refine (of_p63 _).mono ?_
  rintro e w12 ⟨_, rfl, he12, h2⟩
  replace hW := hW.ext he12
  replace h1 := h1.ext he12
  replace d0 := he12.cell d0
  replace d1 := he12.cell d1
  replace hx := hx.trans he12
  clear he12
  go_wp2_with fail
  refine (of_nz 2 (by omega) _).mono ?_
  rintro e w13 ⟨_, rfl, he13, h3⟩
  replace hW := hW.ext he13
  replace h1 := h1.ext he13
  replace h2 := h2.ext he13
  replace d0 := he13.cell d0
  replace d1 := he13.cell d1
  replace hx := hx.trans he13
  clear he13
  go_wp2_with fail
  refine (mul_nv h2.nv h3.nv (Nat.le_trans len_p63 (by omega)) (Nat.le_trans (dl (by omega)) (by omega))).mono ?_
  rintro e w14 ⟨_, rfl, he14, h4⟩
  replace hW := hW.ext he14
  replace h1 := h1.ext he14
  replace h2 := h2.ext he14
  replace h3 := h3.ext he14
  replace d0 := he14.cell d0
  replace d1 := he14.cell d1
  replace hx := hx.trans he14
  clear he14
  clear h2
  clear h3
  go_wp2_with fail
  refine (mul_nv h1.nv h4.nv (Nat.le_trans (dl hhi) (by omega)) (Nat.le_trans hl4 (by omega))).mono ?_
  rintro e w15 ⟨_, rfl, he15, h5⟩
  replace hW := hW.ext he15
  replace h1 := h1.ext he15
  replace h4 := h4.ext he15
  replace d0 := he15.cell d0
  replace d1 := he15.cell d1
  replace hx := hx.trans he15
  clear he15
  clear h1
  clear h4
  go_wp2_with fail
  refine (of_nz lo hlo _).mono ?_
  rintro e w16 ⟨_, rfl, he16, h6⟩
  replace hW := hW.ext he16
  replace h5 := h5.ext he16
  replace d0 := he16.cell d0
  replace d1 := he16.cell d1
  replace hx := hx.trans he16
  clear he16
  go_wp2_with fail
  refine (add_nv h5.nv h6.nv (Nat.le_trans hl5 (by omega)) (Nat.le_trans (dl hlo) (by omega))).mono ?_
  rintro e w17 ⟨_, rfl, he17, hN⟩
  replace hW := hW.ext he17
  replace h5 := h5.ext he17
  replace h6 := h6.ext he17
  replace d0 := he17.cell d0
  replace d1 := he17.cell d1
  replace hx := hx.trans he17
  clear he17
  clear h5
  clear h6
  generalize hi * (P63 * 2) + lo = N at *
  clear hl4 hl5
  go_wp2_with fail
  refine (cmp_nv hN.nv (Nz.nil _).nv).mono ?_
  rintro e w18 ⟨rfl, hq18⟩
  have he18 := hq18.ext
  replace hW := hW.ext he18
  replace hN := hN.ext he18
  replace d0 := he18.cell d0
  replace d1 := he18.cell d1
  replace hx := hx.trans he18
  clear he18 hq18
  rw [cmpI_gt hz]
  go_wp2_with fail
  refine (of_nz 1 (by omega) _).mono ?_
  rintro e w19 ⟨_, rfl, he19, h1⟩
  replace hW := hW.ext he19
  replace hN := hN.ext he19
  replace d0 := he19.cell d0
  replace d1 := he19.cell d1
  replace hx := hx.trans he19
  clear he19
  go_wp2_with fail
  refine (sub_nv hN.nv h1.nv (by omega) (Nat.le_trans hlN (by omega))).mono ?_
  rintro e w20 ⟨_, rfl, he20, la, rfl, hla⟩
  replace hW := hW.ext he20
  replace hN := hN.ext he20
  replace h1 := h1.ext he20
  replace d0 := he20.cell d0
  replace d1 := he20.cell d1
  replace hx := hx.trans he20
  clear he20
  clear h1
  go_wp2_with fail
  refine (bits_nv hla.nv (Nat.le_trans (dig_len_mono (Nat.sub_le _ _)) (Nat.le_trans hlN (by omega)))).mono ?_
  rintro e w21 ⟨rfl, hq21⟩
  have he21 := hq21.ext
  replace hW := hW.ext he21
  replace hN := hN.ext he21
  replace hla := hla.ext he21
  replace d0 := he21.cell d0
  replace d1 := he21.cell d1
  replace hx := hx.trans he21
  clear he21 hq21
  clear hla
  go_wp2_with fail
  refine (Uniform_out hN.nv (Nat.le_trans hlN (by omega)) ⟨_, rfl, hW⟩ hp).mono ?_
  rintro e wu ⟨heu, vx, A', c', rfl, hvx, hby⟩
  have hu0 : unifOut bs N p = unifSome bs (uni (bitAt bs) (8 * bs.length) N (blen (N - 1)) (8 * bs.length + 1) p) := by unfold unifOut; rw [if_neg (by omega)]
  rw [hu0, HR.out] at hvx hby ⊢
  clear hu0
  simp only [unifSome] at hvx hby ⊢
  replace hN := hN.ext heu
  replace hW := hW.ext heu
  replace d0 := heu.cell d0
  replace d1 := heu.cell d1
  replace hx := hx.trans heu
  clear heu
  obtain ⟨r1, r2, r3, r4, r5⟩ := uni_some HR.out
  have hR5 := Lib.hid r5; have hR4 := Lib.hid r4
  clear r5 r4 HR
  have hb480 : blen (N - 1) ≤ q := by omega
  generalize blen (N - 1) = b at *
  have n1 : ¬ q < p + b := by omega
  have n2 : ¬ (q : Int) < (p : Int) + (b : Int) := by omega
  have n3 : (0 : Int) ≤ (q : Int) - (p : Int) := by omega
  have n4 : ((q : Int) - (p : Int)) % (b : Int) = 0 := by rw [← Int.ofNat_sub (by omega), ← Int.natCast_emod, hR4.out]; rfl
  have z : Ext wu (wu.alloc (.cells #[.slice A' bs.length c', .int .i64 (q : Int)] 25)) := (Ext.refl wu).alloc _
  have kb := Bk.new wu 25 [.slice A' bs.length c', .int .i64 (q : Int)]
  change Bk (wu.alloc (.cells #[.slice A' bs.length c', .int .i64 (q : Int)] 25)) _ _ _ at kb
  have D0 := fun o => ((Ext.refl wu).alloc o).cell d0
  have D1 := fun o => ((Ext.refl wu).alloc o).cell d1
  clear hR4
  have N4 := Lib.hid n4
  have HF := Lib.hid (And.intro hp (And.intro hlen (And.intro r1 (And.intro r2 (And.intro r3 hb480)))))
  obtain ⟨m, hm⟩ : ∃ m, m = p + b := ⟨_, rfl⟩
  have hmI : (p : Int) + (b : Int) = (m : Int) := by omega
  have m1 : m ≤ 480 := by omega
  have m2 : m ≤ q := by omega
  have m3 : ¬ q < m := by omega
  clear n4 n3 hhi hlo hp hlen r1 r2 r3 hb480 hlN hz n1 n2 hm
  go_wp2_with fail
  clear D0 D1
  generalize (wu.alloc (.cells #[.slice A' bs.length c', .int .i64 (q : Int)] 25)) = V at *
  replace hN := hN.ext z
  replace hW := hW.ext z
  replace d0 := z.cell d0
  replace d1 := z.cell d1
  replace hx := hx.trans z
  replace hvx := hvx.ext z
  replace hby := hby.ext z
  have e0 := kb.cell (i := 0) (by simp)
  have e1 := kb.cell (i := 1) (by simp)
  simp only [List.getElem_cons_zero, List.getElem_cons_succ] at e0 e1
  clear z kb
  refine (cmp_lt hvx.nv hN.nv HF.out.2.2.1).mono ?_
  rintro e w22 ⟨rfl, hq22⟩
  have he22 := hq22.ext
  replace hN := hN.ext he22
  replace hW := hW.ext he22
  replace hvx := hvx.ext he22
  replace hby := hby.ext he22
  replace d0 := he22.cell d0
  replace d1 := he22.cell d1
  replace e0 := he22.cell e0
  replace e1 := he22.cell e1
  replace hx := hx.trans he22
  clear he22 hq22
  clear hN
  go_wp2_with fail
  refine (is_tp (r := (q : Int)) ⟨_, rfl, hby⟩ ⟨_, rfl, hW⟩).mono ?_
  rintro e w23 ⟨_, rfl, he23, rfl⟩
  replace hW := hW.ext he23
  replace hvx := hvx.ext he23
  replace hby := hby.ext he23
  replace d0 := he23.cell d0
  replace d1 := he23.cell d1
  replace e0 := he23.cell e0
  replace e1 := he23.cell e1
  replace hx := hx.trans he23
  clear he23
  rw [show (decide (bs = bs) && decide ((q : Int) = q)) = true by simp]
  obtain ⟨hp, hlen, -, r2, r3, hb480⟩ := HF.out
  obtain ⟨d, hd⟩ : ∃ d, d = q - p := ⟨_, rfl⟩
  obtain ⟨st, hst⟩ : ∃ st, st = q - b := ⟨_, rfl⟩
  have hdI : (q : Int) - (p : Int) = (d : Int) := by omega
  have hstI : (q : Int) - (b : Int) = (st : Int) := by omega
  have hdm : (d : Int) % (b : Int) = 0 := by rw [← hdI]; exact N4.out
  have HST := Lib.hid hst
  have hstq : st ≤ q := by omega
  have hq480 : q ≤ 480 := by omega
  clear hd hst N4 hp r2 hb480 HF m3 hmI
  by_cases hb : 0 < b
  · have hbI : (0 : Int) < (b : Int) := by omega
    go_wp2_with fail
    refine (refBits hW (by omega)).mono ?_
    rintro e w61 ⟨_, rfl, he61, hin⟩
    replace hW := hW.ext he61
    replace hvx := hvx.ext he61
    replace e1 := he61.cell e1
    replace d0 := he61.cell d0
    replace hx := hx.trans he61
    clear he61
    obtain ⟨AB, cB, rfl, hcB, hcells⟩ := hin.parts
    rw [bitsOf_length] at hcells hcB ⊢
    clear hin hcB
    have HCELLS := Lib.hid hcells
    clear hcells
    obtain ⟨wB, rfl⟩ : ∃ wB : World, wB = w61 := ⟨_, rfl⟩
    have hxB := Ext.refl wB
    have hL : 8 * bs.length ≤ 480 := by omega
    have HL := Lib.hid (show ∀ i, i < 8 * bs.length → (bitsOf bs (8 * bs.length)).getD i 0 = bitAt bs i from fun i hi => bitsOf_get bs _ i hi)
    have hbit := Lib.hid (bitAt_le bs)
    generalize 8 * bs.length = L at *
    go_wp2_with fail
    refine (of_nz 0 (by omega) _).mono ?_
    rintro e w62 ⟨_, rfl, he62, hw0⟩
    replace hW := hW.ext he62
    replace hvx := hvx.ext he62
    replace e1 := he62.cell e1
    replace d0 := he62.cell d0
    replace hx := hx.trans he62
    replace hxB := hxB.trans he62
    clear he62
    go_wp2_with fail
    refine (of_nz 1 (by omega) _).mono ?_
    rintro e w63 ⟨_, rfl, he63, hu1⟩
    replace hW := hW.ext he63
    replace hvx := hvx.ext he63
    replace hw0 := hw0.ext he63
    replace e1 := he63.cell e1
    replace d0 := he63.cell d0
    replace hx := hx.trans he63
    replace hxB := hxB.trans he63
    clear he63
    clear d0 hdm hdI hbI hW
    go_wp2_with fail
    obtain ⟨w0, rfl⟩ : ∃ w0 : World, w0 = w63 := ⟨_, rfl⟩
    go_loopw [15, 16, 17] (fun a u i wr => ∃ (k j : Nat), k ≤ b ∧ j = st + k ∧ i = .int .i64 (j : Int) ∧ Nz wr a (wrd (bitAt bs) st k) ∧ Nz wr u (2 ^ k) ∧ Ext w0 wr) (fun _ _ i _ => st + b - (intOf i).toNat)
    case atStart => exact ⟨0, st, Nat.zero_le _, rfl, rfl, hw0, hu1, Ext.refl _⟩
    case round =>
      obtain ⟨k, j, hk, hj, rfl, hwant, hunit, hext⟩ := hrel
      have HJ := Lib.hid hj
      have hst := HST.out
      have e1' := hext.cell e1
      have hk480 : k ≤ 480 := by omega
      have hl1 := len_wrd (bitAt bs) hbit.out st hk480
      have hl2 := len_pow hk480
      have HS := Lib.hid hst
      by_cases hkb : k < b
      · have hjq : j < q := by omega
        have hjL : j < L := by omega
        have hjI : (0 : Int) ≤ (j : Int) := by omega
        have hjq' : decide (j < q) = true := by simp; omega
        have hjL' : decide (j < L) = true := by simp; omega
        have hjst : j - st < b := by omega
        clear hj hst
        obtain ⟨ad, rfl, hc⟩ := HCELLS.out j hjL
        rw [HL.out j hjL] at hc
        replace hc := hext.cell (hxB.cell hc)
        have hbj := hbit.out j
        have hw1 := fun h => wrd_one (b := bitAt bs) (pos := st) (k := k) h
        have hw2 := fun h => wrd_none (b := bitAt bs) (pos := st) (k := k) h
        rw [← HJ.out] at hw1 hw2
        have HW1 := Lib.hid hw1; have HW2 := Lib.hid hw2
        clear hw1 hw2
        rcases (show bitAt bs j = 0 ∨ bitAt bs j = 1 by omega) with hz | hz
        · have HZ := Lib.hid hz
          rw [hz] at hc
          clear hz hbj
          go_wp2_with fail
          refine (add_nv hunit.nv hunit.nv (by omega) (by omega)).mono ?_
          rintro e v1 ⟨_, rfl, hv1, hu2⟩
          replace hu2 := hu2.cast (pow_two k)
          replace hwant := (hwant.ext hv1).cast (HW2.out HZ.out)
          replace hext := hext.trans hv1
          clear hc hv1 e1' hunit
          go_wp2_with fail
          go_roundw
          case rel => exact ⟨k + 1, j + 1, by omega, by have := HJ.out; omega, by go_num, hwant, hu2, hext⟩
          case measure => have := HJ.out; simp [intOf]; omega
        · have HZ := Lib.hid hz
          rw [hz] at hc
          clear hz hbj
          go_wp2_with fail
          refine (add_nv hwant.nv hunit.nv (by omega) (by omega)).mono ?_
          rintro e v1 ⟨_, rfl, hv1, hw3⟩
          replace hw3 := hw3.cast (HW1.out HZ.out)
          replace hunit := hunit.ext hv1
          go_wp2_with fail
          refine (add_nv hunit.nv hunit.nv (by omega) (by omega)).mono ?_
          rintro e v2 ⟨_, rfl, hv2, hu2⟩
          replace hu2 := hu2.cast (pow_two k)
          replace hw3 := hw3.ext hv2
          replace hext := (hext.trans hv1).trans hv2
          clear hc hv1 hv2 e1' hunit hwant
          go_wp2_with fail
          go_roundw
          case rel => exact ⟨k + 1, j + 1, by omega, by have := HJ.out; omega, by go_num, hw3, hu2, hext⟩
          case measure => have := HJ.out; simp [intOf]; omega
      · obtain rfl : k = b := by omega
        have hjq' : decide (j < q) = false := by simp; omega
        have hjI : (0 : Int) ≤ (j : Int) := by omega
        have hy : y = wrd (bitAt bs) st k := by rw [HS.out]; exact hR5.out
        clear hj hst
        replace hvx := hvx.ext hext
        replace hx := hx.trans hext
        rw [hy] at hvx
        clear hy
        go_wp2_with fail
        refine (cmp_eq hvx.nv hwant.nv).mono ?_
        rintro e v1 ⟨rfl, hq1⟩
        replace hx := hx.trans hq1.ext
        go_wp2_with fail
        refine (awake_true _).mono ?_
        rintro e v2 ⟨_, rfl, hv2, rfl⟩
        go_wp2_with fail
        go_ret
        exact Ret.mk (hx.trans hv2) rfl
  · have hbI : ¬ (0 : Int) < (b : Int) := by omega
    go_wp2_with fail
    refine (refBits hW (by omega)).mono ?_
    rintro e w61 ⟨_, rfl, he61, hin⟩
    replace hW := hW.ext he61
    replace hvx := hvx.ext he61
    replace e1 := he61.cell e1
    replace d0 := he61.cell d0
    replace hx := hx.trans he61
    clear he61
    obtain ⟨AB, cB, rfl, hcB, hcells⟩ := hin.parts
    rw [bitsOf_length] at hcells hcB ⊢
    clear hin hcB
    have HCELLS := Lib.hid hcells
    clear hcells
    obtain ⟨wB, rfl⟩ : ∃ wB : World, wB = w61 := ⟨_, rfl⟩
    have hxB := Ext.refl wB
    have hL : 8 * bs.length ≤ 480 := by omega
    have HL := Lib.hid (show ∀ i, i < 8 * bs.length → (bitsOf bs (8 * bs.length)).getD i 0 = bitAt bs i from fun i hi => bitsOf_get bs _ i hi)
    have hbit := Lib.hid (bitAt_le bs)
    generalize 8 * bs.length = L at *
    go_wp2_with fail
    refine (of_nz 0 (by omega) _).mono ?_
    rintro e w62 ⟨_, rfl, he62, hw0⟩
    replace hW := hW.ext he62
    replace hvx := hvx.ext he62
    replace e1 := he62.cell e1
    replace d0 := he62.cell d0
    replace hx := hx.trans he62
    replace hxB := hxB.trans he62
    clear he62
    go_wp2_with fail
    refine (of_nz 1 (by omega) _).mono ?_
    rintro e w63 ⟨_, rfl, he63, hu1⟩
    replace hW := hW.ext he63
    replace hvx := hvx.ext he63
    replace hw0 := hw0.ext he63
    replace e1 := he63.cell e1
    replace d0 := he63.cell d0
    replace hx := hx.trans he63
    replace hxB := hxB.trans he63
    clear he63
    clear d0 hdm hdI hbI hW
    go_wp2_with fail
    obtain ⟨w0, rfl⟩ : ∃ w0 : World, w0 = w63 := ⟨_, rfl⟩
    go_loopw [15, 16, 17] (fun a u i wr => ∃ (k j : Nat), k ≤ b ∧ j = st + k ∧ i = .int .i64 (j : Int) ∧ Nz wr a (wrd (bitAt bs) st k) ∧ Nz wr u (2 ^ k) ∧ Ext w0 wr) (fun _ _ i _ => st + b - (intOf i).toNat)
    case atStart => exact ⟨0, st, Nat.zero_le _, rfl, rfl, hw0, hu1, Ext.refl _⟩
    case round =>
      obtain ⟨k, j, hk, hj, rfl, hwant, hunit, hext⟩ := hrel
      have HJ := Lib.hid hj
      have hst := HST.out
      have e1' := hext.cell e1
      have hk480 : k ≤ 480 := by omega
      have hl1 := len_wrd (bitAt bs) hbit.out st hk480
      have hl2 := len_pow hk480
      have HS := Lib.hid hst
      by_cases hkb : k < b
      · omega
      · obtain rfl : k = b := by omega
        have hjq' : decide (j < q) = false := by simp; omega
        have hjI : (0 : Int) ≤ (j : Int) := by omega
        have hy : y = wrd (bitAt bs) st k := by rw [HS.out]; exact hR5.out
        clear hj hst
        replace hvx := hvx.ext hext
        replace hx := hx.trans hext
        rw [hy] at hvx
        clear hy
        go_wp2_with fail
        refine (cmp_eq hvx.nv hwant.nv).mono ?_
        rintro e v1 ⟨rfl, hq1⟩
        replace hx := hx.trans hq1.ext
        go_wp2_with fail
        refine (awake_true _).mono ?_
        rintro e v2 ⟨_, rfl, hv2, rfl⟩
        go_wp2_with fail
        go_ret
        exact Ret.mk (hx.trans hv2) rfl


theorem law_slarge {w : World} {t : Value} {hi lo : Nat} {bs : List Nat} {pos : Int} (ht : Tp w t bs pos) (hhi : hi < 18446744073709551616) (hlo : lo < 18446744073709551616) :
    Calls Try.prog 6 #[.int .u64 (hi : Int), .int .u64 (lo : Int), t] w (Ret (fun x _ => x = .bool true) w) := by
  by_cases hg : greatB bs.length pos = true
  · exact slarge_great ht (Lib.hid hg)
  · have hg' : greatB bs.length pos = false := by simpa using hg
    have h := hg'
    simp only [greatB, Bool.or_eq_false_iff, decide_eq_false_iff_not] at h
    obtain ⟨⟨h1, h2⟩, h3⟩ := h
    by_cases hz : hi * (P63 * 2) + lo = 0
    · exact slarge_zero ht hhi hlo (Lib.hid hg') (Lib.hid (by omega)) (Lib.hid (by omega)) (Lib.hid (by omega)) (Lib.hid hz)
    · rcases hR : uni (bitAt bs) (8 * bs.length) (hi * (P63 * 2) + lo) (blen (hi * (P63 * 2) + lo - 1)) (8 * bs.length + 1) pos.toNat with _ | ⟨y, q⟩
      · exact slarge_none ht hhi hlo (Lib.hid hg') (Lib.hid (by omega)) (Lib.hid (by omega)) (Lib.hid (by omega)) (Nat.pos_of_ne_zero hz) (Lib.hid hR)
      · exact slarge_some ht hhi hlo (Lib.hid hg') (Lib.hid (by omega)) (Lib.hid (by omega)) (Lib.hid (by omega)) (Nat.pos_of_ne_zero hz) (Lib.hid hR)
end Go.Proofs.Ytamkbboijblooaa
