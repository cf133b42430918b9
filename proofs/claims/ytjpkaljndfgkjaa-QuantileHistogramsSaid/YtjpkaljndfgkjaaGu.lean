/- The walk of QuantileHistograms. -/
import Derived.Test.YtjpkaljndfgkjaaGt
namespace Go.Proofs.Ytjpkaljndfgkjaa
open Go.RowKit

theorem histL_len (rs : List (List R.Vl)) (p k : Nat) : (histL rs p (k + 1)).length = (histL rs p k).length + if cutAt rs.length p (k + 1) - cutAt rs.length p k = 0 then 0 else 1 := by
  by_cases h : cutAt rs.length p (k + 1) - cutAt rs.length p k = 0
  · rw [histL_none (by unfold binAt; rw [if_pos h]), if_pos h]; rfl
  · rw [histL_some (by unfold binAt; rw [if_neg h]), if_neg h, List.length_append]; rfl
theorem histL_pre (rs : List (List R.Vl)) (p : Nat) : ∀ {k m : Nat}, k ≤ m → ∃ l, histL rs p m = histL rs p k ++ l
  | k, 0, h => ⟨[], by obtain rfl : k = 0 := by omega
                       simp⟩
  | k, m + 1, h => by
    rcases Nat.lt_or_ge m k with h1 | h1
    · obtain rfl : k = m + 1 := by omega
      exact ⟨[], by simp⟩
    · obtain ⟨l, hl⟩ := histL_pre rs p h1
      rcases hb : binAt rs p m with _ | b
      · exact ⟨l, by rw [histL_none hb, hl]⟩
      · exact ⟨l ++ [b], by rw [histL_some hb, hl, List.append_assoc]⟩
/-- The bin of part k stands behind those of the parts ahead of it. -/
theorem histL_at {rs : List (List R.Vl)} {p k m : Nat} {b : R.Bn} (h : k < m) (hb : binAt rs p k = some b) : ∃ hl : (histL rs p k).length < (histL rs p m).length, (histL rs p m)[(histL rs p k).length] = b := by
  obtain ⟨l, hl⟩ := histL_pre rs p (show k + 1 ≤ m from h)
  rw [histL_some hb, List.append_assoc] at hl
  have h1 : (histL rs p k).length < (histL rs p m).length := by rw [hl]; simp
  refine ⟨h1, ?_⟩
  simp [hl]
/-- The parts of a bin in a slice of bins. -/
theorem bin_parts {F : Nat → Prop} {w : World} {A : Option Addr} {n c : Nat} {bl : List R.Bn} (h : R.Sl R.rdBn F w (.slice A n c) bl) {m : Nat} {y1 y2 : List R.Vl} {num : Nat} (hm : bl[m]? = some ⟨y1, y2, num⟩) :
    ∃ ad B1 d1 B2 d2 u3, A = some ad ∧ w.cell? (ad.add (m * 3)) = some (.slice B1 y1.length d1) ∧ w.cell? ⟨(ad.add (m * 3)).block, (ad.add (m * 3)).off + 1, none⟩ = some (.slice B2 y2.length d2) ∧ w.cell? ⟨(ad.add (m * 3)).block, (ad.add (m * 3)).off + 2, none⟩ = some u3 ∧ R.Sl R.rdVl F w (.slice B1 y1.length d1) y1 ∧ R.Sl R.rdVl F w (.slice B2 y2.length d2) y2 ∧ R.Nf F w u3 num := by
  obtain ⟨hl, he⟩ := List.getElem?_eq_some_iff.1 hm
  obtain ⟨ad, cs, hA, -, hR, l0, l1⟩ := R.Sl.at h hl
  rw [he] at hR
  obtain ⟨u1, u2, u3, rfl, h1, h2, h3⟩ := hR
  obtain ⟨B1, d1, rfl⟩ := h1.sl
  obtain ⟨B2, d2, rfl⟩ := h2.sl
  exact ⟨ad, B1, d1, B2, d2, u3, hA, l0 (by simp), l1 0 (by simp), l1 1 (by simp), h1, h2, h3⟩
set_option maxRecDepth 100000 in
set_option maxHeartbeats 20000000 in
theorem law_hist {F G H : Nat → Prop} {w : World} {A0 B0 B1 : Option Addr} {n c0 m0 d0 m1 d1 : Nat} {l : List (List R.Vl)} {r0 r1 : List R.Vl} {parts : Int} (hA : R.Sl R.rdRow F w (.slice A0 n c0) l) (hq0 : R.Sl R.rdVl G w (.slice B0 m0 d0) r0) (hq1 : R.Sl R.rdVl H w (.slice B1 m1 d1) r1) :
    Calls Try.prog 4 #[.slice A0 n c0, .int .i64 parts, .agg #[.slice B0 m0 d0, .slice B1 m1 d1]] w (Ret (fun x _ => x = .bool true) w) := by
  have hnl := hA.cap.1
  have HA := Lib.hid hA; have HNL := Lib.hid hnl; have HQ0 := Lib.hid hq0; have HQ1 := Lib.hid hq1
  clear hA hnl hq0 hq1
  go_enter Try.func4, Try.ntmps4
  go_wp2_with fail
  have hx : Ext w (w.alloc (.cells #[.slice B0 m0 d0, .slice B1 m1 d1] 52)) := (Ext.refl w).alloc _
  have k0 := Bk.new w 52 [.slice B0 m0 d0, .slice B1 m1 d1]
  change Bk (w.alloc (.cells #[.slice B0 m0 d0, .slice B1 m1 d1] 52)) _ _ _ at k0
  generalize (w.alloc (.cells #[.slice B0 m0 d0, .slice B1 m1 d1] 52)) = w1 at *
  have HX1 := Lib.hid hx; have HK1 := Lib.hid k0
  clear hx k0
  refine (awake45 _).mono ?_
  rintro e w2 ⟨x, rfl, he2, rfl⟩
  have HX2 := Lib.hid (HX1.out.trans he2); have HK2 := Lib.hid (HK1.out.ext he2)
  clear he2
  go_wp2_with fail
  go_loopw [7] (fun t wr => ∃ i : Nat, i ≤ n ∧ i ≤ 40 ∧ t = .int .i64 (i : Int) ∧ Hid (∀ (j : Nat) (h : j < l.length), j < i → (l[j]'h).length ≤ 6) ∧ w2 = wr) (fun t _ => n - (intOf t).toNat)
  case atStart => exact ⟨0, Nat.zero_le _, by omega, rfl, Lib.hid (fun j _ h => by omega), rfl⟩
  case round =>
    obtain ⟨i, hi, hi40, rfl, HJ, rfl⟩ := hrel
    by_cases hlt : i < n ∧ i < 40
    · obtain ⟨hlt1, hlt2⟩ := hlt
      have i1 : (0 : Int) ≤ (i : Int) := by omega
      have i2 : (i : Int) < (n : Int) := by omega
      have i3 : (i : Int) < 40 := by omega
      have hil : i < l.length := by have := HNL.out; omega
      obtain ⟨ad, B, d, rfl, -, c0', -⟩ := HA.out.row hil
      replace c0' := HX2.out.cell c0'
      obtain ⟨nx, hnx⟩ : ∃ q, q = (l[i]'hil).length := ⟨_, rfl⟩
      rw [← hnx] at c0'
      have HNX := Lib.hid hnx
      clear hnx
      by_cases h6 : (6 : Int) < (nx : Int)
      · have HF := HX2
        go_wp2_with fail
        go_ret
        exact Ret.mk HF.out rfl
      · have HJ2 : Hid (∀ (j : Nat) (h : j < l.length), j < i + 1 → (l[j]'h).length ≤ 6) := Lib.hid (fun j h hj => by
          rcases Nat.lt_or_ge j i with h1 | h1
          · exact HJ.out j h h1
          · obtain rfl : j = i := by omega
            have := HNX.out
            omega)
        go_wp2_with fail
        go_roundw
        case rel => exact ⟨i + 1, by omega, by omega, by go_num, HJ2, by trivial⟩
        case measure => simp [intOf]; omega
    · have k0 := HK2.out.cell (i := 0) (by simp); have k1 := HK2.out.cell (i := 1) (by simp)
      simp only [List.getElem_cons_zero, List.getElem_cons_succ] at k0 k1
      have hdec : ((i : Int) < (n : Int)) ∧ ¬ (i : Int) < 40 ∨ ¬ (i : Int) < (n : Int) := by omega
      by_cases h40 : (40 : Int) < (n : Int)
      · have hF : (i : Int) < (n : Int) := by omega
        have hF2 : ¬ (i : Int) < 40 := by omega
        clear hdec hlt k0 k1
        go_wp2_with fail
        go_ret
        exact Ret.mk HX2.out rfl
      · have hF : ¬ (i : Int) < (n : Int) := by omega
        obtain rfl : i = n := by omega
        have HR6 : Hid (∀ x ∈ l, x.length ≤ 6) := Lib.hid (fun x hx => by
          obtain ⟨j, hj, rfl⟩ := List.getElem_of_mem hx
          exact HJ.out j hj (by have := HNL.out; omega))
        clear hdec hlt HJ
        by_cases hm0 : (6 : Int) < (m0 : Int)
        · clear k1
          go_wp2_with fail
          go_ret
          exact Ret.mk HX2.out rfl
        by_cases hm1 : (6 : Int) < (m1 : Int)
        · go_wp2_with fail
          go_ret
          exact Ret.mk HX2.out rfl
        have hm0' : m0 ≤ 6 := by omega
        have hm1' : m1 ≤ 6 := by omega
        have hpc : i ≤ 40 := by omega
        go_upto_region 10 with fail
        rcases (show parts < 1 ∨ 1024 < parts ∨ (1 ≤ parts ∧ parts ≤ 1024) by omega) with hp1 | hp1 | hp1
        · as_aux_lemma =>
          have hp2 : ¬ (1 : Int) ≤ parts := by omega
          go_wp2_with fail
          refine (R.ofrows_any (HA.out.ext HX2.out) (fun x hx => Nat.le_trans (HR6.out x hx) (by omega)) (by omega)).mono ?_
          rintro e w3 ⟨he3, v, rs, rfl, ⟨AR, cR, rfl, hsl⟩, hrn, -, hrm⟩
          have HX3 := Lib.hid (HX2.out.trans he3); have HK3 := Lib.hid (HK2.out.ext he3)
          have HSL := Lib.hid hsl
          obtain ⟨nr, hnr⟩ : ∃ q, q = rs.length := ⟨_, rfl⟩
          rw [← hnr] at hrn ⊢
          have HNR := Lib.hid hnr
          have HRL : Hid (∀ x ∈ rs, x.length ≤ 1048576) := Lib.hid (fun x hx => Nat.le_trans (HR6.out x (hrm x hx)) (by omega))
          clear he3 hsl hnr hrm
          go_upto_region 11 with fail
          have hx4 : Ext w3 (w3.alloc (.cells #[.slice AR nr cR, .slice none 0 0] 32)) := (Ext.refl w3).alloc _
          have k9 := Bk.new w3 32 [.slice AR nr cR, .slice none 0 0]
          change Bk (w3.alloc (.cells #[.slice AR nr cR, .slice none 0 0] 32)) _ _ _ at k9
          generalize (w3.alloc (.cells #[.slice AR nr cR, .slice none 0 0] 32)) = w4 at *
          have HX4 := Lib.hid (HX3.out.trans hx4)
          have d0 := (HK3.out.ext hx4).cell (i := 0) (by simp); have d1 := (HK3.out.ext hx4).cell (i := 1) (by simp)
          have q0 := k9.cell (i := 0) (by simp); have q1 := k9.cell (i := 1) (by simp)
          simp only [List.getElem_cons_zero, List.getElem_cons_succ] at d0 d1 q0 q1
          have HAR : Hid (∀ V : World, Ext w4 V → R.ArV (fun q => w2.heap.size ≤ q) V (.agg #[.slice AR nr cR, .slice none 0 0]) rs) := Lib.hid (fun V hV => ⟨AR, cR, by rw [HNR.out], R.Sl.ext HSL.out (hx4.trans hV)⟩)
          have HSH := Lib.hid (fun (V : World) (hV : Ext w4 V) => share_any (w := V) (HAR.out V hV) (by have := HNR.out; omega) HRL.out (R.Sl.ext HQ0.out (HX4.out.trans hV)) (by omega) (R.Sl.ext HQ1.out (HX4.out.trans hV)) (by omega))
          have HRK0 := Lib.hid (fun (V : World) (hV : Ext w4 V) => rank_any (w := V) (HAR.out V hV) (by have := HNR.out; omega) HRL.out (R.Sl.ext HQ0.out (HX4.out.trans hV)) (by omega))
          have HRK1 := Lib.hid (fun (V : World) (hV : Ext w4 V) => rank_any (w := V) (HAR.out V hV) (by have := HNR.out; omega) HRL.out (R.Sl.ext HQ1.out (HX4.out.trans hV)) (by omega))
          unfold RkPost at HRK0 HRK1
          have hl0 := R.lowB_le rs r0; have hl1 := R.lowB_le rs r1
          obtain ⟨a0, ha0⟩ : ∃ q, q = R.lowB rs r0 := ⟨_, rfl⟩
          obtain ⟨a1, ha1⟩ : ∃ q, q = R.lowB rs r1 := ⟨_, rfl⟩
          rw [← ha0] at HRK0 HSH hl0
          rw [← ha1] at HRK1 HSH hl1
          have hab0 : a0 ≤ 40 := by have := HNR.out; omega
          have hab1 : a1 ≤ 40 := by have := HNR.out; omega
          clear hx4 k9 ha0 ha1 hl0 hl1
          go_wp2_with fail
          refine (hist_err (HAR.out _ (Ext.refl _)) (by omega)).mono ?_
          rintro e w5 ⟨rfl, he5x⟩
          have he5 : Ext w4 w5 := by rw [he5x]; exact Ext.refl _
          clear he5x
          have HXH := Lib.hid he5
          replace d0 := he5.cell d0; replace d1 := he5.cell d1; replace q0 := he5.cell q0; replace q1 := he5.cell q1
          clear he5
          go_wp2_with fail
          refine hist_nil.mono ?_
          rintro e w6 ⟨rfl, rfl⟩
          go_wp2_with fail
          refine share_nil.mono ?_
          rintro e w6 ⟨rfl, rfl⟩
          go_wp2_with fail
          refine (HSH.out _ HXH.out).mono ?_
          rintro e w6 ⟨_, rfl, he6, ys, rfl, hys⟩
          have HX6 := Lib.hid (HXH.out.trans he6); have HYS := Lib.hid hys; have HXW := Lib.hid he6
          replace d0 := he6.cell d0; replace d1 := he6.cell d1; replace q0 := he6.cell q0; replace q1 := he6.cell q1
          clear he6 hys
          go_wp2_with fail
          refine (HRK0.out _ HX6.out).mono ?_
          rintro e w7 ⟨he7, x7, s7, rfl, h7⟩
          have HX7 := Lib.hid (HX6.out.trans he7); have H7 := Lib.hid h7; have HYS7 := Lib.hid (HYS.out.ext he7); have HXW7 := Lib.hid (HXW.out.trans he7)
          replace d0 := he7.cell d0; replace d1 := he7.cell d1; replace q0 := he7.cell q0; replace q1 := he7.cell q1
          clear he7 h7
          go_wp2_with fail
          refine (HRK1.out _ HX7.out).mono ?_
          rintro e w8 ⟨he8, x8, s8, rfl, h8⟩
          have HX8 := Lib.hid (HX7.out.trans he8); have H8 := Lib.hid h8; have H78 := Lib.hid (H7.out.ext he8); have HYS8 := Lib.hid (HYS7.out.ext he8); have HXW8 := Lib.hid (HXW7.out.trans he8)
          replace q0 := he8.cell q0; replace q1 := he8.cell q1
          clear he8 h8 d0 d1
          rcases Nat.lt_or_ge a1 a0 with hlt | hge
          · have h0 : a1 - a0 = 0 := by omega
            rw [h0] at HYS8
            clear h0
            go_wp2_with fail
            refine (sub_less H8.out.nv H78.out.nv hlt).mono ?_
            rintro e w9 ⟨rfl, hq9⟩
            have he9 := hq9.ext
            have HX9 := Lib.hid (HX8.out.trans he9); have HYS9 := Lib.hid (HYS8.out.ext he9); have HXW9 := Lib.hid (HXW8.out.trans he9)
            replace q0 := he9.cell q0; replace q1 := he9.cell q1
            clear hq9 he9
            go_wp2_with fail
            refine (bits_nv HYS9.out.nv (Nat.le_trans (dig_small (by omega)) (by omega))).mono ?_
            rintro e w10 ⟨rfl, hq10⟩
            have hb0 : blen 0 = 0 := by decide
            rw [hb0]
            have he10 := hq10.ext
            have HX10 := Lib.hid (HX9.out.trans he10); have HXW10 := Lib.hid (HXW9.out.trans he10)
            replace q0 := he10.cell q0; replace q1 := he10.cell q1
            clear hq10 he10 hb0
            go_wp2_with fail
            go_ret
            exact Ret.mk (HX4.out.trans HX10.out) rfl
          · go_wp2_with fail
            refine (sub_nv H8.out.nv H78.out.nv hge (Nat.le_trans (dig_small (by omega)) (by omega))).mono ?_
            rintro e w9 ⟨_, rfl, he9, d9, rfl, hd9⟩
            have HX9 := Lib.hid (HX8.out.trans he9); have HYS9 := Lib.hid (HYS8.out.ext he9); have HD9 := Lib.hid hd9; have HXW9 := Lib.hid (HXW8.out.trans he9)
            replace q0 := he9.cell q0; replace q1 := he9.cell q1
            clear he9 hd9
            go_wp2_with fail
            refine (cmp_nv HYS9.out.nv HD9.out.nv).mono ?_
            rintro e w10 ⟨rfl, hq10⟩
            rw [cmpI_eq rfl]
            have he10 := hq10.ext
            have HX10 := Lib.hid (HX9.out.trans he10); have HXW10 := Lib.hid (HXW9.out.trans he10)
            replace q0 := he10.cell q0; replace q1 := he10.cell q1
            clear hq10 he10
            go_wp2_with fail
            go_ret
            exact Ret.mk (HX4.out.trans HX10.out) rfl
        · as_aux_lemma =>
          have hp2 : (1 : Int) ≤ parts := by omega
          have hp3 : ¬ parts ≤ 1024 := by omega
          go_wp2_with fail
          refine (R.ofrows_any (HA.out.ext HX2.out) (fun x hx => Nat.le_trans (HR6.out x hx) (by omega)) (by omega)).mono ?_
          rintro e w3 ⟨he3, v, rs, rfl, ⟨AR, cR, rfl, hsl⟩, hrn, -, hrm⟩
          have HX3 := Lib.hid (HX2.out.trans he3); have HK3 := Lib.hid (HK2.out.ext he3)
          have HSL := Lib.hid hsl
          obtain ⟨nr, hnr⟩ : ∃ q, q = rs.length := ⟨_, rfl⟩
          rw [← hnr] at hrn ⊢
          have HNR := Lib.hid hnr
          have HRL : Hid (∀ x ∈ rs, x.length ≤ 1048576) := Lib.hid (fun x hx => Nat.le_trans (HR6.out x (hrm x hx)) (by omega))
          clear he3 hsl hnr hrm
          go_upto_region 11 with fail
          have hx4 : Ext w3 (w3.alloc (.cells #[.slice AR nr cR, .slice none 0 0] 32)) := (Ext.refl w3).alloc _
          have k9 := Bk.new w3 32 [.slice AR nr cR, .slice none 0 0]
          change Bk (w3.alloc (.cells #[.slice AR nr cR, .slice none 0 0] 32)) _ _ _ at k9
          generalize (w3.alloc (.cells #[.slice AR nr cR, .slice none 0 0] 32)) = w4 at *
          have HX4 := Lib.hid (HX3.out.trans hx4)
          have d0 := (HK3.out.ext hx4).cell (i := 0) (by simp); have d1 := (HK3.out.ext hx4).cell (i := 1) (by simp)
          have q0 := k9.cell (i := 0) (by simp); have q1 := k9.cell (i := 1) (by simp)
          simp only [List.getElem_cons_zero, List.getElem_cons_succ] at d0 d1 q0 q1
          have HAR : Hid (∀ V : World, Ext w4 V → R.ArV (fun q => w2.heap.size ≤ q) V (.agg #[.slice AR nr cR, .slice none 0 0]) rs) := Lib.hid (fun V hV => ⟨AR, cR, by rw [HNR.out], R.Sl.ext HSL.out (hx4.trans hV)⟩)
          have HSH := Lib.hid (fun (V : World) (hV : Ext w4 V) => share_any (w := V) (HAR.out V hV) (by have := HNR.out; omega) HRL.out (R.Sl.ext HQ0.out (HX4.out.trans hV)) (by omega) (R.Sl.ext HQ1.out (HX4.out.trans hV)) (by omega))
          have HRK0 := Lib.hid (fun (V : World) (hV : Ext w4 V) => rank_any (w := V) (HAR.out V hV) (by have := HNR.out; omega) HRL.out (R.Sl.ext HQ0.out (HX4.out.trans hV)) (by omega))
          have HRK1 := Lib.hid (fun (V : World) (hV : Ext w4 V) => rank_any (w := V) (HAR.out V hV) (by have := HNR.out; omega) HRL.out (R.Sl.ext HQ1.out (HX4.out.trans hV)) (by omega))
          unfold RkPost at HRK0 HRK1
          have hl0 := R.lowB_le rs r0; have hl1 := R.lowB_le rs r1
          obtain ⟨a0, ha0⟩ : ∃ q, q = R.lowB rs r0 := ⟨_, rfl⟩
          obtain ⟨a1, ha1⟩ : ∃ q, q = R.lowB rs r1 := ⟨_, rfl⟩
          rw [← ha0] at HRK0 HSH hl0
          rw [← ha1] at HRK1 HSH hl1
          have hab0 : a0 ≤ 40 := by have := HNR.out; omega
          have hab1 : a1 ≤ 40 := by have := HNR.out; omega
          clear hx4 k9 ha0 ha1 hl0 hl1
          go_wp2_with fail
          refine (hist_err (HAR.out _ (Ext.refl _)) (by omega)).mono ?_
          rintro e w5 ⟨rfl, he5x⟩
          have he5 : Ext w4 w5 := by rw [he5x]; exact Ext.refl _
          clear he5x
          have HXH := Lib.hid he5
          replace d0 := he5.cell d0; replace d1 := he5.cell d1; replace q0 := he5.cell q0; replace q1 := he5.cell q1
          clear he5
          go_wp2_with fail
          refine hist_nil.mono ?_
          rintro e w6 ⟨rfl, rfl⟩
          go_wp2_with fail
          refine share_nil.mono ?_
          rintro e w6 ⟨rfl, rfl⟩
          go_wp2_with fail
          refine (HSH.out _ HXH.out).mono ?_
          rintro e w6 ⟨_, rfl, he6, ys, rfl, hys⟩
          have HX6 := Lib.hid (HXH.out.trans he6); have HYS := Lib.hid hys; have HXW := Lib.hid he6
          replace d0 := he6.cell d0; replace d1 := he6.cell d1; replace q0 := he6.cell q0; replace q1 := he6.cell q1
          clear he6 hys
          go_wp2_with fail
          refine (HRK0.out _ HX6.out).mono ?_
          rintro e w7 ⟨he7, x7, s7, rfl, h7⟩
          have HX7 := Lib.hid (HX6.out.trans he7); have H7 := Lib.hid h7; have HYS7 := Lib.hid (HYS.out.ext he7); have HXW7 := Lib.hid (HXW.out.trans he7)
          replace d0 := he7.cell d0; replace d1 := he7.cell d1; replace q0 := he7.cell q0; replace q1 := he7.cell q1
          clear he7 h7
          go_wp2_with fail
          refine (HRK1.out _ HX7.out).mono ?_
          rintro e w8 ⟨he8, x8, s8, rfl, h8⟩
          have HX8 := Lib.hid (HX7.out.trans he8); have H8 := Lib.hid h8; have H78 := Lib.hid (H7.out.ext he8); have HYS8 := Lib.hid (HYS7.out.ext he8); have HXW8 := Lib.hid (HXW7.out.trans he8)
          replace q0 := he8.cell q0; replace q1 := he8.cell q1
          clear he8 h8 d0 d1
          rcases Nat.lt_or_ge a1 a0 with hlt | hge
          · have h0 : a1 - a0 = 0 := by omega
            rw [h0] at HYS8
            clear h0
            go_wp2_with fail
            refine (sub_less H8.out.nv H78.out.nv hlt).mono ?_
            rintro e w9 ⟨rfl, hq9⟩
            have he9 := hq9.ext
            have HX9 := Lib.hid (HX8.out.trans he9); have HYS9 := Lib.hid (HYS8.out.ext he9); have HXW9 := Lib.hid (HXW8.out.trans he9)
            replace q0 := he9.cell q0; replace q1 := he9.cell q1
            clear hq9 he9
            go_wp2_with fail
            refine (bits_nv HYS9.out.nv (Nat.le_trans (dig_small (by omega)) (by omega))).mono ?_
            rintro e w10 ⟨rfl, hq10⟩
            have hb0 : blen 0 = 0 := by decide
            rw [hb0]
            have he10 := hq10.ext
            have HX10 := Lib.hid (HX9.out.trans he10); have HXW10 := Lib.hid (HXW9.out.trans he10)
            replace q0 := he10.cell q0; replace q1 := he10.cell q1
            clear hq10 he10 hb0
            go_wp2_with fail
            go_ret
            exact Ret.mk (HX4.out.trans HX10.out) rfl
          · go_wp2_with fail
            refine (sub_nv H8.out.nv H78.out.nv hge (Nat.le_trans (dig_small (by omega)) (by omega))).mono ?_
            rintro e w9 ⟨_, rfl, he9, d9, rfl, hd9⟩
            have HX9 := Lib.hid (HX8.out.trans he9); have HYS9 := Lib.hid (HYS8.out.ext he9); have HD9 := Lib.hid hd9; have HXW9 := Lib.hid (HXW8.out.trans he9)
            replace q0 := he9.cell q0; replace q1 := he9.cell q1
            clear he9 hd9
            go_wp2_with fail
            refine (cmp_nv HYS9.out.nv HD9.out.nv).mono ?_
            rintro e w10 ⟨rfl, hq10⟩
            rw [cmpI_eq rfl]
            have he10 := hq10.ext
            have HX10 := Lib.hid (HX9.out.trans he10); have HXW10 := Lib.hid (HXW9.out.trans he10)
            replace q0 := he10.cell q0; replace q1 := he10.cell q1
            clear hq10 he10
            go_wp2_with fail
            go_ret
            exact Ret.mk (HX4.out.trans HX10.out) rfl
        · as_aux_lemma =>
          have hp0 : (0 : Int) ≤ parts := by omega
          obtain ⟨p, rfl⟩ := Int.eq_ofNat_of_zero_le (show 0 ≤ parts by omega)
          have hp2 : (1 : Int) ≤ (p : Int) := by omega
          have hp3 : (p : Int) ≤ 1024 := by omega
          have hp4 : 0 < p := by omega
          have hp5 : p ≤ 1024 := by omega
          go_wp2_with fail
          refine (R.ofrows_any (HA.out.ext HX2.out) (fun x hx => Nat.le_trans (HR6.out x hx) (by omega)) (by omega)).mono ?_
          rintro e w3 ⟨he3, v, rs, rfl, ⟨AR, cR, rfl, hsl⟩, hrn, -, hrm⟩
          have HX3 := Lib.hid (HX2.out.trans he3); have HK3 := Lib.hid (HK2.out.ext he3)
          have HSL := Lib.hid hsl
          obtain ⟨nr, hnr⟩ : ∃ q, q = rs.length := ⟨_, rfl⟩
          rw [← hnr] at hrn ⊢
          have HNR := Lib.hid hnr
          have HRL : Hid (∀ x ∈ rs, x.length ≤ 1048576) := Lib.hid (fun x hx => Nat.le_trans (HR6.out x (hrm x hx)) (by omega))
          clear he3 hsl hnr hrm
          go_upto_region 11 with fail
          have hx4 : Ext w3 (w3.alloc (.cells #[.slice AR nr cR, .slice none 0 0] 32)) := (Ext.refl w3).alloc _
          have k9 := Bk.new w3 32 [.slice AR nr cR, .slice none 0 0]
          change Bk (w3.alloc (.cells #[.slice AR nr cR, .slice none 0 0] 32)) _ _ _ at k9
          generalize (w3.alloc (.cells #[.slice AR nr cR, .slice none 0 0] 32)) = w4 at *
          have HX4 := Lib.hid (HX3.out.trans hx4)
          have d0 := (HK3.out.ext hx4).cell (i := 0) (by simp); have d1 := (HK3.out.ext hx4).cell (i := 1) (by simp)
          have q0 := k9.cell (i := 0) (by simp); have q1 := k9.cell (i := 1) (by simp)
          simp only [List.getElem_cons_zero, List.getElem_cons_succ] at d0 d1 q0 q1
          have HAR : Hid (∀ V : World, Ext w4 V → R.ArV (fun q => w2.heap.size ≤ q) V (.agg #[.slice AR nr cR, .slice none 0 0]) rs) := Lib.hid (fun V hV => ⟨AR, cR, by rw [HNR.out], R.Sl.ext HSL.out (hx4.trans hV)⟩)
          have HSH := Lib.hid (fun (V : World) (hV : Ext w4 V) => share_any (w := V) (HAR.out V hV) (by have := HNR.out; omega) HRL.out (R.Sl.ext HQ0.out (HX4.out.trans hV)) (by omega) (R.Sl.ext HQ1.out (HX4.out.trans hV)) (by omega))
          have HRK0 := Lib.hid (fun (V : World) (hV : Ext w4 V) => rank_any (w := V) (HAR.out V hV) (by have := HNR.out; omega) HRL.out (R.Sl.ext HQ0.out (HX4.out.trans hV)) (by omega))
          have HRK1 := Lib.hid (fun (V : World) (hV : Ext w4 V) => rank_any (w := V) (HAR.out V hV) (by have := HNR.out; omega) HRL.out (R.Sl.ext HQ1.out (HX4.out.trans hV)) (by omega))
          unfold RkPost at HRK0 HRK1
          have hl0 := R.lowB_le rs r0; have hl1 := R.lowB_le rs r1
          obtain ⟨a0, ha0⟩ : ∃ q, q = R.lowB rs r0 := ⟨_, rfl⟩
          obtain ⟨a1, ha1⟩ : ∃ q, q = R.lowB rs r1 := ⟨_, rfl⟩
          rw [← ha0] at HRK0 HSH hl0
          rw [← ha1] at HRK1 HSH hl1
          have hab0 : a0 ≤ 40 := by have := HNR.out; omega
          have hab1 : a1 ≤ 40 := by have := HNR.out; omega
          clear hx4 k9 ha0 ha1 hl0 hl1
          have HHI := Lib.hid (hist_any (HAR.out _ (Ext.refl _)) (by have := HNR.out; omega) HRL.out (p := p) (by omega) (by omega))
          unfold HistPost at HHI
          obtain ⟨bl, hbl⟩ : ∃ q, q = histL rs p p := ⟨_, rfl⟩
          rw [← hbl] at HHI
          obtain ⟨nb, hnb⟩ : ∃ q, q = bl.length := ⟨_, rfl⟩
          rw [← hnb] at HHI
          have HBL := Lib.hid hbl; have HNB := Lib.hid hnb
          clear hbl hnb
          go_wp2_with fail
          refine HHI.out.mono ?_
          rintro e w5 ⟨he5, Ab, cb, rfl, hsb⟩
          have HSB := Lib.hid hsb
          clear hsb
          have HXH := Lib.hid he5
          replace d0 := he5.cell d0; replace d1 := he5.cell d1; replace q0 := he5.cell q0; replace q1 := he5.cell q1
          clear he5
          go_wp2_with fail
          refine hist_nil.mono ?_
          rintro e w6 ⟨rfl, rfl⟩
          go_wp2_with fail
          refine share_nil.mono ?_
          rintro e w6 ⟨rfl, rfl⟩
          go_wp2_with fail
          refine (HSH.out _ HXH.out).mono ?_
          rintro e w6 ⟨_, rfl, he6, ys, rfl, hys⟩
          have HX6 := Lib.hid (HXH.out.trans he6); have HYS := Lib.hid hys; have HXW := Lib.hid he6
          replace d0 := he6.cell d0; replace d1 := he6.cell d1; replace q0 := he6.cell q0; replace q1 := he6.cell q1
          clear he6 hys
          go_wp2_with fail
          refine (HRK0.out _ HX6.out).mono ?_
          rintro e w7 ⟨he7, x7, s7, rfl, h7⟩
          have HX7 := Lib.hid (HX6.out.trans he7); have H7 := Lib.hid h7; have HYS7 := Lib.hid (HYS.out.ext he7); have HXW7 := Lib.hid (HXW.out.trans he7)
          replace d0 := he7.cell d0; replace d1 := he7.cell d1; replace q0 := he7.cell q0; replace q1 := he7.cell q1
          clear he7 h7
          go_wp2_with fail
          refine (HRK1.out _ HX7.out).mono ?_
          rintro e w8 ⟨he8, x8, s8, rfl, h8⟩
          have HX8 := Lib.hid (HX7.out.trans he8); have H8 := Lib.hid h8; have H78 := Lib.hid (H7.out.ext he8); have HYS8 := Lib.hid (HYS7.out.ext he8); have HXW8 := Lib.hid (HXW7.out.trans he8)
          replace q0 := he8.cell q0; replace q1 := he8.cell q1
          clear he8 h8 d0 d1
          rcases Nat.lt_or_ge a1 a0 with hlt | hge
          · have h0 : a1 - a0 = 0 := by omega
            rw [h0] at HYS8
            clear h0
            go_wp2_with fail
            refine (sub_less H8.out.nv H78.out.nv hlt).mono ?_
            rintro e w9 ⟨rfl, hq9⟩
            have he9 := hq9.ext
            have HX9 := Lib.hid (HX8.out.trans he9); have HYS9 := Lib.hid (HYS8.out.ext he9); have HXW9 := Lib.hid (HXW8.out.trans he9)
            replace q0 := he9.cell q0; replace q1 := he9.cell q1
            clear hq9 he9
            go_wp2_with fail
            refine (bits_nv HYS9.out.nv (Nat.le_trans (dig_small (by omega)) (by omega))).mono ?_
            rintro e w10 ⟨rfl, hq10⟩
            have hb0 : blen 0 = 0 := by decide
            rw [hb0]
            have he10 := hq10.ext
            have HX10 := Lib.hid (HX9.out.trans he10); have HXW10 := Lib.hid (HXW9.out.trans he10)
            replace q0 := he10.cell q0; replace q1 := he10.cell q1
            clear hq10 he10 hb0
            have HLN := Lib.hid (len_o (HAR.out _ HX10.out) (by have := HNR.out; omega))
            rw [← HNR.out] at HLN
            go_wp2_with fail
            refine HLN.out.mono ?_
            rintro e w11 ⟨u11, rfl, he11, hu11⟩
            have HX11 := Lib.hid (HX10.out.trans he11); have HXW11 := Lib.hid (HXW10.out.trans he11)
            have HU11 := Lib.hid hu11
            replace q0 := he11.cell q0; replace q1 := he11.cell q1
            have hwr : IntKind.i64.wrap (nr : Int) = (nr : Int) := IntWalk.i64_in _ (by have := HNR.out; omega)
            clear he11 hu11
            go_wp2_with fail
            refine (uint64_nv HU11.out.nv (by omega)).mono ?_
            rintro e w12 ⟨rfl, rfl⟩
            go_wp2_with fail
            refine (refCuts (n := nr) (p := p) (by omega) hp4 hp5).mono ?_
            rintro e w13 ⟨x13, rfl, he13, hin⟩
            have HX13 := Lib.hid (HX11.out.trans he13); have HXW13 := Lib.hid (HXW11.out.trans he13)
            replace q0 := he13.cell q0; replace q1 := he13.cell q1
            obtain ⟨AC, cC, rfl, -, hget⟩ := hin.parts
            rw [cuts_length] at hget ⊢
            have HCT : Hid (∀ i, i < p + 1 → ∃ ad, AC = some ad ∧ w13.cell? (ad.add i) = some (.int .i64 ((cutAt nr p i : Nat) : Int))) := Lib.hid (fun i hi => by
              have h := hget i hi
              rw [cuts_get hi] at h
              exact h)
            obtain ⟨adC, rfl, -⟩ := HCT.out 0 (by omega)
            clear he13 hin hget hwr
            go_wp2_with fail
            go_loopw [30, 31] (fun ta tb wr => ∃ k m : Nat, k ≤ p ∧ m ≤ k ∧ ta = .int .i64 (m : Int) ∧ tb = .int .i64 (k : Int) ∧ Hid (m = (histL rs p k).length) ∧ Ext w13 wr) (fun _ tb _ => p - (intOf tb).toNat)
            case atStart => exact ⟨0, 0, by omega, by omega, rfl, rfl, Lib.hid rfl, Ext.refl _⟩
            case round =>
              obtain ⟨k, m, hk, hmk, rfl, rfl, HM, hxw⟩ := hrel
              obtain ⟨W, rfl⟩ : ∃ V : World, V = wr := ⟨_, rfl⟩
              have HXR := Lib.hid hxw; have HX14 := Lib.hid (HX13.out.trans hxw)
              replace q0 := hxw.cell q0; replace q1 := hxw.cell q1
              by_cases hlt : k < p
              · have hm1 := cut_mono nr p k
                have hm2 := cut_end (n := nr) hp4 hlt
                obtain ⟨_, e, c0⟩ := HCT.out k (by omega)
                injection e with e; subst e
                obtain ⟨_, e, c1⟩ := HCT.out (k + 1) (by omega)
                injection e with e; subst e
                replace c0 := hxw.cell c0; replace c1 := hxw.cell c1
                have hba : binAt rs p k = if cutAt nr p (k + 1) - cutAt nr p k = 0 then none else some ⟨rs.getD (cutAt nr p k) [], rs.getD (cutAt nr p (k + 1) - 1) [], cutAt nr p (k + 1) - cutAt nr p k⟩ := by rw [HNR.out]; rfl
                have hln := histL_len rs p k
                rw [← HNR.out] at hln
                obtain ⟨lo, hlo⟩ : ∃ q, q = cutAt nr p k := ⟨_, rfl⟩
                obtain ⟨hh, hhq⟩ : ∃ q, q = cutAt nr p (k + 1) := ⟨_, rfl⟩
                rw [← hlo] at c0 hba hln hm1
                rw [← hhq] at c1 hba hln hm1 hm2
                have HBA := Lib.hid hba; have HLN2 := Lib.hid hln
                have k1 : (0 : Int) ≤ (k : Int) := by omega
                have k2 : (k : Int) < (p : Int) := by omega
                have k3 : (k : Int) < (p : Int) + 1 := by omega
                have k8 : (k : Int) ≤ (p : Int) := by omega
                have k7 : k < p + 1 := by omega
                have k4 : IntKind.i64.wrap ((k : Int) + 1) = (k : Int) + 1 := IntWalk.i64_in _ (by omega)
                have k5 : (k : Int) + 1 < (p : Int) + 1 := by omega
                have k6 : (0 : Int) ≤ (k : Int) + 1 := by omega
                have c1' : W.cell? ⟨adC.block, adC.off + (k + 1), none⟩ = some (.int .i64 (hh : Int)) := c1
                clear hba hln hlo hhq hxw c1
                by_cases heq : hh = lo
                · subst heq
                  have HM2 : Hid (m = (histL rs p (k + 1)).length) := Lib.hid (by rw [HLN2.out, if_pos (by omega)]; exact HM.out)
                  go_upto_region 30 with fail
                  go_region_held3 (fun V => Ext W V ∧ V.cell? (adC.add k) = some (.int .i64 (hh : Int)) ∧ V.cell? ⟨adC.block, adC.off + (k + 1), none⟩ = some (.int .i64 (hh : Int)))
                    ((refine (fun he => ⟨he, Ext.cell he c0, Ext.cell he c1'⟩) ?_; repeat (first | exact Ext.refl _ | exact (Ext.refl _).drew | refine Ext.drew ?_ | refine Ext.trans ?_ (by assumption))))
                    (fail)
                  go_wp2_with fail
                  go_roundw
                  case rel => exact ⟨k + 1, m, by omega, by omega, rfl, by go_num, HM2, HXR.out.drew⟩
                  case measure => simp [intOf]; omega
                · have hne : ¬ (lo : Int) = (hh : Int) := by omega
                  have hlh : lo < hh := by omega
                  have HM2 : Hid (m + 1 = (histL rs p (k + 1)).length) := Lib.hid (by rw [HLN2.out, if_neg (by omega), HM.out])
                  have hlr : lo < rs.length := by have := HNR.out; omega
                  have hhr : hh - 1 < rs.length := by have := HNR.out; omega
                  have hbs : binAt rs p k = some ⟨rs[lo]'hlr, rs[hh - 1]'hhr, hh - lo⟩ := by rw [HBA.out, if_neg (by omega), getD_at hlr, getD_at hhr]
                  obtain ⟨hl9, hb9⟩ := histL_at hlt hbs
                  have hmb : bl[m]? = some ⟨rs[lo]'hlr, rs[hh - 1]'hhr, hh - lo⟩ := by rw [HBL.out, HM.out, List.getElem?_eq_getElem hl9, hb9]
                  have hmn : m < nb := by rw [HM.out, HNB.out, HBL.out]; exact hl9
                  have HRL1 := Lib.hid (HRL.out _ (List.getElem_mem hlr)); have HRL2 := Lib.hid (HRL.out _ (List.getElem_mem hhr))
                  have HAT1 := Lib.hid (fun (V : World) (hV : Ext W V) (u : Value) (hu : Nz V u lo) => at_yes (HAR.out _ (HX14.out.trans hV)) (by have := HNR.out; omega) HRL.out hu.nv hlr)
                  have HAT2 := Lib.hid (fun (V : World) (hV : Ext W V) (u : Value) (hu : Nz V u (hh - 1)) => at_yes (HAR.out _ (HX14.out.trans hV)) (by have := HNR.out; omega) HRL.out hu.nv hhr)
                  have HSW := Lib.hid (R.Sl.ext HSB.out (HXW13.out.trans HXR.out))
                  obtain ⟨y1, hy1⟩ : ∃ y, y = rs[lo]'hlr := ⟨_, rfl⟩
                  obtain ⟨y2, hy2⟩ : ∃ y, y = rs[hh - 1]'hhr := ⟨_, rfl⟩
                  rw [← hy1] at HAT1 HRL1 hmb
                  rw [← hy2] at HAT2 HRL2 hmb
                  obtain ⟨adB, B1, d1, B2, d2, u3, rfl, e0, e1, e2, hf1, hf2, hf3⟩ := bin_parts HSW.out hmb
                  obtain ⟨n1, hn1⟩ : ∃ q, q = y1.length := ⟨_, rfl⟩
                  obtain ⟨n2, hn2⟩ : ∃ q, q = y2.length := ⟨_, rfl⟩
                  rw [← hn1] at HAT1 HRL1 hf1 e0
                  rw [← hn2] at HAT2 HRL2 hf2 e1
                  have HE1 := Lib.hid (fun (V : World) (hV : Ext W V) (G5 : Nat → Prop) (A5 : Option Addr) (c5 : Nat) (h5 : R.Sl R.rdVl G5 V (.slice A5 n1 c5) y1) => R.requal_any (R.Sl.ext hf1 hV) h5 HRL1.out HRL1.out)
                  have HE2 := Lib.hid (fun (V : World) (hV : Ext W V) (G5 : Nat → Prop) (A5 : Option Addr) (c5 : Nat) (h5 : R.Sl R.rdVl G5 V (.slice A5 n2 c5) y2) => R.requal_any (R.Sl.ext hf2 hV) h5 HRL2.out HRL2.out)
                  rw [R.cmp_row.self] at HE1 HE2
                  simp only [beq_self_eq_true] at HE1 HE2
                  have HE3 := Lib.hid (fun (V : World) (hV : Ext W V) => is45_yes (R.rdNfx hf3 hV).nz.nv (by omega))
                  have s1 : IntKind.i64.wrap ((hh : Int) - 1) = ((hh - 1 : Nat) : Int) := by rw [IntWalk.i64_in _ (by omega)]; omega
                  have s2 : IntKind.i64.wrap ((hh : Int) - (lo : Int)) = ((hh - lo : Nat) : Int) := by rw [IntWalk.i64_in _ (by omega)]; omega
                  have m1 : (0 : Int) ≤ (m : Int) := by omega
                  have m2 : (m : Int) < (nb : Int) := by omega
                  have m3 : decide ((nb : Int) ≤ (m : Int)) = false := by rw [decide_eq_false_iff_not]; omega
                  have m5 : decide (nb ≤ m) = false := by rw [decide_eq_false_iff_not]; omega
                  have m6 : ¬ nb ≤ m := by omega
                  have m4 : IntKind.i64.wrap ((m : Int) + 1) = (m : Int) + 1 := IntWalk.i64_in _ (by omega)
                  have hlo5 : lo < 9223372036854775808 := by omega
                  have hhh5 : hh - 1 < 9223372036854775808 := by omega
                  clear hlr hhr hbs hl9 hb9 hmb hy1 hy2 hn1 hn2 hf1 hf2 hf3 HSW
                  go_upto_region 30 with fail
                  go_region_held3 (fun V => Ext W V ∧ V.cell? (adC.add k) = some (.int .i64 (lo : Int)) ∧ V.cell? ⟨adC.block, adC.off + (k + 1), none⟩ = some (.int .i64 (hh : Int)))
                    ((refine (fun he => ⟨he, Ext.cell he c0, Ext.cell he c1'⟩) ?_; repeat (first | exact Ext.refl _ | exact (Ext.refl _).drew | refine Ext.drew ?_ | refine Ext.trans ?_ (by assumption))))
                    (fail)
                  go_upto_region 31 with fail
                  go_region_held3 (fun V => Ext W V ∧ V.cell? (adC.add k) = some (.int .i64 (lo : Int)) ∧ V.cell? ⟨w3.heap.size, 0, none⟩ = some (.slice AR nr cR) ∧ V.cell? ⟨w3.heap.size, 1, none⟩ = some (.slice none 0 0))
                    ((refine (fun he => ⟨he, Ext.cell he c0, Ext.cell he q0, Ext.cell he q1⟩) ?_; repeat (first | exact Ext.refl _ | exact (Ext.refl _).drew | refine Ext.drew ?_ | refine Ext.trans ?_ (by assumption))))
                    (first
                      | (go_at_call 26; refine (of45 lo hlo5 _).mono ?_; rintro e wa ⟨ua, rfl, hea, hua⟩)
                      | (go_at_call 11; refine (HAT1.out _ (And.left (by assumption)) _ hua).mono ?_; rintro e wb ⟨A6, c6, rfl, hs6, heb⟩))
                  have hxb : Ext W wb := ((((Ext.refl W).drew).drew).trans hea).trans heb
                  obtain ⟨X, rfl⟩ : ∃ V : World, V = wb := ⟨_, rfl⟩
                  have HXX := Lib.hid hxb; have HS6 := Lib.hid hs6
                  replace c0 := hxb.cell c0; replace c1' := hxb.cell c1'; replace q0 := hxb.cell q0; replace q1 := hxb.cell q1; replace e0 := hxb.cell e0; replace e1 := hxb.cell e1; replace e2 := hxb.cell e2
                  clear hxb hea heb hs6 hua
                  go_upto_region 32 with fail
                  go_region_held3 (fun V => Ext X V ∧ V.cell? ⟨adC.block, adC.off + (k + 1), none⟩ = some (.int .i64 (hh : Int)) ∧ V.cell? ⟨w3.heap.size, 0, none⟩ = some (.slice AR nr cR) ∧ V.cell? ⟨w3.heap.size, 1, none⟩ = some (.slice none 0 0))
                    ((refine (fun he => ⟨he, Ext.cell he c1', Ext.cell he q0, Ext.cell he q1⟩) ?_; repeat (first | exact Ext.refl _ | exact (Ext.refl _).drew | refine Ext.drew ?_ | refine Ext.trans ?_ (by assumption))))
                    (first
                      | (go_at_call 26; refine (of45 (hh - 1) hhh5 _).mono ?_; rintro e wc ⟨uc, rfl, hec, huc⟩)
                      | (go_at_call 11; refine (HAT2.out _ (HXX.out.trans (And.left (by assumption))) _ huc).mono ?_; rintro e wd ⟨A9, c9, rfl, hs9, hed⟩))
                  have hxd : Ext X wd := (((Ext.refl X).drew).trans hec).trans hed
                  obtain ⟨Y, rfl⟩ : ∃ V : World, V = wd := ⟨_, rfl⟩
                  have HXY := Lib.hid (HXX.out.trans hxd); have HS6Y := Lib.hid (R.Sl.ext HS6.out hxd); have HS9 := Lib.hid hs9
                  replace c0 := hxd.cell c0; replace c1' := hxd.cell c1'; replace e0 := hxd.cell e0; replace e1 := hxd.cell e1; replace e2 := hxd.cell e2
                  have HQ1 := Lib.hid (fun (V : World) (hV : Ext Y V) => HE1.out V (HXY.out.trans hV) _ _ _ (R.Sl.ext HS6Y.out hV))
                  have HQ2 := Lib.hid (fun (V : World) (hV : Ext Y V) => HE2.out V (HXY.out.trans hV) _ _ _ (R.Sl.ext HS9.out hV))
                  have HQ3 := Lib.hid (fun (V : World) (hV : Ext Y V) => HE3.out V (HXY.out.trans hV))
                  clear hxd hec hed hs9 huc q0 q1 HE1 HE2 HE3 HAT1 HAT2
                  go_upto_region 33 with fail
                  go_region_held3 (fun V => Ext Y V ∧ V.cell? (adC.add k) = some (.int .i64 (lo : Int)) ∧ V.cell? ⟨adC.block, adC.off + (k + 1), none⟩ = some (.int .i64 (hh : Int)) ∧ V.cell? (adB.add (m * 3)) = some (.slice B1 n1 d1) ∧ V.cell? ⟨(adB.add (m * 3)).block, (adB.add (m * 3)).off + 1, none⟩ = some (.slice B2 n2 d2) ∧ V.cell? ⟨(adB.add (m * 3)).block, (adB.add (m * 3)).off + 2, none⟩ = some u3)
                    ((refine (fun he => ⟨he, Ext.cell he c0, Ext.cell he c1', Ext.cell he e0, Ext.cell he e1, Ext.cell he e2⟩) ?_; repeat (first | exact Ext.refl _ | exact (Ext.refl _).drew | refine Ext.drew ?_ | refine Ext.trans ?_ (by assumption))))
                    (first
                      | (go_at_call 13; (first | (with_reducible refine (HQ1.out _ (And.left (by assumption))).mono ?_) | (with_reducible refine (HQ2.out _ (And.left (by assumption))).mono ?_)); rintro e wf ⟨rfl, hgf⟩; have hef := hgf.ext)
                      | (go_at_call 27; refine (HQ3.out _ (And.left (by assumption))).mono ?_; rintro e wg ⟨zg, rfl, heg, rfl⟩))
                  have hxz : Ext Y wg := ((((Ext.refl Y).drew).trans (by assumption)).trans hef).trans heg
                  obtain ⟨Z, rfl⟩ : ∃ V : World, V = wg := ⟨_, rfl⟩
                  have HXZ := Lib.hid (HXR.out.trans (HXY.out.trans hxz))
                  clear hxz heg c0 c1' e0 e1 e2 HQ1 HQ2 HQ3
                  go_wp2_with fail
                  go_roundw
                  case rel => exact ⟨k + 1, m + 1, by omega, by omega, by go_num, by go_num, HM2, HXZ.out⟩
                  case measure => simp [intOf]; omega
              · obtain rfl : k = p := by omega
                have hmn : m = nb := by rw [HM.out, HNB.out, HBL.out]
                subst hmn
                have hkk : ¬ (k : Int) < (k : Int) := by omega
                clear q0 q1
                go_wp2_with fail
                go_ret
                exact Ret.mk (HX4.out.trans HX14.out) (by simp)
          · go_wp2_with fail
            refine (sub_nv H8.out.nv H78.out.nv hge (Nat.le_trans (dig_small (by omega)) (by omega))).mono ?_
            rintro e w9 ⟨_, rfl, he9, d9, rfl, hd9⟩
            have HX9 := Lib.hid (HX8.out.trans he9); have HYS9 := Lib.hid (HYS8.out.ext he9); have HD9 := Lib.hid hd9; have HXW9 := Lib.hid (HXW8.out.trans he9)
            replace q0 := he9.cell q0; replace q1 := he9.cell q1
            clear he9 hd9
            go_wp2_with fail
            refine (cmp_nv HYS9.out.nv HD9.out.nv).mono ?_
            rintro e w10 ⟨rfl, hq10⟩
            rw [cmpI_eq rfl]
            have he10 := hq10.ext
            have HX10 := Lib.hid (HX9.out.trans he10); have HXW10 := Lib.hid (HXW9.out.trans he10)
            replace q0 := he10.cell q0; replace q1 := he10.cell q1
            clear hq10 he10
            have HLN := Lib.hid (len_o (HAR.out _ HX10.out) (by have := HNR.out; omega))
            rw [← HNR.out] at HLN
            go_wp2_with fail
            refine HLN.out.mono ?_
            rintro e w11 ⟨u11, rfl, he11, hu11⟩
            have HX11 := Lib.hid (HX10.out.trans he11); have HXW11 := Lib.hid (HXW10.out.trans he11)
            have HU11 := Lib.hid hu11
            replace q0 := he11.cell q0; replace q1 := he11.cell q1
            have hwr : IntKind.i64.wrap (nr : Int) = (nr : Int) := IntWalk.i64_in _ (by have := HNR.out; omega)
            clear he11 hu11
            go_wp2_with fail
            refine (uint64_nv HU11.out.nv (by omega)).mono ?_
            rintro e w12 ⟨rfl, rfl⟩
            go_wp2_with fail
            refine (refCuts (n := nr) (p := p) (by omega) hp4 hp5).mono ?_
            rintro e w13 ⟨x13, rfl, he13, hin⟩
            have HX13 := Lib.hid (HX11.out.trans he13); have HXW13 := Lib.hid (HXW11.out.trans he13)
            replace q0 := he13.cell q0; replace q1 := he13.cell q1
            obtain ⟨AC, cC, rfl, -, hget⟩ := hin.parts
            rw [cuts_length] at hget ⊢
            have HCT : Hid (∀ i, i < p + 1 → ∃ ad, AC = some ad ∧ w13.cell? (ad.add i) = some (.int .i64 ((cutAt nr p i : Nat) : Int))) := Lib.hid (fun i hi => by
              have h := hget i hi
              rw [cuts_get hi] at h
              exact h)
            obtain ⟨adC, rfl, -⟩ := HCT.out 0 (by omega)
            clear he13 hin hget hwr
            go_wp2_with fail
            go_loopw [30, 31] (fun ta tb wr => ∃ k m : Nat, k ≤ p ∧ m ≤ k ∧ ta = .int .i64 (m : Int) ∧ tb = .int .i64 (k : Int) ∧ Hid (m = (histL rs p k).length) ∧ Ext w13 wr) (fun _ tb _ => p - (intOf tb).toNat)
            case atStart => exact ⟨0, 0, by omega, by omega, rfl, rfl, Lib.hid rfl, Ext.refl _⟩
            case round =>
              obtain ⟨k, m, hk, hmk, rfl, rfl, HM, hxw⟩ := hrel
              obtain ⟨W, rfl⟩ : ∃ V : World, V = wr := ⟨_, rfl⟩
              have HXR := Lib.hid hxw; have HX14 := Lib.hid (HX13.out.trans hxw)
              replace q0 := hxw.cell q0; replace q1 := hxw.cell q1
              by_cases hlt : k < p
              · have hm1 := cut_mono nr p k
                have hm2 := cut_end (n := nr) hp4 hlt
                obtain ⟨_, e, c0⟩ := HCT.out k (by omega)
                injection e with e; subst e
                obtain ⟨_, e, c1⟩ := HCT.out (k + 1) (by omega)
                injection e with e; subst e
                replace c0 := hxw.cell c0; replace c1 := hxw.cell c1
                have hba : binAt rs p k = if cutAt nr p (k + 1) - cutAt nr p k = 0 then none else some ⟨rs.getD (cutAt nr p k) [], rs.getD (cutAt nr p (k + 1) - 1) [], cutAt nr p (k + 1) - cutAt nr p k⟩ := by rw [HNR.out]; rfl
                have hln := histL_len rs p k
                rw [← HNR.out] at hln
                obtain ⟨lo, hlo⟩ : ∃ q, q = cutAt nr p k := ⟨_, rfl⟩
                obtain ⟨hh, hhq⟩ : ∃ q, q = cutAt nr p (k + 1) := ⟨_, rfl⟩
                rw [← hlo] at c0 hba hln hm1
                rw [← hhq] at c1 hba hln hm1 hm2
                have HBA := Lib.hid hba; have HLN2 := Lib.hid hln
                have k1 : (0 : Int) ≤ (k : Int) := by omega
                have k2 : (k : Int) < (p : Int) := by omega
                have k3 : (k : Int) < (p : Int) + 1 := by omega
                have k8 : (k : Int) ≤ (p : Int) := by omega
                have k7 : k < p + 1 := by omega
                have k4 : IntKind.i64.wrap ((k : Int) + 1) = (k : Int) + 1 := IntWalk.i64_in _ (by omega)
                have k5 : (k : Int) + 1 < (p : Int) + 1 := by omega
                have k6 : (0 : Int) ≤ (k : Int) + 1 := by omega
                have c1' : W.cell? ⟨adC.block, adC.off + (k + 1), none⟩ = some (.int .i64 (hh : Int)) := c1
                clear hba hln hlo hhq hxw c1
                by_cases heq : hh = lo
                · subst heq
                  have HM2 : Hid (m = (histL rs p (k + 1)).length) := Lib.hid (by rw [HLN2.out, if_pos (by omega)]; exact HM.out)
                  go_upto_region 30 with fail
                  go_region_held3 (fun V => Ext W V ∧ V.cell? (adC.add k) = some (.int .i64 (hh : Int)) ∧ V.cell? ⟨adC.block, adC.off + (k + 1), none⟩ = some (.int .i64 (hh : Int)))
                    ((refine (fun he => ⟨he, Ext.cell he c0, Ext.cell he c1'⟩) ?_; repeat (first | exact Ext.refl _ | exact (Ext.refl _).drew | refine Ext.drew ?_ | refine Ext.trans ?_ (by assumption))))
                    (fail)
                  go_wp2_with fail
                  go_roundw
                  case rel => exact ⟨k + 1, m, by omega, by omega, rfl, by go_num, HM2, HXR.out.drew⟩
                  case measure => simp [intOf]; omega
                · have hne : ¬ (lo : Int) = (hh : Int) := by omega
                  have hlh : lo < hh := by omega
                  have HM2 : Hid (m + 1 = (histL rs p (k + 1)).length) := Lib.hid (by rw [HLN2.out, if_neg (by omega), HM.out])
                  have hlr : lo < rs.length := by have := HNR.out; omega
                  have hhr : hh - 1 < rs.length := by have := HNR.out; omega
                  have hbs : binAt rs p k = some ⟨rs[lo]'hlr, rs[hh - 1]'hhr, hh - lo⟩ := by rw [HBA.out, if_neg (by omega), getD_at hlr, getD_at hhr]
                  obtain ⟨hl9, hb9⟩ := histL_at hlt hbs
                  have hmb : bl[m]? = some ⟨rs[lo]'hlr, rs[hh - 1]'hhr, hh - lo⟩ := by rw [HBL.out, HM.out, List.getElem?_eq_getElem hl9, hb9]
                  have hmn : m < nb := by rw [HM.out, HNB.out, HBL.out]; exact hl9
                  have HRL1 := Lib.hid (HRL.out _ (List.getElem_mem hlr)); have HRL2 := Lib.hid (HRL.out _ (List.getElem_mem hhr))
                  have HAT1 := Lib.hid (fun (V : World) (hV : Ext W V) (u : Value) (hu : Nz V u lo) => at_yes (HAR.out _ (HX14.out.trans hV)) (by have := HNR.out; omega) HRL.out hu.nv hlr)
                  have HAT2 := Lib.hid (fun (V : World) (hV : Ext W V) (u : Value) (hu : Nz V u (hh - 1)) => at_yes (HAR.out _ (HX14.out.trans hV)) (by have := HNR.out; omega) HRL.out hu.nv hhr)
                  have HSW := Lib.hid (R.Sl.ext HSB.out (HXW13.out.trans HXR.out))
                  obtain ⟨y1, hy1⟩ : ∃ y, y = rs[lo]'hlr := ⟨_, rfl⟩
                  obtain ⟨y2, hy2⟩ : ∃ y, y = rs[hh - 1]'hhr := ⟨_, rfl⟩
                  rw [← hy1] at HAT1 HRL1 hmb
                  rw [← hy2] at HAT2 HRL2 hmb
                  obtain ⟨adB, B1, d1, B2, d2, u3, rfl, e0, e1, e2, hf1, hf2, hf3⟩ := bin_parts HSW.out hmb
                  obtain ⟨n1, hn1⟩ : ∃ q, q = y1.length := ⟨_, rfl⟩
                  obtain ⟨n2, hn2⟩ : ∃ q, q = y2.length := ⟨_, rfl⟩
                  rw [← hn1] at HAT1 HRL1 hf1 e0
                  rw [← hn2] at HAT2 HRL2 hf2 e1
                  have HE1 := Lib.hid (fun (V : World) (hV : Ext W V) (G5 : Nat → Prop) (A5 : Option Addr) (c5 : Nat) (h5 : R.Sl R.rdVl G5 V (.slice A5 n1 c5) y1) => R.requal_any (R.Sl.ext hf1 hV) h5 HRL1.out HRL1.out)
                  have HE2 := Lib.hid (fun (V : World) (hV : Ext W V) (G5 : Nat → Prop) (A5 : Option Addr) (c5 : Nat) (h5 : R.Sl R.rdVl G5 V (.slice A5 n2 c5) y2) => R.requal_any (R.Sl.ext hf2 hV) h5 HRL2.out HRL2.out)
                  rw [R.cmp_row.self] at HE1 HE2
                  simp only [beq_self_eq_true] at HE1 HE2
                  have HE3 := Lib.hid (fun (V : World) (hV : Ext W V) => is45_yes (R.rdNfx hf3 hV).nz.nv (by omega))
                  have s1 : IntKind.i64.wrap ((hh : Int) - 1) = ((hh - 1 : Nat) : Int) := by rw [IntWalk.i64_in _ (by omega)]; omega
                  have s2 : IntKind.i64.wrap ((hh : Int) - (lo : Int)) = ((hh - lo : Nat) : Int) := by rw [IntWalk.i64_in _ (by omega)]; omega
                  have m1 : (0 : Int) ≤ (m : Int) := by omega
                  have m2 : (m : Int) < (nb : Int) := by omega
                  have m3 : decide ((nb : Int) ≤ (m : Int)) = false := by rw [decide_eq_false_iff_not]; omega
                  have m5 : decide (nb ≤ m) = false := by rw [decide_eq_false_iff_not]; omega
                  have m6 : ¬ nb ≤ m := by omega
                  have m4 : IntKind.i64.wrap ((m : Int) + 1) = (m : Int) + 1 := IntWalk.i64_in _ (by omega)
                  have hlo5 : lo < 9223372036854775808 := by omega
                  have hhh5 : hh - 1 < 9223372036854775808 := by omega
                  clear hlr hhr hbs hl9 hb9 hmb hy1 hy2 hn1 hn2 hf1 hf2 hf3 HSW
                  go_upto_region 30 with fail
                  go_region_held3 (fun V => Ext W V ∧ V.cell? (adC.add k) = some (.int .i64 (lo : Int)) ∧ V.cell? ⟨adC.block, adC.off + (k + 1), none⟩ = some (.int .i64 (hh : Int)))
                    ((refine (fun he => ⟨he, Ext.cell he c0, Ext.cell he c1'⟩) ?_; repeat (first | exact Ext.refl _ | exact (Ext.refl _).drew | refine Ext.drew ?_ | refine Ext.trans ?_ (by assumption))))
                    (fail)
                  go_upto_region 31 with fail
                  go_region_held3 (fun V => Ext W V ∧ V.cell? (adC.add k) = some (.int .i64 (lo : Int)) ∧ V.cell? ⟨w3.heap.size, 0, none⟩ = some (.slice AR nr cR) ∧ V.cell? ⟨w3.heap.size, 1, none⟩ = some (.slice none 0 0))
                    ((refine (fun he => ⟨he, Ext.cell he c0, Ext.cell he q0, Ext.cell he q1⟩) ?_; repeat (first | exact Ext.refl _ | exact (Ext.refl _).drew | refine Ext.drew ?_ | refine Ext.trans ?_ (by assumption))))
                    (first
                      | (go_at_call 26; refine (of45 lo hlo5 _).mono ?_; rintro e wa ⟨ua, rfl, hea, hua⟩)
                      | (go_at_call 11; refine (HAT1.out _ (And.left (by assumption)) _ hua).mono ?_; rintro e wb ⟨A6, c6, rfl, hs6, heb⟩))
                  have hxb : Ext W wb := ((((Ext.refl W).drew).drew).trans hea).trans heb
                  obtain ⟨X, rfl⟩ : ∃ V : World, V = wb := ⟨_, rfl⟩
                  have HXX := Lib.hid hxb; have HS6 := Lib.hid hs6
                  replace c0 := hxb.cell c0; replace c1' := hxb.cell c1'; replace q0 := hxb.cell q0; replace q1 := hxb.cell q1; replace e0 := hxb.cell e0; replace e1 := hxb.cell e1; replace e2 := hxb.cell e2
                  clear hxb hea heb hs6 hua
                  go_upto_region 32 with fail
                  go_region_held3 (fun V => Ext X V ∧ V.cell? ⟨adC.block, adC.off + (k + 1), none⟩ = some (.int .i64 (hh : Int)) ∧ V.cell? ⟨w3.heap.size, 0, none⟩ = some (.slice AR nr cR) ∧ V.cell? ⟨w3.heap.size, 1, none⟩ = some (.slice none 0 0))
                    ((refine (fun he => ⟨he, Ext.cell he c1', Ext.cell he q0, Ext.cell he q1⟩) ?_; repeat (first | exact Ext.refl _ | exact (Ext.refl _).drew | refine Ext.drew ?_ | refine Ext.trans ?_ (by assumption))))
                    (first
                      | (go_at_call 26; refine (of45 (hh - 1) hhh5 _).mono ?_; rintro e wc ⟨uc, rfl, hec, huc⟩)
                      | (go_at_call 11; refine (HAT2.out _ (HXX.out.trans (And.left (by assumption))) _ huc).mono ?_; rintro e wd ⟨A9, c9, rfl, hs9, hed⟩))
                  have hxd : Ext X wd := (((Ext.refl X).drew).trans hec).trans hed
                  obtain ⟨Y, rfl⟩ : ∃ V : World, V = wd := ⟨_, rfl⟩
                  have HXY := Lib.hid (HXX.out.trans hxd); have HS6Y := Lib.hid (R.Sl.ext HS6.out hxd); have HS9 := Lib.hid hs9
                  replace c0 := hxd.cell c0; replace c1' := hxd.cell c1'; replace e0 := hxd.cell e0; replace e1 := hxd.cell e1; replace e2 := hxd.cell e2
                  have HQ1 := Lib.hid (fun (V : World) (hV : Ext Y V) => HE1.out V (HXY.out.trans hV) _ _ _ (R.Sl.ext HS6Y.out hV))
                  have HQ2 := Lib.hid (fun (V : World) (hV : Ext Y V) => HE2.out V (HXY.out.trans hV) _ _ _ (R.Sl.ext HS9.out hV))
                  have HQ3 := Lib.hid (fun (V : World) (hV : Ext Y V) => HE3.out V (HXY.out.trans hV))
                  clear hxd hec hed hs9 huc q0 q1 HE1 HE2 HE3 HAT1 HAT2
                  go_upto_region 33 with fail
                  go_region_held3 (fun V => Ext Y V ∧ V.cell? (adC.add k) = some (.int .i64 (lo : Int)) ∧ V.cell? ⟨adC.block, adC.off + (k + 1), none⟩ = some (.int .i64 (hh : Int)) ∧ V.cell? (adB.add (m * 3)) = some (.slice B1 n1 d1) ∧ V.cell? ⟨(adB.add (m * 3)).block, (adB.add (m * 3)).off + 1, none⟩ = some (.slice B2 n2 d2) ∧ V.cell? ⟨(adB.add (m * 3)).block, (adB.add (m * 3)).off + 2, none⟩ = some u3)
                    ((refine (fun he => ⟨he, Ext.cell he c0, Ext.cell he c1', Ext.cell he e0, Ext.cell he e1, Ext.cell he e2⟩) ?_; repeat (first | exact Ext.refl _ | exact (Ext.refl _).drew | refine Ext.drew ?_ | refine Ext.trans ?_ (by assumption))))
                    (first
                      | (go_at_call 13; (first | (with_reducible refine (HQ1.out _ (And.left (by assumption))).mono ?_) | (with_reducible refine (HQ2.out _ (And.left (by assumption))).mono ?_)); rintro e wf ⟨rfl, hgf⟩; have hef := hgf.ext)
                      | (go_at_call 27; refine (HQ3.out _ (And.left (by assumption))).mono ?_; rintro e wg ⟨zg, rfl, heg, rfl⟩))
                  have hxz : Ext Y wg := ((((Ext.refl Y).drew).trans (by assumption)).trans hef).trans heg
                  obtain ⟨Z, rfl⟩ : ∃ V : World, V = wg := ⟨_, rfl⟩
                  have HXZ := Lib.hid (HXR.out.trans (HXY.out.trans hxz))
                  clear hxz heg c0 c1' e0 e1 e2 HQ1 HQ2 HQ3
                  go_wp2_with fail
                  go_roundw
                  case rel => exact ⟨k + 1, m + 1, by omega, by omega, by go_num, by go_num, HM2, HXZ.out⟩
                  case measure => simp [intOf]; omega
              · obtain rfl : k = p := by omega
                have hmn : m = nb := by rw [HM.out, HNB.out, HBL.out]
                subst hmn
                have hkk : ¬ (k : Int) < (k : Int) := by omega
                clear q0 q1
                go_wp2_with fail
                go_ret
                exact Ret.mk (HX4.out.trans HX14.out) (by simp)
end Go.Proofs.Ytjpkaljndfgkjaa
