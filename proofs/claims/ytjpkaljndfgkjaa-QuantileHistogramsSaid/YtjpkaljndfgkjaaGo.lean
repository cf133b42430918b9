/- The walk of SampleRows. -/
import Derived.Test.YtjpkaljndfgkjaaGn
namespace Go.Proofs.Ytjpkaljndfgkjaa
open Go.RowKit

set_option maxRecDepth 20000 in
set_option maxHeartbeats 40000000 in
theorem law_rows {F : Nat → Prop} {w : World} {A0 : Option Addr} {n c0 : Nat} {l : List (List R.Vl)} {m : Int} {t : Value} {bs : List Nat} {pos : Int} (hA : R.Sl R.rdRow F w (.slice A0 n c0) l) (hm : m < 9223372036854775808) (ht : Tp w t bs pos) :
    Calls Try.prog 3 #[.slice A0 n c0, .int .i64 m, t] w (Ret (fun x _ => x = .bool true) w) := by
  obtain ⟨s, rfl, hs⟩ := ht
  obtain ⟨A, c, rfl, -⟩ := hs.parts
  have hnl := hA.cap.1
  have HA := Lib.hid hA; have HNL := Lib.hid hnl
  clear hA hnl
  go_enter Try.func3, Try.ntmps3
  go_wp2_with fail
  have hx : Ext w (w.alloc (.cells #[.slice A bs.length c, .int .i64 pos] 25)) := (Ext.refl w).alloc _
  have k0 := Bk.new w 25 [.slice A bs.length c, .int .i64 pos]
  change Bk (w.alloc (.cells #[.slice A bs.length c, .int .i64 pos] 25)) _ _ _ at k0
  generalize (w.alloc (.cells #[.slice A bs.length c, .int .i64 pos] 25)) = w1 at *
  have HS1 := Lib.hid (hs.ext hx)
  have HK0 := Lib.hid k0; have HX1 := Lib.hid hx
  clear hs hx k0
  refine (great_tp ⟨_, rfl, HS1.out⟩).mono ?_
  rintro e w2 ⟨x, rfl, he2, rfl⟩
  have HX2 := Lib.hid (HX1.out.trans he2); have HK2 := Lib.hid (HK0.out.ext he2); have HS2 := Lib.hid (HS1.out.ext he2)
  clear he2
  rcases hg : greatB bs.length pos with _ | _
  case true =>
    clear hg
    go_wp2_with fail
    refine (awake_true _).mono ?_
    rintro e w3 ⟨x, rfl, he3, rfl⟩
    have HF := Lib.hid (HX2.out.trans he3)
    clear he3
    go_wp2_with fail
    go_ret
    exact Ret.mk HF.out rfl
  simp only [greatB, Bool.or_eq_false_iff, decide_eq_false_iff_not] at hg
  obtain ⟨⟨hlen, hpos⟩, hle⟩ := hg
  obtain ⟨p, rfl⟩ := Int.eq_ofNat_of_zero_le (show 0 ≤ pos by omega)
  have hp : p ≤ 8 * bs.length := by omega
  have hlen' : bs.length ≤ 60 := by omega
  clear hpos hle hlen
  by_cases h40 : (40 : Int) < (n : Int)
  · go_wp2_with fail
    refine (awake_true _).mono ?_
    rintro e w3 ⟨x, rfl, he3, rfl⟩
    have HF := Lib.hid (HX2.out.trans he3)
    clear he3
    go_wp2_with fail
    go_ret
    exact Ret.mk HF.out rfl
  have hn40 : n ≤ 40 := by omega
  go_wp2_with fail
  go_loopw [39] (fun t wr => ∃ i : Nat, i ≤ n ∧ t = .int .i64 (i : Int) ∧ Hid (∀ (j : Nat) (h : j < l.length), j < i → (l[j]'h).length ≤ 8) ∧ w2 = wr) (fun t _ => n - (intOf t).toNat)
  case atStart => exact ⟨0, Nat.zero_le _, rfl, Lib.hid (fun j _ h => by omega), rfl⟩
  case round =>
    obtain ⟨i, hi, rfl, HJ, rfl⟩ := hrel
    by_cases hlt : i < n
    · have i1 : (0 : Int) ≤ (i : Int) := by omega
      have i2 : (i : Int) < (n : Int) := by omega
      have hil : i < l.length := by have := HNL.out; omega
      obtain ⟨ad, B, d, rfl, -, c0, -⟩ := HA.out.row hil
      replace c0 := HX2.out.cell c0
      obtain ⟨nx, hnx⟩ : ∃ q, q = (l[i]'hil).length := ⟨_, rfl⟩
      rw [← hnx] at c0
      have HNX := Lib.hid hnx
      clear hnx
      by_cases h8 : (8 : Int) < (nx : Int)
      · go_wp2_with fail
        refine (awake_true _).mono ?_
        rintro e w3 ⟨x, rfl, he3, rfl⟩
        have HF := Lib.hid (HX2.out.trans he3)
        clear he3
        go_wp2_with fail
        go_ret
        exact Ret.mk HF.out rfl
      · have HJ2 : Hid (∀ (j : Nat) (h : j < l.length), j < i + 1 → (l[j]'h).length ≤ 8) := Lib.hid (fun j h hj => by
          rcases Nat.lt_or_ge j i with h1 | h1
          · exact HJ.out j h h1
          · obtain rfl : j = i := by omega
            have := HNX.out
            omega)
        go_wp2_with fail
        go_roundw
        case rel => exact ⟨i + 1, by omega, by go_num, HJ2, by trivial⟩
        case measure => simp [intOf]; omega
    · obtain rfl : i = n := by omega
      have hdi : ¬ (i : Int) < (i : Int) := by omega
      have HR8 : Hid (∀ x ∈ l, x.length ≤ 8) := Lib.hid (fun x hx => by
        obtain ⟨j, hj, rfl⟩ := List.getElem_of_mem hx
        exact HJ.out j hj (by have := HNL.out; omega))
      clear HJ
      have hpc : i ≤ 1048576 := by omega
      go_wp2_with fail
      refine (R.ofrows_any (HA.out.ext HX2.out) (fun x hx => Nat.le_trans (HR8.out x hx) (by omega)) hpc).mono ?_
      rintro e w3 ⟨he3, v, rs, rfl, ⟨AR, cR, rfl, hsl⟩, hrn, hr0, hrm⟩
      have HX3 := Lib.hid (HX2.out.trans he3); have HK3 := Lib.hid (HK2.out.ext he3); have HS3 := Lib.hid (HS2.out.ext he3)
      have HSL := Lib.hid hsl
      obtain ⟨nr, hnr⟩ : ∃ q, q = rs.length := ⟨_, rfl⟩
      rw [← hnr] at hrn hr0 ⊢
      have HNR := Lib.hid hnr
      have HR0 : Hid (nr = 0 ↔ i = 0) := Lib.hid ⟨fun h => by
        rcases Nat.eq_zero_or_pos i with h2 | h2
        · exact h2
        · have := hr0 h2; omega, fun h => by omega⟩
      have HRL : Hid (∀ x ∈ rs, x.length ≤ 1048576) := Lib.hid (fun x hx => Nat.le_trans (HR8.out x (hrm x hx)) (by omega))
      clear he3 hsl hnr hr0 hrm
      go_upto_region 10 with fail
      have hx4 : Ext w3 (w3.alloc (.cells #[.slice AR nr cR, .slice none 0 0] 32)) := (Ext.refl w3).alloc _
      have k9 := Bk.new w3 32 [.slice AR nr cR, .slice none 0 0]
      change Bk (w3.alloc (.cells #[.slice AR nr cR, .slice none 0 0] 32)) _ _ _ at k9
      generalize (w3.alloc (.cells #[.slice AR nr cR, .slice none 0 0] 32)) = w4 at *
      have HX4 := Lib.hid (HX3.out.trans hx4); have HK4 := Lib.hid (HK3.out.ext hx4); have HS4 := Lib.hid (HS3.out.ext hx4); have HSL4 := Lib.hid (R.Sl.ext HSL.out hx4); have HK9 := Lib.hid k9
      have hw34 : w3.heap.size < w4.heap.size := k9.lt
      have hw13 : w.heap.size < w3.heap.size := by have h1 := HK0.out.lt; have h2 := HX3.out.size; have h3 := HK3.out.lt; omega
      have HAR : Hid (∀ V : World, Ext w4 V → R.ArV (fun q => w2.heap.size ≤ q) V (.agg #[.slice AR nr cR, .slice none 0 0]) rs) := Lib.hid (fun V hV => ⟨AR, cR, by rw [HNR.out], R.Sl.ext HSL4.out hV⟩)
      have d0 := HK4.out.cell (i := 0) (by simp); have d1 := HK4.out.cell (i := 1) (by simp)
      have q0 := k9.cell (i := 0) (by simp); have q1 := k9.cell (i := 1) (by simp)
      simp only [List.getElem_cons_zero, List.getElem_cons_succ] at d0 d1 q0 q1
      obtain ⟨uo, huo⟩ : ∃ uo, uo = unifOut bs nr p := ⟨_, rfl⟩
      have HUO := Lib.hid huo
      have HROW := Lib.hid (srow_any (t := .agg #[.slice A bs.length c, .int .i64 (p : Int)]) (HAR.out _ (Ext.refl _)) (by have := HNR.out; omega) HRL.out ⟨_, rfl, HS4.out⟩ hp)
      rw [← HNR.out, ← huo] at HROW
      clear hx4 k9 huo
      go_wp2_with fail
      refine HROW.out.mono ?_
      rintro e w5 ⟨he5, Ar, cr, At, ct, y, rfl, hby5, hsy5, hy5⟩
      have HX5 := Lib.hid he5
      replace d0 := he5.cell d0; replace d1 := he5.cell d1; replace q0 := he5.cell q0; replace q1 := he5.cell q1
      have HBY5 := Lib.hid hby5; have HSY5 := Lib.hid hsy5; have HY5 := Lib.hid hy5
      clear he5 hby5 hsy5 hy5
      go_upto_region 11 with fail
      have hx6 : Ext w5 (w5.alloc (.cells #[.slice At uo.2.1.length ct, .int .i64 (uo.2.2.1 : Int)] 25)) := (Ext.refl w5).alloc _
      have k11 := Bk.new w5 25 [.slice At uo.2.1.length ct, .int .i64 (uo.2.2.1 : Int)]
      change Bk (w5.alloc (.cells #[.slice At uo.2.1.length ct, .int .i64 (uo.2.2.1 : Int)] 25)) _ _ _ at k11
      generalize (w5.alloc (.cells #[.slice At uo.2.1.length ct, .int .i64 (uo.2.2.1 : Int)] 25)) = w6 at *
      have HX6 := Lib.hid (HX5.out.trans hx6); have HK11 := Lib.hid k11; have HSY6 := Lib.hid (R.Sl.ext HSY5.out hx6); have HBY6 := Lib.hid (HBY5.out.ext hx6)
      have hw56 : w5.heap.size < w6.heap.size := k11.lt
      have hw45 : w4.heap.size ≤ w5.heap.size := HX5.out.size
      replace d0 := hx6.cell d0; replace d1 := hx6.cell d1; replace q0 := hx6.cell q0; replace q1 := hx6.cell q1
      have HSW : Hid (∀ V : World, Ext w6 V → By V (.slice A bs.length c) bs) := Lib.hid (fun V hV => HS4.out.ext (HX6.out.trans hV))
      have HLN := Lib.hid (fun (V : World) (hV : Ext w6 V) => len_o (HAR.out V (HX6.out.trans hV)) (by have := HNR.out; omega))
      have HU := Lib.hid (fun (V : World) (u t : Value) (h1 : Nz V u nr) (h2 : Tp V t bs (p : Nat)) => (Uniform_out h1.nv (dig_small (by omega)) h2 hp))
      rw [← HUO.out] at HU
      rw [← HNR.out] at HLN
      clear hx6 k11
      go_cut [13, 14, 15] (fun sa sb sc wx => ∃ (g : Nat) (A' : Option Addr) (c' : Nat), w6.heap.size ≤ g ∧ sb = .pointer (some ⟨g, 0, none⟩) ∧ sc = .int .i64 (uo.2.2.2 : Int) ∧ Bk wx g 25 [.slice A' uo.2.1.length c', .int .i64 (uo.2.2.1 : Int)] ∧ By wx (.slice A' uo.2.1.length c') uo.2.1 ∧ Nz wx sa uo.1 ∧ Ext w6 wx)
      case first => as_aux_lemma =>
        go_region_held3 (fun V => Ext w6 V ∧ V.cell? ⟨w.heap.size, 0, none⟩ = some (.slice A bs.length c) ∧ V.cell? ⟨w.heap.size, 1, none⟩ = some (.int .i64 (p : Int)) ∧ V.cell? ⟨w3.heap.size, 0, none⟩ = some (.slice AR nr cR) ∧ V.cell? ⟨w3.heap.size, 1, none⟩ = some (.slice none 0 0))
          ((refine (fun he => ⟨he, Ext.cell he d0, Ext.cell he d1, Ext.cell he q0, Ext.cell he q1⟩) ?_; repeat (first | exact Ext.refl _ | exact (Ext.refl _).drew | refine Ext.alloc ?_ _ | refine Ext.drew ?_ | refine Ext.setCell ?_ (by first | exact Nat.le_refl _ | (have := Ext.size hea; simp at this ⊢; omega)) _ | refine Ext.trans ?_ (by assumption))))
          (first
            | (go_at_call 10; refine (HLN.out _ (And.left (by assumption))).mono ?_; rintro e wa ⟨o, rfl, hea, hoa⟩)
            | (go_at_call 9; refine (HU.out _ _ _ ?_ ?_).mono ?_; (first | exact hoa | exact hoa.ext ((Ext.refl _).alloc _)); exact ⟨_, rfl, HSW.out _ (And.left (by assumption))⟩; rintro e wb ⟨heb, v, A', c', rfl, hv, hs'⟩
               first
                 | (have nb : Bk wb w6.heap.size 25 [.slice none 0 0, .int .i64 0] := (Bk.new w6.drew 25 [.slice none 0 0, .int .i64 0]).ext (Ext.trans hea heb); have g0 := nb.cell (i := 0) (by simp); have g1 := nb.cell (i := 1) (by simp); have f0 := nb.free 0; have f1 := nb.free 1)
                 | (have nb : Bk wb wa.heap.size 25 [.slice none 0 0, .int .i64 0] := (Bk.new wa 25 [.slice none 0 0, .int .i64 0]).ext heb; have g0 := nb.cell (i := 0) (by simp); have g1 := nb.cell (i := 1) (by simp); have f0 := nb.free 0; have f1 := nb.free 1)
                 | skip))
        all_goals
          have hfin := And.left (b := _ ∧ _) (by assumption)
          go_wp2_with fail
          go_meet
          first
            | exact ⟨wb.heap.size, A', c', Ext.size (Ext.trans ((Ext.refl _).drew.trans hea) heb), rfl, rfl, Bk.new wb _ [_, _], hs'.ext ((Ext.refl _).alloc _), hv.ext ((Ext.refl _).alloc _), hfin⟩
            | exact ⟨_, A', c', Nat.le_refl _, rfl, rfl, (nb.set 0 _).set 1 _, hs'.mod nb (by simp [U8]) (stored2 _ _ _ _), Dg.mod hv nb (by simp [U32]) (stored2 _ _ _ _), hfin⟩
            | exact ⟨_, A', c', Ext.size ((Ext.refl _).drew.trans hea), rfl, rfl, (nb.set 0 _).set 1 _, hs'.mod nb (by simp [U8]) (stored2 _ _ _ _), Dg.mod hv nb (by simp [U32]) (stored2 _ _ _ _), hfin⟩
      case rest =>
        obtain ⟨g, A', c', hg, rfl, rfl, hb, hby, hz, he⟩ := hcut
        have HXC := Lib.hid (HX6.out.trans he); have HXE := Lib.hid he
        replace d0 := he.cell d0; replace d1 := he.cell d1; replace q0 := he.cell q0; replace q1 := he.cell q1
        have HB := Lib.hid hb; have HBY := Lib.hid hby; have HZ := Lib.hid hz
        have HKC := Lib.hid (HK11.out.ext he); have HBYC := Lib.hid (HBY6.out.ext he); have HSYC := Lib.hid (R.Sl.ext HSY6.out he)
        have hwc : w6.heap.size ≤ wc.heap.size := he.size
        clear hb hby hz he HROW HLN HU HSW HK11 HBY6 HSY6 HBY5 HSY5 HSL HSL4
        have hcs := unif_cases bs nr p
        rw [← HUO.out] at hcs
        have HCS := Lib.hid hcs
        clear hcs HUO
        rcases HCS.out with ⟨hn0, huo⟩ | ⟨hn0, huo⟩ | ⟨x, px, hxn, hpp, huo⟩
        · have hi0 := HR0.out.1 hn0
          subst huo
          subst hi0
          subst hn0
          have HAT := Lib.hid (at_no (k := 0) (HAR.out _ HXC.out) (by have := HNR.out; omega) HRL.out HZ.out.nv (by have := HNR.out; omega) (by omega))
          have hr1 : rowErr 18 = 10 := rfl
          simp only [List.length_nil, hr1]
          clear hr1
          have u0 := HKC.out.cell (i := 0) (by simp); have u1 := HKC.out.cell (i := 1) (by simp)
          simp only [List.getElem_cons_zero, List.getElem_cons_succ, List.length_nil] at u0 u1
          rw [show ((0 : Nat) : Int) = 0 from rfl] at u1
          have HBN : Hid (By wc (.slice At 0 ct) []) := HBYC
          go_wp2_with fail
          (with_reducible refine HAT.out.mono ?_)
          rintro e w7 ⟨rfl, he7⟩
          replace u0 := he7.cell u0; replace u1 := he7.cell u1
          have HX7 := Lib.hid he7
          clear he7
          go_wp2_with fail
          have HTP : Hid (Tp w7 (.agg #[.slice At 0 ct, .int .i64 0]) [] 0) := Lib.hid ⟨_, rfl, HBN.out.ext HX7.out⟩
          (with_reducible refine (zero_tp HTP.out).mono ?_)
          rintro e w8 ⟨z, rfl, he8, rfl⟩
          have HX8 := Lib.hid (HX7.out.trans he8)
          clear he8 u0 u1
          rw [show zeroB ([] : List Nat).length 0 = true from rfl]
          go_upto_region 21 with fail
          as_aux_lemma =>
            have HXZ := Lib.hid (HXC.out.trans HX8.out)
            replace d0 := HX8.out.cell d0; replace d1 := HX8.out.cell d1; replace q0 := HX8.out.cell q0; replace q1 := HX8.out.cell q1
            have HKZ := Lib.hid (HKC.out.ext HX8.out)
            have hw8 : wc.heap.size ≤ w8.heap.size := HX8.out.size
            obtain ⟨dz, hdz⟩ : ∃ o, o = distOut bs 0 m p := ⟨_, rfl⟩
            have HDZ := Lib.hid hdz
            have HROWS := Lib.hid (srows_any (m := m) (t := .agg #[.slice A bs.length c, .int .i64 (p : Int)]) (HAR.out _ HXZ.out) (by have := HNR.out; omega) hm HRL.out ⟨_, rfl, HS4.out.ext HXZ.out⟩ hp)
            rw [← HNR.out, ← hdz] at HROWS
            clear hdz
            go_wp2_with fail
            (with_reducible refine HROWS.out.mono ?_)
            rintro e w9 ⟨he9, Ar2, cr2, At2, ct2, ys, rfl, hby9, hsy9, hys9⟩
            have HX9 := Lib.hid (HXZ.out.trans he9)
            replace d0 := he9.cell d0; replace d1 := he9.cell d1; replace q0 := he9.cell q0; replace q1 := he9.cell q1
            have HBY9 := Lib.hid hby9; have HSY9 := Lib.hid hsy9; have HYS := Lib.hid hys9; have HK9' := Lib.hid (HKZ.out.ext he9)
            have hw9 : w8.heap.size ≤ w9.heap.size := he9.size
            clear he9 hby9 hsy9 hys9
            go_upto_region 22 with fail
            have hx10 : Ext w9 (w9.alloc (.cells #[.slice At2 dz.2.1.length ct2, .int .i64 (dz.2.2.1 : Int)] 25)) := (Ext.refl w9).alloc _
            have k20 := Bk.new w9 25 [.slice At2 dz.2.1.length ct2, .int .i64 (dz.2.2.1 : Int)]
            change Bk (w9.alloc (.cells #[.slice At2 dz.2.1.length ct2, .int .i64 (dz.2.2.1 : Int)] 25)) _ _ _ at k20
            generalize (w9.alloc (.cells #[.slice At2 dz.2.1.length ct2, .int .i64 (dz.2.2.1 : Int)] 25)) = w10 at *
            have HX10 := Lib.hid (HX9.out.trans hx10); have HK20 := Lib.hid k20; have HSY10 := Lib.hid (R.Sl.ext HSY9.out hx10); have HBY10 := Lib.hid (HBY9.out.ext hx10); have HK10 := Lib.hid (HK9'.out.ext hx10)
            have hw10 : w9.heap.size < w10.heap.size := k20.lt
            replace d0 := hx10.cell d0; replace d1 := hx10.cell d1; replace q0 := hx10.cell q0; replace q1 := hx10.cell q1
            have HSW := Lib.hid (fun (V : World) (hV : Ext w10 V) => HS4.out.ext (HX10.out.trans hV))
            have HLN := Lib.hid (fun (V : World) (hV : Ext w10 V) => len_o (HAR.out V (HX10.out.trans hV)) (by have := HNR.out; omega))
            have HU := Lib.hid (fun (V : World) (u t : Value) (h1 : Nz V u 0) (h2 : Tp V t bs (p : Nat)) => (Distinct_out (m := m) h1.nv (by omega) hm h2 hp))
            rw [← HDZ.out] at HU
            rw [← HNR.out] at HLN
            clear hx10 k20 HBY9 HSY9 HK9' HKZ HROWS
            go_cut [22, 23, 24] (fun sa sb sc wx => ∃ (g2 : Nat) (B : Option Addr) (d : Nat) (A2 : Option Addr) (c2 : Nat), w10.heap.size ≤ g2 ∧ sa = .slice B dz.1.length d ∧ sb = .pointer (some ⟨g2, 0, none⟩) ∧ sc = .int .i64 (dz.2.2.2 : Int) ∧ Bk wx g2 25 [.slice A2 dz.2.1.length c2, .int .i64 (dz.2.2.1 : Int)] ∧ By wx (.slice A2 dz.2.1.length c2) dz.2.1 ∧ Ns wx B dz.1.length (fun i => dz.1.getD i 0) ∧ Ext w10 wx)
            case first => as_aux_lemma =>
              go_region_held3 (fun V => Ext w10 V ∧ V.cell? ⟨w.heap.size, 0, none⟩ = some (.slice A bs.length c) ∧ V.cell? ⟨w.heap.size, 1, none⟩ = some (.int .i64 (p : Int)) ∧ V.cell? ⟨w3.heap.size, 0, none⟩ = some (.slice AR 0 cR) ∧ V.cell? ⟨w3.heap.size, 1, none⟩ = some (.slice none 0 0))
                ((refine (fun he => ⟨he, Ext.cell he d0, Ext.cell he d1, Ext.cell he q0, Ext.cell he q1⟩) ?_; repeat (first | exact Ext.refl _ | exact (Ext.refl _).drew | refine Ext.alloc ?_ _ | refine Ext.drew ?_ | refine Ext.setCell ?_ (by first | exact Nat.le_refl _ | (have := Ext.size hea; simp at this ⊢; omega)) _ | refine Ext.trans ?_ (by assumption))))
                (first
                  | (go_at_call 10; refine (HLN.out _ (And.left (by assumption))).mono ?_; rintro e wa ⟨o, rfl, hea, hoa⟩)
                  | (go_at_call 16; refine (HU.out _ _ _ ?_ ?_).mono ?_; (first | exact hoa | exact hoa.ext ((Ext.refl _).alloc _)); exact ⟨_, rfl, HSW.out _ (And.left (by assumption))⟩; rintro e wb ⟨heb, B, d, A2, c2, rfl, hv, hs', hbl⟩; have HBL := Lib.hid hbl; clear hbl
                     first
                       | (have nb : Bk wb w10.heap.size 25 [.slice none 0 0, .int .i64 0] := (Bk.new w10.drew 25 [.slice none 0 0, .int .i64 0]).ext (Ext.trans hea heb); have g0 := nb.cell (i := 0) (by simp); have g1 := nb.cell (i := 1) (by simp); have f0 := nb.free 0; have f1 := nb.free 1)
                       | (have nb : Bk wb wa.heap.size 25 [.slice none 0 0, .int .i64 0] := (Bk.new wa 25 [.slice none 0 0, .int .i64 0]).ext heb; have g0 := nb.cell (i := 0) (by simp); have g1 := nb.cell (i := 1) (by simp); have f0 := nb.free 0; have f1 := nb.free 1)
                       | skip))
              all_goals
                have hfin := And.left (b := _ ∧ _) (by assumption)
                go_wp2_with fail
                go_meet
                first
                  | exact ⟨wb.heap.size, B, d, A2, c2, Ext.size (Ext.trans ((Ext.refl _).drew.trans hea) heb), rfl, rfl, rfl, Bk.new wb _ [_, _], hs'.ext ((Ext.refl _).alloc _), hv.ext ((Ext.refl _).alloc _), hfin⟩
                  | exact ⟨_, B, d, A2, c2, Nat.le_refl _, rfl, rfl, rfl, (nb.set 0 _).set 1 _, hs'.mod nb (by simp [U8]) (stored2 _ _ _ _), Ns.far hv nb (by simp [U32]) (stored2 _ _ _ _) (fun ad h => by first | (have := HBL.out ad h; simp at this; omega) | (have := HBL.out ad h; have h2 := Ext.size hea; simp at h2; omega)), hfin⟩
                  | exact ⟨_, B, d, A2, c2, Ext.size ((Ext.refl _).drew.trans hea), rfl, rfl, rfl, (nb.set 0 _).set 1 _, hs'.mod nb (by simp [U8]) (stored2 _ _ _ _), Ns.far hv nb (by simp [U32]) (stored2 _ _ _ _) (fun ad h => by first | (have := HBL.out ad h; simp at this; omega) | (have := HBL.out ad h; have h2 := Ext.size hea; simp at h2; omega)), hfin⟩
            case rest =>
              obtain ⟨g2, B, d, A2, c2, hg2, rfl, rfl, rfl, hb, hby, hz, he⟩ := hcut
              obtain ⟨w11, rfl⟩ : ∃ V : World, V = wc := ⟨_, rfl⟩
              have HX11 := Lib.hid (HX10.out.trans he)
              replace d0 := he.cell d0; replace d1 := he.cell d1; replace q0 := he.cell q0; replace q1 := he.cell q1
              have HB2 := Lib.hid hb; have HBY2 := Lib.hid hby; have HZ2 := Lib.hid hz; have HK11a := Lib.hid (HK10.out.ext he); have HK20a := Lib.hid (HK20.out.ext he); have HSY11 := Lib.hid (R.Sl.ext HSY10.out he); have HBY11 := Lib.hid (HBY10.out.ext he)
              have hw11 : w10.heap.size ≤ w11.heap.size := he.size
              have u0 := HK20a.out.cell (i := 0) (by simp); have u1 := HK20a.out.cell (i := 1) (by simp)
              have v0 := hb.cell (i := 0) (by simp); have v1 := hb.cell (i := 1) (by simp)
              simp only [List.getElem_cons_zero, List.getElem_cons_succ] at u0 u1 v0 v1
              have HDL : Hid (∀ (j : Nat) (h : j < dz.1.length), dz.1.getD j 0 < rs.length ∧ dz.1.getD j 0 < 256) := Lib.hid (fun j h => by
                have h1 := HDZ.out
                rcases dist_cases bs 0 m p with h2 | h2 | ⟨l2, p2, h2, -, -, h3⟩
                · rw [h1, h2] at h; simp at h
                · rw [h1, h2] at h; simp at h
                · rw [h1, h3] at h
                  rw [h1, h3]
                  have h6 : j < l2.length := h
                  have h4 := h2 _ (List.getElem_mem h6)
                  have h5 := HNR.out
                  have e6 : l2.getD j 0 = l2[j] := by simp only [List.getD, List.getElem?_eq_getElem h6, Option.getD_some]
                  show l2.getD j 0 < rs.length ∧ l2.getD j 0 < 256
                  rw [e6]
                  omega)
              clear hb hby hz he HK10 HK20 HSY10 HBY10 HLN HU HSW
              obtain ⟨dl, db, dp, de⟩ := dz
              simp only at u0 u1 v0 v1 ⊢
              obtain ⟨nq, hnq⟩ : ∃ q, q = dl.length := ⟨_, rfl⟩
              have HNQ2 := Lib.hid hnq
              simp only [← hnq]
              clear hnq
              have hq255 : Hid (nq ≤ 255) := Lib.hid (by
                have h1 := HDZ.out
                rcases dist_cases bs 0 m p with h2 | h2 | ⟨l2, p2, -, -, h2, h3⟩
                · rw [h2] at h1; injection h1 with h1; have := HNQ2.out; rw [h1] at this; simp at this; omega
                · rw [h2] at h1; injection h1 with h1; have := HNQ2.out; rw [h1] at this; simp at this; omega
                · rw [h3] at h1; injection h1 with h1; have := HNQ2.out; rw [h1] at this; omega)
              have hqb := hq255.out
              have HTP1 : Hid (Tp w11 (.agg #[.slice At2 db.length ct2, .int .i64 (dp : Int)]) db (dp : Int)) := Lib.hid ⟨_, rfl, HBY11.out⟩
              have HTP2 : Hid (Tp w11 (.agg #[.slice A2 db.length c2, .int .i64 (dp : Int)]) db (dp : Int)) := Lib.hid ⟨_, rfl, HBY2.out⟩
              have HIS := Lib.hid (is_tp (r := (dp : Int)) HTP1.out HTP2.out)
              go_wp2_with fail
              (with_reducible refine HIS.out.mono ?_)
              rintro e w12 ⟨z12, rfl, he12, rfl⟩
              have HX12 := Lib.hid he12
              replace d0 := he12.cell d0; replace d1 := he12.cell d1; replace q0 := he12.cell q0; replace q1 := he12.cell q1
              have hw12 : w11.heap.size ≤ w12.heap.size := he12.size
              clear he12 u0 u1 v0 v1 HTP1 HTP2 HIS
              simp only [decide_true, Bool.and_self]
              go_wp2_with fail
              go_loopw [155] (fun t wr => ∃ j : Nat, j ≤ nq ∧ t = .int .i64 (j : Int) ∧ Ext w12 wr) (fun t _ => nq - (intOf t).toNat)
              case atStart => exact ⟨0, Nat.zero_le _, rfl, Ext.refl _⟩
              case round =>
                obtain ⟨j, hj, rfl, hxj⟩ := hrel
                obtain ⟨W, rfl⟩ : ∃ W : World, W = wr := ⟨_, rfl⟩
                have HXJ := Lib.hid (HX12.out.trans hxj)
                have HXJ2 := Lib.hid hxj
                have hwW : w12.heap.size ≤ W.heap.size := hxj.size
                replace d0 := hxj.cell d0; replace d1 := hxj.cell d1; replace q0 := hxj.cell q0; replace q1 := hxj.cell q1
                by_cases hltj : j < nq
                · have j1 : (0 : Int) ≤ (j : Int) := by omega
                  have j2 : (j : Int) < (nq : Int) := by omega
                  have hjl : j < dl.length := by have := HNQ2.out; omega
                  obtain ⟨adB, B1, kk, dk, rfl, c0', hnz⟩ := HZ2.out j hjl
                  replace c0' := HXJ.out.cell c0'
                  have hlx := HDL.out j hjl
                  (try simp only at hlx)
                  have HAT2 := Lib.hid (fun (V : World) (hV : Ext W V) => at_yes (HAR.out _ (HX11.out.trans (HXJ.out.trans hV))) (by have := HNR.out; omega) HRL.out (hnz.ext (HXJ.out.trans hV)).nv hlx.1)
                  have hyj : j < ys.length := by rw [HYS.out, List.length_map]; exact hjl
                  have hye : ys[j]'hyj = rs[dl.getD j 0]'hlx.1 := by
                    have h1 : ys[j]? = some (rs[dl.getD j 0]'hlx.1) := by
                      rw [HYS.out, List.getElem?_map, List.getElem?_eq_getElem hjl]
                      simp only [Option.map_some]
                      have e1 : dl.getD j 0 = dl[j] := by simp only [List.getD, List.getElem?_eq_getElem hjl, Option.getD_some]
                      rw [← e1, List.getD_eq_getElem?_getD (l := rs), List.getElem?_eq_getElem hlx.1]
                      rfl
                    rw [List.getElem?_eq_getElem hyj] at h1
                    injection h1
                  obtain ⟨adY, BY, dY, hAY, -, c1', hrow⟩ := R.Sl.row HSY11.out hyj
                  subst hAY
                  have HRLX := Lib.hid (HRL.out _ (List.getElem_mem hlx.1))
                  rw [hye] at c1' hrow
                  obtain ⟨y2, hy2⟩ : ∃ y2, y2 = rs[dl.getD j 0]'hlx.1 := ⟨_, rfl⟩
                  rw [← hy2] at c1' hrow HAT2 HRLX
                  obtain ⟨ny2, hny2⟩ : ∃ q, q = y2.length := ⟨_, rfl⟩
                  rw [← hny2] at c1' HAT2 HRLX hrow
                  have HNY2 := Lib.hid hny2
                  replace c1' := HXJ.out.cell c1'
                  have HROW2 := Lib.hid (R.Sl.ext hrow HXJ.out)
                  clear hnz hlx hyj hye hy2 hny2 hrow hxj
                  go_upto_region 28 with fail
                  go_region_held3 (fun V => Ext W V ∧ V.cell? (adB.add j) = some (.slice B1 kk dk) ∧ V.cell? ⟨w3.heap.size, 0, none⟩ = some (.slice AR 0 cR) ∧ V.cell? ⟨w3.heap.size, 1, none⟩ = some (.slice none 0 0))
                    ((refine (fun he => ⟨he, Ext.cell he c0', Ext.cell he q0, Ext.cell he q1⟩) ?_; repeat (first | exact Ext.refl _ | exact (Ext.refl _).drew | refine Ext.drew ?_ | refine Ext.trans ?_ (by assumption))))
                    (first
                      | (go_at_call 11; (with_reducible refine (HAT2.out _ (And.left (by assumption))).mono ?_); rintro e wi ⟨A3, c3, rfl, hs3, hei⟩))
                  have hfin : Ext W wi := Ext.trans (Ext.refl W).drew hei
                  obtain ⟨X, rfl⟩ : ∃ X : World, X = wi := ⟨_, rfl⟩
                  have HXX := Lib.hid hfin
                  have HEQ2 := Lib.hid (R.requal_any (w := X) (R.Sl.ext HROW2.out hfin) hs3 HRLX.out HRLX.out)
                  rw [R.cmp_row.self] at HEQ2
                  replace c1' := hfin.cell c1'
                  clear hfin hei hs3 c0' d0 d1 q0 q1
                  go_wp2_with fail
                  (with_reducible refine HEQ2.out.mono ?_)
                  rintro e w13 ⟨rfl, hg13⟩
                  have HX13 := Lib.hid (HXJ2.out.trans (HXX.out.trans hg13.ext))
                  clear hg13 c1'
                  go_wp2_with fail
                  go_roundw
                  case rel => exact ⟨j + 1, by omega, by go_num, HX13.out⟩
                  case measure => simp [intOf]; omega
                · obtain rfl : j = nq := by omega
                  have hdj : ¬ (j : Int) < (j : Int) := by omega
                  have HKW := Lib.hid (HK11a.out.ext HXJ.out); have HK20W := Lib.hid (HK20a.out.ext HXJ.out)
                  have HSN := Lib.hid (fun (V : World) (hV : Ext W V) => srow_nil (w := V) (t := .agg #[.slice A bs.length c, .int .i64 (p : Int)]) (pos := (p : Int)) ⟨_, rfl, HS4.out.ext (HX11.out.trans (HXJ.out.trans hV))⟩)
                  clear hxj q0 q1
                  go_wp2_with fail
                  (with_reducible refine (HSN.out _ (Ext.refl W)).mono ?_)
                  rintro e w14 ⟨rfl, he14⟩
                  have hk14 := HKW.out.ext he14
                  have HK20X := Lib.hid (HK20W.out.ext he14)
                  replace d0 := he14.cell d0; replace d1 := he14.cell d1
                  have HX14 := Lib.hid ((HX4.out.trans HX11.out).trans (HXJ.out.trans he14))
                  have u0 := hk14.cell (i := 0) (by simp); have u1 := hk14.cell (i := 1) (by simp); have f0 := hk14.free 0; have f1 := hk14.free 1
                  simp only [List.getElem_cons_zero, List.getElem_cons_succ] at u0 u1
                  have HSB := HS4.out.ext ((HX11.out.trans (HXJ.out.trans he14)))
                  have hst : R.Fr (fun k => k = w5.heap.size) w14 ((w14.setCell ⟨w5.heap.size, 0, none⟩ (.slice none 0 0)).setCell ⟨w5.heap.size, 1, none⟩ (.int .i64 0)) := ((R.Fr.refl (fun k => k = w5.heap.size) w14).setCell (p := ⟨w5.heap.size, 0, none⟩) (.inl rfl) _).setCell (p := ⟨w5.heap.size, 1, none⟩) (.inl rfl) _
                  have HK15 := Lib.hid ((hk14.set 0 (.slice none 0 0)).set 1 (.int .i64 0))
                  have HSB15 := Lib.hid (HSB.mod hk14 (by simp [U8]) (stored2 w14 w5.heap.size (.slice none 0 0) (.int .i64 0)))
                  have HK20Y := Lib.hid (R.Bk.fr HK20X.out hst (by omega))
                  have d0' := R.Fr.cell hst d0 (by show ¬ w.heap.size = w5.heap.size; omega); have d1' := R.Fr.cell hst d1 (by show ¬ w.heap.size = w5.heap.size; omega)
                  have HX15 : Hid (Ext w ((w14.setCell ⟨w5.heap.size, 0, none⟩ (.slice none 0 0)).setCell ⟨w5.heap.size, 1, none⟩ (.int .i64 0))) := Lib.hid ((HX14.out.setCell (p := ⟨w5.heap.size, 0, none⟩) (by show w.heap.size ≤ w5.heap.size; omega) _).setCell (p := ⟨w5.heap.size, 1, none⟩) (by show w.heap.size ≤ w5.heap.size; omega) _)
                  clear hst HSB he14 d0 d1
                  go_upto_region 33 with fail
                  generalize ((w14.setCell ⟨w5.heap.size, 0, none⟩ (.slice none 0 0)).setCell ⟨w5.heap.size, 1, none⟩ (.int .i64 0)) = w15 at *
                  clear hk14 u0 u1 f0 f1
                  have HTN : Hid (Tp w15 (.agg #[.slice A bs.length c, .int .i64 (p : Int)]) bs (p : Int)) := Lib.hid ⟨_, rfl, HSB15.out⟩
                  go_wp2_with fail
                  (with_reducible refine (srows_nil HTN.out).mono ?_)
                  rintro e w16 ⟨rfl, he16⟩
                  have hk16 := HK20Y.out.ext he16
                  have HK16 := Lib.hid (HK15.out.ext he16)
                  have HX16 := Lib.hid (HX15.out.trans he16)
                  have u0 := hk16.cell (i := 0) (by simp); have u1 := hk16.cell (i := 1) (by simp); have f0 := hk16.free 0; have f1 := hk16.free 1
                  simp only [List.getElem_cons_zero, List.getElem_cons_succ] at u0 u1
                  have hst : R.Fr (fun k => k = w9.heap.size) w16 ((w16.setCell ⟨w9.heap.size, 0, none⟩ (.slice none 0 0)).setCell ⟨w9.heap.size, 1, none⟩ (.int .i64 0)) := ((R.Fr.refl (fun k => k = w9.heap.size) w16).setCell (p := ⟨w9.heap.size, 0, none⟩) (.inl rfl) _).setCell (p := ⟨w9.heap.size, 1, none⟩) (.inl rfl) _
                  have HK17 := Lib.hid ((hk16.set 0 (.slice none 0 0)).set 1 (.int .i64 0))
                  have HK18 := Lib.hid (R.Bk.fr HK16.out hst (by show ¬ w5.heap.size = w9.heap.size; omega))
                  have HX17 : Hid (Ext w ((w16.setCell ⟨w9.heap.size, 0, none⟩ (.slice none 0 0)).setCell ⟨w9.heap.size, 1, none⟩ (.int .i64 0))) := Lib.hid ((HX16.out.setCell (p := ⟨w9.heap.size, 0, none⟩) (by show w.heap.size ≤ w9.heap.size; omega) _).setCell (p := ⟨w9.heap.size, 1, none⟩) (by show w.heap.size ≤ w9.heap.size; omega) _)
                  clear hst he16 d0' d1'
                  go_upto_region 34 with fail
                  generalize ((w16.setCell ⟨w9.heap.size, 0, none⟩ (.slice none 0 0)).setCell ⟨w9.heap.size, 1, none⟩ (.int .i64 0)) = w17 at *
                  clear hk16 u0 u1 f0 f1
                  have u0 := R.Bk.cell HK17.out (i := 0) (by simp); have u1 := R.Bk.cell HK17.out (i := 1) (by simp)
                  have v0 := R.Bk.cell HK18.out (i := 0) (by simp); have v1 := R.Bk.cell HK18.out (i := 1) (by simp)
                  simp only [List.set_cons_zero, List.set_cons_succ, List.getElem_cons_zero, List.getElem_cons_succ] at u0 u1 v0 v1
                  have HTZ : Hid (∀ V : World, Tp V (.agg #[.slice none 0 0, .int .i64 0]) [] 0) := Lib.hid (fun V => ⟨_, rfl, By.nil V⟩)
                  go_wp2_with fail
                  (with_reducible refine (zero_tp (HTZ.out _)).mono ?_)
                  rintro e w18 ⟨z18, rfl, he18, rfl⟩
                  replace u0 := he18.cell u0; replace u1 := he18.cell u1
                  have HX18 := Lib.hid (HX17.out.trans he18)
                  clear he18 v0 v1
                  rw [show zeroB ([] : List Nat).length 0 = true from rfl]
                  go_wp2_with fail
                  (with_reducible refine (zero_tp (HTZ.out _)).mono ?_)
                  rintro e w19 ⟨z19, rfl, he19, rfl⟩
                  have HX19 := Lib.hid (HX18.out.trans he19)
                  clear he19 u0 u1
                  rw [show zeroB ([] : List Nat).length 0 = true from rfl]
                  go_wp2_with fail
                  (with_reducible refine (awake_true _).mono ?_)
                  rintro e w20 ⟨z20, rfl, he20, rfl⟩
                  have HX20 := Lib.hid (HX19.out.trans he20)
                  clear he20
                  go_wp2_with fail
                  go_ret
                  exact Ret.mk HX20.out rfl
        · subst huo
          have hri : ((i : Int) == 0) = false := by have := HR0.out; rw [beq_eq_false_iff_ne]; omega
          have hr1 : rowErr 36 = 36 := rfl
          have HAT := Lib.hid (at_yes (k := 0) (HAR.out _ HXC.out) (by have := HNR.out; omega) HRL.out HZ.out.nv (by have := HNR.out; omega))
          have hy0 : y = [] := by
            rcases HY5.out with ⟨h1, -⟩ | ⟨-, h2⟩
            · exact absurd h1 (by decide)
            · exact h2
          subst hy0
          simp only [List.length_nil, hr1]
          clear hr1
          have u0 := HKC.out.cell (i := 0) (by simp); have u1 := HKC.out.cell (i := 1) (by simp)
          simp only [List.getElem_cons_zero, List.getElem_cons_succ, List.length_nil] at u0 u1
          rw [show ((0 : Nat) : Int) = 0 from rfl] at u1
          have HBN : Hid (By wc (.slice At 0 ct) []) := HBYC
          go_wp2_with fail
          (with_reducible refine HAT.out.mono ?_)
          rintro e w7 ⟨A7, c7, rfl, -, he7⟩
          replace u0 := he7.cell u0; replace u1 := he7.cell u1
          have HX7 := Lib.hid he7
          clear he7
          go_wp2_with fail
          have HTP : Hid (Tp w7 (.agg #[.slice At 0 ct, .int .i64 0]) [] 0) := Lib.hid ⟨_, rfl, HBN.out.ext HX7.out⟩
          (with_reducible refine (zero_tp HTP.out).mono ?_)
          rintro e w8 ⟨z, rfl, he8, rfl⟩
          have HX8 := Lib.hid (HX7.out.trans he8)
          clear he8 u0 u1
          rw [show zeroB ([] : List Nat).length 0 = true from rfl]
          go_upto_region 21 with fail
          as_aux_lemma =>
            have HXZ := Lib.hid (HXC.out.trans HX8.out)
            replace d0 := HX8.out.cell d0; replace d1 := HX8.out.cell d1; replace q0 := HX8.out.cell q0; replace q1 := HX8.out.cell q1
            have HKZ := Lib.hid (HKC.out.ext HX8.out)
            have hw8 : wc.heap.size ≤ w8.heap.size := HX8.out.size
            obtain ⟨dz, hdz⟩ : ∃ o, o = distOut bs nr m p := ⟨_, rfl⟩
            have HDZ := Lib.hid hdz
            have HROWS := Lib.hid (srows_any (m := m) (t := .agg #[.slice A bs.length c, .int .i64 (p : Int)]) (HAR.out _ HXZ.out) (by have := HNR.out; omega) hm HRL.out ⟨_, rfl, HS4.out.ext HXZ.out⟩ hp)
            rw [← HNR.out, ← hdz] at HROWS
            clear hdz
            go_wp2_with fail
            (with_reducible refine HROWS.out.mono ?_)
            rintro e w9 ⟨he9, Ar2, cr2, At2, ct2, ys, rfl, hby9, hsy9, hys9⟩
            have HX9 := Lib.hid (HXZ.out.trans he9)
            replace d0 := he9.cell d0; replace d1 := he9.cell d1; replace q0 := he9.cell q0; replace q1 := he9.cell q1
            have HBY9 := Lib.hid hby9; have HSY9 := Lib.hid hsy9; have HYS := Lib.hid hys9; have HK9' := Lib.hid (HKZ.out.ext he9)
            have hw9 : w8.heap.size ≤ w9.heap.size := he9.size
            clear he9 hby9 hsy9 hys9
            go_upto_region 22 with fail
            have hx10 : Ext w9 (w9.alloc (.cells #[.slice At2 dz.2.1.length ct2, .int .i64 (dz.2.2.1 : Int)] 25)) := (Ext.refl w9).alloc _
            have k20 := Bk.new w9 25 [.slice At2 dz.2.1.length ct2, .int .i64 (dz.2.2.1 : Int)]
            change Bk (w9.alloc (.cells #[.slice At2 dz.2.1.length ct2, .int .i64 (dz.2.2.1 : Int)] 25)) _ _ _ at k20
            generalize (w9.alloc (.cells #[.slice At2 dz.2.1.length ct2, .int .i64 (dz.2.2.1 : Int)] 25)) = w10 at *
            have HX10 := Lib.hid (HX9.out.trans hx10); have HK20 := Lib.hid k20; have HSY10 := Lib.hid (R.Sl.ext HSY9.out hx10); have HBY10 := Lib.hid (HBY9.out.ext hx10); have HK10 := Lib.hid (HK9'.out.ext hx10)
            have hw10 : w9.heap.size < w10.heap.size := k20.lt
            replace d0 := hx10.cell d0; replace d1 := hx10.cell d1; replace q0 := hx10.cell q0; replace q1 := hx10.cell q1
            have HSW := Lib.hid (fun (V : World) (hV : Ext w10 V) => HS4.out.ext (HX10.out.trans hV))
            have HLN := Lib.hid (fun (V : World) (hV : Ext w10 V) => len_o (HAR.out V (HX10.out.trans hV)) (by have := HNR.out; omega))
            have HU := Lib.hid (fun (V : World) (u t : Value) (h1 : Nz V u nr) (h2 : Tp V t bs (p : Nat)) => (Distinct_out (m := m) h1.nv (by omega) hm h2 hp))
            rw [← HDZ.out] at HU
            rw [← HNR.out] at HLN
            clear hx10 k20 HBY9 HSY9 HK9' HKZ HROWS
            go_cut [22, 23, 24] (fun sa sb sc wx => ∃ (g2 : Nat) (B : Option Addr) (d : Nat) (A2 : Option Addr) (c2 : Nat), w10.heap.size ≤ g2 ∧ sa = .slice B dz.1.length d ∧ sb = .pointer (some ⟨g2, 0, none⟩) ∧ sc = .int .i64 (dz.2.2.2 : Int) ∧ Bk wx g2 25 [.slice A2 dz.2.1.length c2, .int .i64 (dz.2.2.1 : Int)] ∧ By wx (.slice A2 dz.2.1.length c2) dz.2.1 ∧ Ns wx B dz.1.length (fun i => dz.1.getD i 0) ∧ Ext w10 wx)
            case first => as_aux_lemma =>
              go_region_held3 (fun V => Ext w10 V ∧ V.cell? ⟨w.heap.size, 0, none⟩ = some (.slice A bs.length c) ∧ V.cell? ⟨w.heap.size, 1, none⟩ = some (.int .i64 (p : Int)) ∧ V.cell? ⟨w3.heap.size, 0, none⟩ = some (.slice AR nr cR) ∧ V.cell? ⟨w3.heap.size, 1, none⟩ = some (.slice none 0 0))
                ((refine (fun he => ⟨he, Ext.cell he d0, Ext.cell he d1, Ext.cell he q0, Ext.cell he q1⟩) ?_; repeat (first | exact Ext.refl _ | exact (Ext.refl _).drew | refine Ext.alloc ?_ _ | refine Ext.drew ?_ | refine Ext.setCell ?_ (by first | exact Nat.le_refl _ | (have := Ext.size hea; simp at this ⊢; omega)) _ | refine Ext.trans ?_ (by assumption))))
                (first
                  | (go_at_call 10; refine (HLN.out _ (And.left (by assumption))).mono ?_; rintro e wa ⟨o, rfl, hea, hoa⟩)
                  | (go_at_call 16; refine (HU.out _ _ _ ?_ ?_).mono ?_; (first | exact hoa | exact hoa.ext ((Ext.refl _).alloc _)); exact ⟨_, rfl, HSW.out _ (And.left (by assumption))⟩; rintro e wb ⟨heb, B, d, A2, c2, rfl, hv, hs', hbl⟩; have HBL := Lib.hid hbl; clear hbl
                     first
                       | (have nb : Bk wb w10.heap.size 25 [.slice none 0 0, .int .i64 0] := (Bk.new w10.drew 25 [.slice none 0 0, .int .i64 0]).ext (Ext.trans hea heb); have g0 := nb.cell (i := 0) (by simp); have g1 := nb.cell (i := 1) (by simp); have f0 := nb.free 0; have f1 := nb.free 1)
                       | (have nb : Bk wb wa.heap.size 25 [.slice none 0 0, .int .i64 0] := (Bk.new wa 25 [.slice none 0 0, .int .i64 0]).ext heb; have g0 := nb.cell (i := 0) (by simp); have g1 := nb.cell (i := 1) (by simp); have f0 := nb.free 0; have f1 := nb.free 1)
                       | skip))
              all_goals
                have hfin := And.left (b := _ ∧ _) (by assumption)
                go_wp2_with fail
                go_meet
                first
                  | exact ⟨wb.heap.size, B, d, A2, c2, Ext.size (Ext.trans ((Ext.refl _).drew.trans hea) heb), rfl, rfl, rfl, Bk.new wb _ [_, _], hs'.ext ((Ext.refl _).alloc _), hv.ext ((Ext.refl _).alloc _), hfin⟩
                  | exact ⟨_, B, d, A2, c2, Nat.le_refl _, rfl, rfl, rfl, (nb.set 0 _).set 1 _, hs'.mod nb (by simp [U8]) (stored2 _ _ _ _), Ns.far hv nb (by simp [U32]) (stored2 _ _ _ _) (fun ad h => by first | (have := HBL.out ad h; simp at this; omega) | (have := HBL.out ad h; have h2 := Ext.size hea; simp at h2; omega)), hfin⟩
                  | exact ⟨_, B, d, A2, c2, Ext.size ((Ext.refl _).drew.trans hea), rfl, rfl, rfl, (nb.set 0 _).set 1 _, hs'.mod nb (by simp [U8]) (stored2 _ _ _ _), Ns.far hv nb (by simp [U32]) (stored2 _ _ _ _) (fun ad h => by first | (have := HBL.out ad h; simp at this; omega) | (have := HBL.out ad h; have h2 := Ext.size hea; simp at h2; omega)), hfin⟩
            case rest =>
              obtain ⟨g2, B, d, A2, c2, hg2, rfl, rfl, rfl, hb, hby, hz, he⟩ := hcut
              obtain ⟨w11, rfl⟩ : ∃ V : World, V = wc := ⟨_, rfl⟩
              have HX11 := Lib.hid (HX10.out.trans he)
              replace d0 := he.cell d0; replace d1 := he.cell d1; replace q0 := he.cell q0; replace q1 := he.cell q1
              have HB2 := Lib.hid hb; have HBY2 := Lib.hid hby; have HZ2 := Lib.hid hz; have HK11a := Lib.hid (HK10.out.ext he); have HK20a := Lib.hid (HK20.out.ext he); have HSY11 := Lib.hid (R.Sl.ext HSY10.out he); have HBY11 := Lib.hid (HBY10.out.ext he)
              have hw11 : w10.heap.size ≤ w11.heap.size := he.size
              have u0 := HK20a.out.cell (i := 0) (by simp); have u1 := HK20a.out.cell (i := 1) (by simp)
              have v0 := hb.cell (i := 0) (by simp); have v1 := hb.cell (i := 1) (by simp)
              simp only [List.getElem_cons_zero, List.getElem_cons_succ] at u0 u1 v0 v1
              have HDL : Hid (∀ (j : Nat) (h : j < dz.1.length), dz.1.getD j 0 < rs.length ∧ dz.1.getD j 0 < 256) := Lib.hid (fun j h => by
                have h1 := HDZ.out
                rcases dist_cases bs nr m p with h2 | h2 | ⟨l2, p2, h2, -, -, h3⟩
                · rw [h1, h2] at h; simp at h
                · rw [h1, h2] at h; simp at h
                · rw [h1, h3] at h
                  rw [h1, h3]
                  have h6 : j < l2.length := h
                  have h4 := h2 _ (List.getElem_mem h6)
                  have h5 := HNR.out
                  have e6 : l2.getD j 0 = l2[j] := by simp only [List.getD, List.getElem?_eq_getElem h6, Option.getD_some]
                  show l2.getD j 0 < rs.length ∧ l2.getD j 0 < 256
                  rw [e6]
                  omega)
              clear hb hby hz he HK10 HK20 HSY10 HBY10 HLN HU HSW
              obtain ⟨dl, db, dp, de⟩ := dz
              simp only at u0 u1 v0 v1 ⊢
              obtain ⟨nq, hnq⟩ : ∃ q, q = dl.length := ⟨_, rfl⟩
              have HNQ2 := Lib.hid hnq
              simp only [← hnq]
              clear hnq
              have hq255 : Hid (nq ≤ 255) := Lib.hid (by
                have h1 := HDZ.out
                rcases dist_cases bs nr m p with h2 | h2 | ⟨l2, p2, -, -, h2, h3⟩
                · rw [h2] at h1; injection h1 with h1; have := HNQ2.out; rw [h1] at this; simp at this; omega
                · rw [h2] at h1; injection h1 with h1; have := HNQ2.out; rw [h1] at this; simp at this; omega
                · rw [h3] at h1; injection h1 with h1; have := HNQ2.out; rw [h1] at this; omega)
              have hqb := hq255.out
              have HTP1 : Hid (Tp w11 (.agg #[.slice At2 db.length ct2, .int .i64 (dp : Int)]) db (dp : Int)) := Lib.hid ⟨_, rfl, HBY11.out⟩
              have HTP2 : Hid (Tp w11 (.agg #[.slice A2 db.length c2, .int .i64 (dp : Int)]) db (dp : Int)) := Lib.hid ⟨_, rfl, HBY2.out⟩
              have HIS := Lib.hid (is_tp (r := (dp : Int)) HTP1.out HTP2.out)
              go_wp2_with fail
              (with_reducible refine HIS.out.mono ?_)
              rintro e w12 ⟨z12, rfl, he12, rfl⟩
              have HX12 := Lib.hid he12
              replace d0 := he12.cell d0; replace d1 := he12.cell d1; replace q0 := he12.cell q0; replace q1 := he12.cell q1
              have hw12 : w11.heap.size ≤ w12.heap.size := he12.size
              clear he12 u0 u1 v0 v1 HTP1 HTP2 HIS
              simp only [decide_true, Bool.and_self]
              go_wp2_with fail
              go_loopw [155] (fun t wr => ∃ j : Nat, j ≤ nq ∧ t = .int .i64 (j : Int) ∧ Ext w12 wr) (fun t _ => nq - (intOf t).toNat)
              case atStart => exact ⟨0, Nat.zero_le _, rfl, Ext.refl _⟩
              case round =>
                obtain ⟨j, hj, rfl, hxj⟩ := hrel
                obtain ⟨W, rfl⟩ : ∃ W : World, W = wr := ⟨_, rfl⟩
                have HXJ := Lib.hid (HX12.out.trans hxj)
                have HXJ2 := Lib.hid hxj
                have hwW : w12.heap.size ≤ W.heap.size := hxj.size
                replace d0 := hxj.cell d0; replace d1 := hxj.cell d1; replace q0 := hxj.cell q0; replace q1 := hxj.cell q1
                by_cases hltj : j < nq
                · have j1 : (0 : Int) ≤ (j : Int) := by omega
                  have j2 : (j : Int) < (nq : Int) := by omega
                  have hjl : j < dl.length := by have := HNQ2.out; omega
                  obtain ⟨adB, B1, kk, dk, rfl, c0', hnz⟩ := HZ2.out j hjl
                  replace c0' := HXJ.out.cell c0'
                  have hlx := HDL.out j hjl
                  (try simp only at hlx)
                  have HAT2 := Lib.hid (fun (V : World) (hV : Ext W V) => at_yes (HAR.out _ (HX11.out.trans (HXJ.out.trans hV))) (by have := HNR.out; omega) HRL.out (hnz.ext (HXJ.out.trans hV)).nv hlx.1)
                  have hyj : j < ys.length := by rw [HYS.out, List.length_map]; exact hjl
                  have hye : ys[j]'hyj = rs[dl.getD j 0]'hlx.1 := by
                    have h1 : ys[j]? = some (rs[dl.getD j 0]'hlx.1) := by
                      rw [HYS.out, List.getElem?_map, List.getElem?_eq_getElem hjl]
                      simp only [Option.map_some]
                      have e1 : dl.getD j 0 = dl[j] := by simp only [List.getD, List.getElem?_eq_getElem hjl, Option.getD_some]
                      rw [← e1, List.getD_eq_getElem?_getD (l := rs), List.getElem?_eq_getElem hlx.1]
                      rfl
                    rw [List.getElem?_eq_getElem hyj] at h1
                    injection h1
                  obtain ⟨adY, BY, dY, hAY, -, c1', hrow⟩ := R.Sl.row HSY11.out hyj
                  subst hAY
                  have HRLX := Lib.hid (HRL.out _ (List.getElem_mem hlx.1))
                  rw [hye] at c1' hrow
                  obtain ⟨y2, hy2⟩ : ∃ y2, y2 = rs[dl.getD j 0]'hlx.1 := ⟨_, rfl⟩
                  rw [← hy2] at c1' hrow HAT2 HRLX
                  obtain ⟨ny2, hny2⟩ : ∃ q, q = y2.length := ⟨_, rfl⟩
                  rw [← hny2] at c1' HAT2 HRLX hrow
                  have HNY2 := Lib.hid hny2
                  replace c1' := HXJ.out.cell c1'
                  have HROW2 := Lib.hid (R.Sl.ext hrow HXJ.out)
                  clear hnz hlx hyj hye hy2 hny2 hrow hxj
                  go_upto_region 28 with fail
                  go_region_held3 (fun V => Ext W V ∧ V.cell? (adB.add j) = some (.slice B1 kk dk) ∧ V.cell? ⟨w3.heap.size, 0, none⟩ = some (.slice AR nr cR) ∧ V.cell? ⟨w3.heap.size, 1, none⟩ = some (.slice none 0 0))
                    ((refine (fun he => ⟨he, Ext.cell he c0', Ext.cell he q0, Ext.cell he q1⟩) ?_; repeat (first | exact Ext.refl _ | exact (Ext.refl _).drew | refine Ext.drew ?_ | refine Ext.trans ?_ (by assumption))))
                    (first
                      | (go_at_call 11; (with_reducible refine (HAT2.out _ (And.left (by assumption))).mono ?_); rintro e wi ⟨A3, c3, rfl, hs3, hei⟩))
                  have hfin : Ext W wi := Ext.trans (Ext.refl W).drew hei
                  obtain ⟨X, rfl⟩ : ∃ X : World, X = wi := ⟨_, rfl⟩
                  have HXX := Lib.hid hfin
                  have HEQ2 := Lib.hid (R.requal_any (w := X) (R.Sl.ext HROW2.out hfin) hs3 HRLX.out HRLX.out)
                  rw [R.cmp_row.self] at HEQ2
                  replace c1' := hfin.cell c1'
                  clear hfin hei hs3 c0' d0 d1 q0 q1
                  go_wp2_with fail
                  (with_reducible refine HEQ2.out.mono ?_)
                  rintro e w13 ⟨rfl, hg13⟩
                  have HX13 := Lib.hid (HXJ2.out.trans (HXX.out.trans hg13.ext))
                  clear hg13 c1'
                  go_wp2_with fail
                  go_roundw
                  case rel => exact ⟨j + 1, by omega, by go_num, HX13.out⟩
                  case measure => simp [intOf]; omega
                · obtain rfl : j = nq := by omega
                  have hdj : ¬ (j : Int) < (j : Int) := by omega
                  have HKW := Lib.hid (HK11a.out.ext HXJ.out); have HK20W := Lib.hid (HK20a.out.ext HXJ.out)
                  have HSN := Lib.hid (fun (V : World) (hV : Ext W V) => srow_nil (w := V) (t := .agg #[.slice A bs.length c, .int .i64 (p : Int)]) (pos := (p : Int)) ⟨_, rfl, HS4.out.ext (HX11.out.trans (HXJ.out.trans hV))⟩)
                  clear hxj q0 q1
                  go_wp2_with fail
                  (with_reducible refine (HSN.out _ (Ext.refl W)).mono ?_)
                  rintro e w14 ⟨rfl, he14⟩
                  have hk14 := HKW.out.ext he14
                  have HK20X := Lib.hid (HK20W.out.ext he14)
                  replace d0 := he14.cell d0; replace d1 := he14.cell d1
                  have HX14 := Lib.hid ((HX4.out.trans HX11.out).trans (HXJ.out.trans he14))
                  have u0 := hk14.cell (i := 0) (by simp); have u1 := hk14.cell (i := 1) (by simp); have f0 := hk14.free 0; have f1 := hk14.free 1
                  simp only [List.getElem_cons_zero, List.getElem_cons_succ] at u0 u1
                  have HSB := HS4.out.ext ((HX11.out.trans (HXJ.out.trans he14)))
                  have hst : R.Fr (fun k => k = w5.heap.size) w14 ((w14.setCell ⟨w5.heap.size, 0, none⟩ (.slice none 0 0)).setCell ⟨w5.heap.size, 1, none⟩ (.int .i64 0)) := ((R.Fr.refl (fun k => k = w5.heap.size) w14).setCell (p := ⟨w5.heap.size, 0, none⟩) (.inl rfl) _).setCell (p := ⟨w5.heap.size, 1, none⟩) (.inl rfl) _
                  have HK15 := Lib.hid ((hk14.set 0 (.slice none 0 0)).set 1 (.int .i64 0))
                  have HSB15 := Lib.hid (HSB.mod hk14 (by simp [U8]) (stored2 w14 w5.heap.size (.slice none 0 0) (.int .i64 0)))
                  have HK20Y := Lib.hid (R.Bk.fr HK20X.out hst (by omega))
                  have d0' := R.Fr.cell hst d0 (by show ¬ w.heap.size = w5.heap.size; omega); have d1' := R.Fr.cell hst d1 (by show ¬ w.heap.size = w5.heap.size; omega)
                  have HX15 : Hid (Ext w ((w14.setCell ⟨w5.heap.size, 0, none⟩ (.slice none 0 0)).setCell ⟨w5.heap.size, 1, none⟩ (.int .i64 0))) := Lib.hid ((HX14.out.setCell (p := ⟨w5.heap.size, 0, none⟩) (by show w.heap.size ≤ w5.heap.size; omega) _).setCell (p := ⟨w5.heap.size, 1, none⟩) (by show w.heap.size ≤ w5.heap.size; omega) _)
                  clear hst HSB he14 d0 d1
                  go_upto_region 33 with fail
                  generalize ((w14.setCell ⟨w5.heap.size, 0, none⟩ (.slice none 0 0)).setCell ⟨w5.heap.size, 1, none⟩ (.int .i64 0)) = w15 at *
                  clear hk14 u0 u1 f0 f1
                  have HTN : Hid (Tp w15 (.agg #[.slice A bs.length c, .int .i64 (p : Int)]) bs (p : Int)) := Lib.hid ⟨_, rfl, HSB15.out⟩
                  go_wp2_with fail
                  (with_reducible refine (srows_nil HTN.out).mono ?_)
                  rintro e w16 ⟨rfl, he16⟩
                  have hk16 := HK20Y.out.ext he16
                  have HK16 := Lib.hid (HK15.out.ext he16)
                  have HX16 := Lib.hid (HX15.out.trans he16)
                  have u0 := hk16.cell (i := 0) (by simp); have u1 := hk16.cell (i := 1) (by simp); have f0 := hk16.free 0; have f1 := hk16.free 1
                  simp only [List.getElem_cons_zero, List.getElem_cons_succ] at u0 u1
                  have hst : R.Fr (fun k => k = w9.heap.size) w16 ((w16.setCell ⟨w9.heap.size, 0, none⟩ (.slice none 0 0)).setCell ⟨w9.heap.size, 1, none⟩ (.int .i64 0)) := ((R.Fr.refl (fun k => k = w9.heap.size) w16).setCell (p := ⟨w9.heap.size, 0, none⟩) (.inl rfl) _).setCell (p := ⟨w9.heap.size, 1, none⟩) (.inl rfl) _
                  have HK17 := Lib.hid ((hk16.set 0 (.slice none 0 0)).set 1 (.int .i64 0))
                  have HK18 := Lib.hid (R.Bk.fr HK16.out hst (by show ¬ w5.heap.size = w9.heap.size; omega))
                  have HX17 : Hid (Ext w ((w16.setCell ⟨w9.heap.size, 0, none⟩ (.slice none 0 0)).setCell ⟨w9.heap.size, 1, none⟩ (.int .i64 0))) := Lib.hid ((HX16.out.setCell (p := ⟨w9.heap.size, 0, none⟩) (by show w.heap.size ≤ w9.heap.size; omega) _).setCell (p := ⟨w9.heap.size, 1, none⟩) (by show w.heap.size ≤ w9.heap.size; omega) _)
                  clear hst he16 d0' d1'
                  go_upto_region 34 with fail
                  generalize ((w16.setCell ⟨w9.heap.size, 0, none⟩ (.slice none 0 0)).setCell ⟨w9.heap.size, 1, none⟩ (.int .i64 0)) = w17 at *
                  clear hk16 u0 u1 f0 f1
                  have u0 := R.Bk.cell HK17.out (i := 0) (by simp); have u1 := R.Bk.cell HK17.out (i := 1) (by simp)
                  have v0 := R.Bk.cell HK18.out (i := 0) (by simp); have v1 := R.Bk.cell HK18.out (i := 1) (by simp)
                  simp only [List.set_cons_zero, List.set_cons_succ, List.getElem_cons_zero, List.getElem_cons_succ] at u0 u1 v0 v1
                  have HTZ : Hid (∀ V : World, Tp V (.agg #[.slice none 0 0, .int .i64 0]) [] 0) := Lib.hid (fun V => ⟨_, rfl, By.nil V⟩)
                  go_wp2_with fail
                  (with_reducible refine (zero_tp (HTZ.out _)).mono ?_)
                  rintro e w18 ⟨z18, rfl, he18, rfl⟩
                  replace u0 := he18.cell u0; replace u1 := he18.cell u1
                  have HX18 := Lib.hid (HX17.out.trans he18)
                  clear he18 v0 v1
                  rw [show zeroB ([] : List Nat).length 0 = true from rfl]
                  go_wp2_with fail
                  (with_reducible refine (zero_tp (HTZ.out _)).mono ?_)
                  rintro e w19 ⟨z19, rfl, he19, rfl⟩
                  have HX19 := Lib.hid (HX18.out.trans he19)
                  clear he19 u0 u1
                  rw [show zeroB ([] : List Nat).length 0 = true from rfl]
                  go_wp2_with fail
                  (with_reducible refine (awake_true _).mono ?_)
                  rintro e w20 ⟨z20, rfl, he20, rfl⟩
                  have HX20 := Lib.hid (HX19.out.trans he20)
                  clear he20
                  go_wp2_with fail
                  go_ret
                  exact Ret.mk HX20.out rfl
        · subst huo
          have hri : ((i : Int) == 0) = false := by have := HR0.out; rw [beq_eq_false_iff_ne]; omega
          have hr1 : rowErr 0 = 0 := rfl
          have hxr : x < rs.length := by have := HNR.out; omega
          have HAT := Lib.hid (at_yes (HAR.out _ HXC.out) (by have := HNR.out; omega) HRL.out HZ.out.nv hxr)
          have hy0 : rs[x]'hxr = y := by
            rcases HY5.out with ⟨-, h1⟩ | ⟨h1, -⟩
            · simp only [List.getElem?_eq_getElem hxr] at h1
              injection h1
            · exact absurd rfl h1
          rw [hy0] at HAT
          have HYL : Hid (y.length ≤ 1048576) := Lib.hid (by rw [← hy0]; exact HRL.out _ (List.getElem_mem hxr))
          clear hy0
          simp only [hr1]
          clear hr1
          have u0 := HKC.out.cell (i := 0) (by simp); have u1 := HKC.out.cell (i := 1) (by simp)
          have v0 := HB.out.cell (i := 0) (by simp); have v1 := HB.out.cell (i := 1) (by simp)
          simp only [List.getElem_cons_zero, List.getElem_cons_succ] at u0 u1 v0 v1
          obtain ⟨ny, hny⟩ : ∃ q, q = y.length := ⟨_, rfl⟩
          have HNY := Lib.hid hny
          rw [← hny] at HAT ⊢
          clear hny
          go_wp2_with fail
          (with_reducible refine HAT.out.mono ?_)
          rintro e w7 ⟨A7, c7, rfl, hs7, he7⟩
          replace u0 := he7.cell u0; replace u1 := he7.cell u1; replace v0 := he7.cell v0; replace v1 := he7.cell v1
          have HX7 := Lib.hid he7
          have HEQ := Lib.hid (R.requal_any (w := w7) (R.Sl.ext HSYC.out he7) (by rw [← HNY.out]; exact hs7) HYL.out HYL.out)
          rw [R.cmp_row.self] at HEQ
          clear he7 hs7
          go_wp2_with fail
          rw [HNY.out]
          (with_reducible refine HEQ.out.mono ?_)
          rintro e w7b ⟨rfl, hg7⟩
          have he7b : Ext w7 w7b := hg7.ext
          replace u0 := he7b.cell u0; replace u1 := he7b.cell u1; replace v0 := he7b.cell v0; replace v1 := he7b.cell v1
          have HX7b := Lib.hid (HX7.out.trans he7b)
          clear he7b hg7
          rw [← HNY.out]
          go_wp2_with fail
          have HTP1 : Hid (Tp w7b (.agg #[.slice At bs.length ct, .int .i64 (px : Int)]) bs (px : Int)) := Lib.hid ⟨_, rfl, HBYC.out.ext HX7b.out⟩
          have HTP2 : Hid (Tp w7b (.agg #[.slice A' bs.length c', .int .i64 (px : Int)]) bs (px : Int)) := Lib.hid ⟨_, rfl, HBY.out.ext HX7b.out⟩
          (with_reducible refine (is_tp HTP1.out HTP2.out).mono ?_)
          rintro e w8 ⟨z, rfl, he8, rfl⟩
          have HX8 := Lib.hid (HX7b.out.trans he8)
          clear he8 u0 u1 v0 v1
          simp only [decide_true, Bool.and_self]
          go_upto_region 21 with fail
          as_aux_lemma =>
            have HXZ := Lib.hid (HXC.out.trans HX8.out)
            replace d0 := HX8.out.cell d0; replace d1 := HX8.out.cell d1; replace q0 := HX8.out.cell q0; replace q1 := HX8.out.cell q1
            have HKZ := Lib.hid (HKC.out.ext HX8.out)
            have hw8 : wc.heap.size ≤ w8.heap.size := HX8.out.size
            obtain ⟨dz, hdz⟩ : ∃ o, o = distOut bs nr m p := ⟨_, rfl⟩
            have HDZ := Lib.hid hdz
            have HROWS := Lib.hid (srows_any (m := m) (t := .agg #[.slice A bs.length c, .int .i64 (p : Int)]) (HAR.out _ HXZ.out) (by have := HNR.out; omega) hm HRL.out ⟨_, rfl, HS4.out.ext HXZ.out⟩ hp)
            rw [← HNR.out, ← hdz] at HROWS
            clear hdz
            go_wp2_with fail
            (with_reducible refine HROWS.out.mono ?_)
            rintro e w9 ⟨he9, Ar2, cr2, At2, ct2, ys, rfl, hby9, hsy9, hys9⟩
            have HX9 := Lib.hid (HXZ.out.trans he9)
            replace d0 := he9.cell d0; replace d1 := he9.cell d1; replace q0 := he9.cell q0; replace q1 := he9.cell q1
            have HBY9 := Lib.hid hby9; have HSY9 := Lib.hid hsy9; have HYS := Lib.hid hys9; have HK9' := Lib.hid (HKZ.out.ext he9)
            have hw9 : w8.heap.size ≤ w9.heap.size := he9.size
            clear he9 hby9 hsy9 hys9
            go_upto_region 22 with fail
            have hx10 : Ext w9 (w9.alloc (.cells #[.slice At2 dz.2.1.length ct2, .int .i64 (dz.2.2.1 : Int)] 25)) := (Ext.refl w9).alloc _
            have k20 := Bk.new w9 25 [.slice At2 dz.2.1.length ct2, .int .i64 (dz.2.2.1 : Int)]
            change Bk (w9.alloc (.cells #[.slice At2 dz.2.1.length ct2, .int .i64 (dz.2.2.1 : Int)] 25)) _ _ _ at k20
            generalize (w9.alloc (.cells #[.slice At2 dz.2.1.length ct2, .int .i64 (dz.2.2.1 : Int)] 25)) = w10 at *
            have HX10 := Lib.hid (HX9.out.trans hx10); have HK20 := Lib.hid k20; have HSY10 := Lib.hid (R.Sl.ext HSY9.out hx10); have HBY10 := Lib.hid (HBY9.out.ext hx10); have HK10 := Lib.hid (HK9'.out.ext hx10)
            have hw10 : w9.heap.size < w10.heap.size := k20.lt
            replace d0 := hx10.cell d0; replace d1 := hx10.cell d1; replace q0 := hx10.cell q0; replace q1 := hx10.cell q1
            have HSW := Lib.hid (fun (V : World) (hV : Ext w10 V) => HS4.out.ext (HX10.out.trans hV))
            have HLN := Lib.hid (fun (V : World) (hV : Ext w10 V) => len_o (HAR.out V (HX10.out.trans hV)) (by have := HNR.out; omega))
            have HU := Lib.hid (fun (V : World) (u t : Value) (h1 : Nz V u nr) (h2 : Tp V t bs (p : Nat)) => (Distinct_out (m := m) h1.nv (by omega) hm h2 hp))
            rw [← HDZ.out] at HU
            rw [← HNR.out] at HLN
            clear hx10 k20 HBY9 HSY9 HK9' HKZ HROWS
            go_cut [22, 23, 24] (fun sa sb sc wx => ∃ (g2 : Nat) (B : Option Addr) (d : Nat) (A2 : Option Addr) (c2 : Nat), w10.heap.size ≤ g2 ∧ sa = .slice B dz.1.length d ∧ sb = .pointer (some ⟨g2, 0, none⟩) ∧ sc = .int .i64 (dz.2.2.2 : Int) ∧ Bk wx g2 25 [.slice A2 dz.2.1.length c2, .int .i64 (dz.2.2.1 : Int)] ∧ By wx (.slice A2 dz.2.1.length c2) dz.2.1 ∧ Ns wx B dz.1.length (fun i => dz.1.getD i 0) ∧ Ext w10 wx)
            case first => as_aux_lemma =>
              go_region_held3 (fun V => Ext w10 V ∧ V.cell? ⟨w.heap.size, 0, none⟩ = some (.slice A bs.length c) ∧ V.cell? ⟨w.heap.size, 1, none⟩ = some (.int .i64 (p : Int)) ∧ V.cell? ⟨w3.heap.size, 0, none⟩ = some (.slice AR nr cR) ∧ V.cell? ⟨w3.heap.size, 1, none⟩ = some (.slice none 0 0))
                ((refine (fun he => ⟨he, Ext.cell he d0, Ext.cell he d1, Ext.cell he q0, Ext.cell he q1⟩) ?_; repeat (first | exact Ext.refl _ | exact (Ext.refl _).drew | refine Ext.alloc ?_ _ | refine Ext.drew ?_ | refine Ext.setCell ?_ (by first | exact Nat.le_refl _ | (have := Ext.size hea; simp at this ⊢; omega)) _ | refine Ext.trans ?_ (by assumption))))
                (first
                  | (go_at_call 10; refine (HLN.out _ (And.left (by assumption))).mono ?_; rintro e wa ⟨o, rfl, hea, hoa⟩)
                  | (go_at_call 16; refine (HU.out _ _ _ ?_ ?_).mono ?_; (first | exact hoa | exact hoa.ext ((Ext.refl _).alloc _)); exact ⟨_, rfl, HSW.out _ (And.left (by assumption))⟩; rintro e wb ⟨heb, B, d, A2, c2, rfl, hv, hs', hbl⟩; have HBL := Lib.hid hbl; clear hbl
                     first
                       | (have nb : Bk wb w10.heap.size 25 [.slice none 0 0, .int .i64 0] := (Bk.new w10.drew 25 [.slice none 0 0, .int .i64 0]).ext (Ext.trans hea heb); have g0 := nb.cell (i := 0) (by simp); have g1 := nb.cell (i := 1) (by simp); have f0 := nb.free 0; have f1 := nb.free 1)
                       | (have nb : Bk wb wa.heap.size 25 [.slice none 0 0, .int .i64 0] := (Bk.new wa 25 [.slice none 0 0, .int .i64 0]).ext heb; have g0 := nb.cell (i := 0) (by simp); have g1 := nb.cell (i := 1) (by simp); have f0 := nb.free 0; have f1 := nb.free 1)
                       | skip))
              all_goals
                have hfin := And.left (b := _ ∧ _) (by assumption)
                go_wp2_with fail
                go_meet
                first
                  | exact ⟨wb.heap.size, B, d, A2, c2, Ext.size (Ext.trans ((Ext.refl _).drew.trans hea) heb), rfl, rfl, rfl, Bk.new wb _ [_, _], hs'.ext ((Ext.refl _).alloc _), hv.ext ((Ext.refl _).alloc _), hfin⟩
                  | exact ⟨_, B, d, A2, c2, Nat.le_refl _, rfl, rfl, rfl, (nb.set 0 _).set 1 _, hs'.mod nb (by simp [U8]) (stored2 _ _ _ _), Ns.far hv nb (by simp [U32]) (stored2 _ _ _ _) (fun ad h => by first | (have := HBL.out ad h; simp at this; omega) | (have := HBL.out ad h; have h2 := Ext.size hea; simp at h2; omega)), hfin⟩
                  | exact ⟨_, B, d, A2, c2, Ext.size ((Ext.refl _).drew.trans hea), rfl, rfl, rfl, (nb.set 0 _).set 1 _, hs'.mod nb (by simp [U8]) (stored2 _ _ _ _), Ns.far hv nb (by simp [U32]) (stored2 _ _ _ _) (fun ad h => by first | (have := HBL.out ad h; simp at this; omega) | (have := HBL.out ad h; have h2 := Ext.size hea; simp at h2; omega)), hfin⟩
            case rest =>
              obtain ⟨g2, B, d, A2, c2, hg2, rfl, rfl, rfl, hb, hby, hz, he⟩ := hcut
              obtain ⟨w11, rfl⟩ : ∃ V : World, V = wc := ⟨_, rfl⟩
              have HX11 := Lib.hid (HX10.out.trans he)
              replace d0 := he.cell d0; replace d1 := he.cell d1; replace q0 := he.cell q0; replace q1 := he.cell q1
              have HB2 := Lib.hid hb; have HBY2 := Lib.hid hby; have HZ2 := Lib.hid hz; have HK11a := Lib.hid (HK10.out.ext he); have HK20a := Lib.hid (HK20.out.ext he); have HSY11 := Lib.hid (R.Sl.ext HSY10.out he); have HBY11 := Lib.hid (HBY10.out.ext he)
              have hw11 : w10.heap.size ≤ w11.heap.size := he.size
              have u0 := HK20a.out.cell (i := 0) (by simp); have u1 := HK20a.out.cell (i := 1) (by simp)
              have v0 := hb.cell (i := 0) (by simp); have v1 := hb.cell (i := 1) (by simp)
              simp only [List.getElem_cons_zero, List.getElem_cons_succ] at u0 u1 v0 v1
              have HDL : Hid (∀ (j : Nat) (h : j < dz.1.length), dz.1.getD j 0 < rs.length ∧ dz.1.getD j 0 < 256) := Lib.hid (fun j h => by
                have h1 := HDZ.out
                rcases dist_cases bs nr m p with h2 | h2 | ⟨l2, p2, h2, -, -, h3⟩
                · rw [h1, h2] at h; simp at h
                · rw [h1, h2] at h; simp at h
                · rw [h1, h3] at h
                  rw [h1, h3]
                  have h6 : j < l2.length := h
                  have h4 := h2 _ (List.getElem_mem h6)
                  have h5 := HNR.out
                  have e6 : l2.getD j 0 = l2[j] := by simp only [List.getD, List.getElem?_eq_getElem h6, Option.getD_some]
                  show l2.getD j 0 < rs.length ∧ l2.getD j 0 < 256
                  rw [e6]
                  omega)
              clear hb hby hz he HK10 HK20 HSY10 HBY10 HLN HU HSW
              obtain ⟨dl, db, dp, de⟩ := dz
              simp only at u0 u1 v0 v1 ⊢
              obtain ⟨nq, hnq⟩ : ∃ q, q = dl.length := ⟨_, rfl⟩
              have HNQ2 := Lib.hid hnq
              simp only [← hnq]
              clear hnq
              have hq255 : Hid (nq ≤ 255) := Lib.hid (by
                have h1 := HDZ.out
                rcases dist_cases bs nr m p with h2 | h2 | ⟨l2, p2, -, -, h2, h3⟩
                · rw [h2] at h1; injection h1 with h1; have := HNQ2.out; rw [h1] at this; simp at this; omega
                · rw [h2] at h1; injection h1 with h1; have := HNQ2.out; rw [h1] at this; simp at this; omega
                · rw [h3] at h1; injection h1 with h1; have := HNQ2.out; rw [h1] at this; omega)
              have hqb := hq255.out
              have HTP1 : Hid (Tp w11 (.agg #[.slice At2 db.length ct2, .int .i64 (dp : Int)]) db (dp : Int)) := Lib.hid ⟨_, rfl, HBY11.out⟩
              have HTP2 : Hid (Tp w11 (.agg #[.slice A2 db.length c2, .int .i64 (dp : Int)]) db (dp : Int)) := Lib.hid ⟨_, rfl, HBY2.out⟩
              have HIS := Lib.hid (is_tp (r := (dp : Int)) HTP1.out HTP2.out)
              go_wp2_with fail
              (with_reducible refine HIS.out.mono ?_)
              rintro e w12 ⟨z12, rfl, he12, rfl⟩
              have HX12 := Lib.hid he12
              replace d0 := he12.cell d0; replace d1 := he12.cell d1; replace q0 := he12.cell q0; replace q1 := he12.cell q1
              have hw12 : w11.heap.size ≤ w12.heap.size := he12.size
              clear he12 u0 u1 v0 v1 HTP1 HTP2 HIS
              simp only [decide_true, Bool.and_self]
              go_wp2_with fail
              go_loopw [155] (fun t wr => ∃ j : Nat, j ≤ nq ∧ t = .int .i64 (j : Int) ∧ Ext w12 wr) (fun t _ => nq - (intOf t).toNat)
              case atStart => exact ⟨0, Nat.zero_le _, rfl, Ext.refl _⟩
              case round =>
                obtain ⟨j, hj, rfl, hxj⟩ := hrel
                obtain ⟨W, rfl⟩ : ∃ W : World, W = wr := ⟨_, rfl⟩
                have HXJ := Lib.hid (HX12.out.trans hxj)
                have HXJ2 := Lib.hid hxj
                have hwW : w12.heap.size ≤ W.heap.size := hxj.size
                replace d0 := hxj.cell d0; replace d1 := hxj.cell d1; replace q0 := hxj.cell q0; replace q1 := hxj.cell q1
                by_cases hltj : j < nq
                · have j1 : (0 : Int) ≤ (j : Int) := by omega
                  have j2 : (j : Int) < (nq : Int) := by omega
                  have hjl : j < dl.length := by have := HNQ2.out; omega
                  obtain ⟨adB, B1, kk, dk, rfl, c0', hnz⟩ := HZ2.out j hjl
                  replace c0' := HXJ.out.cell c0'
                  have hlx := HDL.out j hjl
                  (try simp only at hlx)
                  have HAT2 := Lib.hid (fun (V : World) (hV : Ext W V) => at_yes (HAR.out _ (HX11.out.trans (HXJ.out.trans hV))) (by have := HNR.out; omega) HRL.out (hnz.ext (HXJ.out.trans hV)).nv hlx.1)
                  have hyj : j < ys.length := by rw [HYS.out, List.length_map]; exact hjl
                  have hye : ys[j]'hyj = rs[dl.getD j 0]'hlx.1 := by
                    have h1 : ys[j]? = some (rs[dl.getD j 0]'hlx.1) := by
                      rw [HYS.out, List.getElem?_map, List.getElem?_eq_getElem hjl]
                      simp only [Option.map_some]
                      have e1 : dl.getD j 0 = dl[j] := by simp only [List.getD, List.getElem?_eq_getElem hjl, Option.getD_some]
                      rw [← e1, List.getD_eq_getElem?_getD (l := rs), List.getElem?_eq_getElem hlx.1]
                      rfl
                    rw [List.getElem?_eq_getElem hyj] at h1
                    injection h1
                  obtain ⟨adY, BY, dY, hAY, -, c1', hrow⟩ := R.Sl.row HSY11.out hyj
                  subst hAY
                  have HRLX := Lib.hid (HRL.out _ (List.getElem_mem hlx.1))
                  rw [hye] at c1' hrow
                  obtain ⟨y2, hy2⟩ : ∃ y2, y2 = rs[dl.getD j 0]'hlx.1 := ⟨_, rfl⟩
                  rw [← hy2] at c1' hrow HAT2 HRLX
                  obtain ⟨ny2, hny2⟩ : ∃ q, q = y2.length := ⟨_, rfl⟩
                  rw [← hny2] at c1' HAT2 HRLX hrow
                  have HNY2 := Lib.hid hny2
                  replace c1' := HXJ.out.cell c1'
                  have HROW2 := Lib.hid (R.Sl.ext hrow HXJ.out)
                  clear hnz hlx hyj hye hy2 hny2 hrow hxj
                  go_upto_region 28 with fail
                  go_region_held3 (fun V => Ext W V ∧ V.cell? (adB.add j) = some (.slice B1 kk dk) ∧ V.cell? ⟨w3.heap.size, 0, none⟩ = some (.slice AR nr cR) ∧ V.cell? ⟨w3.heap.size, 1, none⟩ = some (.slice none 0 0))
                    ((refine (fun he => ⟨he, Ext.cell he c0', Ext.cell he q0, Ext.cell he q1⟩) ?_; repeat (first | exact Ext.refl _ | exact (Ext.refl _).drew | refine Ext.drew ?_ | refine Ext.trans ?_ (by assumption))))
                    (first
                      | (go_at_call 11; (with_reducible refine (HAT2.out _ (And.left (by assumption))).mono ?_); rintro e wi ⟨A3, c3, rfl, hs3, hei⟩))
                  have hfin : Ext W wi := Ext.trans (Ext.refl W).drew hei
                  obtain ⟨X, rfl⟩ : ∃ X : World, X = wi := ⟨_, rfl⟩
                  have HXX := Lib.hid hfin
                  have HEQ2 := Lib.hid (R.requal_any (w := X) (R.Sl.ext HROW2.out hfin) hs3 HRLX.out HRLX.out)
                  rw [R.cmp_row.self] at HEQ2
                  replace c1' := hfin.cell c1'
                  clear hfin hei hs3 c0' d0 d1 q0 q1
                  go_wp2_with fail
                  (with_reducible refine HEQ2.out.mono ?_)
                  rintro e w13 ⟨rfl, hg13⟩
                  have HX13 := Lib.hid (HXJ2.out.trans (HXX.out.trans hg13.ext))
                  clear hg13 c1'
                  go_wp2_with fail
                  go_roundw
                  case rel => exact ⟨j + 1, by omega, by go_num, HX13.out⟩
                  case measure => simp [intOf]; omega
                · obtain rfl : j = nq := by omega
                  have hdj : ¬ (j : Int) < (j : Int) := by omega
                  have HKW := Lib.hid (HK11a.out.ext HXJ.out); have HK20W := Lib.hid (HK20a.out.ext HXJ.out)
                  have HSN := Lib.hid (fun (V : World) (hV : Ext W V) => srow_nil (w := V) (t := .agg #[.slice A bs.length c, .int .i64 (p : Int)]) (pos := (p : Int)) ⟨_, rfl, HS4.out.ext (HX11.out.trans (HXJ.out.trans hV))⟩)
                  clear hxj q0 q1
                  go_wp2_with fail
                  (with_reducible refine (HSN.out _ (Ext.refl W)).mono ?_)
                  rintro e w14 ⟨rfl, he14⟩
                  have hk14 := HKW.out.ext he14
                  have HK20X := Lib.hid (HK20W.out.ext he14)
                  replace d0 := he14.cell d0; replace d1 := he14.cell d1
                  have HX14 := Lib.hid ((HX4.out.trans HX11.out).trans (HXJ.out.trans he14))
                  have u0 := hk14.cell (i := 0) (by simp); have u1 := hk14.cell (i := 1) (by simp); have f0 := hk14.free 0; have f1 := hk14.free 1
                  simp only [List.getElem_cons_zero, List.getElem_cons_succ] at u0 u1
                  have HSB := HS4.out.ext ((HX11.out.trans (HXJ.out.trans he14)))
                  have hst : R.Fr (fun k => k = w5.heap.size) w14 ((w14.setCell ⟨w5.heap.size, 0, none⟩ (.slice none 0 0)).setCell ⟨w5.heap.size, 1, none⟩ (.int .i64 0)) := ((R.Fr.refl (fun k => k = w5.heap.size) w14).setCell (p := ⟨w5.heap.size, 0, none⟩) (.inl rfl) _).setCell (p := ⟨w5.heap.size, 1, none⟩) (.inl rfl) _
                  have HK15 := Lib.hid ((hk14.set 0 (.slice none 0 0)).set 1 (.int .i64 0))
                  have HSB15 := Lib.hid (HSB.mod hk14 (by simp [U8]) (stored2 w14 w5.heap.size (.slice none 0 0) (.int .i64 0)))
                  have HK20Y := Lib.hid (R.Bk.fr HK20X.out hst (by omega))
                  have d0' := R.Fr.cell hst d0 (by show ¬ w.heap.size = w5.heap.size; omega); have d1' := R.Fr.cell hst d1 (by show ¬ w.heap.size = w5.heap.size; omega)
                  have HX15 : Hid (Ext w ((w14.setCell ⟨w5.heap.size, 0, none⟩ (.slice none 0 0)).setCell ⟨w5.heap.size, 1, none⟩ (.int .i64 0))) := Lib.hid ((HX14.out.setCell (p := ⟨w5.heap.size, 0, none⟩) (by show w.heap.size ≤ w5.heap.size; omega) _).setCell (p := ⟨w5.heap.size, 1, none⟩) (by show w.heap.size ≤ w5.heap.size; omega) _)
                  clear hst HSB he14 d0 d1
                  go_upto_region 33 with fail
                  generalize ((w14.setCell ⟨w5.heap.size, 0, none⟩ (.slice none 0 0)).setCell ⟨w5.heap.size, 1, none⟩ (.int .i64 0)) = w15 at *
                  clear hk14 u0 u1 f0 f1
                  have HTN : Hid (Tp w15 (.agg #[.slice A bs.length c, .int .i64 (p : Int)]) bs (p : Int)) := Lib.hid ⟨_, rfl, HSB15.out⟩
                  go_wp2_with fail
                  (with_reducible refine (srows_nil HTN.out).mono ?_)
                  rintro e w16 ⟨rfl, he16⟩
                  have hk16 := HK20Y.out.ext he16
                  have HK16 := Lib.hid (HK15.out.ext he16)
                  have HX16 := Lib.hid (HX15.out.trans he16)
                  have u0 := hk16.cell (i := 0) (by simp); have u1 := hk16.cell (i := 1) (by simp); have f0 := hk16.free 0; have f1 := hk16.free 1
                  simp only [List.getElem_cons_zero, List.getElem_cons_succ] at u0 u1
                  have hst : R.Fr (fun k => k = w9.heap.size) w16 ((w16.setCell ⟨w9.heap.size, 0, none⟩ (.slice none 0 0)).setCell ⟨w9.heap.size, 1, none⟩ (.int .i64 0)) := ((R.Fr.refl (fun k => k = w9.heap.size) w16).setCell (p := ⟨w9.heap.size, 0, none⟩) (.inl rfl) _).setCell (p := ⟨w9.heap.size, 1, none⟩) (.inl rfl) _
                  have HK17 := Lib.hid ((hk16.set 0 (.slice none 0 0)).set 1 (.int .i64 0))
                  have HK18 := Lib.hid (R.Bk.fr HK16.out hst (by show ¬ w5.heap.size = w9.heap.size; omega))
                  have HX17 : Hid (Ext w ((w16.setCell ⟨w9.heap.size, 0, none⟩ (.slice none 0 0)).setCell ⟨w9.heap.size, 1, none⟩ (.int .i64 0))) := Lib.hid ((HX16.out.setCell (p := ⟨w9.heap.size, 0, none⟩) (by show w.heap.size ≤ w9.heap.size; omega) _).setCell (p := ⟨w9.heap.size, 1, none⟩) (by show w.heap.size ≤ w9.heap.size; omega) _)
                  clear hst he16 d0' d1'
                  go_upto_region 34 with fail
                  generalize ((w16.setCell ⟨w9.heap.size, 0, none⟩ (.slice none 0 0)).setCell ⟨w9.heap.size, 1, none⟩ (.int .i64 0)) = w17 at *
                  clear hk16 u0 u1 f0 f1
                  have u0 := R.Bk.cell HK17.out (i := 0) (by simp); have u1 := R.Bk.cell HK17.out (i := 1) (by simp)
                  have v0 := R.Bk.cell HK18.out (i := 0) (by simp); have v1 := R.Bk.cell HK18.out (i := 1) (by simp)
                  simp only [List.set_cons_zero, List.set_cons_succ, List.getElem_cons_zero, List.getElem_cons_succ] at u0 u1 v0 v1
                  have HTZ : Hid (∀ V : World, Tp V (.agg #[.slice none 0 0, .int .i64 0]) [] 0) := Lib.hid (fun V => ⟨_, rfl, By.nil V⟩)
                  go_wp2_with fail
                  (with_reducible refine (zero_tp (HTZ.out _)).mono ?_)
                  rintro e w18 ⟨z18, rfl, he18, rfl⟩
                  replace u0 := he18.cell u0; replace u1 := he18.cell u1
                  have HX18 := Lib.hid (HX17.out.trans he18)
                  clear he18 v0 v1
                  rw [show zeroB ([] : List Nat).length 0 = true from rfl]
                  go_wp2_with fail
                  (with_reducible refine (zero_tp (HTZ.out _)).mono ?_)
                  rintro e w19 ⟨z19, rfl, he19, rfl⟩
                  have HX19 := Lib.hid (HX18.out.trans he19)
                  clear he19 u0 u1
                  rw [show zeroB ([] : List Nat).length 0 = true from rfl]
                  go_wp2_with fail
                  (with_reducible refine (awake_true _).mono ?_)
                  rintro e w20 ⟨z20, rfl, he20, rfl⟩
                  have HX20 := Lib.hid (HX19.out.trans he20)
                  clear he20
                  go_wp2_with fail
                  go_ret
                  exact Ret.mk HX20.out rfl
end Go.Proofs.Ytjpkaljndfgkjaa
