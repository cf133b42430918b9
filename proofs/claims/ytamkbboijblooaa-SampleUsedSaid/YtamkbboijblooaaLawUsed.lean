/- The walk of SampleUsed. -/
import Derived.Test.YtamkbboijblooaaUsedA
import Derived.BigRegion
namespace Go.Proofs.Ytamkbboijblooaa
open Go.RowKit

set_option maxRecDepth 20000 in
set_option maxHeartbeats 3200000 in
theorem used_great {w : World} {t mo : Value} {n : Nat} {bs ms : List Nat} {pos : Int} (ht : Tp w t bs pos) (hmo : By w mo ms) (hg : Hid (greatB bs.length pos = true)) :
    Calls Try.prog 4 #[.int .u16 (n : Int), t, mo] w (Ret (fun x _ => x = .bool true) w) := by
  obtain ⟨s, rfl, hs⟩ := ht
  obtain ⟨A, c, rfl, -⟩ := hs.parts
  obtain ⟨AM, cM, rfl, -⟩ := hmo.parts
  have HMO := Lib.hid hmo
  clear hmo
  go_enter Try.func4, Try.ntmps4
  go_wp2_with fail
  have hx : Ext w (w.alloc (.cells #[.slice A bs.length c, .int .i64 pos] 25)) := (Ext.refl w).alloc _
  have k0 := Bk.new w 25 [.slice A bs.length c, .int .i64 pos]
  change Bk (w.alloc (.cells #[.slice A bs.length c, .int .i64 pos] 25)) _ _ _ at k0
  generalize (w.alloc (.cells #[.slice A bs.length c, .int .i64 pos] 25)) = W at *
  have hW := hs.ext hx
  have d0 := k0.cell (i := 0) (by simp)
  have d1 := k0.cell (i := 1) (by simp)
  simp only [List.getElem_cons_zero, List.getElem_cons_succ] at d0 d1
  refine (great_tp ⟨_, rfl, hW⟩).mono ?_
  rintro e w1 ⟨x, rfl, he1, rfl⟩
  replace hx := hx.trans he1
  replace d0 := he1.cell d0
  replace d1 := he1.cell d1
  replace hW := hW.ext he1
  clear k0 he1
  rw [hg.out]
  clear d0 d1
  go_wp2_with fail
  refine (awake_true _).mono ?_
  rintro e w2 ⟨x, rfl, he2, rfl⟩
  go_wp2_with fail
  go_ret
  exact Ret.mk (hx.trans he2) rfl

set_option maxRecDepth 20000 in
set_option maxHeartbeats 3200000 in
theorem used_zero {w : World} {t mo : Value} {n : Nat} {bs ms : List Nat} {pos : Int} (ht : Tp w t bs pos) (hmo : By w mo ms) (hg : Hid (greatB bs.length pos = false)) (h0 : Hid (n = 0)) :
    Calls Try.prog 4 #[.int .u16 (n : Int), t, mo] w (Ret (fun x _ => x = .bool true) w) := by
  obtain ⟨s, rfl, hs⟩ := ht
  obtain ⟨A, c, rfl, -⟩ := hs.parts
  obtain ⟨AM, cM, rfl, -⟩ := hmo.parts
  have HMO := Lib.hid hmo
  clear hmo
  go_enter Try.func4, Try.ntmps4
  go_wp2_with fail
  have hx : Ext w (w.alloc (.cells #[.slice A bs.length c, .int .i64 pos] 25)) := (Ext.refl w).alloc _
  have k0 := Bk.new w 25 [.slice A bs.length c, .int .i64 pos]
  change Bk (w.alloc (.cells #[.slice A bs.length c, .int .i64 pos] 25)) _ _ _ at k0
  generalize (w.alloc (.cells #[.slice A bs.length c, .int .i64 pos] 25)) = W at *
  have hW := hs.ext hx
  have d0 := k0.cell (i := 0) (by simp)
  have d1 := k0.cell (i := 1) (by simp)
  simp only [List.getElem_cons_zero, List.getElem_cons_succ] at d0 d1
  refine (great_tp ⟨_, rfl, hW⟩).mono ?_
  rintro e w1 ⟨x, rfl, he1, rfl⟩
  replace hx := hx.trans he1
  replace d0 := he1.cell d0
  replace d1 := he1.cell d1
  replace hW := hW.ext he1
  clear k0 he1
  rw [hg.out]
  obtain rfl : n = 0 := h0.out
  clear d0 d1 h0
  go_wp2_with fail
  refine (awake_true _).mono ?_
  rintro e w2 ⟨x, rfl, he2, rfl⟩
  go_wp2_with fail
  go_ret
  exact Ret.mk (hx.trans he2) rfl

set_option maxRecDepth 20000 in
set_option maxHeartbeats 3200000 in
theorem used_long {w : World} {t mo : Value} {n : Nat} {bs ms : List Nat} {pos : Int} (ht : Tp w t bs pos) (hmo : By w mo ms) (hg : Hid (greatB bs.length pos = false)) (h0 : 0 < n) (hl : Hid (60 < ms.length)) :
    Calls Try.prog 4 #[.int .u16 (n : Int), t, mo] w (Ret (fun x _ => x = .bool true) w) := by
  have n0 : ((n : Int) == 0) = false := by simp; omega
  have l0 : decide ((60 : Int) < ms.length) = true := by have := hl.out; simp; omega
  obtain ⟨s, rfl, hs⟩ := ht
  obtain ⟨A, c, rfl, -⟩ := hs.parts
  obtain ⟨AM, cM, rfl, -⟩ := hmo.parts
  have HMO := Lib.hid hmo
  clear hmo
  go_enter Try.func4, Try.ntmps4
  go_wp2_with fail
  have hx : Ext w (w.alloc (.cells #[.slice A bs.length c, .int .i64 pos] 25)) := (Ext.refl w).alloc _
  have k0 := Bk.new w 25 [.slice A bs.length c, .int .i64 pos]
  change Bk (w.alloc (.cells #[.slice A bs.length c, .int .i64 pos] 25)) _ _ _ at k0
  generalize (w.alloc (.cells #[.slice A bs.length c, .int .i64 pos] 25)) = W at *
  have hW := hs.ext hx
  have d0 := k0.cell (i := 0) (by simp)
  have d1 := k0.cell (i := 1) (by simp)
  simp only [List.getElem_cons_zero, List.getElem_cons_succ] at d0 d1
  refine (great_tp ⟨_, rfl, hW⟩).mono ?_
  rintro e w1 ⟨x, rfl, he1, rfl⟩
  replace hx := hx.trans he1
  replace d0 := he1.cell d0
  replace d1 := he1.cell d1
  replace hW := hW.ext he1
  clear k0 he1
  rw [hg.out]
  clear d0 d1
  go_wp2_with fail
  refine (awake_true _).mono ?_
  rintro e w2 ⟨x, rfl, he2, rfl⟩
  go_wp2_with fail
  go_ret
  exact Ret.mk (hx.trans he2) rfl

set_option maxRecDepth 20000 in
set_option maxHeartbeats 3200000 in
theorem used_none {w : World} {t mo : Value} {n : Nat} {bs ms : List Nat} {pos : Int} (ht : Tp w t bs pos) (hmo : By w mo ms) (hn : n < 65536) (h0 : 0 < n) (hl : Hid (ms.length ≤ 60)) (hg : Hid (greatB bs.length pos = false)) (hp0 : Hid (0 ≤ pos)) (hp1 : Hid (pos ≤ 8 * bs.length)) (hlen0 : Hid (bs.length ≤ 60)) (hR : Hid (uni (bitAt bs) (8 * bs.length) n (blen (n - 1)) (8 * bs.length + 1) pos.toNat = none)) :
    Calls Try.prog 4 #[.int .u16 (n : Int), t, mo] w (Ret (fun x _ => x = .bool true) w) := by
  have n0 : ((n : Int) == 0) = false := by simp; omega
  have l0 : decide ((60 : Int) < ms.length) = false := by have := hl.out; simp; omega
  obtain ⟨s, rfl, hs⟩ := ht
  obtain ⟨A, c, rfl, -⟩ := hs.parts
  obtain ⟨AM, cM, rfl, -⟩ := hmo.parts
  have HMO := Lib.hid hmo
  clear hmo
  go_enter Try.func4, Try.ntmps4
  go_wp2_with fail
  have hx : Ext w (w.alloc (.cells #[.slice A bs.length c, .int .i64 pos] 25)) := (Ext.refl w).alloc _
  have k0 := Bk.new w 25 [.slice A bs.length c, .int .i64 pos]
  change Bk (w.alloc (.cells #[.slice A bs.length c, .int .i64 pos] 25)) _ _ _ at k0
  generalize (w.alloc (.cells #[.slice A bs.length c, .int .i64 pos] 25)) = W at *
  have hW := hs.ext hx
  have d0 := k0.cell (i := 0) (by simp)
  have d1 := k0.cell (i := 1) (by simp)
  simp only [List.getElem_cons_zero, List.getElem_cons_succ] at d0 d1
  refine (great_tp ⟨_, rfl, hW⟩).mono ?_
  rintro e w1 ⟨x, rfl, he1, rfl⟩
  replace hx := hx.trans he1
  replace d0 := he1.cell d0
  replace d1 := he1.cell d1
  replace hW := hW.ext he1
  clear k0 he1
  rw [hg.out]
  obtain ⟨p, rfl⟩ := Int.eq_ofNat_of_zero_le hp0.out
  have hp : p ≤ 8 * bs.length := by have := hp1.out; omega
  have hlen := hlen0.out
  have HR : Hid (uni (bitAt bs) (8 * bs.length) n (blen (n - 1)) (8 * bs.length + 1) p = none) := Lib.hid (by have := hR.out; rw [Int.toNat_natCast] at this; exact this)
  clear hg hp0 hp1 hlen0 hR
  have hcv : IntKind.u64.wrap (n : Int) = (n : Int) := u64_id (by omega)
  go_upto_region 3 with fail
  go_cut [9] (fun sc wx => sc = .int .i64 36 ∧ Ext w1 wx)
  case first =>
    go_region_held3 (fun V => Ext w1 V ∧ V.cell? ⟨w.heap.size, 0, none⟩ = some (.slice A bs.length c) ∧ V.cell? ⟨w.heap.size, 1, none⟩ = some (.int .i64 (p : Int)))
      ((refine (fun he => ⟨he, Ext.cell he d0, Ext.cell he d1⟩) ?_; repeat (first | exact Ext.refl _ | exact (Ext.refl _).drew | refine Ext.alloc ?_ _ | refine Ext.drew ?_ | refine Ext.setCell ?_ (by first | exact Nat.le_refl _ | (have := Ext.size hea; simp at this ⊢; omega)) _ | refine Ext.trans ?_ (by assumption))))
      (first
        | (go_at_call 19; refine (of_nz n (by omega) _).mono ?_; rintro e wa ⟨o, rfl, hea, hoa⟩)
        | (go_at_call 18; refine (Uniform_of (bs := bs) (n := n) (pos := p) none HR.out ?_ (by omega) (by omega) ?_ hp).mono ?_; (first | exact hoa | exact hoa.ext ((Ext.refl _).alloc _)); exact ⟨_, rfl, hW.ext (And.left (by assumption))⟩; rintro e wb ⟨heb, rfl⟩
           first
             | (have nb : Bk wb w1.heap.size 25 [.slice none 0 0, .int .i64 0] := (Bk.new w1.drew 25 [.slice none 0 0, .int .i64 0]).ext (Ext.trans hea heb); have g0 := nb.cell (i := 0) (by simp); have g1 := nb.cell (i := 1) (by simp); have f0 := nb.free 0; have f1 := nb.free 1)
             | (have nb : Bk wb wa.heap.size 25 [.slice none 0 0, .int .i64 0] := (Bk.new wa 25 [.slice none 0 0, .int .i64 0]).ext heb; have g0 := nb.cell (i := 0) (by simp); have g1 := nb.cell (i := 1) (by simp); have f0 := nb.free 0; have f1 := nb.free 1)
             | skip))
    all_goals
      have hfin := And.left (b := _ ∧ _) (by assumption)
      go_wp2_with fail
      go_meet
      exact ⟨rfl, hfin⟩
  case rest =>
    obtain ⟨rfl, he⟩ := hcut
    replace hx := hx.trans he
    clear he d0 d1 hW
    go_wp2_with fail
    refine (awake_true _).mono ?_
    rintro e w2 ⟨x, rfl, he2, rfl⟩
    go_wp2_with fail
    go_ret
    exact Ret.mk (hx.trans he2) rfl

set_option maxRecDepth 20000 in
set_option maxHeartbeats 3200000 in
theorem used_some {w : World} {t mo : Value} {n : Nat} {bs ms : List Nat} {pos : Int} (ht : Tp w t bs pos) (hmo : By w mo ms) (hn : n < 65536) (h0 : 0 < n) (hl : Hid (ms.length ≤ 60)) (hg : Hid (greatB bs.length pos = false)) (hp0 : Hid (0 ≤ pos)) (hp1 : Hid (pos ≤ 8 * bs.length)) (hlen0 : Hid (bs.length ≤ 60)) {y q : Nat} (hR : Hid (uni (bitAt bs) (8 * bs.length) n (blen (n - 1)) (8 * bs.length + 1) pos.toNat = some (y, q))) :
    Calls Try.prog 4 #[.int .u16 (n : Int), t, mo] w (Ret (fun x _ => x = .bool true) w) := by
  have n0 : ((n : Int) == 0) = false := by simp; omega
  have l0 : decide ((60 : Int) < ms.length) = false := by have := hl.out; simp; omega
  obtain ⟨s, rfl, hs⟩ := ht
  obtain ⟨A, c, rfl, -⟩ := hs.parts
  obtain ⟨AM, cM, rfl, -⟩ := hmo.parts
  have HMO := Lib.hid hmo
  clear hmo
  go_enter Try.func4, Try.ntmps4
  go_wp2_with fail
  have hx : Ext w (w.alloc (.cells #[.slice A bs.length c, .int .i64 pos] 25)) := (Ext.refl w).alloc _
  have k0 := Bk.new w 25 [.slice A bs.length c, .int .i64 pos]
  change Bk (w.alloc (.cells #[.slice A bs.length c, .int .i64 pos] 25)) _ _ _ at k0
  generalize (w.alloc (.cells #[.slice A bs.length c, .int .i64 pos] 25)) = W at *
  have hW := hs.ext hx
  have d0 := k0.cell (i := 0) (by simp)
  have d1 := k0.cell (i := 1) (by simp)
  simp only [List.getElem_cons_zero, List.getElem_cons_succ] at d0 d1
  refine (great_tp ⟨_, rfl, hW⟩).mono ?_
  rintro e w1 ⟨x, rfl, he1, rfl⟩
  replace hx := hx.trans he1
  replace d0 := he1.cell d0
  replace d1 := he1.cell d1
  replace hW := hW.ext he1
  clear k0 he1
  rw [hg.out]
  obtain ⟨p, rfl⟩ := Int.eq_ofNat_of_zero_le hp0.out
  have hp : p ≤ 8 * bs.length := by have := hp1.out; omega
  have hlen := hlen0.out
  have HR : Hid (uni (bitAt bs) (8 * bs.length) n (blen (n - 1)) (8 * bs.length + 1) p = some (y, q)) := Lib.hid (by have := hR.out; rw [Int.toNat_natCast] at this; exact this)
  clear hg hp0 hp1 hlen0 hR
  have hcv : IntKind.u64.wrap (n : Int) = (n : Int) := u64_id (by omega)
  go_upto_region 3 with fail
  go_cut [7, 8, 9] (fun sa sb sc wx => ∃ (g : Nat) (u : Value), w1.heap.size ≤ g ∧ sb = .pointer (some ⟨g, 0, none⟩) ∧ sc = .int .i64 0 ∧ Bk wx g 25 [u, .int .i64 (q : Int)] ∧ (∃ a b c, u = .slice a b c) ∧ Nz wx sa y ∧ Ext w1 wx)
  case first =>
    go_region_held3 (fun V => Ext w1 V ∧ V.cell? ⟨w.heap.size, 0, none⟩ = some (.slice A bs.length c) ∧ V.cell? ⟨w.heap.size, 1, none⟩ = some (.int .i64 (p : Int)))
      ((refine (fun he => ⟨he, Ext.cell he d0, Ext.cell he d1⟩) ?_; repeat (first | exact Ext.refl _ | exact (Ext.refl _).drew | refine Ext.alloc ?_ _ | refine Ext.drew ?_ | refine Ext.setCell ?_ (by first | exact Nat.le_refl _ | (have := Ext.size hea; simp at this ⊢; omega)) _ | refine Ext.trans ?_ (by assumption))))
      (first
        | (go_at_call 19; refine (of_nz n (by omega) _).mono ?_; rintro e wa ⟨o, rfl, hea, hoa⟩)
        | (go_at_call 18; refine (Uniform_of (bs := bs) (n := n) (pos := p) (some (y, q)) HR.out ?_ (by omega) (by omega) ?_ hp).mono ?_; (first | exact hoa | exact hoa.ext ((Ext.refl _).alloc _)); exact ⟨_, rfl, hW.ext (And.left (by assumption))⟩; rintro e wb ⟨heb, v, t', rfl, hv, s', rfl, hs'⟩; obtain ⟨A', c', rfl, -⟩ := hs'.parts
           first
             | (have nb : Bk wb w1.heap.size 25 [.slice none 0 0, .int .i64 0] := (Bk.new w1.drew 25 [.slice none 0 0, .int .i64 0]).ext (Ext.trans hea heb); have g0 := nb.cell (i := 0) (by simp); have g1 := nb.cell (i := 1) (by simp); have f0 := nb.free 0; have f1 := nb.free 1)
             | (have nb : Bk wb wa.heap.size 25 [.slice none 0 0, .int .i64 0] := (Bk.new wa 25 [.slice none 0 0, .int .i64 0]).ext heb; have g0 := nb.cell (i := 0) (by simp); have g1 := nb.cell (i := 1) (by simp); have f0 := nb.free 0; have f1 := nb.free 1)
             | skip))
    all_goals
      have hfin := And.left (b := _ ∧ _) (by assumption)
      go_wp2_with fail
      go_meet
      first
        | exact ⟨wb.heap.size, _, Ext.size (Ext.trans ((Ext.refl _).drew.trans hea) heb), rfl, rfl, Bk.new wb _ [_, _], ⟨_, _, _, rfl⟩, hv.ext ((Ext.refl _).alloc _), hfin⟩
        | exact ⟨_, _, Nat.le_refl _, rfl, rfl, (nb.set 0 _).set 1 _, ⟨_, _, _, rfl⟩, Dg.mod hv nb (by simp [U32]) (stored2 _ _ _ _), hfin⟩
        | exact ⟨_, _, Ext.size ((Ext.refl _).drew.trans hea), rfl, rfl, (nb.set 0 _).set 1 _, ⟨_, _, _, rfl⟩, Dg.mod hv nb (by simp [U32]) (stored2 _ _ _ _), hfin⟩
  case rest =>
    obtain ⟨g8, u8v, hg8, rfl, rfl, hb8, hu8, hz, he⟩ := hcut
    obtain ⟨W2, rfl⟩ : ∃ W2 : World, W2 = wc := ⟨_, rfl⟩
    have HMO2 := Lib.hid ((HMO.out.ext hx).ext he)
    replace d0 := he.cell d0
    replace d1 := he.cell d1
    replace hW := hW.ext he
    replace hx := hx.trans he
    have HZ2 := Lib.hid hz; have HB8 := Lib.hid hb8; have HX2 := Lib.hid hx
    have hg8l := hb8.lt
    have hwl := hx.size
    clear he HMO hz hb8 hx
    go_upto_region 6 with fail
    obtain ⟨i0, hi0, hz0, hz1, hz2⟩ := info_parts info_u8
    have HI := Lib.hid (And.intro hi0 (And.intro hz0 (And.intro hz1 hz2))); clear hi0 hz0 hz1 hz2
    have hml : ms.length ≤ 60 := hl.out
    obtain ⟨cs, hcs⟩ : ∃ cs, cs = bs ++ ms := ⟨_, rfl⟩
    have hcl : cs.length ≤ 120 := by rw [hcs, List.length_append]; omega
    have hcl2 : bs.length ≤ cs.length := by rw [hcs, List.length_append]; omega
    have HCB := Lib.hid (show ∀ b ∈ cs, b < 256 by rw [hcs]; exact cat_lt hW.1 HMO2.out.1)
    have HR3 : Hid (uni (bitAt cs) (8 * cs.length) n (blen (n - 1)) (8 * cs.length + 1) p = some (y, q)) := Lib.hid (uni_tape HR.out (fun i hi => by have := uni_some HR.out; rw [hcs]; exact bitAt_append (by omega)) hcl2)
    have hp3 : p ≤ 8 * cs.length := by omega
    have hq3 : q ≤ 8 * cs.length := by have := uni_some HR.out; omega
    have HCS := Lib.hid hcs
    clear hcs
    go_cut [10] (fun s wx => ∃ (gv cv : Nat) (Av : Option Addr), W2.heap.size ≤ gv ∧ s = .pointer (some ⟨gv, 0, none⟩) ∧ Bk wx gv 25 [.slice Av cs.length cv, .int .i64 (p : Int)] ∧ wx.ownsRow W2.heap.size 5 1 (.slice Av cs.length cv) cs.length (cs.map U8) ∧ Ext W2 wx)
    case first =>
      go_region_held3 (fun V => Ext W2 V ∧ V.cell? ⟨w.heap.size, 0, none⟩ = some (.slice A bs.length c) ∧ V.cell? ⟨w.heap.size, 1, none⟩ = some (.int .i64 (p : Int)))
        ((refine (fun he => ⟨he, Ext.cell he d0, Ext.cell he d1⟩) ?_; repeat (first | exact hex | exact Ext.refl _ | exact (Ext.refl _).drew | refine Ext.alloc ?_ _ | refine Ext.drew ?_ | refine Ext.setCell ?_ (by first | exact Nat.le_refl _ | (have := Ext.size hea; simp at this ⊢; omega)) _ | refine Ext.trans ?_ (by assumption))))
        (first
          | (go_at_call 25; refine (cloneB (bs := bs) ?_).mono ?_; exact hW.ext (And.left (by assumption)); rintro e wa ⟨xv, rfl, hea, hown⟩)
          | (refine step_append_sl (by rfl) _ _ _ (by rfl) W2.heap.size 5 i0 (.int .u8 0) 1 Try.underlying23 HI.out.1 HI.out.2.1 HI.out.2.2.1 HI.out.2.2.2 rfl xv bs.length (bs.map U8) (by rfl) (by first | exact own_base hown (by simp) | exact (own_base hown (by simp)).alloc _) _ (ms.map U8) (by rfl) (by exact (HMO2.out.ext (And.left (by assumption))).2.2) (oneCell_u8 ms) (by simp only [maxLen, List.length_map]; omega) (by simp only [List.length_map]; omega) (Ext.size (And.left (by assumption))) ?_
             intro v' wb hown2 hgrow
             have hex : Ext W2 wb := Ext.grown (And.left (by assumption)) hgrow (fun g hg => ((own_base (b2 := W2.heap.size) hown (by simp)).lt g hg).1)
             rw [List.length_map, ← List.length_append, ← List.map_append, ← HCS.out] at hown2
             obtain ⟨Av, cv, rfl⟩ := own_slice hown2
             first
               | (have nb : Bk wb W2.heap.size 25 [.slice none 0 0, .int .i64 0] := grown_bk hgrow ((Bk.new W2.drew 25 [.slice none 0 0, .int .i64 0]).ext hea) (fun g hg => by have := (hown.lt g hg).1; simp at this; omega); have g0 := nb.cell (i := 0) (by simp); have g1 := nb.cell (i := 1) (by simp); have f0 := nb.free 0; have f1 := nb.free 1)
               | (have nb : Bk wb wa.heap.size 25 [.slice none 0 0, .int .i64 0] := grown_bk hgrow (Bk.new wa 25 [.slice none 0 0, .int .i64 0]) (fun g hg => by have := (hown.lt g hg).2; omega); have g0 := nb.cell (i := 0) (by simp); have g1 := nb.cell (i := 1) (by simp); have f0 := nb.free 0; have f1 := nb.free 1)
               | skip))
      all_goals
        have hfin := And.left (b := _ ∧ _) (by assumption)
        go_wp2_with fail
        go_meet
        first
          | exact ⟨wb.heap.size, cv, Av, hex.size, rfl, Bk.new wb _ [_, _], hown2.alloc _, hfin⟩
          | exact ⟨_, cv, Av, Nat.le_refl _, rfl, (nb.set 0 _).set 1 _, own_of_heap hown2 (fun g hg => stored_far (own_ne hown2 nb (by decide) g hg)), hfin⟩
          | exact ⟨_, cv, Av, Ext.size ((Ext.refl _).drew.trans hea), rfl, (nb.set 0 _).set 1 _, own_of_heap hown2 (fun g hg => stored_far (own_ne hown2 nb (by decide) g hg)), hfin⟩
    case rest =>
      obtain ⟨gv, cv, Av, hgv, rfl, hbv, hown, he⟩ := hcut
      obtain ⟨W3, rfl⟩ : ∃ W3 : World, W3 = wc := ⟨_, rfl⟩
      have hob := OB.of_own hown
      have hby3 := hob.by HCB.out (by omega)
      have hxx := he
      have hsz3 := he.size
      have v0 := hbv.cell (i := 0) (by simp)
      have v1 := hbv.cell (i := 1) (by simp)
      simp only [List.getElem_cons_zero, List.getElem_cons_succ] at v0 v1
      have HOB := Lib.hid hob
      clear he hown hob d0 d1 hW HMO2 HR
      go_upto_region 7 with fail
      go_cut [11, 12, 13] (fun sa sb sc wx => ∃ (g : Nat) (u : Value), W3.heap.size ≤ g ∧ sb = .pointer (some ⟨g, 0, none⟩) ∧ sc = .int .i64 0 ∧ Bk wx g 25 [u, .int .i64 (q : Int)] ∧ (∃ a b c, u = .slice a b c) ∧ Nz wx sa y ∧ Ext W3 wx)
      case first =>
        go_region_held3 (fun V => Ext W3 V ∧ V.cell? ⟨gv, 0, none⟩ = some (.slice Av cs.length cv) ∧ V.cell? ⟨gv, 1, none⟩ = some (.int .i64 (p : Int)))
          ((refine (fun he => ⟨he, Ext.cell he v0, Ext.cell he v1⟩) ?_; repeat (first | exact Ext.refl _ | exact (Ext.refl _).drew | refine Ext.alloc ?_ _ | refine Ext.drew ?_ | refine Ext.setCell ?_ (by first | exact Nat.le_refl _ | (have := Ext.size hea; simp at this ⊢; omega)) _ | refine Ext.trans ?_ (by assumption))))
          (first
            | (go_at_call 19; refine (of_nz n (by omega) _).mono ?_; rintro e wa ⟨o, rfl, hea, hoa⟩)
            | (go_at_call 18; refine (Uniform_of (bs := cs) (n := n) (pos := p) (some (y, q)) HR3.out ?_ (by omega) (by omega) ?_ hp3).mono ?_; (first | exact hoa | exact hoa.ext ((Ext.refl _).alloc _)); exact ⟨_, rfl, hby3.ext (And.left (by assumption))⟩; rintro e wb ⟨heb, v, t', rfl, hv, s', rfl, hs'⟩; obtain ⟨A', c', rfl, -⟩ := hs'.parts
               first
                 | (have nb : Bk wb W3.heap.size 25 [.slice none 0 0, .int .i64 0] := (Bk.new W3.drew 25 [.slice none 0 0, .int .i64 0]).ext (Ext.trans hea heb); have g0 := nb.cell (i := 0) (by simp); have g1 := nb.cell (i := 1) (by simp); have f0 := nb.free 0; have f1 := nb.free 1)
                 | (have nb : Bk wb wa.heap.size 25 [.slice none 0 0, .int .i64 0] := (Bk.new wa 25 [.slice none 0 0, .int .i64 0]).ext heb; have g0 := nb.cell (i := 0) (by simp); have g1 := nb.cell (i := 1) (by simp); have f0 := nb.free 0; have f1 := nb.free 1)
                 | skip))
        all_goals
          have hfin := And.left (b := _ ∧ _) (by assumption)
          go_wp2_with fail
          go_meet
          first
            | exact ⟨wb.heap.size, _, Ext.size (Ext.trans ((Ext.refl _).drew.trans hea) heb), rfl, rfl, Bk.new wb _ [_, _], ⟨_, _, _, rfl⟩, hv.ext ((Ext.refl _).alloc _), hfin⟩
            | exact ⟨_, _, Nat.le_refl _, rfl, rfl, (nb.set 0 _).set 1 _, ⟨_, _, _, rfl⟩, Dg.mod hv nb (by simp [U32]) (stored2 _ _ _ _), hfin⟩
            | exact ⟨_, _, Ext.size ((Ext.refl _).drew.trans hea), rfl, rfl, (nb.set 0 _).set 1 _, ⟨_, _, _, rfl⟩, Dg.mod hv nb (by simp [U32]) (stored2 _ _ _ _), hfin⟩
      case rest =>
        obtain ⟨g12, u12, hg12, rfl, rfl, hb12, hu12, hz12, he⟩ := hcut
        obtain ⟨W4, rfl⟩ : ∃ W4 : World, W4 = wc := ⟨_, rfl⟩
        have hgvl := hbv.lt
        replace hbv := hbv.ext he
        replace hxx := hxx.trans he
        have hob := HOB.out.ext he
        clear he HOB v0 v1 hby3
        go_wp2_with fail
        refine (cmp_nv (HZ2.out.ext hxx).nv hz12.nv).mono ?_
        rintro e W5 ⟨rfl, hq5⟩
        rw [cmpI_eq rfl]
        have he := hq5.ext
        replace hb12 := hb12.ext he
        replace hbv := hbv.ext he
        replace hxx := hxx.trans he
        replace hob := hob.ext he
        clear he hq5 hz12
        have a8 := (HB8.out.ext hxx).cell (i := 1) (by simp)
        have a12 := hb12.cell (i := 1) (by simp)
        simp only [List.getElem_cons_zero, List.getElem_cons_succ] at a8 a12
        go_wp2_with fail
        have hgg : g8 ≠ g12 := by omega
        have hgg2 : gv ≠ g12 := by omega
        have hgg3 : gv ≠ g8 := by omega
        have hg12W : W2.heap.size ≤ g12 := by omega
        clear hgvl
        have HOB := Lib.hid hob; have HB12 := Lib.hid hb12; have HBV := Lib.hid hbv; have HXX := Lib.hid hxx
        clear hob hb12 hbv hxx a8 a12
        go_loopw [14] (fun t wr => ∃ (i : Nat) (es : List Nat), q ≤ i ∧ i ≤ 8 * cs.length ∧ t = .int .i64 (i : Int) ∧ Hid (es.length = cs.length ∧ (∀ b ∈ es, b < 256) ∧ (∀ j, j < q → bitAt cs j = bitAt es j)) ∧ OB wr W2.heap.size (.slice Av cs.length cv) es ∧ Bk wr g12 25 [u12, .int .i64 (q : Int)] ∧ Bk wr gv 25 [.slice Av cs.length cv, .int .i64 (p : Int)] ∧ Ext W2 wr) (fun t _ => 8 * cs.length - (intOf t).toNat)
        case atStart => exact ⟨q, cs, Nat.le_refl _, hq3, rfl, Lib.hid ⟨rfl, HCB.out, fun _ _ => rfl⟩, HOB.out, HB12.out, HBV.out, HXX.out⟩
        case round =>
          clear HOB HB12 HBV HXX
          obtain ⟨i, es, hqi, hi, rfl, HES, hob, hb12, hbv, hx⟩ := hrel
          have v0 := hbv.cell (i := 0) (by simp)
          have v1 := hbv.cell (i := 1) (by simp)
          simp only [List.getElem_cons_zero, List.getElem_cons_succ] at v0 v1
          by_cases hlt : i < 8 * cs.length
          · have hltI : (i : Int) < 8 * (cs.length : Int) := by omega
            have hlen2 := HES.out.1
            obtain ⟨gb, hAv, hgb, hgbl, tl, hbb⟩ : ∃ gb, Av = some ⟨gb, 0, none⟩ ∧ W2.heap.size ≤ gb ∧ cs.length ≤ cv ∧ ∃ tl, Bk wr gb 5 (es.map U8 ++ tl) := by
              rcases hob with ⟨h, _⟩ | ⟨g, cap, tl, h, h2, h3, h4⟩
              · injection h with _ h _; omega
              · injection h with h5 h6 h7
                exact ⟨g, h5, h3, by omega, tl, h4⟩
            subst hAv
            have hdiv : i / 8 < es.length := by omega
            obtain ⟨d, hd⟩ : ∃ d, d = i / 8 := ⟨_, rfl⟩
            obtain ⟨r, hr⟩ : ∃ r, r = i % 8 := ⟨_, rfl⟩
            have hdI : (i : Int) / 8 = (d : Int) := by omega
            have hrI : (i : Int) % 8 = (r : Int) := by omega
            have hr8 : r < 8 := by omega
            have hdl : d < cs.length := by omega
            have dI0 : (0 : Int) ≤ (d : Int) := by omega
            have dI1 : (d : Int) < (cs.length : Int) := by omega
            have hcell := hbb.cell (i := d) (by simp; omega)
            have hfree := hbb.free d
            obtain ⟨x, hxd⟩ : ∃ x, x = es.getD d 0 := ⟨_, rfl⟩
            rw [List.getElem_append_left (by simp; omega)] at hcell
            have hcell2 : wr.cell? ⟨gb, d, none⟩ = some (.int .u8 (x : Int)) := by rw [hcell, hxd]; simp [List.getD, show d < es.length by omega]
            clear hcell
            have hxb : x < 256 := by rw [hxd]; simp only [List.getD, List.getElem?_eq_getElem (show d < es.length by omega), Option.getD_some]; exact HES.out.2.1 _ (List.getElem_mem _)
            have hput := OB.put hbb hlen2 hgbl hgb (show d < es.length by omega) (x ^^^ 2 ^ r)
            have hxl := xor_lt ⟨x, hxb⟩ ⟨r, hr8⟩
            have hmod : Mod gb wr (wr.setCell ⟨gb, d, none⟩ (.int .u8 ((x ^^^ 2 ^ r : Nat) : Int))) := (Mod.refl _ wr).setCell (.inl rfl) _
            have hne : ∀ k ys, Bk wr k 25 ys → k ≠ gb := by
              rintro k ys hk rfl
              unfold Bk at hk hbb
              rw [hk] at hbb
              injection hbb with h
              injection h with _ h _
              exact absurd h (by decide)
            have hES2 : Hid ((es.set d (x ^^^ 2 ^ r)).length = cs.length ∧ (∀ b ∈ es.set d (x ^^^ 2 ^ r), b < 256) ∧ (∀ j, j < q → bitAt cs j = bitAt (es.set d (x ^^^ 2 ^ r)) j)) := by
              refine Lib.hid ⟨by simpa using hlen2, fun b hb => ?_, fun j hj => ?_⟩
              · rcases List.mem_or_eq_of_mem_set hb with h | h
                · exact HES.out.2.1 b h
                · rw [h]; exact hxl
              · rw [HES.out.2.2 j hj, hxd, hd, hr]
                exact (bitAt_turn HES.out.2.1 (by omega) (by omega)).symm
            have k12 := hmod.bk hb12 (hne _ _ hb12)
            have kv := hmod.bk hbv (hne _ _ hbv)
            have hx2 := hx.setCell (p := ⟨gb, d, none⟩) hgb (.int .u8 ((x ^^^ 2 ^ r : Nat) : Int))
            have HALL := Lib.hid (And.intro hput (And.intro k12 (And.intro kv hx2)))
            have hxr := fun k hk => xor_at hxb hr8 k hk
            generalize es.set d (x ^^^ 2 ^ r) = es2 at *
            generalize hX : x ^^^ 2 ^ r = X at *
            have HXR := Lib.hid hxr
            clear hput k12 kv hx2 hmod hne hb12 hbv hx hob hbb HES hX hxr hxl hd hr hxd hlen2 hdiv
            rcases (show r = 0 ∨ r = 1 ∨ r = 2 ∨ r = 3 ∨ r = 4 ∨ r = 5 ∨ r = 6 ∨ r = 7 by omega) with rfl | rfl | rfl | rfl | rfl | rfl | rfl | rfl
            · have hxx := HXR.out 1 rfl
              go_upto_region 13 with fail
              go_region
              all_goals
                go_wp2_with fail
                go_roundw
                case rel => exact ⟨i + 1, es2, by omega, by omega, by go_num, hES2, HALL.out.1.ext ((Ext.refl _).drew), HALL.out.2.1, HALL.out.2.2.1, HALL.out.2.2.2.drew⟩
                case measure => simp [intOf]; omega
            · have hxx := HXR.out 2 rfl
              go_upto_region 13 with fail
              go_region
              all_goals
                go_wp2_with fail
                go_roundw
                case rel => exact ⟨i + 1, es2, by omega, by omega, by go_num, hES2, HALL.out.1.ext ((Ext.refl _).drew), HALL.out.2.1, HALL.out.2.2.1, HALL.out.2.2.2.drew⟩
                case measure => simp [intOf]; omega
            · have hxx := HXR.out 4 rfl
              go_upto_region 13 with fail
              go_region
              all_goals
                go_wp2_with fail
                go_roundw
                case rel => exact ⟨i + 1, es2, by omega, by omega, by go_num, hES2, HALL.out.1.ext ((Ext.refl _).drew), HALL.out.2.1, HALL.out.2.2.1, HALL.out.2.2.2.drew⟩
                case measure => simp [intOf]; omega
            · have hxx := HXR.out 8 rfl
              go_upto_region 13 with fail
              go_region
              all_goals
                go_wp2_with fail
                go_roundw
                case rel => exact ⟨i + 1, es2, by omega, by omega, by go_num, hES2, HALL.out.1.ext ((Ext.refl _).drew), HALL.out.2.1, HALL.out.2.2.1, HALL.out.2.2.2.drew⟩
                case measure => simp [intOf]; omega
            · have hxx := HXR.out 16 rfl
              go_upto_region 13 with fail
              go_region
              all_goals
                go_wp2_with fail
                go_roundw
                case rel => exact ⟨i + 1, es2, by omega, by omega, by go_num, hES2, HALL.out.1.ext ((Ext.refl _).drew), HALL.out.2.1, HALL.out.2.2.1, HALL.out.2.2.2.drew⟩
                case measure => simp [intOf]; omega
            · have hxx := HXR.out 32 rfl
              go_upto_region 13 with fail
              go_region
              all_goals
                go_wp2_with fail
                go_roundw
                case rel => exact ⟨i + 1, es2, by omega, by omega, by go_num, hES2, HALL.out.1.ext ((Ext.refl _).drew), HALL.out.2.1, HALL.out.2.2.1, HALL.out.2.2.2.drew⟩
                case measure => simp [intOf]; omega
            · have hxx := HXR.out 64 rfl
              go_upto_region 13 with fail
              go_region
              all_goals
                go_wp2_with fail
                go_roundw
                case rel => exact ⟨i + 1, es2, by omega, by omega, by go_num, hES2, HALL.out.1.ext ((Ext.refl _).drew), HALL.out.2.1, HALL.out.2.2.1, HALL.out.2.2.2.drew⟩
                case measure => simp [intOf]; omega
            · have hxx := HXR.out 128 rfl
              go_upto_region 13 with fail
              go_region
              all_goals
                go_wp2_with fail
                go_roundw
                case rel => exact ⟨i + 1, es2, by omega, by omega, by go_num, hES2, HALL.out.1.ext ((Ext.refl _).drew), HALL.out.2.1, HALL.out.2.2.1, HALL.out.2.2.2.drew⟩
                case measure => simp [intOf]; omega
          · have hltI : ¬ (i : Int) < 8 * (cs.length : Int) := by omega
            have hlen2 := HES.out.1
            have hby4 := hob.by HES.out.2.1 (by omega)
            have HR4 : Hid (uni (bitAt es) (8 * es.length) n (blen (n - 1)) (8 * es.length + 1) p = some (y, q)) := Lib.hid (uni_tape HR3.out HES.out.2.2 (by omega))
            have hp4 : p ≤ 8 * es.length := by omega
            obtain ⟨ua, ub, uc, hu12'⟩ := hu12
            subst hu12'
            have HES2 := Lib.hid hlen2
            clear hlen2 HES hob hqi hi hlt
            go_upto_region 14 with fail
            go_region_held3 (fun V => Ext W2 V ∧ V.cell? ⟨gv, 0, none⟩ = some (.slice Av cs.length cv) ∧ V.cell? ⟨gv, 1, none⟩ = some (.int .i64 (p : Int)))
              (first
                | exact ⟨hx.drew, v0, v1⟩
                | exact ⟨hx.drew.trans hea, hea.cell v0, hea.cell v1⟩
                | exact ⟨(hx.drew.trans hea).trans heb, (hea.trans heb).cell v0, (hea.trans heb).cell v1⟩
                | exact ⟨(((hx.drew.trans hea).trans heb).setCell (p := ⟨g12, 0, none⟩) hg12W _).setCell (p := ⟨g12, 1, none⟩) hg12W _, cell_far (cell_far ((hea.trans heb).cell v0) (by simp; omega)) (by simp; omega), cell_far (cell_far ((hea.trans heb).cell v1) (by simp; omega)) (by simp; omega)⟩)
              (first
                | (go_at_call 19; refine (of_nz n (by omega) _).mono ?_; rintro e wa ⟨o, rfl, hea, hoa⟩)
                | (go_at_call 18; refine (Uniform_of (bs := es) (n := n) (pos := p) (some (y, q)) HR4.out hoa (by omega) (by omega) ⟨_, rfl, hby4.ext ((Ext.refl _).drew.trans hea)⟩ hp4).mono ?_; rintro e wb ⟨heb, v, t', rfl, hv, s', rfl, hs'⟩; obtain ⟨A', c', rfl, -⟩ := hs'.parts; have nb : Bk wb g12 25 [.slice ua ub uc, .int .i64 (q : Int)] := hb12.ext ((Ext.refl _).drew.trans (hea.trans heb)); have g0 := nb.cell (i := 0) (by simp); have g1 := nb.cell (i := 1) (by simp); have f0 := nb.free 0; have f1 := nb.free 1))
            have hxf := And.left (b := _ ∧ _) (by assumption)
            have hzf : Nz _ v y := Dg.mod hv nb (rd_u32 _ _ ⟨_, _, _, rfl⟩) (stored2 wb g12 (.slice A' es.length c') (.int .i64 (q : Int)))
            have hbf := (nb.set 0 (.slice A' es.length c')).set 1 (.int .i64 (q : Int))
            clear hv hs' nb g0 g1 f0 f1 v0 v1 hb12 hbv hx hby4
            go_wp2_with fail
            refine (cmp_nv (HZ2.out.ext hxf).nv hzf.nv).mono ?_
            rintro e W6 ⟨rfl, hq6⟩
            rw [cmpI_eq rfl]
            have a8 := ((HB8.out.ext hxf).ext hq6.ext).cell (i := 1) (by simp)
            have a12 := (hbf.ext hq6.ext).cell (i := 1) (by simp)
            simp at a8 a12
            have hx6 := hxf.trans hq6.ext
            clear hbf hzf
            go_wp2_with fail
            refine (awake_true _).mono ?_
            rintro e W7 ⟨_, rfl, he7, rfl⟩
            go_wp2_with fail
            go_ret
            exact Ret.mk ((HX2.out.trans hx6).trans he7) rfl


theorem law_used {w : World} {t mo : Value} {n : Nat} {bs ms : List Nat} {pos : Int} (hn : n < 65536) (ht : Tp w t bs pos) (hmo : By w mo ms) :
    Calls Try.prog 4 #[.int .u16 (n : Int), t, mo] w (Ret (fun x _ => x = .bool true) w) := by
  by_cases hg : greatB bs.length pos = true
  · exact used_great ht hmo (Lib.hid hg)
  · have hg' : greatB bs.length pos = false := by simpa using hg
    have h := hg'
    simp only [greatB, Bool.or_eq_false_iff, decide_eq_false_iff_not] at h
    obtain ⟨⟨h1, h2⟩, h3⟩ := h
    by_cases h0 : n = 0
    · exact used_zero ht hmo (Lib.hid hg') (Lib.hid h0)
    · by_cases hl : 60 < ms.length
      · exact used_long ht hmo (Lib.hid hg') (by omega) (Lib.hid hl)
      · rcases hR : uni (bitAt bs) (8 * bs.length) n (blen (n - 1)) (8 * bs.length + 1) pos.toNat with _ | ⟨y, q⟩
        · exact used_none ht hmo hn (by omega) (Lib.hid (by omega)) (Lib.hid hg') (Lib.hid (by omega)) (Lib.hid (by omega)) (Lib.hid (by omega)) (Lib.hid hR)
        · exact used_some ht hmo hn (by omega) (Lib.hid (by omega)) (Lib.hid hg') (Lib.hid (by omega)) (Lib.hid (by omega)) (Lib.hid (by omega)) (Lib.hid hR)
end Go.Proofs.Ytamkbboijblooaa
