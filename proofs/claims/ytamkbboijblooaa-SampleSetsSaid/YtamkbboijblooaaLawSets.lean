/- The walk of SampleSets. -/
import Derived.Test.YtamkbboijblooaaDistD
namespace Go.Proofs.Ytamkbboijblooaa
open Go.RowKit

/-- What Distinct returns, whatever its arguments: a slice, a tape, an error; and what they are. -/
def SetsOut (bs : List Nat) (R : Option (List Nat × Nat)) (err : Int) (w : World) (e : Ending) (w' : World) : Prop :=
  Ext w w' ∧ ∃ A k c A' k' c' q code, e = .returned (.tuple #[.slice A k c, .agg #[.slice A' k' c', .int .i64 q], .int .i64 code]) ∧
    match R with
    | none => k = 0 ∧ k' = 0 ∧ q = 0 ∧ code = err
    | some (l, p) => k = l.length ∧ k' = bs.length ∧ q = (p : Int) ∧ code = 0 ∧ Ns w' A l.length (fun i => l.getD i 0) ∧ By w' (.slice A' bs.length c') bs ∧ (∀ ad, A = some ad → w.heap.size ≤ ad.block)
theorem sets_ok {w : World} {u t : Value} {n m pos : Nat} {bs : List Nat} (R : Option (List Nat × Nat)) (hR : dist (bitAt bs) (8 * bs.length) m (n - m) [] pos = R) (hu : Nv w u n) (hn : n ≤ 255) (hm : m ≤ n) (ht : Tp w t bs pos) (hp : pos ≤ 8 * bs.length) :
    Calls Try.prog 45 #[u, .int .i64 (m : Int), t] w (SetsOut bs R 36 w) := by
  refine (distinct_any hu hn hm ht hp).mono ?_
  rw [hR]
  rintro e w' ⟨he, h⟩
  rcases R with _ | ⟨l, p⟩
  · simp only at h
    subst h
    exact ⟨he, _, _, _, _, _, _, _, _, rfl, rfl, rfl, rfl, rfl⟩
  · obtain ⟨A, c, A', c', rfl, h1, h2, h3⟩ := h
    exact ⟨he, _, _, _, _, _, _, _, _, rfl, rfl, rfl, rfl, rfl, h1, h2, h3⟩
theorem sets_bad {w : World} {u t : Value} {n : Nat} {m : Int} {pos : Int} {bs : List Nat} (hu : Nv w u n) (hm : m < 0 ∨ (n : Int) < m) (hm2 : m < 9223372036854775808) (ht : Tp w t bs pos) :
    Calls Try.prog 45 #[u, .int .i64 m, t] w (SetsOut bs none 3 w) := by
  by_cases h : m < 0
  · refine (distinct_neg h ht).mono ?_
    rintro e w' ⟨rfl, he⟩
    exact ⟨he, _, _, _, _, _, _, _, _, rfl, rfl, rfl, rfl, rfl⟩
  · obtain ⟨k, rfl⟩ := Int.eq_ofNat_of_zero_le (show 0 ≤ m by omega)
    refine (distinct_big hu (by omega) (by omega) ht).mono ?_
    rintro e w' ⟨rfl, he⟩
    exact ⟨he, _, _, _, _, _, _, _, _, rfl, rfl, rfl, rfl, rfl⟩

set_option maxRecDepth 20000 in
set_option maxHeartbeats 3200000 in
theorem sets_great {w : World} {t : Value} {n : Nat} {m : Int} {bs : List Nat} {pos : Int} (ht : Tp w t bs pos) (hg : Hid (greatB bs.length pos = true)) :
    Calls Try.prog 14 #[.int .u8 (n : Int), .int .i64 m, t] w (Ret (fun x _ => x = .bool true) w) := by
  obtain ⟨s, rfl, hs⟩ := ht
  obtain ⟨A, c, rfl, -⟩ := hs.parts
  go_enter Try.func14, Try.ntmps14
  go_wp2_with fail
  have hx : Ext w (w.alloc (.cells #[.slice A bs.length c, .int .i64 pos] 25)) := (Ext.refl w).alloc _
  have k0 := Bk.new w 25 [.slice A bs.length c, .int .i64 pos]
  change Bk (w.alloc (.cells #[.slice A bs.length c, .int .i64 pos] 25)) _ _ _ at k0
  generalize (w.alloc (.cells #[.slice A bs.length c, .int .i64 pos] 25)) = W at *
  have hW := hs.ext hx
  have d0 := k0.cell (i := 0) (by simp)
  have d1 := k0.cell (i := 1) (by simp)
  simp only [List.getElem_cons_zero, List.getElem_cons_succ] at d0 d1
  refine (great_tp ⟨_, rfl, hW⟩).mono ?_
  rintro e w1 ⟨x, rfl, he1, rfl⟩
  replace hx := hx.trans he1
  replace d0 := he1.cell d0
  replace d1 := he1.cell d1
  replace hW := hW.ext he1
  clear k0 he1
  rw [hg.out]
  clear d0 d1
  go_wp2_with fail
  refine (awake_true _).mono ?_
  rintro e w2 ⟨x, rfl, he2, rfl⟩
  go_wp2_with fail
  go_ret
  exact Ret.mk (hx.trans he2) rfl

set_option maxRecDepth 20000 in
set_option maxHeartbeats 3200000 in
theorem sets_neg {w : World} {t : Value} {n : Nat} {m : Int} {bs : List Nat} {pos : Int} (ht : Tp w t bs pos) (hn : n < 256) (hg : Hid (greatB bs.length pos = false)) (hneg : m < 0) (hm : Hid (m < 0 ∨ (n : Int) < m)) (hm2 : Hid (m < 9223372036854775808)) :
    Calls Try.prog 14 #[.int .u8 (n : Int), .int .i64 m, t] w (Ret (fun x _ => x = .bool true) w) := by
  have b0 : decide (m < 0) = true := by simp; omega
  obtain ⟨s, rfl, hs⟩ := ht
  obtain ⟨A, c, rfl, -⟩ := hs.parts
  go_enter Try.func14, Try.ntmps14
  go_wp2_with fail
  have hx : Ext w (w.alloc (.cells #[.slice A bs.length c, .int .i64 pos] 25)) := (Ext.refl w).alloc _
  have k0 := Bk.new w 25 [.slice A bs.length c, .int .i64 pos]
  change Bk (w.alloc (.cells #[.slice A bs.length c, .int .i64 pos] 25)) _ _ _ at k0
  generalize (w.alloc (.cells #[.slice A bs.length c, .int .i64 pos] 25)) = W at *
  have hW := hs.ext hx
  have d0 := k0.cell (i := 0) (by simp)
  have d1 := k0.cell (i := 1) (by simp)
  simp only [List.getElem_cons_zero, List.getElem_cons_succ] at d0 d1
  refine (great_tp ⟨_, rfl, hW⟩).mono ?_
  rintro e w1 ⟨x, rfl, he1, rfl⟩
  replace hx := hx.trans he1
  replace d0 := he1.cell d0
  replace d1 := he1.cell d1
  replace hW := hW.ext he1
  clear k0 he1
  rw [hg.out]
  clear hg
  have hcv : IntKind.u64.wrap (n : Int) = (n : Int) := u64_id (by omega)
  go_upto_region 3 with fail
  go_cut [7, 8, 9] (fun sa sb sc wx => ∃ (g : Nat) (A7 : Option Addr) (k7 c7 : Nat) (A' : Option Addr) (k' c' : Nat) (q' code : Int), w1.heap.size ≤ g ∧ sb = .pointer (some ⟨g, 0, none⟩) ∧ sa = .slice A7 k7 c7 ∧ sc = .int .i64 code ∧ Bk wx g 25 [.slice A' k' c', .int .i64 q'] ∧ (k7 = 0 ∧ k' = 0 ∧ q' = 0 ∧ code = 3) ∧ Ext w1 wx)
  case first =>
    go_region_held3 (fun V => Ext w1 V ∧ V.cell? ⟨w.heap.size, 0, none⟩ = some (.slice A bs.length c) ∧ V.cell? ⟨w.heap.size, 1, none⟩ = some (.int .i64 pos))
      ((refine (fun he => ⟨he, Ext.cell he d0, Ext.cell he d1⟩) ?_; repeat (first | exact Ext.refl _ | exact (Ext.refl _).drew | refine Ext.alloc ?_ _ | refine Ext.drew ?_ | refine Ext.setCell ?_ (by first | exact Nat.le_refl _ | (have := Ext.size hea; simp at this ⊢; omega)) _ | refine Ext.trans ?_ (by assumption))))
      (first
        | (go_at_call 19; refine (of_nz n (by omega) _).mono ?_; rintro e wa ⟨o, rfl, hea, hoa⟩)
        | (go_at_call 45; refine (sets_bad (bs := bs) (pos := pos) (n := n) ?_ hm.out hm2.out ?_).mono ?_; (first | exact hoa.nv | exact (hoa.ext ((Ext.refl _).alloc _)).nv); exact ⟨_, rfl, hW.ext (And.left (by assumption))⟩; rintro e wb ⟨heb, A7, k7, c7, A', k', c', q', code, rfl, rfl, rfl, rfl, rfl⟩
           first
             | (have nb : Bk wb w1.heap.size 25 [.slice none 0 0, .int .i64 0] := (Bk.new w1.drew 25 [.slice none 0 0, .int .i64 0]).ext (Ext.trans hea heb); have g0 := nb.cell (i := 0) (by simp); have g1 := nb.cell (i := 1) (by simp); have f0 := nb.free 0; have f1 := nb.free 1)
             | (have nb : Bk wb wa.heap.size 25 [.slice none 0 0, .int .i64 0] := (Bk.new wa 25 [.slice none 0 0, .int .i64 0]).ext heb; have g0 := nb.cell (i := 0) (by simp); have g1 := nb.cell (i := 1) (by simp); have f0 := nb.free 0; have f1 := nb.free 1)
             | skip))
    all_goals
      have hfin := And.left (b := _ ∧ _) (by assumption)
      go_wp2_with fail
      go_meet
      first
        | exact ⟨wb.heap.size, _, _, _, _, _, _, _, _, Ext.size (Ext.trans ((Ext.refl _).drew.trans hea) heb), rfl, rfl, rfl, Bk.new wb _ [_, _], ⟨rfl, rfl, rfl, rfl⟩, hfin⟩
        | exact ⟨_, _, _, _, _, _, _, _, _, Nat.le_refl _, rfl, rfl, rfl, (nb.set 0 _).set 1 _, ⟨rfl, rfl, rfl, rfl⟩, hfin⟩
        | exact ⟨_, _, _, _, _, _, _, _, _, Ext.size ((Ext.refl _).drew.trans hea), rfl, rfl, rfl, (nb.set 0 _).set 1 _, ⟨rfl, rfl, rfl, rfl⟩, hfin⟩
  case rest =>
    obtain ⟨g, A7, k7, c7, A', k', c', q', code, hg8, rfl, rfl, rfl, hb8, hrel, he⟩ := hcut
    obtain ⟨W2, rfl⟩ : ∃ W2 : World, W2 = wc := ⟨_, rfl⟩
    replace d0 := he.cell d0
    replace d1 := he.cell d1
    replace hW := hW.ext he
    replace hx := hx.trans he
    clear he hcv
    obtain ⟨rfl, rfl, rfl, rfl⟩ := hrel
    have e0 := hb8.cell (i := 0) (by simp)
    have e1 := hb8.cell (i := 1) (by simp)
    simp only [List.getElem_cons_zero, List.getElem_cons_succ] at e0 e1
    go_wp2_with fail
    refine (zero_tp (bs := []) (pos := 0) ⟨_, rfl, ⟨by simp, by simp, A', c', rfl, Nat.zero_le _, fun h => by simp at h⟩⟩).mono ?_
    rintro e w3 ⟨x, rfl, he3, rfl⟩
    rw [show zeroB ([] : List Nat).length 0 = true from rfl]
    go_wp2_with fail
    refine (awake_true _).mono ?_
    rintro e w5 ⟨x, rfl, he5, rfl⟩
    go_wp2_with fail
    go_ret
    exact Ret.mk ((hx.trans he3).trans he5) rfl

set_option maxRecDepth 20000 in
set_option maxHeartbeats 3200000 in
theorem sets_big {w : World} {t : Value} {n : Nat} {m : Int} {bs : List Nat} {pos : Int} (ht : Tp w t bs pos) (hn : n < 256) (hg : Hid (greatB bs.length pos = false)) (hneg : ¬ m < 0) (hbig : (n : Int) < m) (hm : Hid (m < 0 ∨ (n : Int) < m)) (hm2 : Hid (m < 9223372036854775808)) :
    Calls Try.prog 14 #[.int .u8 (n : Int), .int .i64 m, t] w (Ret (fun x _ => x = .bool true) w) := by
  have b0 : decide (m < 0) = false := by simp; omega
  have b1 : decide ((n : Int) < m) = true := by simp; omega
  obtain ⟨s, rfl, hs⟩ := ht
  obtain ⟨A, c, rfl, -⟩ := hs.parts
  go_enter Try.func14, Try.ntmps14
  go_wp2_with fail
  have hx : Ext w (w.alloc (.cells #[.slice A bs.length c, .int .i64 pos] 25)) := (Ext.refl w).alloc _
  have k0 := Bk.new w 25 [.slice A bs.length c, .int .i64 pos]
  change Bk (w.alloc (.cells #[.slice A bs.length c, .int .i64 pos] 25)) _ _ _ at k0
  generalize (w.alloc (.cells #[.slice A bs.length c, .int .i64 pos] 25)) = W at *
  have hW := hs.ext hx
  have d0 := k0.cell (i := 0) (by simp)
  have d1 := k0.cell (i := 1) (by simp)
  simp only [List.getElem_cons_zero, List.getElem_cons_succ] at d0 d1
  refine (great_tp ⟨_, rfl, hW⟩).mono ?_
  rintro e w1 ⟨x, rfl, he1, rfl⟩
  replace hx := hx.trans he1
  replace d0 := he1.cell d0
  replace d1 := he1.cell d1
  replace hW := hW.ext he1
  clear k0 he1
  rw [hg.out]
  clear hg
  have hcv : IntKind.u64.wrap (n : Int) = (n : Int) := u64_id (by omega)
  go_upto_region 3 with fail
  go_cut [7, 8, 9] (fun sa sb sc wx => ∃ (g : Nat) (A7 : Option Addr) (k7 c7 : Nat) (A' : Option Addr) (k' c' : Nat) (q' code : Int), w1.heap.size ≤ g ∧ sb = .pointer (some ⟨g, 0, none⟩) ∧ sa = .slice A7 k7 c7 ∧ sc = .int .i64 code ∧ Bk wx g 25 [.slice A' k' c', .int .i64 q'] ∧ (k7 = 0 ∧ k' = 0 ∧ q' = 0 ∧ code = 3) ∧ Ext w1 wx)
  case first =>
    go_region_held3 (fun V => Ext w1 V ∧ V.cell? ⟨w.heap.size, 0, none⟩ = some (.slice A bs.length c) ∧ V.cell? ⟨w.heap.size, 1, none⟩ = some (.int .i64 pos))
      ((refine (fun he => ⟨he, Ext.cell he d0, Ext.cell he d1⟩) ?_; repeat (first | exact Ext.refl _ | exact (Ext.refl _).drew | refine Ext.alloc ?_ _ | refine Ext.drew ?_ | refine Ext.setCell ?_ (by first | exact Nat.le_refl _ | (have := Ext.size hea; simp at this ⊢; omega)) _ | refine Ext.trans ?_ (by assumption))))
      (first
        | (go_at_call 19; refine (of_nz n (by omega) _).mono ?_; rintro e wa ⟨o, rfl, hea, hoa⟩)
        | (go_at_call 45; refine (sets_bad (bs := bs) (pos := pos) (n := n) ?_ hm.out hm2.out ?_).mono ?_; (first | exact hoa.nv | exact (hoa.ext ((Ext.refl _).alloc _)).nv); exact ⟨_, rfl, hW.ext (And.left (by assumption))⟩; rintro e wb ⟨heb, A7, k7, c7, A', k', c', q', code, rfl, rfl, rfl, rfl, rfl⟩
           first
             | (have nb : Bk wb w1.heap.size 25 [.slice none 0 0, .int .i64 0] := (Bk.new w1.drew 25 [.slice none 0 0, .int .i64 0]).ext (Ext.trans hea heb); have g0 := nb.cell (i := 0) (by simp); have g1 := nb.cell (i := 1) (by simp); have f0 := nb.free 0; have f1 := nb.free 1)
             | (have nb : Bk wb wa.heap.size 25 [.slice none 0 0, .int .i64 0] := (Bk.new wa 25 [.slice none 0 0, .int .i64 0]).ext heb; have g0 := nb.cell (i := 0) (by simp); have g1 := nb.cell (i := 1) (by simp); have f0 := nb.free 0; have f1 := nb.free 1)
             | skip))
    all_goals
      have hfin := And.left (b := _ ∧ _) (by assumption)
      go_wp2_with fail
      go_meet
      first
        | exact ⟨wb.heap.size, _, _, _, _, _, _, _, _, Ext.size (Ext.trans ((Ext.refl _).drew.trans hea) heb), rfl, rfl, rfl, Bk.new wb _ [_, _], ⟨rfl, rfl, rfl, rfl⟩, hfin⟩
        | exact ⟨_, _, _, _, _, _, _, _, _, Nat.le_refl _, rfl, rfl, rfl, (nb.set 0 _).set 1 _, ⟨rfl, rfl, rfl, rfl⟩, hfin⟩
        | exact ⟨_, _, _, _, _, _, _, _, _, Ext.size ((Ext.refl _).drew.trans hea), rfl, rfl, rfl, (nb.set 0 _).set 1 _, ⟨rfl, rfl, rfl, rfl⟩, hfin⟩
  case rest =>
    obtain ⟨g, A7, k7, c7, A', k', c', q', code, hg8, rfl, rfl, rfl, hb8, hrel, he⟩ := hcut
    obtain ⟨W2, rfl⟩ : ∃ W2 : World, W2 = wc := ⟨_, rfl⟩
    replace d0 := he.cell d0
    replace d1 := he.cell d1
    replace hW := hW.ext he
    replace hx := hx.trans he
    clear he hcv
    obtain ⟨rfl, rfl, rfl, rfl⟩ := hrel
    have e0 := hb8.cell (i := 0) (by simp)
    have e1 := hb8.cell (i := 1) (by simp)
    simp only [List.getElem_cons_zero, List.getElem_cons_succ] at e0 e1
    go_wp2_with fail
    refine (zero_tp (bs := []) (pos := 0) ⟨_, rfl, ⟨by simp, by simp, A', c', rfl, Nat.zero_le _, fun h => by simp at h⟩⟩).mono ?_
    rintro e w3 ⟨x, rfl, he3, rfl⟩
    rw [show zeroB ([] : List Nat).length 0 = true from rfl]
    go_wp2_with fail
    refine (awake_true _).mono ?_
    rintro e w5 ⟨x, rfl, he5, rfl⟩
    go_wp2_with fail
    go_ret
    exact Ret.mk ((hx.trans he3).trans he5) rfl

set_option maxRecDepth 20000 in
set_option maxHeartbeats 3200000 in
theorem sets_none {w : World} {t : Value} {n : Nat} {m : Nat} {bs : List Nat} {pos : Int} (ht : Tp w t bs pos) (hn : n < 256) (hm : m ≤ n) (hg : Hid (greatB bs.length pos = false)) (hp0 : Hid (0 ≤ pos)) (hp1 : Hid (pos ≤ 8 * bs.length)) (hlen0 : Hid (bs.length ≤ 60)) (hR : Hid (dist (bitAt bs) (8 * bs.length) m (n - m) [] pos.toNat = none)) :
    Calls Try.prog 14 #[.int .u8 (n : Int), .int .i64 (m : Int), t] w (Ret (fun x _ => x = .bool true) w) := by
  have b0 : decide ((m : Int) < 0) = false := by simp
  have b1 : decide (n < m) = false := by simp; omega
  have b2 : decide ((n : Int) < (m : Int)) = false := by simp; omega
  obtain ⟨s, rfl, hs⟩ := ht
  obtain ⟨A, c, rfl, -⟩ := hs.parts
  go_enter Try.func14, Try.ntmps14
  go_wp2_with fail
  have hx : Ext w (w.alloc (.cells #[.slice A bs.length c, .int .i64 pos] 25)) := (Ext.refl w).alloc _
  have k0 := Bk.new w 25 [.slice A bs.length c, .int .i64 pos]
  change Bk (w.alloc (.cells #[.slice A bs.length c, .int .i64 pos] 25)) _ _ _ at k0
  generalize (w.alloc (.cells #[.slice A bs.length c, .int .i64 pos] 25)) = W at *
  have hW := hs.ext hx
  have d0 := k0.cell (i := 0) (by simp)
  have d1 := k0.cell (i := 1) (by simp)
  simp only [List.getElem_cons_zero, List.getElem_cons_succ] at d0 d1
  refine (great_tp ⟨_, rfl, hW⟩).mono ?_
  rintro e w1 ⟨x, rfl, he1, rfl⟩
  replace hx := hx.trans he1
  replace d0 := he1.cell d0
  replace d1 := he1.cell d1
  replace hW := hW.ext he1
  clear k0 he1
  rw [hg.out]
  obtain ⟨p, rfl⟩ := Int.eq_ofNat_of_zero_le hp0.out
  have hp : p ≤ 8 * bs.length := by have := hp1.out; omega
  have hlen := hlen0.out
  have HR : Hid (dist (bitAt bs) (8 * bs.length) m (n - m) [] p = none) := Lib.hid (by have := hR.out; rw [Int.toNat_natCast] at this; exact this)
  clear hg hp0 hp1 hlen0 hR
  have hcv : IntKind.u64.wrap (n : Int) = (n : Int) := u64_id (by omega)
  go_upto_region 3 with fail
  go_cut [7, 8, 9] (fun sa sb sc wx => ∃ (g : Nat) (A7 : Option Addr) (k7 c7 : Nat) (A' : Option Addr) (k' c' : Nat) (q' code : Int), w1.heap.size ≤ g ∧ sb = .pointer (some ⟨g, 0, none⟩) ∧ sa = .slice A7 k7 c7 ∧ sc = .int .i64 code ∧ Bk wx g 25 [.slice A' k' c', .int .i64 q'] ∧ (k7 = 0 ∧ k' = 0 ∧ q' = 0 ∧ code = 36) ∧ Ext w1 wx)
  case first =>
    go_region_held3 (fun V => Ext w1 V ∧ V.cell? ⟨w.heap.size, 0, none⟩ = some (.slice A bs.length c) ∧ V.cell? ⟨w.heap.size, 1, none⟩ = some (.int .i64 (p : Int)))
      ((refine (fun he => ⟨he, Ext.cell he d0, Ext.cell he d1⟩) ?_; repeat (first | exact Ext.refl _ | exact (Ext.refl _).drew | refine Ext.alloc ?_ _ | refine Ext.drew ?_ | refine Ext.setCell ?_ (by first | exact Nat.le_refl _ | (have := Ext.size hea; simp at this ⊢; omega)) _ | refine Ext.trans ?_ (by assumption))))
      (first
        | (go_at_call 19; refine (of_nz n (by omega) _).mono ?_; rintro e wa ⟨o, rfl, hea, hoa⟩)
        | (go_at_call 45; refine (sets_ok (bs := bs) (n := n) (m := m) (pos := p) (none) HR.out ?_ (by omega) hm ?_ hp).mono ?_; (first | exact hoa.nv | exact (hoa.ext ((Ext.refl _).alloc _)).nv); exact ⟨_, rfl, hW.ext (And.left (by assumption))⟩; rintro e wb ⟨heb, A7, k7, c7, A', k', c', q', code, rfl, rfl, rfl, rfl, rfl⟩
           first
             | (have nb : Bk wb w1.heap.size 25 [.slice none 0 0, .int .i64 0] := (Bk.new w1.drew 25 [.slice none 0 0, .int .i64 0]).ext (Ext.trans hea heb); have g0 := nb.cell (i := 0) (by simp); have g1 := nb.cell (i := 1) (by simp); have f0 := nb.free 0; have f1 := nb.free 1)
             | (have nb : Bk wb wa.heap.size 25 [.slice none 0 0, .int .i64 0] := (Bk.new wa 25 [.slice none 0 0, .int .i64 0]).ext heb; have g0 := nb.cell (i := 0) (by simp); have g1 := nb.cell (i := 1) (by simp); have f0 := nb.free 0; have f1 := nb.free 1)
             | skip))
    all_goals
      have hfin := And.left (b := _ ∧ _) (by assumption)
      go_wp2_with fail
      go_meet
      first
        | exact ⟨wb.heap.size, _, _, _, _, _, _, _, _, Ext.size (Ext.trans ((Ext.refl _).drew.trans hea) heb), rfl, rfl, rfl, Bk.new wb _ [_, _], ⟨rfl, rfl, rfl, rfl⟩, hfin⟩
        | exact ⟨_, _, _, _, _, _, _, _, _, Nat.le_refl _, rfl, rfl, rfl, (nb.set 0 _).set 1 _, ⟨rfl, rfl, rfl, rfl⟩, hfin⟩
        | exact ⟨_, _, _, _, _, _, _, _, _, Ext.size ((Ext.refl _).drew.trans hea), rfl, rfl, rfl, (nb.set 0 _).set 1 _, ⟨rfl, rfl, rfl, rfl⟩, hfin⟩
  case rest =>
    obtain ⟨g, A7, k7, c7, A', k', c', q', code, hg8, rfl, rfl, rfl, hb8, hrel, he⟩ := hcut
    obtain ⟨W2, rfl⟩ : ∃ W2 : World, W2 = wc := ⟨_, rfl⟩
    replace d0 := he.cell d0
    replace d1 := he.cell d1
    replace hW := hW.ext he
    replace hx := hx.trans he
    clear he hcv
    obtain ⟨rfl, rfl, rfl, rfl⟩ := hrel
    have e0 := hb8.cell (i := 0) (by simp)
    have e1 := hb8.cell (i := 1) (by simp)
    simp only [List.getElem_cons_zero, List.getElem_cons_succ] at e0 e1
    have hcv2 : IntKind.i64.wrap (n : Int) = (n : Int) := IntWalk.i64_in _ (by omega)
    go_upto_region 6 with fail
    go_cut [10, 11] (fun sa sb wx => sa = .slice none 0 0 ∧ sb = .int .i64 (-1) ∧ Ext W2 wx)
    case first =>
      have HRD := Lib.hid (fun (U : World) (v : Value) (h1 : In U v (bitsOf bs (8 * bs.length))) => refDistinct (n := n) (m := m) (pos := p) h1 hm (by omega) hp)
      rw [HR.out] at HRD
      go_region_held3 (fun U => Ext W2 U ∧ U.cell? ⟨w.heap.size, 0, none⟩ = some (.slice A bs.length c) ∧ U.cell? ⟨w.heap.size, 1, none⟩ = some (.int .i64 (p : Int)))
        ((refine (fun he => ⟨he, Ext.cell he d0, Ext.cell he d1⟩) ?_; repeat (first | exact Ext.refl _ | exact (Ext.refl _).drew | refine Ext.trans ?_ (by assumption))))
        (first
          | (go_at_call 23; refine (refBits (bs := bs) ?_ (by omega)).mono ?_; exact hW.ext (And.left (by assumption)); rintro e wa ⟨o, rfl, hea, hoa⟩)
          | (go_at_call 46; refine (HRD.out _ _ hoa).mono ?_; rintro e wb ⟨heb, he⟩; simp only at he; subst he))
      have hfin := And.left (b := _ ∧ _) (by assumption)
      go_wp2_with fail
      go_meet
      exact ⟨rfl, rfl, hfin⟩
    case rest =>
      obtain ⟨rfl, rfl, he⟩ := hcut
      replace hx := hx.trans he
      replace e0 := he.cell e0
      replace e1 := he.cell e1
      clear he d0 d1 hW hcv2
      go_wp2_with fail
      refine (zero_tp (bs := []) (pos := 0) ⟨_, rfl, ⟨by simp, by simp, A', c', rfl, Nat.zero_le _, fun h => by simp at h⟩⟩).mono ?_
      rintro e w3 ⟨x, rfl, he3, rfl⟩
      rw [show zeroB ([] : List Nat).length 0 = true from rfl]
      go_wp2_with fail
      refine (awake_true _).mono ?_
      rintro e w5 ⟨x, rfl, he5, rfl⟩
      go_wp2_with fail
      go_ret
      exact Ret.mk ((hx.trans he3).trans he5) rfl

theorem Ns.far {w w' : World} {g : Nat} {t : TypeId} {ys : List Value} {A : Option Addr} {m : Nat} {f : Nat → Nat} (h : Ns w A m f) (hb : Bk w g t ys) (hd : ∀ d : Nat, U32 d ∉ ys) (hm : Mod g w w') (hA : ∀ ad, A = some ad → g < ad.block) : Ns w' A m f := fun i hi => by
  obtain ⟨ad, B, k, d, h1, h2, h3⟩ := h i hi
  exact ⟨ad, B, k, d, h1, hm.cell h2 (by rw [block_add]; have := hA ad h1; omega), Dg.mod h3 hb hd hm⟩

set_option maxRecDepth 20000 in
set_option maxHeartbeats 3200000 in
theorem sets_some {w : World} {t : Value} {n : Nat} {m : Nat} {bs : List Nat} {pos : Int} (ht : Tp w t bs pos) (hn : n < 256) (hm : m ≤ n) (hg : Hid (greatB bs.length pos = false)) (hp0 : Hid (0 ≤ pos)) (hp1 : Hid (pos ≤ 8 * bs.length)) (hlen0 : Hid (bs.length ≤ 60)) {l : List Nat} {q : Nat} (HSM : Hid (l.length ≤ 1000 ∧ ∀ y ∈ l, y < 1000)) (hR : Hid (dist (bitAt bs) (8 * bs.length) m (n - m) [] pos.toNat = some (l, q))) :
    Calls Try.prog 14 #[.int .u8 (n : Int), .int .i64 (m : Int), t] w (Ret (fun x _ => x = .bool true) w) := by
  have b0 : decide ((m : Int) < 0) = false := by simp
  have b1 : decide (n < m) = false := by simp; omega
  have b2 : decide ((n : Int) < (m : Int)) = false := by simp; omega
  obtain ⟨s, rfl, hs⟩ := ht
  obtain ⟨A, c, rfl, -⟩ := hs.parts
  go_enter Try.func14, Try.ntmps14
  go_wp2_with fail
  have hx : Ext w (w.alloc (.cells #[.slice A bs.length c, .int .i64 pos] 25)) := (Ext.refl w).alloc _
  have k0 := Bk.new w 25 [.slice A bs.length c, .int .i64 pos]
  change Bk (w.alloc (.cells #[.slice A bs.length c, .int .i64 pos] 25)) _ _ _ at k0
  generalize (w.alloc (.cells #[.slice A bs.length c, .int .i64 pos] 25)) = W at *
  have hW := hs.ext hx
  have d0 := k0.cell (i := 0) (by simp)
  have d1 := k0.cell (i := 1) (by simp)
  simp only [List.getElem_cons_zero, List.getElem_cons_succ] at d0 d1
  refine (great_tp ⟨_, rfl, hW⟩).mono ?_
  rintro e w1 ⟨x, rfl, he1, rfl⟩
  replace hx := hx.trans he1
  replace d0 := he1.cell d0
  replace d1 := he1.cell d1
  replace hW := hW.ext he1
  clear k0 he1
  rw [hg.out]
  obtain ⟨p, rfl⟩ := Int.eq_ofNat_of_zero_le hp0.out
  have hp : p ≤ 8 * bs.length := by have := hp1.out; omega
  have hlen := hlen0.out
  have HR : Hid (dist (bitAt bs) (8 * bs.length) m (n - m) [] p = some (l, q)) := Lib.hid (by have := hR.out; rw [Int.toNat_natCast] at this; exact this)
  clear hg hp0 hp1 hlen0 hR
  have hcv : IntKind.u64.wrap (n : Int) = (n : Int) := u64_id (by omega)
  go_upto_region 3 with fail
  go_cut [7, 8, 9] (fun sa sb sc wx => ∃ (g : Nat) (A7 : Option Addr) (k7 c7 : Nat) (A' : Option Addr) (k' c' : Nat) (q' code : Int), w1.heap.size ≤ g ∧ sb = .pointer (some ⟨g, 0, none⟩) ∧ sa = .slice A7 k7 c7 ∧ sc = .int .i64 code ∧ Bk wx g 25 [.slice A' k' c', .int .i64 q'] ∧ (k7 = l.length ∧ k' = bs.length ∧ q' = (q : Int) ∧ code = 0 ∧ Ns wx A7 l.length (fun i => l.getD i 0) ∧ By wx (.slice A' bs.length c') bs) ∧ Ext w1 wx)
  case first =>
    go_region_held3 (fun V => Ext w1 V ∧ V.cell? ⟨w.heap.size, 0, none⟩ = some (.slice A bs.length c) ∧ V.cell? ⟨w.heap.size, 1, none⟩ = some (.int .i64 (p : Int)))
      ((refine (fun he => ⟨he, Ext.cell he d0, Ext.cell he d1⟩) ?_; repeat (first | exact Ext.refl _ | exact (Ext.refl _).drew | refine Ext.alloc ?_ _ | refine Ext.drew ?_ | refine Ext.setCell ?_ (by first | exact Nat.le_refl _ | (have := Ext.size hea; simp at this ⊢; omega)) _ | refine Ext.trans ?_ (by assumption))))
      (first
        | (go_at_call 19; refine (of_nz n (by omega) _).mono ?_; rintro e wa ⟨o, rfl, hea, hoa⟩)
        | (go_at_call 45; refine (sets_ok (bs := bs) (n := n) (m := m) (pos := p) (some (l, q)) HR.out ?_ (by omega) hm ?_ hp).mono ?_; (first | exact hoa.nv | exact (hoa.ext ((Ext.refl _).alloc _)).nv); exact ⟨_, rfl, hW.ext (And.left (by assumption))⟩; rintro e wb ⟨heb, A7, k7, c7, A', k', c', q', code, rfl, rfl, rfl, rfl, rfl, hNs, hby, hbl⟩
           first
             | (have nb : Bk wb w1.heap.size 25 [.slice none 0 0, .int .i64 0] := (Bk.new w1.drew 25 [.slice none 0 0, .int .i64 0]).ext (Ext.trans hea heb); have g0 := nb.cell (i := 0) (by simp); have g1 := nb.cell (i := 1) (by simp); have f0 := nb.free 0; have f1 := nb.free 1)
             | (have nb : Bk wb wa.heap.size 25 [.slice none 0 0, .int .i64 0] := (Bk.new wa 25 [.slice none 0 0, .int .i64 0]).ext heb; have g0 := nb.cell (i := 0) (by simp); have g1 := nb.cell (i := 1) (by simp); have f0 := nb.free 0; have f1 := nb.free 1)
             | skip))
    all_goals
      have hfin := And.left (b := _ ∧ _) (by assumption)
      have HBL := Lib.hid hbl
      clear hbl
      go_wp2_with fail
      go_meet
      first
        | exact ⟨wb.heap.size, _, _, _, _, _, _, _, _, Ext.size (Ext.trans ((Ext.refl _).drew.trans hea) heb), rfl, rfl, rfl, Bk.new wb _ [_, _], ⟨rfl, rfl, rfl, rfl, hNs.ext ((Ext.refl _).alloc _), hby.ext ((Ext.refl _).alloc _)⟩, hfin⟩
        | exact ⟨_, _, _, _, _, _, _, _, _, Nat.le_refl _, rfl, rfl, rfl, (nb.set 0 _).set 1 _, ⟨rfl, rfl, rfl, rfl, Ns.far hNs nb (by simp [U32]) (stored2 _ _ _ _) (fun ad h => by first | (have := HBL.out ad h; simp at this; omega) | (have := HBL.out ad h; have h2 := Ext.size hea; simp at h2; omega)), hby.mod nb (by simp [U8]) (stored2 _ _ _ _)⟩, hfin⟩
        | exact ⟨_, _, _, _, _, _, _, _, _, Ext.size ((Ext.refl _).drew.trans hea), rfl, rfl, rfl, (nb.set 0 _).set 1 _, ⟨rfl, rfl, rfl, rfl, Ns.far hNs nb (by simp [U32]) (stored2 _ _ _ _) (fun ad h => by first | (have := HBL.out ad h; simp at this; omega) | (have := HBL.out ad h; have h2 := Ext.size hea; simp at h2; omega)), hby.mod nb (by simp [U8]) (stored2 _ _ _ _)⟩, hfin⟩
  case rest =>
    obtain ⟨g, A7, k7, c7, A', k', c', q', code, hg8, rfl, rfl, rfl, hb8, hrel, he⟩ := hcut
    obtain ⟨W2, rfl⟩ : ∃ W2 : World, W2 = wc := ⟨_, rfl⟩
    replace d0 := he.cell d0
    replace d1 := he.cell d1
    replace hW := hW.ext he
    replace hx := hx.trans he
    clear he hcv
    obtain ⟨rfl, rfl, rfl, rfl, hNs, hby⟩ := hrel
    have e0 := hb8.cell (i := 0) (by simp)
    have e1 := hb8.cell (i := 1) (by simp)
    simp only [List.getElem_cons_zero, List.getElem_cons_succ] at e0 e1
    have hcv2 : IntKind.i64.wrap (n : Int) = (n : Int) := IntWalk.i64_in _ (by omega)
    go_upto_region 6 with fail
    go_cut [10, 11] (fun sa sb wx => ∃ B d, sa = .slice B l.length d ∧ sb = .int .i64 (q : Int) ∧ Hid (l.length = 0 ∨ ∃ g, B = some ⟨g, 0, none⟩) ∧ In0 wx (.slice B l.length d) l ∧ Ext W2 wx)
    case first =>
      have HRD := Lib.hid (fun (U : World) (v : Value) (h1 : In U v (bitsOf bs (8 * bs.length))) => refDistinct (n := n) (m := m) (pos := p) h1 hm (by omega) hp)
      rw [HR.out] at HRD
      go_region_held3 (fun U => Ext W2 U ∧ U.cell? ⟨w.heap.size, 0, none⟩ = some (.slice A bs.length c) ∧ U.cell? ⟨w.heap.size, 1, none⟩ = some (.int .i64 (p : Int)))
        ((refine (fun he => ⟨he, Ext.cell he d0, Ext.cell he d1⟩) ?_; repeat (first | exact Ext.refl _ | exact (Ext.refl _).drew | refine Ext.trans ?_ (by assumption))))
        (first
          | (go_at_call 23; refine (refBits (bs := bs) ?_ (by omega)).mono ?_; exact hW.ext (And.left (by assumption)); rintro e wa ⟨o, rfl, hea, hoa⟩)
          | (go_at_call 46; refine (HRD.out _ _ hoa).mono ?_; rintro e wb ⟨heb, x, rfl, hin⟩; obtain ⟨B, d, rfl, hBf⟩ := hin.form))
      have hfin := And.left (b := _ ∧ _) (by assumption)
      go_wp2_with fail
      go_meet
      exact ⟨B, d, rfl, rfl, Lib.hid hBf, hin, hfin⟩
    case rest =>
      obtain ⟨B, d, rfl, rfl, hBf, hinB, he⟩ := hcut
      replace hx := hx.trans he
      replace e0 := he.cell e0
      replace e1 := he.cell e1
      replace d0 := he.cell d0
      replace d1 := he.cell d1
      replace hW := hW.ext he
      replace hby := hby.ext he
      replace hNs := hNs.ext he
      have hq0 : ¬ (q : Int) < 0 := by omega
      clear he hcv2
      go_wp2_with fail
      refine (ints_any hNs HSM.out.1 HSM.out.2).mono ?_
      rintro e w4 ⟨xi, rfl, he4, hin4⟩
      obtain ⟨AI, cI, rfl, hIf⟩ := hin4.form
      have HIF := Lib.hid hIf
      clear hIf hNs
      replace hinB := hinB.ext he4
      go_wp2_with fail
      refine (equalI HIF.out hBf.out ⟨by have := HSM.out.1; omega, hin4.sl⟩ ⟨by have := HSM.out.1; omega, hinB.sl⟩).mono ?_
      rintro e w5 ⟨rfl, hq5⟩
      have he5 := he4.trans hq5.ext
      replace e0 := he5.cell e0
      replace e1 := he5.cell e1
      replace d0 := he5.cell d0
      replace d1 := he5.cell d1
      clear he4 hin4 hinB
      go_wp2_with fail
      refine (is_tp (r := (q : Int)) ⟨_, rfl, hby.ext he5⟩ ⟨_, rfl, hW.ext he5⟩).mono ?_
      rintro e w6 ⟨z, rfl, he6, rfl⟩
      rw [show (decide (bs = bs) && decide ((q : Int) = q)) = true by simp]
      go_wp2_with fail
      refine (awake_true _).mono ?_
      rintro e w7 ⟨z, rfl, he7, rfl⟩
      go_wp2_with fail
      go_ret
      exact Ret.mk (((hx.trans he5).trans he6).trans he7) rfl

theorem dist_ok {b : Nat → Nat} {L : Nat} : ∀ {m j k : Nat} {l : List Nat} {pos : Nat} {r : List Nat} {p : Nat}, SetOk l j k → dist b L m j l pos = some (r, p) → SetOk r (j + m) (k + m)
  | 0, j, k, l, pos, r, p, h, e => by simp only [dist] at e; injection e with e; injection e with e1 e2; subst e1; exact h
  | m + 1, j, k, l, pos, r, p, h, e => by
    rcases hu : uni b L (j + 1) (blen j) (L + 1) pos with _ | ⟨x, q⟩
    · rw [dist_none hu] at e; cases e
    · rw [dist_some hu] at e
      have := dist_ok (h.put (uni_some hu).1) e
      rw [show j + (m + 1) = j + 1 + m by omega, show k + (m + 1) = k + 1 + m by omega]; exact this

theorem law_sets {w : World} {t : Value} {n : Nat} {m : Int} {bs : List Nat} {pos : Int} (hn : n < 256) (hm2 : m < 9223372036854775808) (ht : Tp w t bs pos) :
    Calls Try.prog 14 #[.int .u8 (n : Int), .int .i64 m, t] w (Ret (fun x _ => x = .bool true) w) := by
  by_cases hg : greatB bs.length pos = true
  · exact sets_great ht (Lib.hid hg)
  · have hg' : greatB bs.length pos = false := by simpa using hg
    have h := hg'
    simp only [greatB, Bool.or_eq_false_iff, decide_eq_false_iff_not] at h
    obtain ⟨⟨h1, h2⟩, h3⟩ := h
    by_cases hneg : m < 0
    · exact sets_neg ht hn (Lib.hid hg') hneg (Lib.hid (.inl hneg)) (Lib.hid hm2)
    · by_cases hbig : (n : Int) < m
      · exact sets_big ht hn (Lib.hid hg') hneg hbig (Lib.hid (.inr hbig)) (Lib.hid hm2)
      · obtain ⟨k, rfl⟩ := Int.eq_ofNat_of_zero_le (show 0 ≤ m by omega)
        rcases hR : dist (bitAt bs) (8 * bs.length) k (n - k) [] pos.toNat with _ | ⟨l, q⟩
        · exact sets_none ht hn (by omega) (Lib.hid hg') (Lib.hid (by omega)) (Lib.hid (by omega)) (Lib.hid (by omega)) (Lib.hid hR)
        · have hok := dist_ok (k := 0) ⟨List.Pairwise.nil, fun _ h => (by simp at h), rfl⟩ hR
          exact sets_some ht hn (by omega) (Lib.hid hg') (Lib.hid (by omega)) (Lib.hid (by omega)) (Lib.hid (by omega)) (Lib.hid ⟨by rw [hok.len]; omega, fun y hy => by have := hok.lt y hy; omega⟩) (Lib.hid hR)
end Go.Proofs.Ytamkbboijblooaa
