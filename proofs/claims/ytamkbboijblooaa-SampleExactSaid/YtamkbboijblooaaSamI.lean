/- Contract: ordinallaw46.awake. -/
import Derived.Test.YtamkbboijblooaaSamH
namespace Go.Proofs.Ytamkbboijblooaa
open Go.RowKit

theorem keep_two {W0 w w' : World} {p q : Addr} {a b : Value} (he : Ext w w') (h : Ext W0 w ∧ w.cell? p = some a ∧ w.cell? q = some b) : Ext W0 w' ∧ w'.cell? p = some a ∧ w'.cell? q = some b :=
  ⟨h.1.trans he, he.cell h.2.1, he.cell h.2.2⟩

theorem stored2 (w : World) (g : Nat) (x y : Value) : Mod g w ((w.setCell ⟨g, 0, none⟩ x).setCell ⟨g, 1, none⟩ y) :=
  ((Mod.refl g w).setCell (p := ⟨g, 0, none⟩) (.inl rfl) _).setCell (p := ⟨g, 1, none⟩) (.inl rfl) _

/-- Uniform at a number, by a whole tape: what a statement needs. -/
theorem Uniform_of {w : World} {u t : Value} {n pos : Nat} {bs : List Nat} (R : Option (Nat × Nat)) (hR : uni (bitAt bs) (8 * bs.length) n (blen (n - 1)) (8 * bs.length + 1) pos = R) (hu : Nz w u n) (hn : 1 ≤ n) (hn2 : n < 18446744073709551616) (ht : Tp w t bs pos) (hp : pos ≤ 8 * bs.length) :
    Calls Try.prog 18 #[u, t] w (UnifPost w bs R) := by
  rw [← hR]
  exact Uniform_any hu.nv hn (Nat.le_trans (dig_len_le (k := 2) (by omega)) (by omega)) ht hp

set_option maxHeartbeats 1600000 in
theorem awake_true (w : World) : Calls Try.prog 17 #[] w (Ret (fun x _ => x = .bool true) w) := by
  go_enter Try.func17, Try.ntmps17
  go_upto_region 2 with fail
  have hx : Ext w ((w.alloc (.cells #[.int .u8 11] 5)).alloc (.cells #[.slice (some ⟨w.heap.size, 0, none⟩) 1 1, .int .i64 0] 25)) := ((Ext.refl w).alloc _).alloc _
  have k0 : Bk ((w.alloc (.cells #[.int .u8 11] 5)).alloc (.cells #[.slice (some ⟨w.heap.size, 0, none⟩) 1 1, .int .i64 0] 25)) w.heap.size 5 [.int .u8 11] := (Bk.new w _ [.int .u8 11]).alloc _
  have k1 : Bk ((w.alloc (.cells #[.int .u8 11] 5)).alloc (.cells #[.slice (some ⟨w.heap.size, 0, none⟩) 1 1, .int .i64 0] 25)) (w.heap.size + 1) 25 [.slice (some ⟨w.heap.size, 0, none⟩) 1 1, .int .i64 0] := by
    have := Bk.new (w.alloc (.cells #[.int .u8 11] 5)) 25 [.slice (some ⟨w.heap.size, 0, none⟩) 1 1, .int .i64 0]
    simpa using this
  generalize ((w.alloc (.cells #[.int .u8 11] 5)).alloc (.cells #[.slice (some ⟨w.heap.size, 0, none⟩) 1 1, .int .i64 0] 25)) = W at *
  have hby : By W (.slice (some ⟨w.heap.size, 0, none⟩) 1 1) [11] := ⟨by simp, by simp, some ⟨w.heap.size, 0, none⟩, 1, by simp, by simp, fun _ => ⟨_, rfl, fun i hi => by
    have : i = 0 := by simp at hi; exact hi
    subst this
    rw [add_zero]; exact k0.cell (by simp)⟩⟩
  have d0 := k1.cell (i := 0) (by simp)
  have d1 := k1.cell (i := 1) (by simp)
  simp only [List.getElem_cons_zero, List.getElem_cons_succ] at d0 d1
  have HB := Lib.hid hby; have K1 := Lib.hid k1; clear hby k0 k1
  go_cut [2, 3, 4] (fun sa sb sc wx => ∃ (g : Nat) (u : Value), sb = .pointer (some ⟨g, 0, none⟩) ∧ sc = .int .i64 0 ∧ Bk wx g 25 [u, .int .i64 4] ∧ Nz wx sa 2 ∧ Ext W wx)
  case first =>
    go_region_held3 (fun V => Ext W V ∧ V.cell? ⟨w.heap.size + 1, 0, none⟩ = some (.slice (some ⟨w.heap.size, 0, none⟩) 1 1) ∧ V.cell? ⟨w.heap.size + 1, 1, none⟩ = some (.int .i64 0))
      ((refine (fun he => ⟨he, Ext.cell he d0, Ext.cell he d1⟩) ?_; repeat (first | exact Ext.refl _ | exact (Ext.refl _).drew | refine Ext.alloc ?_ _ | refine Ext.drew ?_ | refine Ext.setCell ?_ (by first | exact Nat.le_refl _ | (have := Ext.size hea; simp at this ⊢; omega)) _ | refine Ext.trans ?_ (by assumption))))
      (first
        | (go_at_call 19; refine (of_nz 3 (by omega) _).mono ?_; rintro e wa ⟨o, rfl, hea, hoa⟩)
        | (go_at_call 18; refine (Uniform_of (bs := [11]) (n := 3) (pos := 0) (some (2, 4)) (by decide) ?_ (by omega) (by omega) ?_ (by simp)).mono ?_; (first | exact hoa | exact hoa.ext ((Ext.refl _).alloc _)); exact ⟨_, rfl, HB.out.ext (And.left (by assumption))⟩; rintro e wb ⟨heb, v, t', rfl, hv, s', rfl, hs'⟩; obtain ⟨A', c', rfl, -⟩ := hs'.parts
           first
             | (have nb : Bk wb W.heap.size 25 [.slice none 0 0, .int .i64 0] := (Bk.new W.drew 25 [.slice none 0 0, .int .i64 0]).ext (Ext.trans hea heb); have g0 := nb.cell (i := 0) (by simp); have g1 := nb.cell (i := 1) (by simp); have f0 := nb.free 0; have f1 := nb.free 1)
             | (have nb : Bk wb wa.heap.size 25 [.slice none 0 0, .int .i64 0] := (Bk.new wa 25 [.slice none 0 0, .int .i64 0]).ext heb; have g0 := nb.cell (i := 0) (by simp); have g1 := nb.cell (i := 1) (by simp); have f0 := nb.free 0; have f1 := nb.free 1)
             | skip))
    all_goals
      have hfin := And.left (b := _ ∧ _) (by assumption)
      go_wp2_with fail
      go_meet
      first
        | exact ⟨wb.heap.size, _, rfl, rfl, Bk.new wb _ [_, _], hv.ext ((Ext.refl _).alloc _), hfin⟩
        | exact ⟨_, _, rfl, rfl, (nb.set 0 _).set 1 _, Dg.mod hv nb (by simp [U32]) (stored2 _ _ _ _), hfin⟩
  case rest =>
    obtain ⟨g, u, rfl, rfl, hb, hz, he⟩ := hcut
    obtain ⟨W2, rfl⟩ : ∃ W2 : World, W2 = wc := ⟨_, rfl⟩
    have hx2 := hx.trans he
    replace HB := Lib.hid (HB.out.ext he)
    replace d0 := he.cell d0
    replace d1 := he.cell d1
    have B1 := Lib.hid hb
    clear hb he hx K1
    go_upto_region 3 with fail
    go_cut [5, 6, 7] (fun sa sb sc wx => ∃ (g : Nat) (u : Value), sb = .pointer (some ⟨g, 0, none⟩) ∧ sc = .int .i64 0 ∧ Bk wx g 25 [u, .int .i64 2] ∧ Nz wx sa 3 ∧ Ext W2 wx)
    case first =>
      go_region_held3 (fun V => Ext W2 V ∧ V.cell? ⟨w.heap.size + 1, 0, none⟩ = some (.slice (some ⟨w.heap.size, 0, none⟩) 1 1) ∧ V.cell? ⟨w.heap.size + 1, 1, none⟩ = some (.int .i64 0))
        ((refine (fun he => ⟨he, Ext.cell he d0, Ext.cell he d1⟩) ?_; repeat (first | exact Ext.refl _ | exact (Ext.refl _).drew | refine Ext.alloc ?_ _ | refine Ext.drew ?_ | refine Ext.setCell ?_ (by first | exact Nat.le_refl _ | (have := Ext.size hea; simp at this ⊢; omega)) _ | refine Ext.trans ?_ (by assumption))))
        (first
          | (go_at_call 19; refine (of_nz 4 (by omega) _).mono ?_; rintro e wa ⟨o, rfl, hea, hoa⟩)
          | (go_at_call 18; refine (Uniform_of (bs := [11]) (n := 4) (pos := 0) (some (3, 2)) (by decide) ?_ (by omega) (by omega) ?_ (by simp)).mono ?_; (first | exact hoa | exact hoa.ext ((Ext.refl _).alloc _)); exact ⟨_, rfl, HB.out.ext (And.left (by assumption))⟩; rintro e wb ⟨heb, v, t', rfl, hv, s', rfl, hs'⟩; obtain ⟨A', c', rfl, -⟩ := hs'.parts
             first
               | (have nb : Bk wb W2.heap.size 25 [.slice none 0 0, .int .i64 0] := (Bk.new W2.drew 25 [.slice none 0 0, .int .i64 0]).ext (Ext.trans hea heb); have g0 := nb.cell (i := 0) (by simp); have g1 := nb.cell (i := 1) (by simp); have f0 := nb.free 0; have f1 := nb.free 1)
               | (have nb : Bk wb wa.heap.size 25 [.slice none 0 0, .int .i64 0] := (Bk.new wa 25 [.slice none 0 0, .int .i64 0]).ext heb; have g0 := nb.cell (i := 0) (by simp); have g1 := nb.cell (i := 1) (by simp); have f0 := nb.free 0; have f1 := nb.free 1)
               | skip))
      all_goals
        have hfin := And.left (b := _ ∧ _) (by assumption)
        go_wp2_with fail
        go_meet
        first
          | exact ⟨wb.heap.size, _, rfl, rfl, Bk.new wb _ [_, _], hv.ext ((Ext.refl _).alloc _), hfin⟩
          | exact ⟨_, _, rfl, rfl, (nb.set 0 _).set 1 _, Dg.mod hv nb (by simp [U32]) (stored2 _ _ _ _), hfin⟩
    case rest =>
      obtain ⟨g2, u2', rfl, rfl, hb2, hz2, he2⟩ := hcut
      have hb1 := B1.out.ext he2
      have hz1 := hz.ext he2
      have hx3 := hx2.trans he2
      clear d0 d1 HB B1 hz he2 hx2
      have p1 := hb1.cell (i := 1) (by simp)
      have p2 := hb2.cell (i := 1) (by simp)
      simp only [List.getElem_cons_zero, List.getElem_cons_succ] at p1 p2
      go_wp2_with fail
      refine (of_nz 2 (by omega) _).mono ?_
      rintro e w3 ⟨o2, rfl, he3, ho2⟩
      go_wp2_with fail
      refine (cmp_nv (hz1.ext he3).nv ho2.nv).mono ?_
      rintro e w4 ⟨rfl, hq4⟩
      have he4 := he3.trans hq4.ext
      have p1' := he4.cell p1
      rw [cmpI_eq rfl]
      go_wp2_with fail
      refine (of_nz 3 (by omega) _).mono ?_
      rintro e w5 ⟨o3, rfl, he5, ho3⟩
      go_wp2_with fail
      refine (cmp_nv ((hz2.ext he4).ext he5).nv ho3.nv).mono ?_
      rintro e w6 ⟨rfl, hq6⟩
      have he6 := (he4.trans he5).trans hq6.ext
      have p2' := he6.cell p2
      rw [cmpI_eq rfl]
      go_wp2_with fail
      go_ret
      exact Ret.mk (hx3.trans he6) rfl
end Go.Proofs.Ytamkbboijblooaa
