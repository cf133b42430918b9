/- The walk of SampleUniform. -/
import Derived.Test.YtamkbboijblooaaSamJ
namespace Go.Proofs.Ytamkbboijblooaa
open Go.RowKit

set_option maxRecDepth 20000 in
set_option maxHeartbeats 1600000 in
theorem law_uniform {w : World} {t : Value} {n : Nat} {bs : List Nat} {pos : Int} (hn : n < 65536) (ht : Tp w t bs pos) :
    Calls Try.prog 3 #[.int .u16 (n : Int), t] w (Ret (fun x _ => x = .bool true) w) := by
  obtain ⟨s, rfl, hs⟩ := ht
  obtain ⟨A, c, rfl, -⟩ := hs.parts
  go_enter Try.func3, Try.ntmps3
  go_wp2_with fail
  have hx : Ext w (w.alloc (.cells #[.slice A bs.length c, .int .i64 pos] 25)) := (Ext.refl w).alloc _
  have k0 := Bk.new w 25 [.slice A bs.length c, .int .i64 pos]
  change Bk (w.alloc (.cells #[.slice A bs.length c, .int .i64 pos] 25)) _ _ _ at k0
  generalize (w.alloc (.cells #[.slice A bs.length c, .int .i64 pos] 25)) = W at *
  have hW := hs.ext hx
  have d0 := k0.cell (i := 0) (by simp)
  have d1 := k0.cell (i := 1) (by simp)
  simp only [List.getElem_cons_zero, List.getElem_cons_succ] at d0 d1
  refine (great_tp ⟨_, rfl, hW⟩).mono ?_
  rintro e w1 ⟨x, rfl, he1, rfl⟩
  have hx1 := hx.trans he1
  by_cases hg : greatB bs.length pos = true
  · rw [hg]
    go_wp2_with fail
    refine (awake_true _).mono ?_
    rintro e w2 ⟨x, rfl, he2, rfl⟩
    go_wp2_with fail
    go_ret
    exact Ret.mk (hx1.trans he2) rfl
  · have hg' : greatB bs.length pos = false := by simpa using hg
    rw [hg']
    simp only [greatB, Bool.or_eq_false_iff, decide_eq_false_iff_not] at hg'
    obtain ⟨⟨hlen, hpos⟩, hle⟩ := hg'
    obtain ⟨p, rfl⟩ := Int.eq_ofNat_of_zero_le (show 0 ≤ pos by omega)
    have hp : p ≤ 8 * bs.length := by omega
    clear hg hpos hle
    replace d0 := he1.cell d0
    replace d1 := he1.cell d1
    replace hW := hW.ext he1
    have K0 := Lib.hid (k0.ext he1)
    clear he1 hx k0
    have hlen' : bs.length ≤ 60 := by omega
    clear hlen
    go_upto_region 3 with fail
    have HU := Lib.hid (fun (V : World) (u t : Value) (h1 : Nz V u n) (h2 : Tp V t bs (p : Nat)) => Uniform_out h1.nv (dig_small (by omega)) h2 hp)
    have hcv : IntKind.u64.wrap (n : Int) = (n : Int) := u64_id (by omega)
    go_cut [5, 6, 7] (fun sa sb sc wx => ∃ (g : Nat) (A' : Option Addr) (c' : Nat), w1.heap.size ≤ g ∧ sb = .pointer (some ⟨g, 0, none⟩) ∧ sc = .int .i64 ((unifOut bs n p).2.2.2 : Int) ∧ Bk wx g 25 [.slice A' (unifOut bs n p).2.1.length c', .int .i64 ((unifOut bs n p).2.2.1 : Int)] ∧ By wx (.slice A' (unifOut bs n p).2.1.length c') (unifOut bs n p).2.1 ∧ Nz wx sa (unifOut bs n p).1 ∧ Ext w1 wx)
    case first =>
      generalize unifOut bs n p = uo at *
      go_region_held3 (fun V => Ext w1 V ∧ V.cell? ⟨w.heap.size, 0, none⟩ = some (.slice A bs.length c) ∧ V.cell? ⟨w.heap.size, 1, none⟩ = some (.int .i64 (p : Int)))
        ((refine (fun he => ⟨he, Ext.cell he d0, Ext.cell he d1⟩) ?_; repeat (first | exact Ext.refl _ | exact (Ext.refl _).drew | refine Ext.alloc ?_ _ | refine Ext.drew ?_ | refine Ext.setCell ?_ (by first | exact Nat.le_refl _ | (have := Ext.size hea; simp at this ⊢; omega)) _ | refine Ext.trans ?_ (by assumption))))
        (first
          | (go_at_call 19; refine (of_nz n (by omega) _).mono ?_; rintro e wa ⟨o, rfl, hea, hoa⟩)
          | (go_at_call 18; refine (HU.out _ _ _ ?_ ?_).mono ?_; (first | exact hoa | exact hoa.ext ((Ext.refl _).alloc _)); exact ⟨_, rfl, hW.ext (And.left (by assumption))⟩; rintro e wb ⟨heb, v, A', c', rfl, hv, hs'⟩
             first
               | (have nb : Bk wb w1.heap.size 25 [.slice none 0 0, .int .i64 0] := (Bk.new w1.drew 25 [.slice none 0 0, .int .i64 0]).ext (Ext.trans hea heb); have g0 := nb.cell (i := 0) (by simp); have g1 := nb.cell (i := 1) (by simp); have f0 := nb.free 0; have f1 := nb.free 1)
               | (have nb : Bk wb wa.heap.size 25 [.slice none 0 0, .int .i64 0] := (Bk.new wa 25 [.slice none 0 0, .int .i64 0]).ext heb; have g0 := nb.cell (i := 0) (by simp); have g1 := nb.cell (i := 1) (by simp); have f0 := nb.free 0; have f1 := nb.free 1)
               | skip))
      all_goals
        have hfin := And.left (b := _ ∧ _) (by assumption)
        go_wp2_with fail
        go_meet
        first
          | exact ⟨wb.heap.size, A', c', Ext.size (Ext.trans ((Ext.refl _).drew.trans hea) heb), rfl, rfl, Bk.new wb _ [_, _], hs'.ext ((Ext.refl _).alloc _), hv.ext ((Ext.refl _).alloc _), hfin⟩
          | exact ⟨_, A', c', Nat.le_refl _, rfl, rfl, (nb.set 0 _).set 1 _, hs'.mod nb (by simp [U8]) (stored2 _ _ _ _), Dg.mod hv nb (by simp [U32]) (stored2 _ _ _ _), hfin⟩
          | exact ⟨_, A', c', Ext.size ((Ext.refl _).drew.trans hea), rfl, rfl, (nb.set 0 _).set 1 _, hs'.mod nb (by simp [U8]) (stored2 _ _ _ _), Dg.mod hv nb (by simp [U32]) (stored2 _ _ _ _), hfin⟩
    case rest =>
      obtain ⟨g, A', c', hg, rfl, rfl, hb, hby, hz, he⟩ := hcut
      have hxc := hx1.trans he
      replace d0 := he.cell d0
      replace d1 := he.cell d1
      replace hW := hW.ext he
      replace K0 := Lib.hid (K0.out.ext he)
      clear he hcv HU
      by_cases h0 : n = 0
      · subst h0
        have hu0 : unifOut bs 0 p = (0, [], 0, 18) := by simp [unifOut]
        rw [hu0] at hb hby hz ⊢
        simp only [List.length_nil] at hb hby hz ⊢
        have e0 := hb.cell (i := 0) (by simp)
        have e1 := hb.cell (i := 1) (by simp)
        simp only [List.getElem_cons_zero, List.getElem_cons_succ] at e0 e1
        go_wp2_with fail
        refine (zero_tp (bs := []) (pos := 0) ⟨_, rfl, hby⟩).mono ?_
        rintro e w3 ⟨x, rfl, he3, rfl⟩
        rw [show zeroB ([] : List Nat).length 0 = true from rfl]
        go_wp2_with fail
        refine (cmp_nv (hz.ext he3).nv (Nz.nil w3).nv).mono ?_
        rintro e w4 ⟨rfl, hq4⟩
        rw [cmpI_eq rfl]
        go_wp2_with fail
        refine (awake_true _).mono ?_
        rintro e w5 ⟨x, rfl, he5, rfl⟩
        go_wp2_with fail
        go_ret
        exact Ret.mk (((hxc.trans he3).trans hq4.ext).trans he5) rfl
      · have hn0 : ((n : Int) == 0) = false := by simp; omega
        go_upto_region 6 with fail
        go_cut [8, 9] (fun sa sb wx => sa = .int .i64 (rX (uni (bitAt bs) (8 * bs.length) n (blen (n - 1)) (8 * bs.length + 1) p)) ∧ sb = .int .i64 (rP (uni (bitAt bs) (8 * bs.length) n (blen (n - 1)) (8 * bs.length + 1) p)) ∧ Ext wc wx)
        case first =>
          have hcv : IntKind.i64.wrap (n : Int) = (n : Int) := IntWalk.i64_in _ (by omega)
          have HR := Lib.hid (fun (V : World) (v : Value) (h1 : In V v (bitsOf bs (8 * bs.length))) => refUniform_out (n := n) (pos := p) h1 (by omega) (by omega) hp)
          generalize uni (bitAt bs) (8 * bs.length) n (blen (n - 1)) (8 * bs.length + 1) p = R at *
          go_region_held3 (fun V => Ext wc V ∧ V.cell? ⟨w.heap.size, 0, none⟩ = some (.slice A bs.length c) ∧ V.cell? ⟨w.heap.size, 1, none⟩ = some (.int .i64 (p : Int)))
            ((refine (fun he => ⟨he, Ext.cell he d0, Ext.cell he d1⟩) ?_; repeat (first | exact Ext.refl _ | exact (Ext.refl _).drew | refine Ext.trans ?_ (by assumption))))
            (first
              | (go_at_call 23; refine (refBits (bs := bs) ?_ (by omega)).mono ?_; exact hW.ext (And.left (by assumption)); rintro e wa ⟨o, rfl, hea, hoa⟩)
              | (go_at_call 22; refine (HR.out _ _ ?_).mono ?_; exact hoa; rintro e wb ⟨rfl, rfl⟩))
          have hfin := And.left (b := _ ∧ _) (by assumption)
          go_wp2_with fail
          go_meet
          exact ⟨rfl, rfl, hfin⟩
        case rest =>
          obtain ⟨rfl, rfl, he⟩ := hcut
          have hxd := hxc.trans he
          replace d0 := he.cell d0
          replace d1 := he.cell d1
          replace hW := hW.ext he
          replace hb := hb.ext he
          replace hby := hby.ext he
          replace hz := hz.ext he
          clear he hxc
          obtain ⟨wd, rfl⟩ : ∃ wd : World, wd = wc := ⟨_, rfl⟩
          have hu0 : unifOut bs n p = unifSome bs (uni (bitAt bs) (8 * bs.length) n (blen (n - 1)) (8 * bs.length + 1) p) := by unfold unifOut; rw [if_neg h0]
          have hxn : ∀ x q, uni (bitAt bs) (8 * bs.length) n (blen (n - 1)) (8 * bs.length + 1) p = some (x, q) → x < n := fun x q h => (uni_some h).1
          generalize uni (bitAt bs) (8 * bs.length) n (blen (n - 1)) (8 * bs.length + 1) p = R at *
          rcases R with _ | ⟨x, q⟩
          · simp only [unifSome] at hu0
            rw [hu0] at hb hby hz ⊢
            clear hu0 hxn
            simp only [List.length_nil] at hb hby hz ⊢
            have e0 := hb.cell (i := 0) (by simp)
            have e1 := hb.cell (i := 1) (by simp)
            simp only [List.getElem_cons_zero, List.getElem_cons_succ] at e0 e1
            simp only [rX, rP]
            go_wp2_with fail
            refine (zero_tp (bs := []) (pos := 0) ⟨_, rfl, hby⟩).mono ?_
            rintro e w3 ⟨x, rfl, he3, rfl⟩
            rw [show zeroB ([] : List Nat).length 0 = true from rfl]
            go_wp2_with fail
            refine (cmp_nv (hz.ext he3).nv (Nz.nil w3).nv).mono ?_
            rintro e w4 ⟨rfl, hq4⟩
            rw [cmpI_eq rfl]
            go_wp2_with fail
            refine (awake_true _).mono ?_
            rintro e w5 ⟨x, rfl, he5, rfl⟩
            go_wp2_with fail
            go_ret
            exact Ret.mk (((hxd.trans he3).trans hq4.ext).trans he5) rfl
          · simp only [unifSome] at hu0
            rw [hu0] at hb hby hz ⊢
            have hxn' := hxn x q rfl
            clear hu0 hxn
            simp only at hb hby hz ⊢
            have e0 := hb.cell (i := 0) (by simp)
            have e1 := hb.cell (i := 1) (by simp)
            simp only [List.getElem_cons_zero, List.getElem_cons_succ] at e0 e1
            simp only [rX, rP]
            have hcv : IntKind.u64.wrap (x : Int) = (x : Int) := u64_id (by omega)
            go_wp2_with fail
            refine (of_nz x (by omega) _).mono ?_
            rintro e w3 ⟨o, rfl, he3, ho⟩
            go_wp2_with fail
            refine (cmp_nv (hz.ext he3).nv ho.nv).mono ?_
            rintro e w4 ⟨rfl, hq4⟩
            rw [cmpI_eq rfl]
            have he4 := he3.trans hq4.ext
            replace d0 := he4.cell d0
            replace d1 := he4.cell d1
            replace e0 := he4.cell e0
            replace e1 := he4.cell e1
            clear hcv
            go_wp2_with fail
            refine (is_tp (r := (q : Int)) ⟨_, rfl, hby.ext he4⟩ ⟨_, rfl, hW.ext he4⟩).mono ?_
            rintro e w5 ⟨z, rfl, he5, rfl⟩
            rw [show (decide (bs = bs) && decide ((q : Int) = q)) = true by simp]
            go_wp2_with fail
            refine (awake_true _).mono ?_
            rintro e w6 ⟨z, rfl, he6, rfl⟩
            go_wp2_with fail
            go_ret
            exact Ret.mk (((hxd.trans he4).trans he5).trans he6) rfl
end Go.Proofs.Ytamkbboijblooaa
