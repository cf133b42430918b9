/- Contract: ordinallaw24.awake. -/
import Derived.Test.YtiahaofjmcjdiaaDoorHr
namespace Go.Proofs.YtiahaofjmcjdiaaDoor
open Go.RowKit Go.Maps

theorem Cl.bk {w : World} {g : Nat} {t : TypeId} {xs : List Value} (h : Bk w g t xs) : Cl (fun _ => True) w (some ⟨g, 0, none⟩) xs := .inr ⟨_, rfl, trivial, fun j hj => by rw [add_own]; exact h.cell hj⟩
theorem atom2 {w : World} {g : Nat} {rl p q : ByteArray} (hb : Bk w g 9 [.string p, .string q]) :
    Calls Tryd.prog 21 #[.string rl, .slice (some ⟨g, 0, none⟩) 2 2] w (fun e w' => Ext w w' ∧ ∃ A c, e = .returned (.agg #[.bool false, .string rl, .slice A 2 c]) ∧ Ts (fun _ => True) w' (.slice A 2 c) [varT p, varT q]) := by
  refine (atom_any (vs := [p, q]) (Cl.bk hb) (by simp) (by simp)).mono ?_
  rintro e w' ⟨he, v, rfl, hr⟩
  obtain ⟨A, c, rfl⟩ := own_slice hr
  obtain ⟨g1, g2, g3⟩ := Cl.own hr (fun _ => True) (fun _ _ => trivial)
  exact ⟨he, A, c, rfl, A, c, rfl, g1, g3⟩
theorem ats2 {w : World} {g : Nat} {v1 v2 : Value} {r1 r2 : ByteArray} {t1 t2 : List Tm} (hb : Bk w g 61 [.bool false, .string r1, v1, .bool false, .string r2, v2]) (h1 : Ts (fun _ => True) w v1 t1) (h2 : Ts (fun _ => True) w v2 t2) :
    Ats (fun _ => True) w (.slice (some ⟨g, 0, none⟩) 2 2) [⟨false, r1, t1⟩, ⟨false, r2, t2⟩] := by
  refine ⟨_, 2, [v1, v2], rfl, by simp, rfl, Cl.bk hb, fun i h h' => ?_⟩
  match i, h, h' with
  | 0, _, _ => exact h1
  | 1, _, _ => exact h2
theorem ats3 {w : World} {g : Nat} {v1 v2 v3 : Value} {r1 r2 r3 : ByteArray} {t1 t2 t3 : List Tm} (hb : Bk w g 61 [.bool false, .string r1, v1, .bool false, .string r2, v2, .bool false, .string r3, v3]) (h1 : Ts (fun _ => True) w v1 t1) (h2 : Ts (fun _ => True) w v2 t2) (h3 : Ts (fun _ => True) w v3 t3) :
    Ats (fun _ => True) w (.slice (some ⟨g, 0, none⟩) 3 3) [⟨false, r1, t1⟩, ⟨false, r2, t2⟩, ⟨false, r3, t3⟩] := by
  refine ⟨_, 3, [v1, v2, v3], rfl, by simp, rfl, Cl.bk hb, fun i h h' => ?_⟩
  match i, h, h' with
  | 0, _, _ => exact h1
  | 1, _, _ => exact h2
  | 2, _, _ => exact h3
theorem aw_okx : AOk awX := by
  refine ⟨⟨by decide, by decide, by decide, by decide⟩, by decide, fun a ha t ht => ?_⟩
  have h : ∀ a ∈ awX, ∀ t ∈ a.terms, t.var.size ≤ 1048576 ∧ t.str.size ≤ 1048576 ∧ t.kind = 0 ∧ t.int = 0 := by decide
  obtain ⟨h1, h2, h3, h4⟩ := h a ha t ht
  exact ⟨h1, h2, by omega, by omega, by omega, by omega⟩
theorem aw_oky : AOk awY := by
  refine ⟨⟨by decide, by decide, by decide, by decide⟩, by decide, fun a ha t ht => ?_⟩
  have h : ∀ a ∈ awY, ∀ t ∈ a.terms, t.var.size ≤ 1048576 ∧ t.str.size ≤ 1048576 ∧ t.kind = 0 ∧ t.int = 0 := by decide
  obtain ⟨h1, h2, h3, h4⟩ := h a ha t ht
  exact ⟨h1, h2, by omega, by omega, by omega, by omega⟩

theorem firstP_mem {ps : List (ByteArray × Tm)} {s : ByteArray} {t : Tm} (h : firstP ps s = some t) : (s, t) ∈ ps := by
  have h0 : ∀ (ps : List (ByteArray × Tm)) (f : ByteArray → Option Tm), ps.foldl addP f s = some t → f s = some t ∨ (s, t) ∈ ps := by
    intro ps
    induction ps with
    | nil => intro f h; exact .inl h
    | cons p ps ih =>
      intro f h
      rcases ih (addP f p) h with h1 | h1
      · unfold addP at h1
        split at h1
        · exact .inl h1
        · unfold updT at h1
          split at h1
          · rename_i e; injection h1 with h1; subst e h1; exact .inr (by simp)
          · exact .inl h1
      · exact .inr (by simp [h1])
  rcases h0 ps _ h with h1 | h1
  · cases h1
  · exact h1
theorem aw_img : ∀ s t, firstP awM s = some t → TOk t := fun s t h => by
  have h1 := firstP_mem h
  have h2 : ∀ p ∈ awM, p.2.var.size ≤ 1048576 ∧ p.2.str.size ≤ 1048576 ∧ p.2.kind = 0 ∧ p.2.int = 0 := by decide
  obtain ⟨h3, h4, h5, h6⟩ := h2 _ h1
  exact ⟨h3, h4, by simp at h5; omega, by simp at h5; omega, by simp at h6; omega, by simp at h6; omega⟩
theorem aw_find1 {F G : Nat → Prop} {w : World} {svF svT : Value} (hX : Ats F w svF awX) (hY : Ats G w svT awY) :
    Calls Tryd.prog 9 #[.agg #[svF, .slice none 0 0], .agg #[svT, .slice none 0 0], .slice none 0 0] w (fun e w' => Ext w w' ∧ ∃ A c, e = .returned (.tuple #[.slice A 3 c, .bool true, .int .i64 0]) ∧ Prs (fun _ => True) w' (.slice A 3 c) awM) := by
  refine (find_good (H := fun _ => True) (fx := []) hX hY ⟨none, 0, rfl, by simp, .inl rfl⟩ aw_okx.bd aw_oky.bd (Lib.hid aw_px) (Lib.hid aw_py) (by decide) (by decide) (Lib.hid (by decide)) (Lib.hid (by decide)) (by rw [aw_vars]; decide) (by rw [aw_terms]; decide) (by decide) (Lib.hid (by simp)) (Lib.hid (by rw [aw_vars]; decide))).mono ?_
  rintro e w12 ⟨he12, hp⟩
  have hf := aw_find
  rcases hfs : findS awX awY [] with _ | im
  · rw [hfs] at hf; cases hf
  rw [hfs] at hp hf
  injection hf with hf
  replace hf : pairsOf (varsT (allT awX)) im = awM := hf
  obtain ⟨v12, rfl, hr12⟩ := hp
  rw [hf, aw_vars] at hr12
  change w12.ownsRow _ _ _ _ 3 (pcells awM) at hr12
  obtain ⟨A12, c12, rfl⟩ := own_slice hr12
  obtain ⟨g1, g2, g3⟩ := Cl.own hr12 (fun _ => True) (fun _ _ => trivial)
  exact ⟨he12, A12, c12, rfl, A12, c12, rfl, g1, g3⟩
theorem aw_find2 {F G : Nat → Prop} {w : World} {svF svT : Value} {g : Nat} (hX : Ats F w svF awX) (hY : Ats G w svT awY) (hb : Bk w g 9 [.string sx]) :
    Calls Tryd.prog 9 #[.agg #[svF, .slice none 0 0], .agg #[svT, .slice none 0 0], .slice (some ⟨g, 0, none⟩) 1 1] w (fun e w' => Ext w w' ∧ e = .returned (.tuple #[.slice none 0 0, .bool false, .int .i64 0])) := by
  refine (find_good (H := fun _ => True) (fx := [sx]) hX hY ⟨_, 1, rfl, by simp, Cl.bk hb⟩ aw_okx.bd aw_oky.bd (Lib.hid aw_px) (Lib.hid aw_py) (by decide) (by decide) (Lib.hid (by decide)) (Lib.hid (by decide)) (by rw [aw_vars]; decide) (by rw [aw_terms]; decide) (by decide) (Lib.hid (by decide)) (Lib.hid (by rw [aw_vars]; decide))).mono ?_
  rintro e w12 ⟨he12, hp⟩
  have hf := aw_pinned
  rcases hfs : findS awX awY [sx] with _ | im
  · rw [hfs] at hp; exact ⟨he12, hp⟩
  · rw [hfs] at hf; cases hf
theorem aw_check1 {F G H : Nat → Prop} {w : World} {svF svT vm : Value} (hX : Ats F w svF awX) (hY : Ats G w svT awY) (hM : Prs H w vm awM) (htab : TabE w) :
    Calls Tryd.prog 18 #[.agg #[svF, .slice none 0 0], .agg #[svT, .slice none 0 0], .slice none 0 0, vm] w (Ret (fun x _ => x = .bool true) w) := by
  have h := check_good (AF := none) (AT := none) (ccF := 0) (ccT := 0) hX hY hM aw_okx aw_oky (Lib.hid aw_px) (Lib.hid aw_py) (Lib.hid (by decide)) (by decide) htab (Lib.hid (by rw [aw_vars]; decide)) (Lib.hid aw_img)
  rwa [aw_check] at h

set_option maxRecDepth 100000 in
set_option maxHeartbeats 3200000 in
theorem awake_any {w : World} (htab : TabE w) : Calls Tryd.prog 8 #[] w (Ret (fun x _ => x = .bool true) w) := by
  have HTAB := Lib.hid htab
  clear htab
  go_enter Tryd.func8, Tryd.ntmps8
  go_wp2_with fail
  have hx := (Ext.refl w).alloc (.cells #[.string ⟨#[120]⟩, .string ⟨#[121]⟩] 9)
  have hb : Bk (w.alloc (.cells #[.string ⟨#[120]⟩, .string ⟨#[121]⟩] 9)) w.heap.size 9 [.string sx, .string sy] := Bk.new w _ [.string ⟨#[120]⟩, .string ⟨#[121]⟩]
  generalize w.alloc (.cells #[.string ⟨#[120]⟩, .string ⟨#[121]⟩] 9) = w1 at *
  refine (atom2 hb).mono ?_
  rintro e w2 ⟨he2, A1, c1, rfl, ht1⟩
  replace hx := hx.trans he2
  clear hb he2
  go_wp2_with fail
  have hx3 := (Ext.refl w2).alloc (.cells #[.string ⟨#[121]⟩, .string ⟨#[122]⟩] 9)
  have hb : Bk (w2.alloc (.cells #[.string ⟨#[121]⟩, .string ⟨#[122]⟩] 9)) w2.heap.size 9 [.string sy, .string sz] := Bk.new w2 _ [.string ⟨#[121]⟩, .string ⟨#[122]⟩]
  generalize w2.alloc (.cells #[.string ⟨#[121]⟩, .string ⟨#[122]⟩] 9) = w3 at *
  refine (atom2 hb).mono ?_
  rintro e w4 ⟨he4, A2, c2, rfl, ht2⟩
  replace hx3 := hx3.trans he4
  replace hx := hx.trans hx3
  replace ht1 := ht1.ext hx3
  clear hb he4 hx3
  go_wp2_with fail
  have h3 := three_new w4 [.bool false, .string ⟨#[114]⟩, .slice A1 2 c1, .bool false, .string ⟨#[114]⟩, .slice A2 2 c2] [.slice (some ⟨w4.heap.size, 0, none⟩) 2 2, .slice none 0 0] [.string ⟨#[97]⟩, .string ⟨#[98]⟩] 61 25 9 _ rfl
  change Bk (((w4.alloc (.cells #[.bool false, .string ⟨#[114]⟩, .slice A1 2 c1, .bool false, .string ⟨#[114]⟩, .slice A2 2 c2] 61)).alloc (.cells #[.slice (some ⟨w4.heap.size, 0, none⟩) 2 2, .slice none 0 0] 25)).alloc (.cells #[.string ⟨#[97]⟩, .string ⟨#[98]⟩] 9)) _ _ _ ∧ Bk (((w4.alloc (.cells #[.bool false, .string ⟨#[114]⟩, .slice A1 2 c1, .bool false, .string ⟨#[114]⟩, .slice A2 2 c2] 61)).alloc (.cells #[.slice (some ⟨w4.heap.size, 0, none⟩) 2 2, .slice none 0 0] 25)).alloc (.cells #[.string ⟨#[97]⟩, .string ⟨#[98]⟩] 9)) _ _ _ ∧ Bk (((w4.alloc (.cells #[.bool false, .string ⟨#[114]⟩, .slice A1 2 c1, .bool false, .string ⟨#[114]⟩, .slice A2 2 c2] 61)).alloc (.cells #[.slice (some ⟨w4.heap.size, 0, none⟩) 2 2, .slice none 0 0] 25)).alloc (.cells #[.string ⟨#[97]⟩, .string ⟨#[98]⟩] 9)) _ _ _ ∧ Ext w4 (((w4.alloc (.cells #[.bool false, .string ⟨#[114]⟩, .slice A1 2 c1, .bool false, .string ⟨#[114]⟩, .slice A2 2 c2] 61)).alloc (.cells #[.slice (some ⟨w4.heap.size, 0, none⟩) 2 2, .slice none 0 0] 25)).alloc (.cells #[.string ⟨#[97]⟩, .string ⟨#[98]⟩] 9)) at h3
  generalize (((w4.alloc (.cells #[.bool false, .string ⟨#[114]⟩, .slice A1 2 c1, .bool false, .string ⟨#[114]⟩, .slice A2 2 c2] 61)).alloc (.cells #[.slice (some ⟨w4.heap.size, 0, none⟩) 2 2, .slice none 0 0] 25)).alloc (.cells #[.string ⟨#[97]⟩, .string ⟨#[98]⟩] 9)) = w5 at *
  obtain ⟨k1, k2, hb, hx5⟩ := h3
  replace hx := hx.trans hx5
  have hX := ats2 k1 (ht1.ext hx5) (ht2.ext hx5)
  obtain ⟨gf, hgf⟩ : ∃ gf, gf = w4.heap.size := ⟨_, rfl⟩
  rw [← hgf] at k2 hb hX ⊢
  have kf := k2
  clear k1 k2 hx5 ht1 ht2 hgf
  refine (atom2 (p := sa) (q := sb) hb).mono ?_
  rintro e w6 ⟨he6, A3, c3, rfl, ht3⟩
  replace hx := hx.trans he6
  replace hX := hX.ext he6
  replace kf := kf.ext he6
  clear hb he6
  go_wp2_with fail
  have hx7 := (Ext.refl w6).alloc (.cells #[.string ⟨#[98]⟩, .string ⟨#[97]⟩] 9)
  have hb : Bk (w6.alloc (.cells #[.string ⟨#[98]⟩, .string ⟨#[97]⟩] 9)) w6.heap.size 9 [.string sb, .string sa] := Bk.new w6 _ [.string ⟨#[98]⟩, .string ⟨#[97]⟩]
  generalize w6.alloc (.cells #[.string ⟨#[98]⟩, .string ⟨#[97]⟩] 9) = w7 at *
  refine (atom2 hb).mono ?_
  rintro e w8 ⟨he8, A4, c4, rfl, ht4⟩
  replace hx7 := hx7.trans he8
  replace hx := hx.trans hx7
  replace hX := hX.ext hx7
  replace kf := kf.ext hx7
  replace ht3 := ht3.ext hx7
  clear hb he8 hx7
  go_wp2_with fail
  have hx9 := (Ext.refl w8).alloc (.cells #[.string ⟨#[97]⟩, .string ⟨#[97]⟩] 9)
  have hb : Bk (w8.alloc (.cells #[.string ⟨#[97]⟩, .string ⟨#[97]⟩] 9)) w8.heap.size 9 [.string sa, .string sa] := Bk.new w8 _ [.string ⟨#[97]⟩, .string ⟨#[97]⟩]
  generalize w8.alloc (.cells #[.string ⟨#[97]⟩, .string ⟨#[97]⟩] 9) = w9 at *
  refine (atom2 hb).mono ?_
  rintro e w10 ⟨he10, A5, c5, rfl, ht5⟩
  replace hx9 := hx9.trans he10
  replace hx := hx.trans hx9
  replace hX := hX.ext hx9
  replace kf := kf.ext hx9
  replace ht3 := ht3.ext hx9
  replace ht4 := ht4.ext hx9
  clear hb he10 hx9
  go_upto_region 3 with fail
  have hx11 : Ext w10 ((w10.alloc (.cells #[.bool false, .string ⟨#[114]⟩, .slice A3 2 c3, .bool false, .string ⟨#[114]⟩, .slice A4 2 c4, .bool false, .string ⟨#[114]⟩, .slice A5 2 c5] 61)).alloc (.cells #[.slice (some ⟨w10.heap.size, 0, none⟩) 3 3, .slice none 0 0] 25)) := ((Ext.refl w10).alloc _).alloc _
  have k1 : Bk ((w10.alloc (.cells #[.bool false, .string ⟨#[114]⟩, .slice A3 2 c3, .bool false, .string ⟨#[114]⟩, .slice A4 2 c4, .bool false, .string ⟨#[114]⟩, .slice A5 2 c5] 61)).alloc (.cells #[.slice (some ⟨w10.heap.size, 0, none⟩) 3 3, .slice none 0 0] 25)) w10.heap.size 61 [.bool false, .string ⟨#[114]⟩, .slice A3 2 c3, .bool false, .string ⟨#[114]⟩, .slice A4 2 c4, .bool false, .string ⟨#[114]⟩, .slice A5 2 c5] := (Bk.new w10 _ [.bool false, .string ⟨#[114]⟩, .slice A3 2 c3, .bool false, .string ⟨#[114]⟩, .slice A4 2 c4, .bool false, .string ⟨#[114]⟩, .slice A5 2 c5]).alloc _
  have kt : Bk ((w10.alloc (.cells #[.bool false, .string ⟨#[114]⟩, .slice A3 2 c3, .bool false, .string ⟨#[114]⟩, .slice A4 2 c4, .bool false, .string ⟨#[114]⟩, .slice A5 2 c5] 61)).alloc (.cells #[.slice (some ⟨w10.heap.size, 0, none⟩) 3 3, .slice none 0 0] 25)) (w10.heap.size + 1) 25 [.slice (some ⟨w10.heap.size, 0, none⟩) 3 3, .slice none 0 0] := by
    have h := Bk.new (w10.alloc (.cells #[.bool false, .string ⟨#[114]⟩, .slice A3 2 c3, .bool false, .string ⟨#[114]⟩, .slice A4 2 c4, .bool false, .string ⟨#[114]⟩, .slice A5 2 c5] 61)) 25 [.slice (some ⟨w10.heap.size, 0, none⟩) 3 3, .slice none 0 0]
    rw [show (w10.alloc (.cells #[.bool false, .string ⟨#[114]⟩, .slice A3 2 c3, .bool false, .string ⟨#[114]⟩, .slice A4 2 c4, .bool false, .string ⟨#[114]⟩, .slice A5 2 c5] 61)).heap.size = w10.heap.size + 1 by simp] at h
    exact h
  generalize ((w10.alloc (.cells #[.bool false, .string ⟨#[114]⟩, .slice A3 2 c3, .bool false, .string ⟨#[114]⟩, .slice A4 2 c4, .bool false, .string ⟨#[114]⟩, .slice A5 2 c5] 61)).alloc (.cells #[.slice (some ⟨w10.heap.size, 0, none⟩) 3 3, .slice none 0 0] 25)) = w11 at *
  have hY := ats3 k1 (ht3.ext hx11) (ht4.ext hx11) (ht5.ext hx11)
  replace hx := hx.trans hx11
  replace hX := hX.ext hx11
  replace kf := kf.ext hx11
  obtain ⟨gt, hgt⟩ : ∃ gt, gt = w10.heap.size := ⟨_, rfl⟩
  rw [← hgt] at kt hY ⊢
  clear hgt k1 ht3 ht4 ht5 hx11
  have HX : Hid (Ats (fun _ => True) w11 (.slice (some ⟨gf, 0, none⟩) 2 2) awX) := Lib.hid hX
  have HY : Hid (Ats (fun _ => True) w11 (.slice (some ⟨gt, 0, none⟩) 3 3) awY) := Lib.hid hY
  have HE := Lib.hid hx; have HKF := Lib.hid kf; have HKT := Lib.hid kt
  have e0 := kf.cell (i := 0) (by simp)
  have e1 := kf.cell (i := 1) (by simp)
  have f0 := kt.cell (i := 0) (by simp)
  have f1 := kt.cell (i := 1) (by simp)
  simp only [List.getElem_cons_zero, List.getElem_cons_succ] at e0 e1 f0 f1
  clear hx kf kt hX hY
  go_wp2_with fail
  refine (aw_find1 HX.out HY.out).mono ?_
  rintro e w12 ⟨he12, A12, c12, rfl, hm12⟩
  have HM := Lib.hid hm12
  have HE12 := Lib.hid he12
  clear hm12 e0 e1 f0 f1 he12
  have kf := HKF.out.ext HE12.out
  have kt := HKT.out.ext HE12.out
  have e0 := kf.cell (i := 0) (by simp)
  have e1 := kf.cell (i := 1) (by simp)
  have f0 := kt.cell (i := 0) (by simp)
  have f1 := kt.cell (i := 1) (by simp)
  simp only [List.getElem_cons_zero, List.getElem_cons_succ] at e0 e1 f0 f1
  clear kf kt
  go_wp2_with fail
  have hx13 := (Ext.refl w12).alloc (.cells #[.string ⟨#[120]⟩] 9)
  have hb : Bk (w12.alloc (.cells #[.string ⟨#[120]⟩] 9)) w12.heap.size 9 [.string sx] := Bk.new w12 _ [.string ⟨#[120]⟩]
  generalize w12.alloc (.cells #[.string ⟨#[120]⟩] 9) = w13 at *
  have HE13 := Lib.hid (HE12.out.trans hx13)
  refine (aw_find2 (HX.out.ext HE13.out) (HY.out.ext HE13.out) hb).mono ?_
  rintro e w14 ⟨he14, rfl⟩
  have HE14 := Lib.hid (HE13.out.trans he14)
  have HM14 := Lib.hid (HM.out.ext (hx13.trans he14))
  clear hb hx13 he14 e0 e1 f0 f1
  have kf := HKF.out.ext HE14.out
  have kt := HKT.out.ext HE14.out
  have e0 := kf.cell (i := 0) (by simp)
  have e1 := kf.cell (i := 1) (by simp)
  have f0 := kt.cell (i := 0) (by simp)
  have f1 := kt.cell (i := 1) (by simp)
  simp only [List.getElem_cons_zero, List.getElem_cons_succ] at e0 e1 f0 f1
  clear kf kt
  obtain ⟨A', c', eA, -, hcl⟩ := HM14.out
  injection eA with eA1 eA2 eA3
  subst eA1 eA3
  obtain ⟨ad, rfl, -, p0, p1, p2, p3, p4⟩ := hcl.pair (i := 0) (by decide)
  obtain ⟨ad2, ead, -, q0, q1, q2, q3, q4⟩ := hcl.pair (i := 2) (by decide)
  injection ead with ead
  subst ead
  rw [show 0 * 5 = 0 from rfl, add_zero] at p0 p1 p2 p3 p4
  rw [show ad.add (2 * 5) = ⟨ad.block, ad.off + 10, none⟩ by simp [Addr.add]] at q0 q1 q2 q3 q4
  replace p0 : w14.cell? ad = some (.string ⟨#[120]⟩) := p0
  replace p1 : w14.cell? ⟨ad.block, ad.off + 1, none⟩ = some (.string ⟨#[97]⟩) := p1
  replace p2 : w14.cell? ⟨ad.block, ad.off + 2, none⟩ = some (.int .i64 0) := p2
  replace p3 : w14.cell? ⟨ad.block, ad.off + 3, none⟩ = some (.int .i64 0) := p3
  replace p4 : w14.cell? ⟨ad.block, ad.off + 4, none⟩ = some (.string ⟨#[]⟩) := p4
  replace q0 : w14.cell? ⟨ad.block, ad.off + 10, none⟩ = some (.string ⟨#[122]⟩) := q0
  replace q1 : w14.cell? ⟨ad.block, ad.off + 10 + 1, none⟩ = some (.string ⟨#[97]⟩) := q1
  replace q2 : w14.cell? ⟨ad.block, ad.off + 10 + 2, none⟩ = some (.int .i64 0) := q2
  replace q3 : w14.cell? ⟨ad.block, ad.off + 10 + 3, none⟩ = some (.int .i64 0) := q3
  replace q4 : w14.cell? ⟨ad.block, ad.off + 10 + 4, none⟩ = some (.string ⟨#[]⟩) := q4
  clear hcl eA2
  go_wp2_with fail
  refine (aw_check1 (HX.out.ext HE14.out) (HY.out.ext HE14.out) HM14.out (HTAB.out.fore (HE.out.trans HE14.out))).mono ?_
  rintro e w15 ⟨y, rfl, he15, rfl⟩
  have HE15 := Lib.hid (HE.out.trans (HE14.out.trans he15))
  clear he15 p0 p1 p2 p3 p4 q0 q1 q2 q3 q4 e0 e1 f0 f1
  go_wp2_with fail
  go_ret
  exact Ret.mk HE15.out rfl
end Go.Proofs.YtiahaofjmcjdiaaDoor
