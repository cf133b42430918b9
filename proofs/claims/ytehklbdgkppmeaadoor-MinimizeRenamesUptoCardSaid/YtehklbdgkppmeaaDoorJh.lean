/- Contract: ordinallaw25.awake. -/
import Derived.Test.YtehklbdgkppmeaaDoorJg
namespace Go.Proofs.YtehklbdgkppmeaaDoor
open Go.RowKit Go.Maps

def cx : ByteArray := ⟨#[120]⟩
def cy : ByteArray := ⟨#[121]⟩
def cz : ByteArray := ⟨#[122]⟩
def cw : ByteArray := ⟨#[119]⟩
def cr : ByteArray := ⟨#[114]⟩
def awX : List At := [⟨false, cr, [varT cx, varT cy]⟩, ⟨false, cr, [varT cx, varT cz]⟩, ⟨false, cr, [varT cz, varT cw]⟩]
def awY : List At := [⟨false, cr, [varT cx, varT cy]⟩]
def awC : List At := [⟨false, cr, [varT cx, varT cz]⟩, ⟨false, cr, [varT cz, varT cw]⟩]
def awQ (xs : List At) : Qr := ⟨[cx], 0, ⟨#[]⟩, [⟨xs, 0⟩], 0⟩
theorem aw_px : pureL awX 0 = true := by decide +kernel
theorem at_inj {xs ys : List At} (h : xs.map (fun a => (a.neg, a.rel, a.terms)) = ys.map (fun a => (a.neg, a.rel, a.terms))) : xs = ys :=
  (List.map_inj_right (fun x y e => by cases x; cases y; simp only [Prod.mk.injEq] at e; obtain ⟨rfl, rfl, rfl⟩ := e; rfl)).1 h
theorem aw_core : coreP awX [cx] = awC := at_inj (by decide +kernel)
theorem aw_e1 : contE (awQ awX) (awQ awY) = 0 := by decide +kernel
theorem aw_e2 : contE (awQ awY) (awQ awX) = 0 := by decide +kernel
theorem aw_b1 : contB (awQ awX) (awQ awY) = true := by decide +kernel
theorem aw_b2 : contB (awQ awY) (awQ awX) = false := by decide +kernel
theorem aw_n1 : contN (awQ awX) (awQ awY) (awQ awX).rs = [0] := by decide +kernel
theorem aw_ok {xs : List At} (h : xs = awX ∨ xs = awY) : AOk xs := by
  have h0 : ∀ ys, ys = awX ∨ ys = awY → Bd ys ∧ (∀ a ∈ ys, a.terms.length ≤ 1000) ∧ ∀ a ∈ ys, ∀ t ∈ a.terms, t.var.size ≤ 1048576 ∧ t.str.size ≤ 1048576 ∧ t.kind = 0 ∧ t.int = 0 := fun ys hy => by
    rcases hy with rfl | rfl
    · exact ⟨⟨by decide, by decide, by decide, by decide⟩, by decide, by decide⟩
    · exact ⟨⟨by decide, by decide, by decide, by decide⟩, by decide, by decide⟩
  obtain ⟨h1, h2, h3⟩ := h0 xs h
  refine ⟨h1, h2, fun a ha t ht => ?_⟩
  obtain ⟨h1, h2, h3, h4⟩ := h3 a ha t ht
  exact ⟨h1, h2, by omega, by omega, by omega, by omega⟩
theorem aw_qok {xs : List At} (h : xs = awX ∨ xs = awY) : QOk (awQ xs) := by
  refine ⟨fun r hr => ?_, fun v hv => by obtain rfl : v = cx := List.mem_singleton.1 hv; decide, by show 1 ≤ 1000; decide, by show 1 ≤ 1000; decide⟩
  obtain rfl : r = ⟨xs, 0⟩ := List.mem_singleton.1 hr
  exact aw_ok h

theorem strs_bk {w : World} {g : Nat} {vs : List ByteArray} (h : Bk w g 9 (vs.map Sv)) : Strs T1 w (.slice (some ⟨g, 0, none⟩) vs.length vs.length) vs := ⟨_, _, rfl, Nat.le_refl _, Cl.bk h⟩
theorem ats1 {w : World} {g : Nat} {v1 : Value} {r1 : ByteArray} {t1 : List Tm} (hb : Bk w g 39 [.bool false, .string r1, v1]) (h1 : Ts T1 w v1 t1) :
    Ats T1 w (.slice (some ⟨g, 0, none⟩) 1 1) [⟨false, r1, t1⟩] := by
  refine ⟨_, 1, [v1], rfl, by simp, rfl, Cl.bk hb, fun i h h' => ?_⟩
  match i, h, h' with
  | 0, _, _ => exact h1
theorem ats3 {w : World} {g : Nat} {v1 v2 v3 : Value} {r1 r2 r3 : ByteArray} {t1 t2 t3 : List Tm} (hb : Bk w g 39 [.bool false, .string r1, v1, .bool false, .string r2, v2, .bool false, .string r3, v3]) (h1 : Ts T1 w v1 t1) (h2 : Ts T1 w v2 t2) (h3 : Ts T1 w v3 t3) :
    Ats T1 w (.slice (some ⟨g, 0, none⟩) 3 3) [⟨false, r1, t1⟩, ⟨false, r2, t2⟩, ⟨false, r3, t3⟩] := by
  refine ⟨_, 3, [v1, v2, v3], rfl, by simp, rfl, Cl.bk hb, fun i h h' => ?_⟩
  match i, h, h' with
  | 0, _, _ => exact h1
  | 1, _, _ => exact h2
  | 2, _, _ => exact h3
theorem rus1 {w : World} {g : Nat} {B : Option Addr} {n d : Nat} {xs : List At} (hb : Bk w g 25 [.slice B n d, .slice none 0 0]) (h : Ats T1 w (.slice B n d) xs) : Rus T1 w (.slice (some ⟨g, 0, none⟩) 1 1) [⟨xs, 0⟩] := by
  refine ⟨_, 1, rfl, Nat.le_refl _, fun i hi => ?_⟩
  have hcl := Cl.bk (t := 25) (xs := pcat [(.slice B n d, .slice none 0 0)]) hb
  match i, hi with
  | 0, _ =>
    obtain ⟨ad, e1, -, c0, c1⟩ := hcl.rule (i := 0) (by simp)
    exact ⟨ad, B, n, d, none, 0, e1, trivial, c0, c1, h, Cns.nil _ _⟩
theorem atom25b {w : World} {g : Nat} {rl p q : ByteArray} (hb : Bk w g 9 [.string p, .string q]) :
    Calls Tryd.prog 27 #[.string rl, .slice (some ⟨g, 0, none⟩) 2 2] w (fun e w' => Ext w w' ∧ ∃ A c, e = .returned (.agg #[.bool false, .string rl, .slice A 2 c]) ∧ Ts T1 w' (.slice A 2 c) [varT p, varT q]) := by
  refine (atom25 (vs := [p, q]) (strs_bk (vs := [p, q]) hb) (by simp)).mono ?_
  rintro e w' ⟨he, A, c, rfl, ht⟩
  exact ⟨he, A, c, rfl, ht.mono (fun _ _ _ => trivial)⟩

set_option maxRecDepth 100000 in
set_option maxHeartbeats 6400000 in
theorem awake_any {w : World} (htab : TabE w) : Calls Tryd.prog 9 #[] w (Ret (fun x _ => x = .bool true) w) := by
  have HTAB := Lib.hid htab
  clear htab
  go_enter Tryd.func9, Tryd.ntmps9
  go_wp2_with fail
  have hx := (Ext.refl w).alloc (.cells #[.string ⟨#[120]⟩, .string ⟨#[121]⟩] 9)
  have hb : Bk (w.alloc (.cells #[.string ⟨#[120]⟩, .string ⟨#[121]⟩] 9)) w.heap.size 9 [.string cx, .string cy] := Bk.new w _ [.string ⟨#[120]⟩, .string ⟨#[121]⟩]
  generalize w.alloc (.cells #[.string ⟨#[120]⟩, .string ⟨#[121]⟩] 9) = w1 at *
  refine (atom25b hb).mono ?_
  rintro e w2 ⟨he2, A1, c1, rfl, ht1⟩
  replace hx := hx.trans he2
  clear hb he2
  go_wp2_with fail
  have hx3 := (Ext.refl w2).alloc (.cells #[.string ⟨#[120]⟩, .string ⟨#[122]⟩] 9)
  have hb : Bk (w2.alloc (.cells #[.string ⟨#[120]⟩, .string ⟨#[122]⟩] 9)) w2.heap.size 9 [.string cx, .string cz] := Bk.new w2 _ [.string ⟨#[120]⟩, .string ⟨#[122]⟩]
  generalize w2.alloc (.cells #[.string ⟨#[120]⟩, .string ⟨#[122]⟩] 9) = w3 at *
  refine (atom25b hb).mono ?_
  rintro e w4 ⟨he4, A2, c2, rfl, ht2⟩
  replace hx3 := hx3.trans he4
  replace hx := hx.trans hx3
  replace ht1 := ht1.ext hx3
  clear hb he4 hx3
  go_wp2_with fail
  have hx5 := (Ext.refl w4).alloc (.cells #[.string ⟨#[122]⟩, .string ⟨#[119]⟩] 9)
  have hb : Bk (w4.alloc (.cells #[.string ⟨#[122]⟩, .string ⟨#[119]⟩] 9)) w4.heap.size 9 [.string cz, .string cw] := Bk.new w4 _ [.string ⟨#[122]⟩, .string ⟨#[119]⟩]
  generalize w4.alloc (.cells #[.string ⟨#[122]⟩, .string ⟨#[119]⟩] 9) = w5 at *
  refine (atom25b hb).mono ?_
  rintro e w6 ⟨he6, A3, c3, rfl, ht3⟩
  replace hx5 := hx5.trans he6
  replace hx := hx.trans hx5
  replace ht1 := ht1.ext hx5
  replace ht2 := ht2.ext hx5
  clear hb he6 hx5
  go_upto_region 2 with fail
  have hxw7 : Ext w6 ((w6.alloc (.cells #[.bool false, .string ⟨#[114]⟩, .slice A1 2 c1, .bool false, .string ⟨#[114]⟩, .slice A2 2 c2, .bool false, .string ⟨#[114]⟩, .slice A3 2 c3] 39)).alloc (.cells #[.slice (some ⟨w6.heap.size, 0, none⟩) 3 3, .slice none 0 0] 25)) := (((Ext.refl w6).alloc _).alloc _)
  have k1 : Bk ((w6.alloc (.cells #[.bool false, .string ⟨#[114]⟩, .slice A1 2 c1, .bool false, .string ⟨#[114]⟩, .slice A2 2 c2, .bool false, .string ⟨#[114]⟩, .slice A3 2 c3] 39)).alloc (.cells #[.slice (some ⟨w6.heap.size, 0, none⟩) 3 3, .slice none 0 0] 25)) (w6.heap.size) 39 [.bool false, .string ⟨#[114]⟩, .slice A1 2 c1, .bool false, .string ⟨#[114]⟩, .slice A2 2 c2, .bool false, .string ⟨#[114]⟩, .slice A3 2 c3] := ((Bk.new w6 39 [.bool false, .string ⟨#[114]⟩, .slice A1 2 c1, .bool false, .string ⟨#[114]⟩, .slice A2 2 c2, .bool false, .string ⟨#[114]⟩, .slice A3 2 c3]).alloc _)
  have kr : Bk ((w6.alloc (.cells #[.bool false, .string ⟨#[114]⟩, .slice A1 2 c1, .bool false, .string ⟨#[114]⟩, .slice A2 2 c2, .bool false, .string ⟨#[114]⟩, .slice A3 2 c3] 39)).alloc (.cells #[.slice (some ⟨w6.heap.size, 0, none⟩) 3 3, .slice none 0 0] 25)) (w6.heap.size + 1) 25 [.slice (some ⟨w6.heap.size, 0, none⟩) 3 3, .slice none 0 0] := by
    have h := Bk.new (w6.alloc (.cells #[.bool false, .string ⟨#[114]⟩, .slice A1 2 c1, .bool false, .string ⟨#[114]⟩, .slice A2 2 c2, .bool false, .string ⟨#[114]⟩, .slice A3 2 c3] 39)) 25 [.slice (some ⟨w6.heap.size, 0, none⟩) 3 3, .slice none 0 0]
    rw [show (w6.alloc (.cells #[.bool false, .string ⟨#[114]⟩, .slice A1 2 c1, .bool false, .string ⟨#[114]⟩, .slice A2 2 c2, .bool false, .string ⟨#[114]⟩, .slice A3 2 c3] 39)).heap.size = w6.heap.size + 1 by simp] at h
    exact h
  generalize ((w6.alloc (.cells #[.bool false, .string ⟨#[114]⟩, .slice A1 2 c1, .bool false, .string ⟨#[114]⟩, .slice A2 2 c2, .bool false, .string ⟨#[114]⟩, .slice A3 2 c3] 39)).alloc (.cells #[.slice (some ⟨w6.heap.size, 0, none⟩) 3 3, .slice none 0 0] 25)) = w7 at *
  have hX : Ats T1 w7 (.slice (some ⟨w6.heap.size, 0, none⟩) 3 3) awX := ats3 k1 (ht1.ext hxw7) (ht2.ext hxw7) (ht3.ext hxw7)
  replace hx := hx.trans hxw7
  obtain ⟨gA, hgA⟩ : ∃ g, g = w6.heap.size := ⟨_, rfl⟩
  rw [← hgA] at kr hX ⊢
  clear hgA k1 ht1 ht2 ht3 hxw7
  have r0 := kr.cell (i := 0) (by simp); have r1 := kr.cell (i := 1) (by simp)
  simp only [List.getElem_cons_zero, List.getElem_cons_succ] at r0 r1
  go_wp2_with fail
  clear r0 r1
  have hxw8 : Ext w7 (w7.alloc (.cells #[.string ⟨#[120]⟩] 9)) := ((Ext.refl w7).alloc _)
  have kb : Bk (w7.alloc (.cells #[.string ⟨#[120]⟩] 9)) (w7.heap.size) 9 [.string ⟨#[120]⟩] := (Bk.new w7 9 [.string ⟨#[120]⟩])
  generalize (w7.alloc (.cells #[.string ⟨#[120]⟩] 9)) = w8 at *
  replace hX := hX.ext hxw8
  replace kr := kr.ext hxw8
  replace hx := hx.trans hxw8
  have hc := mcore_yes (vf := .slice (some ⟨w7.heap.size, 0, none⟩) 1 1) hX (Cns.nil T1 _) (strs_bk (vs := [cx]) kb) (aw_ok (.inl rfl)) aw_px (HTAB.out.fore hx) (by simp) (by decide)
  unfold CoreYes at hc
  rw [aw_core] at hc
  refine hc.mono ?_
  rintro e w9 ⟨A9, n9, d9, B9, e9, rfl, he9, hA9, -⟩
  obtain rfl : n9 = 2 := by obtain ⟨_, _, e⟩ := hA9.sl; injection e
  have hC : Ats T1 w9 (.slice A9 2 d9) awC := hA9.mono (fun _ _ _ => trivial)
  clear hc kb hxw8 hA9
  replace hX := hX.ext he9
  replace kr := kr.ext he9
  replace hx := hx.trans he9
  clear he9
  go_upto_region 3 with fail
  have hxw10 : Ext w9 (w9.alloc (.cells #[.slice A9 2 d9, .slice B9 0 e9] 25)) := ((Ext.refl w9).alloc _)
  have kc : Bk (w9.alloc (.cells #[.slice A9 2 d9, .slice B9 0 e9] 25)) (w9.heap.size) 25 [.slice A9 2 d9, .slice B9 0 e9] := (Bk.new w9 25 [.slice A9 2 d9, .slice B9 0 e9])
  generalize (w9.alloc (.cells #[.slice A9 2 d9, .slice B9 0 e9] 25)) = w10 at *
  replace hX := hX.ext hxw10
  replace kr := kr.ext hxw10
  replace hC := hC.ext hxw10
  replace hx := hx.trans hxw10
  clear hxw10
  have kq := kr.alloc (.cells #[.string ⟨#[120]⟩] 9)
  have r0 := kq.cell (i := 0) (by simp); have r1 := kq.cell (i := 1) (by simp)
  simp only [List.getElem_cons_zero, List.getElem_cons_succ] at r0 r1
  clear kq
  go_upto_region 4 with fail
  clear r0 r1
  have hxw11 : Ext w10 (((w10.alloc (.cells #[.string ⟨#[120]⟩] 9)).alloc (.cells #[.slice (some ⟨gA, 0, none⟩) 3 3, .slice none 0 0] 25)).alloc (.cells #[.slice (some ⟨w10.heap.size, 0, none⟩) 1 1, .int .i64 0, .string ⟨#[]⟩, .slice (some ⟨w10.heap.size + 1, 0, none⟩) 1 1, .slice none 0 0] 44)) := ((((Ext.refl w10).alloc _).alloc _).alloc _)
  have kh : Bk (((w10.alloc (.cells #[.string ⟨#[120]⟩] 9)).alloc (.cells #[.slice (some ⟨gA, 0, none⟩) 3 3, .slice none 0 0] 25)).alloc (.cells #[.slice (some ⟨w10.heap.size, 0, none⟩) 1 1, .int .i64 0, .string ⟨#[]⟩, .slice (some ⟨w10.heap.size + 1, 0, none⟩) 1 1, .slice none 0 0] 44)) (w10.heap.size) 9 [.string ⟨#[120]⟩] := (((Bk.new w10 9 [.string ⟨#[120]⟩]).alloc _).alloc _)
  have ks : Bk (((w10.alloc (.cells #[.string ⟨#[120]⟩] 9)).alloc (.cells #[.slice (some ⟨gA, 0, none⟩) 3 3, .slice none 0 0] 25)).alloc (.cells #[.slice (some ⟨w10.heap.size, 0, none⟩) 1 1, .int .i64 0, .string ⟨#[]⟩, .slice (some ⟨w10.heap.size + 1, 0, none⟩) 1 1, .slice none 0 0] 44)) (w10.heap.size + 1) 25 [.slice (some ⟨gA, 0, none⟩) 3 3, .slice none 0 0] := by
    have h := Bk.new (w10.alloc (.cells #[.string ⟨#[120]⟩] 9)) 25 [.slice (some ⟨gA, 0, none⟩) 3 3, .slice none 0 0]
    rw [show (w10.alloc (.cells #[.string ⟨#[120]⟩] 9)).heap.size = w10.heap.size + 1 by simp] at h
    exact (h.alloc _)
  have ka : Bk (((w10.alloc (.cells #[.string ⟨#[120]⟩] 9)).alloc (.cells #[.slice (some ⟨gA, 0, none⟩) 3 3, .slice none 0 0] 25)).alloc (.cells #[.slice (some ⟨w10.heap.size, 0, none⟩) 1 1, .int .i64 0, .string ⟨#[]⟩, .slice (some ⟨w10.heap.size + 1, 0, none⟩) 1 1, .slice none 0 0] 44)) (w10.heap.size + 1 + 1) 44 [.slice (some ⟨w10.heap.size, 0, none⟩) 1 1, .int .i64 0, .string ⟨#[]⟩, .slice (some ⟨w10.heap.size + 1, 0, none⟩) 1 1, .slice none 0 0] := by
    have h := Bk.new ((w10.alloc (.cells #[.string ⟨#[120]⟩] 9)).alloc (.cells #[.slice (some ⟨gA, 0, none⟩) 3 3, .slice none 0 0] 25)) 44 [.slice (some ⟨w10.heap.size, 0, none⟩) 1 1, .int .i64 0, .string ⟨#[]⟩, .slice (some ⟨w10.heap.size + 1, 0, none⟩) 1 1, .slice none 0 0]
    rw [show ((w10.alloc (.cells #[.string ⟨#[120]⟩] 9)).alloc (.cells #[.slice (some ⟨gA, 0, none⟩) 3 3, .slice none 0 0] 25)).heap.size = w10.heap.size + 1 + 1 by simp] at h
    exact h
  generalize (((w10.alloc (.cells #[.string ⟨#[120]⟩] 9)).alloc (.cells #[.slice (some ⟨gA, 0, none⟩) 3 3, .slice none 0 0] 25)).alloc (.cells #[.slice (some ⟨w10.heap.size, 0, none⟩) 1 1, .int .i64 0, .string ⟨#[]⟩, .slice (some ⟨w10.heap.size + 1, 0, none⟩) 1 1, .slice none 0 0] 44)) = w11 at *
  replace hX := hX.ext hxw11
  replace kr := kr.ext hxw11
  replace hC := hC.ext hxw11
  replace kc := kc.ext hxw11
  replace hx := hx.trans hxw11
  have hqa : Qc w11 (some ⟨w10.heap.size, 0, none⟩) 1 (some ⟨w10.heap.size + 1, 0, none⟩) 1 none 0 (awQ awX) := ⟨strs_bk (vs := [cx]) kh, rus1 ks hX, Kys.nil _ _⟩
  obtain ⟨ga, hga⟩ : ∃ g, g = w10.heap.size := ⟨_, rfl⟩
  rw [← hga] at ka hqa ⊢
  clear hga kh ks hxw11
  go_wp2_with fail
  have hxw12 : Ext w11 ((w11.alloc (.cells #[.string ⟨#[120]⟩] 9)).alloc (.cells #[.string ⟨#[120]⟩, .string ⟨#[121]⟩] 9)) := (((Ext.refl w11).alloc _).alloc _)
  have kh : Bk ((w11.alloc (.cells #[.string ⟨#[120]⟩] 9)).alloc (.cells #[.string ⟨#[120]⟩, .string ⟨#[121]⟩] 9)) (w11.heap.size) 9 [.string ⟨#[120]⟩] := ((Bk.new w11 9 [.string ⟨#[120]⟩]).alloc _)
  have kb : Bk ((w11.alloc (.cells #[.string ⟨#[120]⟩] 9)).alloc (.cells #[.string ⟨#[120]⟩, .string ⟨#[121]⟩] 9)) (w11.heap.size + 1) 9 [.string ⟨#[120]⟩, .string ⟨#[121]⟩] := by
    have h := Bk.new (w11.alloc (.cells #[.string ⟨#[120]⟩] 9)) 9 [.string ⟨#[120]⟩, .string ⟨#[121]⟩]
    rw [show (w11.alloc (.cells #[.string ⟨#[120]⟩] 9)).heap.size = w11.heap.size + 1 by simp] at h
    exact h
  generalize ((w11.alloc (.cells #[.string ⟨#[120]⟩] 9)).alloc (.cells #[.string ⟨#[120]⟩, .string ⟨#[121]⟩] 9)) = w12 at *
  replace hX := hX.ext hxw12
  replace kr := kr.ext hxw12
  replace hC := hC.ext hxw12
  replace kc := kc.ext hxw12
  replace hqa := hqa.ext hxw12
  replace ka := ka.ext hxw12
  replace hx := hx.trans hxw12
  obtain ⟨gh, hgh⟩ : ∃ g, g = w11.heap.size := ⟨_, rfl⟩
  rw [← hgh] at kh kb ⊢
  clear hgh hxw12
  refine (atom25b (p := cx) (q := cy) kb).mono ?_
  rintro e w13 ⟨he13, A4, c4, rfl, ht4⟩
  clear kb
  replace hX := hX.ext he13
  replace kr := kr.ext he13
  replace hC := hC.ext he13
  replace kc := kc.ext he13
  replace hqa := hqa.ext he13
  replace ka := ka.ext he13
  replace kh := kh.ext he13
  replace hx := hx.trans he13
  clear he13
  go_upto_region 5 with fail
  have hxw14 : Ext w13 (((w13.alloc (.cells #[.bool false, .string ⟨#[114]⟩, .slice A4 2 c4] 39)).alloc (.cells #[.slice (some ⟨w13.heap.size, 0, none⟩) 1 1, .slice none 0 0] 25)).alloc (.cells #[.slice (some ⟨gh, 0, none⟩) 1 1, .int .i64 0, .string ⟨#[]⟩, .slice (some ⟨w13.heap.size + 1, 0, none⟩) 1 1, .slice none 0 0] 44)) := ((((Ext.refl w13).alloc _).alloc _).alloc _)
  have k1 : Bk (((w13.alloc (.cells #[.bool false, .string ⟨#[114]⟩, .slice A4 2 c4] 39)).alloc (.cells #[.slice (some ⟨w13.heap.size, 0, none⟩) 1 1, .slice none 0 0] 25)).alloc (.cells #[.slice (some ⟨gh, 0, none⟩) 1 1, .int .i64 0, .string ⟨#[]⟩, .slice (some ⟨w13.heap.size + 1, 0, none⟩) 1 1, .slice none 0 0] 44)) (w13.heap.size) 39 [.bool false, .string ⟨#[114]⟩, .slice A4 2 c4] := (((Bk.new w13 39 [.bool false, .string ⟨#[114]⟩, .slice A4 2 c4]).alloc _).alloc _)
  have ks : Bk (((w13.alloc (.cells #[.bool false, .string ⟨#[114]⟩, .slice A4 2 c4] 39)).alloc (.cells #[.slice (some ⟨w13.heap.size, 0, none⟩) 1 1, .slice none 0 0] 25)).alloc (.cells #[.slice (some ⟨gh, 0, none⟩) 1 1, .int .i64 0, .string ⟨#[]⟩, .slice (some ⟨w13.heap.size + 1, 0, none⟩) 1 1, .slice none 0 0] 44)) (w13.heap.size + 1) 25 [.slice (some ⟨w13.heap.size, 0, none⟩) 1 1, .slice none 0 0] := by
    have h := Bk.new (w13.alloc (.cells #[.bool false, .string ⟨#[114]⟩, .slice A4 2 c4] 39)) 25 [.slice (some ⟨w13.heap.size, 0, none⟩) 1 1, .slice none 0 0]
    rw [show (w13.alloc (.cells #[.bool false, .string ⟨#[114]⟩, .slice A4 2 c4] 39)).heap.size = w13.heap.size + 1 by simp] at h
    exact (h.alloc _)
  have kd : Bk (((w13.alloc (.cells #[.bool false, .string ⟨#[114]⟩, .slice A4 2 c4] 39)).alloc (.cells #[.slice (some ⟨w13.heap.size, 0, none⟩) 1 1, .slice none 0 0] 25)).alloc (.cells #[.slice (some ⟨gh, 0, none⟩) 1 1, .int .i64 0, .string ⟨#[]⟩, .slice (some ⟨w13.heap.size + 1, 0, none⟩) 1 1, .slice none 0 0] 44)) (w13.heap.size + 1 + 1) 44 [.slice (some ⟨gh, 0, none⟩) 1 1, .int .i64 0, .string ⟨#[]⟩, .slice (some ⟨w13.heap.size + 1, 0, none⟩) 1 1, .slice none 0 0] := by
    have h := Bk.new ((w13.alloc (.cells #[.bool false, .string ⟨#[114]⟩, .slice A4 2 c4] 39)).alloc (.cells #[.slice (some ⟨w13.heap.size, 0, none⟩) 1 1, .slice none 0 0] 25)) 44 [.slice (some ⟨gh, 0, none⟩) 1 1, .int .i64 0, .string ⟨#[]⟩, .slice (some ⟨w13.heap.size + 1, 0, none⟩) 1 1, .slice none 0 0]
    rw [show ((w13.alloc (.cells #[.bool false, .string ⟨#[114]⟩, .slice A4 2 c4] 39)).alloc (.cells #[.slice (some ⟨w13.heap.size, 0, none⟩) 1 1, .slice none 0 0] 25)).heap.size = w13.heap.size + 1 + 1 by simp] at h
    exact h
  generalize (((w13.alloc (.cells #[.bool false, .string ⟨#[114]⟩, .slice A4 2 c4] 39)).alloc (.cells #[.slice (some ⟨w13.heap.size, 0, none⟩) 1 1, .slice none 0 0] 25)).alloc (.cells #[.slice (some ⟨gh, 0, none⟩) 1 1, .int .i64 0, .string ⟨#[]⟩, .slice (some ⟨w13.heap.size + 1, 0, none⟩) 1 1, .slice none 0 0] 44)) = w14 at *
  replace hX := hX.ext hxw14
  replace kr := kr.ext hxw14
  replace hC := hC.ext hxw14
  replace kc := kc.ext hxw14
  replace hqa := hqa.ext hxw14
  replace ka := ka.ext hxw14
  replace kh := kh.ext hxw14
  replace hx := hx.trans hxw14
  have hY : Ats T1 w14 (.slice (some ⟨w13.heap.size, 0, none⟩) 1 1) awY := ats1 k1 (ht4.ext hxw14)
  have hqb : Qc w14 (some ⟨gh, 0, none⟩) 1 (some ⟨w13.heap.size + 1, 0, none⟩) 1 none 0 (awQ awY) := ⟨strs_bk (vs := [cx]) kh, rus1 ks hY, Kys.nil _ _⟩
  obtain ⟨gb, hgb⟩ : ∃ g, g = w13.heap.size := ⟨_, rfl⟩
  rw [← hgb] at kd hqb ⊢
  clear hgb k1 ks hY ht4 hxw14 kh
  have a0 := ka.cell (i := 0) (by simp); have a1 := ka.cell (i := 1) (by simp); have a2 := ka.cell (i := 2) (by simp); have a3 := ka.cell (i := 3) (by simp); have a4 := ka.cell (i := 4) (by simp)
  simp only [List.getElem_cons_zero, List.getElem_cons_succ] at a0 a1 a2 a3 a4
  have b0 := kd.cell (i := 0) (by simp); have b1 := kd.cell (i := 1) (by simp); have b2 := kd.cell (i := 2) (by simp); have b3 := kd.cell (i := 3) (by simp); have b4 := kd.cell (i := 4) (by simp)
  simp only [List.getElem_cons_zero, List.getElem_cons_succ] at b0 b1 b2 b3 b4
  go_wp2_with fail
  clear a0 b0 a1 b1 a2 b2 a3 b3 a4 b4
  refine (contained_ok hqa hqb (aw_qok (.inl rfl)) (aw_qok (.inr rfl)) (HTAB.out.fore hx) aw_e1).mono ?_
  rintro e w15 ⟨he15, hp⟩
  rw [if_pos ⟨aw_e1, aw_b1⟩, aw_n1] at hp
  obtain ⟨v15, rfl, hi15⟩ := hp
  replace hX := hX.ext he15
  replace kr := kr.ext he15
  replace hC := hC.ext he15
  replace kc := kc.ext he15
  replace hqa := hqa.ext he15
  replace ka := ka.ext he15
  replace hqb := hqb.ext he15
  replace kd := kd.ext he15
  replace hx := hx.trans he15
  clear he15
  obtain ⟨Ai, ci, rfl, hci, hcli⟩ := hi15
  have hi15 : Cl T1 w15 Ai ([0].map I64) := hcli
  clear hcli hci
  have a0 := ka.cell (i := 0) (by simp); have a1 := ka.cell (i := 1) (by simp); have a2 := ka.cell (i := 2) (by simp); have a3 := ka.cell (i := 3) (by simp); have a4 := ka.cell (i := 4) (by simp)
  simp only [List.getElem_cons_zero, List.getElem_cons_succ] at a0 a1 a2 a3 a4
  have b0 := kd.cell (i := 0) (by simp); have b1 := kd.cell (i := 1) (by simp); have b2 := kd.cell (i := 2) (by simp); have b3 := kd.cell (i := 3) (by simp); have b4 := kd.cell (i := 4) (by simp)
  simp only [List.getElem_cons_zero, List.getElem_cons_succ] at b0 b1 b2 b3 b4
  go_wp2_with fail
  clear a0 b0 a1 b1 a2 b2 a3 b3 a4 b4
  refine (contained_ok hqb hqa (aw_qok (.inr rfl)) (aw_qok (.inl rfl)) (HTAB.out.fore hx) aw_e2).mono ?_
  rintro e w16 ⟨he16, hp⟩
  rw [if_neg (fun e => by rw [aw_b2] at e; cases e.2), aw_e2] at hp
  subst hp
  replace hX := hX.ext he16
  replace kr := kr.ext he16
  replace hC := hC.ext he16
  replace kc := kc.ext he16
  replace hqa := hqa.ext he16
  replace ka := ka.ext he16
  replace hqb := hqb.ext he16
  replace kd := kd.ext he16
  replace hi15 := hi15.ext he16
  replace hx := hx.trans he16
  clear he16
  have HX := Lib.hid hx
  obtain ⟨adi, rfl, -, q0⟩ := hi15.int (i := 0) (by simp)
  obtain ⟨ad, Bt, dt, rfl, -, -, -, m2, hdt, hct⟩ := hC.at2 0 (by decide)
  obtain ⟨adt, rfl, -, t0, -⟩ := hct.term (i := 1) (by decide)
  replace t0 : w16.cell? (adt.add 4) = some (.string ⟨#[122]⟩) := t0
  replace t0 : w16.cell? ⟨adt.block, adt.off + 4, none⟩ = some (.string ⟨#[122]⟩) := by simpa [Addr.add] using t0
  have hl2 : awC[0].terms.length = 2 := by decide
  rw [hl2] at m2
  clear hl2
  replace m2 : w16.cell? ⟨ad.block, ad.off + 2, none⟩ = some (.slice (some adt) 2 dt) := by simpa [Addr.add] using m2
  replace q0 : w16.cell? adi = some (.int .i64 0) := by simpa [Addr.add] using q0
  have s0 := kc.cell (i := 0) (by simp); have s1 := kc.cell (i := 1) (by simp)
  simp only [List.getElem_cons_zero, List.getElem_cons_succ] at s0 s1
  clear hx hi15 hC hct hdt hqa hqb ka kd kr hX kc
  go_wp2_with fail
  go_ret
  exact Ret.mk HX.out rfl
end Go.Proofs.YtehklbdgkppmeaaDoor
