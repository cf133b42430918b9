/- Contracts: the law's variable and example. Contracts: the reference's Index, first, guard, Vars. -/
import Derived.Test.YtmmmdinncmbjkaaGreatMf15
namespace Go.Proofs.YtmmmdinncmbjkaaGreat
open Go.RowKit Go.Maps
def tv (s : ByteArray) : Tm := ⟨s, 0, 0, ⟨#[]⟩⟩
def exA : List At := [⟨false, ⟨#[114]⟩, [tv ⟨#[121]⟩, tv ⟨#[120]⟩, tv ⟨#[121]⟩, ⟨⟨#[]⟩, 1, 3, ⟨#[]⟩⟩]⟩, ⟨false, ⟨#[115]⟩, [tv ⟨#[120]⟩]⟩, ⟨true, ⟨#[115]⟩, [tv ⟨#[121]⟩]⟩]
def exR : Rl := ⟨exA, [⟨⟨#[120]⟩, 2, 1, 5, ⟨#[]⟩⟩]⟩
def exQ : Qy := ⟨[⟨#[120]⟩, ⟨#[121]⟩], 0, ⟨#[]⟩, [exR], [⟨⟨#[121]⟩, false⟩]⟩
set_option maxRecDepth 20000 in
theorem variable_any (w : World) (s : ByteArray) :
    Calls Tryz.prog 48 #[.string s] w (Ret (fun x _ => x = .agg #[.string s, .int .i64 0, .int .i64 0, .string ⟨#[]⟩]) w) := by
  go_enter Tryz.func48, Tryz.ntmps48
  go_upto_region 1 with fail
  have kb := Bk.new w 136 [.string ⟨#[]⟩, .int .i64 0, .int .i64 0, .string ⟨#[]⟩]
  change Bk (w.alloc (.cells #[.string ⟨#[]⟩, .int .i64 0, .int .i64 0, .string ⟨#[]⟩] 136)) _ _ _ at kb
  have hx : Ext w (w.alloc (.cells #[.string ⟨#[]⟩, .int .i64 0, .int .i64 0, .string ⟨#[]⟩] 136)) := (Ext.refl w).alloc _
  generalize (w.alloc (.cells #[.string ⟨#[]⟩, .int .i64 0, .int .i64 0, .string ⟨#[]⟩] 136)) = w1 at *
  have r0 := kb.cell (i := 0) (by simp); have r1 := kb.cell (i := 1) (by simp); have r2 := kb.cell (i := 2) (by simp); have r3 := kb.cell (i := 3) (by simp)
  have fz0 := kb.free 0; have fz1 := kb.free 1; have fz2 := kb.free 2; have fz3 := kb.free 3
  simp only [List.getElem_cons_zero, List.getElem_cons_succ] at r0 r1 r2 r3
  have HKB := Lib.hid kb; have HX := Lib.hid hx
  clear kb hx
  go_wp2_with fail
  have kz : Bk ((((w1.setCell ⟨w.heap.size, 0, none⟩ (.string s)).setCell ⟨w.heap.size, 1, none⟩ (.int .i64 0)).setCell ⟨w.heap.size, 2, none⟩ (.int .i64 0)).setCell ⟨w.heap.size, 3, none⟩ (.string ⟨#[]⟩)) w.heap.size 136 [.string s, .int .i64 0, .int .i64 0, .string ⟨#[]⟩] := (((HKB.out.set 0 _).set 1 _).set 2 _).set 3 _
  have hez : Ext w ((((w1.setCell ⟨w.heap.size, 0, none⟩ (.string s)).setCell ⟨w.heap.size, 1, none⟩ (.int .i64 0)).setCell ⟨w.heap.size, 2, none⟩ (.int .i64 0)).setCell ⟨w.heap.size, 3, none⟩ (.string ⟨#[]⟩)) := (((HX.out.setCell (p := ⟨w.heap.size, 0, none⟩) (Nat.le_refl _) _).setCell (p := ⟨w.heap.size, 1, none⟩) (Nat.le_refl _) _).setCell (p := ⟨w.heap.size, 2, none⟩) (Nat.le_refl _) _).setCell (p := ⟨w.heap.size, 3, none⟩) (Nat.le_refl _) _
  generalize ((((w1.setCell ⟨w.heap.size, 0, none⟩ (.string s)).setCell ⟨w.heap.size, 1, none⟩ (.int .i64 0)).setCell ⟨w.heap.size, 2, none⟩ (.int .i64 0)).setCell ⟨w.heap.size, 3, none⟩ (.string ⟨#[]⟩)) = wz at *
  have z0 := kz.cell (i := 0) (by simp); have z1 := kz.cell (i := 1) (by simp); have z2 := kz.cell (i := 2) (by simp); have z3 := kz.cell (i := 3) (by simp)
  simp only [List.getElem_cons_zero, List.getElem_cons_succ] at z0 z1 z2 z3
  exact bodyPost_ret (v := .agg #[.string s, .int .i64 0, .int .i64 0, .string ⟨#[]⟩]) (by simp [results, Tryz.results48, go_sem, z0, z1, z2, z3]) rfl (Ret.mk hez rfl)
theorem Cl.of_bk {F : Nat → Prop} {w : World} {g : Nat} {t : TypeId} {xs : List Value} (h : Bk w g t xs) (hF : F g) : Cl F w (some ⟨g, 0, none⟩) xs := by
  refine .inr ⟨⟨g, 0, none⟩, rfl, hF, fun j hj => ?_⟩
  have h1 := h.cell hj
  have e : (⟨g, 0, none⟩ : Addr).add j = ⟨g, j, none⟩ := by simp [Addr.add]; exact fun h => h.symm
  rw [e, h1]
theorem Sl.of_cl {α : Type} {cells : α → List Value} {sz : Nat} {hl : ∀ x, (cells x).length = sz} {F : Nat → Prop} {w : World} {ad : Addr} {c : Nat} {l : List α} (h : Cl F w (some ad) (l.flatMap cells)) (hF : F ad.block) (hc : l.length ≤ c) : Sl (flatR cells sz hl) F w (.slice (some ad) l.length c) l := by
  refine ⟨some ad, c, rfl, hc, fun i hi => ⟨ad, cells l[i], rfl, hF, rfl, fun j hj => ?_⟩⟩
  rw [hl] at hj
  have h1 := flat_get (css := l.map cells) (sz := sz) (i := i) (j := j) (fun cs hcs => by obtain ⟨x, _, rfl⟩ := List.mem_map.1 hcs; exact hl x) (by simpa using hi) hj
  rw [← List.flatMap_def, List.getElem_map] at h1
  obtain ⟨ad', e, -, h2⟩ := h.at' (h1.trans (List.getElem?_eq_getElem (by rw [hl]; exact hj)))
  injection e with e
  subst e
  exact h2
theorem ex_mem {F : Nat → Prop} {wz : World} {a2 a3 a7 a9 a11 a12 a13 a14 : Nat} (m2 : Bk wz a2 9 [.string ⟨#[120]⟩, .string ⟨#[121]⟩]) (m3 : Bk wz a3 130 [.string ⟨#[121]⟩, .bool false]) (m7 : Bk wz a7 136 [.string ⟨#[121]⟩, .int .i64 0, .int .i64 0, .string ⟨#[]⟩, .string ⟨#[120]⟩, .int .i64 0, .int .i64 0, .string ⟨#[]⟩, .string ⟨#[121]⟩, .int .i64 0, .int .i64 0, .string ⟨#[]⟩, .string ⟨#[]⟩, .int .i64 1, .int .i64 3, .string ⟨#[]⟩]) (m9 : Bk wz a9 136 [.string ⟨#[120]⟩, .int .i64 0, .int .i64 0, .string ⟨#[]⟩]) (m11 : Bk wz a11 136 [.string ⟨#[121]⟩, .int .i64 0, .int .i64 0, .string ⟨#[]⟩]) (m12 : Bk wz a12 109 [.bool false, .string ⟨#[114]⟩, .slice (some ⟨a7, 0, none⟩) 4 4, .bool false, .string ⟨#[115]⟩, .slice (some ⟨a9, 0, none⟩) 1 1, .bool true, .string ⟨#[115]⟩, .slice (some ⟨a11, 0, none⟩) 1 1]) (m13 : Bk wz a13 87 [.string ⟨#[120]⟩, .int .i64 2, .int .i64 1, .int .i64 5, .string ⟨#[]⟩]) (m14 : Bk wz a14 73 [.slice (some ⟨a12, 0, none⟩) 3 3, .slice (some ⟨a13, 0, none⟩) 1 1]) (f2 : F a2) (f3 : F a3) (f7 : F a7) (f9 : F a9) (f11 : F a11) (f12 : F a12) (f13 : F a13) (f14 : F a14) : QyR F wz (some ⟨a2, 0, none⟩) 2 (some ⟨a14, 0, none⟩) 1 (some ⟨a3, 0, none⟩) 1 exQ := by
  have b2 : Ts F wz (.slice (some ⟨a7, 0, none⟩) 4 4) [tv ⟨#[121]⟩, tv ⟨#[120]⟩, tv ⟨#[121]⟩, ⟨⟨#[]⟩, 1, 3, ⟨#[]⟩⟩] := ⟨_, _, rfl, Nat.le_refl _, Cl.of_bk m7 f7⟩
  have b3 : Ts F wz (.slice (some ⟨a9, 0, none⟩) 1 1) [tv ⟨#[120]⟩] := ⟨_, _, rfl, Nat.le_refl _, Cl.of_bk m9 f9⟩
  have b4 : Ts F wz (.slice (some ⟨a11, 0, none⟩) 1 1) [tv ⟨#[121]⟩] := ⟨_, _, rfl, Nat.le_refl _, Cl.of_bk m11 f11⟩
  have b5 : Ats F wz (.slice (some ⟨a12, 0, none⟩) 3 3) exA := by
    refine ⟨_, _, [.slice (some ⟨a7, 0, none⟩) 4 4, .slice (some ⟨a9, 0, none⟩) 1 1, .slice (some ⟨a11, 0, none⟩) 1 1], rfl, Nat.le_refl _, rfl, Cl.of_bk m12 f12, fun i h h' => ?_⟩
    have hi : i < 3 := h
    rcases i with _ | _ | _ | i
    · exact b2
    · exact b3
    · exact b4
    · omega
  have b6 : Sl rdCd F wz (.slice (some ⟨a13, 0, none⟩) 1 1) exR.cds := Sl.of_cl (cells := Cd.cells) (sz := 5) (hl := fun _ => rfl) (l := exR.cds) (Cl.of_bk m13 f13) f13 (Nat.le_refl _)
  have b7 : Sl rdRl F wz (.slice (some ⟨a14, 0, none⟩) 1 1) [exR] := by
    refine ⟨_, _, rfl, Nat.le_refl _, fun i hi => ?_⟩
    have hi0 : i = 0 := by simp at hi; omega
    subst hi0
    refine ⟨⟨a14, 0, none⟩, [.slice (some ⟨a12, 0, none⟩) 3 3, .slice (some ⟨a13, 0, none⟩) 1 1], rfl, f14, ⟨_, _, rfl, b5, b6⟩, fun j hj => ?_⟩
    have h1 := m14.cell hj
    have e : (⟨a14, 0, none⟩ : Addr).add (0 * rdRl.sz + j) = ⟨a14, j, none⟩ := by simp [Addr.add]; exact fun h => h.symm
    rw [e]
    exact h1
  exact ⟨⟨_, _, rfl, Nat.le_refl _, Cl.of_bk m2 f2⟩, b7, Sl.of_cl (cells := Ky.cells) (sz := 2) (hl := fun _ => rfl) (l := exQ.od) (Cl.of_bk m3 f3) f3 (Nat.le_refl _)⟩
set_option maxRecDepth 20000 in
set_option maxHeartbeats 1600000 in
theorem example_any (w : World) :
    Calls Tryz.prog 26 #[] w (Ret (fun x w' => ∃ A ca B cb O co, x = .agg #[.slice A 2 ca, .int .i64 0, .string ⟨#[]⟩, .slice B 1 cb, .slice O 1 co] ∧ QyR (fun k => w.heap.size ≤ k) w' A ca B cb O co exQ) w) := by
  go_enter Tryz.func26, Tryz.ntmps26
  go_wp2_with fail
  have hs1 : (w.alloc (.cells #[.slice none 0 0, .int .i64 0, .string ⟨#[]⟩, .slice none 0 0, .slice none 0 0] 61)).heap.size = w.heap.size + 1 := by simp
  have k1 := Bk.new w 61 [.slice none 0 0, .int .i64 0, .string ⟨#[]⟩, .slice none 0 0, .slice none 0 0]
  change Bk (w.alloc (.cells #[.slice none 0 0, .int .i64 0, .string ⟨#[]⟩, .slice none 0 0, .slice none 0 0] 61)) _ _ _ at k1
  have hx1 : Ext w (w.alloc (.cells #[.slice none 0 0, .int .i64 0, .string ⟨#[]⟩, .slice none 0 0, .slice none 0 0] 61)) := (Ext.refl w).alloc _
  generalize (w.alloc (.cells #[.slice none 0 0, .int .i64 0, .string ⟨#[]⟩, .slice none 0 0, .slice none 0 0] 61)) = w1 at *
  have hs2 : (w1.alloc (.cells #[.string ⟨#[120]⟩, .string ⟨#[121]⟩] 9)).heap.size = w1.heap.size + 1 := by simp
  have k2 := Bk.new w1 9 [.string ⟨#[120]⟩, .string ⟨#[121]⟩]
  change Bk (w1.alloc (.cells #[.string ⟨#[120]⟩, .string ⟨#[121]⟩] 9)) _ _ _ at k2
  have hx2 : Ext w1 (w1.alloc (.cells #[.string ⟨#[120]⟩, .string ⟨#[121]⟩] 9)) := (Ext.refl w1).alloc _
  generalize (w1.alloc (.cells #[.string ⟨#[120]⟩, .string ⟨#[121]⟩] 9)) = w2 at *
  rw [hs1] at k2 hs2
  have hs3 : (w2.alloc (.cells #[.string ⟨#[121]⟩, .bool false] 130)).heap.size = w2.heap.size + 1 := by simp
  have k3 := Bk.new w2 130 [.string ⟨#[121]⟩, .bool false]
  change Bk (w2.alloc (.cells #[.string ⟨#[121]⟩, .bool false] 130)) _ _ _ at k3
  have hx3 : Ext w2 (w2.alloc (.cells #[.string ⟨#[121]⟩, .bool false] 130)) := (Ext.refl w2).alloc _
  generalize (w2.alloc (.cells #[.string ⟨#[121]⟩, .bool false] 130)) = w3 at *
  rw [hs2] at k3 hs3
  have HX := Lib.hid ((hx1.trans hx2).trans hx3); have HK1 := Lib.hid ((k1.ext hx2).ext hx3); have HK2 := Lib.hid (k2.ext hx3); have HK3 := Lib.hid k3
  clear hx1 hx2 hx3 k1 k2 k3 hs1 hs2
  refine (variable_any _ _).mono ?_
  rintro e w4 ⟨x, rfl, h4, rfl⟩
  go_wp2_with fail
  refine (variable_any _ _).mono ?_
  rintro e w5 ⟨x, rfl, h5, rfl⟩
  go_wp2_with fail
  refine (variable_any _ _).mono ?_
  rintro e w6 ⟨x, rfl, h6, rfl⟩
  have hx6 : Ext w3 w6 := (h4.trans h5).trans h6
  have hs6 : w3.heap.size ≤ w6.heap.size := hx6.size
  replace HX := Lib.hid (HX.out.trans hx6); replace HK1 := Lib.hid (HK1.out.ext hx6); replace HK2 := Lib.hid (HK2.out.ext hx6); replace HK3 := Lib.hid (HK3.out.ext hx6)
  clear hx6 h4 h5 h6
  go_wp2_with fail
  have hs7 : (w6.alloc (.cells #[.string ⟨#[121]⟩, .int .i64 0, .int .i64 0, .string ⟨#[]⟩, .string ⟨#[120]⟩, .int .i64 0, .int .i64 0, .string ⟨#[]⟩, .string ⟨#[121]⟩, .int .i64 0, .int .i64 0, .string ⟨#[]⟩, .string ⟨#[]⟩, .int .i64 1, .int .i64 3, .string ⟨#[]⟩] 136)).heap.size = w6.heap.size + 1 := by simp
  have k7 := Bk.new w6 136 [.string ⟨#[121]⟩, .int .i64 0, .int .i64 0, .string ⟨#[]⟩, .string ⟨#[120]⟩, .int .i64 0, .int .i64 0, .string ⟨#[]⟩, .string ⟨#[121]⟩, .int .i64 0, .int .i64 0, .string ⟨#[]⟩, .string ⟨#[]⟩, .int .i64 1, .int .i64 3, .string ⟨#[]⟩]
  change Bk (w6.alloc (.cells #[.string ⟨#[121]⟩, .int .i64 0, .int .i64 0, .string ⟨#[]⟩, .string ⟨#[120]⟩, .int .i64 0, .int .i64 0, .string ⟨#[]⟩, .string ⟨#[121]⟩, .int .i64 0, .int .i64 0, .string ⟨#[]⟩, .string ⟨#[]⟩, .int .i64 1, .int .i64 3, .string ⟨#[]⟩] 136)) _ _ _ at k7
  have hx7 : Ext w6 (w6.alloc (.cells #[.string ⟨#[121]⟩, .int .i64 0, .int .i64 0, .string ⟨#[]⟩, .string ⟨#[120]⟩, .int .i64 0, .int .i64 0, .string ⟨#[]⟩, .string ⟨#[121]⟩, .int .i64 0, .int .i64 0, .string ⟨#[]⟩, .string ⟨#[]⟩, .int .i64 1, .int .i64 3, .string ⟨#[]⟩] 136)) := (Ext.refl w6).alloc _
  generalize (w6.alloc (.cells #[.string ⟨#[121]⟩, .int .i64 0, .int .i64 0, .string ⟨#[]⟩, .string ⟨#[120]⟩, .int .i64 0, .int .i64 0, .string ⟨#[]⟩, .string ⟨#[121]⟩, .int .i64 0, .int .i64 0, .string ⟨#[]⟩, .string ⟨#[]⟩, .int .i64 1, .int .i64 3, .string ⟨#[]⟩] 136)) = w7 at *
  replace HX := Lib.hid (HX.out.trans hx7); replace HK1 := Lib.hid (HK1.out.ext hx7); replace HK2 := Lib.hid (HK2.out.ext hx7); replace HK3 := Lib.hid (HK3.out.ext hx7)
  have HK7 := Lib.hid k7
  clear hx7 k7
  refine (variable_any _ _).mono ?_
  rintro e w8 ⟨x, rfl, h8, rfl⟩
  have hs8 : w7.heap.size ≤ w8.heap.size := h8.size
  replace HX := Lib.hid (HX.out.trans h8); replace HK1 := Lib.hid (HK1.out.ext h8); replace HK2 := Lib.hid (HK2.out.ext h8); replace HK3 := Lib.hid (HK3.out.ext h8); replace HK7 := Lib.hid (HK7.out.ext h8)
  clear h8
  go_wp2_with fail
  have hs9 : (w8.alloc (.cells #[.string ⟨#[120]⟩, .int .i64 0, .int .i64 0, .string ⟨#[]⟩] 136)).heap.size = w8.heap.size + 1 := by simp
  have k9 := Bk.new w8 136 [.string ⟨#[120]⟩, .int .i64 0, .int .i64 0, .string ⟨#[]⟩]
  change Bk (w8.alloc (.cells #[.string ⟨#[120]⟩, .int .i64 0, .int .i64 0, .string ⟨#[]⟩] 136)) _ _ _ at k9
  have hx9 : Ext w8 (w8.alloc (.cells #[.string ⟨#[120]⟩, .int .i64 0, .int .i64 0, .string ⟨#[]⟩] 136)) := (Ext.refl w8).alloc _
  generalize (w8.alloc (.cells #[.string ⟨#[120]⟩, .int .i64 0, .int .i64 0, .string ⟨#[]⟩] 136)) = w9 at *
  replace HX := Lib.hid (HX.out.trans hx9); replace HK1 := Lib.hid (HK1.out.ext hx9); replace HK2 := Lib.hid (HK2.out.ext hx9); replace HK3 := Lib.hid (HK3.out.ext hx9); replace HK7 := Lib.hid (HK7.out.ext hx9)
  have HK9 := Lib.hid k9
  clear hx9 k9
  refine (variable_any _ _).mono ?_
  rintro e w10 ⟨x, rfl, h10, rfl⟩
  have hs10 : w9.heap.size ≤ w10.heap.size := h10.size
  replace HX := Lib.hid (HX.out.trans h10); replace HK1 := Lib.hid (HK1.out.ext h10); replace HK2 := Lib.hid (HK2.out.ext h10); replace HK3 := Lib.hid (HK3.out.ext h10); replace HK7 := Lib.hid (HK7.out.ext h10); replace HK9 := Lib.hid (HK9.out.ext h10)
  clear h10
  have r0 := HK1.out.cell (i := 0) (by simp); have r1 := HK1.out.cell (i := 1) (by simp); have r2 := HK1.out.cell (i := 2) (by simp); have r3 := HK1.out.cell (i := 3) (by simp); have r4 := HK1.out.cell (i := 4) (by simp)
  have fz0 := HK1.out.free 0; have fz1 := HK1.out.free 1; have fz2 := HK1.out.free 2; have fz3 := HK1.out.free 3; have fz4 := HK1.out.free 4
  simp only [List.getElem_cons_zero, List.getElem_cons_succ] at r0 r1 r2 r3 r4
  have hlt : w.heap.size < w10.heap.size := HK1.out.lt
  have hlt1 : w.heap.size < w10.heap.size + 1 := by omega
  have hlt2 : w.heap.size < w10.heap.size + 1 + 1 := by omega
  have hlt3 : w.heap.size < w10.heap.size + 1 + 1 + 1 := by omega
  have hlt4 : w.heap.size < w10.heap.size + 1 + 1 + 1 + 1 := by omega
  go_wp2_with fail
  have kz : Bk (((((w10.setCell ⟨w.heap.size, 0, none⟩ (.slice (some ⟨w.heap.size + 1, 0, none⟩) 2 2)).setCell ⟨w.heap.size, 1, none⟩ (.int .i64 0)).setCell ⟨w.heap.size, 2, none⟩ (.string ⟨#[]⟩)).setCell ⟨w.heap.size, 3, none⟩ (.slice (some ⟨w10.heap.size + 1 + 1 + 1, 0, none⟩) 1 1)).setCell ⟨w.heap.size, 4, none⟩ (.slice (some ⟨w.heap.size + 1 + 1, 0, none⟩) 1 1)) w.heap.size 61 [.slice (some ⟨w.heap.size + 1, 0, none⟩) 2 2, .int .i64 0, .string ⟨#[]⟩, .slice (some ⟨w10.heap.size + 1 + 1 + 1, 0, none⟩) 1 1, .slice (some ⟨w.heap.size + 1 + 1, 0, none⟩) 1 1] := (((((HK1.out.set 0 _).set 1 _).set 2 _).set 3 _).set 4 _)
  have hez : Ext w (((((w10.setCell ⟨w.heap.size, 0, none⟩ (.slice (some ⟨w.heap.size + 1, 0, none⟩) 2 2)).setCell ⟨w.heap.size, 1, none⟩ (.int .i64 0)).setCell ⟨w.heap.size, 2, none⟩ (.string ⟨#[]⟩)).setCell ⟨w.heap.size, 3, none⟩ (.slice (some ⟨w10.heap.size + 1 + 1 + 1, 0, none⟩) 1 1)).setCell ⟨w.heap.size, 4, none⟩ (.slice (some ⟨w.heap.size + 1 + 1, 0, none⟩) 1 1)) := (((((HX.out.setCell (p := ⟨w.heap.size, 0, none⟩) (Nat.le_refl _) _).setCell (p := ⟨w.heap.size, 1, none⟩) (Nat.le_refl _) _).setCell (p := ⟨w.heap.size, 2, none⟩) (Nat.le_refl _) _).setCell (p := ⟨w.heap.size, 3, none⟩) (Nat.le_refl _) _).setCell (p := ⟨w.heap.size, 4, none⟩) (Nat.le_refl _) _)
  have hfz : Fr (fun q => q = w.heap.size) w10 (((((w10.setCell ⟨w.heap.size, 0, none⟩ (.slice (some ⟨w.heap.size + 1, 0, none⟩) 2 2)).setCell ⟨w.heap.size, 1, none⟩ (.int .i64 0)).setCell ⟨w.heap.size, 2, none⟩ (.string ⟨#[]⟩)).setCell ⟨w.heap.size, 3, none⟩ (.slice (some ⟨w10.heap.size + 1 + 1 + 1, 0, none⟩) 1 1)).setCell ⟨w.heap.size, 4, none⟩ (.slice (some ⟨w.heap.size + 1 + 1, 0, none⟩) 1 1)) := ((((((Fr.refl (fun q => q = w.heap.size) w10).setCell (p := ⟨w.heap.size, 0, none⟩) (.inl rfl) _).setCell (p := ⟨w.heap.size, 1, none⟩) (.inl rfl) _).setCell (p := ⟨w.heap.size, 2, none⟩) (.inl rfl) _).setCell (p := ⟨w.heap.size, 3, none⟩) (.inl rfl) _).setCell (p := ⟨w.heap.size, 4, none⟩) (.inl rfl) _)
  have hsz : (((((w10.setCell ⟨w.heap.size, 0, none⟩ (.slice (some ⟨w.heap.size + 1, 0, none⟩) 2 2)).setCell ⟨w.heap.size, 1, none⟩ (.int .i64 0)).setCell ⟨w.heap.size, 2, none⟩ (.string ⟨#[]⟩)).setCell ⟨w.heap.size, 3, none⟩ (.slice (some ⟨w10.heap.size + 1 + 1 + 1, 0, none⟩) 1 1)).setCell ⟨w.heap.size, 4, none⟩ (.slice (some ⟨w.heap.size + 1 + 1, 0, none⟩) 1 1)).heap.size = w10.heap.size := by simp
  have hs10' : w.heap.size + 1 + 1 + 1 ≤ w10.heap.size := by omega
  obtain ⟨a10, ha10⟩ : ∃ a, a = w10.heap.size := ⟨_, rfl⟩
  rw [← ha10] at kz hez hfz hsz hs10' hs10 ⊢
  generalize (((((w10.setCell ⟨w.heap.size, 0, none⟩ (.slice (some ⟨w.heap.size + 1, 0, none⟩) 2 2)).setCell ⟨w.heap.size, 1, none⟩ (.int .i64 0)).setCell ⟨w.heap.size, 2, none⟩ (.string ⟨#[]⟩)).setCell ⟨w.heap.size, 3, none⟩ (.slice (some ⟨a10 + 1 + 1 + 1, 0, none⟩) 1 1)).setCell ⟨w.heap.size, 4, none⟩ (.slice (some ⟨w.heap.size + 1 + 1, 0, none⟩) 1 1)) = w20 at *
  have hs11 : (w20.alloc (.cells #[.string ⟨#[121]⟩, .int .i64 0, .int .i64 0, .string ⟨#[]⟩] 136)).heap.size = w20.heap.size + 1 := by simp
  have k11 := Bk.new w20 136 [.string ⟨#[121]⟩, .int .i64 0, .int .i64 0, .string ⟨#[]⟩]
  change Bk (w20.alloc (.cells #[.string ⟨#[121]⟩, .int .i64 0, .int .i64 0, .string ⟨#[]⟩] 136)) _ _ _ at k11
  have hx11 : Ext w20 (w20.alloc (.cells #[.string ⟨#[121]⟩, .int .i64 0, .int .i64 0, .string ⟨#[]⟩] 136)) := (Ext.refl w20).alloc _
  generalize (w20.alloc (.cells #[.string ⟨#[121]⟩, .int .i64 0, .int .i64 0, .string ⟨#[]⟩] 136)) = w11 at *
  rw [hsz] at k11 hs11
  have hs12 : (w11.alloc (.cells #[.bool false, .string ⟨#[114]⟩, .slice (some ⟨w6.heap.size, 0, none⟩) 4 4, .bool false, .string ⟨#[115]⟩, .slice (some ⟨w8.heap.size, 0, none⟩) 1 1, .bool true, .string ⟨#[115]⟩, .slice (some ⟨a10, 0, none⟩) 1 1] 109)).heap.size = w11.heap.size + 1 := by simp
  have k12 := Bk.new w11 109 [.bool false, .string ⟨#[114]⟩, .slice (some ⟨w6.heap.size, 0, none⟩) 4 4, .bool false, .string ⟨#[115]⟩, .slice (some ⟨w8.heap.size, 0, none⟩) 1 1, .bool true, .string ⟨#[115]⟩, .slice (some ⟨a10, 0, none⟩) 1 1]
  change Bk (w11.alloc (.cells #[.bool false, .string ⟨#[114]⟩, .slice (some ⟨w6.heap.size, 0, none⟩) 4 4, .bool false, .string ⟨#[115]⟩, .slice (some ⟨w8.heap.size, 0, none⟩) 1 1, .bool true, .string ⟨#[115]⟩, .slice (some ⟨a10, 0, none⟩) 1 1] 109)) _ _ _ at k12
  have hx12 : Ext w11 (w11.alloc (.cells #[.bool false, .string ⟨#[114]⟩, .slice (some ⟨w6.heap.size, 0, none⟩) 4 4, .bool false, .string ⟨#[115]⟩, .slice (some ⟨w8.heap.size, 0, none⟩) 1 1, .bool true, .string ⟨#[115]⟩, .slice (some ⟨a10, 0, none⟩) 1 1] 109)) := (Ext.refl w11).alloc _
  generalize (w11.alloc (.cells #[.bool false, .string ⟨#[114]⟩, .slice (some ⟨w6.heap.size, 0, none⟩) 4 4, .bool false, .string ⟨#[115]⟩, .slice (some ⟨w8.heap.size, 0, none⟩) 1 1, .bool true, .string ⟨#[115]⟩, .slice (some ⟨a10, 0, none⟩) 1 1] 109)) = w12 at *
  rw [hs11] at k12 hs12
  have hs13 : (w12.alloc (.cells #[.string ⟨#[120]⟩, .int .i64 2, .int .i64 1, .int .i64 5, .string ⟨#[]⟩] 87)).heap.size = w12.heap.size + 1 := by simp
  have k13 := Bk.new w12 87 [.string ⟨#[120]⟩, .int .i64 2, .int .i64 1, .int .i64 5, .string ⟨#[]⟩]
  change Bk (w12.alloc (.cells #[.string ⟨#[120]⟩, .int .i64 2, .int .i64 1, .int .i64 5, .string ⟨#[]⟩] 87)) _ _ _ at k13
  have hx13 : Ext w12 (w12.alloc (.cells #[.string ⟨#[120]⟩, .int .i64 2, .int .i64 1, .int .i64 5, .string ⟨#[]⟩] 87)) := (Ext.refl w12).alloc _
  generalize (w12.alloc (.cells #[.string ⟨#[120]⟩, .int .i64 2, .int .i64 1, .int .i64 5, .string ⟨#[]⟩] 87)) = w13 at *
  rw [hs12] at k13 hs13
  have hs14 : (w13.alloc (.cells #[.slice (some ⟨(a10 + 1), 0, none⟩) 3 3, .slice (some ⟨(a10 + 1 + 1), 0, none⟩) 1 1] 73)).heap.size = w13.heap.size + 1 := by simp
  have k14 := Bk.new w13 73 [.slice (some ⟨(a10 + 1), 0, none⟩) 3 3, .slice (some ⟨(a10 + 1 + 1), 0, none⟩) 1 1]
  change Bk (w13.alloc (.cells #[.slice (some ⟨(a10 + 1), 0, none⟩) 3 3, .slice (some ⟨(a10 + 1 + 1), 0, none⟩) 1 1] 73)) _ _ _ at k14
  have hx14 : Ext w13 (w13.alloc (.cells #[.slice (some ⟨(a10 + 1), 0, none⟩) 3 3, .slice (some ⟨(a10 + 1 + 1), 0, none⟩) 1 1] 73)) := (Ext.refl w13).alloc _
  generalize (w13.alloc (.cells #[.slice (some ⟨(a10 + 1), 0, none⟩) 3 3, .slice (some ⟨(a10 + 1 + 1), 0, none⟩) 1 1] 73)) = w14 at *
  rw [hs13] at k14 hs14
  have hx2014 : Ext w20 w14 := ((hx11.trans hx12).trans hx13).trans hx14
  have hezz : Ext w w14 := hez.trans hx2014
  have kzz := kz.ext hx2014
  have m2 := (HK2.out.fr hfz (by omega)).ext hx2014
  have m3 := (HK3.out.fr hfz (by omega)).ext hx2014
  have m7 := (HK7.out.fr hfz (by omega)).ext hx2014
  have m9 := (HK9.out.fr hfz (by omega)).ext hx2014
  have m11 := ((k11.ext hx12).ext hx13).ext hx14
  have m12 := (k12.ext hx13).ext hx14
  have m13 := k13.ext hx14
  have m14 := k14
  have z0 := kzz.cell (i := 0) (by simp); have z1 := kzz.cell (i := 1) (by simp); have z2 := kzz.cell (i := 2) (by simp); have z3 := kzz.cell (i := 3) (by simp); have z4 := kzz.cell (i := 4) (by simp)
  simp only [List.getElem_cons_zero, List.getElem_cons_succ] at z0 z1 z2 z3 z4
  have hq : QyR (fun k => w.heap.size ≤ k) w14 _ _ _ _ _ _ exQ := ex_mem m2 m3 m7 m9 m11 m12 m13 m14 (by show w.heap.size ≤ _; omega) (by show w.heap.size ≤ _; omega) (by show w.heap.size ≤ _; omega) (by show w.heap.size ≤ _; omega) (by show w.heap.size ≤ _; omega) (by show w.heap.size ≤ _; omega) (by show w.heap.size ≤ _; omega) (by show w.heap.size ≤ _; omega)
  refine bodyPost_ret (v := .agg #[.slice (some ⟨w.heap.size + 1, 0, none⟩) 2 2, .int .i64 0, .string ⟨#[]⟩, .slice (some ⟨a10 + 1 + 1 + 1, 0, none⟩) 1 1, .slice (some ⟨w.heap.size + 1 + 1, 0, none⟩) 1 1]) ?_ rfl ?_
  · simp [results, Tryz.results26, go_sem, z0, z1, z2, z3, z4]
  · exact Ret.mk hezz ⟨_, _, _, _, _, _, rfl, hq⟩
end Go.Proofs.YtmmmdinncmbjkaaGreat
namespace Go.Proofs.YtmmmdinncmbjkaaGreat
open Go.RowKit Go.Maps
/-- The place of a name, or -1. -/
def idxL (l : List ByteArray) (s : ByteArray) : Int := if s ∈ l then (posN l s : Int) else -1
theorem pos_char : ∀ {l : List ByteArray} {s : ByteArray} {i : Nat} (hi : i < l.length), (∀ j (_ : j < i) (_ : j < l.length), l[j] ≠ s) → l[i] = s → posN l s = i
  | a :: l, s, 0, hi, _, h => if_pos h
  | a :: l, s, i + 1, hi, h0, h => by
    have h1 : a ≠ s := h0 0 (by omega) (by simp)
    have h2 := pos_char (l := l) (s := s) (i := i) (by simpa using hi) (fun j hj hl => h0 (j + 1) (by omega) (by simpa using hl)) (by simpa using h)
    exact (if_neg h1).trans (by rw [h2])
theorem idxL_at {l : List ByteArray} {s : ByteArray} {i : Nat} (hi : i < l.length) (h0 : ∀ j (_ : j < i) (_ : j < l.length), l[j] ≠ s) (h1 : l[i] = s) : idxL l s = (i : Int) := by
  unfold idxL
  rw [if_pos (h1 ▸ List.getElem_mem hi), pos_char hi h0 h1]
theorem idxL_no {l : List ByteArray} {s : ByteArray} (h0 : ∀ j (_ : j < l.length), l[j] ≠ s) : idxL l s = -1 := by
  refine if_neg (fun h => ?_)
  obtain ⟨j, hj, e⟩ := List.getElem_of_mem h
  exact h0 j hj e
theorem str_eq {a b : ByteArray} (h : a = b) : (a.toList == b.toList) = true := by rw [h]; simp
theorem str_ne {a b : ByteArray} (h : a ≠ b) : (a.toList == b.toList) = false := by
  have : a.toList ≠ b.toList := fun e => h (toList_inj' e)
  simpa using this
set_option maxRecDepth 20000 in
set_option maxHeartbeats 1600000 in
theorem index_ref {F : Nat → Prop} {w : World} {A : Option Addr} {n c : Nat} {l : List ByteArray} {s : ByteArray} (h : Strs F w (.slice A n c) l) (hn : n ≤ 1048576) :
    Calls Tryz.prog 21 #[.slice A n c, .string s] w (Ret (fun x _ => x = .int .i64 (idxL l s)) w) := by
  obtain ⟨A', c', e, -, hcl⟩ := h
  injection e with e1 e2 e3
  subst e1 e3
  have HCL := Lib.hid hcl; have HN := Lib.hid e2
  clear hcl e2
  go_enter Tryz.func21, Tryz.ntmps21
  go_wp2_with fail
  go_loopw [5] (fun t wr => ∃ i : Nat, i ≤ n ∧ t = .int .i64 (i : Int) ∧ Hid (∀ j (_ : j < i) (_ : j < l.length), l[j] ≠ s) ∧ Ext w wr) (fun t _ => n - (intOf t).toNat)
  case atStart => exact ⟨0, Nat.zero_le _, rfl, Lib.hid (fun j hj => by omega), Ext.refl _⟩
  case round =>
    obtain ⟨i, hi, rfl, HJ, hx⟩ := hrel
    have HX := Lib.hid hx
    by_cases hlt : i < n
    · have i1 : (0 : Int) ≤ (i : Int) := by omega
      have i2 : (i : Int) < (n : Int) := by omega
      have hil : i < l.length := by have := HN.out; omega
      obtain ⟨ad, rfl, -, c0⟩ := HCL.out.str hil
      replace c0 := hx.cell c0
      have h1 : l[i] = s → Hid (idxL l s = (i : Int)) := fun h => Lib.hid (idxL_at hil HJ.out h)
      have h2 : l[i] ≠ s → Hid (∀ j (_ : j < i + 1) (_ : j < l.length), l[j] ≠ s) := fun h => Lib.hid (fun j hj hl => by
        rcases Nat.lt_or_ge j i with h3 | h3
        · exact HJ.out j h3 hl
        · have : j = i := by omega
          subst this; exact h)
      obtain ⟨x, hxx⟩ : ∃ x, x = l[i] := ⟨_, rfl⟩
      rw [← hxx] at c0 h1 h2
      have H1 := Lib.hid h1; have H2 := Lib.hid h2
      clear hxx h1 h2 hx
      by_cases he : x = s
      · have HQ := H1.out he
        have hb := str_eq he
        clear he
        go_wp2_with fail
        go_ret
        exact Ret.mk HX.out (ret_i HQ.out)
      · have HJ2 := H2.out he
        have hb := str_ne he
        clear he
        go_wp2_with fail
        go_roundw
        case rel => exact ⟨i + 1, by omega, by go_num, HJ2, HX.out⟩
        case measure => simp [intOf]; omega
    · obtain rfl : i = n := by omega
      have hdi : ¬ (i : Int) < (i : Int) := by omega
      have HQ : Hid (idxL l s = -1) := Lib.hid (idxL_no (fun j hj => HJ.out j (by have := HN.out; omega) hj))
      clear hx
      go_wp2_with fail
      go_ret
      exact Ret.mk HX.out (ret_i HQ.out)
theorem idxT_any {ts : List Tm} {s : ByteArray} : idxT ts s < ts.length ↔ ts.any (fun u => decide (u.var = s)) = true := by
  unfold idxT
  rw [List.findIdx_lt_length, List.any_eq_true]
end Go.Proofs.YtmmmdinncmbjkaaGreat
