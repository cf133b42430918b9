/- Equality of pairs and of values, run. The law's awake. -/
import Derived.Test.YtmmmdinncmbjkaaGreatMf15
import Derived.DeepKeys
import Derived.Test.YtmmmdinncmbjkaaGreatMf17
namespace Go.Proofs.YtmmmdinncmbjkaaGreat
open Go.RowKit Go.Maps
theorem eqn_int (d : Nat) (w : World) (a b : Int) : (Op.equalIn (d + 1) 3 (.int .i64 a) (.int .i64 b)).run Tryz.prog w = .ok (a == b) w := by
  simp [Op.equalIn, run_underlying Tryz.underlying3]
theorem eqn_str (d : Nat) (w : World) (a b : ByteArray) : (Op.equalIn (d + 1) 9 (.string a) (.string b)).run Tryz.prog w = .ok (a == b) w := by
  simp [Op.equalIn, run_underlying Tryz.underlying9]
theorem eqn_pi (d' : Nat) (w : World) (a b c d : Int) : (Op.equalIn (d' + 2) 51 (.agg #[.int .i64 a, .int .i64 b]) (.agg #[.int .i64 c, .int .i64 d])).run Tryz.prog w = .ok ((a == c) && (b == d)) w := by
  obtain ⟨i0, hi0, hz0, hz1, hz2⟩ := info_parts info_int
  have hc : Tryz.prog.cellsOf 3 = 1 := by simp [Program.cellsOf, hi0, hz1]
  rw [run_equalIn_array w (d' + 1) (n := 2) (e := 3) _ _ Tryz.underlying51 hi0, hc]
  have e1 : ∀ (x y : Int), (Op.equalIn (d' + 1) 3 (.int .i64 x) (.int .i64 y)).run Tryz.prog w = .ok (x == y) w := fun x y => eqn_int d' w x y
  rcases h : (a == c) with _ | _
  · simp [List.range, List.range.loop, Op.eqItems, part, isAgg, run_underlying Tryz.underlying3, e1, h]
  · rcases h2 : (b == d) with _ | _ <;> simp [List.range, List.range.loop, Op.eqItems, part, isAgg, run_underlying Tryz.underlying3, e1, h, h2]
theorem eq_pi (w : World) (a b c d : Int) : (Op.equalIn 10000 51 (.agg #[.int .i64 a, .int .i64 b]) (.agg #[.int .i64 c, .int .i64 d])).run Tryz.prog w = .ok ((a == c) && (b == d)) w := eqn_pi 9998 w a b c d
end Go.Proofs.YtmmmdinncmbjkaaGreat
namespace Go.Proofs.YtmmmdinncmbjkaaGreat
open Go.RowKit Go.Maps
theorem Sl.src {F : Nat → Prop} {w : World} {A : Option Addr} {n c : Nat} {xs : List Src} (h : Sl rdSrc F w (.slice A n c) xs) {i : Nat} (hi : i < xs.length) : ∃ ad A1 c1 A2 c2 A3 c3 A4 c4 A5 c5, A = some ad ∧ F ad.block ∧ w.cell? (ad.add (i * 6)) = some (.string xs[i].rel) ∧ w.cell? ⟨(ad.add (i * 6)).block, (ad.add (i * 6)).off + 1, none⟩ = some (.slice A1 xs[i].vars.length c1) ∧ w.cell? ⟨(ad.add (i * 6)).block, (ad.add (i * 6)).off + 2, none⟩ = some (.slice A2 xs[i].cols.length c2) ∧ w.cell? ⟨(ad.add (i * 6)).block, (ad.add (i * 6)).off + 3, none⟩ = some (.slice A3 xs[i].same.length c3) ∧ w.cell? ⟨(ad.add (i * 6)).block, (ad.add (i * 6)).off + 4, none⟩ = some (.slice A4 xs[i].fs.length c4) ∧ w.cell? ⟨(ad.add (i * 6)).block, (ad.add (i * 6)).off + 5, none⟩ = some (.slice A5 xs[i].nots.length c5) ∧ Ins F w (.slice A1 xs[i].vars.length c1) xs[i].vars ∧ Ins F w (.slice A2 xs[i].cols.length c2) xs[i].cols ∧ Sl rdPi F w (.slice A3 xs[i].same.length c3) xs[i].same ∧ Sl rdFl F w (.slice A4 xs[i].fs.length c4) xs[i].fs ∧ Sl rdNt F w (.slice A5 xs[i].nots.length c5) xs[i].nots := by
  obtain ⟨ad, cs, h1, h2, ⟨a, b, d, e, f, rfl, g1, g2, g3, g4, g5⟩, h4, h5⟩ := h.at hi
  obtain ⟨A1, c1, rfl, k1, l1⟩ := g1
  obtain ⟨A2, c2, rfl, k2, l2⟩ := g2
  obtain ⟨A3, c3, rfl⟩ := g3.sl
  obtain ⟨A4, c4, rfl⟩ := g4.sl
  obtain ⟨A5, c5, rfl⟩ := g5.sl
  exact ⟨ad, A1, c1, A2, c2, A3, c3, A4, c4, A5, c5, h1, h2, h4 (by simp), h5 0 (by simp), h5 1 (by simp), h5 2 (by simp), h5 3 (by simp), h5 4 (by simp), ⟨A1, c1, rfl, k1, l1⟩, ⟨A2, c2, rfl, k2, l2⟩, g3, g4, g5⟩
theorem Sl.pi {F : Nat → Prop} {w : World} {A : Option Addr} {n c : Nat} {xs : List Pi} (h : Sl rdPi F w (.slice A n c) xs) {i : Nat} (hi : i < xs.length) : ∃ ad, A = some ad ∧ F ad.block ∧ w.cell? (ad.add (i * 2)) = some (.int .i64 xs[i].a) ∧ w.cell? ⟨(ad.add (i * 2)).block, (ad.add (i * 2)).off + 1, none⟩ = some (.int .i64 xs[i].b) := by
  obtain ⟨ad, cs, h1, h2, h3, h4, h5⟩ := h.at hi
  have e : cs = Pi.cells xs[i] := h3
  subst e
  exact ⟨ad, h1, h2, h4 (by simp [Pi.cells]), h5 0 (by simp [Pi.cells])⟩
theorem Sl.fl {F : Nat → Prop} {w : World} {A : Option Addr} {n c : Nat} {xs : List Fl} (h : Sl rdFl F w (.slice A n c) xs) {i : Nat} (hi : i < xs.length) : ∃ ad, A = some ad ∧ F ad.block ∧ w.cell? (ad.add (i * 5)) = some (.int .i64 xs[i].col) ∧ w.cell? ⟨(ad.add (i * 5)).block, (ad.add (i * 5)).off + 1, none⟩ = some (.int .i64 xs[i].op) ∧ w.cell? ⟨(ad.add (i * 5)).block, (ad.add (i * 5)).off + 2, none⟩ = some (.int .i64 xs[i].kind) ∧ w.cell? ⟨(ad.add (i * 5)).block, (ad.add (i * 5)).off + 3, none⟩ = some (.int .i64 xs[i].int) ∧ w.cell? ⟨(ad.add (i * 5)).block, (ad.add (i * 5)).off + 4, none⟩ = some (.string xs[i].str) := by
  obtain ⟨ad, cs, h1, h2, h3, h4, h5⟩ := h.at hi
  have e : cs = Fl.cells xs[i] := h3
  subst e
  exact ⟨ad, h1, h2, h4 (by simp [Fl.cells]), h5 0 (by simp [Fl.cells]), h5 1 (by simp [Fl.cells]), h5 2 (by simp [Fl.cells]), h5 3 (by simp [Fl.cells])⟩
theorem Sl.nt {F : Nat → Prop} {w : World} {A : Option Addr} {n c : Nat} {xs : List Nt} (h : Sl rdNt F w (.slice A n c) xs) {i : Nat} (hi : i < xs.length) : ∃ ad A1 c1 A2 c2, A = some ad ∧ F ad.block ∧ w.cell? (ad.add (i * 3)) = some (.string xs[i].rel) ∧ w.cell? ⟨(ad.add (i * 3)).block, (ad.add (i * 3)).off + 1, none⟩ = some (.slice A1 xs[i].vars.length c1) ∧ w.cell? ⟨(ad.add (i * 3)).block, (ad.add (i * 3)).off + 2, none⟩ = some (.slice A2 xs[i].cs.length c2) ∧ Ins F w (.slice A1 xs[i].vars.length c1) xs[i].vars ∧ Sl rdVl F w (.slice A2 xs[i].cs.length c2) xs[i].cs := by
  obtain ⟨ad, cs, h1, h2, ⟨u, v, rfl, g1, g2⟩, h4, h5⟩ := h.at hi
  obtain ⟨A1, c1, rfl, k1, l1⟩ := g1
  obtain ⟨A2, c2, rfl⟩ := g2.sl
  exact ⟨ad, A1, c1, A2, c2, h1, h2, h4 (by simp), h5 0 (by simp), h5 1 (by simp), ⟨A1, c1, rfl, k1, l1⟩, g2⟩
theorem two_new (w : World) (t : TypeId) (cs ds : List Value) : Bk ((w.alloc (.cells cs.toArray t)).alloc (.cells ds.toArray t)) w.heap.size t cs ∧ Bk ((w.alloc (.cells cs.toArray t)).alloc (.cells ds.toArray t)) (w.heap.size + 1) t ds := by
  refine ⟨(Bk.new w t cs).alloc _, ?_⟩
  have h := Bk.new (w.alloc (.cells cs.toArray t)) t ds
  have e : (w.alloc (.cells cs.toArray t)).heap.size = w.heap.size + 1 := by simp
  rw [e] at h
  exact h
theorem exQ_z : QyZ exQ := ⟨by decide, by decide, fun r hr => by
  obtain rfl : r = exR := List.mem_singleton.1 hr
  exact ⟨by decide, by unfold TmZ; decide, by decide, by decide⟩, by decide⟩
set_option maxRecDepth 20000 in
set_option maxHeartbeats 3200000 in
theorem awake_true (w : World) : Calls Tryz.prog 7 #[] w (Ret (fun x _ => x = .bool true) w) := by
  go_enter Tryz.func7, Tryz.ntmps7
  go_upto_region 2 with fail
  have hs1 : (w.alloc (.cells #[.int .i64 1, .int .i64 1, .int .i64 1, .int .i64 1] 3)).heap.size = w.heap.size + 1 := by simp
  have k1 := Bk.new w 3 [.int .i64 1, .int .i64 1, .int .i64 1, .int .i64 1]
  change Bk (w.alloc (.cells #[.int .i64 1, .int .i64 1, .int .i64 1, .int .i64 1] 3)) _ _ _ at k1
  have hx1 : Ext w (w.alloc (.cells #[.int .i64 1, .int .i64 1, .int .i64 1, .int .i64 1] 3)) := (Ext.refl w).alloc _
  generalize (w.alloc (.cells #[.int .i64 1, .int .i64 1, .int .i64 1, .int .i64 1] 3)) = w1 at *
  have hs2 : (w1.alloc (.cells #[.int .i64 1] 3)).heap.size = w1.heap.size + 1 := by simp
  have k2 := Bk.new w1 3 [.int .i64 1]
  change Bk (w1.alloc (.cells #[.int .i64 1] 3)) _ _ _ at k2
  have hx2 : Ext w1 (w1.alloc (.cells #[.int .i64 1] 3)) := (Ext.refl w1).alloc _
  generalize (w1.alloc (.cells #[.int .i64 1] 3)) = w2 at *
  rw [hs1] at k2 hs2
  have hs3 : (w2.alloc (.cells #[.string ⟨#[114]⟩, .slice (some ⟨w.heap.size, 0, none⟩) 4 4, .string ⟨#[115]⟩, .slice (some ⟨(w.heap.size + 1), 0, none⟩) 1 1] 45)).heap.size = w2.heap.size + 1 := by simp
  have k3 := Bk.new w2 45 [.string ⟨#[114]⟩, .slice (some ⟨w.heap.size, 0, none⟩) 4 4, .string ⟨#[115]⟩, .slice (some ⟨(w.heap.size + 1), 0, none⟩) 1 1]
  change Bk (w2.alloc (.cells #[.string ⟨#[114]⟩, .slice (some ⟨w.heap.size, 0, none⟩) 4 4, .string ⟨#[115]⟩, .slice (some ⟨(w.heap.size + 1), 0, none⟩) 1 1] 45)) _ _ _ at k3
  have hx3 : Ext w2 (w2.alloc (.cells #[.string ⟨#[114]⟩, .slice (some ⟨w.heap.size, 0, none⟩) 4 4, .string ⟨#[115]⟩, .slice (some ⟨(w.heap.size + 1), 0, none⟩) 1 1] 45)) := (Ext.refl w2).alloc _
  generalize (w2.alloc (.cells #[.string ⟨#[114]⟩, .slice (some ⟨w.heap.size, 0, none⟩) 4 4, .string ⟨#[115]⟩, .slice (some ⟨(w.heap.size + 1), 0, none⟩) 1 1] 45)) = w3 at *
  rw [hs2] at k3 hs3
  have m1 := (k1.ext hx2).ext hx3
  have m2 := k2.ext hx3
  have hS : Sl rdSc (fun k => w.heap.size ≤ k) w3 (.slice (some ⟨(w.heap.size + 1 + 1), 0, none⟩) 2 2) exS := by
    refine ⟨_, _, rfl, Nat.le_refl _, fun i hi => ?_⟩
    have e : ∀ n, (⟨w.heap.size + 1 + 1, 0, none⟩ : Addr).add n = ⟨w.heap.size + 1 + 1, n, none⟩ := fun n => by simp [Addr.add]; exact fun h => h.symm
    have hi2 : i < 2 := hi
    have hF : w.heap.size ≤ (⟨w.heap.size + 1 + 1, 0, none⟩ : Addr).block := by show w.heap.size ≤ w.heap.size + 1 + 1; omega
    rcases i with _ | _ | i
    · refine ⟨_, [.string ⟨#[114]⟩, .slice (some ⟨w.heap.size, 0, none⟩) 4 4], rfl, hF, ⟨_, rfl, _, _, rfl, Nat.le_refl _, Cl.of_bk m1 (Nat.le_refl _)⟩, fun j hj => ?_⟩
      rw [e]
      have hj2 : j < 2 := hj
      rcases j with _ | _ | j
      · exact k3.cell (i := 0) (by simp)
      · exact k3.cell (i := 1) (by simp)
      · omega
    · refine ⟨_, [.string ⟨#[115]⟩, .slice (some ⟨(w.heap.size + 1), 0, none⟩) 1 1], rfl, hF, ⟨_, rfl, _, _, rfl, Nat.le_refl _, Cl.of_bk m2 (Nat.le_succ _)⟩, fun j hj => ?_⟩
      rw [e]
      have hj2 : j < 2 := hj
      rcases j with _ | _ | j
      · exact k3.cell (i := 2) (by simp)
      · exact k3.cell (i := 3) (by simp)
      · omega
    · omega
  have HX3 := Lib.hid ((hx1.trans hx2).trans hx3)
  have HS := Lib.hid hS
  clear hS m1 m2 k1 k2 k3 hx1 hx2 hx3
  go_wp2_with fail
  refine (example_any _).mono ?_
  rintro e w4 ⟨x, rfl, he4, A, ca, B, cb, O, co, rfl, hq⟩
  have HX4 := Lib.hid (HX3.out.trans he4)
  have HR := Lib.hid (rule_good (ri := 0) hq (HS.out.ext he4) exQ_z (by decide) (by decide) ex_check (by decide))
  clear he4 hq hs1 hs2 hs3
  go_wp2_with fail
  refine HR.out.mono ?_
  rintro e w5 ⟨he5, V, D, S, rfl, hn⟩
  have hnn : normalL exQ exQ.rs[0] = ⟨[⟨#[121]⟩, ⟨#[120]⟩], 2, [false, false], [exS0, exS1]⟩ := ex_norm
  rw [hnn] at hn ⊢
  simp only at hn ⊢
  obtain ⟨⟨A1, c1, rfl, -, hcl⟩, ⟨A2, c2, rfl, -, -⟩, hsrc⟩ := hn
  obtain ⟨A3, c3, rfl⟩ := hsrc.sl
  obtain ⟨adv, e9, -, v0⟩ := hcl.str (i := 0) (by simp)
  obtain ⟨adv', e9', -, v1⟩ := hcl.str (i := 1) (by simp)
  subst e9
  injection e9' with e9'
  subst e9'
  have HX5 := Lib.hid (HX4.out.trans he5)
  have HSRC := Lib.hid hsrc
  clear hnn hcl hsrc he5 HR HS HX3 HX4
  simp only [List.length_cons, List.length_nil, List.getElem_cons_zero, List.getElem_cons_succ] at v0 v1 ⊢
  have v0' : w5.cell? adv = some (.string ⟨#[121]⟩) := by simpa [Addr.add] using v0
  go_upto_region 3 with fail
  have k6 := Bk.new w5 40 [.slice (some adv) 2 c1, .int .i64 2, .slice A2 2 c2, .slice A3 2 c3]
  change Bk (w5.alloc (.cells #[.slice (some adv) 2 c1, .int .i64 2, .slice A2 2 c2, .slice A3 2 c3] 40)) _ _ _ at k6
  have hx6 : Ext w5 (w5.alloc (.cells #[.slice (some adv) 2 c1, .int .i64 2, .slice A2 2 c2, .slice A3 2 c3] 40)) := (Ext.refl w5).alloc _
  generalize (w5.alloc (.cells #[.slice (some adv) 2 c1, .int .i64 2, .slice A2 2 c2, .slice A3 2 c3] 40)) = w6 at *
  have d0 := k6.cell (i := 0) (by simp); have d1 := k6.cell (i := 1) (by simp); have d3 := k6.cell (i := 3) (by simp)
  simp only [List.getElem_cons_zero, List.getElem_cons_succ] at d0 d1 d3
  replace v0' := hx6.cell v0'; replace v1 := hx6.cell v1
  have HX6 := Lib.hid (HX5.out.trans hx6)
  have hs := HSRC.out.ext hx6
  have v1' : w6.cell? ⟨adv.block, adv.off + 1, none⟩ = some (.string ⟨#[120]⟩) := by simpa [Addr.add] using v1
  clear v0 k6 hx6
  go_upto_region 5 with fail
  obtain ⟨ads, A11, e11, A12, e12, A13, e13, A14, e14, A15, e15, e9, -, s0, s1, s2, s3, s4, s5, i1, i2, i3, i4, i5⟩ := hs.src (i := 0) (by simp)
  subst e9
  obtain ⟨ads', B11, f11, B12, f12, B13, f13, B14, f14, B15, f15, e9, -, t0, t1, t2, t3, t4, t5, j1, -, -, -, -⟩ := hs.src (i := 1) (by simp)
  injection e9 with e9
  subst e9
  simp only [List.getElem_cons_zero, List.getElem_cons_succ, exS0, exS1, List.length_cons, List.length_nil] at s0 s1 s2 s3 s4 s5 t0 t1 t2 t3 t4 t5 i1 i2 i3 i4 i5 j1
  simp [Addr.add] at s0 s1 s2 s3 s4 s5 t0 t1 t2 t3 t4 t5
  clear hs v1 v0' v1' d0 d1
  go_cut [4, 5] (fun x4 x5 wx => ∃ b4 b5 : Nat, x4 = .pointer (some ⟨b4, 0, none⟩) ∧ x5 = .pointer (some ⟨b5, 0, none⟩) ∧ Bk wx b4 36 [.string ⟨#[114]⟩, .slice A11 2 e11, .slice A12 2 e12, .slice A13 1 e13, .slice A14 2 e14, .slice A15 1 e15] ∧ Bk wx b5 36 [.string ⟨#[115]⟩, .slice B11 1 f11, .slice B12 1 f12, .slice B13 0 f13, .slice B14 1 f14, .slice B15 0 f15] ∧ Ext w6 wx)
  case first =>
    go_region_held3 (fun V => Ext w6 V ∧ V.cell? ⟨w5.heap.size, 3, none⟩ = some (.slice (some ads) 2 c3) ∧ V.cell? ads = some (.string ⟨#[114]⟩) ∧ V.cell? ⟨ads.block, ads.off + 1, none⟩ = some (.slice A11 2 e11) ∧ V.cell? ⟨ads.block, ads.off + 2, none⟩ = some (.slice A12 2 e12) ∧ V.cell? ⟨ads.block, ads.off + 3, none⟩ = some (.slice A13 1 e13) ∧ V.cell? ⟨ads.block, ads.off + 4, none⟩ = some (.slice A14 2 e14) ∧ V.cell? ⟨ads.block, ads.off + 5, none⟩ = some (.slice A15 1 e15) ∧ V.cell? ⟨ads.block, ads.off + 6, none⟩ = some (.string ⟨#[115]⟩) ∧ V.cell? ⟨ads.block, ads.off + 6 + 1, none⟩ = some (.slice B11 1 f11) ∧ V.cell? ⟨ads.block, ads.off + 6 + 2, none⟩ = some (.slice B12 1 f12) ∧ V.cell? ⟨ads.block, ads.off + 6 + 3, none⟩ = some (.slice B13 0 f13) ∧ V.cell? ⟨ads.block, ads.off + 6 + 4, none⟩ = some (.slice B14 1 f14) ∧ V.cell? ⟨ads.block, ads.off + 6 + 5, none⟩ = some (.slice B15 0 f15))
      ((refine (fun he => ⟨he, Ext.cell he d3, Ext.cell he s0, Ext.cell he s1, Ext.cell he s2, Ext.cell he s3, Ext.cell he s4, Ext.cell he s5, Ext.cell he t0, Ext.cell he t1, Ext.cell he t2, Ext.cell he t3, Ext.cell he t4, Ext.cell he t5⟩) ?_; repeat (first | exact Ext.refl _ | exact (Ext.refl _).drew | refine Ext.alloc ?_ _ | refine Ext.drew ?_ | (refine Ext.setCell ?_ (by simp; omega) _) | refine Ext.trans ?_ (by assumption))))
      (fail)
    all_goals
      go_wp2_with fail
      go_meet
      first
        | exact ⟨_, _, rfl, rfl, (two_new w6.drew 36 [.string ⟨#[114]⟩, .slice A11 2 e11, .slice A12 2 e12, .slice A13 1 e13, .slice A14 2 e14, .slice A15 1 e15] [.string ⟨#[115]⟩, .slice B11 1 f11, .slice B12 1 f12, .slice B13 0 f13, .slice B14 1 f14, .slice B15 0 f15]).1, (two_new w6.drew 36 [.string ⟨#[114]⟩, .slice A11 2 e11, .slice A12 2 e12, .slice A13 1 e13, .slice A14 2 e14, .slice A15 1 e15] [.string ⟨#[115]⟩, .slice B11 1 f11, .slice B12 1 f12, .slice B13 0 f13, .slice B14 1 f14, .slice B15 0 f15]).2, ((Ext.refl w6).drew.alloc _).alloc _⟩
        | exact ⟨_, _, rfl, rfl, (two_new w6.drew 36 [.string ⟨#[115]⟩, .slice B11 1 f11, .slice B12 1 f12, .slice B13 0 f13, .slice B14 1 f14, .slice B15 0 f15] [.string ⟨#[114]⟩, .slice A11 2 e11, .slice A12 2 e12, .slice A13 1 e13, .slice A14 2 e14, .slice A15 1 e15]).2, (two_new w6.drew 36 [.string ⟨#[115]⟩, .slice B11 1 f11, .slice B12 1 f12, .slice B13 0 f13, .slice B14 1 f14, .slice B15 0 f15] [.string ⟨#[114]⟩, .slice A11 2 e11, .slice A12 2 e12, .slice A13 1 e13, .slice A14 2 e14, .slice A15 1 e15]).1, ((Ext.refl w6).drew.alloc _).alloc _⟩
  case rest =>
    obtain ⟨b4, b5, rfl, rfl, k4, k5, he⟩ := hcut
    obtain ⟨W, rfl⟩ : ∃ W : World, W = wc := ⟨_, rfl⟩
    have x1 := k4.cell (i := 1) (by simp); have x2 := k4.cell (i := 2) (by simp); have x3 := k4.cell (i := 3) (by simp); have x4 := k4.cell (i := 4) (by simp); have x5 := k4.cell (i := 5) (by simp)
    have y1 := k5.cell (i := 1) (by simp); have y4 := k5.cell (i := 4) (by simp)
    simp only [List.getElem_cons_zero, List.getElem_cons_succ] at x1 x2 x3 x4 x5 y1 y4
    obtain ⟨g3, rfl, -, p0, p1⟩ := (i3.ext he).pi (i := 0) (by simp)
    obtain ⟨g4, rfl, -, q0, -, -, -, -⟩ := (i4.ext he).fl (i := 0) (by simp)
    obtain ⟨g4', e9, -, -, q1, -, -, -⟩ := (i4.ext he).fl (i := 1) (by simp)
    injection e9 with e9
    subst e9
    obtain ⟨g5, A6, c6, A7, c7, rfl, -, -, n1, -, i6, -⟩ := (i5.ext he).nt (i := 0) (by simp)
    simp only [List.getElem_cons_zero, List.getElem_cons_succ, List.length_cons, List.length_nil] at p0 p1 q0 q1 n1 i6
    simp [Addr.add] at p0 p1 q0 q1 n1
    have H1 := Lib.hid (fun (V : World) (b : Nat) (hV : Ext W V) (hb : Bk V b 3 [.int .i64 0, .int .i64 1]) => ints_any (ys := [0, 1]) ((i1.ext he).ext hV) (G := fun _ => True) ⟨_, _, rfl, Nat.le_refl _, Cl.of_bk hb trivial⟩ (by decide))
    have H2 := Lib.hid (fun (V : World) (b : Nat) (hV : Ext W V) (hb : Bk V b 3 [.int .i64 0, .int .i64 1]) => ints_any (ys := [0, 1]) ((i2.ext he).ext hV) (G := fun _ => True) ⟨_, _, rfl, Nat.le_refl _, Cl.of_bk hb trivial⟩ (by decide))
    have H3 := Lib.hid (fun (V : World) (b : Nat) (hV : Ext W V) (hb : Bk V b 3 [.int .i64 0]) => ints_any (ys := [0]) (i6.ext hV) (G := fun _ => True) ⟨_, _, rfl, Nat.le_refl _, Cl.of_bk hb trivial⟩ (by decide))
    have H4 := Lib.hid (fun (V : World) (b : Nat) (hV : Ext W V) (hb : Bk V b 3 [.int .i64 1]) => ints_any (ys := [1]) ((j1.ext he).ext hV) (G := fun _ => True) ⟨_, _, rfl, Nat.le_refl _, Cl.of_bk hb trivial⟩ (by decide))
    simp only [decide_true, List.length_cons, List.length_nil, Nat.zero_add, Nat.reduceAdd] at H1 H2 H3 H4
    have HX9 := Lib.hid (HX6.out.trans he)
    clear i1 i2 i3 i4 i5 i6 j1 he k4 k5 d3 s0 s1 s2 s3 s4 s5 t0 t1 t2 t3 t4 t5 HX6 HX5
    go_wp2_with fail
    refine (H1.out _ _ ((Ext.refl W).alloc _) (Bk.new _ _ [_, _])).mono ?_
    rintro e v0 ⟨yv, rfl, hei, rfl⟩
    have h0 : Ext W v0 := ((Ext.refl W).alloc _).trans hei
    have x1_0 := h0.cell x1; have x2_0 := h0.cell x2; have x3_0 := h0.cell x3; have x4_0 := h0.cell x4; have x5_0 := h0.cell x5; have y1_0 := h0.cell y1; have y4_0 := h0.cell y4; have p0_0 := h0.cell p0; have p1_0 := h0.cell p1; have q0_0 := h0.cell q0; have q1_0 := h0.cell q1; have n1_0 := h0.cell n1
    clear hei
    go_wp2_with fail
    refine (H2.out _ _ (h0.alloc _) (Bk.new _ _ [_, _])).mono ?_
    rintro e v1 ⟨yv, rfl, hei, rfl⟩
    have heq := eq_pi v1 0 2 0 2
    have h1 : Ext W v1 := (h0.alloc _).trans hei
    have x1_1 := h1.cell x1; have x2_1 := h1.cell x2; have x3_1 := h1.cell x3; have x4_1 := h1.cell x4; have x5_1 := h1.cell x5; have y1_1 := h1.cell y1; have y4_1 := h1.cell y4; have p0_1 := h1.cell p0; have p1_1 := h1.cell p1; have q0_1 := h1.cell q0; have q1_1 := h1.cell q1; have n1_1 := h1.cell n1
    clear hei
    go_wp2_with fail
    refine (H3.out _ _ (h1.alloc _) (Bk.new _ _ [_])).mono ?_
    rintro e v2 ⟨yv, rfl, hei, rfl⟩
    have h2 : Ext W v2 := (h1.alloc _).trans hei
    have x1_2 := h2.cell x1; have x2_2 := h2.cell x2; have x3_2 := h2.cell x3; have x4_2 := h2.cell x4; have x5_2 := h2.cell x5; have y1_2 := h2.cell y1; have y4_2 := h2.cell y4; have p0_2 := h2.cell p0; have p1_2 := h2.cell p1; have q0_2 := h2.cell q0; have q1_2 := h2.cell q1; have n1_2 := h2.cell n1
    clear hei
    go_wp2_with fail
    refine (H4.out _ _ (h2.alloc _) (Bk.new _ _ [_])).mono ?_
    rintro e v3 ⟨yv, rfl, hei, rfl⟩
    have h3 : Ext W v3 := (h2.alloc _).trans hei
    have x1_3 := h3.cell x1; have x2_3 := h3.cell x2; have x3_3 := h3.cell x3; have x4_3 := h3.cell x4; have x5_3 := h3.cell x5; have y1_3 := h3.cell y1; have y4_3 := h3.cell y4; have p0_3 := h3.cell p0; have p1_3 := h3.cell p1; have q0_3 := h3.cell q0; have q1_3 := h3.cell q1; have n1_3 := h3.cell n1
    clear hei
    go_wp2_with fail
    go_ret
    exact Ret.mk (HX9.out.trans h3) rfl
end Go.Proofs.YtmmmdinncmbjkaaGreat
