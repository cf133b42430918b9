/- Contract: the law's same, where both sources are the same. -/
import Derived.Test.YtmmmdinncmbjkaaOs
namespace Go.Proofs.Ytmmmdinncmbjkaa
open Go.RowKit Go.Maps

theorem eq_pi_self (w : World) (a b : Int) : (Op.equalIn 10000 71 (.agg #[.int .i64 a, .int .i64 b]) (.agg #[.int .i64 a, .int .i64 b])).run Try.prog w = .ok true w := by
  have h := eq_pi w a b a b
  simpa using h
theorem two_newT (w : World) (t u : TypeId) (cs ds : List Value) : Bk ((w.alloc (.cells cs.toArray t)).alloc (.cells ds.toArray u)) w.heap.size t cs ∧ Bk ((w.alloc (.cells cs.toArray t)).alloc (.cells ds.toArray u)) (w.heap.size + 1) u ds := by
  refine ⟨(Bk.new w t cs).alloc _, ?_⟩
  have h := Bk.new (w.alloc (.cells cs.toArray t)) u ds
  have e : (w.alloc (.cells cs.toArray t)).heap.size = w.heap.size + 1 := by simp
  rw [e] at h
  exact h
set_option maxRecDepth 20000 in
set_option maxHeartbeats 3200000 in
theorem same_true {F G : Nat → Prop} {w : World} {rl : ByteArray} {A1 A2 A3 A4 A5 B1 B2 B3 B4 B5 : Option Addr} {n1 n2 n3 n4 n5 c1 c2 c3 c4 c5 d1 d2 d3 d4 d5 : Nat} {x : Src} (hv : Ins F w (.slice A1 n1 c1) x.vars) (kv : Ins G w (.slice B1 n1 d1) x.vars) (hc : Ins F w (.slice A2 n2 c2) x.cols) (kc : Ins G w (.slice B2 n2 d2) x.cols) (hs : Sl rdPi F w (.slice A3 n3 c3) x.same) (ks : Sl rdPi G w (.slice B3 n3 d3) x.same) (hf : Sl rdFl F w (.slice A4 n4 c4) x.fs) (kf : Sl rdFl G w (.slice B4 n4 d4) x.fs) (hn : Sl rdNt F w (.slice A5 n5 c5) x.nots) (kn : Sl rdNt G w (.slice B5 n5 d5) x.nots) (b1 : n1 ≤ 1048576) (b2 : n2 ≤ 1048576) (b3 : n3 ≤ 1048576) (b4 : n4 ≤ 1048576) (b5 : n5 ≤ 1048576) (bn : ∀ y ∈ x.nots, y.vars.length ≤ 1048576 ∧ y.cs.length ≤ 1048576) :
    Calls Try.prog 13 #[.agg #[.string rl, .slice A1 n1 c1, .slice A2 n2 c2, .slice A3 n3 c3, .slice A4 n4 c4, .slice A5 n5 c5], .agg #[.string rl, .slice B1 n1 d1, .slice B2 n2 d2, .slice B3 n3 d3, .slice B4 n4 d4, .slice B5 n5 d5]] w (Ret (fun x _ => x = .bool true) w) := by
  have H1 := Lib.hid (fun (V : World) (hV : Ext w V) => ints_any (hv.ext hV) (kv.ext hV) b1)
  have H2 := Lib.hid (fun (V : World) (hV : Ext w V) => ints_any (hc.ext hV) (kc.ext hV) b2)
  rw [decide_eq_true rfl] at H1 H2
  have HS := Lib.hid hs; have KS := Lib.hid ks; have HF := Lib.hid hf; have KF := Lib.hid kf; have HN := Lib.hid hn; have KN := Lib.hid kn
  have HL3 := Lib.hid hs.cap.1; have HL4 := Lib.hid hf.cap.1; have HL5 := Lib.hid hn.cap.1; have HBN := Lib.hid bn
  clear hv kv hc kc hs ks hf kf hn kn bn
  go_enter Try.func13, Try.ntmps13
  go_upto_region 1 with fail
  have k2 := two_newT w 58 62 [.string rl, .slice A1 n1 c1, .slice A2 n2 c2, .slice A3 n3 c3, .slice A4 n4 c4, .slice A5 n5 c5] [.string rl, .slice B1 n1 d1, .slice B2 n2 d2, .slice B3 n3 d3, .slice B4 n4 d4, .slice B5 n5 d5]
  have hx : Ext w ((w.alloc (.cells #[.string rl, .slice A1 n1 c1, .slice A2 n2 c2, .slice A3 n3 c3, .slice A4 n4 c4, .slice A5 n5 c5] 58)).alloc (.cells #[.string rl, .slice B1 n1 d1, .slice B2 n2 d2, .slice B3 n3 d3, .slice B4 n4 d4, .slice B5 n5 d5] 62)) := ((Ext.refl w).alloc _).alloc _
  change Bk ((w.alloc (.cells #[.string rl, .slice A1 n1 c1, .slice A2 n2 c2, .slice A3 n3 c3, .slice A4 n4 c4, .slice A5 n5 c5] 58)).alloc (.cells #[.string rl, .slice B1 n1 d1, .slice B2 n2 d2, .slice B3 n3 d3, .slice B4 n4 d4, .slice B5 n5 d5] 62)) _ _ _ ∧ Bk ((w.alloc (.cells #[.string rl, .slice A1 n1 c1, .slice A2 n2 c2, .slice A3 n3 c3, .slice A4 n4 c4, .slice A5 n5 c5] 58)).alloc (.cells #[.string rl, .slice B1 n1 d1, .slice B2 n2 d2, .slice B3 n3 d3, .slice B4 n4 d4, .slice B5 n5 d5] 62)) _ _ _ at k2
  generalize ((w.alloc (.cells #[.string rl, .slice A1 n1 c1, .slice A2 n2 c2, .slice A3 n3 c3, .slice A4 n4 c4, .slice A5 n5 c5] 58)).alloc (.cells #[.string rl, .slice B1 n1 d1, .slice B2 n2 d2, .slice B3 n3 d3, .slice B4 n4 d4, .slice B5 n5 d5] 62)) = w1 at *
  obtain ⟨ka, kb⟩ := k2
  have p0 := ka.cell (i := 0) (by simp); have p1 := ka.cell (i := 1) (by simp); have p2 := ka.cell (i := 2) (by simp); have p3 := ka.cell (i := 3) (by simp); have p4 := ka.cell (i := 4) (by simp); have p5 := ka.cell (i := 5) (by simp)
  simp only [List.getElem_cons_zero, List.getElem_cons_succ] at p0 p1 p2 p3 p4 p5
  have q0 := kb.cell (i := 0) (by simp); have q1 := kb.cell (i := 1) (by simp); have q2 := kb.cell (i := 2) (by simp); have q3 := kb.cell (i := 3) (by simp); have q4 := kb.cell (i := 4) (by simp); have q5 := kb.cell (i := 5) (by simp)
  simp only [List.getElem_cons_zero, List.getElem_cons_succ] at q0 q1 q2 q3 q4 q5
  have HKA := Lib.hid ka; have HKB := Lib.hid kb; have HX := Lib.hid hx
  clear ka kb hx
  go_wp2_with fail
  refine (H1.out _ HX.out).mono ?_
  rintro e w2 ⟨y, rfl, he, rfl⟩
  replace p0 := he.cell p0; replace p1 := he.cell p1; replace p2 := he.cell p2; replace p3 := he.cell p3; replace p4 := he.cell p4; replace p5 := he.cell p5; replace q0 := he.cell q0; replace q1 := he.cell q1; replace q2 := he.cell q2; replace q3 := he.cell q3; replace q4 := he.cell q4; replace q5 := he.cell q5
  replace HKA := Lib.hid (HKA.out.ext he); replace HKB := Lib.hid (HKB.out.ext he); replace HX := Lib.hid (HX.out.trans he)
  clear he
  go_wp2_with fail
  refine (H2.out _ HX.out).mono ?_
  rintro e w3 ⟨y, rfl, he, rfl⟩
  replace p0 := he.cell p0; replace p1 := he.cell p1; replace p2 := he.cell p2; replace p3 := he.cell p3; replace p4 := he.cell p4; replace p5 := he.cell p5; replace q0 := he.cell q0; replace q1 := he.cell q1; replace q2 := he.cell q2; replace q3 := he.cell q3; replace q4 := he.cell q4; replace q5 := he.cell q5
  replace HKA := Lib.hid (HKA.out.ext he); replace HKB := Lib.hid (HKB.out.ext he); replace HX := Lib.hid (HX.out.trans he)
  clear he
  go_wp2_with fail
  clear p0 p1 p2 p3 p4 p5 q0 q1 q2 q3 q4 q5
  go_loopw [5] (fun t wr => ∃ i : Nat, i ≤ n3 ∧ t = .int .i64 (i : Int) ∧ Ext w3 wr) (fun t _ => n3 - (intOf t).toNat)
  case atStart => exact ⟨0, Nat.zero_le _, rfl, Ext.refl _⟩
  case round =>
    obtain ⟨i, hi, rfl, hx⟩ := hrel
    obtain ⟨W, rfl⟩ : ∃ W : World, W = wr := ⟨_, rfl⟩
    have HXI := Lib.hid hx
    have p3 := (HKA.out.ext hx).cell (i := 3) (by simp); have q3 := (HKB.out.ext hx).cell (i := 3) (by simp); have p4 := (HKA.out.ext hx).cell (i := 4) (by simp)
    simp only [List.getElem_cons_zero, List.getElem_cons_succ] at p3 q3 p4
    by_cases hlt : i < n3
    · have i1 : (0 : Int) ≤ (i : Int) := by omega
      have i2 : (i : Int) < (n3 : Int) := by omega
      have hil : i < x.same.length := by have := HL3.out; omega
      obtain ⟨ad, rfl, -, c0, c1⟩ := HS.out.pi hil
      obtain ⟨bd, rfl, -, e0, e1⟩ := KS.out.pi hil
      replace c0 := hx.cell (HX.out.cell c0); replace c1 := hx.cell (HX.out.cell c1); replace e0 := hx.cell (HX.out.cell e0); replace e1 := hx.cell (HX.out.cell e1)
      obtain ⟨y, hy⟩ : ∃ y, y = x.same[i] := ⟨_, rfl⟩
      rw [← hy] at c0 c1 e0 e1
      obtain ⟨ya, yb⟩ := y
      simp only at c0 c1 e0 e1
      have heq := fun W => eq_pi_self W ya yb
      clear hy hx p4
      go_upto_region 6 with fail
      go_quiet (fail)
      have HXQ := Lib.hid (HXI.out.drewN nq)
      generalize (W.drewN nq) = w5 at *
      clear heq p3 q3 c0 c1 e0 e1
      go_wp2_with fail
      go_roundw
      case rel => exact ⟨i + 1, by omega, by go_num, HXQ.out⟩
      case measure => simp [intOf]; omega
    · obtain rfl : i = n3 := by omega
      have hdi : ¬ (i : Int) < (i : Int) := by omega
      clear hx q3
      go_wp2_with fail
      clear p3 p4
      go_loopw [6] (fun t wr => ∃ j : Nat, j ≤ n4 ∧ t = .int .i64 (j : Int) ∧ Ext W wr) (fun t _ => n4 - (intOf t).toNat)
      case atStart => exact ⟨0, Nat.zero_le _, rfl, Ext.refl _⟩
      case round =>
        obtain ⟨j, hj, rfl, hxj⟩ := hrel
        obtain ⟨W2, rfl⟩ : ∃ W : World, W = wr := ⟨_, rfl⟩
        have HXJ := Lib.hid (HXI.out.trans hxj)
        have p4 := (HKA.out.ext HXJ.out).cell (i := 4) (by simp); have q4 := (HKB.out.ext HXJ.out).cell (i := 4) (by simp); have p5 := (HKA.out.ext HXJ.out).cell (i := 5) (by simp)
        simp only [List.getElem_cons_zero, List.getElem_cons_succ] at p4 q4 p5
        have HXJ1 := Lib.hid hxj
        clear hxj
        by_cases hjl : j < n4
        · have j1 : (0 : Int) ≤ (j : Int) := by omega
          have j2 : (j : Int) < (n4 : Int) := by omega
          have hjf : j < x.fs.length := by have := HL4.out; omega
          obtain ⟨ad, rfl, -, c0, c1, c2, c3, c4⟩ := HF.out.fl hjf
          obtain ⟨bd, rfl, -, e0, e1, e2, e3, e4⟩ := KF.out.fl hjf
          have hxx := HX.out.trans HXJ.out
          replace c0 := hxx.cell c0; replace c1 := hxx.cell c1; replace c2 := hxx.cell c2; replace c3 := hxx.cell c3; replace c4 := hxx.cell c4
          replace e0 := hxx.cell e0; replace e1 := hxx.cell e1; replace e2 := hxx.cell e2; replace e3 := hxx.cell e3; replace e4 := hxx.cell e4
          obtain ⟨y, hy⟩ : ∃ y, y = x.fs[j] := ⟨_, rfl⟩
          rw [← hy] at c0 c1 c2 c3 c4 e0 e1 e2 e3 e4
          obtain ⟨yc, yo, yk, yi, ys⟩ := y
          simp only at c0 c1 c2 c3 c4 e0 e1 e2 e3 e4
          have heq := fun W => eq_val_self W yk yi ys
          clear hy hxx p5
          go_upto_region 11 with fail
          go_quiet (fail)
          have HXQ := Lib.hid (HXJ1.out.drewN nq)
          generalize (W2.drewN nq) = w5 at *
          clear heq p4 q4 c0 c1 c2 c3 c4 e0 e1 e2 e3 e4
          go_wp2_with fail
          go_roundw
          case rel => exact ⟨j + 1, by omega, by go_num, HXQ.out⟩
          case measure => simp [intOf]; omega
        · obtain rfl : j = n4 := by omega
          have hdj : ¬ (j : Int) < (j : Int) := by omega
          clear q4
          go_wp2_with fail
          clear p4 p5
          go_loopw [7] (fun t wr => ∃ k : Nat, k ≤ n5 ∧ t = .int .i64 (k : Int) ∧ Ext W2 wr) (fun t _ => n5 - (intOf t).toNat)
          case atStart => exact ⟨0, Nat.zero_le _, rfl, Ext.refl _⟩
          case round =>
            obtain ⟨k, hk, rfl, hxk⟩ := hrel
            obtain ⟨W3, rfl⟩ : ∃ W : World, W = wr := ⟨_, rfl⟩
            have HXK := Lib.hid (HXJ.out.trans hxk); have HXK1 := Lib.hid hxk
            have p5 := (HKA.out.ext HXK.out).cell (i := 5) (by simp); have q5 := (HKB.out.ext HXK.out).cell (i := 5) (by simp)
            simp only [List.getElem_cons_zero, List.getElem_cons_succ] at p5 q5
            clear hxk
            by_cases hkl : k < n5
            · have k1 : (0 : Int) ≤ (k : Int) := by omega
              have k2 : (k : Int) < (n5 : Int) := by omega
              have hkf : k < x.nots.length := by have := HL5.out; omega
              have hxx := HX.out.trans HXK.out
              obtain ⟨ad, V1, x1, V2, x2, rfl, -, c0, c1, c2, g1, g2⟩ := (HN.out.ext hxx).nt hkf
              obtain ⟨bd, R1, y1, R2, y2, rfl, -, e0, e1, e2, h1, h2⟩ := (KN.out.ext hxx).nt hkf
              obtain ⟨l1, l2⟩ := HBN.out _ (List.getElem_mem hkf)
              have hi1 := fun (V : World) (hV : Ext W3 V) => ints_any (g1.ext hV) (h1.ext hV) l1
              rw [decide_eq_true rfl] at hi1
              have hi2 := fun (V : World) (hV : Ext W3 V) => same_row (g2.ext hV) (h2.ext hV) l2
              obtain ⟨m1, hm1⟩ : ∃ n, n = x.nots[k].vars.length := ⟨_, rfl⟩
              obtain ⟨m2, hm2⟩ : ∃ n, n = x.nots[k].cs.length := ⟨_, rfl⟩
              obtain ⟨rn, hrn⟩ : ∃ n, n = x.nots[k].rel := ⟨_, rfl⟩
              rw [← hm1] at c1 e1 hi1
              rw [← hm2] at c2 e2 hi2
              rw [← hrn] at c0 e0
              have HI1 := Lib.hid hi1; have HI2 := Lib.hid hi2
              clear hi1 hi2 hm1 hm2 hrn g1 g2 h1 h2 l1 l2 hxx
              go_upto_region 16 with fail
              go_cut [8, 9] (fun s8 s9 wx => ∃ b8 b9 : Nat, s8 = .pointer (some ⟨b8, 0, none⟩) ∧ s9 = .pointer (some ⟨b9, 0, none⟩) ∧ Bk wx b8 78 [.string rn, .slice V1 m1 x1, .slice V2 m2 x2] ∧ Bk wx b9 110 [.string rn, .slice R1 m1 y1, .slice R2 m2 y2] ∧ Ext W3 wx)
              case first =>
                go_region_held3 (fun V => Ext W3 V ∧ V.cell? ⟨w.heap.size, 5, none⟩ = some (.slice (some ad) n5 c5) ∧ V.cell? ⟨w.heap.size + 1, 5, none⟩ = some (.slice (some bd) n5 d5) ∧ V.cell? (ad.add (k * 3)) = some (.string rn) ∧ V.cell? ⟨(ad.add (k * 3)).block, (ad.add (k * 3)).off + 1, none⟩ = some (.slice V1 m1 x1) ∧ V.cell? ⟨(ad.add (k * 3)).block, (ad.add (k * 3)).off + 2, none⟩ = some (.slice V2 m2 x2) ∧ V.cell? (bd.add (k * 3)) = some (.string rn) ∧ V.cell? ⟨(bd.add (k * 3)).block, (bd.add (k * 3)).off + 1, none⟩ = some (.slice R1 m1 y1) ∧ V.cell? ⟨(bd.add (k * 3)).block, (bd.add (k * 3)).off + 2, none⟩ = some (.slice R2 m2 y2))
                  ((refine (fun he => ⟨he, Ext.cell he p5, Ext.cell he q5, Ext.cell he c0, Ext.cell he c1, Ext.cell he c2, Ext.cell he e0, Ext.cell he e1, Ext.cell he e2⟩) ?_; repeat (first | exact Ext.refl _ | exact (Ext.refl _).drew | refine Ext.alloc ?_ _ | refine Ext.drew ?_ | (refine Ext.setCell ?_ (by simp; omega) _) | refine Ext.trans ?_ (by assumption))))
                  (fail)
                all_goals
                  go_wp2_with fail
                  go_meet
                  first
                    | exact ⟨_, _, rfl, rfl, (two_newT W3.drew 78 110 [.string rn, .slice V1 m1 x1, .slice V2 m2 x2] [.string rn, .slice R1 m1 y1, .slice R2 m2 y2]).1, (two_newT W3.drew 78 110 [.string rn, .slice V1 m1 x1, .slice V2 m2 x2] [.string rn, .slice R1 m1 y1, .slice R2 m2 y2]).2, ((Ext.refl W3).drew.alloc _).alloc _⟩
                    | exact ⟨_, _, rfl, rfl, (two_newT W3.drew 110 78 [.string rn, .slice R1 m1 y1, .slice R2 m2 y2] [.string rn, .slice V1 m1 x1, .slice V2 m2 x2]).2, (two_newT W3.drew 110 78 [.string rn, .slice R1 m1 y1, .slice R2 m2 y2] [.string rn, .slice V1 m1 x1, .slice V2 m2 x2]).1, ((Ext.refl W3).drew.alloc _).alloc _⟩
              case rest =>
                obtain ⟨b8, b9, rfl, rfl, kx, ky, he⟩ := hcut
                obtain ⟨W4, rfl⟩ : ∃ W : World, W = wc := ⟨_, rfl⟩
                have u0 := kx.cell (i := 0) (by simp); have u1 := kx.cell (i := 1) (by simp); have u2 := kx.cell (i := 2) (by simp)
                have v0 := ky.cell (i := 0) (by simp); have v1 := ky.cell (i := 1) (by simp); have v2 := ky.cell (i := 2) (by simp)
                simp only [List.getElem_cons_zero, List.getElem_cons_succ] at u0 u1 u2 v0 v1 v2
                have HE := Lib.hid he
                clear kx ky he p5 q5 c0 c1 c2 e0 e1 e2
                go_wp2_with fail
                refine (HI1.out _ HE.out).mono ?_
                rintro e w6 ⟨y, rfl, he6, rfl⟩
                replace u2 := he6.cell u2; replace v2 := he6.cell v2
                have HE6 := Lib.hid (HE.out.trans he6)
                clear he6
                go_wp2_with fail
                refine (HI2.out _ HE6.out).mono ?_
                rintro e w7 ⟨y, rfl, he7, rfl⟩
                have HE7 := Lib.hid (HXK1.out.trans (HE6.out.trans he7))
                clear he7
                go_wp2_with fail
                go_roundw
                case rel => exact ⟨k + 1, by omega, by go_num, HE7.out⟩
                case measure => simp [intOf]; omega
            · obtain rfl : k = n5 := by omega
              have hdk : ¬ (k : Int) < (k : Int) := by omega
              clear q5
              go_wp2_with fail
              go_ret
              exact Ret.mk (HX.out.trans HXK.out) rfl
end Go.Proofs.Ytmmmdinncmbjkaa
