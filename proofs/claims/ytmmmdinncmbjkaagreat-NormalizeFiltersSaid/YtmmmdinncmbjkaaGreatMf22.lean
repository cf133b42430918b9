/- Contract: normalize.fits. -/
import Derived.Test.YtmmmdinncmbjkaaGreatMf21
namespace Go.Proofs.YtmmmdinncmbjkaaGreat
open Go.RowKit Go.Maps
def pairB (a : Int) (p : Pi) : Bool := missB a p.a || missB a p.b
def fitsB (s : Src) (a : Int) : Bool := !s.same.any (pairB a) && (!s.fs.any (fun f => missB a f.col) && (!s.cols.any (missB a) && decide (s.vars.length = s.cols.length)))
theorem fits_same {s : Src} {a : Int} {p : Pi} (hp : p ∈ s.same) (h : pairB a p = true) : fitsB s a = false := by
  have : s.same.any (pairB a) = true := List.any_eq_true.2 ⟨p, hp, h⟩
  simp [fitsB, this]
theorem fits_fs {s : Src} {a : Int} {f : Fl} (hp : f ∈ s.fs) (h : missB a f.col = true) : fitsB s a = false := by
  have : s.fs.any (fun f => missB a f.col) = true := List.any_eq_true.2 ⟨f, hp, h⟩
  simp [fitsB, this]
theorem any_take {α : Type} {p : α → Bool} {l : List α} {i : Nat} (hi : i < l.length) (h : (l.take i).any p = false) (hp : p l[i] = false) : (l.take (i + 1)).any p = false := by
  rw [List.take_succ_eq_append_getElem hi, List.any_append, h]
  simp [hp]
set_option maxRecDepth 20000 in
set_option maxHeartbeats 3200000 in
theorem fits_any {F : Nat → Prop} {w : World} {rl : ByteArray} {A1 A2 A3 A4 A5 : Option Addr} {n1 n2 n3 n4 n5 c1 c2 c3 c4 c5 : Nat} {s : Src} {a : Int} (hv : n1 = s.vars.length) (hc : Ins F w (.slice A2 n2 c2) s.cols) (hs : Sl rdPi F w (.slice A3 n3 c3) s.same) (hf : Sl rdFl F w (.slice A4 n4 c4) s.fs) (b1 : n1 ≤ 1048576) (b2 : n2 ≤ 1048576) (b3 : n3 ≤ 1048576) (b4 : n4 ≤ 1048576) :
    Calls Tryz.prog 49 #[.agg #[.string rl, .slice A1 n1 c1, .slice A2 n2 c2, .slice A3 n3 c3, .slice A4 n4 c4, .slice A5 n5 c5], .int .i64 a] w (Ret (fun x _ => x = .bool (fitsB s a)) w) := by
  have HC := Lib.hid hc; have HS := Lib.hid hs; have HF := Lib.hid hf; have HV := Lib.hid hv
  have HL3 := Lib.hid hs.cap.1; have HL4 := Lib.hid hf.cap.1
  have HL2 : Hid (n2 = s.cols.length) := Lib.hid (by
    obtain ⟨A', c', e, -⟩ := hc
    injection e)
  clear hc hs hf hv
  go_enter Tryz.func49, Tryz.ntmps49
  go_upto_region 1 with fail
  have k2 := two_blk w 36 3 [.string rl, .slice A1 n1 c1, .slice A2 n2 c2, .slice A3 n3 c3, .slice A4 n4 c4, .slice A5 n5 c5] [.int .i64 a]
  change Bk ((w.alloc (.cells #[.string rl, .slice A1 n1 c1, .slice A2 n2 c2, .slice A3 n3 c3, .slice A4 n4 c4, .slice A5 n5 c5] 36)).alloc (.cells #[.int .i64 a] 3)) _ _ _ ∧ Bk ((w.alloc (.cells #[.string rl, .slice A1 n1 c1, .slice A2 n2 c2, .slice A3 n3 c3, .slice A4 n4 c4, .slice A5 n5 c5] 36)).alloc (.cells #[.int .i64 a] 3)) _ _ _ at k2
  have hx : Ext w ((w.alloc (.cells #[.string rl, .slice A1 n1 c1, .slice A2 n2 c2, .slice A3 n3 c3, .slice A4 n4 c4, .slice A5 n5 c5] 36)).alloc (.cells #[.int .i64 a] 3)) := ((Ext.refl w).alloc _).alloc _
  generalize ((w.alloc (.cells #[.string rl, .slice A1 n1 c1, .slice A2 n2 c2, .slice A3 n3 c3, .slice A4 n4 c4, .slice A5 n5 c5] 36)).alloc (.cells #[.int .i64 a] 3)) = w1 at *
  obtain ⟨ka, kb⟩ := k2
  have p3 := ka.cell (i := 3) (by simp)
  simp only [List.getElem_cons_zero, List.getElem_cons_succ] at p3
  have HKA := Lib.hid ka; have HKB := Lib.hid kb; have HX := Lib.hid hx
  clear ka kb hx
  go_wp2_with fail
  clear p3
  go_loopw [14] (fun t wr => ∃ i : Nat, i ≤ n3 ∧ t = .int .i64 (i : Int) ∧ Hid ((s.same.take i).any (pairB a) = false) ∧ Ext w1 wr) (fun t _ => n3 - (intOf t).toNat)
  case atStart => exact ⟨0, Nat.zero_le _, rfl, Lib.hid rfl, Ext.refl _⟩
  case round =>
    obtain ⟨i, hi, rfl, HALL, hxr⟩ := hrel
    obtain ⟨W, rfl⟩ : ∃ W : World, W = wr := ⟨_, rfl⟩
    have HXR := Lib.hid hxr
    by_cases hlt : i < n3
    · have i1 : (0 : Int) ≤ (i : Int) := by omega
      have i2 : (i : Int) < (n3 : Int) := by omega
      have hix : i < s.same.length := by have := HL3.out; omega
      obtain ⟨ad, rfl, -, d0, d1⟩ := HS.out.pi hix
      replace d0 := hxr.cell (HX.out.cell d0); replace d1 := hxr.cell (HX.out.cell d1)
      have hmem := List.getElem_mem hix
      have hgo : pairB a s.same[i] = false → (s.same.take (i + 1)).any (pairB a) = false := any_take hix HALL.out
      obtain ⟨p, hp⟩ : ∃ p, p = s.same[i] := ⟨_, rfl⟩
      rw [← hp] at d0 d1 hmem hgo
      have HMEM := Lib.hid (fun h => fits_same (s := s) (a := a) hmem h); have HGO := Lib.hid hgo
      obtain ⟨pa, pb⟩ := p
      simp only at d0 d1
      clear hp hmem hgo
      go_upto_region 5 with fail
      have kt := Bk.new W 51 [.int .i64 pa, .int .i64 pb]
      change Bk (W.alloc (.cells #[.int .i64 pa, .int .i64 pb] 51)) _ _ _ at kt
      have hx2 : Ext W (W.alloc (.cells #[.int .i64 pa, .int .i64 pb] 51)) := (Ext.refl W).alloc _
      generalize (W.alloc (.cells #[.int .i64 pa, .int .i64 pb] 51)) = w2 at *
      have t0 := kt.cell (i := 0) (by simp); have t1 := kt.cell (i := 1) (by simp)
      simp only [List.getElem_cons_zero, List.getElem_cons_succ] at t0 t1
      have hW2 := kt.lt
      have HX2 := Lib.hid (HXR.out.trans hx2)
      have HCA := Lib.hid (miss_any (x := pa) (HKB.out.ext HX2.out)); have HCB := Lib.hid (miss_any (x := pb) (HKB.out.ext HX2.out))
      clear kt hx2 d0 d1 hxr
      go_wp2_with fail
      refine HCA.out.mono ?_
      rintro e w3 ⟨rfl, rfl⟩
      rcases hma : missB a pa with _ | _
      · have HMA := Lib.hid hma
        clear hma
        go_wp2_with fail
        refine HCB.out.mono ?_
        rintro e w3 ⟨rfl, rfl⟩
        rcases hmb : missB a pb with _ | _
        · have HG := Lib.hid (HGO.out (by show (missB a pa || missB a pb) = false; rw [HMA.out, hmb]; rfl))
          clear hmb t0 t1
          go_wp2_with fail
          go_roundw
          case rel => exact ⟨i + 1, by omega, by go_num, HG, HX2.out⟩
          case measure => simp [intOf]; omega
        · have HFA := Lib.hid (HMEM.out (by show (missB a pa || missB a pb) = true; rw [hmb]; simp))
          clear hmb t0 t1
          go_wp2_with fail
          go_ret
          exact Ret.mk (HX.out.trans HX2.out) (by rw [HFA.out]; rfl)
      · have HFA := Lib.hid (HMEM.out (by show (missB a pa || missB a pb) = true; rw [hma]; simp))
        clear hma t0 t1
        go_wp2_with fail
        go_ret
        exact Ret.mk (HX.out.trans HX2.out) (by rw [HFA.out]; rfl)
    · obtain rfl : i = n3 := by omega
      have hdi : ¬ (i : Int) < (i : Int) := by omega
      have HSA : Hid (s.same.any (pairB a) = false) := Lib.hid (by
        have h := HALL.out
        rw [List.take_of_length_le (by have := HL3.out; omega)] at h
        exact h)
      have p4 := (HKA.out.ext hxr).cell (i := 4) (by simp)
      simp only [List.getElem_cons_zero, List.getElem_cons_succ] at p4
      clear hxr
      go_wp2_with fail
      clear p4
      go_loopw [32] (fun t wr => ∃ j : Nat, j ≤ n4 ∧ t = .int .i64 (j : Int) ∧ Hid ((s.fs.take j).any (fun f => missB a f.col) = false) ∧ Ext w1 wr) (fun t _ => n4 - (intOf t).toNat)
      case atStart => exact ⟨0, Nat.zero_le _, rfl, Lib.hid rfl, HXR.out⟩
      case round =>
        obtain ⟨j, hj, rfl, HALF, hxr⟩ := hrel
        obtain ⟨W2, rfl⟩ : ∃ W : World, W = wr := ⟨_, rfl⟩
        have HXF := Lib.hid hxr
        by_cases hlt : j < n4
        · have i1 : (0 : Int) ≤ (j : Int) := by omega
          have i2 : (j : Int) < (n4 : Int) := by omega
          have hix : j < s.fs.length := by have := HL4.out; omega
          obtain ⟨ad, rfl, -, d0, d1, d2, d3, d4⟩ := HF.out.fl hix
          replace d0 := hxr.cell (HX.out.cell d0); replace d1 := hxr.cell (HX.out.cell d1); replace d2 := hxr.cell (HX.out.cell d2); replace d3 := hxr.cell (HX.out.cell d3); replace d4 := hxr.cell (HX.out.cell d4)
          have hmem := List.getElem_mem hix
          have hgo : missB a s.fs[j].col = false → (s.fs.take (j + 1)).any (fun f => missB a f.col) = false := any_take (p := fun f : Fl => missB a f.col) hix HALF.out
          obtain ⟨p, hp⟩ : ∃ p, p = s.fs[j] := ⟨_, rfl⟩
          rw [← hp] at d0 d1 d2 d3 d4 hmem hgo
          have HMEM := Lib.hid (fun h => fits_fs (s := s) (a := a) hmem h); have HGO := Lib.hid hgo
          obtain ⟨pc, po, pk, pi, ps⟩ := p
          simp only at d0 d1 d2 d3 d4
          clear hp hmem hgo
          go_upto_region 11 with fail
          have kt := Bk.new W2 96 [.int .i64 pc, .int .i64 po, .int .i64 pk, .int .i64 pi, .string ps]
          change Bk (W2.alloc (.cells #[.int .i64 pc, .int .i64 po, .int .i64 pk, .int .i64 pi, .string ps] 96)) _ _ _ at kt
          have hx2 : Ext W2 (W2.alloc (.cells #[.int .i64 pc, .int .i64 po, .int .i64 pk, .int .i64 pi, .string ps] 96)) := (Ext.refl W2).alloc _
          generalize (W2.alloc (.cells #[.int .i64 pc, .int .i64 po, .int .i64 pk, .int .i64 pi, .string ps] 96)) = w2 at *
          have t0 := kt.cell (i := 0) (by simp)
          simp only [List.getElem_cons_zero, List.getElem_cons_succ] at t0
          have hW2 := kt.lt
          have HX2 := Lib.hid (HXF.out.trans hx2)
          have HCA := Lib.hid (miss_any (x := pc) (HKB.out.ext HX2.out))
          clear kt hx2 d0 d1 d2 d3 d4 hxr
          go_wp2_with fail
          refine HCA.out.mono ?_
          rintro e w3 ⟨rfl, rfl⟩
          rcases hma : missB a pc with _ | _
          · have HG := Lib.hid (HGO.out hma)
            clear hma t0
            go_wp2_with fail
            go_roundw
            case rel => exact ⟨j + 1, by omega, by go_num, HG, HX2.out⟩
            case measure => simp [intOf]; omega
          · have HFA := Lib.hid (HMEM.out hma)
            clear hma t0
            go_wp2_with fail
            go_ret
            exact Ret.mk (HX.out.trans HX2.out) (by rw [HFA.out]; rfl)
        · obtain rfl : j = n4 := by omega
          have hdj : ¬ (j : Int) < (j : Int) := by omega
          have HSF : Hid (s.fs.any (fun f => missB a f.col) = false) := Lib.hid (by
            have h := HALF.out
            rw [List.take_of_length_le (by have := HL4.out; omega)] at h
            exact h)
          have p1 := (HKA.out.ext hxr).cell (i := 1) (by simp); have p2 := (HKA.out.ext hxr).cell (i := 2) (by simp)
          simp only [List.getElem_cons_zero, List.getElem_cons_succ] at p1 p2
          have HCM := Lib.hid (contains_miss (HKB.out.ext hxr) (HC.out.ext (HX.out.trans hxr)) b2)
          clear hxr
          go_wp2_with fail
          refine HCM.out.mono ?_
          rintro e w3 ⟨x, rfl, he, rfl⟩
          replace p1 := he.cell p1; replace p2 := he.cell p2
          have HX3 := Lib.hid (HX.out.trans (HXF.out.trans he))
          clear he
          rcases hca : s.cols.any (missB a) with _ | _
          · by_cases hvc : n1 = n2
            · have HFB : Hid (fitsB s a = true) := Lib.hid (by
                have h1 : s.vars.length = s.cols.length := by rw [← HV.out, ← HL2.out]; exact hvc
                simp [fitsB, HSA.out, HSF.out, hca, h1])
              have hbe : ((n1 : Int) == (n2 : Int)) = true := by simp; omega
              clear hca hvc
              go_wp2_with fail
              go_ret
              exact Ret.mk HX3.out (by rw [HFB.out]; rfl)
            · have HFB : Hid (fitsB s a = false) := Lib.hid (by
                have h1 : ¬ s.vars.length = s.cols.length := by rw [← HV.out, ← HL2.out]; exact hvc
                simp [fitsB, h1])
              have hbe : ((n1 : Int) == (n2 : Int)) = false := by simp; omega
              clear hca hvc
              go_wp2_with fail
              go_ret
              exact Ret.mk HX3.out (by rw [HFB.out]; rfl)
          · have HFB : Hid (fitsB s a = false) := Lib.hid (by simp [fitsB, hca])
            clear hca
            go_wp2_with fail
            go_ret
            exact Ret.mk HX3.out (by rw [HFB.out]; rfl)
end Go.Proofs.YtmmmdinncmbjkaaGreat
