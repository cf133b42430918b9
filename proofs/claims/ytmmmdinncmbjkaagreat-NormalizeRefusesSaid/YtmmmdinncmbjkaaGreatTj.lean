/- Contracts: selected, where it keeps all; load, on empty relations. -/
import Derived.Test.YtmmmdinncmbjkaaGreatTi
namespace Go.Proofs.YtmmmdinncmbjkaaGreat
open Go.RowKit Go.Maps

set_option maxRecDepth 20000 in
set_option maxHeartbeats 1600000 in
theorem selected_none {w : World} {a : Int} {rl : ByteArray} {A1 A2 A3 A4 A5 R : Option Addr} {n1 n2 n5 n c1 c2 c3 c4 c5 c : Nat} :
    Calls Tryz.prog 51 #[.agg #[.string rl, .slice A1 n1 c1, .slice A2 n2 c2, .slice A3 0 c3, .slice A4 0 c4, .slice A5 n5 c5], .agg #[.int .i64 a, .slice R n c]] w (fun e w' => Ext w w' ∧ e = .returned (.tuple #[.agg #[.int .i64 a, .slice R n c], .int .i64 0])) := by
  have k3 := three_blk w 36 54 54 [.string rl, .slice A1 n1 c1, .slice A2 n2 c2, .slice A3 0 c3, .slice A4 0 c4, .slice A5 n5 c5] [.int .i64 a, .slice R n c] [.int .i64 0, .slice none 0 0]
  change Bk (((w.alloc (.cells #[.string rl, .slice A1 n1 c1, .slice A2 n2 c2, .slice A3 0 c3, .slice A4 0 c4, .slice A5 n5 c5] 36)).alloc (.cells #[.int .i64 a, .slice R n c] 54)).alloc (.cells #[.int .i64 0, .slice none 0 0] 54)) _ _ _ ∧ Bk (((w.alloc (.cells #[.string rl, .slice A1 n1 c1, .slice A2 n2 c2, .slice A3 0 c3, .slice A4 0 c4, .slice A5 n5 c5] 36)).alloc (.cells #[.int .i64 a, .slice R n c] 54)).alloc (.cells #[.int .i64 0, .slice none 0 0] 54)) _ _ _ ∧ Bk (((w.alloc (.cells #[.string rl, .slice A1 n1 c1, .slice A2 n2 c2, .slice A3 0 c3, .slice A4 0 c4, .slice A5 n5 c5] 36)).alloc (.cells #[.int .i64 a, .slice R n c] 54)).alloc (.cells #[.int .i64 0, .slice none 0 0] 54)) _ _ _ at k3
  obtain ⟨v1, hv1⟩ : ∃ v, v = (((w.alloc (.cells #[.string rl, .slice A1 n1 c1, .slice A2 n2 c2, .slice A3 0 c3, .slice A4 0 c4, .slice A5 n5 c5] 36)).alloc (.cells #[.int .i64 a, .slice R n c] 54)).alloc (.cells #[.int .i64 0, .slice none 0 0] 54)) := ⟨_, rfl⟩
  rw [← hv1] at k3
  have hx : Ext w v1 := by rw [hv1]; exact (((Ext.refl w).alloc _).alloc _).alloc _
  go_enter Tryz.func51, Tryz.ntmps51
  go_upto_region 1 with fail
  rw [← hv1]
  clear hv1
  obtain ⟨ka, kb, kc⟩ := k3
  have a3 := ka.cell (i := 3) (by simp); have a4 := ka.cell (i := 4) (by simp); have b0 := kb.cell (i := 0) (by simp); have b1 := kb.cell (i := 1) (by simp); have c0 := kc.cell (i := 0) (by simp); have c1 := kc.cell (i := 1) (by simp)
  simp only [List.getElem_cons_zero, List.getElem_cons_succ] at a3 a4 b0 b1 c0 c1
  have f0 := kc.free 0; have f1 := kc.free 1
  have hlt := kc.lt
  go_wp2_with fail
  go_loopw [14] (fun t wr => t = .int .i64 0 ∧ v1 = wr) (fun _ _ => 0)
  case atStart => exact ⟨rfl, rfl⟩
  case round =>
    obtain ⟨rfl, rfl⟩ := hrel
    go_wp2_with fail
    go_loopw [56] (fun t wr => t = .int .i64 0 ∧ v1 = wr) (fun _ _ => 0)
    case atStart => exact ⟨rfl, rfl⟩
    case round =>
      obtain ⟨rfl, rfl⟩ := hrel
      go_wp2_with fail
      have kz : Bk ((v1.setCell ⟨w.heap.size + 1 + 1, 0, none⟩ (.int .i64 a)).setCell ⟨w.heap.size + 1 + 1, 1, none⟩ (.slice R n c)) (w.heap.size + 1 + 1) 54 [.int .i64 a, .slice R n c] := ((kc).set 0 _).set 1 _
      have hez : Ext w ((v1.setCell ⟨w.heap.size + 1 + 1, 0, none⟩ (.int .i64 a)).setCell ⟨w.heap.size + 1 + 1, 1, none⟩ (.slice R n c)) := ((hx).setCell (p := ⟨w.heap.size + 1 + 1, 0, none⟩) (by show w.heap.size ≤ w.heap.size + 1 + 1; omega) _).setCell (p := ⟨w.heap.size + 1 + 1, 1, none⟩) (by show w.heap.size ≤ w.heap.size + 1 + 1; omega) _
      generalize ((v1.setCell ⟨w.heap.size + 1 + 1, 0, none⟩ (.int .i64 a)).setCell ⟨w.heap.size + 1 + 1, 1, none⟩ (.slice R n c)) = wz at *
      have z0 := kz.cell (i := 0) (by simp); have z1 := kz.cell (i := 1) (by simp)
      simp only [List.getElem_cons_zero, List.getElem_cons_succ] at z0 z1
      exact bodyPost_ret (v := .tuple #[.agg #[.int .i64 a, .slice R n c], .int .i64 0]) (by simp [results, Tryz.results51, go_sem, z0, z1]) rfl ⟨hez, rfl⟩

/-- What load answers on empty relations. -/
def resR (m : Dm) (s : Src) : Except Int Re := match m s.rel with
  | none => .error 7
  | some x => if fitsB s x.rel.ar = false then .error 28 else match s.nots with
    | [] => .ok ⟨(s.cols.length : Int), []⟩
    | y :: _ => .error (if (m y.rel).isSome = true then 28 else 7)
theorem fits_cols {s : Src} {a : Int} (h : fitsB s a = true) : ∀ x ∈ s.cols, missB a x = false := by
  unfold fitsB at h
  simp only [Bool.and_eq_true, Bool.not_eq_true'] at h
  exact fun x hx => List.any_eq_false.1 h.2.2.1 x hx |> fun h => by simpa using h
set_option maxRecDepth 20000 in
set_option maxHeartbeats 3200000 in
theorem load_small {F G : Nat → Prop} {w : World} {b n : Nat} {m : Dm} {s : Src} {v : Value} (hD : DbB F w b n m) (hV : SrcV G w v s) (hs : s.rel.size ≤ maxLen) (b1 : s.vars.length ≤ 32) (b2 : s.cols.length ≤ 32) (b3 : s.same.length ≤ 32) (hfs : s.fs = []) (hsm : ∀ x, m s.rel = some x → fitsB s x.rel.ar = true → s.same = []) (hrw : ∀ x, m s.rel = some x → x.rel.rows = [])
    (hn : s.nots = [] ∨ ∃ y, s.nots = [y] ∧ y.rel.size ≤ maxLen ∧ ∀ x, m y.rel = some x → (y.vars.length : Int) ≠ x.rel.ar) :
    Calls Tryz.prog 31 #[v, .agg #[.map (some b)]] w (LoadPost (resR m s) w) := by
  obtain ⟨A1, c1, A2, c2, A3, c3, A4, c4, A5, c5, rfl, g1, g2, g3, g4, g5⟩ := hV
  have HREL := Lib.hid (fun (V : World) (hV : Ext w V) => relation_any (hD.ext hV) hs)
  have HFITS := Lib.hid (fun (V : World) (hV : Ext w V) (a : Int) => fits_any (rl := s.rel) (A1 := A1) (c1 := c1) (A5 := A5) (n5 := s.nots.length) (c5 := c5) (s := s) (a := a) rfl (g2.ext hV) (g3.ext hV) (g4.ext hV) (by omega) (by omega) (by omega) (by rw [hfs]; simp))
  have HPRJ := Lib.hid (fun (V : World) (hV : Ext w V) (a : Int) (R : Option Addr) (c : Nat) (hf : fitsB s a = true) => project_empty (R := R) (c := c) (g2.ext hV) (by omega) (fits_cols hf))
  have HRES : Hid (resR m s = match m s.rel with
    | none => .error 7
    | some x => if fitsB s x.rel.ar = false then .error 28 else match s.nots with
      | [] => .ok ⟨(s.cols.length : Int), []⟩
      | y :: _ => .error (if (m y.rel).isSome = true then 28 else 7)) := Lib.hid rfl
  have HN := Lib.hid hn; have HSM := Lib.hid hsm; have HRW := Lib.hid hrw; have HD := Lib.hid hD; have HG5 := Lib.hid g5
  obtain ⟨n1, h1⟩ : ∃ k, k = s.vars.length := ⟨_, rfl⟩
  obtain ⟨n2, h2⟩ : ∃ k, k = s.cols.length := ⟨_, rfl⟩
  obtain ⟨n3, h3⟩ : ∃ k, k = s.same.length := ⟨_, rfl⟩
  obtain ⟨n4, h4⟩ : ∃ k, k = s.fs.length := ⟨_, rfl⟩
  obtain ⟨n5, h5⟩ : ∃ k, k = s.nots.length := ⟨_, rfl⟩
  obtain ⟨rl, h0⟩ : ∃ k, k = s.rel := ⟨_, rfl⟩
  rw [← h1, ← h2, ← h3, ← h4, ← h5, ← h0] at HFITS
  rw [← h2] at HPRJ HRES
  rw [← h0] at HREL HSM HRW HRES
  rw [← h1, ← h2, ← h3, ← h4, ← h5, ← h0]
  have H3 := Lib.hid h3; have H5 := Lib.hid h5
  have h40 : n4 = 0 := by rw [h4, hfs]; rfl
  subst h40
  clear hD hs b1 b2 b3 hfs hsm hrw hn g1 g2 g3 g4 g5 h0 h1 h2 h3 h4 h5
  have k3 := three_blk w 36 26 54 [.string rl, .slice A1 n1 c1, .slice A2 n2 c2, .slice A3 n3 c3, .slice A4 0 c4, .slice A5 n5 c5] [.map (some b)] [.int .i64 0, .slice none 0 0]
  change Bk (((w.alloc (.cells #[.string rl, .slice A1 n1 c1, .slice A2 n2 c2, .slice A3 n3 c3, .slice A4 0 c4, .slice A5 n5 c5] 36)).alloc (.cells #[.map (some b)] 26)).alloc (.cells #[.int .i64 0, .slice none 0 0] 54)) _ _ _ ∧ Bk (((w.alloc (.cells #[.string rl, .slice A1 n1 c1, .slice A2 n2 c2, .slice A3 n3 c3, .slice A4 0 c4, .slice A5 n5 c5] 36)).alloc (.cells #[.map (some b)] 26)).alloc (.cells #[.int .i64 0, .slice none 0 0] 54)) _ _ _ ∧ Bk (((w.alloc (.cells #[.string rl, .slice A1 n1 c1, .slice A2 n2 c2, .slice A3 n3 c3, .slice A4 0 c4, .slice A5 n5 c5] 36)).alloc (.cells #[.map (some b)] 26)).alloc (.cells #[.int .i64 0, .slice none 0 0] 54)) _ _ _ at k3
  obtain ⟨v1, hv1⟩ : ∃ v, v = (((w.alloc (.cells #[.string rl, .slice A1 n1 c1, .slice A2 n2 c2, .slice A3 n3 c3, .slice A4 0 c4, .slice A5 n5 c5] 36)).alloc (.cells #[.map (some b)] 26)).alloc (.cells #[.int .i64 0, .slice none 0 0] 54)) := ⟨_, rfl⟩
  rw [← hv1] at k3
  have hx : Ext w v1 := by rw [hv1]; exact (((Ext.refl w).alloc _).alloc _).alloc _
  go_enter Tryz.func31, Tryz.ntmps31
  go_upto_region 1 with fail
  rw [← hv1]
  clear hv1
  obtain ⟨ka, kb, kc⟩ := k3
  have p0 := ka.cell (i := 0) (by simp); have q0 := kb.cell (i := 0) (by simp)
  simp only [List.getElem_cons_zero, List.getElem_cons_succ] at p0 q0
  have HX := Lib.hid hx; have HKA := Lib.hid ka; have HKB := Lib.hid kb; have HKC := Lib.hid kc
  have hlt := kc.lt
  clear ka kb kc
  go_wp2_with fail
  refine (HREL.out _ hx).mono ?_
  rintro e w2 ⟨he2, ⟨hnone, rfl⟩ | ⟨x, A, c, hsome, rfl, -⟩⟩
  · have HKC2 := Lib.hid (HKC.out.ext he2); have HX2 := Lib.hid (HX.out.trans he2)
    have HQ : Hid (resR m s = .error 7) := Lib.hid (by rw [HRES.out, hnone])
    clear he2 hx p0 q0 hnone
    go_upto_region 3 with fail
    have hx3 : Ext w2 (w2.alloc (.cells #[.int .i64 0, .slice none 0 0] 54)) := (Ext.refl w2).alloc _
    generalize (w2.alloc (.cells #[.int .i64 0, .slice none 0 0] 54)) = w3 at *
    have HKC3 := Lib.hid (HKC2.out.ext hx3); have HX3 := Lib.hid (HX2.out.trans hx3)
    clear hx3
    have f0 := HKC3.out.free 0; have f1 := HKC3.out.free 1
    have b0 := HKC3.out.cell (i := 0) (by simp); have b1 := HKC3.out.cell (i := 1) (by simp)
    simp only [List.getElem_cons_zero, List.getElem_cons_succ] at b0 b1
    go_wp2_with fail
    have kz : Bk ((w3.setCell ⟨w.heap.size + 1 + 1, 0, none⟩ (.int .i64 0)).setCell ⟨w.heap.size + 1 + 1, 1, none⟩ (.slice none 0 0)) (w.heap.size + 1 + 1) 54 [.int .i64 0, .slice none 0 0] := ((HKC3.out).set 0 _).set 1 _
    have hez : Ext w ((w3.setCell ⟨w.heap.size + 1 + 1, 0, none⟩ (.int .i64 0)).setCell ⟨w.heap.size + 1 + 1, 1, none⟩ (.slice none 0 0)) := ((HX3.out).setCell (p := ⟨w.heap.size + 1 + 1, 0, none⟩) (by show w.heap.size ≤ w.heap.size + 1 + 1; omega) _).setCell (p := ⟨w.heap.size + 1 + 1, 1, none⟩) (by show w.heap.size ≤ w.heap.size + 1 + 1; omega) _
    generalize ((w3.setCell ⟨w.heap.size + 1 + 1, 0, none⟩ (.int .i64 0)).setCell ⟨w.heap.size + 1 + 1, 1, none⟩ (.slice none 0 0)) = wz at *
    have z0 := kz.cell (i := 0) (by simp); have z1 := kz.cell (i := 1) (by simp)
    simp only [List.getElem_cons_zero, List.getElem_cons_succ] at z0 z1
    exact bodyPost_ret (v := .tuple #[.agg #[.int .i64 0, .slice none 0 0], .int .i64 7]) (by simp [results, Tryz.results31, go_sem, z0, z1]) rfl ⟨hez, .inl ⟨7, HQ.out, by decide, rfl⟩⟩
  · have hrows := HRW.out x hsome
    have HX2 := Lib.hid (HX.out.trans he2); have HKA2 := Lib.hid (HKA.out.ext he2); have HKB2 := Lib.hid (HKB.out.ext he2); have HKC2 := Lib.hid (HKC.out.ext he2)
    have hsm2 := HSM.out x hsome
    have hres2 : resR m s = if fitsB s x.rel.ar = false then .error 28 else match s.nots with
      | [] => .ok ⟨(n2 : Int), []⟩
      | y :: _ => .error (if (m y.rel).isSome = true then 28 else 7) := by rw [HRES.out, hsome]
    rw [hrows]
    obtain ⟨ra, hra⟩ : ∃ a, a = x.rel.ar := ⟨_, rfl⟩
    rw [← hra] at hsm2 hres2
    rw [← hra]
    have HSM2 := Lib.hid hsm2; have HRES2 := Lib.hid hres2
    clear hra hrows hsome hsm2 hres2 he2 hx p0 q0
    go_upto_region 4 with fail
    have kr := Bk.new w2 54 [.int .i64 ra, .slice A 0 c]
    change Bk (w2.alloc (.cells #[.int .i64 ra, .slice A 0 c] 54)) _ _ _ at kr
    have hx3 : Ext w2 (w2.alloc (.cells #[.int .i64 ra, .slice A 0 c] 54)) := (Ext.refl w2).alloc _
    generalize (w2.alloc (.cells #[.int .i64 ra, .slice A 0 c] 54)) = w3 at *
    have HX3 := Lib.hid (HX2.out.trans hx3); have HKA3 := Lib.hid (HKA2.out.ext hx3); have HKB3 := Lib.hid (HKB2.out.ext hx3); have HKC3 := Lib.hid (HKC2.out.ext hx3); have HKR := Lib.hid kr
    clear hx3 kr
    have r0 := HKR.out.cell (i := 0) (by simp); have r1 := HKR.out.cell (i := 1) (by simp)
    have a0 := HKA3.out.cell (i := 0) (by simp); have a1 := HKA3.out.cell (i := 1) (by simp); have a2 := HKA3.out.cell (i := 2) (by simp); have a3 := HKA3.out.cell (i := 3) (by simp); have a4 := HKA3.out.cell (i := 4) (by simp); have a5 := HKA3.out.cell (i := 5) (by simp)
    simp only [List.getElem_cons_zero, List.getElem_cons_succ] at r0 r1 a0 a1 a2 a3 a4 a5
    have HF := Lib.hid (fun (V : World) (hV : Ext w3 V) => HFITS.out V (HX3.out.trans hV) ra)
    go_region_held3 (fun V => Ext w3 V ∧ V.cell? ⟨w2.heap.size, 0, none⟩ = some (.int .i64 ra) ∧ V.cell? ⟨w2.heap.size, 1, none⟩ = some (.slice A 0 c) ∧ V.cell? ⟨w.heap.size, 0, none⟩ = some (.string rl) ∧ V.cell? ⟨w.heap.size, 1, none⟩ = some (.slice A1 n1 c1) ∧ V.cell? ⟨w.heap.size, 2, none⟩ = some (.slice A2 n2 c2) ∧ V.cell? ⟨w.heap.size, 3, none⟩ = some (.slice A3 n3 c3) ∧ V.cell? ⟨w.heap.size, 4, none⟩ = some (.slice A4 0 c4) ∧ V.cell? ⟨w.heap.size, 5, none⟩ = some (.slice A5 n5 c5))
      ((refine (fun he => ⟨he, Ext.cell he r0, Ext.cell he r1, Ext.cell he a0, Ext.cell he a1, Ext.cell he a2, Ext.cell he a3, Ext.cell he a4, Ext.cell he a5⟩) ?_; repeat (first | exact Ext.refl _ | exact (Ext.refl _).drew | refine Ext.drew ?_ | refine Ext.trans ?_ (by assumption))))
      (first
        | (go_at_call 11; (with_reducible refine arity_any.mono ?_); rintro e wi ⟨yv, rfl, hei, rfl⟩)
        | (go_at_call 49; (with_reducible refine (HF.out _ (And.left (by assumption))).mono ?_); rintro e wi ⟨yv, rfl, hei, rfl⟩))
    have hfin := And.left (b := _ ∧ _) (by assumption)
    obtain ⟨X, rfl⟩ : ∃ X : World, X = wi := ⟨_, rfl⟩
    have HX4 := Lib.hid (HX3.out.trans hfin); have HKA4 := Lib.hid (HKA3.out.ext hfin); have HKB4 := Lib.hid (HKB3.out.ext hfin); have HKC4 := Lib.hid (HKC3.out.ext hfin); have HKR4 := Lib.hid (HKR.out.ext hfin)
    have hltX : w.heap.size + 1 + 1 < X.heap.size := HKC4.out.lt
    have hltR : w.heap.size + 1 + 1 < w2.heap.size := HKC2.out.lt
    have hltR4 : w2.heap.size < X.heap.size := HKR4.out.lt
    clear hfin hei r0 r1 a0 a1 a2 a3 a4 a5
    rcases hf : fitsB s ra with _ | _
    · have HQ : Hid (resR m s = .error 28) := Lib.hid (by rw [HRES2.out, if_pos hf])
      clear hf
      have f0 := HKC4.out.free 0; have f1 := HKC4.out.free 1
      have b0 := HKC4.out.cell (i := 0) (by simp); have b1 := HKC4.out.cell (i := 1) (by simp)
      simp only [List.getElem_cons_zero, List.getElem_cons_succ] at b0 b1
      go_wp2_with fail
      have kz : Bk ((X.setCell ⟨w.heap.size + 1 + 1, 0, none⟩ (.int .i64 0)).setCell ⟨w.heap.size + 1 + 1, 1, none⟩ (.slice none 0 0)) (w.heap.size + 1 + 1) 54 [.int .i64 0, .slice none 0 0] := ((HKC4.out).set 0 _).set 1 _
      have hez : Ext w ((X.setCell ⟨w.heap.size + 1 + 1, 0, none⟩ (.int .i64 0)).setCell ⟨w.heap.size + 1 + 1, 1, none⟩ (.slice none 0 0)) := ((HX4.out).setCell (p := ⟨w.heap.size + 1 + 1, 0, none⟩) (by show w.heap.size ≤ w.heap.size + 1 + 1; omega) _).setCell (p := ⟨w.heap.size + 1 + 1, 1, none⟩) (by show w.heap.size ≤ w.heap.size + 1 + 1; omega) _
      generalize ((X.setCell ⟨w.heap.size + 1 + 1, 0, none⟩ (.int .i64 0)).setCell ⟨w.heap.size + 1 + 1, 1, none⟩ (.slice none 0 0)) = wz at *
      have z0 := kz.cell (i := 0) (by simp); have z1 := kz.cell (i := 1) (by simp)
      simp only [List.getElem_cons_zero, List.getElem_cons_succ] at z0 z1
      exact bodyPost_ret (v := .tuple #[.agg #[.int .i64 0, .slice none 0 0], .int .i64 28]) (by simp [results, Tryz.results31, go_sem, z0, z1]) rfl ⟨hez, .inl ⟨28, HQ.out, by decide, rfl⟩⟩
    · have HF1 := Lib.hid hf
      have HQ0 : Hid (resR m s = match s.nots with
        | [] => .ok ⟨(n2 : Int), []⟩
        | y :: _ => .error (if (m y.rel).isSome = true then 28 else 7)) := Lib.hid (by rw [HRES2.out, if_neg (by rw [hf]; simp)])
      have h30 : n3 = 0 := by rw [H3.out, HSM2.out hf]; rfl
      subst h30
      clear hf
      have a5 := HKA4.out.cell (i := 5) (by simp)
      simp only [List.getElem_cons_zero, List.getElem_cons_succ] at a5
      go_wp2_with fail
      clear a5
      go_loopw [8, 33] (fun u t wr => u = .slice none 0 0 ∧ t = .int .i64 0 ∧ X = wr) (fun _ _ _ => 0)
      case atStart => exact ⟨rfl, rfl, rfl⟩
      case round =>
        obtain ⟨rfl, rfl, rfl⟩ := hrel
        rcases HN.out with hn | ⟨y, hn, hys, hya⟩
        · have h50 : n5 = 0 := by rw [H5.out, hn]; rfl
          subst h50
          have HQ : Hid (resR m s = .ok ⟨(n2 : Int), []⟩) := Lib.hid (by rw [HQ0.out, hn])
          clear hn
          have r0 := HKR4.out.cell (i := 0) (by simp); have r1 := HKR4.out.cell (i := 1) (by simp)
          have a0 := HKA4.out.cell (i := 0) (by simp); have a1 := HKA4.out.cell (i := 1) (by simp); have a2 := HKA4.out.cell (i := 2) (by simp); have a3 := HKA4.out.cell (i := 3) (by simp); have a4 := HKA4.out.cell (i := 4) (by simp); have a5 := HKA4.out.cell (i := 5) (by simp)
          simp only [List.getElem_cons_zero, List.getElem_cons_succ] at r0 r1 a0 a1 a2 a3 a4 a5
          go_wp2_with fail
          refine selected_none.mono ?_
          rintro e w5 ⟨he5, rfl⟩
          have HX5 := Lib.hid (HX4.out.trans he5); have HKA5 := Lib.hid (HKA4.out.ext he5); have HKC5 := Lib.hid (HKC4.out.ext he5); have HKR5 := Lib.hid (HKR4.out.ext he5)
          have hw5 : X.heap.size ≤ w5.heap.size := he5.size
          clear he5 r0 r1 a0 a1 a2 a3 a4 a5
          have r0 := HKR5.out.cell (i := 0) (by simp); have r1 := HKR5.out.cell (i := 1) (by simp); have rf0 := HKR5.out.free 0; have rf1 := HKR5.out.free 1
          simp only [List.getElem_cons_zero, List.getElem_cons_succ] at r0 r1
          go_upto_region 16 with fail
          have hs6 : Fr (fun k => k = w2.heap.size) w5 ((w5.setCell ⟨w2.heap.size, 0, none⟩ (.int .i64 ra)).setCell ⟨w2.heap.size, 1, none⟩ (.slice A 0 c)) := ((Fr.refl (fun k => k = w2.heap.size) w5).setCell (p := ⟨w2.heap.size, 0, none⟩) (.inl rfl) _).setCell (p := ⟨w2.heap.size, 1, none⟩) (.inl rfl) _
          have kr6 : Bk ((w5.setCell ⟨w2.heap.size, 0, none⟩ (.int .i64 ra)).setCell ⟨w2.heap.size, 1, none⟩ (.slice A 0 c)) w2.heap.size 54 [.int .i64 ra, .slice A 0 c] := (HKR5.out.set 0 _).set 1 _
          generalize ((w5.setCell ⟨w2.heap.size, 0, none⟩ (.int .i64 ra)).setCell ⟨w2.heap.size, 1, none⟩ (.slice A 0 c)) = w6 at *
          have HX6 := Lib.hid (Fr.new HX5.out hs6 (fun k hk => by omega)); have HKA6 := Lib.hid (HKA5.out.fr hs6 (by omega)); have HKC6 := Lib.hid (HKC5.out.fr hs6 (by omega)); have HKR6 := Lib.hid kr6
          have hw6 : w5.heap.size ≤ w6.heap.size := hs6.size
          clear hs6 kr6 r0 r1 rf0 rf1
          have r0 := HKR6.out.cell (i := 0) (by simp); have r1 := HKR6.out.cell (i := 1) (by simp)
          have a2 := HKA6.out.cell (i := 2) (by simp)
          simp only [List.getElem_cons_zero, List.getElem_cons_succ] at r0 r1 a2
          go_wp2_with fail
          refine (HPRJ.out _ HX6.out ra A c HF1.out).mono ?_
          rintro e w7 ⟨he7, A7, c7, rfl⟩
          have HX7 := Lib.hid (HX6.out.trans he7); have HKC7 := Lib.hid (HKC6.out.ext he7); have HKR7 := Lib.hid (HKR6.out.ext he7)
          have hw7 : w6.heap.size ≤ w7.heap.size := he7.size
          clear he7 r0 r1 a2
          have r0 := HKR7.out.cell (i := 0) (by simp); have r1 := HKR7.out.cell (i := 1) (by simp); have rf0 := HKR7.out.free 0; have rf1 := HKR7.out.free 1
          simp only [List.getElem_cons_zero, List.getElem_cons_succ] at r0 r1
          go_upto_region 19 with fail
          have hs8 : Fr (fun k => k = w2.heap.size) w7 ((w7.setCell ⟨w2.heap.size, 0, none⟩ (.int .i64 (n2 : Int))).setCell ⟨w2.heap.size, 1, none⟩ (.slice A7 0 c7)) := ((Fr.refl (fun k => k = w2.heap.size) w7).setCell (p := ⟨w2.heap.size, 0, none⟩) (.inl rfl) _).setCell (p := ⟨w2.heap.size, 1, none⟩) (.inl rfl) _
          have kr8 : Bk ((w7.setCell ⟨w2.heap.size, 0, none⟩ (.int .i64 (n2 : Int))).setCell ⟨w2.heap.size, 1, none⟩ (.slice A7 0 c7)) w2.heap.size 54 [.int .i64 (n2 : Int), .slice A7 0 c7] := (HKR7.out.set 0 _).set 1 _
          generalize ((w7.setCell ⟨w2.heap.size, 0, none⟩ (.int .i64 (n2 : Int))).setCell ⟨w2.heap.size, 1, none⟩ (.slice A7 0 c7)) = w8 at *
          have HX8 := Lib.hid (Fr.new HX7.out hs8 (fun k hk => by omega)); have HKC8 := Lib.hid (HKC7.out.fr hs8 (by omega)); have HKR8 := Lib.hid kr8
          have hw8 : w7.heap.size ≤ w8.heap.size := hs8.size
          clear hs8 kr8 r0 r1 rf0 rf1
          have r0 := HKR8.out.cell (i := 0) (by simp); have r1 := HKR8.out.cell (i := 1) (by simp)
          simp only [List.getElem_cons_zero, List.getElem_cons_succ] at r0 r1
          go_wp2_with fail
          refine remaining_nil.mono ?_
          rintro e w9 ⟨he9, rfl⟩
          have HX9 := Lib.hid (HX8.out.trans he9); have HKC9 := Lib.hid (HKC8.out.ext he9)
          have hw9 : w8.heap.size ≤ w9.heap.size := he9.size
          clear he9 r0 r1
          have f0 := HKC9.out.free 0; have f1 := HKC9.out.free 1
          have b0 := HKC9.out.cell (i := 0) (by simp); have b1 := HKC9.out.cell (i := 1) (by simp)
          simp only [List.getElem_cons_zero, List.getElem_cons_succ] at b0 b1
          go_wp2_with fail
          have kz : Bk ((w9.setCell ⟨w.heap.size + 1 + 1, 0, none⟩ (.int .i64 (n2 : Int))).setCell ⟨w.heap.size + 1 + 1, 1, none⟩ (.slice A7 0 c7)) (w.heap.size + 1 + 1) 54 [.int .i64 (n2 : Int), .slice A7 0 c7] := ((HKC9.out).set 0 _).set 1 _
          have hez : Ext w ((w9.setCell ⟨w.heap.size + 1 + 1, 0, none⟩ (.int .i64 (n2 : Int))).setCell ⟨w.heap.size + 1 + 1, 1, none⟩ (.slice A7 0 c7)) := ((HX9.out).setCell (p := ⟨w.heap.size + 1 + 1, 0, none⟩) (by show w.heap.size ≤ w.heap.size + 1 + 1; omega) _).setCell (p := ⟨w.heap.size + 1 + 1, 1, none⟩) (by show w.heap.size ≤ w.heap.size + 1 + 1; omega) _
          generalize ((w9.setCell ⟨w.heap.size + 1 + 1, 0, none⟩ (.int .i64 (n2 : Int))).setCell ⟨w.heap.size + 1 + 1, 1, none⟩ (.slice A7 0 c7)) = wz at *
          have z0 := kz.cell (i := 0) (by simp); have z1 := kz.cell (i := 1) (by simp)
          simp only [List.getElem_cons_zero, List.getElem_cons_succ] at z0 z1
          exact bodyPost_ret (v := .tuple #[.agg #[.int .i64 (n2 : Int), .slice A7 0 c7], .int .i64 0]) (by simp [results, Tryz.results31, go_sem, z0, z1]) rfl ⟨hez, .inr ⟨⟨(n2 : Int), []⟩, A7, 0, c7, HQ.out, rfl, ⟨A7, c7, rfl, Nat.zero_le _, fun i hi => by simp at hi⟩⟩⟩
        · have h51 : n5 = 1 := by rw [H5.out, hn]; rfl
          subst h51
          have HQ : Hid (resR m s = .error (if (m y.rel).isSome = true then 28 else 7)) := Lib.hid (by rw [HQ0.out, hn])
          have hg := HG5.out
          rw [hn] at hg
          obtain ⟨ad, B1, d1, B2, d2, rfl, -, e0, e1, e2, -, -⟩ := hg.nt (i := 0) (by simp)
          have HEX := Lib.hid (fun (V : World) (hV : Ext w V) => exclude_no (rl := rl) (A1 := A1) (n1 := n1) (c1 := c1) (A2 := A2) (n2 := n2) (c2 := c2) (A3 := A3) (n3 := 0) (c3 := c3) (A4 := A4) (n4 := 0) (c4 := c4) (A5 := some ad) (n5 := 1) (c5 := c5) (B1 := B1) (m1 := y.vars.length) (d1 := d1) (B2 := B2) (m2 := y.cs.length) (d2 := d2) (HD.out.ext hV) hys hya)
          obtain ⟨er, her⟩ : ∃ c : Int, c = if (m y.rel).isSome = true then 28 else 7 := ⟨_, rfl⟩
          have her0 : er ≠ 0 := by rw [her]; split <;> decide
          have hb : (er != 0) = true := by rw [bne_iff_ne]; exact her0
          have HER0 := Lib.hid her0
          rw [← her] at HEX HQ
          simp only [List.getElem_cons_zero] at e0 e1 e2
          obtain ⟨yl, hyl⟩ : ∃ l, l = y.rel := ⟨_, rfl⟩
          obtain ⟨m1, hm1⟩ : ∃ l, l = y.vars.length := ⟨_, rfl⟩
          obtain ⟨m2, hm2⟩ : ∃ l, l = y.cs.length := ⟨_, rfl⟩
          rw [← hyl] at e0 HEX
          rw [← hm1] at e1 HEX
          rw [← hm2] at e2 HEX
          replace e0 := HX4.out.cell e0; replace e1 := HX4.out.cell e1; replace e2 := HX4.out.cell e2
          have e0' : X.cell? ad = some (.string yl) := by simpa [Addr.add] using e0
          have e1' : X.cell? ⟨ad.block, ad.off + 1, none⟩ = some (.slice B1 m1 d1) := by simpa [Addr.add] using e1
          have e2' : X.cell? ⟨ad.block, ad.off + 2, none⟩ = some (.slice B2 m2 d2) := by simpa [Addr.add] using e2
          clear hn hg hys hya her her0 hyl hm1 hm2 e0 e1 e2
          go_upto_region 10 with fail
          have kn := Bk.new X 50 [.string yl, .slice B1 m1 d1, .slice B2 m2 d2]
          change Bk (X.alloc (.cells #[.string yl, .slice B1 m1 d1, .slice B2 m2 d2] 50)) _ _ _ at kn
          have hx5 : Ext X (X.alloc (.cells #[.string yl, .slice B1 m1 d1, .slice B2 m2 d2] 50)) := (Ext.refl X).alloc _
          generalize (X.alloc (.cells #[.string yl, .slice B1 m1 d1, .slice B2 m2 d2] 50)) = w5 at *
          have HX5 := Lib.hid (HX4.out.trans hx5); have HKA5 := Lib.hid (HKA4.out.ext hx5); have HKB5 := Lib.hid (HKB4.out.ext hx5); have HKC5 := Lib.hid (HKC4.out.ext hx5)
          have y0 := kn.cell (i := 0) (by simp); have y1 := kn.cell (i := 1) (by simp); have y2 := kn.cell (i := 2) (by simp)
          have a0 := HKA5.out.cell (i := 0) (by simp); have a1 := HKA5.out.cell (i := 1) (by simp); have a2 := HKA5.out.cell (i := 2) (by simp); have a3 := HKA5.out.cell (i := 3) (by simp); have a4 := HKA5.out.cell (i := 4) (by simp); have a5 := HKA5.out.cell (i := 5) (by simp); have q0 := HKB5.out.cell (i := 0) (by simp)
          simp only [List.getElem_cons_zero, List.getElem_cons_succ] at y0 y1 y2 a0 a1 a2 a3 a4 a5 q0
          clear kn hx5 e0' e1' e2'
          go_wp2_with fail
          refine (HEX.out _ HX5.out).mono ?_
          rintro e w6 ⟨he6, rfl⟩
          have HX6 := Lib.hid (HX5.out.trans he6); have HKC6 := Lib.hid (HKC5.out.ext he6)
          clear he6 y0 y1 y2 a0 a1 a2 a3 a4 a5 q0
          go_upto_region 11 with fail
          have hx7 : Ext w6 (w6.alloc (.cells #[.int .i64 0, .slice none 0 0, .slice none 0 0, .slice none 0 0] 149)) := (Ext.refl w6).alloc _
          generalize (w6.alloc (.cells #[.int .i64 0, .slice none 0 0, .slice none 0 0, .slice none 0 0] 149)) = w7 at *
          have HX7 := Lib.hid (HX6.out.trans hx7); have HKC7 := Lib.hid (HKC6.out.ext hx7)
          clear hx7
          have hlt7 : w.heap.size + 1 + 1 < w7.heap.size := HKC7.out.lt
          have f0 := HKC7.out.free 0; have f1 := HKC7.out.free 1
          have b0 := HKC7.out.cell (i := 0) (by simp); have b1 := HKC7.out.cell (i := 1) (by simp)
          simp only [List.getElem_cons_zero, List.getElem_cons_succ] at b0 b1
          go_wp2_with fail
          have kz : Bk ((w7.setCell ⟨w.heap.size + 1 + 1, 0, none⟩ (.int .i64 0)).setCell ⟨w.heap.size + 1 + 1, 1, none⟩ (.slice none 0 0)) (w.heap.size + 1 + 1) 54 [.int .i64 0, .slice none 0 0] := ((HKC7.out).set 0 _).set 1 _
          have hez : Ext w ((w7.setCell ⟨w.heap.size + 1 + 1, 0, none⟩ (.int .i64 0)).setCell ⟨w.heap.size + 1 + 1, 1, none⟩ (.slice none 0 0)) := ((HX7.out).setCell (p := ⟨w.heap.size + 1 + 1, 0, none⟩) (by show w.heap.size ≤ w.heap.size + 1 + 1; omega) _).setCell (p := ⟨w.heap.size + 1 + 1, 1, none⟩) (by show w.heap.size ≤ w.heap.size + 1 + 1; omega) _
          generalize ((w7.setCell ⟨w.heap.size + 1 + 1, 0, none⟩ (.int .i64 0)).setCell ⟨w.heap.size + 1 + 1, 1, none⟩ (.slice none 0 0)) = wz at *
          have z0 := kz.cell (i := 0) (by simp); have z1 := kz.cell (i := 1) (by simp)
          simp only [List.getElem_cons_zero, List.getElem_cons_succ] at z0 z1
          exact bodyPost_ret (v := .tuple #[.agg #[.int .i64 0, .slice none 0 0], .int .i64 er]) (by simp [results, Tryz.results31, go_sem, z0, z1]) rfl ⟨hez, .inl ⟨er, HQ.out, HER0.out, rfl⟩⟩
end Go.Proofs.YtmmmdinncmbjkaaGreat
