/- Contracts: normalize.selected. Contracts: exclusion.excludes. Contracts: relation.Of. Contracts: the exclusions of a row. -/
import Derived.Test.YtmmmdinncmbjkaaGreatMf34
namespace Go.Proofs.YtmmmdinncmbjkaaGreat
open Go.RowKit Go.Maps
/-- The rows for which a filter holds. -/
def filR (rows : List (List Vl)) (f : Fl) : List (List Vl) := rows.filter (fun x => holdI f.op (cmpV (x.getD f.col.toNat ⟨0, 0, ⟨#[]⟩⟩) ⟨f.kind, f.int, f.str⟩))
/-- The rows for which two columns are equal. -/
def samR (rows : List (List Vl)) (p : Pi) : List (List Vl) := rows.filter (fun x => cmpV (x.getD p.a.toNat ⟨0, 0, ⟨#[]⟩⟩) (x.getD p.b.toNat ⟨0, 0, ⟨#[]⟩⟩) == 0)
/-- The rows of a relation that a source takes. -/
def selR (s : Src) (rows : List (List Vl)) : List (List Vl) := s.same.foldl samR (s.fs.foldl filR rows)
theorem filR_sub {rows : List (List Vl)} {l : List Fl} : ∀ x ∈ l.foldl filR rows, x ∈ rows := by
  induction l generalizing rows with
  | nil => exact fun x h => h
  | cons f l ih => exact fun x h => (List.mem_filter.1 (ih (rows := filR rows f) x h)).1
theorem samR_sub {rows : List (List Vl)} {l : List Pi} : ∀ x ∈ l.foldl samR rows, x ∈ rows := by
  induction l generalizing rows with
  | nil => exact fun x h => h
  | cons f l ih => exact fun x h => (List.mem_filter.1 (ih (rows := samR rows f) x h)).1
theorem filR_len {rows : List (List Vl)} {l : List Fl} : (l.foldl filR rows).length ≤ rows.length := by
  induction l generalizing rows with
  | nil => exact Nat.le_refl _
  | cons f l ih => exact Nat.le_trans (ih (rows := filR rows f)) (List.length_filter_le _ _)
theorem samR_len {rows : List (List Vl)} {l : List Pi} : (l.foldl samR rows).length ≤ rows.length := by
  induction l generalizing rows with
  | nil => exact Nat.le_refl _
  | cons f l ih => exact Nat.le_trans (ih (rows := samR rows f)) (List.length_filter_le _ _)
theorem fold_take {α β : Type} {f : β → α → β} {b : β} {l : List α} {i : Nat} (hi : i < l.length) : (l.take (i + 1)).foldl f b = f ((l.take i).foldl f b) l[i] := by
  rw [List.take_succ_eq_append_getElem hi, List.foldl_append]; rfl
set_option maxRecDepth 20000 in
set_option maxHeartbeats 6400000 in
theorem selected_any {F G : Nat → Prop} {w : World} {rl : ByteArray} {A1 A2 A3 A4 A5 R : Option Addr} {n1 n2 n3 n4 n5 c1 c2 c3 c4 c5 nr cr : Nat} {s : Src} {a : Int} {rows : List (List Vl)} (hs : Sl rdPi G w (.slice A3 n3 c3) s.same) (hf : Sl rdFl G w (.slice A4 n4 c4) s.fs) (hR : Sl rdRow F w (.slice R nr cr) rows) (b3 : n3 ≤ 1048576) (b4 : n4 ≤ 1048576) (br : nr ≤ 1048576) (ha2 : a ≤ 1048576)
    (hrow : ∀ x ∈ rows, (x.length : Int) = a ∧ ∀ v ∈ x, okV v = true) (hfl : ∀ f ∈ s.fs, (0 ≤ f.col ∧ f.col < a) ∧ (0 ≤ f.op ∧ f.op ≤ 5) ∧ okV ⟨f.kind, f.int, f.str⟩ = true ∧ f.str.size ≤ maxLen) (hsa : ∀ p ∈ s.same, (0 ≤ p.a ∧ p.a < a) ∧ 0 ≤ p.b ∧ p.b < a) :
    Calls Tryz.prog 51 #[.agg #[.string rl, .slice A1 n1 c1, .slice A2 n2 c2, .slice A3 n3 c3, .slice A4 n4 c4, .slice A5 n5 c5], .agg #[.int .i64 a, .slice R nr cr]] w (RelOk (fun k => F k ∨ w.heap.size ≤ k) a (selR s rows) w) := by
  have HL3 := Lib.hid hs.cap.1; have HL4 := Lib.hid hf.cap.1; have hlr := hR.cap.1
  have HLR := Lib.hid hlr
  have HS := Lib.hid hs; have HF := Lib.hid hf; have HROW := Lib.hid hrow; have HFL := Lib.hid hfl; have HSA := Lib.hid hsa
  have hR' := hR.mono (G := fun k => F k ∧ k < w.heap.size) (by decide) (fun k hk hf => ⟨hf, hk⟩)
  have HR := Lib.hid hR'
  obtain ⟨rows2, hrows2⟩ : ∃ z, z = selR s rows := ⟨_, rfl⟩
  rw [← hrows2]
  have HRES := Lib.hid hrows2
  have k3 := three_blk w 36 54 54 [.string rl, .slice A1 n1 c1, .slice A2 n2 c2, .slice A3 n3 c3, .slice A4 n4 c4, .slice A5 n5 c5] [.int .i64 a, .slice R nr cr] [.int .i64 0, .slice none 0 0]
  have hx : Ext w (((w.alloc (.cells #[.string rl, .slice A1 n1 c1, .slice A2 n2 c2, .slice A3 n3 c3, .slice A4 n4 c4, .slice A5 n5 c5] 36)).alloc (.cells #[.int .i64 a, .slice R nr cr] 54)).alloc (.cells #[.int .i64 0, .slice none 0 0] 54)) := (((Ext.refl w).alloc _).alloc _).alloc _
  clear hs hf hR hR' hrow hfl hsa hrows2 hlr
  go_enter Tryz.func51, Tryz.ntmps51
  go_upto_region 1 with fail
  change Bk (((w.alloc (.cells #[.string rl, .slice A1 n1 c1, .slice A2 n2 c2, .slice A3 n3 c3, .slice A4 n4 c4, .slice A5 n5 c5] 36)).alloc (.cells #[.int .i64 a, .slice R nr cr] 54)).alloc (.cells #[.int .i64 0, .slice none 0 0] 54)) _ _ _ ∧ Bk (((w.alloc (.cells #[.string rl, .slice A1 n1 c1, .slice A2 n2 c2, .slice A3 n3 c3, .slice A4 n4 c4, .slice A5 n5 c5] 36)).alloc (.cells #[.int .i64 a, .slice R nr cr] 54)).alloc (.cells #[.int .i64 0, .slice none 0 0] 54)) _ _ _ ∧ Bk (((w.alloc (.cells #[.string rl, .slice A1 n1 c1, .slice A2 n2 c2, .slice A3 n3 c3, .slice A4 n4 c4, .slice A5 n5 c5] 36)).alloc (.cells #[.int .i64 a, .slice R nr cr] 54)).alloc (.cells #[.int .i64 0, .slice none 0 0] 54)) _ _ _ at k3
  generalize (((w.alloc (.cells #[.string rl, .slice A1 n1 c1, .slice A2 n2 c2, .slice A3 n3 c3, .slice A4 n4 c4, .slice A5 n5 c5] 36)).alloc (.cells #[.int .i64 a, .slice R nr cr] 54)).alloc (.cells #[.int .i64 0, .slice none 0 0] 54)) = w1 at *
  obtain ⟨ka, kb, kc⟩ := k3
  have p4 := ka.cell (i := 4) (by simp)
  simp only [List.getElem_cons_zero, List.getElem_cons_succ] at p4
  have hlt1 : w.heap.size + 1 + 1 < w1.heap.size := kc.lt
  have HX := Lib.hid hx; have HKA := Lib.hid ka; have HKB := Lib.hid kb; have HKC := Lib.hid kc
  clear ka kb kc hx
  go_wp2_with fail
  clear p4
  go_loopw [14] (fun t wr => ∃ (i n c : Nat) (A : Option Addr), i ≤ n4 ∧ t = .int .i64 (i : Int) ∧ Hid (Ext w wr) ∧ Hid (Fr (fun k => k = w.heap.size + 1) w1 wr) ∧ Hid (Bk wr (w.heap.size + 1) 54 [.int .i64 a, .slice A n c]) ∧ Hid (Sl rdRow (fun k => (F k ∧ k < w.heap.size) ∨ w1.heap.size ≤ k) wr (.slice A n c) ((s.fs.take i).foldl filR rows))) (fun t _ => n4 - (intOf t).toNat)
  case atStart => exact ⟨0, nr, cr, R, Nat.zero_le _, rfl, HX, Lib.hid (Fr.refl _ _), HKB, Lib.hid ((HR.out.ext HX.out).mono (by decide) (fun k _ hk => .inl hk))⟩
  case round =>
    obtain ⟨i, n, c, A, hi, rfl, HXI, HFI, HKI, HSI⟩ := hrel
    obtain ⟨W, rfl⟩ : ∃ W : World, W = wr := ⟨_, rfl⟩
    have hsz : w1.heap.size ≤ W.heap.size := HFI.out.size
    by_cases hlt : i < n4
    · have i1 : (0 : Int) ≤ (i : Int) := by omega
      have i2 : (i : Int) < (n4 : Int) := by omega
      have hix : i < s.fs.length := by have := HL4.out; omega
      obtain ⟨ad, rfl, -, d0, d1, d2, d3, d4⟩ := HF.out.fl hix
      replace d0 := HXI.out.cell d0; replace d1 := HXI.out.cell d1; replace d2 := HXI.out.cell d2; replace d3 := HXI.out.cell d3; replace d4 := HXI.out.cell d4
      obtain ⟨z1, ⟨z3, z4⟩, z5, z6⟩ := HFL.out _ (List.getElem_mem hix)
      obtain ⟨z1, z2⟩ := z1
      have hft := fold_take (f := filR) (b := rows) hix
      obtain ⟨p, hp⟩ : ∃ p, p = s.fs[i] := ⟨_, rfl⟩
      rw [← hp] at d0 d1 d2 d3 d4 z1 z2 z3 z4 z5 z6 hft
      obtain ⟨pc, po, pk, pi, ps⟩ := p
      simp only at d0 d1 d2 d3 d4 z1 z2 z3 z4 z5 z6
      obtain ⟨pn, rfl⟩ : ∃ pn : Nat, pc = (pn : Int) := ⟨pc.toNat, by omega⟩
      have HFT := Lib.hid hft
      have g0 : ¬ po < 0 := by omega
      have g5 : ¬ 5 < po := by omega
      have g0' : decide (po < 0) = false := decide_eq_false g0
      have g5' : decide ((5 : Int) < po) = false := decide_eq_false g5
      have hvb : valB pk pi ps = true := z5
      clear hp hft
      go_upto_region 5 with fail
      have kt := Bk.new W 96 [.int .i64 (pn : Int), .int .i64 po, .int .i64 pk, .int .i64 pi, .string ps]
      change Bk (W.alloc (.cells #[.int .i64 (pn : Int), .int .i64 po, .int .i64 pk, .int .i64 pi, .string ps] 96)) _ _ _ at kt
      have hx2 : Ext W (W.alloc (.cells #[.int .i64 (pn : Int), .int .i64 po, .int .i64 pk, .int .i64 pi, .string ps] 96)) := (Ext.refl W).alloc _
      generalize (W.alloc (.cells #[.int .i64 (pn : Int), .int .i64 po, .int .i64 pk, .int .i64 pi, .string ps] 96)) = w2 at *
      have HKT := Lib.hid kt; have HX2 := Lib.hid hx2
      have t0 := kt.cell (i := 0) (by simp); have t1 := kt.cell (i := 1) (by simp); have t2 := kt.cell (i := 2) (by simp); have t3 := kt.cell (i := 3) (by simp); have t4 := kt.cell (i := 4) (by simp)
      simp only [List.getElem_cons_zero, List.getElem_cons_succ] at t0 t1 t2 t3 t4
      clear kt hx2 d0 d1 d2 d3 d4
      go_wp2_with fail
      refine (vvalid_any pk pi ps _ z6).mono ?_
      rintro e w3 ⟨x, rfl, he3, rfl⟩
      rw [hvb]
      have HX3 := Lib.hid (HX2.out.trans he3)
      replace t0 := he3.cell t0; replace t1 := he3.cell t1; replace t2 := he3.cell t2; replace t3 := he3.cell t3; replace t4 := he3.cell t4
      have r0 := (HKI.out.ext HX3.out).cell (i := 0) (by simp); have r1 := (HKI.out.ext HX3.out).cell (i := 1) (by simp)
      simp only [List.getElem_cons_zero, List.getElem_cons_succ] at r0 r1
      have hs3 := HX3.out.size
      have HSEL := Lib.hid (select_any (a := a) (HSI.out.ext HX3.out) (by have := HSI.out.cap.1; have := HLR.out; have := filR_len (rows := rows) (l := s.fs.take i); omega) (fun x hx => by
        have := (HROW.out x (filR_sub x hx)).1; omega) (fun x hx => by
        have h1 := HROW.out x (filR_sub x hx)
        exact ⟨by omega, h1.2 _ (List.getElem_mem _)⟩) z2 z3 z4 z5)
      clear he3
      go_wp2_with fail
      refine HSEL.out.mono ?_
      rintro e w4 ⟨he4, A', k', c', rfl, hsl⟩
      have HX4 := Lib.hid (HX3.out.trans he4)
      have HKB4 := Lib.hid (HKI.out.ext HX4.out)
      have q0 := HKB4.out.cell (i := 0) (by simp); have q1 := HKB4.out.cell (i := 1) (by simp); have f0 := HKB4.out.free 0; have f1 := HKB4.out.free 1
      simp only [List.getElem_cons_zero, List.getElem_cons_succ] at q0 q1
      have HSL := Lib.hid hsl
      clear t0 t1 t2 t3 t4 r0 r1 he4 hsl
      go_wp2_with fail
      have kz : Bk ((w4.setCell ⟨w.heap.size + 1, 0, none⟩ (.int .i64 a)).setCell ⟨w.heap.size + 1, 1, none⟩ (.slice A' k' c')) (w.heap.size + 1) 54 [.int .i64 a, .slice A' k' c'] := (HKB4.out.set 0 _).set 1 _
      have hst : Fr (fun k => k = w.heap.size + 1) w4 ((w4.setCell ⟨w.heap.size + 1, 0, none⟩ (.int .i64 a)).setCell ⟨w.heap.size + 1, 1, none⟩ (.slice A' k' c')) := ((Fr.refl (fun k => k = w.heap.size + 1) w4).setCell (p := ⟨w.heap.size + 1, 0, none⟩) (.inl rfl) _).setCell (p := ⟨w.heap.size + 1, 1, none⟩) (.inl rfl) _
      generalize ((w4.setCell ⟨w.heap.size + 1, 0, none⟩ (.int .i64 a)).setCell ⟨w.heap.size + 1, 1, none⟩ (.slice A' k' c')) = wz at *
      go_roundw
      case rel => exact ⟨i + 1, k', c', A', by omega, by go_num, Lib.hid (hst.new (HXI.out.trans HX4.out) (fun q hq => by omega)), Lib.hid ((HFI.out.ext HX4.out).trans hst), Lib.hid kz, Lib.hid (by
        rw [HFT.out]
        exact (HSL.out.fr hst (fun q hq => by rcases hq with (h | h) | h <;> omega)).mono (by decide) (fun q _ hq => by
          rcases hq with h | h
          · exact h
          · exact .inr (by omega)))⟩
      case measure => simp [intOf]; omega
    · obtain rfl : i = n4 := by omega
      have hdi : ¬ (i : Int) < (i : Int) := by omega
      have HS4 : Hid (Sl rdRow (fun k => (F k ∧ k < w.heap.size) ∨ w1.heap.size ≤ k) W (.slice A n c) (s.fs.foldl filR rows)) := Lib.hid (by
        have h := HSI.out
        rw [List.take_of_length_le (by have := HL4.out; omega)] at h
        exact h)
      have p3 := (HKA.out.fr HFI.out (by omega)).cell (i := 3) (by simp)
      simp only [List.getElem_cons_zero, List.getElem_cons_succ] at p3
      go_wp2_with fail
      clear p3
      go_loopw [56] (fun t wr => ∃ (j n c : Nat) (A : Option Addr), j ≤ n3 ∧ t = .int .i64 (j : Int) ∧ Hid (Ext w wr) ∧ Hid (Fr (fun k => k = w.heap.size + 1) w1 wr) ∧ Hid (Bk wr (w.heap.size + 1) 54 [.int .i64 a, .slice A n c]) ∧ Hid (Sl rdRow (fun k => (F k ∧ k < w.heap.size) ∨ w1.heap.size ≤ k) wr (.slice A n c) ((s.same.take j).foldl samR (s.fs.foldl filR rows)))) (fun t _ => n3 - (intOf t).toNat)
      case atStart => exact ⟨0, n, c, A, Nat.zero_le _, rfl, HXI, HFI, HKI, HS4⟩
      case round =>
        clear HXI HFI HKI HSI HS4 hsz
        obtain ⟨j, n, c, A, hj, rfl, HXI, HFI, HKI, HSI⟩ := hrel
        obtain ⟨U, rfl⟩ : ∃ U : World, U = wr := ⟨_, rfl⟩
        have hsz : w1.heap.size ≤ U.heap.size := HFI.out.size
        by_cases hlt : j < n3
        · have i1 : (0 : Int) ≤ (j : Int) := by omega
          have i2 : (j : Int) < (n3 : Int) := by omega
          have hix : j < s.same.length := by have := HL3.out; omega
          obtain ⟨ad, rfl, -, d0, d1⟩ := HS.out.pi hix
          replace d0 := HXI.out.cell d0; replace d1 := HXI.out.cell d1
          obtain ⟨⟨z1, z2⟩, z3, z4⟩ := HSA.out _ (List.getElem_mem hix)
          have hft := fold_take (f := samR) (b := s.fs.foldl filR rows) hix
          obtain ⟨p, hp⟩ : ∃ p, p = s.same[j] := ⟨_, rfl⟩
          rw [← hp] at d0 d1 z1 z2 z3 z4 hft
          obtain ⟨pa, pb⟩ := p
          simp only at d0 d1 z1 z2 z3 z4
          obtain ⟨pn, rfl⟩ : ∃ pn : Nat, pa = (pn : Int) := ⟨pa.toNat, by omega⟩
          obtain ⟨pm, rfl⟩ : ∃ pm : Nat, pb = (pm : Int) := ⟨pb.toNat, by omega⟩
          have HFT := Lib.hid hft
          clear hp hft
          go_upto_region 14 with fail
          have kt := Bk.new U 51 [.int .i64 (pn : Int), .int .i64 (pm : Int)]
          change Bk (U.alloc (.cells #[.int .i64 (pn : Int), .int .i64 (pm : Int)] 51)) _ _ _ at kt
          have hx2 : Ext U (U.alloc (.cells #[.int .i64 (pn : Int), .int .i64 (pm : Int)] 51)) := (Ext.refl U).alloc _
          generalize (U.alloc (.cells #[.int .i64 (pn : Int), .int .i64 (pm : Int)] 51)) = w2 at *
          have HX2 := Lib.hid hx2
          have t0 := kt.cell (i := 0) (by simp); have t1 := kt.cell (i := 1) (by simp)
          have r0 := (HKI.out.ext hx2).cell (i := 0) (by simp); have r1 := (HKI.out.ext hx2).cell (i := 1) (by simp)
          simp only [List.getElem_cons_zero, List.getElem_cons_succ] at t0 t1 r0 r1
          have hs3 := hx2.size
          have HSEL := Lib.hid (selsame_any (a := a) (i := pn) (j := pm) (HSI.out.ext hx2) (by have := HSI.out.cap.1; have := HLR.out; have := filR_len (rows := rows) (l := s.fs); have := samR_len (rows := s.fs.foldl filR rows) (l := s.same.take j); omega) (fun x hx => by
            have := (HROW.out x (filR_sub x (samR_sub x hx))).1
            exact ⟨by omega, by omega, by omega⟩) z2 z4)
          clear kt hx2 d0 d1
          go_wp2_with fail
          refine HSEL.out.mono ?_
          rintro e w4 ⟨he4, A', k', c', rfl, hsl⟩
          have HX4 := Lib.hid (HX2.out.trans he4)
          have HKB4 := Lib.hid (HKI.out.ext HX4.out)
          have q0 := HKB4.out.cell (i := 0) (by simp); have q1 := HKB4.out.cell (i := 1) (by simp); have f0 := HKB4.out.free 0; have f1 := HKB4.out.free 1
          simp only [List.getElem_cons_zero, List.getElem_cons_succ] at q0 q1
          have HSL := Lib.hid hsl
          clear t0 t1 r0 r1 he4 hsl
          go_wp2_with fail
          have kz : Bk ((w4.setCell ⟨w.heap.size + 1, 0, none⟩ (.int .i64 a)).setCell ⟨w.heap.size + 1, 1, none⟩ (.slice A' k' c')) (w.heap.size + 1) 54 [.int .i64 a, .slice A' k' c'] := (HKB4.out.set 0 _).set 1 _
          have hst : Fr (fun k => k = w.heap.size + 1) w4 ((w4.setCell ⟨w.heap.size + 1, 0, none⟩ (.int .i64 a)).setCell ⟨w.heap.size + 1, 1, none⟩ (.slice A' k' c')) := ((Fr.refl (fun k => k = w.heap.size + 1) w4).setCell (p := ⟨w.heap.size + 1, 0, none⟩) (.inl rfl) _).setCell (p := ⟨w.heap.size + 1, 1, none⟩) (.inl rfl) _
          generalize ((w4.setCell ⟨w.heap.size + 1, 0, none⟩ (.int .i64 a)).setCell ⟨w.heap.size + 1, 1, none⟩ (.slice A' k' c')) = wz at *
          go_roundw
          case rel => exact ⟨j + 1, k', c', A', by omega, by go_num, Lib.hid (hst.new (HXI.out.trans HX4.out) (fun q hq => by omega)), Lib.hid ((HFI.out.ext HX4.out).trans hst), Lib.hid kz, Lib.hid (by
            rw [HFT.out]
            exact (HSL.out.fr hst (fun q hq => by rcases hq with (h | h) | h <;> omega)).mono (by decide) (fun q _ hq => by
              rcases hq with h | h
              · exact h
              · exact .inr (by omega)))⟩
          case measure => simp [intOf]; omega
        · obtain rfl : j = n3 := by omega
          have hdj : ¬ (j : Int) < (j : Int) := by omega
          have HS5 : Hid (Sl rdRow (fun k => (F k ∧ k < w.heap.size) ∨ w1.heap.size ≤ k) U (.slice A n c) rows2) := Lib.hid (by
            have h := HSI.out
            rw [List.take_of_length_le (by have := HL3.out; omega)] at h
            rw [HRES.out]; exact h)
          have HKR := Lib.hid (HKC.out.fr HFI.out (by omega))
          have r0 := HKI.out.cell (i := 0) (by simp); have r1 := HKI.out.cell (i := 1) (by simp)
          have q0 := HKR.out.cell (i := 0) (by simp); have q1 := HKR.out.cell (i := 1) (by simp); have f0 := HKR.out.free 0; have f1 := HKR.out.free 1
          simp only [List.getElem_cons_zero, List.getElem_cons_succ] at r0 r1 q0 q1
          go_wp2_with fail
          have kz : Bk ((U.setCell ⟨w.heap.size + 1 + 1, 0, none⟩ (.int .i64 a)).setCell ⟨w.heap.size + 1 + 1, 1, none⟩ (.slice A n c)) (w.heap.size + 1 + 1) 54 [.int .i64 a, .slice A n c] := (HKR.out.set 0 _).set 1 _
          have hst : Fr (fun k => k = w.heap.size + 1 + 1) U ((U.setCell ⟨w.heap.size + 1 + 1, 0, none⟩ (.int .i64 a)).setCell ⟨w.heap.size + 1 + 1, 1, none⟩ (.slice A n c)) := ((Fr.refl (fun k => k = w.heap.size + 1 + 1) U).setCell (p := ⟨w.heap.size + 1 + 1, 0, none⟩) (.inl rfl) _).setCell (p := ⟨w.heap.size + 1 + 1, 1, none⟩) (.inl rfl) _
          generalize ((U.setCell ⟨w.heap.size + 1 + 1, 0, none⟩ (.int .i64 a)).setCell ⟨w.heap.size + 1 + 1, 1, none⟩ (.slice A n c)) = wz at *
          have z0 := kz.cell (i := 0) (by simp); have z1 := kz.cell (i := 1) (by simp)
          simp only [List.getElem_cons_zero, List.getElem_cons_succ] at z0 z1
          exact bodyPost_ret (v := .tuple #[.agg #[.int .i64 a, .slice A n c], .int .i64 0]) (by simp [results, Tryz.results51, go_sem, z0, z1]) rfl ⟨hst.new HXI.out (fun q hq => by omega), A, n, c, rfl, (HS5.out.fr hst (fun q hq => by rcases hq with h | h <;> omega)).mono (by decide) (fun q _ hq => by
            rcases hq with h | h
            · exact .inl h.1
            · exact .inr (by omega))⟩
end Go.Proofs.YtmmmdinncmbjkaaGreat
namespace Go.Proofs.YtmmmdinncmbjkaaGreat
open Go.RowKit Go.Maps
/-- The row of a negated atom for a row of a source. -/
def imgR (cols : List Int) (cs xs : List Vl) : List Vl := List.zipWith (fun c v => if 0 ≤ c then xs.getD c.toNat zv else v) cols cs
theorem take_set3 {cur X : List Value} {i j : Nat} (hl : cur.length = i * 3) (hj : j < i) (ht : cur.take (j * 3) = X) (a b c : Value) : (((cur.set (j * 3) a).set (j * 3 + 1) b).set (j * 3 + 2) c).take ((j + 1) * 3) = X ++ [a, b, c] := by
  rw [← ht]
  apply List.ext_getElem?
  intro q
  rcases Nat.lt_or_ge q ((j + 1) * 3) with h1 | h1
  · rw [List.getElem?_take_of_lt h1]
    rcases Nat.lt_or_ge q (j * 3) with h2 | h2
    · rw [List.getElem?_append_left (by rw [List.length_take]; omega), List.getElem?_take_of_lt h2, List.getElem?_set_ne (by omega), List.getElem?_set_ne (by omega), List.getElem?_set_ne (by omega)]
    · rw [List.getElem?_append_right (by rw [List.length_take]; omega), List.length_take, Nat.min_eq_left (by omega)]
      rcases (show q = j * 3 ∨ q = j * 3 + 1 ∨ q = j * 3 + 2 by omega) with rfl | rfl | rfl
      · rw [List.getElem?_set_ne (by omega), List.getElem?_set_ne (by omega), List.getElem?_set_self (by omega), Nat.sub_self]
        rfl
      · rw [List.getElem?_set_ne (by omega), List.getElem?_set_self (by rw [List.length_set]; omega), show j * 3 + 1 - j * 3 = 1 by omega]
        rfl
      · rw [List.getElem?_set_self (by rw [List.length_set, List.length_set]; omega), show j * 3 + 2 - j * 3 = 2 by omega]
        rfl
  · rw [List.getElem?_take_eq_none h1, List.getElem?_eq_none]
    rw [List.length_append, List.length_take]
    simp only [List.length_cons, List.length_nil]
    omega
theorem take_set_ge {cur X : List Value} {k j : Nat} (ht : cur.take k = X) (h : k ≤ j) (a : Value) : (cur.set j a).take k = X := by
  rw [← ht, List.take_set_of_le h]
set_option maxRecDepth 20000 in
set_option maxHeartbeats 3200000 in
theorem excludes_any {F G H J : Nat → Prop} {w : World} {R C K B : Option Addr} {nr cr n c e d m : Nat} {a : Int} {rows : List (List Vl)} {cols : List Int} {cs xs : List Vl} (hS : SoR rows) (hR : Sl rdRow F w (.slice R nr cr) rows) (hC : Ins G w (.slice C n c) cols) (hK : Sl rdVl H w (.slice K n e) cs) (hB : Sl rdVl J w (.slice B m d) xs) (hb : ∀ x ∈ cols, x < (m : Int)) (hn : n ≤ 1048576) (hm : m ≤ 1048576) (hr : ∀ x ∈ rows, x.length ≤ 1048576) (hnr : nr ≤ 1048576) :
    Calls Tryz.prog 83 #[.agg #[.int .i64 a, .slice R nr cr, .slice C n c, .slice K n e], .slice B m d] w (Ret (fun y _ => y = .bool (hasR rows (imgR cols cs xs))) w) := by
  have hml := hB.cap.1; have hkl := hK.cap.1
  obtain ⟨C', c', e', -, hcl⟩ := hC
  injection e' with e1 e2 e3
  subst e1
  have HB := Lib.hid hB; have HML := Lib.hid hml; have HCL := Lib.hid hcl; have HN := Lib.hid e2; have HBD := Lib.hid hb; have HK := Lib.hid hK; have HKL := Lib.hid hkl
  have kb := Bk.new w 149 [.int .i64 a, .slice R nr cr, .slice C n c, .slice K n e]
  change Bk (w.alloc (.cells #[.int .i64 a, .slice R nr cr, .slice C n c, .slice K n e] 149)) _ _ _ at kb
  have hx : Ext w (w.alloc (.cells #[.int .i64 a, .slice R nr cr, .slice C n c, .slice K n e] 149)) := (Ext.refl w).alloc _
  have HSE := Lib.hid (fun (V : World) (hV : Ext w V) (P : Option Addr) (k : Nat) (Q : Nat → Prop) (l : List Vl) (hl : Sl rdVl Q V (.slice P n k) l) => relsearch_any (a := a) hS (hR.ext hV) hl hn hr hnr)
  obtain ⟨i0, hi0, hz0, hz1, hz2⟩ := info_parts info_val
  obtain ⟨z, hz⟩ : ∃ z, z = hasR rows (imgR cols cs xs) := ⟨_, rfl⟩
  rw [← hz]
  have HZ := Lib.hid hz
  clear hz hB hml hcl e2 e3 hb hK hkl hS hR hr
  go_enter Tryz.func83, Tryz.ntmps83
  go_upto_region 1 with fail
  generalize (w.alloc (.cells #[.int .i64 a, .slice R nr cr, .slice C n c, .slice K n e] 149)) = w1 at *
  obtain ⟨w2, hrun, hown, hgrow⟩ := run_make_full (P := Tryz.prog) w1 w1.heap.size 81 83 i0 (.agg #[.int .i64 0, .int .i64 0, .string ⟨#[]⟩]) 3 Tryz.underlying81 hi0 hz0 hz1 .i64 .i64 n (by rw [hz2]; omega) (by simp only [maxLen]; omega) (Nat.le_refl _)
  have HOWN := Lib.hid hown; have HGR := Lib.hid hgrow
  have hbx := kb.lt
  have k2 := kb.cell (i := 2) (by simp)
  simp only [List.getElem_cons_zero, List.getElem_cons_succ] at k2
  have HX := Lib.hid hx; have HKB := Lib.hid kb
  have hs1 := hx.size
  clear hi0 hz0 hz1 hz2 hown hgrow kb hx
  go_upto_region 2 with fail
  obtain ⟨g, hg⟩ : ∃ g, g = w1.heap.size := ⟨_, rfl⟩
  have hgb : g < w2.heap.size := by
    rcases HOWN.out.2 with ⟨h0, -⟩ | ⟨g', cap', cur, e, hb, hc, -⟩
    · cases h0
    · injection e with e1
      injection e1 with e1
      injection e1 with e1
      have := (Array.getElem?_eq_some_iff.1 hc).1
      omega
  rw [← hg] at HOWN
  have hX2 : Ext w1 w2 := (Ext.refl w1).grown HGR.out (fun k hk => by cases hk)
  have HX2 := Lib.hid (HX.out.trans hX2); have HKB2 := Lib.hid (HKB.out.ext hX2)
  have HOWN2 : Hid (w2.ownsRow g 83 3 (.slice (some ⟨g, 0, none⟩) n n) n (madeCells (Value.cells (.agg #[.int .i64 0, .int .i64 0, .string ⟨#[]⟩])) (n * 3)).toList) := HOWN
  rw [← hg]
  have hgw : w.heap.size < g := by omega
  replace k2 := hX2.cell k2
  clear hX2 HOWN HGR hg hrun
  generalize (madeCells (Value.cells (.agg #[.int .i64 0, .int .i64 0, .string ⟨#[]⟩])) (n * 3)).toList = cur0 at HOWN2
  go_wp2_with fail
  clear k2
  go_loopw [17] (fun t wr => ∃ (j : Nat) (cur : List Value), j ≤ n ∧ t = .int .i64 (j : Int) ∧ Hid (wr.ownsRow g 83 3 (.slice (some ⟨g, 0, none⟩) n n) n cur) ∧ Hid (cur.take (j * 3) = vcells ((imgR cols cs xs).take j)) ∧ Hid (Fr (fun b => b = g) w2 wr)) (fun t _ => n - (intOf t).toNat)
  case atStart => exact ⟨0, cur0, Nat.zero_le _, rfl, HOWN2, Lib.hid (by simp [vcells]), Lib.hid (Fr.refl _ _)⟩
  case round =>
    obtain ⟨j, cur, hj, rfl, HOW, HTK, HFR⟩ := hrel
    obtain ⟨W, rfl⟩ : ∃ W : World, W = wr := ⟨_, rfl⟩
    have hxw : Ext w W := HFR.out.new HX2.out (fun b hb => by omega)
    have HXW := Lib.hid hxw
    have HKW := Lib.hid (HKB2.out.fr HFR.out (by omega))
    by_cases hlt : j < n
    · have i1 : (0 : Int) ≤ (j : Int) := by omega
      have i2 : (j : Int) < (n : Int) := by omega
      have hjc : j < cols.length := by have := HN.out; omega
      have hjk : j < cs.length := by have := HKL.out; omega
      obtain ⟨ad, rfl, -, c0⟩ := HCL.out.int hjc
      obtain ⟨kd, rfl, -, v0, v1, v2⟩ := HK.out.vl hjk
      replace c0 := hxw.cell c0; replace v0 := hxw.cell v0; replace v1 := hxw.cell v1; replace v2 := hxw.cell v2
      have htk : (imgR cols cs xs).take (j + 1) = (imgR cols cs xs).take j ++ [if 0 ≤ cols[j] then xs.getD cols[j].toNat zv else cs[j]] := by
        rw [List.take_succ_eq_append_getElem (by simp only [imgR, List.length_zipWith]; omega)]
        simp only [imgR, List.getElem_zipWith]
      have hbd := HBD.out _ (List.getElem_mem hjc)
      obtain ⟨x, hx⟩ : ∃ x, x = cols[j] := ⟨_, rfl⟩
      obtain ⟨v, hv⟩ : ∃ v, v = cs[j] := ⟨_, rfl⟩
      rw [← hx] at c0 htk hbd
      rw [← hv] at v0 v1 v2 htk
      obtain ⟨vk, vi, vs⟩ := v
      simp only at v0 v1 v2
      have k3 := HKW.out.cell (i := 3) (by simp)
      simp only [List.getElem_cons_zero, List.getElem_cons_succ] at k3
      obtain ⟨⟨o0, p0⟩, f0⟩ := own_cellS HOW.out (i := j * 3) (by omega)
      obtain ⟨⟨o1, p1⟩, f1⟩ := own_cellS HOW.out (i := j * 3 + 1) (by omega)
      obtain ⟨⟨o2, p2⟩, f2⟩ := own_cellS HOW.out (i := j * 3 + 2) (by omega)
      have ho1 := own_setc HOW.out (i := j * 3) (by omega) (.int .i64 vk)
      have ho2 := own_setc ho1 (i := j * 3 + 1) (by omega) (.int .i64 vi)
      have ho3 := own_setc ho2 (i := j * 3 + 2) (by omega) (.string vs)
      have hf3 : Fr (fun b => b = g) W (((W.setCell ⟨g, j * 3, none⟩ (.int .i64 vk)).setCell ⟨g, j * 3 + 1, none⟩ (.int .i64 vi)).setCell ⟨g, j * 3 + 2, none⟩ (.string vs)) := (((Fr.refl (fun b => b = g) W).setCell (p := ⟨g, j * 3, none⟩) (.inl rfl) (.int .i64 vk)).setCell (p := ⟨g, j * 3 + 1, none⟩) (.inl rfl) (.int .i64 vi)).setCell (p := ⟨g, j * 3 + 2, none⟩) (.inl rfl) (.string vs)
      have HO3 := Lib.hid ho3; have HF3 := Lib.hid hf3
      have hcl : cur.length = n * 3 := HOW.out.1
      have HT3 := Lib.hid (take_set3 hcl hlt HTK.out (.int .i64 vk) (.int .i64 vi) (.string vs))
      have HT4 : Hid ((((cur.set (j * 3) (.int .i64 vk)).set (j * 3 + 1) (.int .i64 vi)).set (j * 3 + 2) (.string vs)).take (j * 3) = vcells ((imgR cols cs xs).take j)) := Lib.hid (take_set_ge (take_set_ge (take_set_ge HTK.out (Nat.le_refl _) _) (by omega) _) (by omega) _)
      have HCL3 : Hid ((((cur.set (j * 3) (.int .i64 vk)).set (j * 3 + 1) (.int .i64 vi)).set (j * 3 + 2) (.string vs)).length = n * 3) := Lib.hid (by simp only [List.length_set]; exact hcl)
      have HTE := Lib.hid htk
      clear hx hv ho1 ho2 ho3 hf3 hcl htk hjc hjk
      generalize ((cur.set (j * 3) (.int .i64 vk)).set (j * 3 + 1) (.int .i64 vi)).set (j * 3 + 2) (.string vs) = cur3 at *
      go_upto_region 6 with fail
      clear c0 v0 v1 v2 k3 o0 p0 f0 o1 p1 f1 o2 p2 f2
      generalize (((W.setCell ⟨g, j * 3, none⟩ (.int .i64 vk)).setCell ⟨g, j * 3 + 1, none⟩ (.int .i64 vi)).setCell ⟨g, j * 3 + 2, none⟩ (.string vs)) = W3 at *
      by_cases hx0 : x < 0
      · have g1 : decide ((0 : Int) ≤ x) = false := decide_eq_false (by omega)
        have HTF : Hid (cur3.take ((j + 1) * 3) = vcells ((imgR cols cs xs).take (j + 1))) := Lib.hid (by
          rw [HT3.out, HTE.out, if_neg (by omega), vcells_app2]; rfl)
        clear hx0 hxw
        go_wp2_with fail
        go_roundw
        case rel => exact ⟨j + 1, cur3, by omega, by go_num, HO3, HTF, Lib.hid (HFR.out.trans HF3.out)⟩
        case measure => simp [intOf]; omega
      · obtain ⟨q, rfl⟩ : ∃ q : Nat, x = (q : Int) := ⟨x.toNat, by omega⟩
        have g1 : decide ((0 : Int) ≤ (q : Int)) = true := decide_eq_true (by omega)
        have q1 : (0 : Int) ≤ (q : Int) := by omega
        have q2 : (q : Int) < (m : Int) := by omega
        have hqx : q < xs.length := by have := HML.out; omega
        obtain ⟨bd, rfl, -, b0, b1, b2⟩ := HB.out.vl hqx
        have hne : (bd.add (q * 3)).block ≠ g := by
          have h1 : (bd.add (q * 3)).block < w.heap.size := cell_lt b0
          omega
        replace b0 := HF3.out.cell (hxw.cell b0) hne; replace b1 := HF3.out.cell (hxw.cell b1) hne; replace b2 := HF3.out.cell (hxw.cell b2) hne
        have hgd : xs.getD q zv = xs[q] := by simp [List.getElem?_eq_getElem hqx]
        obtain ⟨y, hy⟩ : ∃ y, y = xs[q] := ⟨_, rfl⟩
        rw [← hy] at b0 b1 b2 hgd
        obtain ⟨yk, yi, ys⟩ := y
        simp only at b0 b1 b2
        obtain ⟨⟨o0, p0⟩, f0⟩ := own_cellS HO3.out (i := j * 3) (by omega)
        obtain ⟨⟨o1, p1⟩, f1⟩ := own_cellS HO3.out (i := j * 3 + 1) (by omega)
        obtain ⟨⟨o2, p2⟩, f2⟩ := own_cellS HO3.out (i := j * 3 + 2) (by omega)
        have ho1 := own_setc HO3.out (i := j * 3) (by omega) (.int .i64 yk)
        have ho2 := own_setc ho1 (i := j * 3 + 1) (by omega) (.int .i64 yi)
        have ho3 := own_setc ho2 (i := j * 3 + 2) (by omega) (.string ys)
        have hf4 : Fr (fun b => b = g) W3 (((W3.setCell ⟨g, j * 3, none⟩ (.int .i64 yk)).setCell ⟨g, j * 3 + 1, none⟩ (.int .i64 yi)).setCell ⟨g, j * 3 + 2, none⟩ (.string ys)) := (((Fr.refl (fun b => b = g) W3).setCell (p := ⟨g, j * 3, none⟩) (.inl rfl) (.int .i64 yk)).setCell (p := ⟨g, j * 3 + 1, none⟩) (.inl rfl) (.int .i64 yi)).setCell (p := ⟨g, j * 3 + 2, none⟩) (.inl rfl) (.string ys)
        have HO4 := Lib.hid ho3; have HF4 := Lib.hid (HFR.out.trans (HF3.out.trans hf4))
        have HTF : Hid ((((cur3.set (j * 3) (.int .i64 yk)).set (j * 3 + 1) (.int .i64 yi)).set (j * 3 + 2) (.string ys)).take ((j + 1) * 3) = vcells ((imgR cols cs xs).take (j + 1))) := Lib.hid (by
          rw [take_set3 HCL3.out hlt HT4.out, HTE.out, if_pos q1, vcells_app2, Int.toNat_natCast, hgd]; rfl)
        clear hx0 hxw hbd hqx hgd hy ho1 ho2 ho3 hf4 hne
        go_wp2_with fail
        go_roundw
        case rel => exact ⟨j + 1, _, by omega, by go_num, HO4, HTF, HF4⟩
        case measure => simp [intOf]; omega
    · obtain rfl : j = n := by omega
      have hdj : ¬ (j : Int) < (j : Int) := by omega
      have hll : (imgR cols cs xs).length = j := by
        have h1 := HN.out; have h2 := HKL.out
        simp only [imgR, List.length_zipWith]; omega
      have HRES : Hid (Sl rdVl (fun k => w.heap.size ≤ k) W (.slice (some ⟨g, 0, none⟩) j j) (imgR cols cs xs)) := Lib.hid (by
        have h1 := HTK.out
        rw [List.take_of_length_le (by have := HOW.out.1; omega), List.take_of_length_le (by omega)] at h1
        have h2 := HOW.out
        rw [h1] at h2
        exact (own_vls h2).mono (by decide) (fun k _ hk => by omega))
      have hsr := HSE.out W hxw _ _ _ _ HRES.out
      unfold SrPost at hsr
      rw [← HZ.out] at hsr
      have HSR := Lib.hid hsr
      have k0 := HKW.out.cell (i := 0) (by simp); have k1 := HKW.out.cell (i := 1) (by simp)
      simp only [List.getElem_cons_zero, List.getElem_cons_succ] at k0 k1
      clear hll hsr hxw
      go_wp2_with fail
      refine HSR.out.mono ?_
      rintro e w3 ⟨he3, rfl⟩
      have HX3 := Lib.hid (HXW.out.trans he3)
      clear k0 k1 he3
      go_wp2_with fail
      go_ret
      exact Ret.mk HX3.out rfl
end Go.Proofs.YtmmmdinncmbjkaaGreat
namespace Go.Proofs.YtmmmdinncmbjkaaGreat
open Go.RowKit Go.Maps
theorem acc_len {a : Int} {r : List Vl} (h : accE a r = 0) : (r.length : Int) = a := by
  unfold accE at h
  split at h
  · assumption
  · simp at h
theorem own_blk_ge {w : World} {base n sz g : Nat} {E : TypeId} {v : Value} {us : List Value} (h : w.ownsRow base E sz v n us) (hg : v.ownBlock = some g) : base ≤ g := by
  obtain ⟨-, ⟨rfl, -⟩ | ⟨g', cap, cur, rfl, hb, -⟩⟩ := h
  · cases hg
  · simp [Value.ownBlock] at hg; omega
set_option maxRecDepth 20000 in
set_option maxHeartbeats 3200000 in
theorem relof_any {F : Nat → Prop} {w : World} {B : Option Addr} {m d : Nat} {a : Int} {rows : List (List Vl)} (hB : Sl rdRow F w (.slice B m d) rows) (h0 : 0 ≤ a) (h32 : a ≤ 32) (hac : ∀ x ∈ rows, accE a x = 0) (hm : m ≤ 65536) (hz : ∀ x ∈ rows, ∀ v ∈ x, v.str.size ≤ maxLen) :
    Calls Tryz.prog 84 #[.int .i64 a, .slice B m d] w (PrjPost a rows w) := by
  have hml := hB.cap.1
  have h' := hB.mono (G := fun k => F k ∧ k < w.heap.size) (by decide) (fun k hk hf => ⟨hf, hk⟩)
  have HB := Lib.hid h'; have HAC := Lib.hid hac; have HML := Lib.hid hml; have HZ := Lib.hid hz
  have kb := Bk.new w 54 [.int .i64 0, .slice none 0 0]
  change Bk (w.alloc (.cells #[.int .i64 0, .slice none 0 0] 54)) _ _ _ at kb
  have hx : Ext w (w.alloc (.cells #[.int .i64 0, .slice none 0 0] 54)) := (Ext.refl w).alloc _
  clear hB h' hac hml hz
  go_enter Tryz.func84, Tryz.ntmps84
  go_upto_region 1 with fail
  generalize (w.alloc (.cells #[.int .i64 0, .slice none 0 0] 54)) = w1 at *
  have HX := Lib.hid hx; have HKB := Lib.hid kb
  have hlt1 := kb.lt
  clear hx kb
  go_wp2_with fail
  refine (relnew_ok h0 h32).mono ?_
  rintro e w2 ⟨he2, rfl⟩
  have HX2 := Lib.hid (HX.out.trans he2); have HKB2 := Lib.hid (HKB.out.ext he2)
  have hlt2 := he2.size
  clear he2
  go_upto_region 2 with fail
  have kr := Bk.new w2 54 [.int .i64 a, .slice none 0 0]
  change Bk (w2.alloc (.cells #[.int .i64 a, .slice none 0 0] 54)) _ _ _ at kr
  have hx3 : Ext w2 (w2.alloc (.cells #[.int .i64 a, .slice none 0 0] 54)) := (Ext.refl w2).alloc _
  generalize (w2.alloc (.cells #[.int .i64 a, .slice none 0 0] 54)) = w3 at *
  have HX3 := Lib.hid (HX2.out.trans hx3); have HKB3 := Lib.hid (HKB2.out.ext hx3); have HKR := Lib.hid kr
  clear hx3 kr
  go_wp2_with fail
  go_loopw [21] (fun t wr => ∃ j : Nat, j ≤ m ∧ t = .int .i64 (j : Int) ∧ Hid (Ext w3 wr)) (fun t _ => m - (intOf t).toNat)
  case atStart => exact ⟨0, Nat.zero_le _, rfl, Lib.hid (Ext.refl _)⟩
  case round =>
    obtain ⟨j, hj, rfl, HXR⟩ := hrel
    obtain ⟨W, rfl⟩ : ∃ W : World, W = wr := ⟨_, rfl⟩
    have HXW := Lib.hid (HX3.out.trans HXR.out)
    by_cases hlt : j < m
    · have i1 : (0 : Int) ≤ (j : Int) := by omega
      have i2 : (j : Int) < (m : Int) := by omega
      have hix : j < rows.length := by have := HML.out; omega
      obtain ⟨bd, P, q, rfl, -, b0, hrow⟩ := HB.out.row hix
      have hae := HAC.out _ (List.getElem_mem hix)
      have hzz := HZ.out _ (List.getElem_mem hix)
      obtain ⟨x, hxx⟩ : ∃ x, x = rows[j] := ⟨_, rfl⟩
      rw [← hxx] at b0 hrow hae hzz
      have hxl : x.length ≤ 1048576 := by have := acc_len hae; omega
      have HCA := Lib.hid (fun (V : World) (hV : Ext W V) => accepts_any (A := none) (n := 0) (c := 0) (a := a) (hrow.ext (HXW.out.trans hV)) hxl hzz)
      rw [hae] at HCA
      obtain ⟨nx, hnx⟩ : ∃ z, z = x.length := ⟨_, rfl⟩
      rw [← hnx] at b0 HCA
      replace b0 := HXW.out.cell b0
      have r0 := (HKR.out.ext HXR.out).cell (i := 0) (by simp); have r1 := (HKR.out.ext HXR.out).cell (i := 1) (by simp)
      simp only [List.getElem_cons_zero, List.getElem_cons_succ] at r0 r1
      clear hrow hae hzz hxx hxl hnx hix
      go_upto_region 7 with fail
      go_region_held3 (fun V => Ext W V ∧ V.cell? ⟨w2.heap.size, 0, none⟩ = some (.int .i64 a) ∧ V.cell? ⟨w2.heap.size, 1, none⟩ = some (.slice none 0 0) ∧ V.cell? (bd.add j) = some (.slice P nx q))
        ((refine (fun he => ⟨he, Ext.cell he r0, Ext.cell he r1, Ext.cell he b0⟩) ?_; repeat (first | exact Ext.refl _ | exact (Ext.refl _).drew | refine Ext.drew ?_ | refine Ext.trans ?_ (by assumption))))
        (first
          | (go_at_call 109; (with_reducible refine (HCA.out _ (And.left (by assumption))).mono ?_); rintro e wi ⟨z, rfl, hei, rfl⟩))
      have hfin := And.left (b := _ ∧ _) (by assumption)
      have HXF := Lib.hid (HXR.out.trans hfin)
      clear hfin hei r0 r1 b0
      go_wp2_with fail
      go_roundw
      case rel => exact ⟨j + 1, by omega, by go_num, HXF⟩
      case measure => simp [intOf]; omega
    · obtain rfl : j = m := by omega
      have hdj : ¬ (j : Int) < (j : Int) := by omega
      obtain ⟨us, hul, hcl, hone, hus⟩ := (HB.out.ext HXW.out).us
      have HUS := Lib.hid hus; have HUL := Lib.hid hul
      have HCN := Lib.hid (clone_rws (n := j) (c := d) hcl (by have := HML.out; omega) hone (by omega))
      have hww := HXW.out.size
      clear hus hul hcl hone
      go_wp2_with fail
      refine HCN.out.mono ?_
      rintro e w5 ⟨v, rfl, he5, hown⟩
      have how : OwR (fun k => F k ∧ k < w.heap.size) w5 W.heap.size v j us rows := ⟨hown, HUL.out, fun i hi h' => ((HUS.out i hi h').ext he5).mono (by decide) (fun k _ hk => ⟨hk, fun e => by
        have := own_blk_ge hown e
        have := hk.2
        omega⟩)⟩
      have HBU := Lib.hid (build_own (a := a) how (fun x hx => by have := acc_len (HAC.out x hx); omega) hm)
      have hge := fun g (h : v.ownBlock = some g) => own_blk_ge hown h
      have HX5 := Lib.hid (HXW.out.trans he5); have HKB5 := Lib.hid (HKB3.out.ext (HXR.out.trans he5))
      have hne : ∀ k, v.ownBlock = some k → ¬ k = w.heap.size := fun k hk => by have := hge k hk; have := HXR.out.size; have := HKB3.out.lt; omega
      have HGE := Lib.hid hge; have HNE := Lib.hid hne
      clear he5 hown how hge hne
      go_wp2_with fail
      refine HBU.out.mono ?_
      rintro e w6 ⟨hf6, A, k, c, rows', rfl, hso, hmem, hsl⟩
      have hx6 : Ext w w6 := hf6.new HX5.out (fun q hq => by have := HGE.out q hq; omega)
      have HK6 := Lib.hid (HKB5.out.fr hf6 (fun h => HNE.out _ h rfl))
      have HX6 := Lib.hid hx6; have HSO := Lib.hid hso; have HME := Lib.hid hmem; have HSL := Lib.hid hsl
      have q0 := HK6.out.cell (i := 0) (by simp); have q1 := HK6.out.cell (i := 1) (by simp); have f0 := HK6.out.free 0; have f1 := HK6.out.free 1
      simp only [List.getElem_cons_zero, List.getElem_cons_succ] at q0 q1
      have hwW : w.heap.size < W.heap.size := by have := HXR.out.size; have := HKB3.out.lt; omega
      clear hf6 hx6 hso hmem hsl
      go_wp2_with fail
      have kz : Bk ((w6.setCell ⟨w.heap.size, 0, none⟩ (.int .i64 a)).setCell ⟨w.heap.size, 1, none⟩ (.slice A k c)) w.heap.size 54 [.int .i64 a, .slice A k c] := (HK6.out.set 0 _).set 1 _
      have hst : Fr (fun k => k = w.heap.size) w6 ((w6.setCell ⟨w.heap.size, 0, none⟩ (.int .i64 a)).setCell ⟨w.heap.size, 1, none⟩ (.slice A k c)) := ((Fr.refl (fun k => k = w.heap.size) w6).setCell (p := ⟨w.heap.size, 0, none⟩) (.inl rfl) _).setCell (p := ⟨w.heap.size, 1, none⟩) (.inl rfl) _
      generalize ((w6.setCell ⟨w.heap.size, 0, none⟩ (.int .i64 a)).setCell ⟨w.heap.size, 1, none⟩ (.slice A k c)) = wz at *
      have z0 := kz.cell (i := 0) (by simp); have z1 := kz.cell (i := 1) (by simp)
      simp only [List.getElem_cons_zero, List.getElem_cons_succ] at z0 z1
      exact bodyPost_ret (v := .tuple #[.agg #[.int .i64 a, .slice A k c], .int .i64 0]) (by simp [results, Tryz.results84, go_sem, z0, z1]) rfl ⟨hst.new HX6.out (fun q hq => by omega), A, k, c, rows', rfl, HSO.out, HME.out, (HSL.out.fr hst (fun q hq => by omega)).mono (by decide) (fun q _ hq => by omega)⟩
end Go.Proofs.YtmmmdinncmbjkaaGreat
namespace Go.Proofs.YtmmmdinncmbjkaaGreat
open Go.RowKit Go.Maps
/-- A negated atom with its relation. -/
structure Ex where
  ar : Int
  rows : List (List Vl)
  cols : List Int
  cs : List Vl
def rdEx : Rdg Ex where
  sz := 4
  R := fun F w cs x => ∃ a b c, cs = [.int .i64 x.ar, a, b, c] ∧ Sl rdRow F w a x.rows ∧ Ins F w b x.cols ∧ Sl rdVl F w c x.cs
  len := fun ⟨_, _, _, e, _⟩ => by rw [e]; rfl
  fr := fun ⟨a, b, c, e, h, k, l⟩ hf hs => ⟨a, b, c, e, h.fr hf hs, k.fr hf hs, l.fr hf hs⟩
  mono := fun ⟨a, b, c, e, h, k, l⟩ hs => ⟨a, b, c, e, h.mono (by decide) hs, k.mono hs, l.mono (by decide) hs⟩
theorem Sl.ex {F : Nat → Prop} {w : World} {A : Option Addr} {n c : Nat} {xs : List Ex} (h : Sl rdEx F w (.slice A n c) xs) {i : Nat} (hi : i < xs.length) : ∃ ad R cr C cc K ck, A = some ad ∧ w.cell? (ad.add (i * 4)) = some (.int .i64 xs[i].ar) ∧ w.cell? ⟨(ad.add (i * 4)).block, (ad.add (i * 4)).off + 1, none⟩ = some (.slice R xs[i].rows.length cr) ∧ w.cell? ⟨(ad.add (i * 4)).block, (ad.add (i * 4)).off + 2, none⟩ = some (.slice C xs[i].cols.length cc) ∧ w.cell? ⟨(ad.add (i * 4)).block, (ad.add (i * 4)).off + 3, none⟩ = some (.slice K xs[i].cs.length ck) ∧ Sl rdRow F w (.slice R xs[i].rows.length cr) xs[i].rows ∧ Ins F w (.slice C xs[i].cols.length cc) xs[i].cols ∧ Sl rdVl F w (.slice K xs[i].cs.length ck) xs[i].cs := by
  obtain ⟨ad, cs, h1, -, ⟨a, b, d, rfl, g1, g2, g3⟩, c0, cr⟩ := h.at hi
  obtain ⟨R, cr', rfl⟩ := g1.sl
  obtain ⟨C, cc, rfl⟩ : ∃ A c, b = .slice A xs[i].cols.length c := let ⟨A, c, e, _⟩ := g2; ⟨A, c, e⟩
  obtain ⟨K, ck, rfl⟩ := g3.sl
  exact ⟨ad, R, cr', C, cc, K, ck, h1, c0 (by simp), cr 0 (by simp), cr 1 (by simp), cr 2 (by simp), g1, g2, g3⟩
/-- An exclusion that fits rows of m columns. -/
structure ExOk (m : Nat) (x : Ex) : Prop where
  so : SoR x.rows
  len : x.cols.length = x.cs.length
  cl : x.cols.length ≤ 1048576
  rl : x.rows.length ≤ 1048576
  rr : ∀ r ∈ x.rows, r.length ≤ 1048576
  lt : ∀ c ∈ x.cols, c < (m : Int)
/-- Whether an exclusion excludes a row. -/
def exB (r : List Vl) (x : Ex) : Bool := hasR x.rows (imgR x.cols x.cs r)
set_option maxRecDepth 20000 in
set_option maxHeartbeats 1600000 in
theorem excl_any {F J : Nat → Prop} {w : World} {g : Nat} {R C K B : Option Addr} {cr cc ck d m nr nc nk : Nat} {x : Ex} {xs : List Vl} (hg : Bk w g 81 [.slice B m d]) (hB : Sl rdVl J w (.slice B m d) xs) (hR : Sl rdRow F w (.slice R nr cr) x.rows) (hC : Ins F w (.slice C nc cc) x.cols) (hK : Sl rdVl F w (.slice K nk ck) x.cs) (hx : ExOk m x) (hm : m ≤ 1048576) :
    Calls Tryz.prog 82 #[.agg #[.int .i64 x.ar, .slice R nr cr, .slice C nc cc, .slice K nk ck], .pointer (some ⟨g, 0, none⟩)] w (Ret (fun y _ => y = .bool (exB xs x)) w) := by
  have hnr := hR.cap.1; have hnk := hK.cap.1
  have hnc : nc = x.cols.length := by
    obtain ⟨A', c', e, -⟩ := hC
    injection e
  obtain rfl : nk = nc := by have := hx.len; omega
  have HE := Lib.hid (fun (V : World) (hV : Ext w V) => excludes_any (a := x.ar) hx.so (hR.ext hV) (hC.ext hV) (hK.ext hV) (hB.ext hV) hx.lt (by have := hx.cl; omega) hm hx.rr (by have := hx.rl; omega))
  have g0 := hg.cell (i := 0) (by simp)
  simp only [List.getElem_cons_zero] at g0
  obtain ⟨ar, har⟩ : ∃ z, z = x.ar := ⟨_, rfl⟩
  obtain ⟨z, hz⟩ : ∃ z, z = exB xs x := ⟨_, rfl⟩
  have HZ : Hid (hasR x.rows (imgR x.cols x.cs xs) = z) := Lib.hid hz.symm
  rw [← har] at HE ⊢
  rw [← hz]
  rw [HZ.out] at HE
  have kb := Bk.new w 149 [.int .i64 ar, .slice R nr cr, .slice C nk cc, .slice K nk ck]
  change Bk (w.alloc (.cells #[.int .i64 ar, .slice R nr cr, .slice C nk cc, .slice K nk ck] 149)) _ _ _ at kb
  have hx2 : Ext w (w.alloc (.cells #[.int .i64 ar, .slice R nr cr, .slice C nk cc, .slice K nk ck] 149)) := (Ext.refl w).alloc _
  clear hg hB hR hC hK hx hnr hnk hnc har hz
  go_enter Tryz.func82, Tryz.ntmps82
  go_upto_region 1 with fail
  generalize (w.alloc (.cells #[.int .i64 ar, .slice R nr cr, .slice C nk cc, .slice K nk ck] 149)) = w1 at *
  have HX := Lib.hid hx2
  have k0 := kb.cell (i := 0) (by simp); have k1 := kb.cell (i := 1) (by simp); have k2 := kb.cell (i := 2) (by simp); have k3 := kb.cell (i := 3) (by simp)
  simp only [List.getElem_cons_zero, List.getElem_cons_succ] at k0 k1 k2 k3
  replace g0 := hx2.cell g0
  clear kb hx2
  go_wp2_with fail
  refine (HE.out _ HX.out).mono ?_
  rintro e w2 ⟨y, rfl, he2, rfl⟩
  have HX2 := Lib.hid (HX.out.trans he2)
  clear he2 k0 k1 k2 k3 g0
  go_wp2_with fail
  go_ret
  exact Ret.mk HX2.out rfl
/-- Where an exclusion excludes a row, or -1. -/
def IdxE (r : List Vl) (es : List Ex) (v : Value) : Prop := ∃ k : Int, v = .int .i64 k ∧ ((k = -1 ∧ es.any (exB r) = false) ∨ (0 ≤ k ∧ es.any (exB r) = true))
set_option maxRecDepth 20000 in
set_option maxHeartbeats 1600000 in
theorem index_excl {F J : Nat → Prop} {w : World} {g : Nat} {A B : Option Addr} {n c m d : Nat} {es : List Ex} {xs : List Vl} (hg : Bk w g 81 [.slice B m d]) (hB : Sl rdVl J w (.slice B m d) xs) (hE : Sl rdEx F w (.slice A n c) es) (hx : ∀ x ∈ es, ExOk m x) (hn : n ≤ 1048576) (hm : m ≤ 1048576) :
    Calls Tryz.prog 108 #[.slice A n c, .func (.func 82) #[] #[.pointer (some ⟨g, 0, none⟩)]] w (Ret (fun y _ => IdxE xs es y) w) := by
  have hnl := hE.cap.1
  have HN := Lib.hid hnl; have HE := Lib.hid hE; have HG := Lib.hid hg; have HX := Lib.hid hx; have HB := Lib.hid hB
  clear hnl hE hg hx hB
  go_enter Tryz.func108, Tryz.ntmps108
  go_wp2_with fail
  go_loopw [8] (fun q wr => ∃ i : Nat, i ≤ n ∧ q = .int .i64 (i : Int) ∧ Hid ((es.take i).any (exB xs) = false) ∧ Hid (Ext w wr)) (fun q _ => n - (intOf q).toNat)
  case atStart => exact ⟨0, Nat.zero_le _, rfl, Lib.hid rfl, Lib.hid (Ext.refl _)⟩
  case round =>
    obtain ⟨i, hi, rfl, HGO, HXW⟩ := hrel
    obtain ⟨W, rfl⟩ : ∃ W : World, W = wr := ⟨_, rfl⟩
    by_cases hlt : i < n
    · have i1 : (0 : Int) ≤ (i : Int) := by omega
      have i2 : (i : Int) < (n : Int) := by omega
      have hix : i < es.length := by have := HN.out; omega
      obtain ⟨ad, R, cr, C, cc, K, ck, rfl, c0, c1, c2, c3, hR, hC, hK⟩ := HE.out.ex hix
      replace c0 := HXW.out.cell c0; replace c1 := HXW.out.cell c1; replace c2 := HXW.out.cell c2; replace c3 := HXW.out.cell c3
      have HC := Lib.hid (excl_any (HG.out.ext HXW.out) (HB.out.ext HXW.out) (hR.ext HXW.out) (hC.ext HXW.out) (hK.ext HXW.out) (HX.out _ (List.getElem_mem hix)) hm)
      have hmem := List.getElem_mem hix
      have hgo : exB xs es[i] = false → (es.take (i + 1)).any (exB xs) = false := any_take (p := exB xs) hix HGO.out
      obtain ⟨x, hxx⟩ : ∃ x, x = es[i] := ⟨_, rfl⟩
      rw [← hxx] at c0 c1 c2 c3 HC hmem hgo
      have HMEM := Lib.hid hmem; have HGO2 := Lib.hid hgo
      clear hR hC hK hmem hgo hxx hix
      obtain ⟨z, hz⟩ : ∃ z, z = exB xs x := ⟨_, rfl⟩
      rw [← hz] at HC
      have HZ := Lib.hid hz
      clear hz
      generalize x.ar = ar at *
      generalize x.rows.length = nr at *
      generalize x.cols.length = nc at *
      generalize x.cs.length = nk at *
      go_wp2_with fail
      refine HC.out.mono ?_
      rintro e w2 ⟨y, rfl, he2, rfl⟩
      have HX2 := Lib.hid (HXW.out.trans he2)
      clear he2 c0 c1 c2 c3
      rcases z with _ | _
      · have HG2 := Lib.hid (HGO2.out HZ.out.symm)
        go_wp2_with fail
        go_roundw
        case rel => exact ⟨i + 1, by omega, by go_num, HG2, HX2⟩
        case measure => simp [intOf]; omega
      · have HA : Hid (es.any (exB xs) = true) := Lib.hid (List.any_eq_true.2 ⟨x, HMEM.out, HZ.out.symm⟩)
        go_wp2_with fail
        go_ret
        exact Ret.mk HX2.out ⟨_, rfl, .inr ⟨i1, HA.out⟩⟩
    · obtain rfl : i = n := by omega
      have hdn : ¬ (i : Int) < (i : Int) := by omega
      have HA : Hid (es.any (exB xs) = false) := Lib.hid (by
        have h := HGO.out
        rw [List.take_of_length_le (by have := HN.out; omega)] at h
        exact h)
      go_wp2_with fail
      go_ret
      exact Ret.mk HXW.out ⟨_, rfl, .inl ⟨rfl, HA.out⟩⟩
set_option maxRecDepth 20000 in
set_option maxHeartbeats 1600000 in
theorem contains_excl {F J : Nat → Prop} {w : World} {g : Nat} {A B : Option Addr} {n c m d : Nat} {es : List Ex} {xs : List Vl} (hg : Bk w g 81 [.slice B m d]) (hB : Sl rdVl J w (.slice B m d) xs) (hE : Sl rdEx F w (.slice A n c) es) (hx : ∀ x ∈ es, ExOk m x) (hn : n ≤ 1048576) (hm : m ≤ 1048576) :
    Calls Tryz.prog 81 #[.slice A n c, .func (.func 82) #[] #[.pointer (some ⟨g, 0, none⟩)]] w (Ret (fun y _ => y = .bool (es.any (exB xs))) w) := by
  have HI := Lib.hid (index_excl hg hB hE hx hn hm)
  clear hg hB hE hx
  go_enter Tryz.func81, Tryz.ntmps81
  go_wp2_with fail
  refine HI.out.mono ?_
  rintro e w2 ⟨y, rfl, he2, r, rfl, hr⟩
  have HE2 := Lib.hid he2
  rcases hr with ⟨rfl, hr⟩ | ⟨hi, hr⟩
  · have HR := Lib.hid hr
    clear hr he2
    go_wp2_with fail
    go_ret
    exact Ret.mk HE2.out (by rw [HR.out]; rfl)
  · have HR := Lib.hid hr
    have hle : decide ((0 : Int) ≤ r) = true := decide_eq_true hi
    clear hr he2
    go_wp2_with fail
    go_ret
    exact Ret.mk HE2.out (by rw [HR.out]; rfl)
set_option maxRecDepth 20000 in
set_option maxHeartbeats 1600000 in
theorem remain_row {F J : Nat → Prop} {w : World} {g : Nat} {A B : Option Addr} {n c m d : Nat} {es : List Ex} {xs : List Vl} (hg : Bk w g 147 [.slice A n c]) (hB : Sl rdVl J w (.slice B m d) xs) (hE : Sl rdEx F w (.slice A n c) es) (hx : ∀ x ∈ es, ExOk m x) (hn : n ≤ 1048576) (hm : m ≤ 1048576) :
    Calls Tryz.prog 80 #[.slice B m d, .pointer (some ⟨g, 0, none⟩)] w (Ret (fun y _ => y = .bool (es.any (exB xs))) w) := by
  have HI := Lib.hid (fun (V : World) (hV : Ext w V) (q : Nat) (hq : Bk V q 81 [.slice B m d]) => contains_excl hq (hB.ext hV) (hE.ext hV) hx hn hm)
  have g0 := hg.cell (i := 0) (by simp)
  simp only [List.getElem_cons_zero] at g0
  have kb := Bk.new w 81 [.slice B m d]
  change Bk (w.alloc (.cells #[.slice B m d] 81)) _ _ _ at kb
  have hx2 : Ext w (w.alloc (.cells #[.slice B m d] 81)) := (Ext.refl w).alloc _
  obtain ⟨z, hz⟩ : ∃ z, z = es.any (exB xs) := ⟨_, rfl⟩
  rw [← hz] at HI ⊢
  clear hg hB hE hx hz
  go_enter Tryz.func80, Tryz.ntmps80
  go_upto_region 1 with fail
  generalize (w.alloc (.cells #[.slice B m d] 81)) = w1 at *
  have HX := Lib.hid hx2; have HK := Lib.hid kb
  replace g0 := hx2.cell g0
  clear kb hx2
  go_wp2_with fail
  refine (HI.out _ HX.out _ HK.out).mono ?_
  rintro e w2 ⟨y, rfl, he2, rfl⟩
  have HX2 := Lib.hid (HX.out.trans he2)
  clear he2 g0
  go_wp2_with fail
  go_ret
  exact Ret.mk HX2.out rfl
end Go.Proofs.YtmmmdinncmbjkaaGreat
