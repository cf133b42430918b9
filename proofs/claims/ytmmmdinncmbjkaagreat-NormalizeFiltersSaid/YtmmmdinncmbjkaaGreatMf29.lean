/- Contracts: row.Project, Relation.Project. Contract: Relation.Project. Contracts: slices.Concat at rows; Relation.Search, Len, Rows, accepts. -/
import Derived.Test.YtmmmdinncmbjkaaGreatMf28
namespace Go.Proofs.YtmmmdinncmbjkaaGreat
open Go.RowKit Go.Maps
theorem own_cellS {w : World} {base n g cap sz : Nat} {E : TypeId} {us : List Value} (h : w.ownsRow base E sz (.slice (some ⟨g, 0, none⟩) n cap) n us) {i : Nat} (hi : i < n * sz) : (∃ u, w.cell? ⟨g, i, none⟩ = some u) ∧ w.frozen? ⟨g, i, none⟩ = false := by
  obtain ⟨hl, h⟩ := h
  rcases h with ⟨h0, -⟩ | ⟨g', cap', cur, e, hb, hc, h1, h2, h3, h4⟩
  · cases h0
  injection e with e1 e2 e3
  injection e1 with e1
  injection e1 with e1
  subst e1 e3
  have hcs : i < cur.size := by
    rw [h3]
    exact Nat.lt_of_lt_of_le hi (Nat.mul_le_mul_right _ h1)
  exact ⟨⟨cur[i], by simp [World.cell?, hc, hcs]⟩, by simp [World.frozen?, hc]⟩
abbrev zv : Vl := ⟨0, 0, ⟨#[]⟩⟩
theorem vcells_app2 (a b : List Vl) : vcells (a ++ b) = vcells a ++ vcells b := by unfold vcells; rw [List.flatMap_append]
/-- The columns of a row. -/
def projR (cols : List Int) (xs : List Vl) : List Vl := cols.map (fun c => xs.getD c.toNat zv)
/-- What row.Project answers. -/
def ProjPost (ys : List Vl) (w : World) (e : Ending) (w' : World) : Prop := Ext w w' ∧ ∃ A c, e = .returned (.tuple #[.slice A ys.length c, .int .i64 0]) ∧ Sl rdVl (fun k => w.heap.size ≤ k) w' (.slice A ys.length c) ys
set_option maxRecDepth 20000 in
set_option maxHeartbeats 3200000 in
theorem rproj_any {F G : Nat → Prop} {w : World} {B C : Option Addr} {m d n c : Nat} {xs : List Vl} {cols : List Int} (hB : Sl rdVl F w (.slice B m d) xs) (hC : Ins G w (.slice C n c) cols) (hc : ∀ x ∈ cols, missB (m : Int) x = false) (hn : n ≤ 1048576) (hm : m ≤ 1048576) :
    Calls Tryz.prog 77 #[.slice B m d, .slice C n c] w (ProjPost (projR cols xs) w) := by
  have hml := hB.cap.1
  obtain ⟨C', c', e, -, hcl⟩ := hC
  injection e with e1 e2 e3
  subst e1
  have HB := Lib.hid hB; have HML := Lib.hid hml; have HCL := Lib.hid hcl; have HN := Lib.hid e2; have HC := Lib.hid hc
  obtain ⟨i0, hi0, hz0, hz1, hz2⟩ := info_parts info_val
  obtain ⟨w2, hrun, hown, hgrow⟩ := run_make_full (P := Tryz.prog) w w.heap.size 81 83 i0 (.agg #[.int .i64 0, .int .i64 0, .string ⟨#[]⟩]) 3 Tryz.underlying81 hi0 hz0 hz1 .i64 .i64 n (by rw [hz2]; omega) (by simp only [maxLen]; omega) (Nat.le_refl _)
  have HOWN := Lib.hid hown; have HGR := Lib.hid hgrow
  clear hB hml hcl e2 e3 hc hi0 hz0 hz1 hz2 hown hgrow
  go_enter Tryz.func77, Tryz.ntmps77
  go_wp2_with fail
  go_loopw [11] (fun t wr => ∃ i : Nat, i ≤ n ∧ t = .int .i64 (i : Int) ∧ w = wr) (fun t _ => n - (intOf t).toNat)
  case atStart => exact ⟨0, Nat.zero_le _, rfl, by trivial⟩
  case round =>
    obtain ⟨i, hi, rfl, rfl⟩ := hrel
    by_cases hlt : i < n
    · have i1 : (0 : Int) ≤ (i : Int) := by omega
      have i2 : (i : Int) < (n : Int) := by omega
      have hix : i < cols.length := by have := HN.out; omega
      obtain ⟨ad, rfl, -, c0⟩ := HCL.out.int hix
      have hms := HC.out _ (List.getElem_mem hix)
      obtain ⟨x, hx⟩ : ∃ x, x = cols[i] := ⟨_, rfl⟩
      rw [← hx] at c0 hms
      have x0 : ¬ x < 0 := fun h => by simp [missB, h] at hms
      have x1 : ¬ (m : Int) ≤ x := fun h => by simp [missB, h] at hms
      clear hx hms hix
      go_wp2_with fail
      go_roundw
      case rel => exact ⟨i + 1, by omega, by go_num, by trivial⟩
      case measure => simp [intOf]; omega
    · obtain rfl : i = n := by omega
      have hdi : ¬ (i : Int) < (i : Int) := by omega
      go_upto_region 8 with fail
      clear hrun
      obtain ⟨g, hg⟩ : ∃ g, g = w.heap.size := ⟨_, rfl⟩
      have hge : w.heap.size ≤ g := by omega
      have hgb : g < w2.heap.size := by
        rcases HOWN.out.2 with ⟨h0, -⟩ | ⟨g', cap', cur, e, hb, hc, -⟩
        · cases h0
        · injection e with e1
          injection e1 with e1
          injection e1 with e1
          have := (Array.getElem?_eq_some_iff.1 hc).1
          omega
      rw [← hg] at HOWN
      have hX2 : Ext w w2 := (Ext.refl w).grown HGR.out (fun k hk => by cases hk)
      have HX2 := Lib.hid hX2
      have HCZ : Hid (vcells (projR (cols.take 0) xs) = []) := Lib.hid (by simp [projR, vcells])
      have HOWN2 : Hid (w2.ownsRow g 83 3 (.slice (some ⟨g, 0, none⟩) i i) i (madeCells (Value.cells (.agg #[.int .i64 0, .int .i64 0, .string ⟨#[]⟩])) (i * 3)).toList) := HOWN
      rw [← hg]
      clear hX2 HOWN HGR hg
      generalize (madeCells (Value.cells (.agg #[.int .i64 0, .int .i64 0, .string ⟨#[]⟩])) (i * 3)).toList = cur0 at HOWN2
      go_wp2_with fail
      go_loopw [34] (fun t wr => ∃ (j : Nat) (cur : List Value), j ≤ i ∧ t = .int .i64 (j : Int) ∧ Hid (wr.ownsRow g 83 3 (.slice (some ⟨g, 0, none⟩) i i) i cur) ∧ Hid (cur.take (j * 3) = vcells (projR (cols.take j) xs)) ∧ Fr (fun b => b = g) w2 wr) (fun t _ => i - (intOf t).toNat)
      case atStart => exact ⟨0, cur0, Nat.zero_le _, rfl, HOWN2, Lib.hid (by rw [HCZ.out]; simp), Fr.refl _ _⟩
      case round =>
        obtain ⟨j, cur, hj, rfl, HOW, HTK, hfr⟩ := hrel
        obtain ⟨W, rfl⟩ : ∃ W : World, W = wr := ⟨_, rfl⟩
        have HF := Lib.hid hfr
        have hxw : Ext w W := hfr.new HX2.out (fun b hb => by omega)
        have HXW := Lib.hid hxw
        by_cases hlt : j < i
        · have i1 : (0 : Int) ≤ (j : Int) := by omega
          have i2 : (j : Int) < (i : Int) := by omega
          have hix : j < cols.length := by have := HN.out; omega
          obtain ⟨ad, rfl, -, c0⟩ := HCL.out.int hix
          replace c0 := hxw.cell c0
          have hms := HC.out _ (List.getElem_mem hix)
          have htk : cols.take (j + 1) = cols.take j ++ [cols[j]] := List.take_succ_eq_append_getElem hix
          obtain ⟨x, hx⟩ : ∃ x, x = cols[j] := ⟨_, rfl⟩
          rw [← hx] at c0 hms htk
          have x0 : ¬ x < 0 := fun h => by simp [missB, h] at hms
          have x1 : ¬ (m : Int) ≤ x := fun h => by simp [missB, h] at hms
          obtain ⟨q, rfl⟩ : ∃ q : Nat, x = (q : Int) := ⟨x.toNat, by omega⟩
          have hqx : q < xs.length := by have := HML.out; omega
          have q1 : (0 : Int) ≤ (q : Int) := by omega
          have q2 : (q : Int) < (m : Int) := by omega
          obtain ⟨bd, rfl, -, b0, b1, b2⟩ := HB.out.vl hqx
          replace b0 := hxw.cell b0; replace b1 := hxw.cell b1; replace b2 := hxw.cell b2
          have hgd : xs.getD q zv = xs[q] := by simp [List.getElem?_eq_getElem hqx]
          obtain ⟨v, hv⟩ : ∃ v, v = xs[q] := ⟨_, rfl⟩
          rw [← hv] at b0 b1 b2 hgd
          obtain ⟨vk, vi, vs⟩ := v
          simp only at b0 b1 b2
          have HTE : Hid (vcells (projR (cols.take (j + 1)) xs) = vcells (projR (cols.take j) xs) ++ [.int .i64 vk, .int .i64 vi, .string vs]) := Lib.hid (by
            rw [htk]
            unfold projR
            rw [List.map_append, vcells_app2]
            simp only [List.map_cons, List.map_nil, Int.toNat_natCast, hgd]
            rfl)
          obtain ⟨⟨o0, p0⟩, f0⟩ := own_cellS HOW.out (i := j * 3) (by omega)
          obtain ⟨⟨o1, p1⟩, f1⟩ := own_cellS HOW.out (i := j * 3 + 1) (by omega)
          obtain ⟨⟨o2, p2⟩, f2⟩ := own_cellS HOW.out (i := j * 3 + 2) (by omega)
          have hgl : g < W.heap.size := by have := hfr.size; omega
          have ho1 := own_setc HOW.out (i := j * 3) (by omega) (.int .i64 vk)
          have ho2 := own_setc ho1 (i := j * 3 + 1) (by omega) (.int .i64 vi)
          have ho3 := own_setc ho2 (i := j * 3 + 2) (by omega) (.string vs)
          have hf3 := ((hfr.setCell (p := ⟨g, j * 3, none⟩) (.inl rfl) (.int .i64 vk)).setCell (p := ⟨g, j * 3 + 1, none⟩) (.inl rfl) (.int .i64 vi)).setCell (p := ⟨g, j * 3 + 2, none⟩) (.inl rfl) (.string vs)
          have HO3 := Lib.hid ho3; have HF3 := Lib.hid hf3
          have HCL2 : Hid (cur.length = i * 3) := Lib.hid HOW.out.1
          have HTK3 : Hid ((((cur.set (j * 3) (.int .i64 vk)).set (j * 3 + 1) (.int .i64 vi)).set (j * 3 + 2) (.string vs)).take ((j + 1) * 3) = vcells (projR (cols.take (j + 1)) xs)) := Lib.hid (by
            rw [HTE.out, ← HTK.out]
            apply List.ext_getElem?
            intro q
            have hl := HCL2.out
            rcases Nat.lt_or_ge q ((j + 1) * 3) with h1 | h1
            · rw [List.getElem?_take_of_lt h1]
              rcases Nat.lt_or_ge q (j * 3) with h2 | h2
              · rw [List.getElem?_append_left (by rw [List.length_take]; omega), List.getElem?_take_of_lt h2, List.getElem?_set_ne (by omega), List.getElem?_set_ne (by omega), List.getElem?_set_ne (by omega)]
              · rw [List.getElem?_append_right (by rw [List.length_take]; omega), List.length_take, Nat.min_eq_left (by omega)]
                rcases (show q = j * 3 ∨ q = j * 3 + 1 ∨ q = j * 3 + 2 by omega) with rfl | rfl | rfl
                · rw [List.getElem?_set_ne (by omega), List.getElem?_set_ne (by omega), List.getElem?_set_self (by omega), Nat.sub_self]
                  rfl
                · rw [List.getElem?_set_ne (by omega), List.getElem?_set_self (by rw [List.length_set]; omega), show j * 3 + 1 - j * 3 = 1 by omega]
                  rfl
                · rw [List.getElem?_set_self (by rw [List.length_set, List.length_set]; omega), show j * 3 + 2 - j * 3 = 2 by omega]
                  rfl
            · rw [List.getElem?_take_eq_none h1, List.getElem?_eq_none]
              rw [List.length_append, List.length_take]
              simp only [List.length_cons, List.length_nil]
              omega)
          clear hx hms htk hix hqx hgd hv hfr hxw ho1 ho2 ho3 hf3
          go_wp2_with fail
          go_roundw
          case rel => exact ⟨j + 1, _, by omega, by go_num, HO3, HTK3, HF3.out⟩
          case measure => simp [intOf]; omega
        · obtain rfl : j = i := by omega
          have hdj : ¬ (j : Int) < (j : Int) := by omega
          have HRES : Hid (Sl rdVl (fun k => w.heap.size ≤ k) W (.slice (some ⟨g, 0, none⟩) j j) (projR cols xs)) := Lib.hid (by
            have h1 := HTK.out
            rw [List.take_of_length_le (by have := HOW.out.1; omega), List.take_of_length_le (by have := HN.out; omega)] at h1
            have h2 := HOW.out
            rw [h1] at h2
            exact (own_vls h2).mono (by decide) (fun k _ hk => by omega))
          have HLN : Hid (j = (projR cols xs).length) := Lib.hid (by unfold projR; rw [List.length_map]; exact HN.out)
          have HQ : Hid (ProjPost (projR cols xs) w (.returned (.tuple #[.slice (some ⟨g, 0, none⟩) j j, .int .i64 0])) W) := Lib.hid ⟨HXW.out, _, j, by rw [← HLN.out], by rw [← HLN.out]; exact HRES.out⟩
          clear hfr hxw
          go_wp2_with fail
          go_ret2
          exact HQ.out
end Go.Proofs.YtmmmdinncmbjkaaGreat
namespace Go.Proofs.YtmmmdinncmbjkaaGreat
open Go.RowKit Go.Maps
/-- What Relation.Project answers. -/
def PrjPost (a : Int) (l : List (List Vl)) (w : World) (e : Ending) (w' : World) : Prop :=
  Ext w w' ∧ ∃ A k c rows, e = .returned (.tuple #[.agg #[.int .i64 a, .slice A k c], .int .i64 0]) ∧ SoR rows ∧ (∀ r, r ∈ rows ↔ r ∈ l) ∧ Sl rdRow (fun q => w.heap.size ≤ q) w' (.slice A k c) rows
set_option maxRecDepth 20000 in
set_option maxHeartbeats 3200000 in
theorem project_any {F G : Nat → Prop} {w : World} {R C : Option Addr} {c m n d : Nat} {a : Int} {cols : List Int} {rows : List (List Vl)} (hR : Sl rdRow F w (.slice R m c) rows) (hC : Ins G w (.slice C n d) cols) (hn : n ≤ 32) (hm : m ≤ 65536) (hb : ∀ x ∈ cols, missB a x = false) (ha : ∀ x ∈ rows, (x.length : Int) = a) (ha2 : a ≤ 1048576) :
    Calls Tryz.prog 52 #[.agg #[.int .i64 a, .slice R m c], .slice C n d] w (PrjPost (n : Int) (rows.map (projR cols)) w) := by
  have hRl := hR.cap.1
  have hC0 := hC
  obtain ⟨C', d', e, -, hcl⟩ := hC
  injection e with e1 e2 e3
  subst e1
  have HCL := Lib.hid hcl; have HN := Lib.hid e2; have HB := Lib.hid hb; have HR := Lib.hid hR; have HRL := Lib.hid hRl; have HC0 := Lib.hid hC0; have HAL := Lib.hid ha
  clear hcl e2 e3 hb hR hRl hC0 ha
  have g32 : ¬ (32 : Int) < (n : Int) := by omega
  have k2 := two_blk w 54 54 [.int .i64 a, .slice R m c] [.int .i64 0, .slice none 0 0]
  have hx : Ext w ((w.alloc (.cells #[.int .i64 a, .slice R m c] 54)).alloc (.cells #[.int .i64 0, .slice none 0 0] 54)) := ((Ext.refl w).alloc _).alloc _
  go_enter Tryz.func52, Tryz.ntmps52
  go_upto_region 1 with fail
  change Bk ((w.alloc (.cells #[.int .i64 a, .slice R m c] 54)).alloc (.cells #[.int .i64 0, .slice none 0 0] 54)) _ _ _ ∧ Bk ((w.alloc (.cells #[.int .i64 a, .slice R m c] 54)).alloc (.cells #[.int .i64 0, .slice none 0 0] 54)) _ _ _ at k2
  generalize ((w.alloc (.cells #[.int .i64 a, .slice R m c] 54)).alloc (.cells #[.int .i64 0, .slice none 0 0] 54)) = w1 at *
  obtain ⟨ka, kb⟩ := k2
  have a0 := ka.cell (i := 0) (by simp); have a1 := ka.cell (i := 1) (by simp)
  simp only [List.getElem_cons_zero, List.getElem_cons_succ] at a0 a1
  have HKA := Lib.hid ka; have HKB := Lib.hid kb; have HX := Lib.hid hx
  have hlt := kb.lt
  clear ka kb hx
  go_wp2_with fail
  go_loopw [15] (fun t wr => ∃ i : Nat, i ≤ n ∧ t = .int .i64 (i : Int) ∧ Ext w1 wr) (fun t _ => n - (intOf t).toNat)
  case atStart => exact ⟨0, Nat.zero_le _, rfl, Ext.refl _⟩
  case round =>
    obtain ⟨i, hi, rfl, hxr⟩ := hrel
    obtain ⟨W, rfl⟩ : ∃ W : World, W = wr := ⟨_, rfl⟩
    have HXR := Lib.hid hxr
    replace a0 := hxr.cell a0; replace a1 := hxr.cell a1
    by_cases hlt : i < n
    · have i1 : (0 : Int) ≤ (i : Int) := by omega
      have i2 : (i : Int) < (n : Int) := by omega
      have hix : i < cols.length := by have := HN.out; omega
      obtain ⟨ad, rfl, -, c0⟩ := HCL.out.int hix
      replace c0 := hxr.cell (HX.out.cell c0)
      have hmb := HB.out _ (List.getElem_mem hix)
      obtain ⟨x, hx⟩ : ∃ x, x = cols[i] := ⟨_, rfl⟩
      rw [← hx] at c0 hmb
      have h0 : ¬ x < 0 := fun h => by simp [missB, h] at hmb
      have h1 : ¬ a ≤ x := fun h => by simp [missB, h] at hmb
      clear hx hmb hxr
      go_upto_region 6 with fail
      go_quiet (fail)
      have HXQ := Lib.hid (HXR.out.drewN nq)
      generalize (W.drewN nq) = Y at *
      clear a0 a1 c0
      go_wp2_with fail
      go_roundw
      case rel => exact ⟨i + 1, by omega, by go_num, HXQ.out⟩
      case measure => simp [intOf]; omega
    · obtain rfl : i = n := by omega
      have hdi : ¬ (i : Int) < (i : Int) := by omega
      have HKB1 := Lib.hid (HKB.out.ext hxr)
      obtain ⟨p0, hp0, hx0, hx1, hx2⟩ := info_parts info_row
      obtain ⟨w2, hrun, hown, hgrow⟩ := run_make_full (P := Tryz.prog) W W.heap.size 52 81 p0 (.slice none 0 0) 1 Tryz.underlying52 hp0 hx0 hx1 .i64 .i64 m (by rw [hx2]; omega) (by simp only [maxLen]; omega) (Nat.le_refl _)
      have hwg : W.heap.size < w2.heap.size := by
        rcases hown.2 with ⟨h0, -⟩ | ⟨g', cap', cur, e, hb, hc, -⟩
        · cases h0
        · injection e with e1
          injection e1 with e1
          injection e1 with e1
          have := (Array.getElem?_eq_some_iff.1 hc).1
          omega
      have hX2 : Ext W w2 := (Ext.refl W).grown hgrow (fun k hk => by cases hk)
      have hw1W : w1.heap.size ≤ W.heap.size := hxr.size
      obtain ⟨cur0, hcur0⟩ : ∃ l, l = (madeCells (Value.cells (.slice none 0 0)) (m * 1)).toList := ⟨_, rfl⟩
      rw [← hcur0] at hown
      have HOWN := Lib.hid hown; have HX2 := Lib.hid (HX.out.trans (hxr.trans hX2)); have HKB2 := Lib.hid (HKB1.out.ext hX2); have HKA2 := Lib.hid ((HKA.out.ext hxr).ext hX2)
      obtain ⟨g, hg⟩ : ∃ g, g = W.heap.size := ⟨_, rfl⟩
      rw [← hg] at HOWN hrun hwg hw1W
      clear hxr hp0 hx0 hx1 hx2 hown hgrow hX2 hcur0 hg
      go_upto_region 10 with fail
      clear hrun a0 a1
      go_wp2_with fail
      go_loopw [40] (fun t wr => ∃ (j : Nat) (cur : List Value), j ≤ m ∧ t = .int .i64 (j : Int) ∧ Hid (wr.ownsRow g 81 1 (.slice (some ⟨g, 0, none⟩) m m) m cur) ∧ Hid (∀ q (h : q < rows.length) (h' : q < cur.length), q < j → Sl rdVl (fun k => g < k) wr cur[q] (projR cols rows[q])) ∧ Fr (fun b => b = g) w2 wr) (fun t _ => m - (intOf t).toNat)
      case atStart => exact ⟨0, cur0, Nat.zero_le _, rfl, HOWN, Lib.hid (fun q h h' h0 => by omega), Fr.refl _ _⟩
      case round =>
        obtain ⟨j, cur, hj, rfl, HOW, HRD, hfr⟩ := hrel
        obtain ⟨W3, rfl⟩ : ∃ W : World, W = wr := ⟨_, rfl⟩
        have HF := Lib.hid hfr
        have hxw : Ext w W3 := hfr.new HX2.out (fun b hb => by omega)
        have HXW := Lib.hid hxw
        have a1 := (HKA2.out.fr hfr (by omega)).cell (i := 1) (by simp)
        simp only [List.getElem_cons_zero, List.getElem_cons_succ] at a1
        have hgl : g < W3.heap.size := by have := hfr.size; omega
        by_cases hlt : j < m
        · have i1 : (0 : Int) ≤ (j : Int) := by omega
          have i2 : (j : Int) < (m : Int) := by omega
          have hjr : j < rows.length := by have := HRL.out; omega
          obtain ⟨ad, B, e, rfl, -, c0, hrow⟩ := HR.out.row hjr
          replace c0 := hxw.cell c0
          have hla := HAL.out _ (List.getElem_mem hjr)
          have hlen : rows[j].length ≤ 1048576 := by omega
          have HP := Lib.hid (fun (V : World) (hV : Ext w V) => rproj_any (w := V) (cols := cols) (hrow.ext hV) (HC0.out.ext hV) (by rw [hla]; exact HB.out) (by omega) hlen)
          obtain ⟨⟨o0, p0⟩, f0⟩ := own_cellS HOW.out (i := j) (by omega)
          have HJR := Lib.hid hjr
          obtain ⟨xr, hxr⟩ : ∃ q, q = rows[j]'hjr := ⟨_, rfl⟩
          rw [← hxr] at c0 HP
          have HXRJ := Lib.hid hxr
          obtain ⟨nx, hnx⟩ : ∃ q, q = xr.length := ⟨_, rfl⟩
          rw [← hnx] at c0 HP
          clear hrow hla hlen hnx hxr hfr hxw
          go_wp2_with fail
          refine (HP.out _ HXW.out).mono ?_
          rintro e w5 ⟨he5, A5, c5, rfl, hy⟩
          replace p0 := he5.cell p0
          have ho5 := own_ext' HOW.out he5
          have f5 := (own_cellS ho5 (i := j) (by omega)).2
          obtain ⟨ny, hny⟩ : ∃ q, q = (projR cols xr).length := ⟨_, rfl⟩
          rw [← hny] at hy ⊢
          rw [HXRJ.out] at hy
          have hy2 := hy.mono (G := fun k => g < k) (by decide) (fun k _ hk => by omega)
          have hf6 := (HF.out.ext he5).setCell (p := ⟨g, j, none⟩) (.inl rfl) (.slice A5 ny c5)
          have ho6 := own_setc ho5 (i := j) (by omega) (.slice A5 ny c5)
          have hst : Fr (fun k => k = g) w5 (w5.setCell ⟨g, j, none⟩ (.slice A5 ny c5)) := (Fr.refl (fun k => k = g) w5).setCell (p := ⟨g, j, none⟩) (.inl rfl) _
          have HF6 := Lib.hid hf6; have HO6 := Lib.hid ho6
          have HRD6 : Hid (∀ q (h : q < rows.length) (h' : q < (cur.set j (.slice A5 ny c5)).length), q < j + 1 → Sl rdVl (fun k => g < k) (w5.setCell ⟨g, j, none⟩ (.slice A5 ny c5)) (cur.set j (.slice A5 ny c5))[q] (projR cols rows[q])) := Lib.hid (fun q h h' h0 => by
            by_cases hqj : q = j
            · subst hqj
              rw [List.getElem_set_self]
              exact hy2.fr hst (fun k hk e => by omega)
            · rw [List.getElem_set_ne (fun e => hqj e.symm)]
              exact ((HRD.out q h (by simpa using h') (by omega)).ext he5).fr hst (fun k hk e => by omega))
          clear he5 ho5 hy hy2 hf6 ho6 hst hny f0 c0
          go_wp2_with fail
          go_roundw
          case rel => exact ⟨j + 1, _, by omega, by go_num, HO6, HRD6, HF6.out⟩
          case measure => simp [intOf]; omega
        · obtain rfl : j = m := by omega
          have hdj : ¬ (j : Int) < (j : Int) := by omega
          have HBD := Lib.hid (build_own (a := (i : Int)) (F := fun k => g < k) (rows := rows.map (projR cols)) ⟨HOW.out, by have := HOW.out.1; have := HRL.out; rw [List.length_map]; omega, fun q h h' => by
            rw [List.length_map] at h
            rw [List.getElem_map]
            exact (HRD.out q h h' (by have := HRL.out; omega)).mono (by decide) (fun k _ hk => ⟨hk, fun e => by
              have e2 : g = k := by injection e
              omega⟩)⟩ (fun x hx => by
            obtain ⟨y, -, rfl⟩ := List.mem_map.1 hx
            unfold projR
            rw [List.length_map, ← HN.out]
            omega) hm)
          have HK9 := Lib.hid (HKB2.out.fr hfr (by omega))
          clear hfr hxw a1
          go_wp2_with fail
          refine HBD.out.mono ?_
          rintro e w6 ⟨hf6, A6, k6, c6, rows6, rfl, hso, hmem, hsl⟩
          have hfg : Fr (fun k => k = g) W3 w6 := hf6.mono (fun k _ hk => by injection hk with hk; exact hk.symm)
          have HX6 : Hid (Ext w w6) := Lib.hid (hfg.new HXW.out (fun k hk => by omega))
          have hk6 := HK9.out.fr hfg (by omega)
          have hlt6 := hk6.lt
          have HS6 := Lib.hid (hsl.mono (G := fun k => w.heap.size ≤ k ∧ k ≠ w.heap.size + 1) (by decide) (fun k _ hk => by have h1 : g ≤ k := hk; exact ⟨by omega, by omega⟩))
          have HSO := Lib.hid hso; have HME := Lib.hid hmem
          have b0 := hk6.cell (i := 0) (by simp); have b1 := hk6.cell (i := 1) (by simp)
          have f0 := hk6.free 0; have f1 := hk6.free 1
          simp only [List.getElem_cons_zero, List.getElem_cons_succ] at b0 b1
          have HK6 := Lib.hid hk6
          clear hf6 hfg hk6 hsl hso hmem
          go_wp2_with fail
          have kz : Bk ((w6.setCell ⟨w.heap.size + 1, 0, none⟩ (.int .i64 (i : Int))).setCell ⟨w.heap.size + 1, 1, none⟩ (.slice A6 k6 c6)) (w.heap.size + 1) 54 [.int .i64 (i : Int), .slice A6 k6 c6] := (HK6.out.set 0 _).set 1 _
          have hst : Fr (fun k => k = w.heap.size + 1) w6 ((w6.setCell ⟨w.heap.size + 1, 0, none⟩ (.int .i64 (i : Int))).setCell ⟨w.heap.size + 1, 1, none⟩ (.slice A6 k6 c6)) := ((Fr.refl (fun k => k = w.heap.size + 1) w6).setCell (p := ⟨w.heap.size + 1, 0, none⟩) (.inl rfl) _).setCell (p := ⟨w.heap.size + 1, 1, none⟩) (.inl rfl) _
          generalize ((w6.setCell ⟨w.heap.size + 1, 0, none⟩ (.int .i64 (i : Int))).setCell ⟨w.heap.size + 1, 1, none⟩ (.slice A6 k6 c6)) = wz at *
          have z0 := kz.cell (i := 0) (by simp); have z1 := kz.cell (i := 1) (by simp)
          simp only [List.getElem_cons_zero, List.getElem_cons_succ] at z0 z1
          exact bodyPost_ret (v := .tuple #[.agg #[.int .i64 (i : Int), .slice A6 k6 c6], .int .i64 0]) (by simp [results, Tryz.results52, go_sem, z0, z1]) rfl ⟨hst.new HX6.out (fun q hq => by omega), _, _, _, rows6, rfl, HSO.out, HME.out, (HS6.out.fr hst (fun q hq => hq.2)).mono (by decide) (fun q _ hq => hq.1)⟩
end Go.Proofs.YtmmmdinncmbjkaaGreat
namespace Go.Proofs.YtmmmdinncmbjkaaGreat
open Go.RowKit Go.Maps
set_option maxRecDepth 20000 in
set_option maxHeartbeats 800000 in
theorem grow_rows {w : World} {n : Nat} (hn : n ≤ 1048576) :
    Calls Tryz.prog 134 #[.slice none 0 0, .int .i64 (n : Int)] w (Ret (fun x w' => w'.ownsRow w.heap.size 81 1 x 0 []) w) := by
  by_cases h0 : n = 0
  · subst h0
    go_enter Tryz.func134, Tryz.ntmps134
    go_wp2_with fail
    go_ret
    exact Ret.mk (Ext.refl _) (World.ownsRow_nil _ _ _ _)
  have hp : 0 < n := by omega
  have hp1 : (0 : Int) < (n : Int) := by omega
  have hp2 : ¬ (n : Int) < 0 := by omega
  clear h0
  obtain ⟨i0, hi0, hz0, hz1, hz2⟩ := info_parts info_row
  obtain ⟨W1, G, ROW, hrz, hG, hGm, hRl, hW1⟩ : ∃ (W1 : World) (G : Nat) (ROW : List Value), (∀ ty, (Builtin.append_ #[52, 3] ty #[.slice none 0 0, .int .i64 (n : Int)]).run Tryz.prog w = .ok (.slice (some ⟨w.heap.size, 0, none⟩) n G) W1) ∧ n ≤ G ∧ G ≤ maxLen ∧ ROW.length = G ∧ W1 = w.drew.alloc (.cells ROW.toArray 81) := by
    refine ⟨_, grownCap w n 0 81, List.replicate n (.slice none 0 0) ++ List.replicate (grownCap w n 0 81 - n) (.slice none 0 0), fun ty => ?_, grownCap_ge w n 0 81, grownCap_le_maxLen w n 0 81 (by unfold maxLen; omega), ?_, rfl⟩
    · have h := Lib.run_append_grow_zeros w 52 3 ty 81 i0 _ .i64 .i64 Tryz.underlying52 Tryz.underlying3 hi0 hz0 none 0 0 [] (by simp [Builtin.firstCells]) n hp (by omega) (by omega) (by omega) (by rw [hz2]; omega) (by rw [hz2]; exact growslice_fits (by omega) (by omega))
      rw [Nat.zero_add, zeroCells_one _ rfl, zeroCells_one _ rfl, List.append_toArray, List.append_toArray, List.nil_append] at h
      exact h
    · have := grownCap_ge w n 0 81
      simp; omega
  have hown : W1.ownsRow w.heap.size 81 1 (.slice (some ⟨w.heap.size, 0, none⟩) 0 G) 0 [] := by
    rw [hW1]
    exact World.ownsRow_made w.drew ROW.toArray G (Nat.le_refl _) hGm (by simp [hRl])
  have hext : Ext w W1 := by rw [hW1]; exact (Ext.refl w).drew.alloc _
  have HOWN := Lib.hid hown; have HEXT := Lib.hid hext
  have hG1 : (0 : Int) ≤ (G : Int) := by omega
  unfold maxLen at hGm
  have hG2 : (G : Int) ≤ 9223372036854775807 := by omega
  clear hW1 hRl hown hext
  go_enter Tryz.func134, Tryz.ntmps134
  go_wp2_with (first | (at_builtin; refine Lib.wpList_append_run _ rfl _ _ _ _ rfl _ _ rfl rfl _ _ (hrz _) ?_))
  go_ret
  exact Ret.mk HEXT.out HOWN.out
set_option maxRecDepth 20000 in
set_option maxHeartbeats 1600000 in
theorem concat_rows {F G : Nat → Prop} {w : World} {g : Nat} {A B : Option Addr} {na ca nb cb : Nat} {us vs : List Value} (kb : Bk w g 52 [.slice A na ca, .slice B nb cb]) (hcl : Cl F w A us) (hcm : Cl G w B vs) (e2 : na = us.length) (e4 : nb = vs.length) (hca : na ≤ ca) (hcb : nb ≤ cb) (h1 : ∀ u ∈ us, u.oneCell' = true) (h2 : ∀ u ∈ vs, u.oneCell' = true) (hs : na + nb ≤ 1048576) :
    Calls Tryz.prog 111 #[.slice (some ⟨g, 0, none⟩) 2 2] w (Ret (fun x w' => w'.ownsRow w.heap.size 81 1 x (na + nb) (us ++ vs)) w) := by
  have HE2 := Lib.hid e2; have HE4 := Lib.hid e4; have HCL := Lib.hid hcl; have HCM := Lib.hid hcm; have HKB := Lib.hid kb
  have c0 := kb.cell (i := 0) (by simp); have c1 := kb.cell (i := 1) (by simp)
  simp only [List.getElem_cons_zero, List.getElem_cons_succ] at c0 c1
  obtain ⟨i0, hi0, hz0, hz1, hz2⟩ := info_parts info_row
  have HI0 := Lib.hid (And.intro hi0 (And.intro hz0 (And.intro hz1 hz2))); clear hi0 hz0 hz1 hz2
  have HL : Hid (us.length = na * 1 ∧ vs.length = nb * 1) := Lib.hid ⟨by omega, by omega⟩; have HO1 := Lib.hid h1; have HO2 := Lib.hid h2
  clear e2 e4 hcl hcm kb h1 h2
  have k1 : (0 : Int) ≤ (na : Int) := by omega
  have k2 : ¬ (na : Int) < 0 := by omega
  have k3 : ¬ (na : Int) + (nb : Int) < 0 := by omega
  have hn : na + nb ≤ 1048576 := hs
  go_enter Tryz.func111, Tryz.ntmps111
  go_wp2_with fail
  refine wp_loop_rounds 3 ?_
  rw [rounds_succ]
  go_wp2_with fail
  rw [rounds_succ]
  go_wp2_with fail
  rw [rounds_succ]
  go_wp2_with fail
  have hgrow := grow_rows (w := w) hn
  rw [show ((na + nb : Nat) : Int) = (na : Int) + (nb : Int) by omega] at hgrow
  refine hgrow.mono ?_
  rintro e w1 ⟨v1, rfl, he, hown⟩
  obtain ⟨A1, n1, rfl⟩ := own_slice hown
  replace c0 := he.cell c0; replace c1 := he.cell c1
  have HOWN := Lib.hid hown; have HX := Lib.hid he
  clear hgrow hown he
  go_wp2_with fail
  refine wp_loop_rounds 3 ?_
  rw [rounds_succ]
  go_wp2_with (first | (at_builtin; refine wpList_append_opt rfl _ _ 52 rfl w.heap.size 81 i0 (.slice none 0 0) 1 24 Tryz.underlying52 HI0.out.1 HI0.out.2.1 HI0.out.2.2.1 HI0.out.2.2.2 rfl (by omega) (.slice A1 0 n1) 0 [] rfl HOWN.out A na ca us rfl HL.out.1 ((HCL.out.ext HX.out).news) HO1.out (by simp only [maxLen]; omega) (by omega) HX.out.size ?_; intro v9 w9 hr9 hg9 hl9; rw [Nat.zero_add, List.nil_append] at hr9; obtain ⟨A9, c9, rfl⟩ := own_slice hr9; have HR9 := Lib.hid hr9; have hx9 : Ext w w9 := HX.out.grown hg9 (fun q hq => own_ge HOWN.out hq); have b0 := (HKB.out.ext hx9).cell (i := 0) (by simp); have b1 := (HKB.out.ext hx9).cell (i := 1) (by simp); simp only [List.getElem_cons_zero, List.getElem_cons_succ] at b0 b1; have HX9 := Lib.hid hx9; clear hr9 hg9 hl9 hx9))
  rw [rounds_succ]
  go_wp2_with (first | (at_builtin; refine wpList_append_opt rfl _ _ 52 rfl w.heap.size 81 i0 (.slice none 0 0) 1 24 Tryz.underlying52 HI0.out.1 HI0.out.2.1 HI0.out.2.2.1 HI0.out.2.2.2 rfl (by omega) (.slice A9 na c9) na us rfl HR9.out B nb cb vs rfl HL.out.2 ((HCM.out.ext HX9.out).news) HO2.out (by simp only [maxLen]; omega) (by omega) HX9.out.size ?_; intro v8 w8 hr8 hg8 hl8; obtain ⟨A8, c8, rfl⟩ := own_slice hr8; have HR8 := Lib.hid hr8; have HX8 : Hid (Ext w w8) := Lib.hid (HX9.out.grown hg8 (fun q hq => own_ge HR9.out hq)); clear hr8 hg8 hl8))
  rw [rounds_succ]
  go_wp2_with fail
  go_ret
  exact Ret.mk HX8.out HR8.out
set_option maxRecDepth 20000 in
set_option maxHeartbeats 1600000 in
theorem relsearch_any {F G : Nat → Prop} {w : World} {A B : Option Addr} {n c m d : Nat} {a : Int} {rows : List (List Vl)} {r : List Vl} (hS : SoR rows) (hA : Sl rdRow F w (.slice A n c) rows) (hB : Sl rdVl G w (.slice B m d) r) (hm : m ≤ 1048576) (hr : ∀ x ∈ rows, x.length ≤ 1048576) (hn : n ≤ 1048576) :
    Calls Tryz.prog 24 #[.agg #[.int .i64 a, .slice A n c], .slice B m d] w (SrPost rows r w) := by
  have kb := Bk.new w 54 [.int .i64 a, .slice A n c]
  have hx : Ext w (w.alloc (.cells #[.int .i64 a, .slice A n c] 54)) := (Ext.refl w).alloc _
  have HS := Lib.hid (fun (V : World) (hV : Ext w V) => rsearch_any hS (hA.ext hV) (hB.ext hV) hm hr hn)
  clear hS hA hB hr
  go_enter Tryz.func24, Tryz.ntmps24
  go_upto_region 1 with fail
  change Bk (w.alloc (.cells #[.int .i64 a, .slice A n c] 54)) _ _ _ at kb
  generalize (w.alloc (.cells #[.int .i64 a, .slice A n c] 54)) = w1 at *
  have b1 := kb.cell (i := 1) (by simp)
  simp only [List.getElem_cons_zero, List.getElem_cons_succ] at b1
  have HX := Lib.hid hx
  clear kb hx
  go_wp2_with fail
  refine (HS.out _ HX.out).mono ?_
  rintro e w2 ⟨he2, rfl⟩
  have HX2 := Lib.hid (HX.out.trans he2)
  clear he2 b1
  go_wp2_with fail
  go_ret2
  exact ⟨HX2.out, rfl⟩
theorem len_any {w : World} {a : Int} {A : Option Addr} {n c : Nat} :
    Calls Tryz.prog 25 #[.agg #[.int .i64 a, .slice A n c]] w (Ret (fun x _ => x = .int .i64 (n : Int)) w) := by
  go_enter Tryz.func25, Tryz.ntmps25
  go_wp2_with fail
  go_ret
  exact Ret.mk ((Ext.refl w).alloc _) rfl
/-- The error of a row that a relation does not take. -/
def accE (a : Int) (r : List Vl) : Int := if (r.length : Int) = a then (if valR r = true then 0 else 4) else 6
set_option maxRecDepth 20000 in
set_option maxHeartbeats 1600000 in
theorem accepts_any {G : Nat → Prop} {w : World} {A B : Option Addr} {n c m d : Nat} {a : Int} {r : List Vl} (hB : Sl rdVl G w (.slice B m d) r) (hm : m ≤ 1048576) (hz : ∀ v ∈ r, v.str.size ≤ maxLen) :
    Calls Tryz.prog 109 #[.agg #[.int .i64 a, .slice A n c], .slice B m d] w (Ret (fun x _ => x = .int .i64 (accE a r)) w) := by
  have hml := hB.cap.1
  have kb := Bk.new w 54 [.int .i64 a, .slice A n c]
  have hx : Ext w (w.alloc (.cells #[.int .i64 a, .slice A n c] 54)) := (Ext.refl w).alloc _
  have HV := Lib.hid (fun (V : World) (hV : Ext w V) => rvalid_any (hB.ext hV) hm hz)
  obtain ⟨z, hz2⟩ : ∃ z, z = accE a r := ⟨_, rfl⟩
  rw [← hz2]
  have HZ := Lib.hid hz2; have HML := Lib.hid hml
  clear hB hz hz2 hml
  go_enter Tryz.func109, Tryz.ntmps109
  go_upto_region 1 with fail
  change Bk (w.alloc (.cells #[.int .i64 a, .slice A n c] 54)) _ _ _ at kb
  generalize (w.alloc (.cells #[.int .i64 a, .slice A n c] 54)) = w1 at *
  have b0 := kb.cell (i := 0) (by simp)
  simp only [List.getElem_cons_zero] at b0
  have HX := Lib.hid hx
  clear kb hx
  by_cases hma : (m : Int) = a
  · have g1 : ((m : Int) != a) = false := by simpa using hma
    have HV2 := Lib.hid (HV.out w1 HX.out)
    obtain ⟨b, hb⟩ : ∃ b, b = valR r := ⟨_, rfl⟩
    rw [← hb] at HV2
    have HQ : Hid (z = if b = true then 0 else 4) := Lib.hid (by rw [HZ.out, hb]; unfold accE; rw [if_pos (by rw [← HML.out]; exact hma)])
    clear hma hb
    go_wp2_with fail
    refine HV2.out.mono ?_
    rintro e w2 ⟨y, rfl, he2, rfl⟩
    have HX2 := Lib.hid (HX.out.trans he2)
    clear he2 b0
    rcases b with _ | _
    · go_wp2_with fail
      go_ret
      exact Ret.mk HX2.out (by rw [HQ.out]; rfl)
    · go_wp2_with fail
      go_ret
      exact Ret.mk HX2.out (by rw [HQ.out]; rfl)
  · have g1 : ((m : Int) != a) = true := by simpa using hma
    have HQ : Hid (z = 6) := Lib.hid (by rw [HZ.out]; unfold accE; rw [if_neg (by rw [← HML.out]; exact hma)])
    clear hma
    go_wp2_with fail
    go_ret
    exact Ret.mk HX.out (by rw [HQ.out]; rfl)
/-- All rows, in memory of one's own. -/
def RowsPost (n : Nat) (rows : List (List Vl)) (w : World) (e : Ending) (w' : World) : Prop := Ext w w' ∧ ∃ g us, w.heap.size < g ∧ e = .returned (.slice (some ⟨g, 0, none⟩) n n) ∧ OwR (fun k => g < k) w' g (.slice (some ⟨g, 0, none⟩) n n) n us rows
set_option maxRecDepth 20000 in
set_option maxHeartbeats 3200000 in
theorem rows_any {F : Nat → Prop} {w : World} {A : Option Addr} {n c : Nat} {a : Int} {rows : List (List Vl)} (hA : Sl rdRow F w (.slice A n c) rows) (hr : ∀ x ∈ rows, x.length ≤ 1048576) (hn : n ≤ 1048576) :
    Calls Tryz.prog 22 #[.agg #[.int .i64 a, .slice A n c]] w (RowsPost n rows w) := by
  have hnl := hA.cap.1
  have kb := Bk.new w 54 [.int .i64 a, .slice A n c]
  have hx : Ext w (w.alloc (.cells #[.int .i64 a, .slice A n c] 54)) := (Ext.refl w).alloc _
  have HA := Lib.hid hA; have HR := Lib.hid hr; have HNL := Lib.hid hnl
  obtain ⟨p0, hp0, hx0, hx1, hx2⟩ := info_parts info_row
  clear hA hr hnl
  go_enter Tryz.func22, Tryz.ntmps22
  go_upto_region 1 with fail
  change Bk (w.alloc (.cells #[.int .i64 a, .slice A n c] 54)) _ _ _ at kb
  generalize (w.alloc (.cells #[.int .i64 a, .slice A n c] 54)) = w1 at *
  have b1 := kb.cell (i := 1) (by simp)
  simp only [List.getElem_cons_zero, List.getElem_cons_succ] at b1
  have hlt1 := kb.lt
  obtain ⟨w2, hrun, hown, hgrow⟩ := run_make_full (P := Tryz.prog) w1 w1.heap.size 52 81 p0 (.slice none 0 0) 1 Tryz.underlying52 hp0 hx0 hx1 .i64 .i64 n (by rw [hx2]; omega) (by simp only [maxLen]; omega) (Nat.le_refl _)
  have hwg : w1.heap.size < w2.heap.size := by
    rcases hown.2 with ⟨h0, -⟩ | ⟨g', cap', cur, e, hb, hc, -⟩
    · cases h0
    · injection e with e1
      injection e1 with e1
      injection e1 with e1
      have := (Array.getElem?_eq_some_iff.1 hc).1
      omega
  have hX2 : Ext w1 w2 := (Ext.refl w1).grown hgrow (fun k hk => by cases hk)
  obtain ⟨cur0, hcur0⟩ : ∃ l, l = (madeCells (Value.cells (.slice none 0 0)) (n * 1)).toList := ⟨_, rfl⟩
  rw [← hcur0] at hown
  have HOWN := Lib.hid hown; have HX2 := Lib.hid (hx.trans hX2); have HKA2 := Lib.hid (kb.ext hX2)
  obtain ⟨g, hg⟩ : ∃ g, g = w1.heap.size := ⟨_, rfl⟩
  rw [← hg] at HOWN hrun hwg hlt1
  have HWG := Lib.hid hlt1
  clear hp0 hx0 hx1 hx2 hown hgrow hX2 hcur0 hg kb hx
  go_upto_region 2 with fail
  clear hrun b1
  go_wp2_with fail
  go_loopw [11] (fun t wr => ∃ (j : Nat) (cur : List Value), j ≤ n ∧ t = .int .i64 (j : Int) ∧ Hid (wr.ownsRow g 81 1 (.slice (some ⟨g, 0, none⟩) n n) n cur) ∧ Hid (∀ q (h : q < rows.length) (h' : q < cur.length), q < j → Sl rdVl (fun k => g < k) wr cur[q] rows[q]) ∧ Fr (fun b => b = g) w2 wr) (fun t _ => n - (intOf t).toNat)
  case atStart => exact ⟨0, cur0, Nat.zero_le _, rfl, HOWN, Lib.hid (fun q h h' h0 => by omega), Fr.refl _ _⟩
  case round =>
    obtain ⟨j, cur, hj, rfl, HOW, HRD, hfr⟩ := hrel
    obtain ⟨W3, rfl⟩ : ∃ W : World, W = wr := ⟨_, rfl⟩
    have HF := Lib.hid hfr
    have hxw : Ext w W3 := hfr.new HX2.out (fun b hb => by omega)
    have HXW := Lib.hid hxw
    have a1 := (HKA2.out.fr hfr (by omega)).cell (i := 1) (by simp)
    simp only [List.getElem_cons_zero, List.getElem_cons_succ] at a1
    have hgl : g < W3.heap.size := by have := hfr.size; omega
    by_cases hlt : j < n
    · have i1 : (0 : Int) ≤ (j : Int) := by omega
      have i2 : (j : Int) < (n : Int) := by omega
      have hjr : j < rows.length := by have := HNL.out; omega
      obtain ⟨ad, B, e, rfl, -, c0, hrow⟩ := HA.out.row hjr
      replace c0 := hxw.cell c0
      have hlen := HR.out _ (List.getElem_mem hjr)
      obtain ⟨xr, hxr⟩ : ∃ q, q = rows[j]'hjr := ⟨_, rfl⟩
      rw [← hxr] at c0 hrow hlen
      have HXRJ := Lib.hid hxr
      have HP := Lib.hid (fun (V : World) (hV : Ext w V) => clone_row (w := V) (hrow.ext hV) hlen)
      obtain ⟨⟨o0, p0⟩, f0⟩ := own_cellS HOW.out (i := j) (by omega)
      obtain ⟨nx, hnx⟩ : ∃ q, q = xr.length := ⟨_, rfl⟩
      rw [← hnx] at c0 HP
      clear hrow hlen hnx hxr hfr hxw
      go_wp2_with fail
      refine (HP.out _ HXW.out).mono ?_
      rintro e w5 ⟨y, rfl, he5, A5, c5, rfl, hy⟩
      replace p0 := he5.cell p0
      have ho5 := own_ext' HOW.out he5
      have f5 := (own_cellS ho5 (i := j) (by omega)).2
      have hy2 := hy.mono (G := fun k => g < k) (by decide) (fun k _ hk => by omega)
      have hf6 := (HF.out.ext he5).setCell (p := ⟨g, j, none⟩) (.inl rfl) (.slice A5 nx c5)
      have ho6 := own_setc ho5 (i := j) (by omega) (.slice A5 nx c5)
      have hst : Fr (fun k => k = g) w5 (w5.setCell ⟨g, j, none⟩ (.slice A5 nx c5)) := (Fr.refl (fun k => k = g) w5).setCell (p := ⟨g, j, none⟩) (.inl rfl) _
      have HF6 := Lib.hid hf6; have HO6 := Lib.hid ho6
      have HRD6 : Hid (∀ q (h : q < rows.length) (h' : q < (cur.set j (.slice A5 nx c5)).length), q < j + 1 → Sl rdVl (fun k => g < k) (w5.setCell ⟨g, j, none⟩ (.slice A5 nx c5)) (cur.set j (.slice A5 nx c5))[q] rows[q]) := Lib.hid (fun q h h' h0 => by
        by_cases hqj : q = j
        · subst hqj
          rw [List.getElem_set_self, ← HXRJ.out]
          exact hy2.fr hst (fun k hk e => by omega)
        · rw [List.getElem_set_ne (fun e => hqj e.symm)]
          exact ((HRD.out q h (by simpa using h') (by omega)).ext he5).fr hst (fun k hk e => by omega))
      clear he5 ho5 hy hy2 hf6 ho6 hst f0 c0
      go_wp2_with fail
      go_roundw
      case rel => exact ⟨j + 1, _, by omega, by go_num, HO6, HRD6, HF6.out⟩
      case measure => simp [intOf]; omega
    · obtain rfl : j = n := by omega
      have hdj : ¬ (j : Int) < (j : Int) := by omega
      have HQ : Hid (RowsPost j rows w (.returned (.slice (some ⟨g, 0, none⟩) j j)) W3) := Lib.hid ⟨HXW.out, g, cur, HWG.out, rfl, HOW.out, by have := HOW.out.1; have := HNL.out; omega, fun q h h' => (HRD.out q h h' (by have := HNL.out; omega)).mono (by decide) (fun k _ hk => ⟨hk, fun e => by
        have e2 : g = k := by injection e
        omega⟩)⟩
      clear hfr hxw a1
      go_wp2_with fail
      go_ret
      exact HQ.out
end Go.Proofs.YtmmmdinncmbjkaaGreat
