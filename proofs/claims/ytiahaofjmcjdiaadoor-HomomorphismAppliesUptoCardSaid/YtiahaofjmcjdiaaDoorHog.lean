/- Contract: numbers.of at a term that is known: nothing turns. -/
import Derived.Test.YtiahaofjmcjdiaaDoorRe
namespace Go.Proofs.YtiahaofjmcjdiaaDoor
open Go.RowKit

def KnownPost (ts : List Tm) (t : Tm) (w : World) (e : Ending) (w' : World) : Prop := e = .returned (.int .i64 (numT ts t)) ∧ Ext w w'

set_option maxRecDepth 20000 in
set_option maxHeartbeats 1600000 in
theorem of_var_known {w : World} {base g : Nat} {v : Value} {ts : List Tm} {t : Tm} (h : NumB w base g v ts) (hl : ts.length ≤ 1048577) (hbase : base ≤ w.heap.size) (hv : t.var.toList.isEmpty = false) (hf : Hid (t.key ∈ ts)) (HKEY : Hid (t.key = ⟨t.var, 0, 0, ⟨#[]⟩⟩)) (HNUM : Hid (∀ i : Nat, (addT ts t).idxOf t.key = i → numT ts t = -1 - (i : Int))) :
    Calls Tryd.prog 15 #[.pointer (some ⟨g, 0, none⟩), t.val] w (KnownPost ts t w) := by
  obtain ⟨A, c, rfl, hc, hcl⟩ := Cl.of_own h.row
  obtain ⟨n, hn⟩ : ∃ n, n = ts.length := ⟨_, rfl⟩
  have d0 : w.cell? ⟨g, 0, none⟩ = some (.slice A ts.length c) := h.cell.cell (i := 0) (by simp)
  have f0 : w.frozen? ⟨g, 0, none⟩ = false := h.cell.free 0
  rw [← hn] at hc hl d0 h
  have HN := Lib.hid hn
  have hg := h.cell.lt
  have HCL := Lib.hid hcl; have HH := Lib.hid h
  clear hcl h hn
  go_enter Tryd.func15, Tryd.ntmps15
  have hx1 : Ext w (w.alloc (.cells #[.string t.var, .int .i64 0, .int .i64 0, .string ⟨#[]⟩] 47)) := (Ext.refl w).alloc _
  have d1 := hx1.cell d0
  go_wp2_with fail
  clear d1
  have HX1 := Lib.hid hx1
  clear hx1
  have k1 := Bk.new w 47 [.string t.var, .int .i64 0, .int .i64 0, .string ⟨#[]⟩]
  change Bk (w.alloc (.cells #[.string t.var, .int .i64 0, .int .i64 0, .string ⟨#[]⟩] 47)) _ _ _ at k1
  generalize (w.alloc (.cells #[.string t.var, .int .i64 0, .int .i64 0, .string ⟨#[]⟩] 47)) = w1 at *
  go_loopw [17] (fun q wr => ∃ i : Nat, i ≤ n ∧ q = .int .i64 (i : Int) ∧ (∀ j (h : j < ts.length), j < i → ts[j] ≠ t.key) ∧ Ext w1 wr) (fun q _ => n - (intOf q).toNat)
  case atStart => exact ⟨0, Nat.zero_le _, rfl, fun _ _ h => absurd h (by omega), Ext.refl _⟩
  case round =>
    obtain ⟨i, hi, rfl, hne, hext⟩ := hrel
    have HNE := Lib.hid hne
    clear hne
    have kr := k1.ext hext
    have e0 := kr.cell (i := 0) (by simp)
    have e1 := kr.cell (i := 1) (by simp)
    have e2 := kr.cell (i := 2) (by simp)
    have e3 := kr.cell (i := 3) (by simp)
    simp only [List.getElem_cons_zero, List.getElem_cons_succ] at e0 e1 e2 e3
    have hsz := kr.lt
    have hxr := HX1.out.trans hext
    clear kr
    by_cases hlt : i < n
    · obtain ⟨ad, rfl, -, c0, c1, c2, c3⟩ := HCL.out.term (i := i) (by have := HN.out; omega)
      replace c0 := hxr.cell c0
      replace c1 := hxr.cell c1
      replace c2 := hxr.cell c2
      replace c3 := hxr.cell c3
      obtain ⟨x, hx⟩ : ∃ x, x = ts[i]'(by have := HN.out; omega) := ⟨_, rfl⟩
      rw [← hx] at c0 c1 c2 c3
      have HX := Lib.hid hx
      have HXR := Lib.hid hxr
      clear hx hxr d0 f0
      have i1 : (0 : Int) ≤ (i : Int) := by omega
      have i2 : (i : Int) < (n : Int) := by omega
      by_cases hxu : x = t.key
      · have HXU := Lib.hid hxu
        rw [HKEY.out] at hxu
        rw [hxu] at c0 c1 c2 c3
        clear hxu
        go_wp2_with fail
        go_ret
        refine ⟨?_, HXR.out.alloc _⟩
        refine congrArg (fun x => Ending.returned (.int .i64 x)) (HNUM.out i ?_).symm
        rw [addT, if_pos hf.out]
        exact idx_first (by have := HN.out; omega) (HX.out.symm.trans HXU.out) HNE.out
      · have HXU := Lib.hid hxu
        clear hxu
        go_wp2_with fail
        all_goals first
          | (exfalso; refine HXU.out ?_; rw [HKEY.out]; exact Tm.ext4 (by assumption) (by assumption) (by assumption) (by first | assumption | (rw [nil_toList]; assumption)))
          | (go_roundw
             case rel =>
               refine ⟨i + 1, by omega, by go_num, fun j hj hji => ?_, (hext.alloc _)⟩
               rcases Nat.lt_or_ge j i with h | h
               · exact HNE.out j hj h
               · obtain rfl : j = i := by omega
                 rw [← HX.out]; exact HXU.out
             case measure => simp [intOf]; omega)
    · obtain rfl : i = n := by omega
      exfalso
      obtain ⟨j, hj, e⟩ := List.getElem_of_mem hf.out
      exact HNE.out j hj (by have := HN.out; omega) e

set_option maxRecDepth 20000 in
set_option maxHeartbeats 1600000 in
theorem of_const_known {w : World} {base g : Nat} {v : Value} {ts : List Tm} {t : Tm} (h : NumB w base g v ts) (hl : ts.length ≤ 1048577) (hbase : base ≤ w.heap.size) (hv : t.var.toList.isEmpty = true) (hf : Hid (t.key ∈ ts)) (HKEY : Hid (t.key = ⟨t.var, t.kind, t.int, t.str⟩)) (HNUM : Hid (∀ i : Nat, (addT ts t).idxOf t.key = i → numT ts t = 1 + (i : Int))) :
    Calls Tryd.prog 15 #[.pointer (some ⟨g, 0, none⟩), t.val] w (KnownPost ts t w) := by
  obtain ⟨A, c, rfl, hc, hcl⟩ := Cl.of_own h.row
  obtain ⟨n, hn⟩ : ∃ n, n = ts.length := ⟨_, rfl⟩
  have d0 : w.cell? ⟨g, 0, none⟩ = some (.slice A ts.length c) := h.cell.cell (i := 0) (by simp)
  have f0 : w.frozen? ⟨g, 0, none⟩ = false := h.cell.free 0
  rw [← hn] at hc hl d0 h
  have HN := Lib.hid hn
  have hg := h.cell.lt
  have HCL := Lib.hid hcl; have HH := Lib.hid h
  clear hcl h hn
  go_enter Tryd.func15, Tryd.ntmps15
  have hx1 : Ext w (w.alloc (.cells #[.string t.var, .int .i64 t.kind, .int .i64 t.int, .string t.str] 47)) := (Ext.refl w).alloc _
  have d1 := hx1.cell d0
  go_wp2_with fail
  clear d1
  have HX1 := Lib.hid hx1
  clear hx1
  have k1 := Bk.new w 47 [.string t.var, .int .i64 t.kind, .int .i64 t.int, .string t.str]
  change Bk (w.alloc (.cells #[.string t.var, .int .i64 t.kind, .int .i64 t.int, .string t.str] 47)) _ _ _ at k1
  generalize (w.alloc (.cells #[.string t.var, .int .i64 t.kind, .int .i64 t.int, .string t.str] 47)) = w1 at *
  go_loopw [17] (fun q wr => ∃ i : Nat, i ≤ n ∧ q = .int .i64 (i : Int) ∧ (∀ j (h : j < ts.length), j < i → ts[j] ≠ t.key) ∧ Ext w1 wr) (fun q _ => n - (intOf q).toNat)
  case atStart => exact ⟨0, Nat.zero_le _, rfl, fun _ _ h => absurd h (by omega), Ext.refl _⟩
  case round =>
    obtain ⟨i, hi, rfl, hne, hext⟩ := hrel
    have HNE := Lib.hid hne
    clear hne
    have kr := k1.ext hext
    have e0 := kr.cell (i := 0) (by simp)
    have e1 := kr.cell (i := 1) (by simp)
    have e2 := kr.cell (i := 2) (by simp)
    have e3 := kr.cell (i := 3) (by simp)
    simp only [List.getElem_cons_zero, List.getElem_cons_succ] at e0 e1 e2 e3
    have hsz := kr.lt
    have hxr := HX1.out.trans hext
    clear kr
    by_cases hlt : i < n
    · obtain ⟨ad, rfl, -, c0, c1, c2, c3⟩ := HCL.out.term (i := i) (by have := HN.out; omega)
      replace c0 := hxr.cell c0
      replace c1 := hxr.cell c1
      replace c2 := hxr.cell c2
      replace c3 := hxr.cell c3
      obtain ⟨x, hx⟩ : ∃ x, x = ts[i]'(by have := HN.out; omega) := ⟨_, rfl⟩
      rw [← hx] at c0 c1 c2 c3
      have HX := Lib.hid hx
      have HXR := Lib.hid hxr
      clear hx hxr d0 f0
      have i1 : (0 : Int) ≤ (i : Int) := by omega
      have i2 : (i : Int) < (n : Int) := by omega
      by_cases hxu : x = t.key
      · have HXU := Lib.hid hxu
        rw [HKEY.out] at hxu
        rw [hxu] at c0 c1 c2 c3
        clear hxu
        go_wp2_with fail
        go_ret
        refine ⟨?_, HXR.out.alloc _⟩
        refine congrArg (fun x => Ending.returned (.int .i64 x)) (HNUM.out i ?_).symm
        rw [addT, if_pos hf.out]
        exact idx_first (by have := HN.out; omega) (HX.out.symm.trans HXU.out) HNE.out
      · have HXU := Lib.hid hxu
        clear hxu
        go_wp2_with fail
        all_goals first
          | (exfalso; refine HXU.out ?_; rw [HKEY.out]; exact Tm.ext4 (by assumption) (by assumption) (by assumption) (by first | assumption | (rw [nil_toList]; assumption)))
          | (go_roundw
             case rel =>
               refine ⟨i + 1, by omega, by go_num, fun j hj hji => ?_, (hext.alloc _)⟩
               rcases Nat.lt_or_ge j i with h | h
               · exact HNE.out j hj h
               · obtain rfl : j = i := by omega
                 rw [← HX.out]; exact HXU.out
             case measure => simp [intOf]; omega)
    · obtain rfl : i = n := by omega
      exfalso
      obtain ⟨j, hj, e⟩ := List.getElem_of_mem hf.out
      exact HNE.out j hj (by have := HN.out; omega) e

theorem of_known {w : World} {base g : Nat} {v : Value} {ts : List Tm} {t : Tm} (h : NumB w base g v ts) (hl : ts.length ≤ 1048576) (hbase : base ≤ w.heap.size) (hf : t.key ∈ ts) :
    Calls Tryd.prog 15 #[.pointer (some ⟨g, 0, none⟩), t.val] w (KnownPost ts t w) := by
  by_cases hv : t.var = ⟨#[]⟩
  · exact of_const_known h (by omega) hbase (by rw [var_empty, decide_eq_true hv]) (Lib.hid hf) (Lib.hid (key_const hv)) (Lib.hid (num_const hv))
  · exact of_var_known h (by omega) hbase (by rw [var_empty, decide_eq_false hv]) (Lib.hid hf) (Lib.hid (key_var hv)) (Lib.hid (num_var hv))
end Go.Proofs.YtiahaofjmcjdiaaDoor
