/- Contract: numbers.of. -/
import Derived.Test.YtiahaofjmcjdiaaDoorHo
import Derived.Test.YtiahaofjmcjdiaaDoorAp
namespace Go.Proofs.YtiahaofjmcjdiaaDoor
open Go.RowKit

theorem key_key (t : Tm) : t.key.key = t.key := by
  unfold Tm.key
  by_cases h : t.var = ⟨#[]⟩
  · simp [h]
  · simp [h]
theorem var_empty (s : ByteArray) : s.toList.isEmpty = decide (s = ⟨#[]⟩) := by
  by_cases h : s = ⟨#[]⟩
  · subst h; rw [ByteArray.toList_eq]; rfl
  · have : s.toList ≠ [] := fun e => h ((toList_nil_iff_emptyBytes s).1 e)
    rw [decide_eq_false h]
    rcases hs : s.toList with _ | ⟨a, l⟩
    · exact absurd hs this
    · rfl
theorem nil_toList : (ByteArray.mk #[]).toList = [] := by rw [ByteArray.toList_eq]
theorem toList_inj {a b : ByteArray} (h : a.toList = b.toList) : a = b := by
  rw [ByteArray.toList_eq, ByteArray.toList_eq] at h
  exact Go.WideShapes.bytes_inj h
theorem Tm.ext4 {x u : Tm} (h1 : x.var.toList = u.var.toList) (h2 : x.kind = u.kind) (h3 : x.int = u.int) (h4 : x.str.toList = u.str.toList) : x = u := by
  obtain ⟨a, b, c, d⟩ := x; obtain ⟨a', b', c', d'⟩ := u
  simp only at h1 h2 h3 h4
  rw [toList_inj h1, h2, h3, toList_inj h4]
theorem info_term : (Tryd.prog.info? 47).map (fun i => (i.zero, i.size, i.bytes)) = some (some (.agg #[.string ⟨#[]⟩, .int .i64 0, .int .i64 0, .string ⟨#[]⟩]), 4, 48) := by kernel_rfl
theorem idx_first {ts : List Tm} {i : Nat} {u : Tm} (hi : i < ts.length) (h : ts[i] = u) (hne : ∀ j (h : j < ts.length), j < i → ts[j] ≠ u) : ts.idxOf u = i := by
  induction ts generalizing i with
  | nil => simp at hi
  | cons t ts ih =>
    rcases i with _ | i
    · simp at h; subst h; simp
    · have h0 : t ≠ u := hne 0 (by simp) (by omega)
      rw [List.idxOf_cons, show (t == u) = false from beq_false_of_ne h0, cond_false, ih (by simpa using hi) (by simpa using h) (fun j hj hji => by have := hne (j + 1) (by simp; omega) (by omega); simpa using this)]

theorem NumB.ne {w : World} {base g : Nat} {v : Value} {ts : List Tm} (h : NumB w base g v ts) {k : Nat} (hk : v.ownBlock = some k) : k ≠ g := by
  rcases h.row.2 with ⟨rfl, _⟩ | ⟨b, cap, cur, rfl, _, hb, _⟩
  · simp [Value.ownBlock] at hk
  · simp [Value.ownBlock] at hk
    subst hk
    exact (h.cell.ne hb (by decide)).symm

theorem grown_set (w : World) (g : Nat) (u : Value) : w.grownBy (w.setCell ⟨g, 0, none⟩ u) (some g) :=
  have h := (Fr.refl (fun k => k = g) w).setCell (p := ⟨g, 0, none⟩) (.inl rfl) u
  ⟨h.os, h.tape, h.output, h.size, fun k hk hn => h.block k hk (fun e => hn (by rw [e]))⟩
/-- What a call of of leaves. -/
def OfPost (base g : Nat) (v : Value) (ts : List Tm) (t : Tm) (w : World) (e : Ending) (w' : World) : Prop :=
  ∃ x v', e = .returned (.int .i64 x) ∧ x = numT ts t ∧ NumB w' base g v' (addT ts t) ∧ Fr (fun k => k = g ∨ v.ownBlock = some k) w w' ∧ (v'.ownBlock = v.ownBlock ∨ ∀ k, v'.ownBlock = some k → w.heap.size ≤ k)

set_option maxRecDepth 20000 in
set_option maxHeartbeats 1600000 in
theorem of_var_old {w : World} {base g : Nat} {v : Value} {ts : List Tm} {t : Tm} (h : NumB w base g v ts) (hl : ts.length ≤ 1048577) (hbase : base ≤ w.heap.size) (hv : t.var.toList.isEmpty = false) (hf : Hid (t.key ∈ ts)) (HKEY : Hid (t.key = ⟨t.var, 0, 0, ⟨#[]⟩⟩)) (HNUM : Hid (∀ i : Nat, (addT ts t).idxOf t.key = i → numT ts t = -1 - (i : Int))) :
    Calls Tryd.prog 15 #[.pointer (some ⟨g, 0, none⟩), t.val] w (OfPost base g v ts t w) := by
  obtain ⟨A, c, rfl, hc, hcl⟩ := Cl.of_own h.row
  obtain ⟨n, hn⟩ : ∃ n, n = ts.length := ⟨_, rfl⟩
  have d0 : w.cell? ⟨g, 0, none⟩ = some (.slice A ts.length c) := h.cell.cell (i := 0) (by simp)
  have f0 : w.frozen? ⟨g, 0, none⟩ = false := h.cell.free 0
  rw [← hn] at hc hl d0 h ⊢
  have HN := Lib.hid hn
  have hg := h.cell.lt
  have HCL := Lib.hid hcl; have HH := Lib.hid h
  clear hcl h hn
  go_enter Tryd.func15, Tryd.ntmps15
  have hx1 : Ext w (w.alloc (.cells #[.string t.var, .int .i64 0, .int .i64 0, .string ⟨#[]⟩] 47)) := (Ext.refl w).alloc _
  have d1 := hx1.cell d0
  go_wp2_with fail
  clear d1
  have HX1 := Lib.hid hx1
  clear hx1
  have k1 := Bk.new w 47 [.string t.var, .int .i64 0, .int .i64 0, .string ⟨#[]⟩]
  change Bk (w.alloc (.cells #[.string t.var, .int .i64 0, .int .i64 0, .string ⟨#[]⟩] 47)) _ _ _ at k1
  generalize (w.alloc (.cells #[.string t.var, .int .i64 0, .int .i64 0, .string ⟨#[]⟩] 47)) = w1 at *
  go_loopw [17] (fun q wr => ∃ i : Nat, i ≤ n ∧ q = .int .i64 (i : Int) ∧ (∀ j (h : j < ts.length), j < i → ts[j] ≠ t.key) ∧ Ext w1 wr) (fun q _ => n - (intOf q).toNat)
  case atStart => exact ⟨0, Nat.zero_le _, rfl, fun _ _ h => absurd h (by omega), Ext.refl _⟩
  case round =>
    obtain ⟨i, hi, rfl, hne, hext⟩ := hrel
    have HNE := Lib.hid hne
    clear hne
    have kr := k1.ext hext
    have e0 := kr.cell (i := 0) (by simp)
    have e1 := kr.cell (i := 1) (by simp)
    have e2 := kr.cell (i := 2) (by simp)
    have e3 := kr.cell (i := 3) (by simp)
    simp only [List.getElem_cons_zero, List.getElem_cons_succ] at e0 e1 e2 e3
    have hsz := kr.lt
    have hxr := HX1.out.trans hext
    clear kr
    by_cases hlt : i < n
    · obtain ⟨ad, rfl, -, c0, c1, c2, c3⟩ := HCL.out.term (i := i) (by have := HN.out; omega)
      replace c0 := hxr.cell c0
      replace c1 := hxr.cell c1
      replace c2 := hxr.cell c2
      replace c3 := hxr.cell c3
      obtain ⟨x, hx⟩ : ∃ x, x = ts[i]'(by have := HN.out; omega) := ⟨_, rfl⟩
      rw [← hx] at c0 c1 c2 c3
      have HX := Lib.hid hx
      have HXR := Lib.hid hxr
      clear hx hxr d0 f0
      have i1 : (0 : Int) ≤ (i : Int) := by omega
      have i2 : (i : Int) < (n : Int) := by omega
      by_cases hxu : x = t.key
      · have HXU := Lib.hid hxu
        rw [HKEY.out] at hxu
        rw [hxu] at c0 c1 c2 c3
        clear hxu
        go_wp2_with fail
        go_ret
        refine ⟨_, _, rfl, ?_, ?_, ?_, .inl rfl⟩
        · refine (HNUM.out i ?_).symm
          rw [addT, if_pos hf.out]
          exact idx_first (by have := HN.out; omega) (HX.out.symm.trans HXU.out) HNE.out
        · rw [addT, if_pos hf.out]
          exact HH.out.ext (HXR.out.alloc _)
        · exact (HXR.out.alloc _).fr _
      · have HXU := Lib.hid hxu
        clear hxu
        go_wp2_with fail
        all_goals first
          | (exfalso; refine HXU.out ?_; rw [HKEY.out]; exact Tm.ext4 (by assumption) (by assumption) (by assumption) (by first | assumption | (rw [nil_toList]; assumption)))
          | (go_roundw
             case rel =>
               refine ⟨i + 1, by omega, by go_num, fun j hj hji => ?_, (hext.alloc _)⟩
               rcases Nat.lt_or_ge j i with h | h
               · exact HNE.out j hj h
               · obtain rfl : j = i := by omega
                 rw [← HX.out]; exact HXU.out
             case measure => simp [intOf]; omega)
    · obtain rfl : i = n := by omega
      exfalso
      obtain ⟨j, hj, e⟩ := List.getElem_of_mem hf.out
      exact HNE.out j hj (by have := HN.out; omega) e

set_option maxRecDepth 20000 in
set_option maxHeartbeats 1600000 in
theorem of_const_old {w : World} {base g : Nat} {v : Value} {ts : List Tm} {t : Tm} (h : NumB w base g v ts) (hl : ts.length ≤ 1048577) (hbase : base ≤ w.heap.size) (hv : t.var.toList.isEmpty = true) (hf : Hid (t.key ∈ ts)) (HKEY : Hid (t.key = ⟨t.var, t.kind, t.int, t.str⟩)) (HNUM : Hid (∀ i : Nat, (addT ts t).idxOf t.key = i → numT ts t = 1 + (i : Int))) :
    Calls Tryd.prog 15 #[.pointer (some ⟨g, 0, none⟩), t.val] w (OfPost base g v ts t w) := by
  obtain ⟨A, c, rfl, hc, hcl⟩ := Cl.of_own h.row
  obtain ⟨n, hn⟩ : ∃ n, n = ts.length := ⟨_, rfl⟩
  have d0 : w.cell? ⟨g, 0, none⟩ = some (.slice A ts.length c) := h.cell.cell (i := 0) (by simp)
  have f0 : w.frozen? ⟨g, 0, none⟩ = false := h.cell.free 0
  rw [← hn] at hc hl d0 h ⊢
  have HN := Lib.hid hn
  have hg := h.cell.lt
  have HCL := Lib.hid hcl; have HH := Lib.hid h
  clear hcl h hn
  go_enter Tryd.func15, Tryd.ntmps15
  have hx1 : Ext w (w.alloc (.cells #[.string t.var, .int .i64 t.kind, .int .i64 t.int, .string t.str] 47)) := (Ext.refl w).alloc _
  have d1 := hx1.cell d0
  go_wp2_with fail
  clear d1
  have HX1 := Lib.hid hx1
  clear hx1
  have k1 := Bk.new w 47 [.string t.var, .int .i64 t.kind, .int .i64 t.int, .string t.str]
  change Bk (w.alloc (.cells #[.string t.var, .int .i64 t.kind, .int .i64 t.int, .string t.str] 47)) _ _ _ at k1
  generalize (w.alloc (.cells #[.string t.var, .int .i64 t.kind, .int .i64 t.int, .string t.str] 47)) = w1 at *
  go_loopw [17] (fun q wr => ∃ i : Nat, i ≤ n ∧ q = .int .i64 (i : Int) ∧ (∀ j (h : j < ts.length), j < i → ts[j] ≠ t.key) ∧ Ext w1 wr) (fun q _ => n - (intOf q).toNat)
  case atStart => exact ⟨0, Nat.zero_le _, rfl, fun _ _ h => absurd h (by omega), Ext.refl _⟩
  case round =>
    obtain ⟨i, hi, rfl, hne, hext⟩ := hrel
    have HNE := Lib.hid hne
    clear hne
    have kr := k1.ext hext
    have e0 := kr.cell (i := 0) (by simp)
    have e1 := kr.cell (i := 1) (by simp)
    have e2 := kr.cell (i := 2) (by simp)
    have e3 := kr.cell (i := 3) (by simp)
    simp only [List.getElem_cons_zero, List.getElem_cons_succ] at e0 e1 e2 e3
    have hsz := kr.lt
    have hxr := HX1.out.trans hext
    clear kr
    by_cases hlt : i < n
    · obtain ⟨ad, rfl, -, c0, c1, c2, c3⟩ := HCL.out.term (i := i) (by have := HN.out; omega)
      replace c0 := hxr.cell c0
      replace c1 := hxr.cell c1
      replace c2 := hxr.cell c2
      replace c3 := hxr.cell c3
      obtain ⟨x, hx⟩ : ∃ x, x = ts[i]'(by have := HN.out; omega) := ⟨_, rfl⟩
      rw [← hx] at c0 c1 c2 c3
      have HX := Lib.hid hx
      have HXR := Lib.hid hxr
      clear hx hxr d0 f0
      have i1 : (0 : Int) ≤ (i : Int) := by omega
      have i2 : (i : Int) < (n : Int) := by omega
      by_cases hxu : x = t.key
      · have HXU := Lib.hid hxu
        rw [HKEY.out] at hxu
        rw [hxu] at c0 c1 c2 c3
        clear hxu
        go_wp2_with fail
        go_ret
        refine ⟨_, _, rfl, ?_, ?_, ?_, .inl rfl⟩
        · refine (HNUM.out i ?_).symm
          rw [addT, if_pos hf.out]
          exact idx_first (by have := HN.out; omega) (HX.out.symm.trans HXU.out) HNE.out
        · rw [addT, if_pos hf.out]
          exact HH.out.ext (HXR.out.alloc _)
        · exact (HXR.out.alloc _).fr _
      · have HXU := Lib.hid hxu
        clear hxu
        go_wp2_with fail
        all_goals first
          | (exfalso; refine HXU.out ?_; rw [HKEY.out]; exact Tm.ext4 (by assumption) (by assumption) (by assumption) (by first | assumption | (rw [nil_toList]; assumption)))
          | (go_roundw
             case rel =>
               refine ⟨i + 1, by omega, by go_num, fun j hj hji => ?_, (hext.alloc _)⟩
               rcases Nat.lt_or_ge j i with h | h
               · exact HNE.out j hj h
               · obtain rfl : j = i := by omega
                 rw [← HX.out]; exact HXU.out
             case measure => simp [intOf]; omega)
    · obtain rfl : i = n := by omega
      exfalso
      obtain ⟨j, hj, e⟩ := List.getElem_of_mem hf.out
      exact HNE.out j hj (by have := HN.out; omega) e

theorem key_var {t : Tm} (h : t.var ≠ ⟨#[]⟩) : t.key = ⟨t.var, 0, 0, ⟨#[]⟩⟩ := by rw [Tm.key, if_neg h]
theorem key_const {t : Tm} (h : t.var = ⟨#[]⟩) : t.key = ⟨t.var, t.kind, t.int, t.str⟩ := by rw [Tm.key, if_pos h]
theorem num_var {ts : List Tm} {t : Tm} (h : t.var ≠ ⟨#[]⟩) (i : Nat) (hi : (addT ts t).idxOf t.key = i) : numT ts t = -1 - (i : Int) := by rw [numT, if_neg h, hi]
theorem num_const {ts : List Tm} {t : Tm} (h : t.var = ⟨#[]⟩) (i : Nat) (hi : (addT ts t).idxOf t.key = i) : numT ts t = 1 + (i : Int) := by rw [numT, if_pos h, hi]
theorem of_old {w : World} {base g : Nat} {v : Value} {ts : List Tm} {t : Tm} (h : NumB w base g v ts) (hl : ts.length ≤ 1048577) (hbase : base ≤ w.heap.size) (hf : t.key ∈ ts) :
    Calls Tryd.prog 15 #[.pointer (some ⟨g, 0, none⟩), t.val] w (OfPost base g v ts t w) := by
  by_cases hv : t.var = ⟨#[]⟩
  · exact of_const_old h hl hbase (by rw [var_empty, decide_eq_true hv]) (Lib.hid hf) (Lib.hid (key_const hv)) (Lib.hid (num_const hv))
  · exact of_var_old h hl hbase (by rw [var_empty, decide_eq_false hv]) (Lib.hid hf) (Lib.hid (key_var hv)) (Lib.hid (num_var hv))

set_option maxRecDepth 20000 in
set_option maxHeartbeats 1600000 in
theorem of_var_new {w : World} {base g : Nat} {v : Value} {ts : List Tm} {t : Tm} (h : NumB w base g v ts) (hl : ts.length ≤ 1048576) (hbase : base ≤ w.heap.size) (hv : t.var.toList.isEmpty = false) (hf : Hid (t.key ∉ ts)) (HKEY : Hid (t.key = ⟨t.var, 0, 0, ⟨#[]⟩⟩)) (HNUM : Hid (∀ i : Nat, (addT ts t).idxOf t.key = i → numT ts t = -1 - (i : Int))) :
    Calls Tryd.prog 15 #[.pointer (some ⟨g, 0, none⟩), t.val] w (OfPost base g v ts t w) := by
  obtain ⟨A, c, rfl, hc, hcl⟩ := Cl.of_own h.row
  obtain ⟨n, hn⟩ : ∃ n, n = ts.length := ⟨_, rfl⟩
  have d0 : w.cell? ⟨g, 0, none⟩ = some (.slice A ts.length c) := h.cell.cell (i := 0) (by simp)
  have f0 : w.frozen? ⟨g, 0, none⟩ = false := h.cell.free 0
  rw [← hn] at hc hl d0 h ⊢
  have HN := Lib.hid hn
  have hg := h.cell.lt
  have HCL := Lib.hid hcl; have HH := Lib.hid h
  clear hcl h hn
  go_enter Tryd.func15, Tryd.ntmps15
  have hx1 : Ext w (w.alloc (.cells #[.string t.var, .int .i64 0, .int .i64 0, .string ⟨#[]⟩] 47)) := (Ext.refl w).alloc _
  have d1 := hx1.cell d0
  go_wp2_with fail
  clear d1
  have HX1 := Lib.hid hx1
  clear hx1
  have k1 := Bk.new w 47 [.string t.var, .int .i64 0, .int .i64 0, .string ⟨#[]⟩]
  change Bk (w.alloc (.cells #[.string t.var, .int .i64 0, .int .i64 0, .string ⟨#[]⟩] 47)) _ _ _ at k1
  generalize (w.alloc (.cells #[.string t.var, .int .i64 0, .int .i64 0, .string ⟨#[]⟩] 47)) = w1 at *
  go_loopw [17] (fun q wr => ∃ i : Nat, i ≤ n ∧ q = .int .i64 (i : Int) ∧ (∀ j (h : j < ts.length), j < i → ts[j] ≠ t.key) ∧ Ext w1 wr) (fun q _ => n - (intOf q).toNat)
  case atStart => exact ⟨0, Nat.zero_le _, rfl, fun _ _ h => absurd h (by omega), Ext.refl _⟩
  case round =>
    obtain ⟨i, hi, rfl, hne, hext⟩ := hrel
    have HNE := Lib.hid hne
    clear hne
    have kr := k1.ext hext
    have e0 := kr.cell (i := 0) (by simp)
    have e1 := kr.cell (i := 1) (by simp)
    have e2 := kr.cell (i := 2) (by simp)
    have e3 := kr.cell (i := 3) (by simp)
    simp only [List.getElem_cons_zero, List.getElem_cons_succ] at e0 e1 e2 e3
    have hsz := kr.lt
    have hxr := HX1.out.trans hext
    clear kr
    by_cases hlt : i < n
    · obtain ⟨ad, rfl, -, c0, c1, c2, c3⟩ := HCL.out.term (i := i) (by have := HN.out; omega)
      replace c0 := hxr.cell c0
      replace c1 := hxr.cell c1
      replace c2 := hxr.cell c2
      replace c3 := hxr.cell c3
      obtain ⟨x, hx⟩ : ∃ x, x = ts[i]'(by have := HN.out; omega) := ⟨_, rfl⟩
      rw [← hx] at c0 c1 c2 c3
      have HX := Lib.hid hx
      have HXR := Lib.hid hxr
      clear hx hxr d0 f0
      have i1 : (0 : Int) ≤ (i : Int) := by omega
      have i2 : (i : Int) < (n : Int) := by omega
      by_cases hxu : x = t.key
      · exact absurd (by rw [← hxu, HX.out]; exact List.getElem_mem _) hf.out
      · have HXU := Lib.hid hxu
        clear hxu
        go_wp2_with fail
        all_goals first
          | (exfalso; refine HXU.out ?_; rw [HKEY.out]; exact Tm.ext4 (by assumption) (by assumption) (by assumption) (by first | assumption | (rw [nil_toList]; assumption)))
          | (go_roundw
             case rel =>
               refine ⟨i + 1, by omega, by go_num, fun j hj hji => ?_, (hext.alloc _)⟩
               rcases Nat.lt_or_ge j i with h | h
               · exact HNE.out j hj h
               · obtain rfl : j = i := by omega
                 rw [← HX.out]; exact HXU.out
             case measure => simp [intOf]; omega)
    · obtain rfl : i = n := by omega
      replace d0 := hxr.cell d0
      have kg := HH.out.cell.ext hxr
      have fg := kg.free 0
      have hgs := kg.lt
      clear f0
      have hown := HH.out.row.kept (row := none) (w' := wr) ⟨hxr.os, hxr.tape, hxr.output, hxr.size, fun _ hk _ => hxr.heap hk⟩ (by cases (Value.slice A i c).ownBlock <;> simp)
      have hA : ∀ k, (Value.slice A i c).ownBlock = some k → k ≠ g ∧ k < w.heap.size := fun k hk => ⟨NumB.ne HH.out hk, (HH.out.row.lt k hk).2⟩
      obtain ⟨i0, hi0, hz0, hz1, hz2⟩ := info_parts info_term
      have HI := Lib.hid (And.intro hi0 (And.intro hz0 (And.intro hz1 hz2))); clear hi0 hz0 hz1 hz2
      have HOWN := Lib.hid hown; have HA := Lib.hid hA; have HXR := Lib.hid hxr
      have hnn : ts.length + 1 ≤ 1048577 := by have := HN.out; omega
      clear hown hA hxr
      have hal : ∀ o : Obj, (wr.alloc o).drew.frozen? ⟨g, 0, none⟩ = false := fun o => Bk.free (w := (wr.alloc o).drew) (kg.alloc o) 0
      go_wp2_with fail
      go_region_law ((refine step_append_at (by rfl) _ _ _ (by rfl) base 47 i0 (.agg #[.string ⟨#[]⟩, .int .i64 0, .int .i64 0, .string ⟨#[]⟩]) 4 48 Tryd.underlying33 HI.out.1 HI.out.2.1 HI.out.2.2.1 HI.out.2.2.2 rfl (by omega) (.slice A i c) ts.length (tcells ts) (by rfl) (by first | exact HOWN.out.alloc _ | exact HOWN.out) ⟨wr.heap.size, 0, none⟩ 1 1 [.string t.var, .int .i64 0, .int .i64 0, .string ⟨#[]⟩] (by rfl) (by rfl) (by first | exact laid_news wr _ _) (by simp [Value.oneCell']) (by simp only [maxLen]; omega) (by omega) (by simp; omega) ?_; intro v' w2 hrow hgr hland; obtain ⟨A2, c2, rfl⟩ := own_slice hrow; have hb2 : Bk w2 g 35 [.slice A i c] := Bk.fr (by exact kg.alloc _) (grown_fr hgr) (fun e => (HA.out _ e).1 rfl); have dg2 := hb2.cell (i := 0) (by simp); have fg2 := hb2.free 0; have kt : Bk w2 w.heap.size 47 [.string t.var, .int .i64 0, .int .i64 0, .string ⟨#[]⟩] := Bk.fr (by exact (k1.ext hext).alloc _) (grown_fr hgr) (fun e => absurd (HA.out _ e).2 (by omega)); have a0 := kt.cell (i := 0) (by simp); have a1 := kt.cell (i := 1) (by simp); have a2 := kt.cell (i := 2) (by simp); have a3 := kt.cell (i := 3) (by simp); simp only [List.getElem_cons_zero, List.getElem_cons_succ] at a0 a1 a2 a3 dg2; have hs2 := kt.lt; have hgw : g ≠ w.heap.size := by omega))
      all_goals
        have HL := Lib.hid hland
        have HR := Lib.hid hrow; have HB2 := Lib.hid hb2
        have HE2 : Hid (Fr (fun k => k = g ∨ (Value.slice A i c).ownBlock = some k) w w2) := Lib.hid (Fr.grown (by exact (HXR.out.alloc _).drew.fr _) hgr (fun k hk => .inl (.inr hk)))
        have HNUMB : Hid (NumB (w2.setCell ⟨g, 0, none⟩ (.slice A2 (ts.length + 1) c2)) base g (.slice A2 (ts.length + 1) c2) (ts ++ [t.key])) := Lib.hid (by
          refine ⟨HB2.out.set 0 _, ?_⟩
          rw [tcells_append, List.length_append]
          have e : tcells [t.key] = [.string t.var, .int .i64 0, .int .i64 0, .string ⟨#[]⟩] := by rw [HKEY.out]; rfl
          rw [e]
          refine HR.out.kept (grown_set w2 g _) ?_
          by_cases hob : (Value.slice A2 (ts.length + 1) c2).ownBlock = some g
          · exfalso
            rcases HR.out.2 with ⟨h, _⟩ | ⟨b, cap, cur, h, _, hb, _⟩
            · rw [h] at hob; simp [Value.ownBlock] at hob
            · rw [h] at hob
              simp [Value.ownBlock] at hob
              subst hob
              exact HB2.out.ne hb (by decide) rfl
          · exact .inr hob)
        clear hland hrow hgr hb2 dg2 fg2 kt e0 e1 e2 e3 d0 fg kg hal k1 hext
        go_wp2_with fail
        have hlb : base ≤ (w2.setCell ⟨g, 0, none⟩ (.slice A2 (ts.length + 1) c2)).heap.size := by simp; omega
        refine (of_old (t := ⟨t.var, 0, 0, ⟨#[]⟩⟩) HNUMB.out (by rw [List.length_append]; exact hnn) hlb (by rw [← HKEY.out, key_key]; simp)).mono ?_
        rintro e w3 ⟨x, v3, rfl, hx, hn3, hf3, hl3⟩
        have HX3 := Lib.hid hx; have HN3 := Lib.hid hn3; have HF3 := Lib.hid hf3; have HL3 := Lib.hid hl3
        clear a0 a1 a2 a3 hx hn3 hf3 hl3
        go_wp2_with fail
        go_ret
        have hx := HX3.out; have hn3 := HN3.out; have hf3 := HF3.out; have hl3 := HL3.out
        rw [← HKEY.out] at hx hn3
        have eadd : addT ts t = ts ++ [t.key] := by rw [addT, if_neg hf.out]
        have eadd2 : addT (ts ++ [t.key]) t.key = ts ++ [t.key] := by rw [addT, key_key, if_pos (by simp)]
        refine ⟨x, v3, rfl, ?_, ?_, ?_, ?_⟩
        · rw [hx]
          unfold numT
          rw [eadd, eadd2, key_key, HKEY.out]
        · rw [eadd, ← eadd2]; exact hn3
        · refine Fr.comp (HE2.out.setCell (.inl (.inl rfl)) _) hf3 (fun k hk => ?_)
          rcases hk with h | h
          · exact .inl (.inl h)
          · rcases HL.out with h2 | h2
            · exact .inl (.inr (h2.symm.trans h))
            · right; rw [h2] at h; injection h with h; subst h; simp; omega
        · rcases hl3 with h3 | h3
          · rcases HL.out with h2 | h2
            · left; rw [h3, h2]
            · right; intro k hk; rw [h3, h2] at hk; injection hk with hk; subst hk; simp; omega
          · right; intro k hk; have := h3 k hk; simp at this; omega

set_option maxRecDepth 20000 in
set_option maxHeartbeats 1600000 in
theorem of_const_new {w : World} {base g : Nat} {v : Value} {ts : List Tm} {t : Tm} (h : NumB w base g v ts) (hl : ts.length ≤ 1048576) (hbase : base ≤ w.heap.size) (hv : t.var.toList.isEmpty = true) (hf : Hid (t.key ∉ ts)) (HKEY : Hid (t.key = ⟨t.var, t.kind, t.int, t.str⟩)) (HNUM : Hid (∀ i : Nat, (addT ts t).idxOf t.key = i → numT ts t = 1 + (i : Int))) :
    Calls Tryd.prog 15 #[.pointer (some ⟨g, 0, none⟩), t.val] w (OfPost base g v ts t w) := by
  obtain ⟨A, c, rfl, hc, hcl⟩ := Cl.of_own h.row
  obtain ⟨n, hn⟩ : ∃ n, n = ts.length := ⟨_, rfl⟩
  have d0 : w.cell? ⟨g, 0, none⟩ = some (.slice A ts.length c) := h.cell.cell (i := 0) (by simp)
  have f0 : w.frozen? ⟨g, 0, none⟩ = false := h.cell.free 0
  rw [← hn] at hc hl d0 h ⊢
  have HN := Lib.hid hn
  have hg := h.cell.lt
  have HCL := Lib.hid hcl; have HH := Lib.hid h
  clear hcl h hn
  go_enter Tryd.func15, Tryd.ntmps15
  have hx1 : Ext w (w.alloc (.cells #[.string t.var, .int .i64 t.kind, .int .i64 t.int, .string t.str] 47)) := (Ext.refl w).alloc _
  have d1 := hx1.cell d0
  go_wp2_with fail
  clear d1
  have HX1 := Lib.hid hx1
  clear hx1
  have k1 := Bk.new w 47 [.string t.var, .int .i64 t.kind, .int .i64 t.int, .string t.str]
  change Bk (w.alloc (.cells #[.string t.var, .int .i64 t.kind, .int .i64 t.int, .string t.str] 47)) _ _ _ at k1
  generalize (w.alloc (.cells #[.string t.var, .int .i64 t.kind, .int .i64 t.int, .string t.str] 47)) = w1 at *
  go_loopw [17] (fun q wr => ∃ i : Nat, i ≤ n ∧ q = .int .i64 (i : Int) ∧ (∀ j (h : j < ts.length), j < i → ts[j] ≠ t.key) ∧ Ext w1 wr) (fun q _ => n - (intOf q).toNat)
  case atStart => exact ⟨0, Nat.zero_le _, rfl, fun _ _ h => absurd h (by omega), Ext.refl _⟩
  case round =>
    obtain ⟨i, hi, rfl, hne, hext⟩ := hrel
    have HNE := Lib.hid hne
    clear hne
    have kr := k1.ext hext
    have e0 := kr.cell (i := 0) (by simp)
    have e1 := kr.cell (i := 1) (by simp)
    have e2 := kr.cell (i := 2) (by simp)
    have e3 := kr.cell (i := 3) (by simp)
    simp only [List.getElem_cons_zero, List.getElem_cons_succ] at e0 e1 e2 e3
    have hsz := kr.lt
    have hxr := HX1.out.trans hext
    clear kr
    by_cases hlt : i < n
    · obtain ⟨ad, rfl, -, c0, c1, c2, c3⟩ := HCL.out.term (i := i) (by have := HN.out; omega)
      replace c0 := hxr.cell c0
      replace c1 := hxr.cell c1
      replace c2 := hxr.cell c2
      replace c3 := hxr.cell c3
      obtain ⟨x, hx⟩ : ∃ x, x = ts[i]'(by have := HN.out; omega) := ⟨_, rfl⟩
      rw [← hx] at c0 c1 c2 c3
      have HX := Lib.hid hx
      have HXR := Lib.hid hxr
      clear hx hxr d0 f0
      have i1 : (0 : Int) ≤ (i : Int) := by omega
      have i2 : (i : Int) < (n : Int) := by omega
      by_cases hxu : x = t.key
      · exact absurd (by rw [← hxu, HX.out]; exact List.getElem_mem _) hf.out
      · have HXU := Lib.hid hxu
        clear hxu
        go_wp2_with fail
        all_goals first
          | (exfalso; refine HXU.out ?_; rw [HKEY.out]; exact Tm.ext4 (by assumption) (by assumption) (by assumption) (by first | assumption | (rw [nil_toList]; assumption)))
          | (go_roundw
             case rel =>
               refine ⟨i + 1, by omega, by go_num, fun j hj hji => ?_, (hext.alloc _)⟩
               rcases Nat.lt_or_ge j i with h | h
               · exact HNE.out j hj h
               · obtain rfl : j = i := by omega
                 rw [← HX.out]; exact HXU.out
             case measure => simp [intOf]; omega)
    · obtain rfl : i = n := by omega
      replace d0 := hxr.cell d0
      have kg := HH.out.cell.ext hxr
      have fg := kg.free 0
      have hgs := kg.lt
      clear f0
      have hown := HH.out.row.kept (row := none) (w' := wr) ⟨hxr.os, hxr.tape, hxr.output, hxr.size, fun _ hk _ => hxr.heap hk⟩ (by cases (Value.slice A i c).ownBlock <;> simp)
      have hA : ∀ k, (Value.slice A i c).ownBlock = some k → k ≠ g ∧ k < w.heap.size := fun k hk => ⟨NumB.ne HH.out hk, (HH.out.row.lt k hk).2⟩
      obtain ⟨i0, hi0, hz0, hz1, hz2⟩ := info_parts info_term
      have HI := Lib.hid (And.intro hi0 (And.intro hz0 (And.intro hz1 hz2))); clear hi0 hz0 hz1 hz2
      have HOWN := Lib.hid hown; have HA := Lib.hid hA; have HXR := Lib.hid hxr
      have hnn : ts.length + 1 ≤ 1048577 := by have := HN.out; omega
      clear hown hA hxr
      have hal : ∀ o : Obj, (wr.alloc o).drew.frozen? ⟨g, 0, none⟩ = false := fun o => Bk.free (w := (wr.alloc o).drew) (kg.alloc o) 0
      go_wp2_with fail
      go_region_law ((refine step_append_at (by rfl) _ _ _ (by rfl) base 47 i0 (.agg #[.string ⟨#[]⟩, .int .i64 0, .int .i64 0, .string ⟨#[]⟩]) 4 48 Tryd.underlying33 HI.out.1 HI.out.2.1 HI.out.2.2.1 HI.out.2.2.2 rfl (by omega) (.slice A i c) ts.length (tcells ts) (by rfl) (by first | exact HOWN.out.alloc _ | exact HOWN.out) ⟨wr.heap.size, 0, none⟩ 1 1 [.string t.var, .int .i64 t.kind, .int .i64 t.int, .string t.str] (by rfl) (by rfl) (by first | exact laid_news wr _ _) (by simp [Value.oneCell']) (by simp only [maxLen]; omega) (by omega) (by simp; omega) ?_; intro v' w2 hrow hgr hland; obtain ⟨A2, c2, rfl⟩ := own_slice hrow; have hb2 : Bk w2 g 35 [.slice A i c] := Bk.fr (by exact kg.alloc _) (grown_fr hgr) (fun e => (HA.out _ e).1 rfl); have dg2 := hb2.cell (i := 0) (by simp); have fg2 := hb2.free 0; have kt : Bk w2 w.heap.size 47 [.string t.var, .int .i64 t.kind, .int .i64 t.int, .string t.str] := Bk.fr (by exact (k1.ext hext).alloc _) (grown_fr hgr) (fun e => absurd (HA.out _ e).2 (by omega)); have a0 := kt.cell (i := 0) (by simp); have a1 := kt.cell (i := 1) (by simp); have a2 := kt.cell (i := 2) (by simp); have a3 := kt.cell (i := 3) (by simp); simp only [List.getElem_cons_zero, List.getElem_cons_succ] at a0 a1 a2 a3 dg2; have hs2 := kt.lt; have hgw : g ≠ w.heap.size := by omega))
      all_goals
        have HL := Lib.hid hland
        have HR := Lib.hid hrow; have HB2 := Lib.hid hb2
        have HE2 : Hid (Fr (fun k => k = g ∨ (Value.slice A i c).ownBlock = some k) w w2) := Lib.hid (Fr.grown (by exact (HXR.out.alloc _).drew.fr _) hgr (fun k hk => .inl (.inr hk)))
        have HNUMB : Hid (NumB (w2.setCell ⟨g, 0, none⟩ (.slice A2 (ts.length + 1) c2)) base g (.slice A2 (ts.length + 1) c2) (ts ++ [t.key])) := Lib.hid (by
          refine ⟨HB2.out.set 0 _, ?_⟩
          rw [tcells_append, List.length_append]
          have e : tcells [t.key] = [.string t.var, .int .i64 t.kind, .int .i64 t.int, .string t.str] := by rw [HKEY.out]; rfl
          rw [e]
          refine HR.out.kept (grown_set w2 g _) ?_
          by_cases hob : (Value.slice A2 (ts.length + 1) c2).ownBlock = some g
          · exfalso
            rcases HR.out.2 with ⟨h, _⟩ | ⟨b, cap, cur, h, _, hb, _⟩
            · rw [h] at hob; simp [Value.ownBlock] at hob
            · rw [h] at hob
              simp [Value.ownBlock] at hob
              subst hob
              exact HB2.out.ne hb (by decide) rfl
          · exact .inr hob)
        clear hland hrow hgr hb2 dg2 fg2 kt e0 e1 e2 e3 d0 fg kg hal k1 hext
        go_wp2_with fail
        have hlb : base ≤ (w2.setCell ⟨g, 0, none⟩ (.slice A2 (ts.length + 1) c2)).heap.size := by simp; omega
        refine (of_old (t := ⟨t.var, t.kind, t.int, t.str⟩) HNUMB.out (by rw [List.length_append]; exact hnn) hlb (by rw [← HKEY.out, key_key]; simp)).mono ?_
        rintro e w3 ⟨x, v3, rfl, hx, hn3, hf3, hl3⟩
        have HX3 := Lib.hid hx; have HN3 := Lib.hid hn3; have HF3 := Lib.hid hf3; have HL3 := Lib.hid hl3
        clear a0 a1 a2 a3 hx hn3 hf3 hl3
        go_wp2_with fail
        go_ret
        have hx := HX3.out; have hn3 := HN3.out; have hf3 := HF3.out; have hl3 := HL3.out
        rw [← HKEY.out] at hx hn3
        have eadd : addT ts t = ts ++ [t.key] := by rw [addT, if_neg hf.out]
        have eadd2 : addT (ts ++ [t.key]) t.key = ts ++ [t.key] := by rw [addT, key_key, if_pos (by simp)]
        refine ⟨x, v3, rfl, ?_, ?_, ?_, ?_⟩
        · rw [hx]
          unfold numT
          rw [eadd, eadd2, key_key, HKEY.out]
        · rw [eadd, ← eadd2]; exact hn3
        · refine Fr.comp (HE2.out.setCell (.inl (.inl rfl)) _) hf3 (fun k hk => ?_)
          rcases hk with h | h
          · exact .inl (.inl h)
          · rcases HL.out with h2 | h2
            · exact .inl (.inr (h2.symm.trans h))
            · right; rw [h2] at h; injection h with h; subst h; simp; omega
        · rcases hl3 with h3 | h3
          · rcases HL.out with h2 | h2
            · left; rw [h3, h2]
            · right; intro k hk; rw [h3, h2] at hk; injection hk with hk; subst hk; simp; omega
          · right; intro k hk; have := h3 k hk; simp at this; omega

theorem of_any {w : World} {base g : Nat} {v : Value} {ts : List Tm} {t : Tm} (h : NumB w base g v ts) (hl : ts.length ≤ 1048576) (hbase : base ≤ w.heap.size) :
    Calls Tryd.prog 15 #[.pointer (some ⟨g, 0, none⟩), t.val] w (OfPost base g v ts t w) := by
  by_cases hf : t.key ∈ ts
  · exact of_old h (by omega) hbase hf
  · by_cases hv : t.var = ⟨#[]⟩
    · exact of_const_new h hl hbase (by rw [var_empty, decide_eq_true hv]) (Lib.hid hf) (Lib.hid (key_const hv)) (Lib.hid (num_const hv))
    · exact of_var_new h hl hbase (by rw [var_empty, decide_eq_false hv]) (Lib.hid hf) (Lib.hid (key_var hv)) (Lib.hid (num_var hv))
end Go.Proofs.YtiahaofjmcjdiaaDoor
