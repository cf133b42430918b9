/- Plain law: the program's names are the reference's, the free variables are the head's. -/
import Derived.Test.YtmmmdinncmbjkaaOn
import Derived.Test.YtmmmdinncmbjkaaOp
namespace Go.Proofs.Ytmmmdinncmbjkaa
open Go.RowKit Go.Maps

theorem addV_addN (vs b : List ByteArray) (s : ByteArray) : (addV vs s).foldl addN b = (if s = ⟨#[]⟩ then vs.foldl addN b else addN (vs.foldl addN b) s) := by
  unfold addV
  by_cases h0 : s = ⟨#[]⟩
  · rw [if_pos (.inl h0), if_pos h0]
  · rw [if_neg h0]
    by_cases h1 : s ∈ vs
    · rw [if_pos (.inr h1)]
      have h2 : s ∈ vs.foldl addN b := mem_addNs.2 (.inr h1)
      have e : addN (vs.foldl addN b) s = vs.foldl addN b := if_pos h2
      rw [e]
    · rw [if_neg (by rintro (h | h); exact h0 h; exact h1 h), List.foldl_append]
      rfl
theorem foldV_addN : ∀ (l : List Tm) (vs b : List ByteArray), (l.foldl (fun vs t => addV vs t.var) vs).foldl addN b = l.foldl addT (vs.foldl addN b)
  | [], _, _ => rfl
  | t :: l, vs, b => by
    rw [List.foldl_cons, foldV_addN l, addV_addN, List.foldl_cons]
    rfl
theorem addN_id : ∀ (l b : List ByteArray), (b ++ l).Nodup → l.foldl addN b = b ++ l
  | [], b, _ => by simp
  | s :: l, b, h => by
    have h1 : s ∉ b := fun h2 => by
      rw [List.nodup_append] at h
      exact h.2.2 s h2 s (by simp) rfl
    rw [List.foldl_cons]
    have e : addN b s = b ++ [s] := if_neg h1
    rw [e, addN_id l (b ++ [s]) (by simpa using h)]
    simp
theorem order_nodup {hd : List ByteArray} {od : List Ky} (h : orderE hd od = 0) (hh : headE hd = 0) : ((orderL hd od).map Ky.var).Nodup := by
  have h1 := (orderE_iff.1 (order_fine h hh)).2
  rwa [turn_var] at h1
theorem conds_in {ss : List Sc} {q : Qy} {r : Rl} (hc : checkE ss q = 0) (hr : r ∈ q.rs) : varsC r = varsT (allT r.ats) := by
  obtain ⟨-, -, -, -, -, hrl, -⟩ := ast_ok (check_ast hc)
  obtain ⟨-, -, hb⟩ := rule_ok (hrl r hr)
  have key : ∀ (l : List Cd), (∀ c ∈ l, c.var ≠ ⟨#[]⟩ → c.var ∈ varsT (allT r.ats)) → l.foldl (fun vs c => addV vs c.var) (varsT (allT r.ats)) = varsT (allT r.ats) := by
    intro l
    induction l with
    | nil => exact fun _ => rfl
    | cons c l ih =>
      intro h
      rw [List.foldl_cons]
      have e : addV (varsT (allT r.ats)) c.var = varsT (allT r.ats) := by
        unfold addV
        by_cases h0 : c.var = ⟨#[]⟩
        · rw [if_pos (.inl h0)]
        · rw [if_pos (.inr (h c (by simp) h0))]
      rw [e]
      exact ih (fun d hd => h d (List.mem_cons_of_mem _ hd))
  refine key _ (fun c hcm h0 => ?_)
  have hcv : c.var ∈ varsC r := by
    rw [varsC_eq]
    exact varsT_iff.2 ⟨cdT c, List.mem_append_right _ (List.mem_map.2 ⟨c, hcm, rfl⟩), rfl, h0⟩
  have h1 := hb c.var (List.mem_append_right _ hcv)
  obtain ⟨i, hi, -, hx⟩ := bound_at h1
  have h2 := idxT_at hx
  exact varsT_iff.2 ⟨_, allT_iff.2 ⟨_, List.getElem_mem hi, List.getElem_mem hx⟩, h2, h0⟩
/-- The reference's names are the program's. -/
theorem names_ref {ss : List Sc} {q : Qy} {r : Rl} (hc : checkE ss q = 0) (hr : r ∈ q.rs) : refV (orderL q.hd q.od) r.ats = namesL q r := by
  obtain ⟨-, -, -, hh, -, -, ho⟩ := ast_ok (check_ast hc)
  have e : ((orderL q.hd q.od).map Ky.var).foldl addN [] = (orderL q.hd q.od).map Ky.var := by
    rw [addN_id _ [] (by simpa using order_nodup ho hh)]
    simp
  unfold refV namesL
  rw [e, conds_in hc hr]
  unfold varsT
  rw [foldV_addN]
  rfl
theorem order_free {ss : List Sc} {q : Qy} (hc : checkE ss q = 0) : (orderL q.hd q.od).length = q.hd.length := by
  obtain ⟨-, -, -, hh, -, -, ho⟩ := ast_ok (check_ast hc)
  have h1 := order_nodup ho hh
  have h2 := headE_nodup hh
  have h3 : ((orderL q.hd q.od).map Ky.var).Perm q.hd := (List.perm_ext_iff_of_nodup h1 h2).2 (fun v => ⟨fun hv => by
    rw [order_vars, List.mem_append] at hv
    rcases hv with hv | hv
    · obtain ⟨k, hk, rfl⟩ := List.mem_map.1 hv
      exact (orderE_iff.1 ho).1 k hk
    · exact (List.mem_filter.1 hv).1, fun hv => order_all hv⟩)
  have h4 := h3.length_eq
  rwa [List.length_map] at h4
theorem cond_var {ss : List Sc} {q : Qy} {r : Rl} (hc : checkE ss q = 0) (hr : r ∈ q.rs) : ∀ d ∈ r.cds, d.var ≠ ⟨#[]⟩ := by
  obtain ⟨-, -, -, -, -, hrl, -⟩ := ast_ok (check_ast hc)
  obtain ⟨hi, -, -⟩ := rule_ok (hrl r hr)
  obtain ⟨-, -, -, -, h⟩ := items_ok hi
  intro d hd
  have h1 := h d hd
  unfold condE at h1
  split at h1
  · rename_i h2; exact nameB_ne h2
  · cases h1
theorem term_zero {ss : List Sc} {q : Qy} {r : Rl} (hc : checkE ss q = 0) (hr : r ∈ q.rs) : ∀ a ∈ r.ats, a.terms.length ≤ 6 ∧ ∀ t ∈ a.terms, t.var ≠ ⟨#[]⟩ → t.kind = 0 ∧ t.int = 0 ∧ t.str = ⟨#[]⟩ := by
  obtain ⟨-, -, -, -, -, hrl, -⟩ := ast_ok (check_ast hc)
  obtain ⟨hi, -, -⟩ := rule_ok (hrl r hr)
  obtain ⟨-, -, -, h, -⟩ := items_ok hi
  intro a ha
  obtain ⟨-, h1, h2⟩ := atom_ok (h a ha)
  refine ⟨h1, fun t ht hv => ?_⟩
  have h3 := h2 t ht
  unfold termE at h3
  rw [if_neg hv] at h3
  split at h3
  · split at h3
    · assumption
    · cases h3
  · cases h3
theorem srcs_bd {ss : List Sc} {q : Qy} {r : Rl} (hc : checkE ss q = 0) (hr : r ∈ q.rs) {s : Src} (h : s ∈ srcsL q r) : s.vars.length ≤ (namesL q r).length ∧ s.cols.length ≤ (namesL q r).length ∧ s.same.length ≤ 6 ∧ s.fs.length ≤ 14 ∧ s.nots.length ≤ 8 ∧ ∀ y ∈ s.nots, y.vars.length ≤ 6 ∧ y.cs.length ≤ 6 := by
  obtain ⟨-, -, -, -, -, hrl, -⟩ := ast_ok (check_ast hc)
  obtain ⟨hi, -, -⟩ := rule_ok (hrl r hr)
  obtain ⟨-, h8, h8', -, -⟩ := items_ok hi
  have ht := term_zero hc hr
  obtain ⟨i, -, e⟩ := mem_upL.1 h
  obtain ⟨h1, -, rfl⟩ := srcR_some.1 e
  have h6 := (ht _ (List.getElem_mem h1)).1
  refine ⟨upL_len _ _, upL_len _ _, Nat.le_trans (upL_len _ _) h6, ?_, ?_, ?_⟩
  · show (upL (conAt r.ats[i].terms) r.ats[i].terms.length ++ upL (cndAt r.ats[i].terms r.cds) r.cds.length).length ≤ 14
    rw [List.length_append]
    have h2 := upL_len (conAt r.ats[i].terms) r.ats[i].terms.length
    have h3 := upL_len (cndAt r.ats[i].terms r.cds) r.cds.length
    omega
  · show (notsL (namesL q r) r.ats i).length ≤ 8
    unfold notsL
    rw [List.length_map]
    exact Nat.le_trans (List.length_filter_le _ _) h8
  · intro y hy
    have hy' : y ∈ notsL (namesL q r) r.ats i := hy
    obtain ⟨a, ha, rfl⟩ := List.mem_map.1 hy'
    have h2 := (ht a (List.mem_filter.1 ha).1).1
    exact ⟨by show (a.terms.map _).length ≤ 6; rw [List.length_map]; exact h2, by show (a.terms.map _).length ≤ 6; rw [List.length_map]; exact h2⟩
end Go.Proofs.Ytmmmdinncmbjkaa
