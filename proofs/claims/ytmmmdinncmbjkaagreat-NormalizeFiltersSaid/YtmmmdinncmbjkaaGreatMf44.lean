/- Plain law: the variables of the sources. Plain law: the order with all directions reversed. -/
import Derived.Test.YtmmmdinncmbjkaaGreatMf18
import Derived.Test.YtmmmdinncmbjkaaGreatMf17
import Derived.Test.YtmmmdinncmbjkaaGreatMf43
namespace Go.Proofs.YtmmmdinncmbjkaaGreat
open Go.RowKit Go.Maps
theorem order_mem {hd : List ByteArray} {od : List Ky} (h : orderE hd od = 0) : ∀ k ∈ od, k.var ∈ hd := by
  intro k hk
  obtain ⟨i, hi, rfl⟩ := List.getElem_of_mem hk
  have h1 := firstI_zero.1 h i hi
  have e : (od.map Ky.var).getD i ⟨#[]⟩ = od[i].var := by rw [List.getD_eq_getElem?_getD, List.getElem?_eq_getElem (by simpa using hi)]; simp
  rw [e] at h1
  by_cases hm : od[i].var ∈ hd
  · exact hm
  · rw [if_neg hm] at h1; cases h1
theorem names_bound {ss : List Sc} {q : Qy} {r : Rl} (hc : checkE ss q = 0) (hr : r ∈ q.rs) : ∀ s ∈ namesL q r, boundB r s = true := by
  obtain ⟨-, -, -, -, -, hrl, ho⟩ := ast_ok (check_ast hc)
  obtain ⟨-, -, hb⟩ := rule_ok (hrl r hr)
  intro s hs
  have hh : ∀ s ∈ q.hd, boundB r s = true := fun s hs => hb s (List.mem_append_left _ (by
    unfold needV
    split
    · exact hs
    · exact List.mem_append_left _ hs))
  rcases mem_addNs.1 hs with h1 | h1
  · rcases mem_addNs.1 h1 with h2 | h2
    · cases h2
    · obtain ⟨k, hk, rfl⟩ := List.mem_map.1 h2
      unfold orderL at hk
      rcases List.mem_append.1 hk with h3 | h3
      · exact hh _ (order_mem ho k h3)
      · obtain ⟨v, hv, rfl⟩ := List.mem_map.1 h3
        exact hh _ (List.mem_filter.1 hv).1
  · exact hb s (List.mem_append_right _ h1)
theorem bound_ne {r : Rl} {s : ByteArray} (h : boundB r s = true) : s ≠ ⟨#[]⟩ := by
  unfold boundB at h
  simp only [Bool.and_eq_true, decide_eq_true_eq] at h
  exact h.1
theorem bound_at {r : Rl} {s : ByteArray} (h : boundB r s = true) : ∃ i, ∃ hi : i < r.ats.length, r.ats[i].neg = false ∧ idxT r.ats[i].terms s < r.ats[i].terms.length := by
  unfold boundB posT at h
  simp only [Bool.and_eq_true, List.any_eq_true, List.mem_flatMap, decide_eq_true_eq] at h
  obtain ⟨-, t, ⟨a, ha, ht⟩, rfl⟩ := h
  obtain ⟨i, hi, rfl⟩ := List.getElem_of_mem ha
  refine ⟨i, hi, ?_, ?_⟩
  · rcases hn : r.ats[i].neg with _ | _
    · rfl
    · rw [if_pos hn] at ht; cases ht
  · rw [idxT_any, List.any_eq_true]
    rcases hn : r.ats[i].neg with _ | _
    · rw [if_neg (by simp [hn])] at ht
      exact ⟨t, ht, by simp⟩
    · rw [if_pos hn] at ht; cases ht
theorem names_nodup (q : Qy) (r : Rl) : (namesL q r).Nodup := addNs_nodup _ (addNs_nodup _ List.nodup_nil)
theorem names_cov {q : Qy} {r : Rl} {a : At} (ha : a ∈ r.ats) : ∀ t ∈ a.terms, t.var ≠ ⟨#[]⟩ → t.var ∈ namesL q r := fun _ ht hv => mem_addNs.2 (.inr (varsC_term ha ht hv))
/-- The sources, as the reference finds them. -/
def srcsL (q : Qy) (r : Rl) : List Src := upL (srcR (namesL q r) r) r.ats.length
theorem norm_srcs {ss : List Sc} {q : Qy} {r : Rl} (hc : checkE ss q = 0) (hr : r ∈ q.rs) : normalL q r = ⟨namesL q r, (orderL q.hd q.od).length, (orderL q.hd q.od).map Ky.desc, srcsL q r⟩ := by
  unfold normalL srcsL
  rw [srcs_ref (names_nodup q r) (fun s hs => bound_ne (names_bound hc hr s hs)) (fun a ha => names_cov ha)]
theorem srcR_some {names : List ByteArray} {r : Rl} {i : Nat} {s : Src} : srcR names r i = some s ↔ ∃ hi : i < r.ats.length, r.ats[i].neg = false ∧ s = refS names r i r.ats[i] := by
  unfold srcR
  rcases Nat.lt_or_ge i r.ats.length with h | h
  · rw [List.getElem?_eq_getElem h]
    simp only [Option.bind_some]
    rcases hn : r.ats[i].neg with _ | _
    · rw [if_neg (by simp)]
      exact ⟨fun e => ⟨h, hn, by injection e with e; exact e.symm⟩, fun ⟨_, _, e⟩ => by rw [e]⟩
    · rw [if_pos rfl]
      exact ⟨fun e => by simp at e, fun ⟨_, e, _⟩ => by rw [hn] at e; cases e⟩
  · rw [List.getElem?_eq_none h]
    exact ⟨fun e => by simp at e, fun ⟨h2, _⟩ => by omega⟩
theorem srcs_vars {q : Qy} {r : Rl} {s : Src} (h : s ∈ srcsL q r) : ∃ a ∈ r.ats, s.vars = upL (vrR (namesL q r) a.terms) (namesL q r).length := by
  obtain ⟨i, hi, e⟩ := mem_upL.1 h
  obtain ⟨h1, -, rfl⟩ := srcR_some.1 e
  exact ⟨_, List.getElem_mem h1, rfl⟩
theorem srcs_asc {q : Qy} {r : Rl} {s : Src} (h : s ∈ srcsL q r) : s.vars.Pairwise (· < ·) ∧ (∀ x ∈ s.vars, ∃ k : Nat, k < (namesL q r).length ∧ x = (k : Int)) ∧ s.vars.length ≤ (namesL q r).length := by
  obtain ⟨a, -, e⟩ := srcs_vars h
  rw [e]
  refine ⟨upL_asc (fun k x h => (vrR_some.1 h).2.2) _, fun x hx => ?_, upL_len _ _⟩
  obtain ⟨k, hk, e2⟩ := mem_upL.1 hx
  exact ⟨k, hk, (vrR_some.1 e2).2.2⟩
theorem srcs_len {ss : List Sc} {q : Qy} {r : Rl} (hc : checkE ss q = 0) (hr : r ∈ q.rs) : (srcsL q r).length ≤ 8 := by
  obtain ⟨-, -, -, -, -, hrl, -⟩ := ast_ok (check_ast hc)
  obtain ⟨hi, -, -⟩ := rule_ok (hrl r hr)
  have h1 := upL_len (srcR (namesL q r) r) r.ats.length
  have h2 := (items_ok hi).2.1
  unfold srcsL
  omega
/-- What has been seen. -/
def sv (n : Nat) (vis : List Int) : List Value := (List.range n).map (fun j : Nat => Value.bool (decide ((j : Int) ∈ vis)))
end Go.Proofs.YtmmmdinncmbjkaaGreat
namespace Go.Proofs.YtmmmdinncmbjkaaGreat
open Go.RowKit Go.Maps
def turnK (k : Ky) : Ky := ⟨k.var, !k.desc⟩
theorem turn_var (l : List Ky) : (l.map turnK).map Ky.var = l.map Ky.var := by
  rw [List.map_map]; rfl
theorem orderE_iff {hd : List ByteArray} {od : List Ky} : orderE hd od = 0 ↔ (∀ k ∈ od, k.var ∈ hd) ∧ (od.map Ky.var).Nodup := by
  have key : ∀ i (hi : i < od.length), (if (od.map Ky.var).getD i ⟨#[]⟩ ∈ hd then (if (od.map Ky.var).getD i ⟨#[]⟩ ∈ (od.map Ky.var).take i then (8 : Int) else 0) else 7) = 0 ↔ od[i].var ∈ hd ∧ od[i].var ∉ (od.map Ky.var).take i := fun i hi => by
    have e : (od.map Ky.var).getD i ⟨#[]⟩ = od[i].var := by rw [List.getD_eq_getElem?_getD, List.getElem?_eq_getElem (by simpa using hi)]; simp
    rw [e]
    by_cases h1 : od[i].var ∈ hd
    · rw [if_pos h1]
      by_cases h2 : od[i].var ∈ (od.map Ky.var).take i
      · rw [if_pos h2]; exact ⟨fun h => (by cases h), fun h => absurd h2 h.2⟩
      · rw [if_neg h2]; exact ⟨fun _ => ⟨h1, h2⟩, fun _ => rfl⟩
    · rw [if_neg h1]; exact ⟨fun h => (by cases h), fun h => absurd h.1 h1⟩
  unfold orderE
  rw [firstI_zero]
  constructor
  · intro h
    refine ⟨fun k hk => ?_, ?_⟩
    · obtain ⟨i, hi, rfl⟩ := List.getElem_of_mem hk
      exact ((key i hi).1 (h i hi)).1
    · refine List.pairwise_iff_getElem.2 (fun i j hi hj hij e => ?_)
      have hi' : i < od.length := by simpa using hi
      have hj' : j < od.length := by simpa using hj
      refine ((key j hj').1 (h j hj')).2 ?_
      rw [List.mem_take_iff_getElem]
      refine ⟨i, by simp; omega, ?_⟩
      rw [e]; simp
  · rintro ⟨h1, h2⟩ i hi
    refine (key i hi).2 ⟨h1 _ (List.getElem_mem hi), fun h => ?_⟩
    rw [List.mem_take_iff_getElem] at h
    obtain ⟨j, hj, e⟩ := h
    have hji : j < i := by omega
    have hj2 : j < (od.map Ky.var).length := by simp; omega
    have := List.pairwise_iff_getElem.1 h2 j i hj2 (by simpa using hi) hji
    exact this (by rw [e]; simp)
theorem headE_nodup {hd : List ByteArray} (h : headE hd = 0) : hd.Nodup := by
  unfold headE at h
  split at h
  · refine List.pairwise_iff_getElem.2 (fun i j hi hj hij e => ?_)
    have h1 := firstI_zero.1 h j hj
    have e1 : hd.getD j ⟨#[]⟩ = hd[j] := by rw [List.getD_eq_getElem?_getD, List.getElem?_eq_getElem hj]; rfl
    rw [e1] at h1
    split at h1
    · split at h1
      · cases h1
      · rename_i h3
        refine h3 ?_
        rw [List.mem_take_iff_getElem]
        exact ⟨i, by omega, e⟩
    · cases h1
  · cases h
theorem order_vars (hd : List ByteArray) (od : List Ky) : (orderL hd od).map Ky.var = od.map Ky.var ++ hd.filter (fun v => !decide (v ∈ od.map Ky.var)) := by
  unfold orderL
  rw [List.map_append, List.map_map]
  have : (Ky.var ∘ fun v => (⟨v, false⟩ : Ky)) = id := rfl
  rw [this, List.map_id]
theorem order_all {hd : List ByteArray} {od : List Ky} {v : ByteArray} (h : v ∈ hd) : v ∈ (orderL hd od).map Ky.var := by
  rw [order_vars, List.mem_append]
  by_cases h1 : v ∈ od.map Ky.var
  · exact .inl h1
  · exact .inr (List.mem_filter.2 ⟨h, by simp only [decide_eq_false h1]; rfl⟩)
theorem order_fine {hd : List ByteArray} {od : List Ky} (h : orderE hd od = 0) (hh : headE hd = 0) : orderE hd ((orderL hd od).map turnK) = 0 := by
  obtain ⟨h1, h2⟩ := orderE_iff.1 h
  rw [orderE_iff, turn_var, order_vars]
  refine ⟨fun k hk => ?_, ?_⟩
  · have hv : k.var ∈ ((orderL hd od).map turnK).map Ky.var := List.mem_map.2 ⟨k, hk, rfl⟩
    rw [turn_var, order_vars] at hv
    rcases List.mem_append.1 hv with e | e
    · obtain ⟨y, hy, e2⟩ := List.mem_map.1 e
      rw [← e2]; exact h1 y hy
    · exact (List.mem_filter.1 e).1
  · rw [List.nodup_append]
    refine ⟨h2, (headE_nodup hh).filter _, fun a ha b hb e => ?_⟩
    subst e
    have := (List.mem_filter.1 hb).2
    simp only [decide_eq_true ha] at this
    cases this
end Go.Proofs.YtmmmdinncmbjkaaGreat
