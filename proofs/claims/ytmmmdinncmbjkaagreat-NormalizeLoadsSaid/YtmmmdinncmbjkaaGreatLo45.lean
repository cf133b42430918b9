/- Plain law: the variables of the sources. -/
import Derived.Test.YtmmmdinncmbjkaaGreatLo18
import Derived.Test.YtmmmdinncmbjkaaGreatLo17
import Derived.Test.YtmmmdinncmbjkaaGreatLo44
namespace Go.Proofs.YtmmmdinncmbjkaaGreat
open Go.RowKit Go.Maps
theorem order_mem {hd : List ByteArray} {od : List Ky} (h : orderE hd od = 0) : ∀ k ∈ od, k.var ∈ hd := by
  intro k hk
  obtain ⟨i, hi, rfl⟩ := List.getElem_of_mem hk
  have h1 := firstI_zero.1 h i hi
  have e : (od.map Ky.var).getD i ⟨#[]⟩ = od[i].var := by rw [List.getD_eq_getElem?_getD, List.getElem?_eq_getElem (by simpa using hi)]; simp
  rw [e] at h1
  by_cases hm : od[i].var ∈ hd
  · exact hm
  · rw [if_neg hm] at h1; cases h1
theorem names_bound {ss : List Sc} {q : Qy} {r : Rl} (hc : checkE ss q = 0) (hr : r ∈ q.rs) : ∀ s ∈ namesL q r, boundB r s = true := by
  obtain ⟨-, -, -, -, -, hrl, ho⟩ := ast_ok (check_ast hc)
  obtain ⟨-, -, hb⟩ := rule_ok (hrl r hr)
  intro s hs
  have hh : ∀ s ∈ q.hd, boundB r s = true := fun s hs => hb s (List.mem_append_left _ (by
    unfold needV
    split
    · exact hs
    · exact List.mem_append_left _ hs))
  rcases mem_addNs.1 hs with h1 | h1
  · rcases mem_addNs.1 h1 with h2 | h2
    · cases h2
    · obtain ⟨k, hk, rfl⟩ := List.mem_map.1 h2
      unfold orderL at hk
      rcases List.mem_append.1 hk with h3 | h3
      · exact hh _ (order_mem ho k h3)
      · obtain ⟨v, hv, rfl⟩ := List.mem_map.1 h3
        exact hh _ (List.mem_filter.1 hv).1
  · exact hb s (List.mem_append_right _ h1)
theorem bound_ne {r : Rl} {s : ByteArray} (h : boundB r s = true) : s ≠ ⟨#[]⟩ := by
  unfold boundB at h
  simp only [Bool.and_eq_true, decide_eq_true_eq] at h
  exact h.1
theorem names_nodup (q : Qy) (r : Rl) : (namesL q r).Nodup := addNs_nodup _ (addNs_nodup _ List.nodup_nil)
theorem names_cov {q : Qy} {r : Rl} {a : At} (ha : a ∈ r.ats) : ∀ t ∈ a.terms, t.var ≠ ⟨#[]⟩ → t.var ∈ namesL q r := fun _ ht hv => mem_addNs.2 (.inr (varsC_term ha ht hv))
/-- The sources, as the reference finds them. -/
def srcsL (q : Qy) (r : Rl) : List Src := upL (srcR (namesL q r) r) r.ats.length
theorem norm_srcs {ss : List Sc} {q : Qy} {r : Rl} (hc : checkE ss q = 0) (hr : r ∈ q.rs) : normalL q r = ⟨namesL q r, (orderL q.hd q.od).length, (orderL q.hd q.od).map Ky.desc, srcsL q r⟩ := by
  unfold normalL srcsL
  rw [srcs_ref (names_nodup q r) (fun s hs => bound_ne (names_bound hc hr s hs)) (fun a ha => names_cov ha)]
theorem srcR_some {names : List ByteArray} {r : Rl} {i : Nat} {s : Src} : srcR names r i = some s ↔ ∃ hi : i < r.ats.length, r.ats[i].neg = false ∧ s = refS names r i r.ats[i] := by
  unfold srcR
  rcases Nat.lt_or_ge i r.ats.length with h | h
  · rw [List.getElem?_eq_getElem h]
    simp only [Option.bind_some]
    rcases hn : r.ats[i].neg with _ | _
    · rw [if_neg (by simp)]
      exact ⟨fun e => ⟨h, hn, by injection e with e; exact e.symm⟩, fun ⟨_, _, e⟩ => by rw [e]⟩
    · rw [if_pos rfl]
      exact ⟨fun e => by simp at e, fun ⟨_, e, _⟩ => by rw [hn] at e; cases e⟩
  · rw [List.getElem?_eq_none h]
    exact ⟨fun e => by simp at e, fun ⟨h2, _⟩ => by omega⟩
theorem srcs_len {ss : List Sc} {q : Qy} {r : Rl} (hc : checkE ss q = 0) (hr : r ∈ q.rs) : (srcsL q r).length ≤ 8 := by
  obtain ⟨-, -, -, -, -, hrl, -⟩ := ast_ok (check_ast hc)
  obtain ⟨hi, -, -⟩ := rule_ok (hrl r hr)
  have h1 := upL_len (srcR (namesL q r) r) r.ats.length
  have h2 := (items_ok hi).2.1
  unfold srcsL
  omega
/-- What has been seen. -/
def sv (n : Nat) (vis : List Int) : List Value := (List.range n).map (fun j : Nat => Value.bool (decide ((j : Int) ∈ vis)))
end Go.Proofs.YtmmmdinncmbjkaaGreat
