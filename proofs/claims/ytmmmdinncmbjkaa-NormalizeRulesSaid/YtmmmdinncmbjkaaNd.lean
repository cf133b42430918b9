/- Contracts: value.Valid, catalog.Valid, ast.valid. -/
import Derived.Test.YtmmmdinncmbjkaaNc
namespace Go.Proofs.Ytmmmdinncmbjkaa
open Go.RowKit Go.Maps

set_option maxRecDepth 20000 in
theorem vvalid_any (k n : Int) (s : ByteArray) (w : World) (hs : s.size ≤ maxLen) :
    Calls Try.prog 64 #[.agg #[.int .i64 k, .int .i64 n, .string s]] w (Ret (fun x _ => x = .bool (valB k n s)) w) := by
  have hsz : s.size ≤ 9223372036854775807 := by simpa [maxLen] using hs
  by_cases h1 : k = 1
  · have e : valB k n s = s.toList.isEmpty := by unfold valB; rw [if_pos h1, var_empty]
    rw [e]
    subst h1
    obtain ⟨b, hb⟩ : ∃ b, b = s.toList.isEmpty := ⟨_, rfl⟩
    rw [← hb]
    rcases b with _ | _
    all_goals
      have hz := hb.symm
      clear hb e
      go_enter Try.func64, Try.ntmps64
      go_wp2_with fail
      go_ret
      exact Ret.mk ((Ext.refl w).alloc _) rfl
  · have h1' : (k == 1) = false := beq_false_of_ne h1
    by_cases h2 : k = 2
    · have e : valB k n s = decide (n = 0 ∧ s.size ≤ 24) := by unfold valB; rw [if_neg h1, if_pos h2]
      rw [e]
      subst h2
      clear h1 h1' e
      by_cases h3 : n = 0
      · subst h3
        by_cases h4 : s.size ≤ 24
        · have h5 : (s.size : Int) ≤ 24 := by omega
          rw [show decide ((0 : Int) = 0 ∧ s.size ≤ 24) = true from decide_eq_true ⟨rfl, h4⟩]
          go_enter Try.func64, Try.ntmps64
          go_wp2_with fail
          go_ret
          exact Ret.mk ((Ext.refl w).alloc _) rfl
        · have h5 : ¬ (s.size : Int) ≤ 24 := by omega
          rw [show decide ((0 : Int) = 0 ∧ s.size ≤ 24) = false from decide_eq_false (fun h => h4 h.2)]
          go_enter Try.func64, Try.ntmps64
          go_wp2_with fail
          go_ret
          exact Ret.mk ((Ext.refl w).alloc _) rfl
      · have h4 : (n == 0) = false := beq_false_of_ne h3
        rw [show decide (n = 0 ∧ s.size ≤ 24) = false from decide_eq_false (fun h => h3 h.1)]
        go_enter Try.func64, Try.ntmps64
        go_wp2_with fail
        go_ret
        exact Ret.mk ((Ext.refl w).alloc _) rfl
    · have h2' : (k == 2) = false := beq_false_of_ne h2
      have e : valB k n s = false := by unfold valB; rw [if_neg h1, if_neg h2]
      rw [e]
      clear e
      go_enter Try.func64, Try.ntmps64
      go_wp2_with fail
      go_ret
      exact Ret.mk ((Ext.refl w).alloc _) rfl
end Go.Proofs.Ytmmmdinncmbjkaa
