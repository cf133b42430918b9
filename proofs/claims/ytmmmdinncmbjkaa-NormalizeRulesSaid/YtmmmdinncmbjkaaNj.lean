/- Contracts: slices.Contains at names, ast.checkHead, ast.checkAggregate. -/
import Derived.Test.YtmmmdinncmbjkaaNi
namespace Go.Proofs.Ytmmmdinncmbjkaa
open Go.RowKit Go.Maps

def IdxPost (l : List ByteArray) (s : ByteArray) (w : World) (e : Ending) (w' : World) : Prop := ∃ r : Int, e = .returned (.int .i64 r) ∧ ((r < 0 ∧ s ∉ l) ∨ (0 ≤ r ∧ s ∈ l)) ∧ w = w'
theorem toList_inj' {a b : ByteArray} (h : a.toList = b.toList) : a = b := by
  rw [ByteArray.toList_eq, ByteArray.toList_eq] at h
  exact Go.WideShapes.bytes_inj h
set_option maxRecDepth 20000 in
set_option maxHeartbeats 800000 in
theorem index_str {F : Nat → Prop} {w : World} {v : Value} {l : List ByteArray} {s : ByteArray} (h : Strs F w v l) (hl : l.length ≤ maxLen) :
    Calls Try.prog 62 #[v, .string s] w (IdxPost l s w) := by
  unfold maxLen at hl
  obtain ⟨A, c, rfl, hc, hat⟩ := h
  obtain ⟨n, hn⟩ : ∃ n, n = l.length := ⟨_, rfl⟩
  rw [← hn] at hc hl ⊢
  have HN := Lib.hid hn; have HAT := Lib.hid hat
  clear hn hat
  go_enter Try.func62, Try.ntmps62
  go_wp2_with fail
  go_loopw [8] (fun q wr => ∃ i : Nat, i ≤ n ∧ q = .int .i64 (i : Int) ∧ (∀ j (h : j < l.length), j < i → l[j] ≠ s) ∧ wr = w) (fun q _ => n - (intOf q).toNat)
  case atStart => exact ⟨0, Nat.zero_le _, rfl, fun _ _ h => absurd h (by omega), rfl⟩
  case round =>
    obtain ⟨i, hi, rfl, hgo, rfl⟩ := hrel
    have HGO := Lib.hid hgo
    clear hgo
    by_cases hlt : i < n
    · have i1 : (0 : Int) ≤ (i : Int) := by omega
      have i2 : (i : Int) < (n : Int) := by omega
      have hix : i < l.length := by have := HN.out; omega
      obtain ⟨ad, rfl, -, c0⟩ := HAT.out.str hix
      by_cases he : l[i] = s
      · have HR : Hid (s ∈ l) := Lib.hid (by rw [← he]; exact List.getElem_mem hix)
        rw [he] at c0
        clear he
        go_wp2_with fail
        go_ret
        exact ⟨i, rfl, .inr ⟨by omega, HR.out⟩, rfl⟩
      · have hne : ¬ s.toList = l[i].toList := fun e => he (toList_inj' e).symm
        obtain ⟨x, hx⟩ : ∃ x, x = l[i] := ⟨_, rfl⟩
        rw [← hx] at c0 hne
        have hne2 : (s.toList == x.toList) = false := by simp [hne]
        have HE := Lib.hid he
        clear he hx
        go_wp2_with fail
        all_goals first
          | contradiction
          | (go_roundw
             case rel =>
               refine ⟨i + 1, by omega, by go_num, fun j hj hji => ?_, trivial⟩
               rcases Nat.lt_or_ge j i with h | h
               · exact HGO.out j hj h
               · obtain rfl : j = i := by omega
                 exact HE.out
             case measure => simp [intOf]; omega)
    · obtain rfl : i = n := by omega
      have hdn : ¬ (i : Int) < (i : Int) := by omega
      have HR : Hid (s ∉ l) := Lib.hid (fun hm => by
        obtain ⟨j, hj, e⟩ := List.getElem_of_mem hm
        exact HGO.out j hj (by have := HN.out; omega) e)
      go_wp2_with fail
      go_ret
      exact ⟨-1, rfl, .inl ⟨by omega, HR.out⟩, rfl⟩
theorem contains_str {F : Nat → Prop} {w : World} {v : Value} {l : List ByteArray} {s : ByteArray} (h : Strs F w v l) (hl : l.length ≤ maxLen) :
    Calls Try.prog 44 #[v, .string s] w (fun e w' => e = .returned (.bool (decide (s ∈ l))) ∧ w = w') := by
  have H := Lib.hid (index_str (s := s) h hl)
  clear h hl
  go_enter Try.func44, Try.ntmps44
  go_wp2_with fail
  refine H.out.mono ?_
  rintro e w' ⟨r, rfl, hr, rfl⟩
  rcases hr with ⟨h1, h2⟩ | ⟨h1, h2⟩
  · have h3 : decide ((0 : Int) ≤ r) = false := by simp; omega
    have HR := Lib.hid (decide_eq_false h2)
    clear h2
    go_wp2_with fail
    go_ret
    rw [HR.out]
    exact ⟨rfl, rfl⟩
  · have HR := Lib.hid (decide_eq_true h2)
    clear h2
    go_wp2_with fail
    go_ret
    rw [HR.out]
    exact ⟨rfl, rfl⟩
theorem Strs.take {F : Nat → Prop} {w : World} {A : Option Addr} {n c : Nat} {l : List ByteArray} (h : Strs F w (.slice A n c) l) {i : Nat} (hi : i ≤ l.length) : Strs F w (.slice A i c) (l.take i) := by
  obtain ⟨A', c', e, hc, hcl⟩ := h
  injection e with e1 e2 e3
  subst e1 e3
  refine ⟨A, c, by rw [List.length_take, Nat.min_eq_left hi], by rw [List.length_take]; omega, ?_⟩
  rcases hcl with hcl | ⟨ad, h1, h2, h3⟩
  · exact .inl (by rw [List.map_eq_nil_iff] at hcl ⊢; rw [hcl]; simp)
  · exact .inr ⟨ad, h1, h2, fun j hj => by
      have hj2 : j < l.length := by simp at hj; omega
      rw [h3 j (by simpa using hj2)]
      simp⟩
set_option maxRecDepth 20000 in
set_option maxHeartbeats 800000 in
theorem checkHead_any {F : Nat → Prop} {w : World} {v : Value} {hd : List ByteArray} (h : Strs F w v hd) (hz : ∀ s ∈ hd, s.size ≤ maxLen) :
    Calls Try.prog 35 #[v] w (Ret (fun x _ => x = .int .i64 (headE hd)) w) := by
  have HS := Lib.hid h
  obtain ⟨A, c, rfl, hc, hat⟩ := h
  obtain ⟨n, hn⟩ : ∃ n, n = hd.length := ⟨_, rfl⟩
  rw [← hn] at hc HS ⊢
  have HN := Lib.hid hn; have HAT := Lib.hid hat; have HZ := Lib.hid hz
  clear hn hat hz
  by_cases h6 : ¬ n ≤ 6
  · have HE := Lib.hid (show headE hd = 12 from if_neg (by rw [← HN.out]; exact h6))
    have h7 : (6 : Int) < (n : Int) := by omega
    rw [HE.out]
    go_enter Try.func35, Try.ntmps35
    go_wp2_with fail
    go_ret
    exact Ret.mk (Ext.refl w) rfl
  have h7 : ¬ (6 : Int) < (n : Int) := by omega
  have hEE : headE hd = _ := if_pos (by rw [← HN.out]; omega)
  obtain ⟨f, hf⟩ : ∃ f : Nat → Int, f = (fun i => if nameB (hd.getD i ⟨#[]⟩) = true then (if hd.getD i ⟨#[]⟩ ∈ hd.take i then 8 else 0) else 7) := ⟨_, rfl⟩
  rw [← hf, ← HN.out] at hEE
  have HEE := Lib.hid hEE; have HF := Lib.hid hf
  clear hEE hf
  go_enter Try.func35, Try.ntmps35
  go_wp2_with fail
  go_loopw [10] (fun q wr => ∃ i : Nat, i ≤ n ∧ q = .int .i64 (i : Int) ∧ Hid (∀ j, j < i → f j = 0) ∧ w = wr) (fun q _ => n - (intOf q).toNat)
  case atStart => exact ⟨0, Nat.zero_le _, rfl, Lib.hid (fun _ h => absurd h (by omega)), rfl⟩
  case round =>
    obtain ⟨i, hi, rfl, H, rfl⟩ := hrel
    by_cases hlt : i < n
    · have i1 : (0 : Int) ≤ (i : Int) := by omega
      have i2 : (i : Int) < (n : Int) := by omega
      have i3 : (i : Int) ≤ (c : Int) := by omega
      have hix : i < hd.length := by have := HN.out; omega
      obtain ⟨ad, rfl, -, c0⟩ := HAT.out.str hix
      have hzi := HZ.out _ (List.getElem_mem hix)
      have hg : hd.getD i ⟨#[]⟩ = hd[i] := by simp [hix]
      have hfi : f i = if nameB hd[i] = true then (if hd[i] ∈ hd.take i then 8 else 0) else 7 := by rw [HF.out]; simp only [hg]
      have hgo : f i = 0 → ∀ j, j < i + 1 → f j = 0 := fun h j hj => by
        rcases Nat.lt_or_ge j i with h1 | h1
        · exact H.out j h1
        · have : j = i := by omega
          subst this; exact h
      have hst : ∀ m : Int, m ≠ 0 → f i = m → headE hd = m := fun m hm h => by rw [HEE.out, firstI_at hlt H.out (by rw [h]; exact hm), h]
      have HC := Lib.hid (contains_str (s := hd[i]) (HS.out.take (i := i) (by omega)) (by rw [List.length_take]; simp only [maxLen]; omega))
      obtain ⟨x, hx⟩ : ∃ x, x = hd[i] := ⟨_, rfl⟩
      rw [← hx] at c0 hzi hfi HC
      have HFI := Lib.hid hfi; have HGO := Lib.hid hgo; have HST := Lib.hid hst
      clear hg hfi hgo hst hx
      by_cases hnm : nameB x = true
      · by_cases hin : x ∈ hd.take i
        · have HQ := Lib.hid (HST.out 8 (by decide) (by rw [HFI.out, if_pos hnm, if_pos hin]))
          have HNM := Lib.hid hnm; have HIN := Lib.hid (decide_eq_true hin)
          clear hnm hin
          go_wp2_with fail
          refine (valid_any x _ hzi).mono ?_
          rintro e w' ⟨rfl, rfl⟩
          rw [HNM.out]
          go_wp2_with fail
          refine HC.out.mono ?_
          rintro e w' ⟨rfl, rfl⟩
          rw [HIN.out]
          go_wp2_with fail
          go_ret
          exact Ret.mk (Ext.refl _) (ret_i HQ.out)
        · have HG := Lib.hid (HGO.out (by rw [HFI.out, if_pos hnm, if_neg hin]))
          have HNM := Lib.hid hnm; have HIN := Lib.hid (decide_eq_false hin)
          clear hnm hin
          go_wp2_with fail
          refine (valid_any x _ hzi).mono ?_
          rintro e w' ⟨rfl, rfl⟩
          rw [HNM.out]
          go_wp2_with fail
          refine HC.out.mono ?_
          rintro e w' ⟨rfl, rfl⟩
          rw [HIN.out]
          go_wp2_with fail
          go_roundw
          case rel => exact ⟨i + 1, by omega, by go_num, HG, trivial⟩
          case measure => simp [intOf]; omega
      · have HQ := Lib.hid (HST.out 7 (by decide) (by rw [HFI.out, if_neg hnm]))
        rw [Bool.not_eq_true] at hnm
        have HNM := Lib.hid hnm
        clear hnm
        go_wp2_with fail
        refine (valid_any x _ hzi).mono ?_
        rintro e w' ⟨rfl, rfl⟩
        rw [HNM.out]
        go_wp2_with fail
        go_ret
        exact Ret.mk (Ext.refl _) (ret_i HQ.out)
    · obtain rfl : i = n := by omega
      have hdi : ¬ (i : Int) < (i : Int) := by omega
      have HQ : Hid (headE hd = 0) := Lib.hid (by rw [HEE.out]; exact firstI_zero.2 H.out)
      go_wp2_with fail
      go_ret
      exact Ret.mk (Ext.refl _) (ret_i HQ.out)
set_option maxRecDepth 20000 in
set_option maxHeartbeats 800000 in
theorem checkAgg_any {w : World} {A B O : Option Addr} {na ca nb cb no co : Nat} {ag : Int} {av : ByteArray} (hz : av.size ≤ maxLen) :
    Calls Try.prog 36 #[.agg #[.slice A na ca, .int .i64 ag, .string av, .slice B nb cb, .slice O no co]] w (Ret (fun x _ => x = .int .i64 (aggE ag av)) w) := by
  by_cases h01 : ag = 0 ∨ ag = 1
  · by_cases hv : av = ⟨#[]⟩
    · have HE := Lib.hid (show aggE ag av = 0 from (if_pos h01).trans (if_pos hv))
      have hve := var_eq hv
      clear hv
      rcases h01 with rfl | rfl
      all_goals
        rw [HE.out]
        go_enter Try.func36, Try.ntmps36
        go_wp2_with fail
        go_ret
        exact Ret.mk ((Ext.refl w).alloc _) rfl
    · have HE := Lib.hid (show aggE ag av = 1 from (if_pos h01).trans (if_neg hv))
      have hve := var_ne hv
      clear hv
      rcases h01 with rfl | rfl
      all_goals
        rw [HE.out]
        go_enter Try.func36, Try.ntmps36
        go_wp2_with fail
        go_ret
        exact Ret.mk ((Ext.refl w).alloc _) rfl
  · by_cases h24 : ag = 2 ∨ ag = 3 ∨ ag = 4
    · by_cases hv : nameB av = true
      · have HE := Lib.hid (show aggE ag av = 0 from (if_neg h01).trans ((if_pos h24).trans (if_pos hv)))
        have HV := Lib.hid hv
        clear hv h01
        rcases h24 with rfl | rfl | rfl
        all_goals
          rw [HE.out]
          go_enter Try.func36, Try.ntmps36
          go_wp2_with fail
          refine (valid_any av _ hz).mono ?_
          rintro e w' ⟨rfl, rfl⟩
          rw [HV.out]
          go_wp2_with fail
          go_ret
          exact Ret.mk ((Ext.refl w).alloc _) rfl
      · have HE := Lib.hid (show aggE ag av = 7 from (if_neg h01).trans ((if_pos h24).trans (if_neg hv)))
        rw [Bool.not_eq_true] at hv
        have HV := Lib.hid hv
        clear hv h01
        rcases h24 with rfl | rfl | rfl
        all_goals
          rw [HE.out]
          go_enter Try.func36, Try.ntmps36
          go_wp2_with fail
          refine (valid_any av _ hz).mono ?_
          rintro e w' ⟨rfl, rfl⟩
          rw [HV.out]
          go_wp2_with fail
          go_ret
          exact Ret.mk ((Ext.refl w).alloc _) rfl
    · have HE := Lib.hid (show aggE ag av = 2 from (if_neg h01).trans (if_neg h24))
      have k0 : (ag == 0) = false := beq_false_of_ne (fun e => h01 (.inl e))
      have k1 : (ag == 1) = false := beq_false_of_ne (fun e => h01 (.inr e))
      have k2 : (ag == 2) = false := beq_false_of_ne (fun e => h24 (.inl e))
      have k3 : (ag == 3) = false := beq_false_of_ne (fun e => h24 (.inr (.inl e)))
      have k4 : (ag == 4) = false := beq_false_of_ne (fun e => h24 (.inr (.inr e)))
      clear h01 h24
      rw [HE.out]
      go_enter Try.func36, Try.ntmps36
      go_wp2_with fail
      go_ret
      exact Ret.mk ((Ext.refl w).alloc _) rfl
end Go.Proofs.Ytmmmdinncmbjkaa
