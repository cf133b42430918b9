/- What Small gives: few variables, few terms. -/
import Derived.Test.YtiahaofjmcjdiaaDoorHu
namespace Go.Proofs.YtiahaofjmcjdiaaDoor

theorem len_sub {α : Type} [DecidableEq α] : ∀ {S O : List α}, S.Nodup → (∀ s ∈ S, s ∈ O) → S.length ≤ O.length
  | [], _, _, _ => by simp
  | a :: S, O, h, hs => by
    obtain ⟨h1, h2⟩ := List.nodup_cons.1 h
    have h3 := len_sub (S := S) (O := O.erase a) h2 (fun s hm => (List.mem_erase_of_ne (fun (e : s = a) => h1 (by rw [← e]; exact hm))).2 (hs s (by simp [hm])))
    have h4 := List.length_erase_of_mem (hs a (by simp))
    have h5 : 0 < O.length := List.length_pos_of_mem (hs a (by simp))
    simp only [List.length_cons]
    omega
theorem nodup_map_on {α β : Type} {f : α → β} : ∀ {l : List α}, l.Nodup → (∀ x ∈ l, ∀ y ∈ l, f x = f y → x = y) → (l.map f).Nodup
  | [], _, _ => by simp
  | a :: l, h, hi => by
    obtain ⟨h1, h2⟩ := List.nodup_cons.1 h
    rw [List.map_cons, List.nodup_cons]
    refine ⟨fun hm => ?_, nodup_map_on h2 (fun x hx y hy => hi x (by simp [hx]) y (by simp [hy]))⟩
    obtain ⟨b, hb, e⟩ := List.mem_map.1 hm
    exact h1 (by rw [hi a (by simp) b (by simp [hb]) e.symm]; exact hb)
theorem termsL_iff {only : Bool} {l : List Int} {x : Int} : x ∈ termsL only l ↔ x ∈ l ∧ (x < 0 ∨ only = false) := by
  have h : ∀ (l out : List Int), x ∈ l.foldl (tStep only) out ↔ x ∈ out ∨ (x ∈ l ∧ (x < 0 ∨ only = false)) := by
    intro l
    induction l with
    | nil => simp
    | cons y l ih =>
      intro out
      rw [List.foldl_cons, ih]
      have hA : x ∈ tStep only out y ↔ x ∈ out ∨ (x = y ∧ (x < 0 ∨ only = false)) := by
        unfold tStep
        by_cases e : y ∉ out ∧ (y < 0 ∨ only = false)
        · rw [if_pos e, List.mem_append, List.mem_singleton]
          constructor
          · rintro (h | h)
            · exact .inl h
            · exact .inr ⟨h, h ▸ e.2⟩
          · rintro (h | h)
            · exact .inl h
            · exact .inr h.1
        · rw [if_neg e]
          constructor
          · exact .inl
          · rintro (h | ⟨h1, h2⟩)
            · exact h
            · subst h1
              exact Classical.byContradiction (fun h3 => e ⟨h3, h2⟩)
      rw [hA, List.mem_cons]
      constructor
      · rintro ((h | h) | h)
        · exact .inl h
        · exact .inr ⟨.inl h.1, h.2⟩
        · exact .inr ⟨.inr h.1, h.2⟩
      · rintro (h | ⟨h | h, h2⟩)
        · exact .inl (.inl h)
        · exact .inl (.inr ⟨h, h2⟩)
        · exact .inr ⟨h, h2⟩
  unfold termsL; rw [h]; simp
theorem idx_inj {ts : List Tm} {x y : Tm} (hx : x ∈ ts) (h : ts.idxOf x = ts.idxOf y) : x = y := by
  have h1 : ts.idxOf x < ts.length := List.idxOf_lt_length_of_mem hx
  have h2 : ts.idxOf y < ts.length := by omega
  have e1 := List.getElem_idxOf h1
  have e2 := List.getElem_idxOf h2
  rw [← e1, ← e2]
  simp [h]
theorem vars_small (xs : List At) : (varsT (allT xs)).length ≤ (termsL true (allR (rats xs))).length := by
  have hn : ((varsT (allT xs)).map (fun v => numT (tabT [] (allT xs)) (varT v))).Nodup := by
    refine nodup_map_on (varsT_nodup _) ?_
    intro u hu v hv he
    obtain ⟨t, ht, hu1, hu2⟩ := varsT_iff.1 hu
    obtain ⟨s, hs, hv1, hv2⟩ := varsT_iff.1 hv
    have ku : (varT u).key = varT u := by unfold Tm.key; rw [if_neg hu2]
    have kv : (varT v).key = varT v := by unfold Tm.key; rw [if_neg hv2]
    have mu : varT u ∈ tabT [] (allT xs) := by have h := tabT_mem (ts := []) ht; unfold Tm.key at h; rw [if_neg (by rw [hu1]; exact hu2), hu1] at h; exact h
    have mv : varT v ∈ tabT [] (allT xs) := by have h := tabT_mem (ts := []) hs; unfold Tm.key at h; rw [if_neg (by rw [hv1]; exact hv2), hv1] at h; exact h
    have au : addT (tabT [] (allT xs)) (varT u) = tabT [] (allT xs) := by rw [addT, if_pos (by rw [ku]; exact mu)]
    have av : addT (tabT [] (allT xs)) (varT v) = tabT [] (allT xs) := by rw [addT, if_pos (by rw [kv]; exact mv)]
    unfold numT at he
    rw [if_neg hu2, if_neg hv2, au, av, ku, kv] at he
    have h9 : (tabT [] (allT xs)).idxOf (varT u) = (tabT [] (allT xs)).idxOf (varT v) := by omega
    exact congrArg Tm.var (idx_inj mu h9)
  have h := len_sub (O := termsL true (allR (rats xs))) hn (fun x hx => ?_)
  · simpa using h
  · obtain ⟨v, hv, rfl⟩ := List.mem_map.1 hx
    obtain ⟨t, ht, h1, h2⟩ := varsT_iff.1 hv
    have hne : t.var ≠ ⟨#[]⟩ := by rw [h1]; exact h2
    have e : numT (tabT [] (allT xs)) (varT v) = numT (tabT [] (allT xs)) t := by
      have kt : t.key = varT v := by unfold Tm.key; rw [if_neg hne, h1]
      have kv : (varT v).key = varT v := by unfold Tm.key; rw [if_neg h2]
      unfold numT addT
      rw [kt, kv, if_neg hne, if_neg h2]
    rw [e]
    refine termsL_iff.2 ⟨?_, .inl ?_⟩
    · unfold rats; rw [allR_rats]; exact List.mem_map.2 ⟨t, ht, rfl⟩
    · unfold numT; rw [if_neg hne]; omega
theorem allT_small {xs : List At} {m : Nat} (h : ∀ a ∈ xs, a.terms.length ≤ m) : (allT xs).length ≤ xs.length * m := by
  induction xs with
  | nil => simp [allT]
  | cons a xs ih =>
    have h1 := ih (fun b hb => h b (by simp [hb]))
    have h2 := h a (by simp)
    have e : allT (a :: xs) = a.terms ++ allT xs := by simp [allT]
    rw [e, List.length_append, List.length_cons, Nat.succ_mul]
    omega
end Go.Proofs.YtiahaofjmcjdiaaDoor
