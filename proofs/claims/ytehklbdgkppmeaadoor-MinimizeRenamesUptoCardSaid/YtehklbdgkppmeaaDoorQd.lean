/- Plain laws: cores, the program's and the reference's; containment by renaming. -/
import Derived.Test.YtehklbdgkppmeaaDoorQc
namespace Go.Proofs.YtehklbdgkppmeaaDoor
open Go.RowKit Go.Maps

def sameA (a b : At) : Bool := decide (a.rel = b.rel ∧ a.terms = b.terms)
def dedS (out : List At) (a : At) : List At := if out.any (fun b => sameA b a) then out else out ++ [a]
def dedR (xs : List At) : List At := xs.foldl dedS []
theorem dedR_snoc (xs : List At) (a : At) : dedR (xs ++ [a]) = if (dedR xs).any (fun b => sameA b a) then dedR xs else dedR xs ++ [a] := by
  unfold dedR; rw [List.foldl_append]; rfl
theorem dedR_length (xs : List At) : (dedR xs).length ≤ xs.length := by
  suffices h : ∀ (xs l : List At), (xs.foldl dedS l).length ≤ l.length + xs.length by
    have := h xs []; simpa [dedR] using this
  intro xs
  induction xs with
  | nil => intro l; simp
  | cons a xs ih =>
    intro l
    rw [List.foldl_cons]
    have h1 := ih (dedS l a)
    have h2 : (dedS l a).length ≤ l.length + 1 := by unfold dedS; split <;> simp
    rw [List.length_cons]
    omega
theorem repA_none (a : At) : repA (firstP []) a = a := by
  have e : a.terms.map (repT (firstP [])) = a.terms.map id := List.map_congr_left (fun t _ => by unfold repT; split <;> rfl)
  cases a
  simp only [repA] at e ⊢
  rw [e, List.map_id]
theorem app_ded {xs : List At} (h : ∀ a ∈ xs, a.neg = false) : appL (firstP []) xs = dedR xs := by
  suffices hs : ∀ (ys l : List At), (∀ a ∈ ys, a.neg = false) → (∀ a ∈ l, a.neg = false) → ys.foldl (fun l a => addA l (repA (firstP []) a)) l = ys.foldl dedS l from hs xs [] h (by simp)
  intro ys
  induction ys with
  | nil => intro l _ _; rfl
  | cons a ys ih =>
    intro l hy hl
    rw [List.foldl_cons, List.foldl_cons, repA_none]
    have ha := hy a (by simp)
    have e : addA l a = dedS l a := by
      unfold addA dedS
      by_cases hk : a.keyS ∈ l.map At.keyS
      · obtain ⟨b, hb, e⟩ := List.mem_map.1 hk
        have e2 := keyS_inj e
        subst e2
        rw [if_pos hk, if_pos (List.any_eq_true.2 ⟨b, hb, decide_eq_true ⟨rfl, rfl⟩⟩)]
      · rw [if_neg hk, if_neg (fun hh => hk ?_)]
        obtain ⟨b, hb, e⟩ := List.any_eq_true.1 hh
        obtain ⟨e1, e2⟩ := of_decide_eq_true e
        have : b = a := by
          have h3 := hl b hb
          cases a; cases b
          simp only at e1 e2 ha h3
          subst e1 e2 ha h3; rfl
        exact List.mem_map.2 ⟨b, hb, by rw [this]⟩
    rw [e]
    refine ih _ (fun b hb => hy b (by simp [hb])) ?_
    unfold dedS
    split
    · exact hl
    · intro b hb
      rcases List.mem_append.1 hb with hb | hb
      · exact hl b hb
      · rw [List.mem_singleton.1 hb]; exact ha
theorem dedR_mem {xs : List At} {a : At} (h : a ∈ dedR xs) : a ∈ xs := by
  suffices hs : ∀ (ys l : List At), a ∈ ys.foldl dedS l → a ∈ l ∨ a ∈ ys by
    rcases hs xs [] h with h | h
    · simp at h
    · exact h
  intro ys
  induction ys with
  | nil => intro l h; exact .inl h
  | cons b ys ih =>
    intro l h
    rcases ih _ h with h | h
    · unfold dedS at h
      split at h
      · exact .inl h
      · rcases List.mem_append.1 h with h | h
        · exact .inl h
        · exact .inr (by rw [List.mem_singleton.1 h]; simp)
    · exact .inr (by simp [h])
/-- Every atom has a same one among them. -/
theorem dedR_has {xs : List At} {a : At} (h : a ∈ xs) : ∃ b ∈ dedR xs, sameA b a = true := by
  suffices hs : ∀ (ys l : List At), (a ∈ ys ∨ ∃ b ∈ l, sameA b a = true) → ∃ b ∈ ys.foldl dedS l, sameA b a = true from hs xs [] (.inl h)
  intro ys
  induction ys with
  | nil => intro l h; rcases h with h | h; simp at h; exact h
  | cons c ys ih =>
    intro l h
    rw [List.foldl_cons]
    refine ih _ ?_
    unfold dedS
    rcases h with h | ⟨b, hb, e⟩
    · rcases List.mem_cons.1 h with rfl | h
      · right
        split
        · rename_i hh; exact List.any_eq_true.1 hh
        · exact ⟨a, by simp, decide_eq_true ⟨rfl, rfl⟩⟩
      · exact .inl h
    · right
      split
      · exact ⟨b, hb, e⟩
      · exact ⟨b, by simp [hb], e⟩
theorem dedR_nodup (xs : List At) : (dedR xs).Pairwise (fun a b => sameA a b = false) := by
  suffices hs : ∀ (ys l : List At), l.Pairwise (fun a b => sameA a b = false) → (ys.foldl dedS l).Pairwise (fun a b => sameA a b = false) from hs xs [] List.Pairwise.nil
  intro ys
  induction ys with
  | nil => intro l h; exact h
  | cons c ys ih =>
    intro l h
    rw [List.foldl_cons]
    refine ih _ ?_
    unfold dedS
    split
    · exact h
    · rename_i hh
      refine List.pairwise_append.2 ⟨h, by simp, fun a ha b hb => ?_⟩
      rw [List.mem_singleton.1 hb]
      cases hs : sameA a c with
      | false => rfl
      | true => exact absurd (List.any_eq_true.2 ⟨a, ha, hs⟩) hh
theorem dedR_id {xs : List At} (h : xs.Pairwise (fun a b => sameA a b = false)) : dedR xs = xs := by
  suffices hs : ∀ (ys l : List At), (l ++ ys).Pairwise (fun a b => sameA a b = false) → ys.foldl dedS l = l ++ ys from by have := hs xs [] (by simpa using h); simpa [dedR] using this
  intro ys
  induction ys with
  | nil => intro l _; simp
  | cons c ys ih =>
    intro l h
    rw [List.foldl_cons]
    have hno : l.any (fun b => sameA b c) = false := by
      rw [List.any_eq_false]
      intro b hb
      have := (List.pairwise_append.1 h).2.2 b hb c (by simp)
      simp [this]
    have e : dedS l c = l ++ [c] := by unfold dedS; rw [hno]; rfl
    rw [e]
    have := ih (l ++ [c]) (by simpa using h)
    simpa using this

/-- Removing one atom after another. -/
def coreL (ok : List At → List At → Bool) : Nat → List At → List At
  | 0, l => l
  | i + 1, l => coreL ok i (if ok l (l.eraseIdx i) = true then l.eraseIdx i else l)
def okP (fx : List ByteArray) (V : List ByteArray) (l m : List At) : Bool := !(fx.any (fun v => decide (v ∈ V) && !decide (v ∈ varsT (allT m)))) && (findS l m fx).isSome
def okR (keep : List ByteArray) (l m : List At) : Bool := keep.all (fun v => decide (v ∈ varsT (allT m))) && decide (0 < m.length) && homR l keep m keep
def keepS (V k : List ByteArray) (v : ByteArray) : List ByteArray := if v ∈ V ∧ v ∉ k then k ++ [v] else k
def keepR (V fx : List ByteArray) : List ByteArray := fx.foldl (keepS V) []
theorem keepR_snoc (V fx : List ByteArray) (v : ByteArray) : keepR V (fx ++ [v]) = if v ∈ V ∧ v ∉ keepR V fx then keepR V fx ++ [v] else keepR V fx := by
  unfold keepR; rw [List.foldl_append]; rfl
theorem keepR_length (V fx : List ByteArray) : (keepR V fx).length ≤ fx.length := by
  suffices h : ∀ (fx k : List ByteArray), (fx.foldl (keepS V) k).length ≤ k.length + fx.length by
    have := h fx []; simpa [keepR] using this
  intro fx
  induction fx with
  | nil => intro k; simp
  | cons v fx ih =>
    intro k
    rw [List.foldl_cons]
    have h1 := ih (keepS V k v)
    have h2 : (keepS V k v).length ≤ k.length + 1 := by unfold keepS; split <;> simp
    rw [List.length_cons]
    omega
theorem keepR_mem {V fx : List ByteArray} {v : ByteArray} : v ∈ keepR V fx ↔ v ∈ fx ∧ v ∈ V := by
  suffices h : ∀ (fx k : List ByteArray), v ∈ fx.foldl (keepS V) k ↔ v ∈ k ∨ (v ∈ fx ∧ v ∈ V) by
    have := h fx []; simpa [keepR] using this
  intro fx
  induction fx with
  | nil => intro k; simp
  | cons u fx ih =>
    intro k
    rw [List.foldl_cons, ih]
    unfold keepS
    split
    · rename_i h
      rw [List.mem_append, List.mem_singleton, List.mem_cons]
      constructor
      · rintro ((h1 | h1) | h1)
        · exact .inl h1
        · exact .inr ⟨.inl h1, h1 ▸ h.1⟩
        · exact .inr ⟨.inr h1.1, h1.2⟩
      · rintro (h1 | ⟨h1 | h1, h2⟩)
        · exact .inl (.inl h1)
        · exact .inl (.inr h1)
        · exact .inr ⟨h1, h2⟩
    · rename_i h
      rw [List.mem_cons]
      constructor
      · rintro (h1 | h1)
        · exact .inl h1
        · exact .inr ⟨.inr h1.1, h1.2⟩
      · rintro (h1 | ⟨h1 | h1, h2⟩)
        · exact .inl h1
        · subst h1
          exact .inl (Classical.byContradiction (fun hk => h ⟨h2, hk⟩))
        · exact .inr ⟨h1, h2⟩
def OkH (fx V : List ByteArray) (l m : List At) : Prop := (∀ v ∈ fx, v ∈ V → v ∈ varsT (allT m)) ∧ HomF (idPin fx) l m
theorem okP_iff {fx V : List ByteArray} {l m : List At} : okP fx V l m = true ↔ OkH fx V l m := by
  unfold okP OkH
  rw [Bool.and_eq_true, findS_hom, Bool.not_eq_true', List.any_eq_false]
  refine and_congr_left (fun _ => forall_congr' (fun v => forall_congr' (fun hv => ?_)))
  by_cases h1 : v ∈ V <;> by_cases h2 : v ∈ varsT (allT m) <;> simp [h1, h2]
theorem vars_mono {l m : List At} (h : ∀ a ∈ l, a ∈ m) {v : ByteArray} (hv : v ∈ varsT (allT l)) : v ∈ varsT (allT m) := by
  obtain ⟨t, ht, hs⟩ := varsT_iff.1 hv
  obtain ⟨a, ha, hta⟩ := allT_iff.1 ht
  exact varsT_iff.2 ⟨t, allT_iff.2 ⟨a, h a ha, hta⟩, hs⟩
theorem homF_keep {fx V : List ByteArray} {l m : List At} (h : ∀ v ∈ varsT (allT l), v ∈ V) : HomF (idPin (keepR V fx)) l m ↔ HomF (idPin fx) l m := by
  constructor
  · intro hh
    exact homF_pins hh (fun s u hs hv => ⟨keepR_mem.2 ⟨hs.1, h s hv⟩, hs.2⟩) (fun s u u' h1 h2 => h1.2.trans h2.2.symm)
  · rintro ⟨f, h1, h2⟩
    exact ⟨f, h1, fun s u hs => h2 s u ⟨(keepR_mem.1 hs.1).1, hs.2⟩⟩
theorem homF_ne {p : ByteArray → ByteArray → Prop} {l m : List At} (h : HomF p l m) (hl : l ≠ []) : 0 < m.length := by
  obtain ⟨f, hf, -⟩ := h
  cases l with
  | nil => exact absurd rfl hl
  | cons a l => obtain ⟨b, hb, -⟩ := hf a (by simp); exact List.length_pos_of_mem hb
theorem okR_iff {fx V : List ByteArray} {l m : List At} (h : ∀ v ∈ varsT (allT l), v ∈ V) (hl : l ≠ []) : okR (keepR V fx) l m = true ↔ OkH fx V l m := by
  unfold okR OkH
  rw [Bool.and_eq_true, Bool.and_eq_true, homR_self, homF_keep h, List.all_eq_true]
  constructor
  · rintro ⟨⟨h1, -⟩, h2⟩
    exact ⟨fun v hv hV => of_decide_eq_true (h1 v (keepR_mem.2 ⟨hv, hV⟩)), h2⟩
  · rintro ⟨h1, h2⟩
    exact ⟨⟨fun v hv => decide_eq_true (h1 v (keepR_mem.1 hv).1 (keepR_mem.1 hv).2), decide_eq_true (homF_ne h2 hl)⟩, h2⟩
theorem erase_mem {l : List At} {i : Nat} {a : At} (h : a ∈ l.eraseIdx i) : a ∈ l := (List.eraseIdx_sublist l i).subset h
theorem core_same {fx V : List ByteArray} : ∀ (i : Nat) (l : List At), (∀ v ∈ varsT (allT l), v ∈ V) → l ≠ [] → coreL (okP fx V) i l = coreL (okR (keepR V fx) ) i l
  | 0, _, _, _ => rfl
  | i + 1, l, h, hl => by
    unfold coreL
    have e : okP fx V l (l.eraseIdx i) = okR (keepR V fx) l (l.eraseIdx i) := by rw [Bool.eq_iff_iff, okP_iff, okR_iff h hl]
    rw [← e]
    split
    · rename_i hk
      refine core_same i _ (fun v hv => h v (vars_mono (fun a ha => erase_mem ha) hv)) ?_
      have h0 := homF_ne (okP_iff.1 hk).2 hl
      intro e0
      rw [e0] at h0
      simp at h0
    · exact core_same i l h hl
/-- No single atom of a core can go. -/
def Least (fx V : List ByteArray) (l : List At) : Prop := ∀ j, j < l.length → ¬ OkH fx V l (l.eraseIdx j)
theorem OkH.up {fx V : List ByteArray} {l m m' : List At} (h : OkH fx V l m) (hs : ∀ a ∈ m, a ∈ m') : OkH fx V l m' := ⟨fun v hv hV => vars_mono hs (h.1 v hv hV), homF_sub h.2 (fun _ h => h) hs⟩
theorem OkH.trans {fx V : List ByteArray} {l m k : List At} (h : OkH fx V l m) (h' : OkH fx V m k) : OkH fx V l k := ⟨h'.1, homF_comp h.2 h'.2 (fun s u hs => ⟨s, ⟨hs.1, rfl⟩, hs, fun e => hs.2.trans e⟩)⟩
theorem core_least {fx V : List ByteArray} : ∀ (i : Nat) (l : List At), (∀ j, i ≤ j → j < l.length → ¬ OkH fx V l (l.eraseIdx j)) → Least fx V (coreL (okP fx V) i l)
  | 0, l, h => fun j hj => h j (Nat.zero_le _) hj
  | i + 1, l, h => by
    unfold coreL
    split
    · rename_i hk
      have hk := okP_iff.1 hk
      refine core_least i _ (fun j hij hj hh => ?_)
      by_cases hi : i < l.length
      · rw [List.length_eraseIdx, if_pos hi] at hj
        refine h (j + 1) (by omega) (by omega) ((hk.trans hh).up (fun a ha => ?_))
        rw [List.mem_eraseIdx_iff_getElem] at ha ⊢
        obtain ⟨k, h1, h2, h3⟩ := ha
        rw [List.getElem_eraseIdx] at h3
        rw [List.length_eraseIdx, if_pos hi] at h1
        split at h3
        · exact ⟨k, by omega, by omega, h3⟩
        · exact ⟨k + 1, by omega, by omega, h3⟩
      · rw [List.eraseIdx_of_length_le (by omega)] at hj hh hk
        omega
    · rename_i hk
      refine core_least i _ (fun j hij hj hh => ?_)
      rcases Nat.lt_or_ge i j with h1 | h1
      · exact h j (by omega) hj hh
      · obtain rfl : j = i := by omega
        exact hk (okP_iff.2 hh)
theorem core_sub {ok : List At → List At → Bool} : ∀ (i : Nat) (l : List At), (coreL ok i l).Sublist l
  | 0, l => List.Sublist.refl _
  | i + 1, l => by
    unfold coreL
    split
    · exact (core_sub i _).trans (List.eraseIdx_sublist _ _)
    · exact core_sub i l
theorem core_ok {fx V : List ByteArray} : ∀ (i : Nat) (l : List At), OkH fx V l l → OkH fx V l (coreL (okP fx V) i l)
  | 0, l, h => h
  | i + 1, l, h => by
    unfold coreL
    split
    · rename_i hk
      have hk := okP_iff.1 hk
      refine hk.trans (core_ok i _ ⟨hk.1, ?_⟩)
      exact homF_comp (homF_sub h.2 (fun a ha => erase_mem ha) (fun _ h => h)) hk.2 (fun s u hs => ⟨s, ⟨hs.1, rfl⟩, hs, fun e => hs.2.trans e⟩)
    · exact core_ok i l h
theorem core_stay {ok : List At → List At → Bool} : ∀ (i : Nat) (l : List At), (∀ j, j < i → ok l (l.eraseIdx j) = false) → coreL ok i l = l
  | 0, _, _ => rfl
  | i + 1, l, h => by
    unfold coreL
    rw [h i (by omega)]
    exact core_stay i l (fun j hj => h j (by omega))
end Go.Proofs.YtehklbdgkppmeaaDoor
