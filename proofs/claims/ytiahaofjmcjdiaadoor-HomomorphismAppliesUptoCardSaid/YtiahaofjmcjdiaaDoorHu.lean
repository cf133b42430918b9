/- The plain law of Composes: the search is sound and complete, Check accepts what it finds, homomorphisms compose. -/
import Derived.Test.YtiahaofjmcjdiaaDoorHs
namespace Go.Proofs.YtiahaofjmcjdiaaDoor

def Hom (im : ByteArray → Option Tm) (xs ys : List At) : Prop := ∀ a ∈ xs, ∃ b ∈ ys, a.rel = b.rel ∧ a.terms.map (repT im) = b.terms
def Sub (im im' : ByteArray → Option Tm) : Prop := ∀ s t, im s = some t → im' s = some t
theorem zip_full {im : ByteArray → Option Tm} : ∀ {ta tb : List Tm}, ta.length = tb.length → (∀ t ∈ ta, imgT im t = some (repT im t)) → (ta.zip tb).all (fun p => okB im p.1 p.2) = true → ta.map (repT im) = tb
  | [], [], _, _, _ => rfl
  | [], _ :: _, h, _, _ => by simp at h
  | _ :: _, [], h, _, _ => by simp at h
  | t :: ta, u :: tb, h, hi, hz => by
    simp only [List.zip_cons_cons, List.all_cons, Bool.and_eq_true] at hz
    have h1 := hz.1
    rw [okB, hi t (by simp)] at h1
    rw [List.map_cons, zip_full (by simpa using h) (fun t ht => hi t (by simp [ht])) hz.2, of_decide_eq_true h1]
theorem ag_full {im : ByteArray → Option Tm} {a b : At} (h : agB im a.rel a.terms b.rel b.terms = true) (hv : ∀ t ∈ a.terms, t.var ≠ ⟨#[]⟩ → (im t.var).isSome = true) : a.rel = b.rel ∧ a.terms.map (repT im) = b.terms := by
  unfold agB at h
  simp only [Bool.and_eq_true, decide_eq_true_eq] at h
  refine ⟨h.1.1, zip_full h.1.2 (fun t ht => ?_) h.2⟩
  unfold imgT repT
  by_cases e : t.var = ⟨#[]⟩
  · rw [if_pos e, if_pos e]
  · rw [if_neg e, if_neg e]
    obtain ⟨u, hu⟩ := Option.isSome_iff_exists.1 (hv t ht e)
    rw [hu]; rfl
theorem zip_of {im im' : ByteArray → Option Tm} (hs : Sub im im') : ∀ ta : List Tm, (ta.zip (ta.map (repT im'))).all (fun p => okB im p.1 p.2) = true
  | [] => rfl
  | t :: ta => by
    simp only [List.map_cons, List.zip_cons_cons, List.all_cons, Bool.and_eq_true]
    refine ⟨?_, zip_of hs ta⟩
    unfold okB imgT repT
    by_cases e : t.var = ⟨#[]⟩
    · rw [if_pos e, if_pos e]; simp
    · rw [if_neg e, if_neg e]
      rcases h : im t.var with _ | u
      · rfl
      · rw [hs _ _ h]; simp
theorem ag_of {im im' : ByteArray → Option Tm} (hs : Sub im im') {a b : At} (h1 : a.rel = b.rel) (h2 : a.terms.map (repT im') = b.terms) : agB im a.rel a.terms b.rel b.terms = true := by
  unfold agB
  rw [← h2, decide_eq_true h1, zip_of hs]
  simp
theorem poss_of {im im' : ByteArray → Option Tm} (hs : Sub im im') {xs ys : List At} (hh : Hom im' xs ys) (v : ByteArray) : possB im xs ys v = true := by
  unfold possB
  rw [List.all_eq_true]
  intro a ha
  obtain ⟨b, hb, h1, h2⟩ := hh a ha
  have : anyAg im a ys = true := List.any_eq_true.2 ⟨b, hb, ag_of hs h1 h2⟩
  rw [this]; simp
theorem sub_upd {im im' : ByteArray → Option Tm} (hs : Sub im im') {v : ByteArray} {t : Tm} (h : im' v = some t) : Sub (updT im v (some t)) im' := by
  intro s u hu
  unfold updT at hu
  split at hu
  · rename_i e; rw [e, h]; exact hu
  · exact hs s u hu
theorem asg_some {im' : ByteArray → Option Tm} {xs ys : List At} (hh : Hom im' xs ys) {cs : List Tm} {pin : ByteArray → Bool} (hp : ∀ s, pin s = false) : ∀ (vs : List ByteArray) (im : ByteArray → Option Tm), Sub im im' → (∀ v ∈ vs, ∃ t ∈ cs, im' v = some t) → (asg (fun im v => possB im xs ys v) pin cs vs im).isSome = true
  | [], im, _, _ => rfl
  | v :: vs, im, hs, hv => by
    obtain ⟨t, ht, he⟩ := hv v (by simp)
    unfold asg
    rw [List.findSome?_isSome_iff]
    refine ⟨t, ht, ?_⟩
    rw [if_neg (by rw [hp v]; simp), if_pos (poss_of (sub_upd hs he) hh v)]
    exact asg_some hh hp vs _ (sub_upd hs he) (fun v hv' => hv v (by simp [hv']))
theorem findS_some {im' : ByteArray → Option Tm} {xs ys : List At} (hh : Hom im' xs ys) (hv : ∀ v ∈ varsT (allT xs), ∃ t ∈ distT (allT ys), im' v = some t) : (findS xs ys []).isSome = true := by
  unfold findS
  have hs : Sub (fun _ => none) im' := fun s t h => by cases h
  rw [if_pos (poss_of hs hh _)]
  exact asg_some hh (fun s => by simp) _ _ hs hv
theorem asg_sound {P : (ByteArray → Option Tm) → ByteArray → Bool} {pin : ByteArray → Bool} {cs : List Tm} : ∀ (vs : List ByteArray) (im im1 : ByteArray → Option Tm), vs.Nodup → asg P pin cs vs im = some im1 →
    (∀ s, s ∉ vs → im1 s = im s) ∧ (∀ v ∈ vs, ∃ t ∈ cs, im1 v = some t) ∧ ∀ S : ByteArray → Prop, (∀ s, S s → s ∈ vs ∨ (im s).isSome = true) → (∃ s ∈ vs, S s) → ∃ v im2, S v ∧ P im2 v = true ∧ ∀ s, S s → im2 s = im1 s ∧ (im2 s).isSome = true
  | [], im, im1, _, h => by
    unfold asg at h
    injection h with h
    subst h
    exact ⟨fun _ _ => rfl, fun v hv => by simp at hv, fun S _ ⟨s, hs, _⟩ => by simp at hs⟩
  | v :: vs, im, im1, hn, h => by
    unfold asg at h
    obtain ⟨t, ht, h⟩ := List.exists_of_findSome?_eq_some h
    split at h
    · cases h
    · split at h
      · rename_i hP
        obtain ⟨hv, hn⟩ := List.nodup_cons.1 hn
        obtain ⟨i1, i2, i3⟩ := asg_sound vs _ im1 hn h
        have hvv : im1 v = some t := by rw [i1 v hv]; simp [updT]
        refine ⟨fun s hs => ?_, fun s hs => ?_, fun S h1 h2 => ?_⟩
        · simp only [List.mem_cons, not_or] at hs
          rw [i1 s hs.2]; simp [updT, hs.1]
        · rcases List.mem_cons.1 hs with rfl | hs
          · exact ⟨t, ht, hvv⟩
          · exact i2 s hs
        · by_cases hin : ∃ s ∈ vs, S s
          · refine i3 S (fun s hs => ?_) hin
            by_cases e : s = v
            · exact .inr (by simp [updT, e])
            · rcases h1 s hs with h1 | h1
              · rcases List.mem_cons.1 h1 with h1 | h1
                · exact absurd h1 e
                · exact .inl h1
              · exact .inr (by simp [updT, e, h1])
          · obtain ⟨s, hs, hS⟩ := h2
            have hsv : s = v := by
              rcases List.mem_cons.1 hs with e | e
              · exact e
              · exact absurd ⟨s, e, hS⟩ hin
            subst hsv
            refine ⟨s, _, hS, hP, fun u hu => ?_⟩
            have hnu : u ∉ vs := fun e => hin ⟨u, e, hu⟩
            refine ⟨(i1 u hnu).symm, ?_⟩
            by_cases e : u = s
            · simp [updT, e]
            · rcases h1 u hu with h1 | h1
              · rcases List.mem_cons.1 h1 with h1 | h1
                · exact absurd h1 e
                · exact absurd h1 hnu
              · simp [updT, e, h1]
      · cases h
theorem foldV_mem {s : ByteArray} : ∀ (l : List Tm) (vs : List ByteArray), s ∈ l.foldl (fun vs t => addV vs t.var) vs ↔ s ∈ vs ∨ ∃ t ∈ l, t.var = s ∧ s ≠ ⟨#[]⟩
  | [], vs => by simp
  | t :: l, vs => by
    rw [List.foldl_cons, foldV_mem l (addV vs t.var)]
    have hA : s ∈ addV vs t.var ↔ s ∈ vs ∨ (t.var = s ∧ s ≠ ⟨#[]⟩) := by
      unfold addV
      by_cases e : t.var = ⟨#[]⟩ ∨ t.var ∈ vs
      · rw [if_pos e]
        constructor
        · exact .inl
        · rintro (h | ⟨h1, h2⟩)
          · exact h
          · rcases e with e | e
            · exact absurd (h1.symm.trans e) h2
            · rwa [h1] at e
      · rw [if_neg e, List.mem_append, List.mem_singleton]
        constructor
        · rintro (h | h)
          · exact .inl h
          · exact .inr ⟨h.symm, fun e2 => e (.inl (h.symm.trans e2))⟩
        · rintro (h | ⟨h1, _⟩)
          · exact .inl h
          · exact .inr h1.symm
    rw [hA]
    clear hA
    constructor
    · rintro ((h | h) | ⟨u, hu, h⟩)
      · exact .inl h
      · exact .inr ⟨t, by simp, h⟩
      · exact .inr ⟨u, by simp [hu], h⟩
    · rintro (h | ⟨u, hu, h⟩)
      · exact .inl (.inl h)
      · rcases List.mem_cons.1 hu with rfl | hu
        · exact .inl (.inr h)
        · exact .inr ⟨u, hu, h⟩
theorem varsT_iff {l : List Tm} {s : ByteArray} : s ∈ varsT l ↔ ∃ t ∈ l, t.var = s ∧ s ≠ ⟨#[]⟩ := by
  unfold varsT; rw [foldV_mem]; simp
theorem allT_iff {xs : List At} {t : Tm} : t ∈ allT xs ↔ ∃ a ∈ xs, t ∈ a.terms := by unfold allT; simp
theorem distT_iff {l : List Tm} {t : Tm} : t ∈ distT l ↔ t ∈ l := by
  have h : ∀ (l ts : List Tm), t ∈ l.foldl addD ts ↔ t ∈ ts ∨ t ∈ l := by
    intro l
    induction l with
    | nil => simp
    | cons u l ih =>
      intro ts
      rw [List.foldl_cons, ih]
      unfold addD
      split
      · rename_i e
        constructor
        · rintro (h | h)
          · exact .inl h
          · exact .inr (by simp [h])
        · rintro (h | h)
          · exact .inl h
          · rcases List.mem_cons.1 h with rfl | h
            · exact .inl e
            · exact .inr h
      · simp [or_assoc]
  unfold distT; rw [h]; simp
theorem find_hom {xs ys : List At} {im : ByteArray → Option Tm} (h : findS xs ys [] = some im) : Hom im xs ys ∧ ∀ v ∈ varsT (allT xs), ∃ t ∈ distT (allT ys), im v = some t := by
  unfold findS at h
  split at h
  · rename_i h0
    obtain ⟨_, i2, i3⟩ := asg_sound _ _ _ (varsT_nodup _) h
    refine ⟨fun a ha => ?_, i2⟩
    by_cases hv : ∃ t ∈ a.terms, t.var ≠ ⟨#[]⟩
    · obtain ⟨t, ht, hte⟩ := hv
      have hin : ∀ t ∈ a.terms, t.var ≠ ⟨#[]⟩ → t.var ∈ varsT (allT xs) := fun t ht he => varsT_iff.2 ⟨t, allT_iff.2 ⟨a, ha, ht⟩, rfl, he⟩
      obtain ⟨v, im2, ⟨u, hu, hue, huv⟩, hP, hag⟩ := i3 (fun s => ∃ t ∈ a.terms, t.var ≠ ⟨#[]⟩ ∧ t.var = s) (fun s ⟨t, ht, he, hs⟩ => .inl (hs ▸ hin t ht he)) ⟨t.var, hin t ht hte, t, ht, hte, rfl⟩
      have hP2 : possB im2 xs ys v = true := hP
      unfold possB at hP2
      have hPa := List.all_eq_true.1 hP2 a ha
      have hm : matters v a = true := by
        unfold matters mentB
        rw [List.any_eq_true.2 ⟨u, hu, decide_eq_true huv⟩]; simp
      rw [hm] at hPa
      have han : anyAg im2 a ys = true := by simpa using hPa
      obtain ⟨b, hb, hba⟩ := List.any_eq_true.1 han
      obtain ⟨r1, r2⟩ := ag_full hba (fun t ht he => (hag t.var ⟨t, ht, he, rfl⟩).2)
      refine ⟨b, hb, r1, ?_⟩
      rw [← r2]
      refine List.map_congr_left (fun t ht => ?_)
      unfold repT
      by_cases e : t.var = ⟨#[]⟩
      · rw [if_pos e, if_pos e]
      · rw [if_neg e, if_neg e, (hag t.var ⟨t, ht, e, rfl⟩).1]
    · have hall : ∀ t ∈ a.terms, t.var = ⟨#[]⟩ := fun t ht => Classical.byContradiction (fun e => hv ⟨t, ht, e⟩)
      unfold possB at h0
      have hPa := List.all_eq_true.1 h0 a ha
      have hm : matters ⟨#[]⟩ a = true := by unfold matters; simp
      rw [hm] at hPa
      have han : anyAg (fun _ => none) a ys = true := by simpa using hPa
      obtain ⟨b, hb, hba⟩ := List.any_eq_true.1 han
      obtain ⟨r1, r2⟩ := ag_full hba (fun t ht he => absurd (hall t ht) he)
      refine ⟨b, hb, r1, ?_⟩
      rw [← r2]
      refine List.map_congr_left (fun t ht => ?_)
      unfold repT
      rw [if_pos (hall t ht), if_pos (hall t ht)]
  · cases h
theorem firstP_map (g : ByteArray → Tm) (s : ByteArray) (vs : List ByteArray) : firstP (vs.map (fun v => (v, g v))) s = if s ∈ vs then some (g s) else none := by
  have h : ∀ (vs : List ByteArray) (f : ByteArray → Option Tm), (vs.map (fun v => (v, g v))).foldl addP f s = if (f s).isSome = true then f s else if s ∈ vs then some (g s) else none := by
    intro vs
    induction vs with
    | nil => intro f; rcases h : f s with _ | u <;> simp [h]
    | cons v vs ih =>
      intro f
      rw [List.map_cons, List.foldl_cons, ih]
      unfold addP
      by_cases e : (f v).isSome = true
      · rw [if_pos e]
        by_cases e2 : (f s).isSome = true
        · rw [if_pos e2, if_pos e2]
        · rw [if_neg e2, if_neg e2]
          have : s ≠ v := fun h => e2 (h ▸ e)
          simp [this]
      · rw [if_neg e]
        by_cases e3 : s = v
        · subst e3
          have : f s = none := by simpa using e
          simp [updT, this]
        · simp [updT, e3]
  unfold firstP
  rw [h]; simp
theorem first_pairs {vs : List ByteArray} {im : ByteArray → Option Tm} {v : ByteArray} (hv : v ∈ vs) (hs : (im v).isSome = true) : firstP (pairsOf vs im) v = im v := by
  unfold pairsOf
  rw [firstP_map (fun v => (im v).getD zeroT), if_pos hv]
  obtain ⟨t, ht⟩ := Option.isSome_iff_exists.1 hs
  rw [ht]; rfl
theorem rep_congr {im im' : ByteArray → Option Tm} {t : Tm} (h : t.var ≠ ⟨#[]⟩ → im t.var = im' t.var) : repT im t = repT im' t := by
  unfold repT
  by_cases e : t.var = ⟨#[]⟩
  · rw [if_pos e, if_pos e]
  · rw [if_neg e, if_neg e, h e]
theorem check_hom {xs ys : List At} {im : ByteArray → Option Tm} (hh : Hom im xs ys) (ht : ∀ v ∈ varsT (allT xs), (im v).isSome = true) (hx : ∀ a ∈ xs, a.neg = false) (hy : ∀ a ∈ ys, a.neg = false) : checkB xs ys (pairsOf (varsT (allT xs)) im) = true := by
  refine checkB_all (by simp [pairsOf]) (fun v hv => by rw [first_pairs hv (ht v hv)]; exact ht v hv) (fun a ha => ?_)
  obtain ⟨b, hb, h1, h2⟩ := hh a ha
  refine List.mem_map.2 ⟨b, hb, ?_⟩
  have e : (repA (firstP (pairsOf (varsT (allT xs)) im)) a) = b := by
    unfold repA
    have e2 : a.terms.map (repT (firstP (pairsOf (varsT (allT xs)) im))) = a.terms.map (repT im) := List.map_congr_left (fun t htt => rep_congr (fun he => by
      have hv : t.var ∈ varsT (allT xs) := varsT_iff.2 ⟨t, allT_iff.2 ⟨a, ha, htt⟩, rfl, he⟩
      exact first_pairs hv (ht _ hv)))
    rw [e2, h2, h1, hx a ha, ← hy b hb]
  rw [e]
theorem hom_cands {xs ys : List At} {im : ByteArray → Option Tm} (hh : Hom im xs ys) (ht : ∀ v ∈ varsT (allT xs), (im v).isSome = true) : ∀ v ∈ varsT (allT xs), ∃ t ∈ distT (allT ys), im v = some t := by
  intro v hv
  obtain ⟨t, htt, hv1, hv2⟩ := varsT_iff.1 hv
  obtain ⟨a, ha, hta⟩ := allT_iff.1 htt
  obtain ⟨b, hb, h1, h2⟩ := hh a ha
  obtain ⟨u, hu⟩ := Option.isSome_iff_exists.1 (ht v hv)
  refine ⟨u, distT_iff.2 (allT_iff.2 ⟨b, hb, ?_⟩), hu⟩
  rw [← h2]
  refine List.mem_map.2 ⟨t, hta, ?_⟩
  unfold repT
  rw [if_neg (by rw [hv1]; exact hv2), hv1, hu]; rfl
theorem hom_id {xs : List At} (hp : ∀ a ∈ xs, a.Good) : Hom (fun v => some (varT v)) xs xs := fun a ha => ⟨a, ha, rfl, by
  have h : a.terms.map (repT (fun v => some (varT v))) = a.terms.map id := List.map_congr_left (fun t ht => by
    unfold repT
    by_cases e : t.var = ⟨#[]⟩
    · rw [if_pos e]; rfl
    · rw [if_neg e]
      rcases (hp a ha).2 t ht with h | ⟨h1, h2, h3⟩
      · exact absurd h e
      · rcases t with ⟨v, k, i, s⟩
        simp only at h1 h2 h3
        subst h1 h2 h3; rfl)
  rw [h, List.map_id]⟩
/-- The composed pairs, as the statement builds them. -/
def bothOf (f h : List (ByteArray × Tm)) : List (ByteArray × Tm) := f.map (fun p => (p.1, repT (firstP h) p.2))
def compI (f h : ByteArray → Option Tm) : ByteArray → Option Tm := fun v => (f v).map (repT h)
theorem both_pairs {vs : List ByteArray} {f h : ByteArray → Option Tm} {hp : List (ByteArray × Tm)} (ht : ∀ v ∈ vs, (f v).isSome = true) (he : firstP hp = h) : bothOf (pairsOf vs f) hp = pairsOf vs (compI f h) := by
  unfold bothOf pairsOf
  rw [List.map_map]
  refine List.map_congr_left (fun v hv => ?_)
  obtain ⟨t, e⟩ := Option.isSome_iff_exists.1 (ht v hv)
  simp [compI, e, he]
theorem hom_comp {xs ys zs : List At} {f h : ByteArray → Option Tm} (hf : Hom f xs ys) (hh : Hom h ys zs) (ht : ∀ v ∈ varsT (allT xs), (f v).isSome = true) : Hom (compI f h) xs zs := by
  intro a ha
  obtain ⟨b, hb, h1, h2⟩ := hf a ha
  obtain ⟨c, hc, h3, h4⟩ := hh b hb
  refine ⟨c, hc, h1.trans h3, ?_⟩
  rw [← h4, ← h2, List.map_map]
  refine List.map_congr_left (fun t htt => ?_)
  show repT (compI f h) t = repT h (repT f t)
  by_cases e : t.var = ⟨#[]⟩
  · have e1 : ∀ im, repT im t = t := fun im => by unfold repT; rw [if_pos e]
    rw [e1, e1, e1]
  · obtain ⟨u, hu⟩ := Option.isSome_iff_exists.1 (ht t.var (varsT_iff.2 ⟨t, allT_iff.2 ⟨a, ha, htt⟩, rfl, e⟩))
    have e1 : repT (compI f h) t = repT h u := by unfold repT compI; rw [if_neg e, hu]; rfl
    have e2 : repT f t = u := by unfold repT; rw [if_neg e, hu]; rfl
    rw [e1, e2]
theorem hom_congr {xs ys : List At} {f h : ByteArray → Option Tm} (hf : Hom f xs ys) (he : ∀ v ∈ varsT (allT xs), h v = f v) : Hom h xs ys := by
  intro a ha
  obtain ⟨b, hb, h1, h2⟩ := hf a ha
  refine ⟨b, hb, h1, ?_⟩
  rw [← h2]
  exact List.map_congr_left (fun t ht => rep_congr (fun e => he _ (varsT_iff.2 ⟨t, allT_iff.2 ⟨a, ha, ht⟩, rfl, e⟩)))
end Go.Proofs.YtiahaofjmcjdiaaDoor
