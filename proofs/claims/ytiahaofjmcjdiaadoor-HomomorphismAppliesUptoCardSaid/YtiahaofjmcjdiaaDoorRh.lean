/- Plain law: the search with pruning finds what the search without it finds; the reference's search over numbers finds the same. -/
import Derived.Test.YtiahaofjmcjdiaaDoorRf
import Derived.Test.YtiahaofjmcjdiaaDoorHvb
namespace Go.Proofs.YtiahaofjmcjdiaaDoor
open Go.RowKit

/-- The search without pruning. -/
noncomputable def uns (good : (ByteArray → Option Tm) → Bool) (cs : List Tm) : List ByteArray → (ByteArray → Option Tm) → Option (ByteArray → Option Tm)
  | [], im => if good im = true then some im else none
  | v :: vs, im => cs.findSome? (fun t => uns good cs vs (updT im v (some t)))
def GoodI (xs ys : List At) (fx : List ByteArray) (im : ByteArray → Option Tm) : Prop := Hom im xs ys ∧ ∀ v ∈ varsT (allT xs), v ∈ fx → im v = some (varT v)
open Classical in
noncomputable def goodB (xs ys : List At) (fx : List ByteArray) (im : ByteArray → Option Tm) : Bool := decide (GoodI xs ys fx im)
theorem goodB_iff {xs ys : List At} {fx : List ByteArray} {im : ByteArray → Option Tm} : goodB xs ys fx im = true ↔ GoodI xs ys fx im := @decide_eq_true_iff _ (Classical.propDecidable _)

theorem uns_out {good : (ByteArray → Option Tm) → Bool} {cs : List Tm} : ∀ (vs : List ByteArray) (im im' : ByteArray → Option Tm), vs.Nodup → uns good cs vs im = some im' → good im' = true ∧ (∀ s, s ∉ vs → im' s = im s) ∧ ∀ s ∈ vs, ∃ t ∈ cs, im' s = some t
  | [], im, im', _, h => by
    unfold uns at h
    split at h
    · rename_i hg
      injection h with h
      subst h
      exact ⟨hg, fun _ _ => rfl, fun _ h => by simp at h⟩
    · cases h
  | v :: vs, im, im', hn, h => by
    unfold uns at h
    obtain ⟨t, ht, h⟩ := List.exists_of_findSome?_eq_some h
    obtain ⟨hv, hn⟩ := List.nodup_cons.1 hn
    obtain ⟨h1, h2, h3⟩ := uns_out vs _ _ hn h
    refine ⟨h1, fun s hs => ?_, fun s hs => ?_⟩
    · simp only [List.mem_cons, not_or] at hs
      rw [h2 s hs.2, updT, if_neg hs.1]
    · rcases List.mem_cons.1 hs with rfl | hs
      · exact ⟨t, ht, by rw [h2 s hv, updT, if_pos rfl]⟩
      · exact h3 s hs

theorem agB_congr {im im' : ByteArray → Option Tm} {ra rb : ByteArray} {ta tb : List Tm} (h : ∀ t ∈ ta, t.var ≠ ⟨#[]⟩ → im t.var = im' t.var) : agB im ra ta rb tb = agB im' ra ta rb tb := by
  unfold agB
  congr 1
  rw [Bool.eq_iff_iff, List.all_eq_true, List.all_eq_true]
  have key : ∀ p ∈ ta.zip tb, okB im p.1 p.2 = okB im' p.1 p.2 := fun p hp => by
    have h1 : p.1 ∈ ta := (List.of_mem_zip (a := p.1) (b := p.2) hp).1
    unfold okB imgT
    by_cases hv : p.1.var = ⟨#[]⟩
    · rw [if_pos hv, if_pos hv]
    · rw [if_neg hv, if_neg hv, h _ h1 hv]
  exact ⟨fun hh p hp => by rw [← key p hp]; exact hh p hp, fun hh p hp => by rw [key p hp]; exact hh p hp⟩
theorem anyAg_congr {im im' : ByteArray → Option Tm} {a : At} {ys : List At} (h : ∀ t ∈ a.terms, t.var ≠ ⟨#[]⟩ → im t.var = im' t.var) : anyAg im a ys = anyAg im' a ys := by
  unfold anyAg
  congr 1
  funext b
  exact agB_congr h

structure InvA (xs ys : List At) (fx : List ByteArray) (vs : List ByteArray) (im : ByteArray → Option Tm) : Prop where
  asd : ∀ v ∈ varsT (allT xs), v ∉ vs → (im v).isSome = true ∧ (v ∈ fx → im v = some (varT v))
  hit : ∀ a ∈ xs, (∀ t ∈ a.terms, t.var ≠ ⟨#[]⟩ → t.var ∉ vs) → anyAg im a ys = true
  sub : ∀ v ∈ vs, v ∈ varsT (allT xs)

theorem asg_uns {xs ys : List At} {fx : List ByteArray} {cs : List Tm} : ∀ (vs : List ByteArray) (im : ByteArray → Option Tm), vs.Nodup → (∀ v ∈ vs, im v = none) → InvA xs ys fx vs im →
    asg (fun im v => possB im xs ys v) (fun s => decide (s ∈ fx)) cs vs im = uns (goodB xs ys fx) cs vs im
  | [], im, _, _, hI => by
    unfold asg uns
    have hg : goodB xs ys fx im = true := goodB_iff.2 ⟨fun a ha => by
      have h := hI.hit a ha (fun _ _ _ h => by simp at h)
      obtain ⟨b, hb, hab⟩ := List.any_eq_true.1 h
      exact ⟨b, hb, ag_full hab (fun t ht hv => (hI.asd t.var (varsT_iff.2 ⟨t, allT_iff.2 ⟨a, ha, ht⟩, rfl, hv⟩) (by simp)).1)⟩, fun v hv hf => (hI.asd v hv (by simp)).2 hf⟩
    rw [hg]; rfl
  | v :: vs, im, hn, hnone, hI => by
    unfold asg uns
    obtain ⟨hv, hn⟩ := List.nodup_cons.1 hn
    have hvv : v ∈ varsT (allT xs) := hI.sub v (by simp)
    have hve : v ≠ ⟨#[]⟩ := by obtain ⟨_, _, _, h⟩ := varsT_iff.1 hvv; exact h
    congr 1
    funext t
    have hsub : ∀ im', (∀ s, s ∉ vs → im' s = updT im v (some t) s) → Sub (updT im v (some t)) im' := fun im' h s u hs => by
      by_cases hm : s ∈ vs
      · have hsv : s ≠ v := fun e => hv (e ▸ hm)
        rw [updT, if_neg hsv, hnone s (by simp [hm])] at hs
        cases hs
      · rw [h s hm]; exact hs
    split
    · rename_i hp
      symm
      cases hu : uns (goodB xs ys fx) cs vs (updT im v (some t)) with
      | none => rfl
      | some im' =>
        obtain ⟨h1, h2, -⟩ := uns_out vs _ _ hn hu
        have h3 := (goodB_iff.1 h1).2 v hvv (of_decide_eq_true hp.1)
        rw [h2 v hv, updT, if_pos rfl] at h3
        injection h3 with h3
        exact absurd h3 hp.2
    · rename_i hp
      split
      · rename_i hpos
        refine asg_uns vs _ hn (fun s hs => ?_) ⟨fun u hu hun => ?_, fun a ha hall => ?_, fun s hs => hI.sub s (by simp [hs])⟩
        · have hsv : s ≠ v := fun e => hv (e ▸ hs)
          rw [updT, if_neg hsv]; exact hnone s (by simp [hs])
        · by_cases huv : u = v
          · subst huv
            rw [updT, if_pos rfl]
            exact ⟨rfl, fun hf => by
              by_cases e : t = varT u
              · rw [e]
              · exact absurd ⟨decide_eq_true hf, e⟩ hp⟩
          · rw [updT, if_neg huv]
            exact hI.asd u hu (by simp [huv, hun])
        · by_cases hm : mentB a.terms v = true
          · have h := List.all_eq_true.1 hpos a ha
            have hma : matters v a = true := by unfold matters; rw [hm]; simp
            rw [hma] at h
            simpa using h
          · have hnm : ∀ u ∈ a.terms, u.var ≠ v := fun u hu e => hm (List.any_eq_true.2 ⟨u, hu, decide_eq_true e⟩)
            rw [anyAg_congr (im' := im) (fun u hu _ => by rw [updT, if_neg (hnm u hu)])]
            exact hI.hit a ha (fun u hu hue => by simp [hnm u hu, hall u hu hue])
      · rename_i hpos
        symm
        cases hu : uns (goodB xs ys fx) cs vs (updT im v (some t)) with
        | none => rfl
        | some im' =>
          obtain ⟨h1, h2, -⟩ := uns_out vs _ _ hn hu
          exact absurd (poss_of (hsub im' h2) (goodB_iff.1 h1).1 v) hpos

theorem findS_uns (xs ys : List At) (fx : List ByteArray) : findS xs ys fx = uns (goodB xs ys fx) (distT (allT ys)) (varsT (allT xs)) (fun _ => none) := by
  unfold findS
  split
  · rename_i hp
    refine asg_uns _ _ (varsT_nodup _) (fun _ _ => rfl) ⟨fun v hv hn => absurd hv hn, fun a ha hall => ?_, fun _ h => h⟩
    have h := List.all_eq_true.1 hp a ha
    have hma : matters ⟨#[]⟩ a = true := by unfold matters; simp
    rw [hma] at h
    simpa using h
  · rename_i hp
    symm
    cases hu : uns (goodB xs ys fx) (distT (allT ys)) (varsT (allT xs)) (fun _ => none) with
    | none => rfl
    | some im' =>
      obtain ⟨h1, -, -⟩ := uns_out _ _ _ (varsT_nodup _) hu
      exact absurd (poss_of (im' := im') (fun _ _ h => by cases h) (goodB_iff.1 h1).1 _) hp

/-- Terms whose number tells them. -/
def Kn (T : List Tm) (t : Tm) : Prop := t.key ∈ T ∧ t.Ok
theorem ok_key {t : Tm} (h : t.Ok) : t.key = t := by
  rcases h with h | ⟨h1, h2, h3⟩
  · rw [Tm.key, if_pos h]
  · unfold Tm.key
    split
    · rfl
    · cases t; simp at h1 h2 h3; subst h1 h2 h3; rfl
theorem addT_old {T : List Tm} {t : Tm} (h : t.key ∈ T) : addT T t = T := by rw [addT, if_pos h]
theorem numT_neg {T : List Tm} {t : Tm} : numT T t < 0 ↔ t.var ≠ ⟨#[]⟩ := by
  unfold numT
  split
  · rename_i h; constructor
    · intro hh; omega
    · intro hh; exact absurd h hh
  · rename_i h; exact ⟨fun _ => h, fun _ => by omega⟩
theorem numT_inj {T : List Tm} {t u : Tm} (ht : Kn T t) (hu : Kn T u) (h : numT T t = numT T u) : t = u := by
  have hk : t.key = u.key := by
    unfold numT at h
    rw [addT_old ht.1, addT_old hu.1] at h
    have hi : T.idxOf t.key = T.idxOf u.key := by split at h <;> split at h <;> omega
    exact idx_inj ht.1 hi
  rwa [ok_key ht.2, ok_key hu.2] at hk
theorem varT_ok (v : ByteArray) : (varT v).Ok := .inr ⟨rfl, rfl, rfl⟩
theorem ok_var {t : Tm} (h : t.Ok) (hv : t.var ≠ ⟨#[]⟩) : t = varT t.var := by
  rcases h with h | ⟨h1, h2, h3⟩
  · exact absurd h hv
  · cases t; simp at h1 h2 h3; subst h1 h2 h3; rfl

theorem mem_num {T : List Tm} {acc : List Tm} {x : Tm} (ha : ∀ t ∈ acc, Kn T t) (hx : Kn T x) : numT T x ∈ acc.map (numT T) ↔ x ∈ acc := by
  rw [List.mem_map]
  exact ⟨fun ⟨y, hy, e⟩ => (numT_inj (ha y hy) hx e) ▸ hy, fun h => ⟨x, h, rfl⟩⟩
theorem mem_numV {T : List Tm} {acc : List ByteArray} {s : ByteArray} (ha : ∀ v ∈ acc, Kn T (varT v)) (hs : Kn T (varT s)) : numT T (varT s) ∈ acc.map (fun v => numT T (varT v)) ↔ s ∈ acc := by
  rw [List.mem_map]
  exact ⟨fun ⟨y, hy, e⟩ => by have := numT_inj (ha y hy) hs e; injection this with this; exact this ▸ hy, fun h => ⟨s, h, rfl⟩⟩

theorem foldC {T : List Tm} : ∀ (l acc : List Tm), (∀ t ∈ l, Kn T t) → (∀ t ∈ acc, Kn T t) → (l.map (numT T)).foldl (tStep false) (acc.map (numT T)) = (l.foldl addD acc).map (numT T)
  | [], _, _, _ => rfl
  | x :: l, acc, hl, ha => by
    have hx := hl x (by simp)
    have e : tStep false (acc.map (numT T)) (numT T x) = (addD acc x).map (numT T) := by
      unfold tStep addD
      by_cases hm : x ∈ acc
      · rw [if_neg (fun h => h.1 ((mem_num ha hx).2 hm)), if_pos hm]
      · rw [if_pos ⟨fun h => hm ((mem_num ha hx).1 h), .inr rfl⟩, if_neg hm, List.map_append]; rfl
    rw [List.map_cons, List.foldl_cons, List.foldl_cons, e]
    refine foldC l _ (fun t ht => hl t (by simp [ht])) (fun t ht => ?_)
    unfold addD at ht
    split at ht
    · exact ha t ht
    · rcases List.mem_append.1 ht with ht | ht
      · exact ha t ht
      · rw [List.mem_singleton.1 ht]; exact hx
theorem terms_num {T l : List Tm} (h : ∀ t ∈ l, Kn T t) : termsL false (l.map (numT T)) = (distT l).map (numT T) := foldC l [] h (fun _ h => by simp at h)

theorem foldVn {T : List Tm} : ∀ (l : List Tm) (acc : List ByteArray), (∀ t ∈ l, Kn T t) → (∀ v ∈ acc, Kn T (varT v)) → (l.map (numT T)).foldl (tStep true) (acc.map (fun v => numT T (varT v))) = (l.foldl (fun vs t => addV vs t.var) acc).map (fun v => numT T (varT v))
  | [], _, _, _ => rfl
  | x :: l, acc, hl, ha => by
    have hx := hl x (by simp)
    have e : tStep true (acc.map (fun v => numT T (varT v))) (numT T x) = (addV acc x.var).map (fun v => numT T (varT v)) := by
      unfold tStep addV
      by_cases hv : x.var = ⟨#[]⟩
      · rw [if_neg (fun h => by
          rcases h.2 with h | h
          · exact (numT_neg.1 h) hv
          · cases h), if_pos (.inl hv)]
      · have ex := ok_var hx.2 hv
        have hk : Kn T (varT x.var) := ex ▸ hx
        rw [show numT T x = numT T (varT x.var) from congrArg _ ex]
        by_cases hm : x.var ∈ acc
        · rw [if_neg (fun h => h.1 ((mem_numV ha hk).2 hm)), if_pos (.inr hm)]
        · rw [if_pos ⟨fun h => hm ((mem_numV ha hk).1 h), .inl (numT_neg.2 hv)⟩, if_neg (fun h => by rcases h with h | h; exact hv h; exact hm h), List.map_append]; rfl
    rw [List.map_cons, List.foldl_cons, List.foldl_cons, e]
    refine foldVn l _ (fun t ht => hl t (by simp [ht])) (fun v hv => ?_)
    unfold addV at hv
    split at hv
    · exact ha v hv
    · rename_i hh
      rcases List.mem_append.1 hv with hv | hv
      · exact ha v hv
      · rw [List.mem_singleton.1 hv]
        exact (ok_var hx.2 (fun e => hh (.inl e))) ▸ hx
theorem vars_num {T l : List Tm} (h : ∀ t ∈ l, Kn T t) : termsL true (l.map (numT T)) = (varsT l).map (fun v => numT T (varT v)) := foldVn l [] h (fun _ h => by simp at h)

theorem findSome_congr {α β : Type} {f g : α → Option β} : ∀ {l : List α}, (∀ x ∈ l, f x = g x) → l.findSome? f = l.findSome? g
  | [], _ => rfl
  | x :: l, h => by
    rw [List.findSome?_cons, List.findSome?_cons, h x (by simp), findSome_congr (fun y hy => h y (by simp [hy]))]
theorem findSome_map {α β γ : Type} {f : α → Option β} {k : β → γ} : ∀ {l : List α}, (l.findSome? f).map k = l.findSome? (fun x => (f x).map k)
  | [] => rfl
  | x :: l => by
    rw [List.findSome?_cons, List.findSome?_cons]
    cases f x with
    | none => exact findSome_map
    | some y => rfl
theorem findSome_over {α β γ : Type} {f : β → Option γ} {k : α → β} : ∀ {l : List α}, (l.map k).findSome? f = l.findSome? (fun x => f (k x))
  | [] => rfl
  | x :: l => by rw [List.map_cons, List.findSome?_cons, List.findSome?_cons, findSome_over]

section
variable {T : List Tm} {xs ys : List At} {fx : List ByteArray}
theorem img_num {im : ByteArray → Option Tm} {us : List Tm} (hx : ∀ t ∈ allT xs, Kn T t) (hm : (varsT (allT xs)).map im = us.map some) {t : Tm} (ht : t ∈ allT xs) :
    imgZ ((varsT (allT xs)).map (fun v => numT T (varT v))) (us.map (numT T)) (numT T t) = numT T (repT im t) := by
  have hkv : ∀ v ∈ varsT (allT xs), Kn T (varT v) ∧ v ≠ ⟨#[]⟩ := fun v hv => by
    obtain ⟨u, hu, rfl, hne⟩ := varsT_iff.1 hv
    exact ⟨(ok_var (hx u hu).2 hne) ▸ hx u hu, hne⟩
  have hlen : (varsT (allT xs)).length = us.length := by have := congrArg List.length hm; simpa using this
  have hnd := varsT_nodup (allT xs)
  by_cases hv : t.var = ⟨#[]⟩
  · rw [imgZ_miss (fun j hj _ => ?_), repT, if_pos hv]
    rw [List.getElem_map]
    intro e
    have h1 : numT T (varT ((varsT (allT xs))[j]'(by simpa using hj))) < 0 := numT_neg.2 (hkv _ (List.getElem_mem _)).2
    rw [e] at h1
    exact (numT_neg.1 h1) hv
  · have hmem : t.var ∈ varsT (allT xs) := varsT_iff.2 ⟨t, ht, rfl, hv⟩
    obtain ⟨k, hk, ek⟩ := List.getElem_of_mem hmem
    have et := ok_var (hx t ht).2 hv
    have hik : im t.var = some (us[k]'(by omega)) := by
      have h1 : ((varsT (allT xs)).map im)[k]'(by simpa using hk) = (us.map some)[k]'(by simp; omega) := by simp only [hm]
      rw [List.getElem_map, List.getElem_map, ek] at h1
      exact h1
    rw [imgZ_hit (k := k) (by simpa using hk) (by simp; omega) (fun j hj hjk => ?_) (by rw [List.getElem_map, ek]; exact (congrArg _ et).symm), List.getElem_map, repT, if_neg hv, hik]
    · rfl
    · rw [List.getElem_map]
      intro e
      have hj2 : j < (varsT (allT xs)).length := by simpa using hj
      have h2 : varT (varsT (allT xs))[j] = t := numT_inj (hkv _ (List.getElem_mem _)).1 (hx t ht) e
      have h3 : (varsT (allT xs))[j] = (varsT (allT xs))[k] := by rw [ek, ← h2]
      exact List.pairwise_iff_getElem.1 hnd j k hj2 hk hjk h3

theorem leaf {im : ByteArray → Option Tm} {us : List Tm} (hx : ∀ t ∈ allT xs, Kn T t) (hy : ∀ t ∈ allT ys, Kn T t) (hf : ∀ t ∈ nmT fx, t.key ∈ T) (hm : (varsT (allT xs)).map im = us.map some) (hku : ∀ t ∈ us, Kn T t) :
    isR (xs.map (rat T)) (ys.map (rat T)) ((varsT (allT xs)).map (fun v => numT T (varT v))) (us.map (numT T)) ((nmT fx).map (numT T)) = goodB xs ys fx im := by
  have hkv : ∀ v ∈ varsT (allT xs), Kn T (varT v) ∧ v ≠ ⟨#[]⟩ := fun v hv => by
    obtain ⟨u, hu, rfl, hne⟩ := varsT_iff.1 hv
    exact ⟨(ok_var (hx u hu).2 hne) ▸ hx u hu, hne⟩
  have hlen : (varsT (allT xs)).length = us.length := by have := congrArg List.length hm; simpa using this
  have hat : ∀ k (h : k < (varsT (allT xs)).length), im (varsT (allT xs))[k] = some (us[k]'(by omega)) := fun k hk => by
    have h1 : ((varsT (allT xs)).map im)[k]'(by simpa using hk) = (us.map some)[k]'(by simp; omega) := by simp only [hm]
    rw [List.getElem_map, List.getElem_map] at h1
    exact h1
  have hrep : ∀ t ∈ allT xs, Kn T (repT im t) := fun t ht => by
    unfold repT
    split
    · exact hx t ht
    · rename_i hv
      obtain ⟨k, hk, ek⟩ := List.getElem_of_mem (varsT_iff.2 ⟨t, ht, rfl, hv⟩ : t.var ∈ varsT (allT xs))
      rw [← ek, hat k hk]
      exact hku _ (List.getElem_mem _)
  have hfix : fixR ((varsT (allT xs)).map (fun v => numT T (varT v))) (us.map (numT T)) ((nmT fx).map (numT T)) ↔ ∀ v ∈ varsT (allT xs), v ∈ fx → im v = some (varT v) := by
    have hmf : ∀ v ∈ varsT (allT xs), (numT T (varT v) ∈ (nmT fx).map (numT T) ↔ v ∈ fx) := fun v hv => by
      rw [mem_num (fun t ht => ⟨hf t ht, by obtain ⟨s, -, rfl⟩ := List.mem_map.1 ht; exact varT_ok s⟩) (hkv v hv).1]
      unfold nmT
      rw [List.mem_map]
      constructor
      · rintro ⟨s, hs, e⟩
        injection e with e
        subst e
        exact (List.mem_filter.1 hs).1
      · intro h
        exact ⟨v, List.mem_filter.2 ⟨h, decide_eq_true (hkv v hv).2⟩, rfl⟩
    constructor
    · intro h v hv hfx
      obtain ⟨k, hk, rfl⟩ := List.getElem_of_mem hv
      have h1 := h k (by simpa using hk) (by simp; omega) (by rw [List.getElem_map]; exact (hmf _ hv).2 hfx)
      rw [List.getElem_map, List.getElem_map] at h1
      rw [hat k hk, numT_inj (hku _ (List.getElem_mem _)) (hkv _ hv).1 h1]
    · intro h k hk hk' hm'
      have hk2 : k < (varsT (allT xs)).length := by simpa using hk
      rw [List.getElem_map] at hm' ⊢
      rw [List.getElem_map]
      have h1 := h _ (List.getElem_mem hk2) ((hmf _ (List.getElem_mem hk2)).1 hm')
      rw [hat k hk2] at h1
      injection h1 with h1
      rw [h1]
  have hhit : ∀ a ∈ xs, (hitR ((varsT (allT xs)).map (fun v => numT T (varT v))) (us.map (numT T)) (rat T a) (ys.map (rat T)) = true ↔ ∃ b ∈ ys, a.rel = b.rel ∧ a.terms.map (repT im) = b.terms) := fun a ha => by
    have hap : apR ((varsT (allT xs)).map (fun v => numT T (varT v))) (us.map (numT T)) (rat T a) = ⟨a.rel, (a.terms.map (repT im)).map (numT T)⟩ := by
      unfold apR rat
      simp only [List.map_map]
      congr 1
      exact List.map_congr_left (fun t ht => img_num hx hm (allT_iff.2 ⟨a, ha, ht⟩))
    unfold hitR
    rw [List.any_eq_true, hap]
    constructor
    · rintro ⟨b', hb', e⟩
      obtain ⟨b, hb, rfl⟩ := List.mem_map.1 hb'
      have e := of_decide_eq_true e
      unfold rat at e
      injection e with e1 e2
      refine ⟨b, hb, e1, ?_⟩
      have hin : ∀ (l m : List Tm), (∀ t ∈ l, Kn T t) → (∀ t ∈ m, Kn T t) → l.map (numT T) = m.map (numT T) → l = m := by
        intro l
        induction l with
        | nil => intro m _ _ h; cases m; rfl; simp at h
        | cons x l ih =>
          intro m hl hmm h
          cases m with
          | nil => simp at h
          | cons y m =>
            simp only [List.map_cons, List.cons.injEq] at h
            rw [numT_inj (hl x (by simp)) (hmm y (by simp)) h.1, ih m (fun t ht => hl t (by simp [ht])) (fun t ht => hmm t (by simp [ht])) h.2]
      refine hin _ _ (fun t ht => ?_) (fun t ht => hy t (allT_iff.2 ⟨b, hb, ht⟩)) e2
      obtain ⟨u, hu2, rfl⟩ := List.mem_map.1 ht
      exact hrep u (allT_iff.2 ⟨a, ha, hu2⟩)
    · rintro ⟨b, hb, e1, e2⟩
      exact ⟨rat T b, List.mem_map_of_mem hb, decide_eq_true (by rw [e2, e1]; rfl)⟩
  rw [Bool.eq_iff_iff, goodB_iff, isR, Bool.and_eq_true, decide_eq_true_iff, hfix, List.all_eq_true]
  unfold GoodI Hom
  constructor
  · rintro ⟨h1, h2⟩
    exact ⟨fun a ha => (hhit a ha).1 (h2 _ (List.mem_map_of_mem ha)), h1⟩
  · rintro ⟨h1, h2⟩
    refine ⟨h2, fun a' ha' => ?_⟩
    obtain ⟨a, ha, rfl⟩ := List.mem_map.1 ha'
    exact (hhit a ha).2 (h1 a ha)

theorem search_num (hx : ∀ t ∈ allT xs, Kn T t) (hy : ∀ t ∈ allT ys, Kn T t) (hf : ∀ t ∈ nmT fx, t.key ∈ T) : ∀ (rem pre : List ByteArray) (us : List Tm) (im : ByteArray → Option Tm), varsT (allT xs) = pre ++ rem → pre.map im = us.map some → (∀ t ∈ us, t ∈ distT (allT ys)) →
    findR (xs.map (rat T)) (ys.map (rat T)) ((nmT fx).map (numT T)) ((varsT (allT xs)).map (fun v => numT T (varT v))) ((distT (allT ys)).map (numT T)) rem.length (us.map (numT T)) =
      (uns (goodB xs ys fx) (distT (allT ys)) rem im).map (fun im' => (varsT (allT xs)).map (fun v => numT T ((im' v).getD zeroT)))
  | [], pre, us, im, hp, hm, hu => by
    rw [List.append_nil] at hp
    subst hp
    rw [List.length_nil, findR, leaf hx hy hf hm (fun t ht => hy t (distT_iff.1 (hu t ht))), uns]
    split
    · rw [Option.map_some]
      congr 1
      have h1 : (varsT (allT xs)).map (fun v => numT T ((im v).getD zeroT)) = ((varsT (allT xs)).map im).map (fun o => numT T (o.getD zeroT)) := by rw [List.map_map]; rfl
      rw [h1, hm, List.map_map]
      rfl
    · rfl
  | v :: rem, pre, us, im, hp, hm, hu => by
    rw [List.length_cons, findR, uns, findSome_over, findSome_map]
    refine findSome_congr (fun t ht => ?_)
    have hnd := varsT_nodup (allT xs)
    rw [hp] at hnd
    have hvp : v ∉ pre := fun h => by
      have := (List.nodup_append.1 hnd).2.2 v h v (by simp)
      exact this rfl
    rw [show us.map (numT T) ++ [numT T t] = (us ++ [t]).map (numT T) by simp]
    refine search_num hx hy hf rem (pre ++ [v]) (us ++ [t]) _ (by rw [hp]; simp) ?_ (fun u hu' => ?_)
    · rw [List.map_append, List.map_append, ← hm]
      congr 1
      · exact List.map_congr_left (fun s hs => by rw [updT, if_neg (fun e : s = v => hvp (e ▸ hs))])
      · simp [updT]
    · rcases List.mem_append.1 hu' with h | h
      · exact hu u h
      · rw [List.mem_singleton.1 h]; exact ht

/-- The reference finds what Find finds. -/
theorem find_law (hx : ∀ t ∈ allT xs, Kn T t) (hy : ∀ t ∈ allT ys, Kn T t) (hf : ∀ t ∈ nmT fx, t.key ∈ T) :
    findR (xs.map (rat T)) (ys.map (rat T)) ((nmT fx).map (numT T)) (termsL true (allR (xs.map (rat T)))) (termsL false (allR (ys.map (rat T)))) (varsT (allT xs)).length [] =
      (findS xs ys fx).map (fun im' => (varsT (allT xs)).map (fun v => numT T ((im' v).getD zeroT))) := by
  rw [allR_rats, allR_rats, vars_num hx, terms_num hy, findS_uns]
  exact search_num hx hy hf (varsT (allT xs)) [] [] _ rfl rfl (fun _ h => by simp at h)
end
end Go.Proofs.YtiahaofjmcjdiaaDoor
