/- Plain law of HomomorphismApplies, and its words. -/
import Derived.Test.YtiahaofjmcjdiaaDoorSb
import Derived.Test.YtiahaofjmcjdiaaDoorRl
namespace Go.Proofs.YtiahaofjmcjdiaaDoor
open Go.RowKit

/-- The pairs that count: those with a variable. -/
def vps (ps : List (ByteArray × Tm)) : List (ByteArray × Tm) := ps.filter (fun p => decide (p.1 ≠ ⟨#[]⟩))
theorem vps_snoc (ps : List (ByteArray × Tm)) (p : ByteArray × Tm) (h : p.1 ≠ ⟨#[]⟩) : vps (ps ++ [p]) = vps ps ++ [p] := by simp [vps, List.filter_append, h]
theorem vps_skip (ps : List (ByteArray × Tm)) (p : ByteArray × Tm) (h : p.1 = ⟨#[]⟩) : vps (ps ++ [p]) = vps ps := by simp [vps, List.filter_append, h]
theorem vps_length (ps : List (ByteArray × Tm)) : (vps ps).length ≤ ps.length := List.length_filter_le _ _
def nvZ (T : List Tm) (qs : List (ByteArray × Tm)) : List Int := qs.map (fun p => numT T (varT p.1))
def niZ (T : List Tm) (qs : List (ByteArray × Tm)) : List Int := qs.map (fun p => numT T p.2)
/-- The pairs' terms are known. -/
def KnP (T : List Tm) (qs : List (ByteArray × Tm)) : Prop := ∀ p ∈ qs, (varT p.1).key ∈ T ∧ p.2.key ∈ T
theorem KnP.pre {T T' : List Tm} {qs : List (ByteArray × Tm)} (h : KnP T qs) (hp : T <+: T') : KnP T' qs := fun p hq => ⟨hp.subset (h p hq).1, hp.subset (h p hq).2⟩
theorem nvZ_pre {T T' : List Tm} {qs : List (ByteArray × Tm)} (h : KnP T qs) (hp : T <+: T') : nvZ T qs = nvZ T' qs := List.map_congr_left (fun p hq => (numT_pre (h p hq).1 hp).symm)
theorem niZ_pre {T T' : List Tm} {qs : List (ByteArray × Tm)} (h : KnP T qs) (hp : T <+: T') : niZ T qs = niZ T' qs := List.map_congr_left (fun p hq => (numT_pre (h p hq).2 hp).symm)

theorem img_first {T : List Tm} {t : Tm} (ht : Kn T t) : ∀ {ps : List (ByteArray × Tm)}, KnP T (vps ps) → imgZ (nvZ T (vps ps)) (niZ T (vps ps)) (numT T t) = numT T (repT (firstP ps) t)
  | [], _ => by simp [vps, nvZ, niZ, imgZ, repT, firstP]
  | p :: ps, h => by
    by_cases hp : p.1 = ⟨#[]⟩
    · have e : vps (p :: ps) = vps ps := by simp [vps, hp]
      rw [e] at h ⊢
      rw [img_first ht h]
      congr 1
      unfold repT
      split
      · rfl
      · rename_i hv
        rw [firstP_cons, if_neg (fun e => hv (e.trans hp))]
    · have e : vps (p :: ps) = p :: vps ps := by simp [vps, hp]
      rw [e] at h ⊢
      have h1 : KnP T (vps ps) := fun q hq => h q (by simp [hq])
      have hk : Kn T (varT p.1) := ⟨(h p (by simp)).1, varT_ok _⟩
      simp only [nvZ, niZ, List.map_cons, imgZ]
      by_cases hv : t.var = ⟨#[]⟩
      · have hne : numT T (varT p.1) ≠ numT T t := fun e2 => by
          have h2 : numT T (varT p.1) < 0 := numT_neg.2 hp
          rw [e2] at h2
          exact (numT_neg.1 h2) hv
        rw [if_neg hne]
        have := img_first ht h1
        unfold nvZ niZ at this
        rw [this]
        simp [repT, hv]
      · have et := ok_var ht.2 hv
        by_cases e2 : p.1 = t.var
        · rw [if_pos (by rw [e2]; exact (congrArg _ et).symm)]
          unfold repT
          rw [if_neg hv, firstP_cons, if_pos e2.symm]; rfl
        · rw [if_neg (fun e3 => e2 (by have := numT_inj hk ht e3; rw [← this]))]
          have := img_first ht h1
          unfold nvZ niZ at this
          rw [this]
          unfold repT
          rw [if_neg hv, if_neg hv, firstP_cons, if_neg (fun e3 => e2 e3.symm)]

theorem repT_kn {T : List Tm} {ps : List (ByteArray × Tm)} (hk : KnP T (vps ps)) (hok : ∀ p ∈ ps, p.2.Ok) {t : Tm} (ht : Kn T t) : Kn T (repT (firstP ps) t) := by
  unfold repT
  split
  · exact ht
  · rename_i hv
    cases hf : firstP ps t.var with
    | none => exact ht
    | some u =>
      have hm := firstP_mem hf
      exact ⟨(hk _ (List.mem_filter.2 ⟨hm, decide_eq_true hv⟩)).2, hok _ hm⟩
theorem apR_rat {T : List Tm} {ps : List (ByteArray × Tm)} (hk : KnP T (vps ps)) {a : At} (ha : ∀ t ∈ a.terms, Kn T t) : apR (nvZ T (vps ps)) (niZ T (vps ps)) (rat T a) = rat T (repA (firstP ps) a) := by
  unfold apR rat repA
  simp only [List.map_map]
  congr 1
  exact List.map_congr_left (fun t ht => img_first (ha t ht) hk)
theorem map_num_inj {T : List Tm} : ∀ {l m : List Tm}, (∀ t ∈ l, Kn T t) → (∀ t ∈ m, Kn T t) → l.map (numT T) = m.map (numT T) → l = m
  | [], [], _, _, _ => rfl
  | [], y :: m, _, _, h => by simp at h
  | x :: l, [], _, _, h => by simp at h
  | x :: l, y :: m, hl, hm, h => by
    simp only [List.map_cons, List.cons.injEq] at h
    rw [numT_inj (hl x (by simp)) (hm y (by simp)) h.1, map_num_inj (fun t ht => hl t (by simp [ht])) (fun t ht => hm t (by simp [ht])) h.2]
theorem rat_inj {T : List Tm} {a b : At} (ha : ∀ t ∈ a.terms, Kn T t) (hb : ∀ t ∈ b.terms, Kn T t) (hn : a.neg = b.neg) (h : rat T a = rat T b) : a = b := by
  unfold rat at h
  injection h with h1 h2
  have h3 := map_num_inj ha hb h2
  cases a; cases b
  simp only at h1 h3 hn
  subst h1 h3 hn
  rfl
/-- All terms of all atoms are known. -/
def KnA (T : List Tm) (l : List At) : Prop := ∀ a ∈ l, ∀ t ∈ a.terms, Kn T t
/-- A double, as the law's loop finds it. -/
def dblB (T : List Tm) (l : List At) (a : At) : Bool := l.any (fun b => decide (b.neg = a.neg ∧ rat T a = rat T b))
theorem dbl_iff {T : List Tm} {l : List At} {a : At} (hl : KnA T l) (ha : ∀ t ∈ a.terms, Kn T t) : dblB T l a = true ↔ a.keyS ∈ l.map At.keyS := by
  unfold dblB
  rw [List.any_eq_true, List.mem_map]
  constructor
  · rintro ⟨b, hb, h⟩
    have h := of_decide_eq_true h
    exact ⟨b, hb, by rw [rat_inj (hl b hb) ha h.1 h.2.symm]⟩
  · rintro ⟨b, hb, h⟩
    have := keyS_inj h
    subst this
    exact ⟨b, hb, decide_eq_true ⟨rfl, rfl⟩⟩
theorem addA_dbl {T : List Tm} {l : List At} {a : At} (hl : KnA T l) (ha : ∀ t ∈ a.terms, Kn T t) : addA l a = if dblB T l a = true then l else l ++ [a] := by
  unfold addA
  by_cases h : a.keyS ∈ l.map At.keyS
  · rw [if_pos h, if_pos ((dbl_iff hl ha).2 h)]
  · rw [if_neg h, if_neg (fun e => h ((dbl_iff hl ha).1 e))]
theorem KnA.app {T : List Tm} {ps : List (ByteArray × Tm)} (hk : KnP T (vps ps)) (hok : ∀ p ∈ ps, p.2.Ok) : ∀ {xs : List At}, KnA T xs → KnA T (appL (firstP ps) xs) := by
  intro xs hx
  suffices h : ∀ (ys l : List At), KnA T ys → KnA T l → KnA T (ys.foldl (fun l a => addA l (repA (firstP ps) a)) l) from h xs [] hx (fun a h => by simp at h)
  intro ys
  induction ys with
  | nil => intro l _ hl; exact hl
  | cons a ys ih =>
    intro l hy hl
    refine ih _ (fun b hb => hy b (by simp [hb])) ?_
    show KnA T (addA l (repA (firstP ps) a))
    unfold addA
    split
    · exact hl
    · intro b hb t ht
      rcases List.mem_append.1 hb with hb | hb
      · exact hl b hb t ht
      · rw [List.mem_singleton.1 hb] at ht
        obtain ⟨u, hu, rfl⟩ := List.mem_map.1 ht
        exact repT_kn hk hok (hy a (by simp) u hu)
theorem appL_mem {im : ByteArray → Option Tm} {a : At} : ∀ {xs : List At}, a ∈ appL im xs → ∃ b ∈ xs, a = repA im b := by
  intro xs ha
  suffices h : ∀ (ys l : List At), a ∈ ys.foldl (fun l a => addA l (repA im a)) l → a ∈ l ∨ ∃ b ∈ ys, a = repA im b by
    rcases h xs [] ha with h | h
    · simp at h
    · exact h
  intro ys
  induction ys with
  | nil => intro l h; exact .inl h
  | cons b ys ih =>
    intro l h
    rcases ih _ h with h | ⟨c, hc, e⟩
    · have h : a ∈ addA l (repA im b) := h
      unfold addA at h
      split at h
      · exact .inl h
      · rcases List.mem_append.1 h with h | h
        · exact .inl h
        · exact .inr ⟨b, by simp, List.mem_singleton.1 h⟩
    · exact .inr ⟨c, by simp [hc], e⟩
theorem is_self (r : RAt) : isR [r] [r] [] [] [] = true := by
  unfold isR
  rw [Bool.and_eq_true]
  refine ⟨decide_eq_true (fun k h => by simp at h), ?_⟩
  have e : apR [] [] r = r := by
    cases r
    simp only [apR]
    congr 1
    rw [List.map_congr_left (g := id) (fun t _ => by simp [imgZ])]
    simp
  simp [hitR, e]
theorem is_pair (r s : RAt) : isR [r] [s] [] [] [] = decide (r = s) := by
  unfold isR
  have e : apR [] [] r = r := by
    cases r
    simp only [apR]
    congr 1
    rw [List.map_congr_left (g := id) (fun t _ => by simp [imgZ])]
    simp
  have h1 : decide (fixR [] [] []) = true := decide_eq_true (fun k h => by simp at h)
  rw [h1]
  simp [hitR, e]
end Go.Proofs.YtiahaofjmcjdiaaDoor
