/- Plain laws: homomorphisms by functions on names; the search of Find and the reference's search both decide them; cores. -/
import Derived.Test.YtehklbdgkppmeaaDoorQb
namespace Go.Proofs.YtehklbdgkppmeaaDoor
open Go.RowKit Go.Maps

/-- A term under a function on names. -/
def sb (f : ByteArray → Tm) (t : Tm) : Tm := if t.var = ⟨#[]⟩ then t else f t.var
def HomF (pin : ByteArray → ByteArray → Prop) (xs ys : List At) : Prop :=
  ∃ f : ByteArray → Tm, (∀ a ∈ xs, ∃ b ∈ ys, a.rel = b.rel ∧ a.terms.map (sb f) = b.terms) ∧ ∀ s u, pin s u → f s = varT u
theorem sb_varT {f : ByteArray → Tm} {s : ByteArray} (h : s ≠ ⟨#[]⟩) : sb f (varT s) = f s := by
  have e : (varT s).var = s := rfl
  simp [sb, e, h]
theorem var_mem {xs : List At} {a : At} {t : Tm} (ha : a ∈ xs) (ht : t ∈ a.terms) (hv : t.var ≠ ⟨#[]⟩) : t.var ∈ varsT (allT xs) := varsT_iff.2 ⟨t, allT_iff.2 ⟨a, ha, ht⟩, rfl, hv⟩
theorem HomF.congr {pin : ByteArray → ByteArray → Prop} {xs ys : List At} {f : ByteArray → Tm} (h : ∀ a ∈ xs, ∃ b ∈ ys, a.rel = b.rel ∧ a.terms.map (sb f) = b.terms) {g : ByteArray → Tm} (hg : ∀ v ∈ varsT (allT xs), g v = f v) (hp : ∀ s u, pin s u → g s = varT u) : HomF pin xs ys := by
  refine ⟨g, fun a ha => ?_, hp⟩
  obtain ⟨b, hb, h1, h2⟩ := h a ha
  refine ⟨b, hb, h1, ?_⟩
  rw [← h2]
  refine List.map_congr_left (fun t ht => ?_)
  unfold sb
  split
  · rfl
  · rename_i hv
    exact hg _ (var_mem ha ht hv)
theorem HomF.cands {xs ys : List At} {f : ByteArray → Tm} (h : ∀ a ∈ xs, ∃ b ∈ ys, a.rel = b.rel ∧ a.terms.map (sb f) = b.terms) {v : ByteArray} (hv : v ∈ varsT (allT xs)) : f v ∈ distT (allT ys) := by
  obtain ⟨t, ht, rfl, hne⟩ := varsT_iff.1 hv
  obtain ⟨a, ha, hta⟩ := allT_iff.1 ht
  obtain ⟨b, hb, -, h2⟩ := h a ha
  refine distT_iff.2 (allT_iff.2 ⟨b, hb, ?_⟩)
  rw [← h2]
  exact List.mem_map.2 ⟨t, hta, by simp [sb, hne]⟩
theorem homF_pins {p q : ByteArray → ByteArray → Prop} {xs ys : List At} (h : HomF p xs ys) (hq : ∀ s u, q s u → s ∈ varsT (allT xs) → p s u) (h1 : ∀ s u u', q s u → q s u' → u = u') : HomF q xs ys := by
  classical
  obtain ⟨f, hf, hp⟩ := h
  refine HomF.congr hf (g := fun s => if h : s ∉ varsT (allT xs) ∧ ∃ u, q s u then varT h.2.choose else f s) (fun v hv => ?_) (fun s u hs => ?_)
  · simp [hv]
  · by_cases hm : s ∈ varsT (allT xs)
    · simp only [hm, not_true_eq_false, false_and, dite_false]
      exact hp s u (hq s u hs hm)
    · have h2 : s ∉ varsT (allT xs) ∧ ∃ u, q s u := ⟨hm, u, hs⟩
      show (if h : s ∉ varsT (allT xs) ∧ ∃ u, q s u then varT h.2.choose else f s) = _
      rw [dif_pos h2, h1 s _ u h2.2.choose_spec hs]
theorem homF_sub {p : ByteArray → ByteArray → Prop} {xs xs' ys ys' : List At} (h : HomF p xs ys) (h1 : ∀ a ∈ xs', a ∈ xs) (h2 : ∀ a ∈ ys, a ∈ ys') : HomF p xs' ys' := by
  obtain ⟨f, hf, hp⟩ := h
  exact ⟨f, fun a ha => by obtain ⟨b, hb, hh⟩ := hf a (h1 a ha); exact ⟨b, h2 b hb, hh⟩, hp⟩
theorem homF_incl {p : ByteArray → ByteArray → Prop} {xs ys : List At} (hok : ∀ a ∈ xs, ∀ t ∈ a.terms, t.Ok) (hs : ∀ a ∈ xs, a ∈ ys) (hp : ∀ s u, p s u → s = u) : HomF p xs ys := by
  refine ⟨varT, fun a ha => ⟨a, hs a ha, rfl, ?_⟩, fun s u h => by rw [hp s u h]⟩
  have e : a.terms.map (sb varT) = a.terms.map id := List.map_congr_left (fun t ht => by
    unfold sb
    split
    · rfl
    · rename_i hv; exact (ok_var (hok a ha t ht) hv).symm)
  rw [e, List.map_id]
theorem homF_comp {p q r : ByteArray → ByteArray → Prop} {xs ys zs : List At} (h : HomF p xs ys) (k : HomF q ys zs) (hr : ∀ s u, r s u → ∃ m, p s m ∧ q m u ∧ (m = ⟨#[]⟩ → u = ⟨#[]⟩)) : HomF r xs zs := by
  obtain ⟨f, hf, hp⟩ := h
  obtain ⟨g, hg, hq⟩ := k
  refine ⟨fun s => sb g (f s), fun a ha => ?_, fun s u hs => ?_⟩
  · obtain ⟨b, hb, h1, h2⟩ := hf a ha
    obtain ⟨c, hc, h3, h4⟩ := hg b hb
    refine ⟨c, hc, h1.trans h3, ?_⟩
    rw [← h4, ← h2, List.map_map]
    refine List.map_congr_left (fun t ht => ?_)
    simp only [Function.comp]
    unfold sb
    by_cases hv : t.var = ⟨#[]⟩
    · simp [hv]
    · simp [hv]
  · obtain ⟨m, h1, h2, h3⟩ := hr s u hs
    show sb g (f s) = _
    rw [hp s m h1]
    by_cases hm : m = ⟨#[]⟩
    · rw [hm, h3 hm]; simp [sb, varT]
    · rw [sb_varT hm, hq m u h2]

/-- The search of Find decides it. -/
theorem uns_some {good : (ByteArray → Option Tm) → Bool} {cs : List Tm} {im' : ByteArray → Option Tm} (hg : good im' = true) : ∀ (vs : List ByteArray) (im : ByteArray → Option Tm), (∀ s ∈ vs, ∃ t ∈ cs, im' s = some t) → (∀ s, s ∉ vs → im s = im' s) → (uns good cs vs im).isSome = true
  | [], im, _, h => by
    have e : im = im' := funext (fun s => h s (by simp))
    unfold uns
    rw [e, if_pos hg]; rfl
  | v :: vs, im, hc, h => by
    obtain ⟨t, ht, he⟩ := hc v (by simp)
    unfold uns
    rw [List.findSome?_isSome_iff]
    refine ⟨t, ht, uns_some hg vs _ (fun s hs => hc s (by simp [hs])) (fun s hs => ?_)⟩
    unfold updT
    split
    · rename_i e; rw [e, he]
    · rename_i e; exact h s (by simp [e, hs])
def idPin (fx : List ByteArray) (s u : ByteArray) : Prop := s ∈ fx ∧ u = s
theorem findS_hom {xs ys : List At} {fx : List ByteArray} : (findS xs ys fx).isSome = true ↔ HomF (idPin fx) xs ys := by
  rw [findS_uns]
  constructor
  · intro h
    obtain ⟨im, hi⟩ := Option.isSome_iff_exists.1 h
    obtain ⟨h1, -, h3⟩ := uns_out _ _ _ (varsT_nodup _) hi
    obtain ⟨g1, g2⟩ := goodB_iff.1 h1
    refine ⟨fun s => if s ∈ varsT (allT xs) then (im s).getD zeroT else varT s, fun a ha => ?_, fun s u hs => ?_⟩
    · obtain ⟨b, hb, r1, r2⟩ := g1 a ha
      refine ⟨b, hb, r1, ?_⟩
      rw [← r2]
      refine List.map_congr_left (fun t ht => ?_)
      unfold sb repT
      by_cases hv : t.var = ⟨#[]⟩
      · simp [hv]
      · have hm := var_mem ha ht hv
        obtain ⟨u, -, hu⟩ := h3 _ hm
        simp [hv, hm, hu]
    · obtain ⟨hs, rfl⟩ := hs
      by_cases hm : u ∈ varsT (allT xs)
      · simp [hm, g2 u hm hs]
      · simp [hm]
  · rintro ⟨f, hf, hp⟩
    refine uns_some (im' := fun s => if s ∈ varsT (allT xs) then some (f s) else none) (goodB_iff.2 ⟨fun a ha => ?_, fun v hv hx => ?_⟩) _ _ (fun s hs => ⟨f s, HomF.cands hf hs, by simp [hs]⟩) (fun s hs => by simp [hs])
    · obtain ⟨b, hb, r1, r2⟩ := hf a ha
      refine ⟨b, hb, r1, ?_⟩
      rw [← r2]
      refine List.map_congr_left (fun t ht => ?_)
      unfold sb repT
      by_cases hv : t.var = ⟨#[]⟩
      · simp [hv]
      · simp [hv, var_mem ha ht hv]
    · simp [hv, hp v v ⟨hx, rfl⟩]

/-- The reference's search. -/
def hitT (a : At) (ts : List Tm) (b : At) : Bool := decide (a.rel = b.rel ∧ ts = b.terms)
def mapsR (xs : List At) (fr : List ByteArray) (tg : List Tm) (ys : List At) : Bool :=
  xs.all (fun a => !(a.terms.all (fun t => decide (t.var = ⟨#[]⟩ ∨ t.var ∈ fr.take tg.length))) || ys.any (fun b => hitT a (a.terms.map (repT (firstP (fr.zip tg)))) b))
def srchR (xs : List At) (fr : List ByteArray) (cs : List Tm) (ys : List At) : Nat → List Tm → Bool
  | 0, tg => mapsR xs fr tg ys
  | k + 1, tg => mapsR xs fr tg ys && cs.any (fun t => srchR xs fr cs ys k (tg ++ [t]))
def addF (fr : List ByteArray) (v : ByteArray) : List ByteArray := if v ∈ fr then fr else fr ++ [v]
def fromR (hd vs : List ByteArray) : List ByteArray := vs.foldl addF hd
def homR (xs : List At) (hd : List ByteArray) (ys : List At) (imgs : List ByteArray) : Bool :=
  srchR xs (fromR hd (varsT (allT xs))) (distT (allT ys)) ys ((fromR hd (varsT (allT xs))).length - imgs.length) (imgs.map varT)
theorem fromR_split : ∀ (vs hd : List ByteArray), ∃ os, fromR hd vs = hd ++ os ∧ (∀ v ∈ os, v ∈ vs) ∧ ∀ v ∈ vs, v ∈ fromR hd vs
  | [], hd => ⟨[], by simp [fromR], by simp, by simp⟩
  | v :: vs, hd => by
    obtain ⟨os, h1, h2, h3⟩ := fromR_split vs (addF hd v)
    have e : fromR hd (v :: vs) = fromR (addF hd v) vs := rfl
    by_cases hv : v ∈ hd
    · have ea : addF hd v = hd := by simp [addF, hv]
      rw [ea] at h1 h3 e
      refine ⟨os, e.trans h1, fun u hu => by simp [h2 u hu], fun u hu => ?_⟩
      rw [e]
      rcases List.mem_cons.1 hu with rfl | hu
      · rw [h1]; simp [hv]
      · exact h3 u hu
    · have ea : addF hd v = hd ++ [v] := by simp [addF, hv]
      rw [ea] at h1 h3 e
      refine ⟨v :: os, by rw [e, h1]; simp, fun u hu => ?_, fun u hu => ?_⟩
      · rcases List.mem_cons.1 hu with rfl | hu
        · simp
        · simp [h2 u hu]
      · rw [e]
        rcases List.mem_cons.1 hu with rfl | hu
        · rw [h1]; simp
        · exact h3 u hu
theorem firstP_append : ∀ (l m : List (ByteArray × Tm)) (s : ByteArray), firstP (l ++ m) s = (firstP l s).or (firstP m s)
  | [], m, s => by simp [firstP]
  | p :: l, m, s => by
    rw [List.cons_append, firstP_cons, firstP_cons, firstP_append l m s]
    split <;> simp
theorem firstP_fun {f : ByteArray → Tm} : ∀ {l : List (ByteArray × Tm)}, (∀ p ∈ l, p.2 = f p.1) → ∀ {s : ByteArray}, s ∈ l.map (·.1) → firstP l s = some (f s)
  | [], _, s, hs => by simp at hs
  | p :: l, h, s, hs => by
    rw [firstP_cons]
    split
    · rename_i e; rw [h p (by simp), e]
    · rename_i e
      refine firstP_fun (fun q hq => h q (by simp [hq])) ?_
      rw [List.map_cons, List.mem_cons] at hs
      rcases hs with hs | hs
      · exact absurd hs e
      · exact hs
theorem firstP_none : ∀ {l : List (ByteArray × Tm)} {s : ByteArray}, firstP l s = none → s ∉ l.map (·.1)
  | [], s, _ => by simp
  | p :: l, s, h => by
    rw [firstP_cons] at h
    split at h
    · cases h
    · rename_i e
      rw [List.map_cons, List.mem_cons, not_or]
      exact ⟨e, firstP_none h⟩
theorem zip_fst {fr : List ByteArray} {tg : List Tm} (h : tg.length ≤ fr.length) : (fr.zip tg).map (·.1) = fr.take tg.length := by
  have := List.map_fst_zip (l₁ := fr.take tg.length) (l₂ := tg) (by simp; omega)
  rw [← this]
  congr 1
  rw [List.zip_eq_zip_take_min, Nat.min_eq_right h, List.take_length]
theorem zip_app (fr : List ByteArray) : ∀ (tg us : List Tm), tg.length ≤ fr.length → fr.zip (tg ++ us) = fr.zip tg ++ (fr.drop tg.length).zip us := by
  induction fr with
  | nil => intro tg us h; simp at h; simp [h]
  | cons v fr ih =>
    intro tg us h
    cases tg with
    | nil => simp
    | cons t tg => simp only [List.cons_append, List.zip_cons_cons, List.length_cons, List.drop_succ_cons]; rw [ih tg us (by simpa using h)]
theorem mapsR_pre {xs : List At} {fr : List ByteArray} {tg us : List Tm} {ys : List At} (hl : (tg ++ us).length ≤ fr.length) (h : mapsR xs fr (tg ++ us) ys = true) : mapsR xs fr tg ys = true := by
  unfold mapsR at h ⊢
  rw [List.all_eq_true] at h ⊢
  intro a ha
  have h1 := h a ha
  rw [List.length_append] at hl
  by_cases hall : a.terms.all (fun t => decide (t.var = ⟨#[]⟩ ∨ t.var ∈ fr.take tg.length)) = true
  · have hall2 : a.terms.all (fun t => decide (t.var = ⟨#[]⟩ ∨ t.var ∈ fr.take (tg ++ us).length)) = true := by
      rw [List.all_eq_true] at hall ⊢
      intro t ht
      rcases of_decide_eq_true (hall t ht) with e | e
      · exact decide_eq_true (.inl e)
      · refine decide_eq_true (.inr ?_)
        rw [List.length_append]
        exact List.IsPrefix.subset (List.take_prefix_take_left (Nat.le_add_right _ _)) e
    rw [hall2] at h1
    rw [hall]
    have em : a.terms.map (repT (firstP (fr.zip (tg ++ us)))) = a.terms.map (repT (firstP (fr.zip tg))) := List.map_congr_left (fun t ht => by
      unfold repT
      rcases of_decide_eq_true (List.all_eq_true.1 hall t ht) with e | e
      · simp [e]
      · split
        · rfl
        · rw [zip_app fr tg us (by omega), firstP_append]
          cases hf : firstP (fr.zip tg) t.var with
          | some u => simp
          | none => exact absurd (by rw [zip_fst (by omega)]; exact e) (firstP_none hf))
    rw [em] at h1
    exact h1
  · have e : a.terms.all (fun t => decide (t.var = ⟨#[]⟩ ∨ t.var ∈ fr.take tg.length)) = false := by simpa using hall
    rw [e]; rfl
theorem srch_iff {xs : List At} {fr : List ByteArray} {cs : List Tm} {ys : List At} : ∀ (k : Nat) (tg : List Tm), fr.length = tg.length + k → (srchR xs fr cs ys k tg = true ↔ ∃ us : List Tm, us.length = k ∧ (∀ u ∈ us, u ∈ cs) ∧ mapsR xs fr (tg ++ us) ys = true)
  | 0, tg, _ => by
    unfold srchR
    constructor
    · intro h; exact ⟨[], rfl, by simp, by simpa using h⟩
    · rintro ⟨us, hu, -, h⟩
      obtain rfl : us = [] := List.length_eq_zero_iff.1 hu
      simpa using h
  | k + 1, tg, hl => by
    unfold srchR
    rw [Bool.and_eq_true, List.any_eq_true]
    constructor
    · rintro ⟨-, t, ht, h⟩
      obtain ⟨us, h1, h2, h3⟩ := (srch_iff k (tg ++ [t]) (by simp; omega)).1 h
      refine ⟨t :: us, by simp [h1], fun u hu => ?_, by simpa using h3⟩
      rcases List.mem_cons.1 hu with rfl | hu
      · exact ht
      · exact h2 u hu
    · rintro ⟨us, h1, h2, h3⟩
      cases us with
      | nil => simp at h1
      | cons t us =>
        refine ⟨mapsR_pre (by simp at h1 ⊢; omega) h3, t, h2 t (by simp), (srch_iff k (tg ++ [t]) (by simp; omega)).2 ⟨us, by simpa using h1, fun u hu => h2 u (by simp [hu]), by simpa using h3⟩⟩
def pinZ (hd imgs : List ByteArray) (s u : ByteArray) : Prop := (s, u) ∈ hd.zip imgs
theorem pin_first : ∀ {hd imgs : List ByteArray} {s u : ByteArray}, hd.Nodup ∨ imgs = hd → pinZ hd imgs s u → firstP (hd.zip (imgs.map varT)) s = some (varT u)
  | [], _, s, u, _, h => by simp [pinZ] at h
  | _ :: _, [], s, u, _, h => by simp [pinZ] at h
  | v :: hd, i :: imgs, s, u, hn, h => by
    rw [List.map_cons, List.zip_cons_cons, firstP_cons]
    unfold pinZ at h
    rw [List.zip_cons_cons, List.mem_cons] at h
    rcases hn with hn | hn
    · obtain ⟨n1, n2⟩ := List.nodup_cons.1 hn
      rcases h with h | h
      · injection h with h1 h2
        subst h1 h2
        rw [if_pos rfl]
      · have hne : s ≠ v := fun e => n1 (e ▸ (List.of_mem_zip h).1)
        rw [if_neg hne]
        exact pin_first (.inl n2) h
    · injection hn with h1 h2
      subst h1 h2
      split
      · rename_i e
        have e : s = i := e
        show some (varT i) = some (varT u)
        rcases h with h | h
        · injection h with h1 h2; rw [h2]
        · have e2 : s = u := by
            have : ∀ {l : List ByteArray}, (s, u) ∈ l.zip l → s = u := by
              intro l
              induction l with
              | nil => intro h; simp at h
              | cons x l ih => intro h; rw [List.zip_cons_cons, List.mem_cons] at h; rcases h with h | h; injection h with a b; rw [a, b]; exact ih h
            exact this h
          rw [← e, e2]
      · rename_i e
        rcases h with h | h
        · injection h with h1 h2; exact absurd h1 e
        · exact pin_first (.inr rfl) h
theorem homR_hom {xs ys : List At} {hd imgs : List ByteArray} (hl : imgs.length = hd.length) (hn : hd.Nodup ∨ imgs = hd) : homR xs hd ys imgs = true ↔ HomF (pinZ hd imgs) xs ys := by
  obtain ⟨os, h1, h2, h3⟩ := fromR_split (varsT (allT xs)) hd
  unfold homR
  obtain ⟨fr, hfr⟩ : ∃ fr, fr = fromR hd (varsT (allT xs)) := ⟨_, rfl⟩
  rw [← hfr] at h1 h3 ⊢
  have hfl : fr.length = hd.length + os.length := by rw [h1, List.length_append]
  rw [srch_iff _ _ (by simp; omega)]
  constructor
  · rintro ⟨us, hu, -, hm⟩
    have hus : us.length = os.length := by omega
    have hz : fr.zip (imgs.map varT ++ us) = hd.zip (imgs.map varT) ++ os.zip us := by rw [h1, List.zip_append (by simp [hl])]
    have hfull : (imgs.map varT ++ us).length = fr.length := by simp; omega
    have hsome : ∀ v ∈ fr, ∃ t, firstP (fr.zip (imgs.map varT ++ us)) v = some t := fun v hv => by
      cases hf : firstP (fr.zip (imgs.map varT ++ us)) v with
      | some t => exact ⟨t, rfl⟩
      | none => exact absurd (by rw [zip_fst (by omega), hfull, List.take_length]; exact hv) (firstP_none hf)
    refine ⟨fun v => (firstP (fr.zip (imgs.map varT ++ us)) v).getD zeroT, fun a ha => ?_, fun s u hs => ?_⟩
    · have ha2 := List.all_eq_true.1 hm a ha
      rw [hfull, List.take_length] at ha2
      have hall : a.terms.all (fun t => decide (t.var = ⟨#[]⟩ ∨ t.var ∈ fr)) = true := List.all_eq_true.2 (fun t ht => decide_eq_true (by
        by_cases hv : t.var = ⟨#[]⟩
        · exact .inl hv
        · exact .inr (h3 _ (var_mem ha ht hv))))
      rw [hall, Bool.not_true, Bool.false_or, List.any_eq_true] at ha2
      obtain ⟨b, hb, hh⟩ := ha2
      obtain ⟨r1, r2⟩ := of_decide_eq_true hh
      refine ⟨b, hb, r1, ?_⟩
      rw [← r2]
      refine List.map_congr_left (fun t ht => ?_)
      unfold sb repT
      by_cases hv : t.var = ⟨#[]⟩
      · simp [hv]
      · obtain ⟨u, hu⟩ := hsome _ (h3 _ (var_mem ha ht hv))
        simp [hv, hu]
    · show (firstP (fr.zip (imgs.map varT ++ us)) s).getD zeroT = varT u
      rw [hz, firstP_append, pin_first hn hs]; simp
  · rintro ⟨f, hf, hp⟩
    refine ⟨os.map f, by simp; omega, fun u hu => ?_, ?_⟩
    · obtain ⟨v, hv, rfl⟩ := List.mem_map.1 hu
      exact HomF.cands hf (h2 v hv)
    · have hz : fr.zip (imgs.map varT ++ os.map f) = hd.zip (imgs.map varT) ++ os.zip (os.map f) := by rw [h1, List.zip_append (by simp [hl])]
      have hfull : (imgs.map varT ++ os.map f).length = fr.length := by simp; omega
      have hpf : ∀ p ∈ fr.zip (imgs.map varT ++ os.map f), p.2 = f p.1 := by
        intro p hp2
        rw [hz, List.mem_append] at hp2
        rcases hp2 with h | h
        · rw [List.zip_map_right, List.mem_map] at h
          obtain ⟨q, hq, rfl⟩ := h
          exact (hp q.1 q.2 hq).symm
        · rw [List.zip_map_right, List.mem_map] at h
          obtain ⟨q, hq, rfl⟩ := h
          have : ∀ {l : List ByteArray}, q ∈ l.zip l → q.2 = q.1 := by
            intro l
            induction l with
            | nil => intro h; simp at h
            | cons x l ih => intro h; rw [List.zip_cons_cons, List.mem_cons] at h; rcases h with h | h; rw [h]; exact ih h
          show f q.2 = f q.1
          rw [this hq]
      unfold mapsR
      refine List.all_eq_true.2 (fun a ha => ?_)
      obtain ⟨b, hb, r1, r2⟩ := hf a ha
      have : ys.any (fun b => hitT a (a.terms.map (repT (firstP (fr.zip (imgs.map varT ++ os.map f))))) b) = true := List.any_eq_true.2 ⟨b, hb, decide_eq_true ⟨r1, by
        rw [← r2]
        refine List.map_congr_left (fun t ht => ?_)
        unfold sb repT
        by_cases hv : t.var = ⟨#[]⟩
        · simp [hv]
        · have hin : t.var ∈ (fr.zip (imgs.map varT ++ os.map f)).map (·.1) := by rw [zip_fst (by omega), hfull, List.take_length]; exact h3 _ (var_mem ha ht hv)
          simp [hv, firstP_fun hpf hin]⟩⟩
      rw [this, Bool.or_true]
theorem pinZ_self {l : List ByteArray} {s u : ByteArray} : pinZ l l s u ↔ idPin l s u := by
  unfold pinZ idPin
  induction l with
  | nil => simp
  | cons x l ih =>
    rw [List.zip_cons_cons, List.mem_cons, List.mem_cons, ih]
    constructor
    · rintro (h | h)
      · injection h with a b; exact ⟨.inl a, by rw [a, b]⟩
      · exact ⟨.inr h.1, h.2⟩
    · rintro ⟨h | h, e⟩
      · exact .inl (by rw [e, h])
      · exact .inr ⟨h, e⟩
theorem homR_self {xs ys : List At} {l : List ByteArray} : homR xs l ys l = true ↔ HomF (idPin l) xs ys := by
  rw [homR_hom rfl (.inr rfl)]
  constructor
  · rintro ⟨f, h1, h2⟩; exact ⟨f, h1, fun s u h => h2 s u (pinZ_self.2 h)⟩
  · rintro ⟨f, h1, h2⟩; exact ⟨f, h1, fun s u h => h2 s u (pinZ_self.1 h)⟩
end Go.Proofs.YtehklbdgkppmeaaDoor
