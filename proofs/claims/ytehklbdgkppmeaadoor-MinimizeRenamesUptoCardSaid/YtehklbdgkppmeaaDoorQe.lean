/- Plain law: the program's containment (heads renamed, other variables made new) and the reference's. -/
import Derived.Test.YtehklbdgkppmeaaDoorQd
namespace Go.Proofs.YtehklbdgkppmeaaDoor
open Go.RowKit Go.Maps

theorem appL_iff {im : ByteArray → Option Tm} {xs : List At} {a : At} : a ∈ appL im xs ↔ ∃ b ∈ xs, a = repA im b := by
  have hs : ∀ (ys l : List At), a ∈ ys.foldl (fun l a => addA l (repA im a)) l ↔ a ∈ l ∨ ∃ b ∈ ys, a = repA im b := by
    intro ys
    induction ys with
    | nil => intro l; simp
    | cons b ys ih =>
      intro l
      rw [List.foldl_cons, ih]
      have e : a ∈ addA l (repA im b) ↔ a ∈ l ∨ a = repA im b := by
        unfold addA
        split
        · rename_i h
          obtain ⟨c, hc, e⟩ := List.mem_map.1 h
          have e := keyS_inj e
          subst e
          exact ⟨.inl, fun h => by rcases h with h | h; exact h; rw [h]; exact hc⟩
        · rw [List.mem_append, List.mem_singleton]
      rw [e]
      simp only [List.mem_cons]
      constructor
      · rintro ((h | h) | ⟨c, hc, h⟩)
        · exact .inl h
        · exact .inr ⟨b, .inl rfl, h⟩
        · exact .inr ⟨c, .inr hc, h⟩
      · rintro (h | ⟨c, rfl | hc, h⟩)
        · exact .inl (.inl h)
        · exact .inl (.inr h)
        · exact .inr ⟨c, hc, h⟩
  have := hs xs []
  simpa [appL] using this

/-- A renaming of the variables, as Apply makes it from pairs. -/
def renL (nm : ByteArray → ByteArray) (r : List At) : List At := appL (firstP ((varsT (allT r)).map (fun v => (v, varT (nm v))))) r
theorem ren_rep {nm : ByteArray → ByteArray} {r : List At} {a : At} {t : Tm} (ha : a ∈ r) (ht : t ∈ a.terms) : repT (firstP ((varsT (allT r)).map (fun v => (v, varT (nm v))))) t = if t.var = ⟨#[]⟩ then t else varT (nm t.var) := by
  unfold repT
  split
  · rfl
  · rename_i hv
    rw [firstP_fun (f := fun v => varT (nm v)) (fun p hp => by obtain ⟨v, -, rfl⟩ := List.mem_map.1 hp; rfl) (by rw [List.map_map]; exact List.mem_map.2 ⟨_, var_mem ha ht hv, rfl⟩)]
    rfl
theorem ren_hom {nm : ByteArray → ByteArray} {r ys : List At} {bh ah : List ByteArray} (hnd : bh.Nodup) (hl : bh.length = ah.length) (hah : ah.Nodup)
    (hne : ∀ v ∈ varsT (allT r), nm v ≠ ⟨#[]⟩) (hinj : ∀ u ∈ varsT (allT r), ∀ v ∈ varsT (allT r), nm u = nm v → u = v)
    (hhd : ∀ s u, pinZ bh ah s u → nm s = u) (hout : ∀ v ∈ varsT (allT r), v ∉ bh → nm v ∉ ah) :
    HomF (idPin ah) (renL nm r) ys ↔ HomF (pinZ bh ah) r ys := by
  classical
  constructor
  · rintro ⟨g, hg, hp⟩
    refine ⟨fun s => g (nm s), fun a ha => ?_, fun s u hs => ?_⟩
    · obtain ⟨b, hb, h1, h2⟩ := hg _ (appL_iff.2 ⟨a, ha, rfl⟩)
      refine ⟨b, hb, h1, ?_⟩
      rw [← h2]
      simp only [repA, List.map_map]
      refine List.map_congr_left (fun t ht => ?_)
      simp only [Function.comp]
      rw [ren_rep ha ht]
      unfold sb
      by_cases hv : t.var = ⟨#[]⟩
      · simp [hv]
      · have h3 := hne _ (var_mem ha ht hv)
        have e : (varT (nm t.var)).var = nm t.var := rfl
        simp [hv, e, h3]
    · show g (nm s) = _
      rw [hhd s u hs]
      exact hp u u ⟨(List.of_mem_zip hs).2, rfl⟩
  · rintro ⟨f, hf, hp⟩
    refine ⟨fun s => if h : ∃ v ∈ varsT (allT r), nm v = s then f h.choose else varT s, fun a ha => ?_, fun s u hs => ?_⟩
    · obtain ⟨c, hc, rfl⟩ := appL_iff.1 ha
      obtain ⟨b, hb, h1, h2⟩ := hf c hc
      refine ⟨b, hb, h1, ?_⟩
      rw [← h2]
      simp only [repA, List.map_map]
      refine List.map_congr_left (fun t ht => ?_)
      simp only [Function.comp]
      rw [ren_rep hc ht]
      unfold sb
      by_cases hv : t.var = ⟨#[]⟩
      · simp [hv]
      · have hm := var_mem hc ht hv
        have h3 := hne _ hm
        have e : (varT (nm t.var)).var = nm t.var := rfl
        have hx : ∃ v ∈ varsT (allT r), nm v = nm t.var := ⟨_, hm, rfl⟩
        have hc2 := hx.choose_spec
        have : hx.choose = t.var := hinj _ hc2.1 _ hm hc2.2
        simp only [hv, if_false, e, h3, hx, dite_true]
        rw [this]
    · obtain ⟨hs, rfl⟩ := hs
      show (if h : ∃ v ∈ varsT (allT r), nm v = u then f h.choose else varT u) = _
      split
      · rename_i hx
        obtain ⟨h1, h2⟩ := hx.choose_spec
        have hb : hx.choose ∈ bh := Classical.byContradiction (fun hn => hout _ h1 hn (by rw [h2]; exact hs))
        obtain ⟨i, hi, e⟩ := List.getElem_of_mem hb
        have hz : pinZ bh ah hx.choose (ah[i]'(by omega)) := by
          unfold pinZ
          rw [← e]
          have : (bh.zip ah)[i]'(by simp; omega) = (bh[i], ah[i]'(by omega)) := List.getElem_zip
          rw [← this]
          exact List.getElem_mem _
        have h3 := hhd _ _ hz
        rw [hp _ _ hz, ← h3, h2]
      · rfl

/-- The first place of a name. -/
def idxS : List ByteArray → ByteArray → Nat
  | [], _ => 0
  | x :: l, s => if x = s then 0 else idxS l s + 1
theorem idxS_lt : ∀ {l : List ByteArray} {s : ByteArray}, s ∈ l → idxS l s < l.length
  | [], s, h => by simp at h
  | x :: l, s, h => by
    unfold idxS
    split
    · simp
    · rename_i e
      have := idxS_lt (l := l) (s := s) (by rcases List.mem_cons.1 h with h | h; exact absurd h.symm e; exact h)
      simp; omega
theorem idxS_not : ∀ {l : List ByteArray} {s : ByteArray}, s ∉ l → idxS l s = l.length
  | [], s, _ => rfl
  | x :: l, s, h => by
    rw [List.mem_cons, not_or] at h
    unfold idxS
    rw [if_neg (fun e => h.1 e.symm), idxS_not h.2]
    rfl
theorem idxS_get : ∀ {l : List ByteArray} {s : ByteArray} (h : idxS l s < l.length), l[idxS l s] = s
  | [], s, h => by simp at h
  | x :: l, s, h => by
    by_cases e : x = s
    · have : idxS (x :: l) s = 0 := by unfold idxS; rw [if_pos e]
      simp only [this, List.getElem_cons_zero]; exact e
    · have e2 : idxS (x :: l) s = idxS l s + 1 := by
        conv => lhs; unfold idxS
        rw [if_neg e]
      have h2 : idxS l s < l.length := by rw [e2] at h; simpa using h
      simp only [e2, List.getElem_cons_succ]; exact idxS_get h2
theorem idxS_at : ∀ {l : List ByteArray} {i : Nat} (h : i < l.length), l.Nodup → idxS l l[i] = i
  | [], i, h, _ => by simp at h
  | x :: l, 0, h, _ => by unfold idxS; simp
  | x :: l, i + 1, h, hn => by
    obtain ⟨n1, n2⟩ := List.nodup_cons.1 hn
    have hi : i < l.length := by simpa using h
    rw [List.getElem_cons_succ]
    unfold idxS
    have hne : ¬ x = l[i] := fun e => n1 (by rw [e]; exact List.getElem_mem hi)
    rw [if_neg hne, idxS_at hi n2]
/-- The name that a variable gets. -/
def freshB (ah : List ByteArray) : ByteArray := ⟨(List.replicate (ah.foldl (fun m s => max m s.size) 0 + 1) 118).toArray⟩
def nmR (bh ah : List ByteArray) (vs : List ByteArray) (v : ByteArray) : ByteArray :=
  if idxS bh v < bh.length then ah.getD (idxS bh v) ⟨#[]⟩ else freshB ah ++ ⟨(Lib.itoa (idxS vs v : Int)).toArray⟩
theorem max_le (ah : List ByteArray) : ∀ s ∈ ah, s.size ≤ ah.foldl (fun m s => max m s.size) 0 := by
  have h : ∀ (l : List ByteArray) (m : Nat), m ≤ l.foldl (fun m s => max m s.size) m ∧ ∀ s ∈ l, s.size ≤ l.foldl (fun m s => max m s.size) m := by
    intro l
    induction l with
    | nil => intro m; simp
    | cons x l ih =>
      intro m
      rw [List.foldl_cons]
      obtain ⟨h1, h2⟩ := ih (max m x.size)
      refine ⟨by omega, fun s hs => ?_⟩
      rcases List.mem_cons.1 hs with rfl | hs
      · omega
      · exact h2 s hs
  exact (h ah 0).2
theorem freshB_size (ah : List ByteArray) : (freshB ah).size = ah.foldl (fun m s => max m s.size) 0 + 1 := by
  show (List.replicate _ _).toArray.size = _
  simp
theorem nmR_new {bh ah vs : List ByteArray} {v : ByteArray} (h : v ∉ bh) : nmR bh ah vs v = freshB ah ++ ⟨(Lib.itoa (idxS vs v : Int)).toArray⟩ := by
  unfold nmR
  rw [if_neg (by rw [idxS_not h]; omega)]
theorem nmR_new_out {bh ah vs : List ByteArray} {v : ByteArray} (h : v ∉ bh) : nmR bh ah vs v ∉ ah := by
  intro hm
  have h1 := max_le ah _ hm
  rw [nmR_new h, ByteArray.size_append, freshB_size] at h1
  omega
theorem pin_idx : ∀ {bh ah : List ByteArray} {s u : ByteArray}, bh.Nodup → pinZ bh ah s u → idxS bh s < bh.length ∧ ah.getD (idxS bh s) ⟨#[]⟩ = u
  | [], _, s, u, _, h => by simp [pinZ] at h
  | _ :: _, [], s, u, _, h => by simp [pinZ] at h
  | v :: bh, i :: ah, s, u, hn, h => by
    obtain ⟨n1, n2⟩ := List.nodup_cons.1 hn
    unfold pinZ at h
    rw [List.zip_cons_cons, List.mem_cons] at h
    rcases h with h | h
    · injection h with h1 h2
      subst h1 h2
      have e : idxS (s :: bh) s = 0 := by unfold idxS; simp
      rw [e]
      simp
    · have hne : v ≠ s := fun e => n1 (e ▸ (List.of_mem_zip h).1)
      obtain ⟨h1, h2⟩ := pin_idx n2 h
      have e : idxS (v :: bh) s = idxS bh s + 1 := by
        conv => lhs; unfold idxS
        rw [if_neg hne]
      rw [e]
      simp only [List.length_cons, List.getD_cons_succ]
      exact ⟨by omega, h2⟩
theorem nmR_pin {bh ah vs : List ByteArray} (hn : bh.Nodup) {s u : ByteArray} (h : pinZ bh ah s u) : nmR bh ah vs s = u := by
  obtain ⟨h1, h2⟩ := pin_idx hn h
  unfold nmR
  rw [if_pos h1, h2]
theorem app_inj {a : ByteArray} {x y : List UInt8} (h : a ++ ⟨x.toArray⟩ = a ++ ⟨y.toArray⟩) : x = y := by
  have h2 := congrArg (fun b : ByteArray => b.data.toList) h
  simpa [ByteArray.data_append] using h2
theorem nmR_in {bh ah : List ByteArray} (hl : bh.length = ah.length) {v : ByteArray} (vs : List ByteArray) (h : v ∈ bh) : ∃ h2 : idxS bh v < ah.length, nmR bh ah vs v = ah[idxS bh v] := by
  have h1 := idxS_lt h
  refine ⟨by omega, ?_⟩
  unfold nmR
  rw [if_pos h1, List.getD_eq_getElem?_getD, List.getElem?_eq_getElem (by omega)]
  rfl
theorem idx_inj {l : List ByteArray} {u v : ByteArray} (hu : u ∈ l) (h : idxS l u = idxS l v) (hv : v ∈ l) : u = v := by
  have e1 : l[idxS l u]'(idxS_lt hu) = u := idxS_get _
  have e2 : l[idxS l v]'(idxS_lt hv) = v := idxS_get _
  have : l[idxS l u]'(idxS_lt hu) = l[idxS l v]'(idxS_lt hv) := by congr 1
  rw [← e1, ← e2, this]
theorem nodup_at {l : List ByteArray} (h : l.Nodup) {i j : Nat} (hi : i < l.length) (hj : j < l.length) (e : l[i] = l[j]) : i = j := by
  have h1 := idxS_at hi h
  have h2 := idxS_at hj h
  rw [e] at h1
  omega
theorem nmR_inj {bh ah vs : List ByteArray} (hl : bh.length = ah.length) (hah : ah.Nodup) : ∀ u ∈ vs, ∀ v ∈ vs, nmR bh ah vs u = nmR bh ah vs v → u = v := by
  intro u hu v hv h
  by_cases h1 : u ∈ bh
  · obtain ⟨i1, e1⟩ := nmR_in hl vs h1
    by_cases h2 : v ∈ bh
    · obtain ⟨i2, e2⟩ := nmR_in hl vs h2
      rw [e1, e2] at h
      exact idx_inj h1 (nodup_at hah i1 i2 h) h2
    · exact absurd (by rw [← h, e1]; exact List.getElem_mem _) (nmR_new_out (ah := ah) (vs := vs) h2)
  · by_cases h2 : v ∈ bh
    · obtain ⟨i2, e2⟩ := nmR_in hl vs h2
      exact absurd (by rw [h, e2]; exact List.getElem_mem _) (nmR_new_out (ah := ah) (vs := vs) h1)
    · rw [nmR_new h1, nmR_new h2] at h
      have := itoa_inj (app_inj h)
      exact idx_inj hu (by omega) hv
theorem nmR_ne {bh ah vs : List ByteArray} (hl : bh.length = ah.length) (hz : ⟨#[]⟩ ∉ ah) (v : ByteArray) : nmR bh ah vs v ≠ ⟨#[]⟩ := by
  by_cases h : v ∈ bh
  · obtain ⟨i, e⟩ := nmR_in hl vs h
    rw [e]
    intro e2
    exact hz (e2 ▸ List.getElem_mem i)
  · rw [nmR_new h]
    intro e
    have := congrArg ByteArray.size e
    rw [ByteArray.size_append, freshB_size] at this
    have e0 : (⟨#[]⟩ : ByteArray).size = 0 := rfl
    omega
/-- A rule of b maps into a rule of a, as the program finds it and as the reference does. -/
theorem cont_hom {r ys : List At} {bh ah : List ByteArray} (hb : bh.Nodup) (ha : ah.Nodup) (hl : bh.length = ah.length) (hz : ⟨#[]⟩ ∉ ah) :
    (findS (renL (nmR bh ah (varsT (allT r))) r) ys ah).isSome = homR r bh ys ah := by
  rw [Bool.eq_iff_iff, findS_hom, homR_hom hl.symm (.inl hb)]
  exact ren_hom hb hl ha (fun v _ => nmR_ne hl hz v) (nmR_inj hl ha) (fun s u h => nmR_pin hb h) (fun v _ hv => nmR_new_out hv)
end Go.Proofs.YtehklbdgkppmeaaDoor
