/- Plain laws of MinimizeRenames. -/
import Derived.Test.YtehklbdgkppmeaaDoorKf
namespace Go.Proofs.YtehklbdgkppmeaaDoor
open Go.RowKit Go.Maps

def pre (s : ByteArray) : ByteArray := (⟨#[118, 95]⟩ : ByteArray) ++ s
theorem pre_size (s : ByteArray) : (pre s).size = s.size + 2 := by
  unfold pre
  rw [ByteArray.size_append]
  have : (⟨#[118, 95]⟩ : ByteArray).size = 2 := rfl
  omega
theorem pre_ne (s : ByteArray) : pre s ≠ ⟨#[]⟩ := fun e => by
  have h := pre_size s
  rw [e] at h
  have : (⟨#[]⟩ : ByteArray).size = 0 := rfl
  omega
theorem pre_inj {s t : ByteArray} (h : pre s = pre t) : s = t := by
  unfold pre at h
  have h2 := congrArg (fun b : ByteArray => b.data.toList) h
  simp only [ByteArray.data_append, Array.toList_append] at h2
  have h3 := List.append_cancel_left h2
  cases s; cases t
  simp only at h3
  rw [ByteArray.mk.injEq]
  exact Array.toList_inj.1 h3
def rnT (t : Tm) : Tm := if t.var = ⟨#[]⟩ then t else ⟨pre t.var, t.kind, t.int, t.str⟩
def rnA (a : At) : At := ⟨false, a.rel, a.terms.map rnT⟩
def rnL (xs : List At) : List At := xs.map rnA
theorem rnT_var {t : Tm} (h : t.var ≠ ⟨#[]⟩) : rnT t = ⟨pre t.var, t.kind, t.int, t.str⟩ := if_neg h
theorem rnT_con {t : Tm} (h : t.var = ⟨#[]⟩) : rnT t = t := if_pos h
theorem rnT_inj {s t : Tm} (h : rnT s = rnT t) : s = t := by
  by_cases hs : s.var = ⟨#[]⟩ <;> by_cases ht : t.var = ⟨#[]⟩
  · rwa [rnT_con hs, rnT_con ht] at h
  · rw [rnT_con hs, rnT_var ht] at h
    rw [h] at hs
    exact absurd hs (pre_ne _)
  · rw [rnT_var hs, rnT_con ht] at h
    rw [← h] at ht
    exact absurd ht (pre_ne _)
  · rw [rnT_var hs, rnT_var ht] at h
    injection h with h1 h2 h3 h4
    have h1 := pre_inj h1
    cases s; cases t
    simp only at h1 h2 h3 h4
    subst h1 h2 h3 h4
    rfl
theorem map_rnT_inj : ∀ {l m : List Tm}, l.map rnT = m.map rnT → l = m
  | [], [], _ => rfl
  | [], _ :: _, h => by simp at h
  | _ :: _, [], h => by simp at h
  | a :: l, b :: m, h => by
    rw [List.map_cons, List.map_cons] at h
    injection h with h1 h2
    rw [rnT_inj h1, map_rnT_inj h2]
theorem sameA_rn (a b : At) : sameA (rnA a) (rnA b) = sameA a b := by
  refine bool_iff ?_
  unfold sameA rnA
  rw [decide_eq_true_iff, decide_eq_true_iff]
  exact ⟨fun h => ⟨h.1, map_rnT_inj h.2⟩, fun h => ⟨h.1, by rw [h.2]⟩⟩
theorem dedR_rn (xs : List At) : dedR (rnL xs) = rnL (dedR xs) := by
  have hs : ∀ (ys l : List At), (rnL ys).foldl dedS (rnL l) = rnL (ys.foldl dedS l) := by
    intro ys
    induction ys with
    | nil => intro l; rfl
    | cons a ys ih =>
      intro l
      show (rnL ys).foldl dedS (dedS (rnL l) (rnA a)) = _
      have e : dedS (rnL l) (rnA a) = rnL (dedS l a) := by
        unfold dedS rnL
        rw [List.any_map]
        have e2 : ((fun b => sameA b (rnA a)) ∘ rnA) = fun b => sameA b a := funext (fun b => sameA_rn b a)
        rw [e2]
        split
        · rfl
        · rw [List.map_append]; rfl
      rw [e]
      exact ih _
  exact hs xs []
theorem allT_rn (xs : List At) : allT (rnL xs) = (allT xs).map rnT := by
  unfold allT rnL
  induction xs with
  | nil => rfl
  | cons a xs ih => rw [List.map_cons, List.flatMap_cons, List.flatMap_cons, ih, List.map_append]; rfl
theorem vars_rn {xs : List At} {u : ByteArray} : u ∈ varsT (allT (rnL xs)) ↔ ∃ v ∈ varsT (allT xs), u = pre v := by
  rw [allT_rn]
  constructor
  · intro h
    obtain ⟨t, ht, rfl, hne⟩ := varsT_iff.1 h
    obtain ⟨s, hs, rfl⟩ := List.mem_map.1 ht
    by_cases hv : s.var = ⟨#[]⟩
    · rw [rnT_con hv] at hne
      exact absurd hv hne
    · exact ⟨s.var, varsT_iff.2 ⟨s, hs, rfl, hv⟩, by rw [rnT_var hv]⟩
  · rintro ⟨v, hv, rfl⟩
    obtain ⟨t, ht, rfl, hne⟩ := varsT_iff.1 hv
    exact varsT_iff.2 ⟨rnT t, List.mem_map.2 ⟨t, ht, rfl⟩, by rw [rnT_var hne], pre_ne _⟩
theorem rn_pu {a : At} (h : a.Pu) : (rnA a).Pu := by
  refine ⟨⟨rfl, fun t ht => ?_⟩, by show (a.terms.map rnT).length ≤ 6; rw [List.length_map]; exact h.2⟩
  obtain ⟨s, hs, rfl⟩ := List.mem_map.1 ht
  by_cases hv : s.var = ⟨#[]⟩
  · rw [rnT_con hv]; exact .inl hv
  · rw [rnT_var hv]
    rcases h.1.2 s hs with h | h
    · exact absurd h hv
    · exact .inr h
theorem rn_pure {xs : List At} (h : pureL xs 0 = true) : pureL (rnL xs) 0 = true := by
  obtain ⟨h1, h2, h3, h4, h5⟩ := pureL_iff.1 h
  refine pureL_iff.2 ⟨fun a ha => ?_, rfl, by unfold rnL; rw [List.length_map]; exact h3, by unfold rnL; rw [List.length_map]; exact h4, ?_⟩
  · obtain ⟨b, hb, rfl⟩ := List.mem_map.1 ha
    exact rn_pu (h1 b hb)
  · have h6 := nodup_len (l := varsT (allT (rnL xs))) (m := (varsT (allT xs)).map pre) (varsT_nodup _) (fun u hu => by
      obtain ⟨v, hv, rfl⟩ := vars_rn.1 hu
      exact List.mem_map.2 ⟨v, hv, rfl⟩)
    rw [List.length_map] at h6
    omega

/-- Into the renamed list, and out of it. -/
def pinI (s u : ByteArray) : Prop := u = pre s
def pinO (s u : ByteArray) : Prop := s = pre u
theorem homF_mono {p r : ByteArray → ByteArray → Prop} {xs ys : List At} (h : HomF p xs ys) (hr : ∀ s u, r s u → p s u) : HomF r xs ys := let ⟨f, h1, h2⟩ := h; ⟨f, h1, fun s u k => h2 s u (hr s u k)⟩
theorem iso_in {l : List At} (hp : ∀ a ∈ l, a.Pu) : HomF pinI l (rnL l) := by
  refine ⟨fun s => varT (pre s), fun a ha => ⟨rnA a, List.mem_map.2 ⟨a, ha, rfl⟩, rfl, ?_⟩, fun s u h => by rw [h]⟩
  refine List.map_congr_left (fun t ht => ?_)
  unfold sb
  by_cases hv : t.var = ⟨#[]⟩
  · rw [if_pos hv, rnT_con hv]
  · rw [if_neg hv, rnT_var hv]
    have e := ok_var ((hp a ha).1.2 t ht) hv
    have e1 : t.kind = 0 ∧ t.int = 0 ∧ t.str = ⟨#[]⟩ := by
      rcases (hp a ha).1.2 t ht with h | h
      · exact absurd h hv
      · exact h
    rw [e1.1, e1.2.1, e1.2.2]
theorem iso_out {m : List At} (hp : ∀ a ∈ m, a.Pu) : HomF pinO (rnL m) m := by
  classical
  have hf : ∀ v, (fun s : ByteArray => if h : ∃ u, s = pre u then varT h.choose else varT s) (pre v) = varT v := fun v => by
    have h : ∃ u, pre v = pre u := ⟨v, rfl⟩
    show (if h : ∃ u, pre v = pre u then varT h.choose else varT (pre v)) = varT v
    rw [dif_pos h, ← pre_inj h.choose_spec]
  refine ⟨fun s => if h : ∃ u, s = pre u then varT h.choose else varT s, fun a ha => ?_, fun s u h => by rw [h]; exact hf u⟩
  obtain ⟨b, hb, rfl⟩ := List.mem_map.1 ha
  refine ⟨b, hb, rfl, ?_⟩
  show (b.terms.map rnT).map _ = b.terms
  rw [List.map_map]
  conv => rhs; rw [← List.map_id b.terms]
  refine List.map_congr_left (fun t ht => ?_)
  simp only [Function.comp, id]
  unfold sb
  by_cases hv : t.var = ⟨#[]⟩
  · rw [rnT_con hv, if_pos hv]
  · rw [rnT_var hv, if_neg (pre_ne _)]
    exact (hf t.var).trans (ok_var ((hp b hb).1.2 t ht) hv).symm
theorem homF_rn {fx : List ByteArray} {l m : List At} (hl : ∀ a ∈ l, a.Pu) (hm : ∀ a ∈ m, a.Pu) (hz : (⟨#[]⟩ : ByteArray) ∉ fx) : HomF (idPin (fx.map pre)) (rnL l) (rnL m) ↔ HomF (idPin fx) l m := by
  constructor
  · intro h
    have h1 : HomF (fun s u => s ∈ fx ∧ u = pre s) l (rnL m) := homF_comp (iso_in hl) h (fun s u hs => ⟨pre s, rfl, ⟨List.mem_map.2 ⟨s, hs.1, rfl⟩, hs.2⟩, fun e => absurd e (pre_ne _)⟩)
    exact homF_comp h1 (iso_out hm) (fun s u hs => ⟨pre s, ⟨hs.1, rfl⟩, by rw [hs.2]; rfl, fun e => absurd e (pre_ne _)⟩)
  · intro h
    have h1 : HomF (fun s u => u ∈ fx ∧ s = pre u) (rnL l) m := homF_comp (iso_out hl) h (fun s u hs => ⟨u, hs.2, ⟨hs.1, rfl⟩, fun e => e⟩)
    exact homF_comp h1 (iso_in hm) (fun s u hs => by
      obtain ⟨v, hv, e⟩ := List.mem_map.1 hs.1
      exact ⟨v, ⟨hv, e.symm⟩, by rw [hs.2, ← e]; rfl, fun e2 => absurd (e2 ▸ hv) hz⟩)
theorem okP_rn {fx V : List ByteArray} {V' : List ByteArray} {l m : List At} (hl : ∀ a ∈ l, a.Pu) (hm : ∀ a ∈ m, a.Pu) (hz : (⟨#[]⟩ : ByteArray) ∉ fx) (hV : ∀ u, u ∈ V' ↔ ∃ v ∈ V, u = pre v) : okP (fx.map pre) V' (rnL l) (rnL m) = okP fx V l m := by
  refine bool_iff (okP_iff.trans (Iff.trans ?_ okP_iff.symm))
  unfold OkH
  rw [homF_rn hl hm hz]
  refine and_congr_left (fun _ => ?_)
  constructor
  · intro h v hv hVv
    obtain ⟨u, hu, e⟩ := vars_rn.1 (h (pre v) (List.mem_map.2 ⟨v, hv, rfl⟩) ((hV _).2 ⟨v, hVv, rfl⟩))
    rw [pre_inj e]
    exact hu
  · intro h u hu hVu
    obtain ⟨v, hv, rfl⟩ := List.mem_map.1 hu
    obtain ⟨v', hv', e⟩ := (hV _).1 hVu
    exact vars_rn.2 ⟨v, h v hv (by rw [pre_inj e]; exact hv'), rfl⟩
theorem coreL_rn {ok ok' : List At → List At → Bool} (h : ∀ l m, (∀ a ∈ l, a.Pu) → (∀ a ∈ m, a.Pu) → ok' (rnL l) (rnL m) = ok l m) : ∀ (i : Nat) (l : List At), (∀ a ∈ l, a.Pu) → coreL ok' i (rnL l) = rnL (coreL ok i l)
  | 0, l, _ => rfl
  | i + 1, l, hl => by
    have he : (rnL l).eraseIdx i = rnL (l.eraseIdx i) := by unfold rnL; rw [List.eraseIdx_eq_take_drop_succ, List.eraseIdx_eq_take_drop_succ, List.map_append, List.map_take, List.map_drop]
    have hm : ∀ a ∈ l.eraseIdx i, a.Pu := fun a ha => hl a (List.mem_of_mem_eraseIdx ha)
    show coreL ok' i (if ok' (rnL l) ((rnL l).eraseIdx i) = true then (rnL l).eraseIdx i else rnL l) = rnL (coreL ok i (if ok l (l.eraseIdx i) = true then l.eraseIdx i else l))
    rw [he, h l _ hl hm]
    split
    · exact coreL_rn h i _ hm
    · exact coreL_rn h i _ hl
theorem coreP_rn {fx : List ByteArray} {xs : List At} (hp : ∀ a ∈ xs, a.Pu) (hz : (⟨#[]⟩ : ByteArray) ∉ fx) : coreP (rnL xs) (fx.map pre) = rnL (coreP xs fx) := by
  unfold coreP
  rw [dedR_rn]
  have e : (rnL (dedR xs)).length = (dedR xs).length := by unfold rnL; rw [List.length_map]
  rw [e]
  exact coreL_rn (fun l m hl hm => okP_rn hl hm hz (fun u => vars_rn)) _ _ (fun a ha => hp a (dedR_mem ha))

/-- The query with every name behind a prefix. -/
def rnR (r : Ru) : Ru := ⟨rnL r.ats, 0⟩
def preQ (q : Qr) : Qr := ⟨q.hd.map pre, 0, ⟨#[]⟩, q.rs.map rnR, 0⟩
theorem nodup_pre {l : List ByteArray} (h : l.Nodup) : (l.map pre).Nodup := List.pairwise_map.2 (h.imp (fun hne e => hne (pre_inj e)))
section
variable {q : Qr}
theorem preQ_pure (h : q.pure = true) : (preQ q).pure = true := by
  have hq := Qr.pure_iff.1 h
  refine Qr.pure_iff.2 ⟨rfl, by show 1 ≤ (q.rs.map rnR).length; rw [List.length_map]; exact hq.2.1, by show (q.rs.map rnR).length ≤ 3; rw [List.length_map]; exact hq.2.2.1, nodup_pre hq.2.2.2.1, fun r hr => ?_⟩
  obtain ⟨s, hs, rfl⟩ := List.mem_map.1 hr
  have h1 := hq.2.2.2.2 s hs
  have h2 := h1.1
  rw [hq.nc hs] at h2
  refine ⟨rn_pure h2, fun u hu => ?_⟩
  obtain ⟨v, hv, rfl⟩ := List.mem_map.1 hu
  exact vars_rn.2 ⟨v, h1.2 v hv, rfl⟩
theorem preQ_at {i : Nat} (hi : i < q.rs.length) : atS (preQ q) i = rnL (atS q i) := by
  show (((q.rs.map rnR)[i]?).map Ru.ats).getD [] = _
  rw [List.getElem?_map, List.getElem?_eq_getElem hi]
  unfold atS
  rw [List.getElem?_eq_getElem hi]
  rfl
theorem preQ_cs (h : q.pure = true) {i : Nat} (hi : i < q.rs.length) : csAt (preQ q) i = rnL (csAt q i) := by
  have e : csAt (preQ q) i = coreP (atS (preQ q) i) (q.hd.map pre) := rfl
  rw [e, preQ_at hi, coreP_rn (at_pu h hi) (Qr.pure_iff.1 h).noz]
  rfl
theorem preQ_rel (h : q.pure = true) {i j : Nat} (hi : i < q.rs.length) (hj : j < q.rs.length) : relM (preQ q) i j = relM q i j := by
  refine bool_iff (relM_iff.trans (Iff.trans ?_ relM_iff.symm))
  rw [preQ_cs h hi, preQ_cs h hj]
  exact homF_rn (fun a ha => at_pu h hi a ((cs_coreF h hi).subx.subset ha)) (fun a ha => at_pu h hj a ((cs_coreF h hj).subx.subset ha)) (Qr.pure_iff.1 h).noz
/-- The minimal rules of the renamed query are the renamed minimal rules. -/
theorem preQ_min (h : q.pure = true) : minRs (preQ q) = (minRs q).map rnR := by
  have hl : (preQ q).rs.length = q.rs.length := by show (q.rs.map rnR).length = _; rw [List.length_map]
  unfold minRs
  rw [hl, kept_congr (S := relM q) (fun i j hi hj => preQ_rel h hi hj), List.map_map]
  refine List.map_congr_left (fun i hi => ?_)
  have hi := (kept_mem.1 hi).1
  show cRu (preQ q) i = rnR (cRu q i)
  unfold cRu
  rw [preQ_cs h hi]
  rfl
theorem hitB_iff' {a b : Qr} {r s : Ru} (hn : b.hd.Nodup) (hl : a.hd.length = b.hd.length) : hitB a b r s = true ↔ HomF (pinZ b.hd a.hd) s.ats r.ats := hitB_iff hn hl
theorem preQ_equiv (h : q.pure = true) : contT (preQ q) q = true ∧ contT q (preQ q) = true ∧ contE (preQ q) q = 0 := by
  have hq := Qr.pure_iff.1 h
  have hm := preQ_pure h
  have hl : (preQ q).hd.length = q.hd.length := by show (q.hd.map pre).length = _; rw [List.length_map]
  have e1 : contE (preQ q) q = 0 := by unfold contE; rw [if_pos ⟨hm, h⟩]; exact if_pos hl
  have e2 : contE q (preQ q) = 0 := by unfold contE; rw [if_pos ⟨h, hm⟩]; exact if_pos hl.symm
  unfold contT
  rw [e1, e2]
  refine ⟨?_, ?_, rfl⟩
  · rw [Bool.and_eq_true]
    refine ⟨rfl, contB_iff.2 (fun r hr => ?_)⟩
    obtain ⟨s, hs, rfl⟩ := List.mem_map.1 hr
    refine ⟨s, hs, (hitB_iff hq.2.2.2.1 hl).2 (homF_mono (iso_in (hq.ok hs)) (fun x u hx => ?_))⟩
    obtain ⟨i, h1, h2, e1, e2⟩ := zip_at hx
    have e3 : (preQ q).hd[i] = pre q.hd[i] := List.getElem_map _
    rw [e3] at e2
    rw [← e1, ← e2]
    rfl
  · rw [Bool.and_eq_true]
    refine ⟨rfl, contB_iff.2 (fun r hr => ?_)⟩
    refine ⟨rnR r, List.mem_map.2 ⟨r, hr, rfl⟩, (hitB_iff (nodup_pre hq.2.2.2.1) hl.symm).2 (homF_mono (iso_out (hq.ok hr)) (fun x u hx => ?_))⟩
    obtain ⟨i, h1, h2, e1, e2⟩ := zip_at hx
    have e3 : (preQ q).hd[i] = pre q.hd[i] := List.getElem_map _
    rw [e3] at e1
    rw [← e1, ← e2]
    rfl
end
end Go.Proofs.YtehklbdgkppmeaaDoor
