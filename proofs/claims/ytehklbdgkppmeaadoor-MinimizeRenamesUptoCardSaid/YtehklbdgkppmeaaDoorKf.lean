/- Plain laws of MinimizeMinimal. -/
import Derived.Test.YtehklbdgkppmeaaDoorKe
import Derived.Test.YtehklbdgkppmeaaDoorJj
namespace Go.Proofs.YtehklbdgkppmeaaDoor
open Go.RowKit Go.Maps

theorem homF_id_comp {fx : List ByteArray} {xs ys zs : List At} (h : HomF (idPin fx) xs ys) (k : HomF (idPin fx) ys zs) : HomF (idPin fx) xs zs := homF_comp h k (fun s u hs => ⟨s, ⟨hs.1, rfl⟩, hs, fun e => by rw [hs.2, e]⟩)
theorem homF_id_incl {fx : List ByteArray} {xs ys : List At} (hp : ∀ a ∈ xs, a.Pu) (hs : ∀ a ∈ xs, a ∈ ys) : HomF (idPin fx) xs ys := homF_incl (fun a ha => (hp a ha).1.2) hs (fun s u h => h.2.symm)
theorem homF_ded {fx : List ByteArray} {xs : List At} (hp : ∀ a ∈ xs, a.Pu) : HomF (idPin fx) xs (dedR xs) := by
  obtain ⟨f, hf, hq⟩ := homF_id_incl (fx := fx) hp (fun a h => h)
  refine ⟨f, fun a ha => ?_, hq⟩
  obtain ⟨b, hb, h1, h2⟩ := hf a ha
  obtain ⟨c, hc, hs⟩ := dedR_has hb
  have hs := of_decide_eq_true hs
  exact ⟨c, hc, h1.trans hs.1.symm, h2.trans hs.2.symm⟩
/-- A rule maps to its core, and back. -/
theorem CoreF.into {xs : List At} {fx : List ByteArray} {c : List At} (h : CoreF xs fx c) (hp : ∀ a ∈ xs, a.Pu) : HomF (idPin fx) xs c := homF_id_comp (homF_ded hp) h.hom
theorem CoreF.back {xs : List At} {fx : List ByteArray} {c : List At} (h : CoreF xs fx c) (hp : ∀ a ∈ xs, a.Pu) : HomF (idPin fx) c xs := homF_id_incl (fun a ha => hp a (h.subx.subset ha)) (fun _ ha => h.subx.subset ha)

theorem bool_iff {a b : Bool} (h : a = true ↔ b = true) : a = b := by
  cases a <;> cases b <;> simp at h ⊢
theorem filter_cong {α : Type} {p r : α → Bool} : ∀ {l : List α}, (∀ x ∈ l, p x = r x) → l.filter p = l.filter r
  | [], _ => rfl
  | a :: l, h => by
    rw [List.filter_cons, List.filter_cons, h a (by simp), filter_cong (fun x hx => h x (by simp [hx]))]
theorem any_cong {α : Type} {p r : α → Bool} : ∀ {l : List α}, (∀ x ∈ l, p x = r x) → l.any p = l.any r
  | [], _ => rfl
  | a :: l, h => by
    rw [List.any_cons, List.any_cons, h a (by simp), any_cong (fun x hx => h x (by simp [hx]))]
theorem kept_congr {R S : Nat → Nat → Bool} {n : Nat} (h : ∀ i j, i < n → j < n → R i j = S i j) : keptL R n = keptL S n := by
  unfold keptL
  refine filter_cong (fun i hi => ?_)
  have hi := List.mem_range.1 hi
  unfold dropB
  rw [any_cong (fun j hj => ?_)]
  have hj := List.mem_range.1 hj
  unfold overB
  rw [h j i hj hi, h i j hi hj]

section
variable {q : Qr}
theorem cs_coreF (h : q.pure = true) {i : Nat} (hi : i < q.rs.length) : CoreF (atS q i) q.hd (csAt q i) := by
  have hq := Qr.pure_iff.1 h
  rw [atS_get hi, csAt_get hi]
  have h1 := pureL_iff.1 (hq.2.2.2.2 _ (List.getElem_mem hi)).1
  exact coreF h1.1 (fun e => by rw [e] at h1; simp at h1)
theorem at_pu (h : q.pure = true) {i : Nat} (hi : i < q.rs.length) : ∀ a ∈ atS q i, a.Pu := by
  rw [atS_get hi]
  exact (Qr.pure_iff.1 h).ok (List.getElem_mem hi)
theorem cs_eq (h : q.pure = true) {i : Nat} (hi : i < q.rs.length) : csAt q i = cRf q i := by
  have hq := Qr.pure_iff.1 h
  have h1 := pureL_iff.1 (hq.2.2.2.2 _ (List.getElem_mem hi)).1
  unfold cRf
  rw [atS_get hi, csAt_get hi]
  exact core_eq (fun e => by rw [e] at h1; simp at h1)
theorem relM_iff {i j : Nat} : relM q j i = true ↔ HomF (idPin q.hd) (csAt q j) (csAt q i) := findS_hom
theorem rel_eq (h : q.pure = true) {i j : Nat} (hi : i < q.rs.length) (hj : j < q.rs.length) : relM q j i = relR q j i := by
  refine bool_iff (relM_iff.trans (Iff.trans ?_ homR_self.symm))
  have ci := cs_coreF h hi
  have cj := cs_coreF h hj
  exact ⟨fun k => homF_id_comp (cj.into (at_pu h hj)) (homF_id_comp k (ci.back (at_pu h hi))), fun k => homF_id_comp (cj.back (at_pu h hj)) (homF_id_comp k (ci.into (at_pu h hi)))⟩
theorem kept_eq (h : q.pure = true) : keptL (relM q) q.rs.length = keptL (relR q) q.rs.length := kept_congr (fun _ _ hi hj => rel_eq h hj hi)
theorem min_ref (h : q.pure = true) : (minRs q).map Ru.ats = refL q := by
  unfold minRs refL
  rw [← kept_eq h, List.map_map]
  exact List.map_congr_left (fun i hi => cs_eq h (kept_mem.1 hi).1)
theorem relM_tr (h : q.pure = true) : TrOn (relM q) q.rs.length :=
  ⟨fun i hi => relM_iff.2 (homF_id_incl (fun a ha => at_pu h hi a ((cs_coreF h hi).subx.subset ha)) (fun _ h => h)), fun _ _ _ _ _ _ h1 h2 => relM_iff.2 (homF_id_comp (relM_iff.1 h1) (relM_iff.1 h2))⟩
theorem min_mem {r : Ru} : r ∈ minRs q ↔ ∃ i ∈ keptL (relM q) q.rs.length, cRu q i = r := List.mem_map
theorem min_len (h : q.pure = true) : 1 ≤ (minRs q).length ∧ (minRs q).length ≤ q.rs.length := by
  have hq := Qr.pure_iff.1 h
  unfold minRs
  rw [List.length_map]
  refine ⟨?_, keptTo_length (relM q) q.rs.length q.rs.length⟩
  obtain ⟨k, hk, -⟩ := kept_dom (relM_tr h) _ 0 hq.2.1 (Nat.le_refl _)
  exact List.length_pos_of_mem hk
theorem min_okRu (h : q.pure = true) (ho : QOk q) {r : Ru} (hr : r ∈ minRs q) : okRu q.hd r ∧ AOk r.ats := by
  have hq := Qr.pure_iff.1 h
  obtain ⟨i, hi, rfl⟩ := min_mem.1 hr
  have hi := (kept_mem.1 hi).1
  have hc := cs_coreF h hi
  have hm := List.getElem_mem hi
  have ha := ho.ax _ hm
  have h1 := hq.2.2.2.2 _ hm
  have hnc := hq.nc hm
  have h2 := h1.1
  rw [hnc] at h2
  rw [← atS_get hi] at ha h2
  refine ⟨⟨hc.pure ha.bd h2, fun v hv => hc.keep v hv ?_⟩, ha.sub hc.subx⟩
  rw [atS_get hi]
  exact h1.2 v hv
theorem min_pure (h : q.pure = true) (ho : QOk q) : (minQ q).pure = true := by
  have hq := Qr.pure_iff.1 h
  have hl := min_len h
  exact Qr.pure_iff.2 ⟨rfl, hl.1, by have := hq.2.2.1; show (minRs q).length ≤ 3; omega, hq.2.2.2.1, fun r hr => (min_okRu h ho hr).1⟩
theorem min_ok (h : q.pure = true) (ho : QOk q) : QOk (minQ q) :=
  ⟨fun r hr => (min_okRu h ho hr).2, ho.hs, ho.hl, by have := (min_len h).2; have := ho.rl; show (minRs q).length ≤ 1000; omega⟩
theorem min_at {p : Nat} (hp : p < (keptL (relM q) q.rs.length).length) : atS (minQ q) p = csAt q (keptL (relM q) q.rs.length)[p] := by
  show (((minRs q)[p]?).map Ru.ats).getD [] = _
  unfold minRs
  rw [List.getElem?_map, List.getElem?_eq_getElem hp]
  rfl
theorem min_cs (h : q.pure = true) {p : Nat} (hp : p < (keptL (relM q) q.rs.length).length) : csAt (minQ q) p = csAt q (keptL (relM q) q.rs.length)[p] := by
  have h2 : csAt (minQ q) p = coreP (atS (minQ q) p) q.hd := rfl
  rw [h2, min_at hp]
  exact core_again (cs_coreF h (kept_mem.1 (List.getElem_mem hp)).1)
/-- The minimal query is minimal. -/
theorem min_again (h : q.pure = true) : (minRs (minQ q)).length = (minRs q).length := by
  have hl : (minQ q).rs.length = (keptL (relM q) q.rs.length).length := by show (minRs q).length = _; unfold minRs; rw [List.length_map]
  have h1 : keptL (relM (minQ q)) (keptL (relM q) q.rs.length).length = List.range (keptL (relM q) q.rs.length).length := kept_again (fun a b ha hb => by
    refine bool_iff (relM_iff.trans (Iff.trans ?_ relM_iff.symm))
    rw [min_cs h ha, min_cs h hb]
    exact Iff.rfl)
  show ((keptL (relM (minQ q)) (minQ q).rs.length).map _).length = _
  rw [List.length_map, hl, h1, List.length_range]
  show _ = (List.map _ _).length
  rw [List.length_map]
theorem hitS_iff {a b : Qr} (hd : a.hd = b.hd) {r s : Ru} : hitB a b r s = true ↔ HomF (idPin b.hd) s.ats r.ats := by
  unfold hitB
  rw [hd]
  exact homR_self
theorem min_equiv (h : q.pure = true) (ho : QOk q) : contT (minQ q) q = true ∧ contT q (minQ q) = true ∧ contE (minQ q) q = 0 := by
  have hm := min_pure h ho
  have e1 : contE (minQ q) q = 0 := by unfold contE; rw [if_pos ⟨hm, h⟩]; exact if_pos rfl
  have e2 : contE q (minQ q) = 0 := by unfold contE; rw [if_pos ⟨h, hm⟩]; exact if_pos rfl
  unfold contT
  rw [e1, e2]
  refine ⟨?_, ?_, rfl⟩
  · rw [Bool.and_eq_true]
    refine ⟨rfl, contB_iff.2 (fun r hr => ?_)⟩
    obtain ⟨i, hi, rfl⟩ := min_mem.1 hr
    have hi := (kept_mem.1 hi).1
    refine ⟨q.rs[i], List.getElem_mem hi, (hitS_iff rfl).2 ?_⟩
    have := (cs_coreF h hi).into (at_pu h hi)
    rw [atS_get hi] at this
    exact this
  · rw [Bool.and_eq_true]
    refine ⟨rfl, contB_iff.2 (fun r hr => ?_)⟩
    obtain ⟨i, hi, rfl⟩ := List.getElem_of_mem hr
    obtain ⟨k, hk, hr⟩ := kept_dom (relM_tr h) _ i hi (Nat.le_refl _)
    refine ⟨cRu q k, min_mem.2 ⟨k, hk, rfl⟩, (hitS_iff rfl).2 ?_⟩
    have h1 := homF_id_comp (relM_iff.1 hr) ((cs_coreF h hi).back (at_pu h hi))
    rw [atS_get hi] at h1
    exact h1
end
end Go.Proofs.YtehklbdgkppmeaaDoor
