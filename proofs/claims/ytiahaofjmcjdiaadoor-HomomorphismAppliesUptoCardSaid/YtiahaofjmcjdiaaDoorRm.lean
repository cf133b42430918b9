/- Plain law: Check answers what the reference answers. -/
import Derived.Test.YtiahaofjmcjdiaaDoorRk
namespace Go.Proofs.YtiahaofjmcjdiaaDoor
open Go.RowKit

theorem fold_addP (s : ByteArray) : ∀ (ps : List (ByteArray × Tm)) (f : ByteArray → Option Tm), ps.foldl addP f s = if (f s).isSome = true then f s else ps.foldl addP (fun _ => none) s
  | [], f => by rcases h : f s with _ | u <;> simp [h]
  | p :: ps, f => by
    rw [List.foldl_cons, List.foldl_cons, fold_addP s ps (addP f p), fold_addP s ps (addP (fun _ => none) p)]
    by_cases e : s = p.1
    · rcases hf : f s with _ | u
      · have h1 : addP f p s = some p.2 := by unfold addP; rw [← e, hf]; simp [updT]
        have h2 : addP (fun _ => none) p s = some p.2 := by unfold addP; simp [updT, e]
        rw [h1, h2]; simp
      · have h1 : addP f p s = some u := by unfold addP; rw [← e, hf]; simp [hf]
        rw [h1]; simp
    · have h1 : addP f p s = f s := by unfold addP; split; rfl; simp [updT, e]
      have h2 : addP (fun _ => none) p s = none := by unfold addP; simp [updT, e]
      rw [h1, h2]; simp
theorem firstP_cons (p : ByteArray × Tm) (ps : List (ByteArray × Tm)) (s : ByteArray) : firstP (p :: ps) s = if s = p.1 then some p.2 else firstP ps s := by
  unfold firstP
  rw [List.foldl_cons, fold_addP]
  by_cases e : s = p.1
  · have h2 : addP (fun _ => none) p s = some p.2 := by unfold addP; simp [updT, e]
    rw [h2, if_pos e]; rfl
  · have h2 : addP (fun _ => none) p s = none := by unfold addP; simp [updT, e]
    rw [h2, if_neg e]; rfl
theorem firstP_none {s : ByteArray} : ∀ {ps : List (ByteArray × Tm)}, (∀ q ∈ ps, q.1 ≠ s) → firstP ps s = none
  | [], _ => rfl
  | p :: ps, h => by rw [firstP_cons, if_neg (fun e => h p (by simp) e.symm), firstP_none (fun q hq => h q (by simp [hq]))]
theorem firstP_some {s : ByteArray} : ∀ {ps : List (ByteArray × Tm)}, (∃ q ∈ ps, q.1 = s) → (firstP ps s).isSome = true
  | [], h => by obtain ⟨q, hq, _⟩ := h; simp at hq
  | p :: ps, h => by
    rw [firstP_cons]
    by_cases e : s = p.1
    · rw [if_pos e]; rfl
    · rw [if_neg e]
      obtain ⟨q, hq, hqs⟩ := h
      rcases List.mem_cons.1 hq with rfl | hq
      · exact absurd hqs.symm e
      · exact firstP_some ⟨q, hq, hqs⟩
theorem firstP_iff {s : ByteArray} {ps : List (ByteArray × Tm)} : (firstP ps s).isSome = true ↔ ∃ q ∈ ps, q.1 = s := by
  refine ⟨fun h => ?_, firstP_some⟩
  obtain ⟨t, ht⟩ := Option.isSome_iff_exists.1 h
  exact ⟨_, firstP_mem ht, rfl⟩

/-- The last pair of a variable counts. -/
def lastP (ps : List (ByteArray × Tm)) (v : ByteArray) : Option Tm := ps.foldl (fun o p => if p.1 = v then some p.2 else o) none
theorem lastP_snoc (ps : List (ByteArray × Tm)) (p : ByteArray × Tm) (v : ByteArray) : lastP (ps ++ [p]) v = if p.1 = v then some p.2 else lastP ps v := by simp [lastP]
theorem fold_last (v : ByteArray) : ∀ (ps : List (ByteArray × Tm)) (o : Option Tm), ps.foldl (fun o p => if p.1 = v then some p.2 else o) o = (lastP ps v).or o
  | [], o => by simp [lastP]
  | p :: ps, o => by
    unfold lastP
    rw [List.foldl_cons, List.foldl_cons, fold_last v ps, fold_last v ps (if p.1 = v then some p.2 else none)]
    by_cases e : p.1 = v
    · rw [if_pos e, if_pos e]; cases lastP ps v <;> simp
    · rw [if_neg e, if_neg e]; cases lastP ps v <;> simp
theorem lastP_cons (p : ByteArray × Tm) (ps : List (ByteArray × Tm)) (v : ByteArray) : lastP (p :: ps) v = (lastP ps v).or (if p.1 = v then some p.2 else none) := by
  rw [← fold_last]; rfl
theorem lastP_none {v : ByteArray} : ∀ {ps : List (ByteArray × Tm)}, (∀ q ∈ ps, q.1 ≠ v) → lastP ps v = none
  | [], _ => rfl
  | p :: ps, h => by rw [lastP_cons, lastP_none (fun q hq => h q (by simp [hq])), if_neg (h p (by simp))]; rfl
theorem last_first {v : ByteArray} : ∀ {ps : List (ByteArray × Tm)}, (ps.map (·.1)).Nodup → lastP ps v = firstP ps v
  | [], _ => rfl
  | p :: ps, h => by
    rw [List.map_cons, List.nodup_cons] at h
    rw [lastP_cons, firstP_cons]
    by_cases e : p.1 = v
    · have hn : ∀ q ∈ ps, q.1 ≠ v := fun q hq he => h.1 (List.mem_map.2 ⟨q, hq, by rw [he, e]⟩)
      rw [lastP_none hn, if_pos e, if_pos e.symm]; rfl
    · rw [if_neg e, if_neg (fun h => e h.symm), last_first h.2]; simp

def imgN (T : List Tm) : Option Tm → Int
  | none => 0
  | some t => numT T t
def cntP (ps : List (ByteArray × Tm)) (v : ByteArray) : Nat := (ps.filter (fun p => decide (p.1 = v))).length
theorem cntP_snoc (ps : List (ByteArray × Tm)) (p : ByteArray × Tm) (v : ByteArray) : cntP (ps ++ [p]) v = cntP ps v + if p.1 = v then 1 else 0 := by
  unfold cntP
  rw [List.filter_append, List.length_append]
  by_cases e : p.1 = v <;> simp [e]
theorem cntP_le (ps : List (ByteArray × Tm)) (v : ByteArray) : cntP ps v ≤ ps.length := List.length_filter_le _ _
def cntV (vs : List ByteArray) (ps : List (ByteArray × Tm)) : Nat := (vs.map (cntP ps)).sum
theorem cntV_le (vs : List ByteArray) (ps : List (ByteArray × Tm)) : cntV vs ps ≤ vs.length * ps.length := by
  induction vs with
  | nil => simp [cntV]
  | cons v vs ih => simp only [cntV, List.map_cons, List.sum_cons, List.length_cons, Nat.succ_mul] at ih ⊢; have := cntP_le ps v; omega
theorem filt_cons {v : ByteArray} {vs : List ByteArray} (hv : v ∉ vs) : ∀ ps : List (ByteArray × Tm), (ps.filter (fun p => decide (p.1 ∈ v :: vs))).length = cntP ps v + (ps.filter (fun p => decide (p.1 ∈ vs))).length
  | [] => rfl
  | p :: ps => by
    have ih := filt_cons hv ps
    unfold cntP at ih ⊢
    by_cases e : p.1 = v
    · have h1 : p.1 ∈ v :: vs := by rw [e]; simp
      have h2 : p.1 ∉ vs := by rw [e]; exact hv
      rw [List.filter_cons_of_pos (by simpa using h1), List.filter_cons_of_pos (by simpa using e), List.filter_cons_of_neg (by simpa using h2), List.length_cons, List.length_cons, ih]
      omega
    · by_cases h2 : p.1 ∈ vs
      · have h1 : p.1 ∈ v :: vs := by simp [h2]
        rw [List.filter_cons_of_pos (by simpa using h1), List.filter_cons_of_neg (by simpa using e), List.filter_cons_of_pos (by simpa using h2), List.length_cons, List.length_cons, ih]
        omega
      · have h1 : ¬ p.1 ∈ v :: vs := by simp [h2, e]
        rw [List.filter_cons_of_neg (by simpa using h1), List.filter_cons_of_neg (by simpa using e), List.filter_cons_of_neg (by simpa using h2), ih]
theorem cntV_eq : ∀ {vs : List ByteArray} (_ : vs.Nodup) (ps : List (ByteArray × Tm)), cntV vs ps = (ps.filter (fun p => decide (p.1 ∈ vs))).length
  | [], _, ps => by
    have : ps.filter (fun p => decide (p.1 ∈ ([] : List ByteArray))) = [] := List.filter_eq_nil_iff.2 (fun p _ => by simp)
    rw [this]; rfl
  | v :: vs, hn, ps => by
    obtain ⟨hv, hn⟩ := List.nodup_cons.1 hn
    rw [filt_cons hv, ← cntV_eq hn ps]
    simp [cntV]

theorem nodup_of_cover {α : Type} [DecidableEq α] : ∀ {O S : List α}, S.Nodup → (∀ s ∈ S, s ∈ O) → O.length ≤ S.length → O.Nodup
  | [], _, _, _, _ => by simp
  | a :: O, S, hS, hs, hl => by
    have ha : a ∉ O := fun ha => by
      have := len_sub hS (O := O) (fun s h => by rcases List.mem_cons.1 (hs s h) with rfl | h; exact ha; exact h)
      simp at hl; omega
    refine List.nodup_cons.2 ⟨ha, nodup_of_cover (S := S.filter (fun s => decide (s ≠ a))) (hS.filter _) (fun s h => ?_) ?_⟩
    · obtain ⟨h1, h2⟩ := List.mem_filter.1 h
      rcases List.mem_cons.1 (hs s h1) with e | h3
      · exact absurd e (of_decide_eq_true h2)
      · exact h3
    · have h1 : S.length ≤ (a :: S.filter (fun s => decide (s ≠ a))).length := len_sub hS (fun s h => by
        by_cases e : s = a
        · rw [e]; simp
        · exact List.mem_cons.2 (.inr (List.mem_filter.2 ⟨h, decide_eq_true e⟩)))
      simp at h1 hl ⊢
      omega

def ExactP (vs : List ByteArray) (ps : List (ByteArray × Tm)) : Prop := cntV vs ps = ps.length ∧ cntV vs ps = vs.length ∧ (ps.map (·.1)).Nodup
theorem exact_iff {vs : List ByteArray} {ps : List (ByteArray × Tm)} (hn : vs.Nodup) : ExactP vs ps ↔ ps.length = vs.length ∧ ∀ v ∈ vs, (firstP ps v).isSome = true := by
  unfold ExactP
  rw [cntV_eq hn]
  constructor
  · rintro ⟨h1, h2, h3⟩
    refine ⟨h1.symm.trans h2, fun v hv => ?_⟩
    rw [firstP_iff]
    have hall : ∀ p ∈ ps, p.1 ∈ vs := fun p hp => by
      have := List.length_filter_eq_length_iff.1 h1 p hp
      exact of_decide_eq_true this
    by_cases hm : v ∈ ps.map (·.1)
    · obtain ⟨q, hq, e⟩ := List.mem_map.1 hm
      exact ⟨q, hq, e⟩
    · have h4 := len_sub (S := v :: ps.map (·.1)) (O := vs) (List.nodup_cons.2 ⟨hm, h3⟩) (fun s hs => by
        rcases List.mem_cons.1 hs with rfl | hs
        · exact hv
        · obtain ⟨q, hq, rfl⟩ := List.mem_map.1 hs
          exact hall q hq)
      simp at h4
      omega
  · rintro ⟨h1, h2⟩
    have hsub : ∀ v ∈ vs, v ∈ ps.map (·.1) := fun v hv => by
      obtain ⟨q, hq, e⟩ := firstP_iff.1 (h2 v hv)
      exact List.mem_map.2 ⟨q, hq, e⟩
    have hall : ∀ p ∈ ps, p.1 ∈ vs := fun p hp => by
      by_cases hm : p.1 ∈ vs
      · exact hm
      · have h4 := len_sub (S := p.1 :: vs) (O := ps.map (·.1)) (List.nodup_cons.2 ⟨hm, hn⟩) (fun s hs => by
          rcases List.mem_cons.1 hs with rfl | hs
          · exact List.mem_map.2 ⟨p, hp, rfl⟩
          · exact hsub s hs)
        simp at h4
        omega
    have hlen : (ps.filter (fun p => decide (p.1 ∈ vs))).length = ps.length := List.length_filter_eq_length_iff.2 (fun p hp => decide_eq_true (hall p hp))
    exact ⟨hlen, hlen.trans h1, nodup_of_cover hn hsub (by simp; omega)⟩

open Classical in
noncomputable def exactB (vs : List ByteArray) (ps : List (ByteArray × Tm)) : Bool := decide (ExactP vs ps)
theorem exactB_yes {vs : List ByteArray} {ps : List (ByteArray × Tm)} (h : ExactP vs ps) : exactB vs ps = true := @decide_eq_true _ (Classical.propDecidable _) h
theorem exactB_no {vs : List ByteArray} {ps : List (ByteArray × Tm)} (h : ¬ ExactP vs ps) : exactB vs ps = false := @decide_eq_false _ (Classical.propDecidable _) h
/-- Check and the reference. -/
theorem checks_law {T : List Tm} {xa xb : List At} {ps : List (ByteArray × Tm)} (hx : ∀ t ∈ allT xa, Kn T t) (hy : ∀ t ∈ allT xb, Kn T t) (ga : ∀ a ∈ xa, a.neg = false) (gb : ∀ a ∈ xb, a.neg = false) (hok : ∀ p ∈ ps, p.2.Ok) (hk : ∀ p ∈ ps, p.1 ∈ varsT (allT xa) → p.2.key ∈ T) :
    checkB xa xb ps = (exactB (varsT (allT xa)) ps && isR (xa.map (rat T)) (xb.map (rat T)) ((varsT (allT xa)).map (fun v => numT T (varT v))) ((varsT (allT xa)).map (fun v => imgN T (lastP ps v))) []) := by
  have hn := varsT_nodup (allT xa)
  by_cases he : ExactP (varsT (allT xa)) ps
  · rw [exactB_yes he, Bool.true_and]
    obtain ⟨h1, h2⟩ := (exact_iff hn).1 he
    have hm : (varsT (allT xa)).map (firstP ps) = ((varsT (allT xa)).map (fun v => (firstP ps v).getD zeroT)).map some := by
      rw [List.map_map]
      refine List.map_congr_left (fun v hv => ?_)
      obtain ⟨t, ht⟩ := Option.isSome_iff_exists.1 (h2 v hv)
      simp [ht]
    have hku : ∀ t ∈ (varsT (allT xa)).map (fun v => (firstP ps v).getD zeroT), Kn T t := fun t ht => by
      obtain ⟨v, hv, rfl⟩ := List.mem_map.1 ht
      obtain ⟨t, ht⟩ := Option.isSome_iff_exists.1 (h2 v hv)
      rw [ht]
      have hmem := firstP_mem ht
      exact ⟨hk _ hmem hv, hok _ hmem⟩
    have hi : (varsT (allT xa)).map (fun v => imgN T (lastP ps v)) = ((varsT (allT xa)).map (fun v => (firstP ps v).getD zeroT)).map (numT T) := by
      rw [List.map_map]
      refine List.map_congr_left (fun v hv => ?_)
      obtain ⟨t, ht⟩ := Option.isSome_iff_exists.1 (h2 v hv)
      rw [last_first he.2.2, ht]
      simp [imgN, ht]
    rw [hi]
    have hl := leaf (T := T) (xs := xa) (ys := xb) (fx := []) hx hy (fun t ht => by simp [nmT] at ht) hm hku
    rw [show (nmT []).map (numT T) = [] from rfl] at hl
    rw [hl, Bool.eq_iff_iff, goodB_iff]
    unfold checkB GoodI
    rw [decide_eq_true h1, Bool.true_and, Bool.and_eq_true]
    constructor
    · rintro ⟨-, h4⟩
      refine ⟨fun a ha => ?_, fun v _ h => by simp at h⟩
      have h5 := of_decide_eq_true (List.all_eq_true.1 h4 a ha)
      obtain ⟨b, hb, e⟩ := List.mem_map.1 h5
      have e := keyS_inj e
      exact ⟨b, hb, by rw [e]; rfl, by rw [e]; rfl⟩
    · rintro ⟨h4, -⟩
      refine ⟨List.all_eq_true.2 h2, List.all_eq_true.2 (fun a ha => decide_eq_true ?_)⟩
      obtain ⟨b, hb, e1, e2⟩ := h4 a ha
      refine List.mem_map.2 ⟨b, hb, ?_⟩
      have : repA (firstP ps) a = b := by
        have h6 := gb b hb
        unfold repA
        rw [ga a ha, e1, e2, ← h6]
      rw [this]
  · rw [exactB_no he, Bool.false_and]
    have h1 := fun h => he ((exact_iff hn).2 h)
    unfold checkB
    by_cases h2 : ps.length = (varsT (allT xa)).length
    · have h3 : (varsT (allT xa)).all (fun v => (firstP ps v).isSome) = false := by
        rw [Bool.eq_false_iff]
        exact fun h => h1 ⟨h2, fun v hv => List.all_eq_true.1 h v hv⟩
      rw [h3]; simp
    · rw [decide_eq_false h2]; simp
end Go.Proofs.YtiahaofjmcjdiaaDoor
