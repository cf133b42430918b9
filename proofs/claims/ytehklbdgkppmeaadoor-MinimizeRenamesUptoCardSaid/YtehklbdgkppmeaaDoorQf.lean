/- Plain law: the rules that remain. -/
import Derived.Test.YtehklbdgkppmeaaDoorQe
namespace Go.Proofs.YtehklbdgkppmeaaDoor
open Go.RowKit Go.Maps

/-- Rule j drops rule i. -/
def overB (R : Nat → Nat → Bool) (j i : Nat) : Bool := decide (j ≠ i) && (R j i && (decide (j < i) || !R i j))
def dropB (R : Nat → Nat → Bool) (n i : Nat) : Bool := (List.range n).any (fun j => overB R j i)
def keptL (R : Nat → Nat → Bool) (n : Nat) : List Nat := (List.range n).filter (fun i => !dropB R n i)
theorem over_iff {R : Nat → Nat → Bool} {j i : Nat} : overB R j i = true ↔ j ≠ i ∧ R j i = true ∧ (j < i ∨ R i j = false) := by simp [overB]
structure TrOn (R : Nat → Nat → Bool) (n : Nat) : Prop where
  rfl' : ∀ i, i < n → R i i = true
  tr : ∀ i j k, i < n → j < n → k < n → R i j = true → R j k = true → R i k = true
theorem over_trans {R : Nat → Nat → Bool} {n : Nat} (h : TrOn R n) {a b c : Nat} (ha : a < n) (hb : b < n) (hc : c < n) (h1 : overB R a b = true) (h2 : overB R b c = true) : overB R a c = true := by
  obtain ⟨n1, r1, s1⟩ := over_iff.1 h1
  obtain ⟨n2, r2, s2⟩ := over_iff.1 h2
  have rac := h.tr a b c ha hb hc r1 r2
  have key : R c a = true → a < b ∧ b < c := fun hca => by
    have hba := h.tr b c a hb hc ha r2 hca
    have hcb := h.tr c a b hc ha hb hca r1
    rw [hba] at s1
    rw [hcb] at s2
    simp at s1 s2
    exact ⟨s1, s2⟩
  refine over_iff.2 ⟨fun e => ?_, rac, ?_⟩
  · subst e
    have := key rac
    omega
  · cases hca : R c a with
    | false => exact .inr rfl
    | true => have := key hca; exact .inl (by omega)
theorem kept_mem {R : Nat → Nat → Bool} {n i : Nat} : i ∈ keptL R n ↔ i < n ∧ ∀ j, j < n → overB R j i = false := by
  unfold keptL dropB
  rw [List.mem_filter, List.mem_range, Bool.not_eq_true', List.any_eq_false]
  simp
theorem filter_less {p q : Nat → Bool} : ∀ {l : List Nat}, (∀ x ∈ l, p x = true → q x = true) → (∃ x ∈ l, q x = true ∧ p x = false) → (l.filter p).length < (l.filter q).length
  | [], _, ⟨x, h, _⟩ => by simp at h
  | y :: l, h, ⟨x, hx, h1, h2⟩ => by
    have hle : ∀ {l : List Nat}, (∀ x ∈ l, p x = true → q x = true) → (l.filter p).length ≤ (l.filter q).length := by
      intro l
      induction l with
      | nil => intro _; simp
      | cons z l ih =>
        intro hh
        have := ih (fun x hx => hh x (by simp [hx]))
        rw [List.filter_cons, List.filter_cons]
        by_cases hp : p z = true
        · rw [if_pos hp, if_pos (hh z (by simp) hp)]; simp; omega
        · rw [if_neg hp]
          split <;> simp <;> omega
    rw [List.filter_cons, List.filter_cons]
    rcases List.mem_cons.1 hx with rfl | hx
    · rw [if_neg (by simp [h2]), if_pos h1]
      have := hle (l := l) (fun z hz => h z (by simp [hz]))
      simp; omega
    · have := filter_less (l := l) (fun z hz => h z (by simp [hz])) ⟨x, hx, h1, h2⟩
      by_cases hp : p y = true
      · rw [if_pos hp, if_pos (h y (by simp) hp)]; simp; omega
      · rw [if_neg hp]
        split <;> simp <;> omega
/-- Every rule is below one that remains. -/
theorem kept_dom {R : Nat → Nat → Bool} {n : Nat} (h : TrOn R n) : ∀ (m i : Nat), i < n → ((List.range n).filter (fun j => overB R j i)).length ≤ m → ∃ k ∈ keptL R n, R k i = true
  | m, i, hi, hm => by
    by_cases hk : ∃ j, j < n ∧ overB R j i = true
    · obtain ⟨j, hj, ho⟩ := hk
      have hl : ((List.range n).filter (fun x => overB R x j)).length < ((List.range n).filter (fun x => overB R x i)).length := by
        refine filter_less (fun x hx hxj => over_trans h (List.mem_range.1 hx) hj hi hxj ho) ⟨j, List.mem_range.2 hj, ho, ?_⟩
        simp [overB]
      cases m with
      | zero => omega
      | succ m =>
        obtain ⟨k, hk, hr⟩ := kept_dom h m j hj (by omega)
        exact ⟨k, hk, h.tr k j i (kept_mem.1 hk).1 hj hi hr (over_iff.1 ho).2.1⟩
    · refine ⟨i, kept_mem.2 ⟨hi, fun j hj => ?_⟩, h.rfl' i hi⟩
      cases ho : overB R j i with
      | false => rfl
      | true => exact absurd ⟨j, hj, ho⟩ hk
theorem kept_sorted (R : Nat → Nat → Bool) (n : Nat) : (keptL R n).Pairwise (· < ·) := List.Pairwise.filter _ List.pairwise_lt_range
/-- What remains, remains. -/
theorem kept_again {R : Nat → Nat → Bool} {n : Nat} {S : Nat → Nat → Bool} (hS : ∀ p q (hp : p < (keptL R n).length) (hq : q < (keptL R n).length), S p q = R (keptL R n)[p] (keptL R n)[q]) : keptL S (keptL R n).length = List.range (keptL R n).length := by
  obtain ⟨K, hK⟩ : ∃ K, K = keptL R n := ⟨_, rfl⟩
  have hs := kept_sorted R n
  have hmem : ∀ k ∈ K, k < n ∧ ∀ j, j < n → overB R j k = false := fun k hk => kept_mem.1 (hK ▸ hk)
  rw [← hK] at hS hs ⊢
  refine List.filter_eq_self.2 (fun p hp => ?_)
  have hp := List.mem_range.1 hp
  rw [Bool.not_eq_true']
  unfold dropB
  rw [List.any_eq_false]
  intro q hq ho
  have hq := List.mem_range.1 hq
  obtain ⟨h1, h2, h3⟩ := over_iff.1 ho
  have hlt : ∀ {a b : Nat} (ha : a < K.length) (hb : b < K.length), a < b → K[a] < K[b] := fun ha hb hab => List.pairwise_iff_getElem.1 hs _ _ ha hb hab
  rw [hS q p hq hp] at h2
  rw [hS p q hp hq] at h3
  have hf := (hmem K[p] (List.getElem_mem hp)).2 K[q] (hmem K[q] (List.getElem_mem hq)).1
  have ht : overB R K[q] K[p] = true := by
    refine over_iff.2 ⟨fun e => ?_, h2, ?_⟩
    · rcases Nat.lt_or_gt_of_ne h1 with h | h
      · have := hlt hq hp h; omega
      · have := hlt hp hq h; omega
    · rcases h3 with h3 | h3
      · exact .inl (hlt hq hp h3)
      · exact .inr h3
  rw [ht] at hf
  cases hf
end Go.Proofs.YtehklbdgkppmeaaDoor
