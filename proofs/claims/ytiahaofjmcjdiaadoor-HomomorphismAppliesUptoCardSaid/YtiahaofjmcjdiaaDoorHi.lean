/- Plain: the key of an atom tells the atom. -/
import Derived.Test.YtiahaofjmcjdiaaDoorHn
namespace Go.Proofs.YtiahaofjmcjdiaaDoor
open Go.RowKit

theorem split_at {α : Type} {c : α} : ∀ {l1 l2 x y : List α}, c ∉ l1 → c ∉ l2 → l1 ++ c :: x = l2 ++ c :: y → l1 = l2 ∧ x = y
  | [], [], _, _, _, _, h => by simp at h; exact ⟨rfl, h⟩
  | [], b :: l2, _, _, _, h2, h => by simp at h; simp [h.1] at h2
  | a :: l1, [], _, _, h1, _, h => by simp at h; simp [h.1] at h1
  | a :: l1, b :: l2, x, y, h1, h2, h => by
    simp only [List.cons_append, List.cons.injEq] at h
    simp only [List.mem_cons, not_or] at h1 h2
    obtain ⟨e, h3⟩ := split_at h1.2 h2.2 h.2
    exact ⟨by rw [h.1, e], h3⟩
def digVal (l : List UInt8) : Nat := l.foldl (fun a d => 10 * a + (d.toNat - 48)) 0
theorem digVal_dec (u : Nat) : digVal (Lib.decDigits u) = u := by
  induction u using Nat.strongRecOn with
  | _ u ih =>
    by_cases h : u < 10
    · rw [Lib.decDigits, dif_pos h]
      simp only [digVal, List.foldl_cons, List.foldl_nil, UInt8.toNat_ofNat']
      omega
    · rw [Lib.decDigits, dif_neg h]
      have h1 := ih (u / 10) (by omega)
      unfold digVal at h1 ⊢
      rw [List.foldl_append, h1]
      simp only [List.foldl_cons, List.foldl_nil, UInt8.toNat_ofNat']
      omega
theorem dec_inj {a b : Nat} (h : Lib.decDigits a = Lib.decDigits b) : a = b := by rw [← digVal_dec a, h, digVal_dec]
theorem dec_mem (u : Nat) : ∀ d ∈ Lib.decDigits u, 48 ≤ d.toNat ∧ d.toNat ≤ 57 := by
  induction u using Nat.strongRecOn with
  | _ u ih =>
    intro d hd
    by_cases h : u < 10
    · rw [Lib.decDigits, dif_pos h] at hd
      rw [List.mem_singleton.1 hd]
      simp only [UInt8.toNat_ofNat']
      omega
    · rw [Lib.decDigits, dif_neg h] at hd
      rcases List.mem_append.1 hd with hd | hd
      · exact ih (u / 10) (by omega) d hd
      · rw [List.mem_singleton.1 hd]
        simp only [UInt8.toNat_ofNat']
        omega
theorem itoa_mem (n : Int) : ∀ d ∈ Lib.itoa n, d.toNat = 45 ∨ (48 ≤ d.toNat ∧ d.toNat ≤ 57) := by
  intro d hd
  unfold Lib.itoa at hd
  split at hd
  · rcases List.mem_cons.1 hd with hd | hd
    · exact .inl (by rw [hd]; rfl)
    · exact .inr (dec_mem _ d hd)
  · exact .inr (dec_mem _ d hd)
theorem itoa_no {n : Int} {c : UInt8} (h : c.toNat ≠ 45) (h2 : 57 < c.toNat ∨ c.toNat < 48) : c ∉ Lib.itoa n := fun hc => by
  rcases itoa_mem n c hc with e | e <;> omega
theorem itoa_inj {a b : Int} (h : Lib.itoa a = Lib.itoa b) : a = b := by
  have hd : ∀ (u : Nat) (l : List UInt8), 45 :: l ≠ Lib.decDigits u := fun u l e => by
    have := dec_mem u 45 (by rw [← e]; simp)
    have h45 : (45 : UInt8).toNat = 45 := rfl
    omega
  unfold Lib.itoa at h
  split at h <;> split at h
  · injection h with _ h
    have := dec_inj h; omega
  · exact absurd h (hd _ _)
  · exact absurd h.symm (hd _ _)
  · have := dec_inj h; omega
theorem itoa_split {a b : Int} {c : UInt8} {x y : List UInt8} (h1 : c.toNat ≠ 45) (h2 : 57 < c.toNat ∨ c.toNat < 48) (h : Lib.itoa a ++ c :: x = Lib.itoa b ++ c :: y) : a = b ∧ x = y := by
  obtain ⟨e, h3⟩ := split_at (itoa_no h1 h2) (itoa_no h1 h2) h
  exact ⟨itoa_inj e, h3⟩
theorem data_len' (s : ByteArray) : s.data.toList.length = s.size := by rw [Array.length_toList]; rfl
theorem textB_inj {s s' : ByteArray} {x y : List UInt8} (h : textB s ++ x = textB s' ++ y) : s = s' ∧ x = y := by
  unfold textB at h
  simp only [List.append_assoc, List.cons_append, List.nil_append] at h
  obtain ⟨e, h2⟩ := itoa_split (c := 58) (by decide) (by decide) h
  have e : s.size = s'.size := by omega
  obtain ⟨h3, h4⟩ := List.append_inj h2 (by rw [data_len', data_len', e])
  refine ⟨?_, h4⟩
  cases s; cases s'
  simp only at h3
  congr 1
  exact Array.toList_inj.1 h3
theorem termB_inj {t t' : Tm} {x y : List UInt8} (h : termB t ++ x = termB t' ++ y) : t = t' ∧ x = y := by
  unfold termB at h
  simp only [List.append_assoc, List.cons_append, List.nil_append] at h
  obtain ⟨e1, h⟩ := textB_inj h
  obtain ⟨e2, h⟩ := textB_inj h
  obtain ⟨e3, h⟩ := itoa_split (c := 44) (by decide) (by decide) h
  obtain ⟨e4, h9⟩ := itoa_split (c := 59) (by decide) (by decide) h
  cases t; cases t'
  simp only at e1 e2 e3 e4
  subst e1 e2 e3 e4
  exact ⟨rfl, h9⟩
theorem termB_pos (t : Tm) (x : List UInt8) : termB t ++ x ≠ [] := by
  unfold termB
  intro h
  simp at h
theorem terms_inj : ∀ {l m : List Tm}, l.flatMap termB = m.flatMap termB → l = m
  | [], [], _ => rfl
  | [], t :: m, h => by rw [List.flatMap_cons] at h; exact absurd h.symm (termB_pos _ _)
  | t :: l, [], h => by rw [List.flatMap_cons] at h; exact absurd h (termB_pos _ _)
  | t :: l, u :: m, h => by
    rw [List.flatMap_cons, List.flatMap_cons] at h
    obtain ⟨e, h⟩ := termB_inj h
    rw [e, terms_inj h]
theorem keyB_inj {n n' : Bool} {r r' : ByteArray} {l l' : List Tm} (h : keyB n r l = keyB n' r' l') : n = n' ∧ r = r' ∧ l = l' := by
  unfold keyB at h
  simp only [List.append_assoc] at h
  have hn : n = n' := by
    cases n <;> cases n' <;> first | rfl | (simp [boolT] at h)
  subst hn
  have h := List.append_cancel_left h
  obtain ⟨e, h⟩ := textB_inj h
  exact ⟨rfl, e, terms_inj h⟩
theorem keyS_inj {a b : At} (h : a.keyS = b.keyS) : a = b := by
  unfold At.keyS keyS at h
  injection h with h
  have h : keyB a.neg a.rel a.terms = keyB b.neg b.rel b.terms := by have := congrArg Array.toList h; simpa using this
  obtain ⟨e1, e2, e3⟩ := keyB_inj h
  cases a; cases b
  simp only at e1 e2 e3
  subst e1 e2 e3
  rfl
end Go.Proofs.YtiahaofjmcjdiaaDoor
