/- Plain law: drawing a set. No program in sight. -/
import Derived.Test.YtamkbboijblooaaPermM
namespace Go.Proofs.Ytamkbboijblooaa

/-- A number put into an ascending list. -/
def putL (l : List Nat) (x : Nat) : List Nat := l.takeWhile (· < x) ++ x :: l.dropWhile (· < x)
def Asc (l : List Nat) : Prop := l.Pairwise (· < ·)

theorem putL_length (l : List Nat) (x : Nat) : (putL l x).length = l.length + 1 := by
  have h := congrArg List.length (List.takeWhile_append_dropWhile (p := fun a => decide (a < x)) (l := l))
  simp only [List.length_append] at h
  simp only [putL, List.length_append, List.length_cons]; omega

theorem mem_putL {l : List Nat} {x y : Nat} : y ∈ putL l x ↔ y = x ∨ y ∈ l := by
  have h : y ∈ l ↔ y ∈ l.takeWhile (· < x) ++ l.dropWhile (· < x) := by rw [List.takeWhile_append_dropWhile]
  rw [h]
  simp only [putL, List.mem_append, List.mem_cons]
  constructor
  · rintro (h | h | h)
    · exact .inr (.inl h)
    · exact .inl h
    · exact .inr (.inr h)
  · rintro (h | h | h)
    · exact .inr (.inl h)
    · exact .inl h
    · exact .inr (.inr h)

theorem takeWhile_lt {l : List Nat} {x : Nat} : ∀ y ∈ l.takeWhile (· < x), y < x := by
  induction l with
  | nil => simp
  | cons a l ih =>
    by_cases ha : a < x
    · have h : decide (a < x) = true := by simpa using ha
      simp only [List.takeWhile_cons, h, if_true]
      intro y hy
      rcases List.mem_cons.1 hy with rfl | hy
      · exact ha
      · exact ih y hy
    · have h : decide (a < x) = false := by simpa using ha
      simp [h]

/-- The split at k, where all before are below x and none from k on. -/
theorem split_at {l : List Nat} {x k : Nat} (hk : k ≤ l.length) (h1 : ∀ i, i < k → l.getD i 0 < x) (h2 : ∀ i, k ≤ i → i < l.length → x ≤ l.getD i 0) :
    l.takeWhile (· < x) = l.take k ∧ l.dropWhile (· < x) = l.drop k := by
  induction l generalizing k with
  | nil => simp
  | cons a l ih =>
    cases k with
    | zero =>
      have := h2 0 (Nat.le_refl _) (by simp)
      simp only [List.getD_cons_zero] at this
      have hn : decide (a < x) = false := by simp; omega
      simp [hn]
    | succ k =>
      have ha := h1 0 (by omega)
      simp only [List.getD_cons_zero] at ha
      have hn : decide (a < x) = true := by simp; omega
      have := ih (k := k) (by simpa using hk) (fun i hi => by simpa using h1 (i + 1) (by omega)) (fun i hi hl => by simpa using h2 (i + 1) (by omega) (by simpa using hl))
      simp [hn, this]

theorem asc_dropWhile {l : List Nat} {x : Nat} (h : Asc l) : ∀ y ∈ l.dropWhile (· < x), x ≤ y := by
  induction l with
  | nil => simp
  | cons a l ih =>
    have hp := List.pairwise_cons.1 h
    by_cases ha : a < x
    · have : decide (a < x) = true := by simpa using ha
      simp only [List.dropWhile_cons, this, if_true]
      exact ih hp.2
    · have : decide (a < x) = false := by simpa using ha
      simp only [List.dropWhile_cons, this]
      intro y hy
      rcases List.mem_cons.1 hy with rfl | hy
      · omega
      · have := hp.1 y hy; omega

theorem asc_putL {l : List Nat} {x : Nat} (h : Asc l) (hx : x ∉ l) : Asc (putL l x) := by
  unfold putL Asc
  have hl : Asc (l.takeWhile (· < x) ++ l.dropWhile (· < x)) := by rw [List.takeWhile_append_dropWhile]; exact h
  obtain ⟨p1, p2, p3⟩ := List.pairwise_append.1 hl
  refine List.pairwise_append.2 ⟨p1, List.pairwise_cons.2 ⟨fun y hy => ?_, p2⟩, fun a ha b hb => ?_⟩
  · have h1 := asc_dropWhile h y hy
    have h2 : y ≠ x := fun e => hx (e ▸ (List.dropWhile_sublist _).subset hy)
    omega
  · rcases List.mem_cons.1 hb with rfl | hb
    · exact takeWhile_lt a ha
    · exact p3 a ha b hb

theorem putL_last {l : List Nat} {x : Nat} (h : ∀ y ∈ l, y < x) : putL l x = l ++ [x] := by
  obtain ⟨h1, h2⟩ := split_at (l := l) (x := x) (k := l.length) (Nat.le_refl _) (fun i hi => by simp only [List.getD, List.getElem?_eq_getElem hi, Option.getD_some]; exact h _ (List.getElem_mem hi)) (fun i h1 h2 => by omega)
  rw [putL, h1, h2, List.take_length, List.drop_length]

/-- What is put: the number drawn, or the last where it is there already. -/
def pick (l : List Nat) (r j : Nat) : Nat := if r ∈ l then j else r
theorem pick_new {l : List Nat} {r j : Nat} (h : ∀ y ∈ l, y < j) : pick l r j ∉ l := by
  unfold pick
  split
  · intro hm; have := h _ hm; omega
  · assumption
theorem pick_le {l : List Nat} {r j : Nat} (h : r < j + 1) : pick l r j < j + 1 := by unfold pick; split <;> omega

/-- m numbers more, the next from below j + 1 on. -/
def dist (b : Nat → Nat) (L : Nat) : Nat → Nat → List Nat → Nat → Option (List Nat × Nat)
  | 0, _, l, pos => some (l, pos)
  | m + 1, j, l, pos => match uni b L (j + 1) (blen j) (L + 1) pos with
    | none => none
    | some (r, p) => dist b L m (j + 1) (putL l (pick l r j)) p
theorem dist_none {b : Nat → Nat} {L m j pos : Nat} {l : List Nat} (h : uni b L (j + 1) (blen j) (L + 1) pos = none) : dist b L (m + 1) j l pos = none := by simp [dist, h]
theorem dist_some {b : Nat → Nat} {L m j pos r p : Nat} {l : List Nat} (h : uni b L (j + 1) (blen j) (L + 1) pos = some (r, p)) : dist b L (m + 1) j l pos = dist b L m (j + 1) (putL l (pick l r j)) p := by simp [dist, h]
/-- What holds of the set while it is drawn. -/
structure SetOk (l : List Nat) (j c : Nat) : Prop where
  asc : Asc l
  lt : ∀ y ∈ l, y < j
  len : l.length = c
theorem SetOk.put {l : List Nat} {j c r : Nat} (h : SetOk l j c) (hr : r < j + 1) : SetOk (putL l (pick l r j)) (j + 1) (c + 1) :=
  ⟨asc_putL h.asc (pick_new h.lt), fun y hy => by
    rcases mem_putL.1 hy with rfl | hy
    · exact pick_le hr
    · have := h.lt y hy; omega, by rw [putL_length, h.len]⟩
theorem asc_get {l : List Nat} (h : Asc l) {i j : Nat} (hij : i < j) (hj : j < l.length) : l.getD i 0 < l.getD j 0 := by
  have := List.pairwise_iff_getElem.1 h i j (by omega) hj hij
  simpa [List.getD, hj, show i < l.length by omega] using this
end Go.Proofs.Ytamkbboijblooaa
