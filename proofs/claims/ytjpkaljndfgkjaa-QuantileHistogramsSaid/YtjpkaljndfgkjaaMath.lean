/- Plain arithmetic of natural numbers written in base 2^32, least digit first. No program in sight. -/
namespace Go.Proofs.Ytjpkaljndfgkjaa

/-- The base. -/
abbrev B32 : Nat := 4294967296

/-- The number that digits denote. -/
def val : List Nat → Nat
  | [] => 0
  | d :: ds => d + 4294967296 * val ds

/-- All digits are below the base. -/
def Low (ds : List Nat) : Prop := ∀ d ∈ ds, d < 4294967296

theorem Low.nil : Low [] := fun _ h => by simp at h
theorem Low.get {ds : List Nat} (h : Low ds) {i : Nat} (hi : i < ds.length) : ds[i] < 4294967296 := h _ (List.getElem_mem hi)
theorem Low.getD {ds : List Nat} (h : Low ds) (i : Nat) : ds.getD i 0 < 4294967296 := by
  by_cases hi : i < ds.length
  · simp [List.getD, hi]; exact h.get hi
  · simp [List.getD, hi]
theorem Low.take {ds : List Nat} (h : Low ds) (k : Nat) : Low (ds.take k) := fun d hd => h d (List.mem_of_mem_take hd)
theorem Low.drop {ds : List Nat} (h : Low ds) (k : Nat) : Low (ds.drop k) := fun d hd => h d (List.mem_of_mem_drop hd)
theorem Low.append {a b : List Nat} (ha : Low a) (hb : Low b) : Low (a ++ b) := fun d hd => by
  rcases List.mem_append.1 hd with h | h
  · exact ha d h
  · exact hb d h
theorem Low.cons {d : Nat} {ds : List Nat} (hd : d < 4294967296) (h : Low ds) : Low (d :: ds) := fun x hx => by
  rcases List.mem_cons.1 hx with rfl | hx
  · exact hd
  · exact h x hx

theorem val_append (a b : List Nat) : val (a ++ b) = val a + 4294967296 ^ a.length * val b := by
  induction a with
  | nil => simp [val]
  | cons d ds ih =>
    simp only [List.cons_append, val, ih, List.length_cons, Nat.pow_succ]
    rw [Nat.mul_add, ← Nat.mul_assoc, Nat.mul_comm 4294967296 (4294967296 ^ ds.length)]; omega

theorem val_lt {ds : List Nat} (h : Low ds) : val ds < 4294967296 ^ ds.length := by
  induction ds with
  | nil => simp [val]
  | cons d ds ih =>
    have h1 := ih (fun x hx => h x (List.mem_cons_of_mem _ hx))
    have h2 : d < 4294967296 := h d (by simp)
    simp only [val, List.length_cons, Nat.pow_succ]
    have : 4294967296 * val ds + 4294967296 ≤ 4294967296 * 4294967296 ^ ds.length := by
      have := Nat.mul_le_mul_left 4294967296 (Nat.succ_le_of_lt h1)
      simpa [Nat.mul_succ] using this
    rw [Nat.mul_comm (4294967296 ^ ds.length)]
    omega

theorem val_replicate (n : Nat) : val (List.replicate n 0) = 0 := by
  induction n with
  | zero => rfl
  | succ n ih => simp [List.replicate_succ, val, ih]

theorem val_snoc (ds : List Nat) (d : Nat) : val (ds ++ [d]) = val ds + 4294967296 ^ ds.length * d := by
  simp [val_append, val]

theorem val_take_succ (ds : List Nat) (k : Nat) (h : k < ds.length) : val (ds.take (k + 1)) = val (ds.take k) + 4294967296 ^ k * ds[k] := by
  rw [List.take_succ_eq_append_getElem h, val_snoc, List.length_take, Nat.min_eq_left (Nat.le_of_lt h)]

theorem val_split (ds : List Nat) (k : Nat) : val ds = val (ds.take k) + 4294967296 ^ (min k ds.length) * val (ds.drop k) := by
  conv => lhs; rw [← List.take_append_drop k ds]
  rw [val_append, List.length_take]

/-- How many of the first n digits are left when zeros are cut off at the upper end. -/
def tlen (ds : List Nat) : Nat → Nat
  | 0 => 0
  | n + 1 => if ds.getD n 0 = 0 then tlen ds n else n + 1

theorem tlen_pos (ds : List Nat) (k : Nat) (h : 0 < k) : tlen ds k = if ds.getD (k - 1) 0 = 0 then tlen ds (k - 1) else k := by
  cases k with
  | zero => omega
  | succ n => simp [tlen]

theorem tlen_le (ds : List Nat) (k : Nat) : tlen ds k ≤ k := by
  induction k with
  | zero => simp [tlen]
  | succ n ih => simp only [tlen]; split <;> omega

theorem val_take_tlen (ds : List Nat) : ∀ k, k ≤ ds.length → val (ds.take (tlen ds k)) = val (ds.take k)
  | 0, _ => rfl
  | k + 1, h => by
    have hk : k < ds.length := h
    simp only [tlen]
    split
    · rename_i hz
      rw [val_take_tlen ds k (by omega), val_take_succ ds k hk]
      have : ds[k] = 0 := by simpa [List.getD, hk] using hz
      simp [this]
    · rfl

/-- The digits without zeros at the upper end. -/
def tr (ds : List Nat) : List Nat := ds.take (tlen ds ds.length)

/-- No zero at the upper end. -/
def Top (ds : List Nat) : Prop := ∀ d, ds.getLast? = some d → d ≠ 0

theorem val_tr (ds : List Nat) : val (tr ds) = val ds := by
  unfold tr; rw [val_take_tlen ds _ (Nat.le_refl _), List.take_length]

theorem Low.tr {ds : List Nat} (h : Low ds) : Low (tr ds) := h.take _

theorem length_tr (ds : List Nat) : (tr ds).length = tlen ds ds.length := by
  unfold tr; rw [List.length_take]; exact Nat.min_eq_left (tlen_le _ _)

theorem length_tr_le (ds : List Nat) : (tr ds).length ≤ ds.length := by rw [length_tr]; exact tlen_le _ _

theorem tlen_last (ds : List Nat) : ∀ k, k ≤ ds.length → 0 < tlen ds k → ds.getD (tlen ds k - 1) 0 ≠ 0
  | 0, _, h => by simp [tlen] at h
  | k + 1, hk, h => by
    simp only [tlen] at h ⊢
    split
    · rename_i hz; rw [if_pos hz] at h; exact tlen_last ds k (by omega) h
    · rename_i hz; simpa using hz

theorem top_tr (ds : List Nat) : Top (tr ds) := by
  intro d hd
  by_cases h0 : tlen ds ds.length = 0
  · unfold tr at hd; rw [h0] at hd; simp at hd
  · have h1 := tlen_last ds ds.length (Nat.le_refl _) (by omega)
    have hl := tlen_le ds ds.length
    unfold tr at hd
    rw [List.getLast?_eq_getElem?, List.length_take, Nat.min_eq_left hl, List.getElem?_take, if_pos (by omega)] at hd
    intro e; subst e
    rw [List.getD, hd] at h1; simp at h1

theorem Top.nil : Top [] := fun d h => by simp at h

/-- Digits without a zero at the upper end: at least the power below. -/
theorem val_ge_of_top {ds : List Nat} (h : Top ds) (hn : 0 < ds.length) : 4294967296 ^ (ds.length - 1) ≤ val ds := by
  have hne : ds ≠ [] := fun e => by simp [e] at hn
  obtain ⟨l, d, rfl⟩ : ∃ l d, ds = l ++ [d] := ⟨ds.dropLast, ds.getLast hne, (List.dropLast_concat_getLast hne).symm⟩
  have hd : d ≠ 0 := h d (by simp)
  rw [val_snoc]
  simp only [List.length_append, List.length_cons, List.length_nil, Nat.zero_add, Nat.add_sub_cancel]
  have : 4294967296 ^ l.length * 1 ≤ 4294967296 ^ l.length * d := Nat.mul_le_mul_left _ (by omega)
  omega

theorem val_eq_zero_of_top {ds : List Nat} (h : Top ds) : val ds = 0 ↔ ds = [] := by
  constructor
  · intro hv
    by_cases hn : ds = []
    · exact hn
    · have hl : 0 < ds.length := by
        cases ds with
        | nil => exact absurd rfl hn
        | cons _ _ => simp
      have := val_ge_of_top h hl
      have hp : 0 < 4294967296 ^ (ds.length - 1) := Nat.pow_pos (by omega)
      omega
  · rintro rfl; rfl

/-- More digits: a greater number. -/
theorem val_lt_of_len {a b : List Nat} (ha : Low a) (hb : Top b) (h : a.length < b.length) : val a < val b := by
  have h1 := val_lt ha
  have h2 := val_ge_of_top hb (by omega)
  have h3 : 4294967296 ^ a.length ≤ 4294967296 ^ (b.length - 1) := Nat.pow_le_pow_right (by omega) (by omega)
  omega

/-- Two lists of one length whose digits agree above place i. -/
theorem val_lt_of_digit {a b : List Nat} (ha : Low a) {i : Nat} (hia : i < a.length) (hib : i < b.length) (he : a.drop (i + 1) = b.drop (i + 1)) (hd : a[i] < b[i]) : val a < val b := by
  have h1 := val_split a (i + 1)
  have h2 := val_split b (i + 1)
  rw [Nat.min_eq_left (by omega)] at h1 h2
  rw [val_take_succ a i hia] at h1
  rw [val_take_succ b i hib] at h2
  rw [he] at h1
  have h3 : val (a.take i) < 4294967296 ^ i := by
    have := val_lt (ha.take i); rwa [List.length_take, Nat.min_eq_left (by omega)] at this
  have h4 : 4294967296 ^ i * a[i] + 4294967296 ^ i ≤ 4294967296 ^ i * b[i] := by
    have := Nat.mul_le_mul_left (4294967296 ^ i) (Nat.succ_le_of_lt hd); simpa [Nat.mul_succ] using this
  omega

/-- The three answers of a comparison. -/
def cmpI (a b : Nat) : Int := if a < b then -1 else if b < a then 1 else 0

/-- The same of integers. -/
def cmpZ (a b : Int) : Int := if a < b then -1 else if b < a then 1 else 0
theorem cmpZ_cast (a b : Nat) : cmpZ (a : Int) (b : Int) = cmpI a b := by
  unfold cmpZ cmpI; split <;> split <;> (try split) <;> (try split) <;> first | rfl | omega
theorem cmpZ_lt {a b : Int} (h : a < b) : cmpZ a b = -1 := by simp [cmpZ, h]
theorem cmpZ_gt {a b : Int} (h : b < a) : cmpZ a b = 1 := by
  have : ¬ a < b := by omega
  simp [cmpZ, h, this]
theorem cmpZ_eq {a b : Int} (h : a = b) : cmpZ a b = 0 := by subst h; simp [cmpZ]

theorem cmpI_lt {a b : Nat} (h : a < b) : cmpI a b = -1 := by simp [cmpI, h]
theorem cmpI_gt {a b : Nat} (h : b < a) : cmpI a b = 1 := by
  have : ¬ a < b := by omega
  simp [cmpI, h, this]
theorem cmpI_eq {a b : Nat} (h : a = b) : cmpI a b = 0 := by subst h; simp [cmpI]
theorem cmpI_zero {a b : Nat} : cmpI a b = 0 ↔ a = b := by unfold cmpI; split <;> (try split) <;> constructor <;> intro h <;> omega
theorem cmpI_neg {a b : Nat} : cmpI a b < 0 ↔ a < b := by unfold cmpI; split <;> (try split) <;> constructor <;> intro h <;> omega
theorem cmpI_pos {a b : Nat} : 0 < cmpI a b ↔ b < a := by unfold cmpI; split <;> (try split) <;> constructor <;> intro h <;> omega
theorem cmpI_range (a b : Nat) : -1 ≤ cmpI a b ∧ cmpI a b ≤ 1 := by unfold cmpI; split <;> (try split) <;> omega

/-- One number has one list of digits without zeros at the upper end. -/
theorem dig_unique : ∀ {a b : List Nat}, Low a → Low b → Top a → Top b → val a = val b → a = b
  | [], b, _, _, _, hb, h => by
    have : val b = 0 := h.symm
    exact ((val_eq_zero_of_top hb).1 this).symm
  | x :: a, [], _, _, ha, _, h => by
    have : val (x :: a) = 0 := h
    exact (val_eq_zero_of_top ha).1 this
  | x :: a, y :: b, la, lb, ha, hb, h => by
    have hx : x < 4294967296 := la x (by simp)
    have hy : y < 4294967296 := lb y (by simp)
    simp only [val] at h
    have hxy : x = y := by omega
    have hv : val a = val b := by omega
    have hta : Top a := fun d hd => by
      cases a with
      | nil => simp at hd
      | cons z a => exact ha d (by simpa using hd)
    have htb : Top b := fun d hd => by
      cases b with
      | nil => simp at hd
      | cons z b => exact hb d (by simpa using hd)
    rw [hxy, dig_unique (fun d hd => la d (List.mem_cons_of_mem _ hd)) (fun d hd => lb d (List.mem_cons_of_mem _ hd)) hta htb hv]

/-- The digits of a number, with fuel. -/
def digF : Nat → Nat → List Nat
  | 0, _ => []
  | f + 1, n => if n = 0 then [] else n % 4294967296 :: digF f (n / 4294967296)

/-- The digits of a number without zeros at the upper end. -/
def dig (n : Nat) : List Nat := digF n n

theorem digF_props : ∀ f n, n ≤ f → Low (digF f n) ∧ Top (digF f n) ∧ val (digF f n) = n
  | 0, n, h => by
    obtain rfl : n = 0 := by omega
    exact ⟨Low.nil, Top.nil, rfl⟩
  | f + 1, n, h => by
    by_cases hn : n = 0
    · subst hn; exact ⟨by simpa [digF] using Low.nil, by simpa [digF] using Top.nil, rfl⟩
    · have hq : n / 4294967296 ≤ f := by omega
      obtain ⟨h1, h2, h3⟩ := digF_props f (n / 4294967296) hq
      simp only [digF, if_neg hn]
      refine ⟨Low.cons (Nat.mod_lt _ (by omega)) h1, fun d hd => ?_, by simp only [val, h3]; omega⟩
      by_cases hz : digF f (n / 4294967296) = []
      · rw [hz] at hd h3
        have hzero : n / 4294967296 = 0 := h3.symm
        have hdd : d = n % 4294967296 := by simpa using hd.symm
        omega
      · obtain ⟨x, l, hl⟩ := List.exists_cons_of_ne_nil hz
        rw [hl] at hd h2
        exact h2 d (by simpa using hd)

theorem low_dig (n : Nat) : Low (dig n) := (digF_props n n (Nat.le_refl _)).1
theorem top_dig (n : Nat) : Top (dig n) := (digF_props n n (Nat.le_refl _)).2.1
theorem val_dig (n : Nat) : val (dig n) = n := (digF_props n n (Nat.le_refl _)).2.2
theorem eq_dig {ds : List Nat} (h1 : Low ds) (h2 : Top ds) : ds = dig (val ds) := dig_unique h1 (low_dig _) h2 (top_dig _) (val_dig _).symm
theorem tr_eq_dig {ds : List Nat} (h : Low ds) : tr ds = dig (val ds) := by
  have := eq_dig h.tr (top_tr ds); rwa [val_tr] at this
theorem dig_zero : dig 0 = [] := rfl
theorem dig_eq_nil {n : Nat} : dig n = [] ↔ n = 0 := by
  constructor
  · intro h; have := val_dig n; rw [h] at this; exact this.symm
  · rintro rfl; rfl
theorem dig_len_le {n k : Nat} (h : n < 4294967296 ^ k) : (dig n).length ≤ k := by
  by_cases h0 : (dig n).length = 0
  · omega
  · have h1 := val_ge_of_top (top_dig n) (by omega)
    rw [val_dig] at h1
    rcases Nat.lt_or_ge k (dig n).length with h2 | h2
    · have : 4294967296 ^ k ≤ 4294967296 ^ ((dig n).length - 1) := Nat.pow_le_pow_right (by omega) (by omega)
      omega
    · exact h2
theorem lt_of_dig_len {n k : Nat} (h : (dig n).length ≤ k) : n < 4294967296 ^ k := by
  have h1 := val_lt (low_dig n)
  rw [val_dig] at h1
  have : 4294967296 ^ (dig n).length ≤ 4294967296 ^ k := Nat.pow_le_pow_right (by omega) h
  omega
theorem dig_len_mono {a b : Nat} (h : a ≤ b) : (dig a).length ≤ (dig b).length :=
  dig_len_le (Nat.lt_of_le_of_lt h (lt_of_dig_len (Nat.le_refl _)))
theorem dig_pos {n : Nat} : 0 < (dig n).length ↔ 0 < n := by
  constructor
  · intro h
    rcases Nat.eq_zero_or_pos n with e | e
    · subst e; simp [dig_zero] at h
    · exact e
  · intro h
    rcases Nat.eq_zero_or_pos (dig n).length with e | e
    · have := dig_eq_nil.1 (List.eq_nil_of_length_eq_zero e); omega
    · exact e
theorem dig_len_lt {a b : Nat} (h : (dig a).length < (dig b).length) : a < b := by
  rcases Nat.lt_or_ge a b with h1 | h1
  · exact h1
  · have := dig_len_mono h1; omega

end Go.Proofs.Ytjpkaljndfgkjaa
