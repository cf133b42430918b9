/- Words: ints, atoms, rules in memory; the reference's atoms. Plain: a table of terms that grows. -/
import Derived.Test.YtiahaofjmcjdiaaDoorHof
namespace Go.Proofs.YtiahaofjmcjdiaaDoor
open Go.RowKit

abbrev I64 (n : Int) : Value := .int .i64 n
/-- A slice of ints. -/
def Ins (F : Nat → Prop) (w : World) (v : Value) (zs : List Int) : Prop := ∃ A c, v = .slice A zs.length c ∧ zs.length ≤ c ∧ Cl F w A (zs.map I64)
theorem Ins.ext {F : Nat → Prop} {w w' : World} {v : Value} {zs : List Int} (h : Ins F w v zs) (he : Ext w w') : Ins F w' v zs := let ⟨A, c, h1, h2, h3⟩ := h; ⟨A, c, h1, h2, h3.ext he⟩
theorem Ins.fr {S F : Nat → Prop} {w w' : World} {v : Value} {zs : List Int} (h : Ins F w v zs) (hf : Fr S w w') (hs : ∀ k, F k → ¬ S k) : Ins F w' v zs := let ⟨A, c, h1, h2, h3⟩ := h; ⟨A, c, h1, h2, h3.fr hf hs⟩
theorem Ins.mono {F G : Nat → Prop} {w : World} {v : Value} {zs : List Int} (h : Ins F w v zs) (hs : ∀ k, k < w.heap.size → F k → G k) : Ins G w v zs := let ⟨A, c, h1, h2, h3⟩ := h; ⟨A, c, h1, h2, h3.mono hs⟩
theorem Ins.of_own {w : World} {base n : Nat} {e : TypeId} {v : Value} {zs : List Int} (h : w.ownsRow base e 1 v n (zs.map I64)) : Ins (fun k => v.ownBlock = some k ∧ base ≤ k) w v zs := by
  have hn : n = zs.length := by have := h.1; simp at this; omega
  subst hn
  obtain ⟨A, c, h1, h2, h3⟩ := Cl.of_own h
  exact ⟨A, c, h1, h2, h3⟩
theorem Cl.int {F : Nat → Prop} {w : World} {A : Option Addr} {zs : List Int} (h : Cl F w A (zs.map I64)) {i : Nat} (hi : i < zs.length) : ∃ ad, A = some ad ∧ F ad.block ∧ w.cell? (ad.add i) = some (.int .i64 zs[i]) :=
  h.at' (by simp [hi])

/-- An atom. -/
structure At where
  neg : Bool
  rel : ByteArray
  terms : List Tm
def acells : List At → List Value → List Value
  | a :: xs, v :: vs => .bool a.neg :: .string a.rel :: v :: acells xs vs
  | _, _ => []
theorem acells_get : ∀ {xs : List At} {vs : List Value} {i : Nat} (hi : i < xs.length) (hv : i < vs.length), (acells xs vs)[i * 3]? = some (.bool xs[i].neg) ∧ (acells xs vs)[i * 3 + 1]? = some (.string xs[i].rel) ∧ (acells xs vs)[i * 3 + 2]? = some vs[i]
  | a :: xs, v :: vs, 0, _, _ => ⟨rfl, rfl, rfl⟩
  | a :: xs, v :: vs, i + 1, hi, hv => by
    obtain ⟨h1, h2, h3⟩ := acells_get (xs := xs) (vs := vs) (i := i) (by simpa using hi) (by simpa using hv)
    rw [show (i + 1) * 3 = i * 3 + 1 + 1 + 1 by omega]
    exact ⟨h1, h2, h3⟩
/-- A slice of atoms. -/
def Ats (F : Nat → Prop) (w : World) (v : Value) (xs : List At) : Prop :=
  ∃ A c vs, v = .slice A xs.length c ∧ xs.length ≤ c ∧ vs.length = xs.length ∧ Cl F w A (acells xs vs) ∧ ∀ i (h : i < xs.length) (h' : i < vs.length), Ts F w vs[i] xs[i].terms
theorem Ats.ext {F : Nat → Prop} {w w' : World} {v : Value} {xs : List At} (h : Ats F w v xs) (he : Ext w w') : Ats F w' v xs := let ⟨A, c, vs, h1, h2, h3, h4, h5⟩ := h; ⟨A, c, vs, h1, h2, h3, h4.ext he, fun i h h' => (h5 i h h').ext he⟩
theorem Ats.fr {S F : Nat → Prop} {w w' : World} {v : Value} {xs : List At} (h : Ats F w v xs) (hf : Fr S w w') (hs : ∀ k, F k → ¬ S k) : Ats F w' v xs := let ⟨A, c, vs, h1, h2, h3, h4, h5⟩ := h; ⟨A, c, vs, h1, h2, h3, h4.fr hf hs, fun i h h' => (h5 i h h').fr hf hs⟩
/-- Atom i, as three cells, in the walk's spelling. -/
theorem Cl.atom {F : Nat → Prop} {w : World} {A : Option Addr} {xs : List At} {vs : List Value} (h : Cl F w A (acells xs vs)) {i : Nat} (hi : i < xs.length) (hv : i < vs.length) : ∃ ad, A = some ad ∧ F ad.block ∧ w.cell? (ad.add (i * 3)) = some (.bool xs[i].neg) ∧ w.cell? ⟨(ad.add (i * 3)).block, (ad.add (i * 3)).off + 1, none⟩ = some (.string xs[i].rel) ∧ w.cell? ⟨(ad.add (i * 3)).block, (ad.add (i * 3)).off + 2, none⟩ = some vs[i] := by
  obtain ⟨g0, g1, g2⟩ := acells_get hi hv
  obtain ⟨ad, h1, h2, c0⟩ := h.at' g0
  obtain ⟨ad1, e1, _, c1⟩ := h.at' g1
  obtain ⟨ad2, e2, _, c2⟩ := h.at' g2
  subst h1
  injection e1 with e1; injection e2 with e2
  subst e1 e2
  rw [show i * 3 + 1 = i * 3 + (0 + 1) by omega, add_succ'] at c1
  rw [show i * 3 + 2 = i * 3 + (1 + 1) by omega, add_succ'] at c2
  exact ⟨ad, rfl, h2, c0, c1, c2⟩

/-- An atom of the reference. -/
structure RAt where
  rel : ByteArray
  terms : List Int
deriving DecidableEq
def rcells : List RAt → List Value → List Value
  | a :: xs, v :: vs => .string a.rel :: v :: rcells xs vs
  | _, _ => []
theorem rcells_length : ∀ {xs : List RAt} {vs : List Value}, vs.length = xs.length → (rcells xs vs).length = xs.length * 2
  | [], [], _ => rfl
  | a :: xs, v :: vs, h => by
    have := rcells_length (xs := xs) (vs := vs) (by simpa using h)
    simp [rcells]; omega
  | [], v :: vs, h => by simp at h
  | a :: xs, [], h => by simp at h
theorem rcells_snoc : ∀ {xs : List RAt} {vs : List Value} {a : RAt} {v : Value}, vs.length = xs.length → rcells (xs ++ [a]) (vs ++ [v]) = rcells xs vs ++ [.string a.rel, v]
  | [], [], _, _, _ => rfl
  | b :: xs, u :: vs, a, v, h => by
    have := rcells_snoc (xs := xs) (vs := vs) (a := a) (v := v) (by simpa using h)
    simp [rcells, this]
  | [], u :: vs, _, _, h => by simp at h
  | b :: xs, [], _, _, h => by simp at h
theorem rcells_get : ∀ {xs : List RAt} {vs : List Value} {i : Nat} (hi : i < xs.length) (hv : i < vs.length), (rcells xs vs)[i * 2]? = some (.string xs[i].rel) ∧ (rcells xs vs)[i * 2 + 1]? = some vs[i]
  | a :: xs, v :: vs, 0, _, _ => ⟨rfl, rfl⟩
  | a :: xs, v :: vs, i + 1, hi, hv => by
    obtain ⟨h1, h2⟩ := rcells_get (xs := xs) (vs := vs) (i := i) (by simpa using hi) (by simpa using hv)
    rw [show (i + 1) * 2 = i * 2 + 1 + 1 by omega]
    exact ⟨h1, h2⟩
/-- A slice of the reference's atoms. -/
def Ras (F : Nat → Prop) (w : World) (v : Value) (xs : List RAt) : Prop :=
  ∃ A c vs, v = .slice A xs.length c ∧ xs.length ≤ c ∧ vs.length = xs.length ∧ Cl F w A (rcells xs vs) ∧ ∀ i (h : i < xs.length) (h' : i < vs.length), Ins F w vs[i] xs[i].terms
theorem Ras.ext {F : Nat → Prop} {w w' : World} {v : Value} {xs : List RAt} (h : Ras F w v xs) (he : Ext w w') : Ras F w' v xs := let ⟨A, c, vs, h1, h2, h3, h4, h5⟩ := h; ⟨A, c, vs, h1, h2, h3, h4.ext he, fun i h h' => (h5 i h h').ext he⟩
theorem Ras.fr {S F : Nat → Prop} {w w' : World} {v : Value} {xs : List RAt} (h : Ras F w v xs) (hf : Fr S w w') (hs : ∀ k, F k → ¬ S k) : Ras F w' v xs := let ⟨A, c, vs, h1, h2, h3, h4, h5⟩ := h; ⟨A, c, vs, h1, h2, h3, h4.fr hf hs, fun i h h' => (h5 i h h').fr hf hs⟩
theorem Cl.ratom {F : Nat → Prop} {w : World} {A : Option Addr} {xs : List RAt} {vs : List Value} (h : Cl F w A (rcells xs vs)) {i : Nat} (hi : i < xs.length) (hv : i < vs.length) : ∃ ad, A = some ad ∧ F ad.block ∧ w.cell? (ad.add (i * 2)) = some (.string xs[i].rel) ∧ w.cell? ⟨(ad.add (i * 2)).block, (ad.add (i * 2)).off + 1, none⟩ = some vs[i] := by
  obtain ⟨g0, g1⟩ := rcells_get hi hv
  obtain ⟨ad, h1, h2, c0⟩ := h.at' g0
  obtain ⟨ad1, e1, _, c1⟩ := h.at' g1
  subst h1
  injection e1 with e1
  subst e1
  rw [show i * 2 + 1 = i * 2 + (0 + 1) by omega, add_succ'] at c1
  exact ⟨ad, rfl, h2, c0, c1⟩

theorem own_ne {w : World} {b1 b2 s1 s2 n1 n2 k : Nat} {e1 e2 : TypeId} {v1 v2 : Value} {xs1 xs2 : List Value} (h1 : w.ownsRow b1 e1 s1 v1 n1 xs1) (h2 : w.ownsRow b2 e2 s2 v2 n2 xs2) (he : e1 ≠ e2) (hk : v1.ownBlock = some k) : v2.ownBlock ≠ some k := by
  rcases h1.2 with ⟨rfl, _⟩ | ⟨g, cap, cur, rfl, _, hb, _⟩
  · simp [Value.ownBlock] at hk
  · rcases h2.2 with ⟨rfl, _⟩ | ⟨g', cap', cur', rfl, _, hb', _⟩
    · simp [Value.ownBlock]
    · simp [Value.ownBlock] at hk ⊢
      rintro rfl
      subst hk
      rw [hb] at hb'
      injection hb' with hb'; injection hb' with _ hb'
      exact he hb'
theorem own_bk {w : World} {b s n k g : Nat} {e t : TypeId} {v : Value} {xs ys : List Value} (h : w.ownsRow b e s v n xs) (hb : Bk w g t ys) (he : e ≠ t) (hk : v.ownBlock = some k) : k ≠ g := by
  rcases h.2 with ⟨rfl, _⟩ | ⟨g', cap, cur, rfl, _, hc, _⟩
  · simp [Value.ownBlock] at hk
  · simp [Value.ownBlock] at hk
    subst hk
    exact (hb.ne hc (fun e' => he e'.symm)).symm
theorem own_fr {S : Nat → Prop} {w w' : World} {b s n : Nat} {e : TypeId} {v : Value} {xs : List Value} (h : w.ownsRow b e s v n xs) (hf : Fr S w w') (hs : ∀ k, v.ownBlock = some k → ¬ S k) : w'.ownsRow b e s v n xs := by
  obtain ⟨h1, h2⟩ := h
  refine ⟨h1, ?_⟩
  rcases h2 with h2 | ⟨g, cap, cur, rfl, h3, h4, h5⟩
  · exact .inl h2
  · have hlt : g < w.heap.size := by
      rcases Nat.lt_or_ge g w.heap.size with h | h
      · exact h
      · rw [Array.getElem?_eq_none h] at h4; cases h4
    exact .inr ⟨g, cap, cur, rfl, h3, (hf.block g hlt (hs g rfl)).trans h4, h5⟩
theorem NumB.fr {S : Nat → Prop} {w w' : World} {base g : Nat} {v : Value} {ts : List Tm} (h : NumB w base g v ts) (hf : Fr S w w') (hg : ¬ S g) (hs : ∀ k, v.ownBlock = some k → ¬ S k) : NumB w' base g v ts := ⟨h.cell.fr hf hg, own_fr h.row hf hs⟩

/-- The table behind a list of terms. -/
def tabT (ts : List Tm) (l : List Tm) : List Tm := l.foldl addT ts
theorem tabT_snoc (ts l : List Tm) (t : Tm) : tabT ts (l ++ [t]) = addT (tabT ts l) t := by simp [tabT]
theorem tabT_append (ts l m : List Tm) : tabT ts (l ++ m) = tabT (tabT ts l) m := by simp [tabT]
theorem addT_pre (ts : List Tm) (t : Tm) : ts <+: addT ts t := by unfold addT; split; exact List.prefix_refl _; exact List.prefix_append _ _
theorem tabT_pre (ts l : List Tm) : ts <+: tabT ts l := by
  induction l generalizing ts with
  | nil => exact List.prefix_refl _
  | cons t l ih => exact (addT_pre ts t).trans (ih _)
theorem addT_mem (ts : List Tm) (t : Tm) : t.key ∈ addT ts t := by unfold addT; split; assumption; simp
theorem tabT_mem {ts l : List Tm} {t : Tm} (h : t ∈ l) : t.key ∈ tabT ts l := by
  induction l generalizing ts with
  | nil => simp at h
  | cons u l ih =>
    rcases List.mem_cons.1 h with rfl | h
    · exact (tabT_pre _ l).subset (addT_mem ts t)
    · exact ih h
theorem numT_pre {ts us : List Tm} {t : Tm} (h : t.key ∈ ts) (hp : ts <+: us) : numT us t = numT ts t := by
  have e1 : addT ts t = ts := by rw [addT, if_pos h]
  have e2 : addT us t = us := by rw [addT, if_pos (hp.subset h)]
  obtain ⟨r, rfl⟩ := hp
  have e3 : (ts ++ r).idxOf t.key = ts.idxOf t.key := by rw [List.idxOf_append, if_pos h]
  unfold numT
  rw [e1, e2, e3]
theorem numT_add (ts : List Tm) (t : Tm) : numT (addT ts t) t = numT ts t := by
  have e : addT (addT ts t) t = addT ts t := by
    rw [addT, if_pos (addT_mem ts t)]
  unfold numT; rw [e]
theorem addT_length (ts : List Tm) (t : Tm) : (addT ts t).length ≤ ts.length + 1 := by unfold addT; split <;> simp
theorem tabT_length (ts l : List Tm) : (tabT ts l).length ≤ ts.length + l.length := by
  induction l generalizing ts with
  | nil => simp [tabT]
  | cons t l ih => have := ih (addT ts t); have := addT_length ts t; simp [tabT] at *; omega
/-- The atoms in numbers, by a table. -/
def rat (ts : List Tm) (a : At) : RAt := ⟨a.rel, a.terms.map (numT ts)⟩
def allT (xs : List At) : List Tm := xs.flatMap (·.terms)
theorem rat_pre {ts us : List Tm} {a : At} (h : ∀ t ∈ a.terms, t.key ∈ ts) (hp : ts <+: us) : rat us a = rat ts a := by
  unfold rat
  congr 1
  exact List.map_congr_left (fun t ht => numT_pre (h t ht) hp)
end Go.Proofs.YtiahaofjmcjdiaaDoor
