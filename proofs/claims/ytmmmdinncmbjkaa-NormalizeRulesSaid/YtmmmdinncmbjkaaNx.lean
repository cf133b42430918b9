/- Plain: the parts of a source. -/
import Derived.Test.YtmmmdinncmbjkaaNw
import Derived.Sort.OwnSortedInts
namespace Go.Proofs.Ytmmmdinncmbjkaa
open Go.RowKit Go.Maps

/-- A filter. -/
structure Fl where
  col : Int
  op : Int
  kind : Int
  int : Int
  str : ByteArray
def Fl.cells (f : Fl) : List Value := [.int .i64 f.col, .int .i64 f.op, .int .i64 f.kind, .int .i64 f.int, .string f.str]
def rdFl : Rdg Fl := flatR Fl.cells 5 (fun _ => rfl)
/-- Two columns. -/
structure Pi where
  a : Int
  b : Int
def Pi.cells (p : Pi) : List Value := [.int .i64 p.a, .int .i64 p.b]
def rdPi : Rdg Pi := flatR Pi.cells 2 (fun _ => rfl)
/-- A source. -/
structure Src where
  rel : ByteArray
  vars : List Int
  cols : List Int
  same : List Pi
  fs : List Fl
  nots : List Nt
def rdSrc : Rdg Src where
  sz := 6
  R := fun F w cs x => ∃ a b c d e, cs = [.string x.rel, a, b, c, d, e] ∧ Ins F w a x.vars ∧ Ins F w b x.cols ∧ Sl rdPi F w c x.same ∧ Sl rdFl F w d x.fs ∧ Sl rdNt F w e x.nots
  len := fun ⟨_, _, _, _, _, e, _⟩ => by rw [e]; rfl
  fr := fun ⟨a, b, c, d, e, h, h1, h2, h3, h4, h5⟩ hf hs => ⟨a, b, c, d, e, h, h1.fr hf hs, h2.fr hf hs, h3.fr hf hs, h4.fr hf hs, h5.fr hf hs⟩
  mono := fun ⟨a, b, c, d, e, h, h1, h2, h3, h4, h5⟩ hs => ⟨a, b, c, d, e, h, h1.mono hs, h2.mono hs, h3.mono (by decide) hs, h4.mono (by decide) hs, h5.mono (by decide) hs⟩
def fcells (l : List Fl) : List Value := l.flatMap Fl.cells
def picells (l : List Pi) : List Value := l.flatMap Pi.cells
theorem fcells_app (l : List Fl) (v : Fl) : fcells (l ++ [v]) = fcells l ++ v.cells := by simp [fcells]
theorem picells_app (l : List Pi) (v : Pi) : picells (l ++ [v]) = picells l ++ v.cells := by simp [picells]
/-- The first column of a variable. -/
def idxT (ts : List Tm) (s : ByteArray) : Nat := ts.findIdx (fun t => decide (t.var = s))
theorem idxT_le {ts : List Tm} {i : Nat} (hi : i < ts.length) : idxT ts ts[i].var ≤ i := by
  rcases Nat.lt_or_ge i (idxT ts ts[i].var) with h | h
  · have := List.not_of_lt_findIdx h
    simp at this
  · exact h
theorem idxT_at {ts : List Tm} {s : ByteArray} (h : idxT ts s < ts.length) : (ts[idxT ts s]'h).var = s := by
  have := List.findIdx_getElem (xs := ts) (p := fun t : Tm => decide (t.var = s)) (w := h)
  exact of_decide_eq_true this
/-- What the map first holds after n terms. -/
def fstN (ts : List Tm) (n : Nat) : ByteArray → Option Value := fun s => if s ≠ ⟨#[]⟩ ∧ idxT ts s < n then some (.int .i64 (idxT ts s : Int)) else none
theorem fstN_zero (ts : List Tm) : fstN ts 0 = fun _ => none := by
  funext s; unfold fstN; rw [if_neg (by omega)]
theorem fstN_skip {ts : List Tm} {i : Nat} (hi : i < ts.length) (h : ts[i].var = ⟨#[]⟩ ∨ idxT ts ts[i].var < i) : fstN ts (i + 1) = fstN ts i := by
  funext s
  unfold fstN
  by_cases hs : s = ⟨#[]⟩
  · rw [if_neg (by simp [hs]), if_neg (by simp [hs])]
  · have : idxT ts s ≠ i := fun e => by
      have h1 := idxT_at (ts := ts) (s := s) (by omega)
      simp only [e] at h1
      rcases h with h | h
      · exact hs (h1.symm.trans h)
      · rw [h1] at h; omega
    by_cases h2 : idxT ts s < i
    · rw [if_pos ⟨hs, by omega⟩, if_pos ⟨hs, h2⟩]
    · rw [if_neg (by omega), if_neg (by omega)]
theorem fstN_add {ts : List Tm} {i : Nat} (hi : i < ts.length) (h0 : ts[i].var ≠ ⟨#[]⟩) (h : ¬ idxT ts ts[i].var < i) : updV (fstN ts i) ts[i].var (some (.int .i64 (i : Int))) = fstN ts (i + 1) := by
  have e : idxT ts ts[i].var = i := by have := idxT_le hi; omega
  funext s
  unfold updV fstN
  by_cases hs : s = ts[i].var
  · subst hs
    rw [if_pos rfl, if_pos ⟨h0, by omega⟩, e]
  · rw [if_neg hs]
    have : idxT ts s ≠ i := fun e2 => by
      have h1 := idxT_at (ts := ts) (s := s) (by omega)
      simp only [e2] at h1
      exact hs h1.symm
    by_cases h2 : s ≠ ⟨#[]⟩ ∧ idxT ts s < i
    · rw [if_pos h2, if_pos ⟨h2.1, by omega⟩]
    · rw [if_neg h2, if_neg (by rintro ⟨h3, h4⟩; exact h2 ⟨h3, by omega⟩)]
def conAt (ts : List Tm) (k : Nat) : Option Fl := (ts[k]?).bind (fun t => if t.var = ⟨#[]⟩ then some ⟨k, 0, t.kind, t.int, t.str⟩ else none)
def samAt (ts : List Tm) (k : Nat) : Option Pi := (ts[k]?).bind (fun t => if t.var ≠ ⟨#[]⟩ ∧ idxT ts t.var < k then some ⟨idxT ts t.var, k⟩ else none)
def vrsAt (names : List ByteArray) (ts : List Tm) (k : Nat) : Option Int := (ts[k]?).bind (fun t => if t.var ≠ ⟨#[]⟩ ∧ ¬ idxT ts t.var < k then some (numI names t) else none)
def cndAt (ts : List Tm) (cds : List Cd) (k : Nat) : Option Fl := (cds[k]?).bind (fun c => if c.var ≠ ⟨#[]⟩ ∧ idxT ts c.var < ts.length then some ⟨idxT ts c.var, c.op, c.kind, c.int, c.str⟩ else none)
/-- What the first n places give. -/
def upL {α : Type} (f : Nat → Option α) (n : Nat) : List α := (List.range n).filterMap f
theorem upL_some {α : Type} {f : Nat → Option α} {n : Nat} {x : α} (h : f n = some x) : upL f (n + 1) = upL f n ++ [x] := by
  unfold upL; rw [List.range_succ, List.filterMap_append]; simp [h]
theorem upL_none {α : Type} {f : Nat → Option α} {n : Nat} (h : f n = none) : upL f (n + 1) = upL f n := by
  unfold upL; rw [List.range_succ, List.filterMap_append]; simp [h]
theorem upL_len {α : Type} (f : Nat → Option α) (n : Nat) : (upL f n).length ≤ n := by
  unfold upL
  exact Nat.le_trans (List.length_filterMap_le _ _) (by simp)
/-- The column of the variable with a number. -/
def colI (names : List ByteArray) (ts : List Tm) (v : Int) : Int := idxT ts (names.getD v.toNat ⟨#[]⟩)
def sortI (l : List Int) : List Int := l.mergeSort (fun x y => decide (x ≤ y))
def sourceL (names : List ByteArray) (r : Rl) (i : Nat) (a : At) : Src :=
  let vs := sortI (upL (vrsAt names a.terms) a.terms.length)
  ⟨a.rel, vs, vs.map (colI names a.terms), upL (samAt a.terms) a.terms.length, upL (conAt a.terms) a.terms.length ++ upL (cndAt a.terms r.cds) r.cds.length, notsL names r.ats i⟩
theorem pos_lt {l : List ByteArray} {s : ByteArray} (h : s ∈ l) : posN l s < l.length := by
  induction l with
  | nil => simp at h
  | cons a l ih =>
    show (if a = s then 0 else posN l s + 1) < _
    by_cases h1 : a = s
    · rw [if_pos h1]; simp
    · rw [if_neg h1]
      have := ih (by rcases List.mem_cons.1 h with e | e; exact absurd e.symm h1; exact e)
      simp; omega
theorem pos_at {l : List ByteArray} {s : ByteArray} (h : s ∈ l) : l[posN l s]'(pos_lt h) = s := by
  induction l with
  | nil => simp at h
  | cons a l ih =>
    by_cases h1 : a = s
    · have e : posN (a :: l) s = 0 := if_pos h1
      simp only [e, List.getElem_cons_zero]
      exact h1
    · have e : posN (a :: l) s = posN l s + 1 := if_neg h1
      simp only [e, List.getElem_cons_succ]
      exact ih (by rcases List.mem_cons.1 h with e | e; exact absurd e.symm h1; exact e)
theorem sortI_len (l : List Int) : (sortI l).length = l.length := List.length_mergeSort _
theorem sortI_mem {l : List Int} {x : Int} : x ∈ sortI l ↔ x ∈ l := List.mem_mergeSort
/-- Every variable of the numbers is a name, in its place. -/
theorem vrs_mem {names : List ByteArray} {ts : List Tm} {n : Nat} {v : Int} (hn : ∀ t ∈ ts, t.var ≠ ⟨#[]⟩ → t.var ∈ names) (h : v ∈ upL (vrsAt names ts) n) : ∃ s ∈ names, s ≠ ⟨#[]⟩ ∧ idxT ts s < ts.length ∧ idxT ts s < n ∧ v = (posN names s : Int) := by
  unfold upL at h
  obtain ⟨k, hk, h⟩ := List.mem_filterMap.1 h
  unfold vrsAt at h
  rw [List.mem_range] at hk
  rcases Nat.lt_or_ge k ts.length with hkl | hkl
  · rw [List.getElem?_eq_getElem hkl] at h
    simp only [Option.bind_some] at h
    by_cases hc : ts[k].var ≠ ⟨#[]⟩ ∧ ¬ idxT ts ts[k].var < k
    · rw [if_pos hc] at h
      have h1 := hn _ (List.getElem_mem hkl) hc.1
      have h2 := idxT_le hkl
      refine ⟨ts[k].var, h1, hc.1, by omega, by omega, ?_⟩
      unfold numI at h
      rw [if_neg hc.1, if_pos h1] at h
      injection h with h
      exact h.symm
    · rw [if_neg hc] at h; cases h
  · rw [List.getElem?_eq_none hkl] at h; simp at h
theorem vrs_sort {names : List ByteArray} {ts : List Tm} {v : Int} (hn : ∀ t ∈ ts, t.var ≠ ⟨#[]⟩ → t.var ∈ names) (h : v ∈ sortI (upL (vrsAt names ts) ts.length)) : ∃ k : Nat, ∃ hk : k < names.length, v = (k : Int) ∧ fstN ts ts.length names[k] = some (.int .i64 (colI names ts v)) := by
  obtain ⟨s, hs, h0, h1, -, rfl⟩ := vrs_mem hn (sortI_mem.1 h)
  refine ⟨posN names s, pos_lt hs, rfl, ?_⟩
  rw [pos_at hs]
  unfold fstN colI
  rw [if_pos ⟨h0, h1⟩]
  have : names.getD (posN names s : Int).toNat ⟨#[]⟩ = s := by
    rw [Int.toNat_natCast, List.getD_eq_getElem?_getD, List.getElem?_eq_getElem (pos_lt hs), pos_at hs]; rfl
  rw [this]
end Go.Proofs.Ytmmmdinncmbjkaa
