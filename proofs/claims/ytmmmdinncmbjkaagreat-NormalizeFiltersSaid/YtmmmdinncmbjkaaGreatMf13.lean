/- Plain: the parts of a source. Contract: normalize's builder.source. -/
import Derived.Test.YtmmmdinncmbjkaaGreatMf12
import Derived.Sort.OwnSortedInts
namespace Go.Proofs.YtmmmdinncmbjkaaGreat
open Go.RowKit Go.Maps
/-- A filter. -/
structure Fl where
  col : Int
  op : Int
  kind : Int
  int : Int
  str : ByteArray
def Fl.cells (f : Fl) : List Value := [.int .i64 f.col, .int .i64 f.op, .int .i64 f.kind, .int .i64 f.int, .string f.str]
def rdFl : Rdg Fl := flatR Fl.cells 5 (fun _ => rfl)
/-- Two columns. -/
structure Pi where
  a : Int
  b : Int
def Pi.cells (p : Pi) : List Value := [.int .i64 p.a, .int .i64 p.b]
def rdPi : Rdg Pi := flatR Pi.cells 2 (fun _ => rfl)
/-- A source. -/
structure Src where
  rel : ByteArray
  vars : List Int
  cols : List Int
  same : List Pi
  fs : List Fl
  nots : List Nt
def rdSrc : Rdg Src where
  sz := 6
  R := fun F w cs x => ∃ a b c d e, cs = [.string x.rel, a, b, c, d, e] ∧ Ins F w a x.vars ∧ Ins F w b x.cols ∧ Sl rdPi F w c x.same ∧ Sl rdFl F w d x.fs ∧ Sl rdNt F w e x.nots
  len := fun ⟨_, _, _, _, _, e, _⟩ => by rw [e]; rfl
  fr := fun ⟨a, b, c, d, e, h, h1, h2, h3, h4, h5⟩ hf hs => ⟨a, b, c, d, e, h, h1.fr hf hs, h2.fr hf hs, h3.fr hf hs, h4.fr hf hs, h5.fr hf hs⟩
  mono := fun ⟨a, b, c, d, e, h, h1, h2, h3, h4, h5⟩ hs => ⟨a, b, c, d, e, h, h1.mono hs, h2.mono hs, h3.mono (by decide) hs, h4.mono (by decide) hs, h5.mono (by decide) hs⟩
def fcells (l : List Fl) : List Value := l.flatMap Fl.cells
def picells (l : List Pi) : List Value := l.flatMap Pi.cells
theorem fcells_app (l : List Fl) (v : Fl) : fcells (l ++ [v]) = fcells l ++ v.cells := by simp [fcells]
theorem picells_app (l : List Pi) (v : Pi) : picells (l ++ [v]) = picells l ++ v.cells := by simp [picells]
/-- The first column of a variable. -/
def idxT (ts : List Tm) (s : ByteArray) : Nat := ts.findIdx (fun t => decide (t.var = s))
theorem idxT_le {ts : List Tm} {i : Nat} (hi : i < ts.length) : idxT ts ts[i].var ≤ i := by
  rcases Nat.lt_or_ge i (idxT ts ts[i].var) with h | h
  · have := List.not_of_lt_findIdx h
    simp at this
  · exact h
theorem idxT_at {ts : List Tm} {s : ByteArray} (h : idxT ts s < ts.length) : (ts[idxT ts s]'h).var = s := by
  have := List.findIdx_getElem (xs := ts) (p := fun t : Tm => decide (t.var = s)) (w := h)
  exact of_decide_eq_true this
/-- What the map first holds after n terms. -/
def fstN (ts : List Tm) (n : Nat) : ByteArray → Option Value := fun s => if s ≠ ⟨#[]⟩ ∧ idxT ts s < n then some (.int .i64 (idxT ts s : Int)) else none
theorem fstN_zero (ts : List Tm) : fstN ts 0 = fun _ => none := by
  funext s; unfold fstN; rw [if_neg (by omega)]
theorem fstN_skip {ts : List Tm} {i : Nat} (hi : i < ts.length) (h : ts[i].var = ⟨#[]⟩ ∨ idxT ts ts[i].var < i) : fstN ts (i + 1) = fstN ts i := by
  funext s
  unfold fstN
  by_cases hs : s = ⟨#[]⟩
  · rw [if_neg (by simp [hs]), if_neg (by simp [hs])]
  · have : idxT ts s ≠ i := fun e => by
      have h1 := idxT_at (ts := ts) (s := s) (by omega)
      simp only [e] at h1
      rcases h with h | h
      · exact hs (h1.symm.trans h)
      · rw [h1] at h; omega
    by_cases h2 : idxT ts s < i
    · rw [if_pos ⟨hs, by omega⟩, if_pos ⟨hs, h2⟩]
    · rw [if_neg (by omega), if_neg (by omega)]
theorem fstN_add {ts : List Tm} {i : Nat} (hi : i < ts.length) (h0 : ts[i].var ≠ ⟨#[]⟩) (h : ¬ idxT ts ts[i].var < i) : updV (fstN ts i) ts[i].var (some (.int .i64 (i : Int))) = fstN ts (i + 1) := by
  have e : idxT ts ts[i].var = i := by have := idxT_le hi; omega
  funext s
  unfold updV fstN
  by_cases hs : s = ts[i].var
  · subst hs
    rw [if_pos rfl, if_pos ⟨h0, by omega⟩, e]
  · rw [if_neg hs]
    have : idxT ts s ≠ i := fun e2 => by
      have h1 := idxT_at (ts := ts) (s := s) (by omega)
      simp only [e2] at h1
      exact hs h1.symm
    by_cases h2 : s ≠ ⟨#[]⟩ ∧ idxT ts s < i
    · rw [if_pos h2, if_pos ⟨h2.1, by omega⟩]
    · rw [if_neg h2, if_neg (by rintro ⟨h3, h4⟩; exact h2 ⟨h3, by omega⟩)]
def conAt (ts : List Tm) (k : Nat) : Option Fl := (ts[k]?).bind (fun t => if t.var = ⟨#[]⟩ then some ⟨k, 0, t.kind, t.int, t.str⟩ else none)
def samAt (ts : List Tm) (k : Nat) : Option Pi := (ts[k]?).bind (fun t => if t.var ≠ ⟨#[]⟩ ∧ idxT ts t.var < k then some ⟨idxT ts t.var, k⟩ else none)
def vrsAt (names : List ByteArray) (ts : List Tm) (k : Nat) : Option Int := (ts[k]?).bind (fun t => if t.var ≠ ⟨#[]⟩ ∧ ¬ idxT ts t.var < k then some (numI names t) else none)
def cndAt (ts : List Tm) (cds : List Cd) (k : Nat) : Option Fl := (cds[k]?).bind (fun c => if c.var ≠ ⟨#[]⟩ ∧ idxT ts c.var < ts.length then some ⟨idxT ts c.var, c.op, c.kind, c.int, c.str⟩ else none)
/-- What the first n places give. -/
def upL {α : Type} (f : Nat → Option α) (n : Nat) : List α := (List.range n).filterMap f
theorem upL_some {α : Type} {f : Nat → Option α} {n : Nat} {x : α} (h : f n = some x) : upL f (n + 1) = upL f n ++ [x] := by
  unfold upL; rw [List.range_succ, List.filterMap_append]; simp [h]
theorem upL_none {α : Type} {f : Nat → Option α} {n : Nat} (h : f n = none) : upL f (n + 1) = upL f n := by
  unfold upL; rw [List.range_succ, List.filterMap_append]; simp [h]
theorem upL_len {α : Type} (f : Nat → Option α) (n : Nat) : (upL f n).length ≤ n := by
  unfold upL
  exact Nat.le_trans (List.length_filterMap_le _ _) (by simp)
/-- The column of the variable with a number. -/
def colI (names : List ByteArray) (ts : List Tm) (v : Int) : Int := idxT ts (names.getD v.toNat ⟨#[]⟩)
def sortI (l : List Int) : List Int := l.mergeSort (fun x y => decide (x ≤ y))
def sourceL (names : List ByteArray) (r : Rl) (i : Nat) (a : At) : Src :=
  let vs := sortI (upL (vrsAt names a.terms) a.terms.length)
  ⟨a.rel, vs, vs.map (colI names a.terms), upL (samAt a.terms) a.terms.length, upL (conAt a.terms) a.terms.length ++ upL (cndAt a.terms r.cds) r.cds.length, notsL names r.ats i⟩
theorem pos_lt {l : List ByteArray} {s : ByteArray} (h : s ∈ l) : posN l s < l.length := by
  induction l with
  | nil => simp at h
  | cons a l ih =>
    show (if a = s then 0 else posN l s + 1) < _
    by_cases h1 : a = s
    · rw [if_pos h1]; simp
    · rw [if_neg h1]
      have := ih (by rcases List.mem_cons.1 h with e | e; exact absurd e.symm h1; exact e)
      simp; omega
theorem pos_at {l : List ByteArray} {s : ByteArray} (h : s ∈ l) : l[posN l s]'(pos_lt h) = s := by
  induction l with
  | nil => simp at h
  | cons a l ih =>
    by_cases h1 : a = s
    · have e : posN (a :: l) s = 0 := if_pos h1
      simp only [e, List.getElem_cons_zero]
      exact h1
    · have e : posN (a :: l) s = posN l s + 1 := if_neg h1
      simp only [e, List.getElem_cons_succ]
      exact ih (by rcases List.mem_cons.1 h with e | e; exact absurd e.symm h1; exact e)
theorem sortI_len (l : List Int) : (sortI l).length = l.length := List.length_mergeSort _
theorem sortI_mem {l : List Int} {x : Int} : x ∈ sortI l ↔ x ∈ l := List.mem_mergeSort
/-- Every variable of the numbers is a name, in its place. -/
theorem vrs_mem {names : List ByteArray} {ts : List Tm} {n : Nat} {v : Int} (hn : ∀ t ∈ ts, t.var ≠ ⟨#[]⟩ → t.var ∈ names) (h : v ∈ upL (vrsAt names ts) n) : ∃ s ∈ names, s ≠ ⟨#[]⟩ ∧ idxT ts s < ts.length ∧ idxT ts s < n ∧ v = (posN names s : Int) := by
  unfold upL at h
  obtain ⟨k, hk, h⟩ := List.mem_filterMap.1 h
  unfold vrsAt at h
  rw [List.mem_range] at hk
  rcases Nat.lt_or_ge k ts.length with hkl | hkl
  · rw [List.getElem?_eq_getElem hkl] at h
    simp only [Option.bind_some] at h
    by_cases hc : ts[k].var ≠ ⟨#[]⟩ ∧ ¬ idxT ts ts[k].var < k
    · rw [if_pos hc] at h
      have h1 := hn _ (List.getElem_mem hkl) hc.1
      have h2 := idxT_le hkl
      refine ⟨ts[k].var, h1, hc.1, by omega, by omega, ?_⟩
      unfold numI at h
      rw [if_neg hc.1, if_pos h1] at h
      injection h with h
      exact h.symm
    · rw [if_neg hc] at h; cases h
  · rw [List.getElem?_eq_none hkl] at h; simp at h
theorem vrs_sort {names : List ByteArray} {ts : List Tm} {v : Int} (hn : ∀ t ∈ ts, t.var ≠ ⟨#[]⟩ → t.var ∈ names) (h : v ∈ sortI (upL (vrsAt names ts) ts.length)) : ∃ k : Nat, ∃ hk : k < names.length, v = (k : Int) ∧ fstN ts ts.length names[k] = some (.int .i64 (colI names ts v)) := by
  obtain ⟨s, hs, h0, h1, -, rfl⟩ := vrs_mem hn (sortI_mem.1 h)
  refine ⟨posN names s, pos_lt hs, rfl, ?_⟩
  rw [pos_at hs]
  unfold fstN colI
  rw [if_pos ⟨h0, h1⟩]
  have : names.getD (posN names s : Int).toNat ⟨#[]⟩ = s := by
    rw [Int.toNat_natCast, List.getD_eq_getElem?_getD, List.getElem?_eq_getElem (pos_lt hs), pos_at hs]; rfl
  rw [this]
end Go.Proofs.YtmmmdinncmbjkaaGreat
namespace Go.Proofs.YtmmmdinncmbjkaaGreat
open Go.RowKit Go.Maps
theorem info_fl : (Tryz.prog.info? 96).map (fun i => (i.zero, i.size, i.bytes)) = some (some (.agg #[.int .i64 0, .int .i64 0, .int .i64 0, .int .i64 0, .string ⟨#[]⟩]), 5, 48) := by kernel_rfl
theorem info_pi : (Tryz.prog.info? 51).map (fun i => (i.zero, i.size, i.bytes)) = some (some (.agg #[.int .i64 0, .int .i64 0]), 2, 16) := by kernel_rfl
/-- slices.Sort of a row of one's own. -/
theorem sort_own {w : World} {base n : Nat} {v : Value} {zs : List Int} (h : w.ownsRow base 3 1 v n (zs.map I64)) (hn : n ≤ 1048576) :
    Calls Tryz.prog 64 #[v] w (fun e w' => e = .returned (.tuple #[]) ∧ w'.ownsRow base 3 1 v n ((sortI zs).map I64) ∧ w.grownBy w' v.ownBlock) := by
  have hnz : n = zs.length := by have := h.1; simp at this; omega
  subst hnz
  rcases h.2 with ⟨rfl, h0⟩ | ⟨g, cap, cur, rfl, hb, hc, h1, h2, h3, h4⟩
  · have e : zs = [] := List.length_eq_zero_iff.1 (by simpa using h0)
    subst e
    refine (Tryz.slices_Sort_int_none none 0 w).mono ?_
    rintro e w' ⟨rfl, rfl⟩
    exact ⟨rfl, by rw [show sortI [] = [] by simp [sortI]]; exact World.ownsRow_nil _ _ _ _, World.grownBy.refl _ _⟩
  · have hlt : g < w.heap.size := (Array.getElem?_eq_some_iff.1 hc).1
    rw [Nat.mul_one] at h4
    have hh := holds_of_blockI (ss := zs) hc h4
    refine (Tryz.slices_Sort_int g 0 cap zs w hh hlt (by omega)).mono ?_
    rintro e w' ⟨rfl, k, os, rfl⟩
    exact ⟨rfl, ownsRow_sortedI (ts := sortI zs) (sortI_len _) hb hc h1 h2 h3, grownBy_sortedI _⟩
/-- A source that is being built: its box, its four rows, the map of first columns. -/
structure SrcB (w : World) (base b2 gb bm m : Nat) (rl : ByteArray) (uv uc us uf : Value) (nv nc ns nf : Nat) (vs cs : List Int) (ss : List Pi) (fs : List Fl) (f : ByteArray → Option Value) : Prop where
  bk : Bk w gb 36 [.string rl, uv, uc, us, uf, .slice none 0 0]
  rv : w.ownsRow base 3 1 uv nv (vs.map I64)
  rc : w.ownsRow b2 3 1 uc nc (cs.map I64)
  rs : w.ownsRow base 51 2 us ns (picells ss)
  rf : w.ownsRow base 96 5 uf nf (fcells fs)
  mp : MapV w bm m f
section
variable {w w8 : World} {base b2 gb bm m m' nv nc ns nf : Nat} {rl : ByteArray} {uv uc us uf v8 : Value} {vs cs : List Int} {ss : List Pi} {fs : List Fl} {f f' : ByteArray → Option Value}
theorem SrcB.ext (h : SrcB w base b2 gb bm m rl uv uc us uf nv nc ns nf vs cs ss fs f) (he : Ext w w8) : SrcB w8 base b2 gb bm m rl uv uc us uf nv nc ns nf vs cs ss fs f := ⟨h.bk.ext he, own_ext' h.rv he, own_ext' h.rc he, own_ext' h.rs he, own_ext' h.rf he, h.mp.ext he⟩
theorem SrcB.bkF (h : SrcB w base b2 gb bm m rl uv uc us uf nv nc ns nf vs cs ss fs f) (hg : w.grownBy w8 uf.ownBlock) : Bk w8 gb 36 [.string rl, uv, uc, us, uf, .slice none 0 0] := h.bk.fr (grown_fr hg) (fun e => own_bk h.rf h.bk (by decide) e rfl)
theorem SrcB.bkS (h : SrcB w base b2 gb bm m rl uv uc us uf nv nc ns nf vs cs ss fs f) (hg : w.grownBy w8 us.ownBlock) : Bk w8 gb 36 [.string rl, uv, uc, us, uf, .slice none 0 0] := h.bk.fr (grown_fr hg) (fun e => own_bk h.rs h.bk (by decide) e rfl)
theorem SrcB.bkV (h : SrcB w base b2 gb bm m rl uv uc us uf nv nc ns nf vs cs ss fs f) (hg : w.grownBy w8 uv.ownBlock) : Bk w8 gb 36 [.string rl, uv, uc, us, uf, .slice none 0 0] := h.bk.fr (grown_fr hg) (fun e => own_bk h.rv h.bk (by decide) e rfl)
theorem SrcB.bkC (h : SrcB w base b2 gb bm m rl uv uc us uf nv nc ns nf vs cs ss fs f) (hg : w.grownBy w8 uc.ownBlock) : Bk w8 gb 36 [.string rl, uv, uc, us, uf, .slice none 0 0] := h.bk.fr (grown_fr hg) (fun e => own_bk h.rc h.bk (by decide) e rfl)
theorem SrcB.putF (h : SrcB w base b2 gb bm m rl uv uc us uf nv nc ns nf vs cs ss fs f) {x : Fl} (hr : w8.ownsRow base 96 5 v8 (nf + 1) (fcells fs ++ x.cells)) (hg : w.grownBy w8 uf.ownBlock) : SrcB (w8.setCell ⟨gb, 4, none⟩ v8) base b2 gb bm m rl uv uc us v8 nv nc ns (nf + 1) vs cs ss (fs ++ [x]) f := by
  have hb8 := h.bk.fr (grown_fr hg) (fun e => own_bk h.rf h.bk (by decide) e rfl)
  have hs : Fr (fun k => k = gb) w8 (w8.setCell ⟨gb, 4, none⟩ v8) := (Fr.refl (fun k => k = gb) w8).setCell (p := ⟨gb, 4, none⟩) (.inl rfl) _
  have rv := own_fr h.rv (grown_fr hg) (fun q hq e => own_ne h.rf h.rv (by decide) e hq)
  have rc := own_fr h.rc (grown_fr hg) (fun q hq e => own_ne h.rf h.rc (by decide) e hq)
  have rs := own_fr h.rs (grown_fr hg) (fun q hq e => own_ne h.rf h.rs (by decide) e hq)
  have mp := h.mp.fr (grown_fr hg) (fun e => h.mp.ne_own h.rf e rfl)
  refine ⟨by simpa using hb8.set 4 v8, own_fr rv hs (fun k hk => own_bk rv hb8 (by decide) hk), own_fr rc hs (fun k hk => own_bk rc hb8 (by decide) hk), own_fr rs hs (fun k hk => own_bk rs hb8 (by decide) hk), ?_, mp.fr hs (fun e => mp.ne hb8 e.symm)⟩
  rw [fcells_app]
  exact own_fr hr hs (fun k hk => own_bk hr hb8 (by decide) hk)
theorem SrcB.putS (h : SrcB w base b2 gb bm m rl uv uc us uf nv nc ns nf vs cs ss fs f) {x : Pi} (hr : w8.ownsRow base 51 2 v8 (ns + 1) (picells ss ++ x.cells)) (hg : w.grownBy w8 us.ownBlock) : SrcB (w8.setCell ⟨gb, 3, none⟩ v8) base b2 gb bm m rl uv uc v8 uf nv nc (ns + 1) nf vs cs (ss ++ [x]) fs f := by
  have hb8 := h.bk.fr (grown_fr hg) (fun e => own_bk h.rs h.bk (by decide) e rfl)
  have hs : Fr (fun k => k = gb) w8 (w8.setCell ⟨gb, 3, none⟩ v8) := (Fr.refl (fun k => k = gb) w8).setCell (p := ⟨gb, 3, none⟩) (.inl rfl) _
  have rv := own_fr h.rv (grown_fr hg) (fun q hq e => own_ne h.rs h.rv (by decide) e hq)
  have rc := own_fr h.rc (grown_fr hg) (fun q hq e => own_ne h.rs h.rc (by decide) e hq)
  have rf := own_fr h.rf (grown_fr hg) (fun q hq e => own_ne h.rs h.rf (by decide) e hq)
  have mp := h.mp.fr (grown_fr hg) (fun e => h.mp.ne_own h.rs e rfl)
  refine ⟨by simpa using hb8.set 3 v8, own_fr rv hs (fun k hk => own_bk rv hb8 (by decide) hk), own_fr rc hs (fun k hk => own_bk rc hb8 (by decide) hk), ?_, own_fr rf hs (fun k hk => own_bk rf hb8 (by decide) hk), mp.fr hs (fun e => mp.ne hb8 e.symm)⟩
  rw [picells_app]
  exact own_fr hr hs (fun k hk => own_bk hr hb8 (by decide) hk)
theorem SrcB.putV (h : SrcB w base b2 gb bm m rl uv (.slice none 0 0) us uf nv 0 ns nf vs [] ss fs f) {x : Int} (hr : w8.ownsRow base 3 1 v8 (nv + 1) (vs.map I64 ++ [.int .i64 x])) (hg : w.grownBy w8 uv.ownBlock) : SrcB (w8.setCell ⟨gb, 1, none⟩ v8) base b2 gb bm m rl v8 (.slice none 0 0) us uf (nv + 1) 0 ns nf (vs ++ [x]) [] ss fs f := by
  have hb8 := h.bk.fr (grown_fr hg) (fun e => own_bk h.rv h.bk (by decide) e rfl)
  have hs : Fr (fun k => k = gb) w8 (w8.setCell ⟨gb, 1, none⟩ v8) := (Fr.refl (fun k => k = gb) w8).setCell (p := ⟨gb, 1, none⟩) (.inl rfl) _
  have rs := own_fr h.rs (grown_fr hg) (fun q hq e => own_ne h.rv h.rs (by decide) e hq)
  have rf := own_fr h.rf (grown_fr hg) (fun q hq e => own_ne h.rv h.rf (by decide) e hq)
  have mp := h.mp.fr (grown_fr hg) (fun e => h.mp.ne_own h.rv e rfl)
  refine ⟨by simpa using hb8.set 1 v8, ?_, World.ownsRow_nil _ _ _ _, own_fr rs hs (fun k hk => own_bk rs hb8 (by decide) hk), own_fr rf hs (fun k hk => own_bk rf hb8 (by decide) hk), mp.fr hs (fun e => mp.ne hb8 e.symm)⟩
  rw [List.map_append]
  exact own_fr hr hs (fun k hk => own_bk hr hb8 (by decide) hk)
theorem SrcB.putC (h : SrcB w base b2 gb bm m rl uv uc us uf nv nc ns nf vs cs ss fs f) (hb2 : ∀ k, uv.ownBlock = some k → k < b2) {x : Int} (hr : w8.ownsRow b2 3 1 v8 (nc + 1) (cs.map I64 ++ [.int .i64 x])) (hg : w.grownBy w8 uc.ownBlock) : SrcB (w8.setCell ⟨gb, 2, none⟩ v8) base b2 gb bm m rl uv v8 us uf nv (nc + 1) ns nf vs (cs ++ [x]) ss fs f := by
  have hb8 := h.bk.fr (grown_fr hg) (fun e => own_bk h.rc h.bk (by decide) e rfl)
  have hs : Fr (fun k => k = gb) w8 (w8.setCell ⟨gb, 2, none⟩ v8) := (Fr.refl (fun k => k = gb) w8).setCell (p := ⟨gb, 2, none⟩) (.inl rfl) _
  have rs := own_fr h.rs (grown_fr hg) (fun q hq e => own_ne h.rc h.rs (by decide) e hq)
  have rf := own_fr h.rf (grown_fr hg) (fun q hq e => own_ne h.rc h.rf (by decide) e hq)
  have rv := own_fr h.rv (grown_fr hg) (fun q hq e => by have h1 := hb2 q hq; have h2 := own_ge h.rc e; omega)
  have mp := h.mp.fr (grown_fr hg) (fun e => h.mp.ne_own h.rc e rfl)
  refine ⟨by simpa using hb8.set 2 v8, own_fr rv hs (fun k hk => own_bk rv hb8 (by decide) hk), ?_, own_fr rs hs (fun k hk => own_bk rs hb8 (by decide) hk), own_fr rf hs (fun k hk => own_bk rf hb8 (by decide) hk), mp.fr hs (fun e => mp.ne hb8 e.symm)⟩
  rw [List.map_append]
  exact own_fr hr hs (fun k hk => own_bk hr hb8 (by decide) hk)
theorem SrcB.upd (h : SrcB w base b2 gb bm m rl uv uc us uf nv nc ns nf vs cs ss fs f) (hm : MapV w8 bm m' f') (hg : w.grownBy w8 (some bm)) : SrcB w8 base b2 gb bm m' rl uv uc us uf nv nc ns nf vs cs ss fs f' :=
  ⟨h.bk.fr (grown_fr hg) (fun e => by injection e with e; exact h.mp.ne h.bk e.symm), own_fr h.rv (grown_fr hg) (fun k hk e => by injection e with e; exact h.mp.ne_own h.rv hk e.symm), own_fr h.rc (grown_fr hg) (fun k hk e => by injection e with e; exact h.mp.ne_own h.rc hk e.symm), own_fr h.rs (grown_fr hg) (fun k hk e => by injection e with e; exact h.mp.ne_own h.rs hk e.symm), own_fr h.rf (grown_fr hg) (fun k hk e => by injection e with e; exact h.mp.ne_own h.rf hk e.symm), hm⟩
theorem SrcB.sorted {vs' : List Int} (h : SrcB w base b2 gb bm m rl uv (.slice none 0 0) us uf nv 0 ns nf vs [] ss fs f) (hr : w8.ownsRow base 3 1 uv nv (vs'.map I64)) (hg : w.grownBy w8 uv.ownBlock) : SrcB w8 base w8.heap.size gb bm m rl uv (.slice none 0 0) us uf nv 0 ns nf vs' [] ss fs f :=
  ⟨h.bk.fr (grown_fr hg) (fun e => own_bk h.rv h.bk (by decide) e rfl), hr, World.ownsRow_nil _ _ _ _, own_fr h.rs (grown_fr hg) (fun q hq e => own_ne h.rv h.rs (by decide) e hq), own_fr h.rf (grown_fr hg) (fun q hq e => own_ne h.rv h.rf (by decide) e hq), h.mp.fr (grown_fr hg) (fun e => h.mp.ne_own h.rv e rfl)⟩
end
end Go.Proofs.YtmmmdinncmbjkaaGreat
