/- From readings of arguments to the words of the walks, under the bound on the bulk. -/
import Derived.Test.YtehklbdgkppmeaaDoorJc
import Derived.Test.YtehklbdgkppmeaaDoorCards
import Derived.Test.YtehklbdgkppmeaaDoorTie
import Derived.ProofKit
import Derived.OpenShut
import Derived.Lib.SmallJoins
import Derived.Deep.Slices
import Derived.Deep.Fields
import Derived.Deep.DeepHandedRow
import Derived.Lib.LaidTab
namespace Go.Proofs.YtehklbdgkppmeaaDoor
open Go.ChangeShapes Go.WideShapes Go.ChangeAt Go.RowKit Go.Joins Go.Deep

theorem own : ownKnob Tryd.prog.godebug = none := by kernel_rfl
theorem laidOut : laidOutB Tryd.prog = true := by kernel_rfl
theorem wf_i64 {n : Int} (h : (Lit.int .i64 n).wf = true) : -9223372036854775808 ≤ n ∧ n ≤ 9223372036854775807 := by have := bounds_i64 h; omega
section
variable {H : Type} {enc : TypeId × Value → H} {W : World} {base : Nat}
theorem bulk_one (d : DataW H) : 1 ≤ Rows.uptoBulk d := by
  cases d with
  | lit l => cases l <;> simp [Rows.uptoBulk]
  | nil => simp [Rows.uptoBulk]
  | ptr d => simp [Rows.uptoBulk]
  | slice elems spare => simp [Rows.uptoBulk]
  | agg parts => simp [Rows.uptoBulk]
  | iface t d => simp [Rows.uptoBulk]
  | map entries => simp [Rows.uptoBulk]
  | held h => simp [Rows.uptoBulk]
theorem bulk_app (l r : List (DataW H)) : Rows.uptoBulkAll (l ++ r) = Rows.uptoBulkAll l + Rows.uptoBulkAll r := by
  induction l with
  | nil => simp [Rows.uptoBulkAll]
  | cons x l ih => simp only [List.cons_append, Rows.uptoBulkAll, ih]; omega
/-- One thing for each place, their measures below the places' bulk. -/
theorem pick_sum {α : Type} {p : Nat → α → Prop} {m : α → Nat} {D : Nat → DataW H} : ∀ n : Nat, (∀ i, i < n → ∃ a, p i a ∧ m a ≤ Rows.uptoBulk (D i)) →
    ∃ l : List α, l.length = n ∧ (∀ i (h : i < l.length), p i l[i]) ∧ (l.map m).sum ≤ Rows.uptoBulkAll ((List.range n).map D) ∧ ∀ a ∈ l, m a ≤ Rows.uptoBulkAll ((List.range n).map D)
  | 0, _ => ⟨[], rfl, fun i h => by simp at h, by simp, fun a h => by simp at h⟩
  | n + 1, hp => by
    obtain ⟨l, h1, h2, h3, h4⟩ := pick_sum n (fun i hi => hp i (by omega))
    obtain ⟨a, ha, hm⟩ := hp n (by omega)
    have eb : Rows.uptoBulkAll ((List.range (n + 1)).map D) = Rows.uptoBulkAll ((List.range n).map D) + Rows.uptoBulk (D n) := by
      rw [List.range_succ, List.map_append, bulk_app]; simp [Rows.uptoBulkAll]
    refine ⟨l ++ [a], by simp [h1], fun i h => ?_, by rw [eb]; simp; omega, fun b hb => ?_⟩
    · rcases Nat.lt_or_ge i n with hi | hi
      · rw [List.getElem_append_left (by omega)]; exact h2 i (by omega)
      · have hin : i = n := by simp at h; omega
        subst hin
        rw [List.getElem_append_right (by omega)]
        simp [h1]; exact ha
    · rw [List.mem_append, List.mem_singleton] at hb
      rcases hb with hb | rfl
      · have := h4 b hb; omega
      · omega
/-- Integers in range. -/
def Tm.Rng (t : Tm) : Prop := -9223372036854775808 ≤ t.kind ∧ t.kind ≤ 9223372036854775807 ∧ -9223372036854775808 ≤ t.int ∧ t.int ≤ 9223372036854775807
def Tm.bulk (t : Tm) : Nat := t.var.size + t.str.size + 1
theorem data_len (s : ByteArray) : s.data.toList.length = s.size := by rw [Array.length_toList]; rfl
set_option maxRecDepth 20000 in
theorem open_term {fuel : Nat} {cs : List Value} {x : DataW H × List MemPlace} (h : DataW.trod enc Tryd.prog W 0 (fun _ => true) true fuel 66 cs = some x) : ∃ t : Tm, cs = t.cells ∧ t.Rng ∧ t.bulk ≤ Rows.uptoBulk x.1 := by
  obtain ⟨y0, y1, n, rfl, hl, h0, h1⟩ := trod_struct2 Tryd.underlying66 h
  obtain ⟨xs, n2, -, rfl, hl2, hxl, hf⟩ := DataW.trod_struct Tryd.underlying64 h1
  have hc4 : cs.length = 4 := hl.trans (by kernel_rfl)
  match cs, hc4 with
  | [c0, c1, c2, c3], _ =>
    have h0' : DataW.trod enc Tryd.prog W 0 (fun _ => true) true n 9 [c0] = some y0 := h0
    obtain ⟨s0, e0, rfl, -⟩ := DataW.trod_string Tryd.underlying9 h0'
    match xs, hxl with
    | [z0, z1, z2], _ =>
      have f0 : DataW.trod enc Tryd.prog W 0 (fun _ => true) true n2 3 [c1] = some z0 := hf 0 _ rfl
      have f1 : DataW.trod enc Tryd.prog W 0 (fun _ => true) true n2 2 [c2] = some z1 := hf 1 _ rfl
      have f2 : DataW.trod enc Tryd.prog W 0 (fun _ => true) true n2 9 [c3] = some z2 := hf 2 _ rfl
      obtain ⟨k0, e1, rfl, w1⟩ := DataW.trod_int Tryd.underlying3 f0
      obtain ⟨k1, e2, rfl, w2⟩ := DataW.trod_int Tryd.underlying2 f1
      obtain ⟨s1, e3, rfl, -⟩ := DataW.trod_string Tryd.underlying9 f2
      injection e0 with e0; injection e1 with e1; injection e2 with e2; injection e3 with e3
      subst e0 e1 e2 e3
      refine ⟨⟨s0, k0, k1, s1⟩, rfl, ⟨(wf_i64 w1).1, (wf_i64 w1).2, (wf_i64 w2).1, (wf_i64 w2).2⟩, ?_⟩
      simp only [Tm.bulk, Rows.uptoBulk, Rows.uptoBulkAll, List.map_cons, List.map_nil, data_len]
      omega
theorem cells_at {cs : List Value} {a : Addr} {n : Nat} (h : W.cells? 0 a n = some cs) {j : Nat} (hj : j < n) : W.cell? (a.add j) = cs[j]? := (World.cells?_some h).2.2 j hj
set_option maxRecDepth 20000 in
theorem open_terms {fuel : Nat} {v : Value} {x : DataW H × List MemPlace} (h : DataW.trod enc Tryd.prog W 0 (fun _ => true) true fuel 37 [v] = some x) :
    ∃ ts : List Tm, Ts (fun _ => True) W v ts ∧ (∀ t ∈ ts, t.Rng ∧ t.bulk ≤ Rows.uptoBulk x.1) ∧ ts.length + 1 ≤ Rows.uptoBulk x.1 := by
  rcases open_slice Tryd.underlying37 h with ⟨hcs, rfl⟩ | ⟨a, len, cap, m, n, D, Pl, hcs, -, hl, -, hm, rfl, hi⟩
  · injection hcs with hcs
    subst hcs
    exact ⟨[], ⟨none, 0, rfl, by simp, .inl rfl⟩, fun t ht => by simp at ht, by simp [Rows.uptoBulk]⟩
  · injection hcs with hcs
    subst hcs
    simp only [if_true] at hm
    have hC : Tryd.prog.cellsOf 66 = 4 := by kernel_rfl
    obtain ⟨ts, t1, t2, t3, t4⟩ := pick_sum (p := fun i (t : Tm) => t.Rng ∧ ∀ j, j < 4 → W.cell? (a.add (4 * i + j)) = t.cells[j]?) (m := Tm.bulk) (D := D) len (fun i hil => by
      obtain ⟨cs', hc, ht⟩ := hi i (by omega)
      obtain ⟨t, rfl, hr, hb⟩ := open_term ht
      rw [hC] at hc
      refine ⟨t, ⟨hr, fun j hj => ?_⟩, hb⟩
      rw [← cells_at hc hj, Go.Deep.add_add, Nat.mul_comm])
    have hbs : Rows.uptoBulk (DataW.slice ((List.range len).map D) ((List.range (m - len)).map fun j => D (len + j))) = Rows.uptoBulkAll ((List.range len).map D) + Rows.uptoBulkAll ((List.range (m - len)).map fun j => D (len + j)) + 1 := rfl
    have hln : ts.length ≤ (ts.map Tm.bulk).sum := by
      clear t1 t2 t3 t4
      induction ts with
      | nil => simp
      | cons t ts ih => simp only [List.map_cons, List.sum_cons, List.length_cons, Tm.bulk] at ih ⊢; omega
    refine ⟨ts, ⟨some a, cap, by rw [t1], by omega, ?_⟩, fun t ht => ⟨?_, ?_⟩, ?_⟩
    · refine .inr ⟨a, rfl, trivial, fun j hj => ?_⟩
      rw [tcells_length] at hj
      have hq : j / 4 < ts.length := by omega
      have h1 := (t2 (j / 4) hq).2 (j % 4) (by omega)
      have h2 := tcells_get hq (j % 4) (by omega)
      rw [show 4 * (j / 4) + j % 4 = j by omega] at h1 h2
      rw [h1, ← h2, List.getElem?_eq_getElem]
    · obtain ⟨i, hi2, rfl⟩ := List.getElem_of_mem ht
      exact (t2 i hi2).1
    · have := t4 t ht
      simp only [hbs]; omega
    · simp only [hbs]; omega
def At.bulk (a : At) : Nat := a.rel.size + a.terms.length + 1
theorem allT_sum (xs : List At) : (allT xs).length ≤ (xs.map At.bulk).sum := by
  induction xs with
  | nil => simp [allT]
  | cons a xs ih =>
    have e : allT (a :: xs) = a.terms ++ allT xs := by simp [allT]
    rw [e, List.length_append, List.map_cons, List.sum_cons]
    simp only [At.bulk] at ih ⊢
    omega
theorem len_sum (xs : List At) : xs.length ≤ (xs.map At.bulk).sum := by
  induction xs with
  | nil => simp
  | cons a xs ih => simp only [List.map_cons, List.sum_cons, List.length_cons, At.bulk] at ih ⊢; omega
set_option maxRecDepth 20000 in
theorem open_atoms {fuel : Nat} {v : Value} {x : DataW H × List MemPlace} (h : DataW.trod enc Tryd.prog W 0 (fun _ => true) true fuel 22 [v] = some x) (hb : Rows.uptoBulk x.1 ≤ 1048576) :
    ∃ xs : List At, Ats (fun _ => True) W v xs ∧ Rg xs ∧ ∀ a ∈ xs, ∀ t ∈ a.terms, t.var.size + 2 ≤ Rows.uptoBulk x.1 := by
  rcases open_slice Tryd.underlying22 h with ⟨hcs, rfl⟩ | ⟨a, len, cap, m, n, D, Pl, hcs, -, hl, -, hm, rfl, hi⟩
  · injection hcs with hcs
    subst hcs
    exact ⟨[], ⟨none, 0, [], rfl, by simp, rfl, .inl rfl, fun i h => by simp at h⟩, ⟨⟨by simp, by simp [allT], fun t ht => by simp at ht, fun t ht => by simp at ht⟩, fun t ht => by simp at ht⟩, fun t ht => by simp at ht⟩
  · injection hcs with hcs
    subst hcs
    simp only [if_true] at hm
    have hC : Tryd.prog.cellsOf 39 = 3 := by kernel_rfl
    have hbs : Rows.uptoBulk (DataW.slice ((List.range len).map D) ((List.range (m - len)).map fun j => D (len + j))) = Rows.uptoBulkAll ((List.range len).map D) + Rows.uptoBulkAll ((List.range (m - len)).map fun j => D (len + j)) + 1 := rfl
    simp only [hbs] at hb
    obtain ⟨l, t1, t2, t3, t4⟩ := pick_sum (p := fun i (q : At × Value) => (∀ t ∈ q.1.terms, t.Rng ∧ t.bulk ≤ Rows.uptoBulk (D i)) ∧ Ts (fun _ => True) W q.2 q.1.terms ∧ W.cell? (a.add (i * 3)) = some (.bool q.1.neg) ∧ W.cell? (a.add (i * 3 + 1)) = some (.string q.1.rel) ∧ W.cell? (a.add (i * 3 + 2)) = some q.2) (m := fun q => q.1.bulk) (D := D) len (fun i hil => by
      obtain ⟨cs', hc, ht⟩ := hi i (by omega)
      rw [hC] at hc
      obtain ⟨ys, n2, -, hx, hcl, hyl, hf⟩ := DataW.trod_struct Tryd.underlying39 ht
      have hc3 : cs'.length = 3 := hcl.trans hC
      match cs', hc3 with
      | [c0, c1, c2], _ =>
        match ys, hyl with
        | [z0, z1, z2], _ =>
          have f0 : DataW.trod enc Tryd.prog W 0 (fun _ => true) true n2 4 [c0] = some z0 := hf 0 _ rfl
          have f1 : DataW.trod enc Tryd.prog W 0 (fun _ => true) true n2 9 [c1] = some z1 := hf 1 _ rfl
          have f2 : DataW.trod enc Tryd.prog W 0 (fun _ => true) true n2 37 [c2] = some z2 := hf 2 _ rfl
          obtain ⟨b0, e0, rfl⟩ := DataW.trod_bool Tryd.underlying4 f0
          obtain ⟨s1, e1, rfl, -⟩ := DataW.trod_string Tryd.underlying9 f1
          obtain ⟨ts, hts, hr, hln⟩ := open_terms f2
          injection e0 with e0; injection e1 with e1
          subst e0 e1
          injection hx with hx _
          have k0 := cells_at hc (j := 0) (by omega)
          have k1 := cells_at hc (j := 1) (by omega)
          have k2 := cells_at hc (j := 2) (by omega)
          rw [Go.Deep.add_add] at k0 k1 k2
          have eb : Rows.uptoBulk (D i) = 1 + (s1.size + 1 + (Rows.uptoBulk z2.1 + 0)) + 1 := by
            rw [hx]; simp only [Rows.uptoBulk, Rows.uptoBulkAll, List.map_cons, List.map_nil, data_len]
          refine ⟨(⟨b0, s1, ts⟩, c2), ⟨fun t ht => ⟨(hr t ht).1, by have := (hr t ht).2; omega⟩, hts, k0, k1, k2⟩, ?_⟩
          simp only [At.bulk]
          omega)
    have hlen : (l.map (·.1)).length = len := by simp [t1]
    have hlv : (l.map (·.2)).length = len := by simp [t1]
    have hsum : ((l.map (·.1)).map At.bulk).sum ≤ 1048576 := by rw [List.map_map]; exact Nat.le_trans t3 (by omega)
    have hall := allT_sum (l.map (·.1))
    have hlsum := len_sum (l.map (·.1))
    have hDall : ∀ i, i < len → Rows.uptoBulk (D i) ≤ Rows.uptoBulkAll ((List.range len).map D) := fun i hi2 => by
      have hmem : D i ∈ (List.range len).map D := List.mem_map.2 ⟨i, by simpa using hi2, rfl⟩
      have hpl : ∀ {l : List (DataW H)}, D i ∈ l → Rows.uptoBulk (D i) ≤ Rows.uptoBulkAll l := by
        intro l hl2
        induction l with
        | nil => cases hl2
        | cons y r ih =>
          simp only [Rows.uptoBulkAll]
          rcases List.mem_cons.1 hl2 with e | e
          · rw [← e]; omega
          · have := ih e; omega
      exact hpl hmem
    have hDi : ∀ i, i < len → Rows.uptoBulk (D i) ≤ 1048576 := fun i hi2 => by have := hDall i hi2; omega
    have hat : ∀ i (h : i < (l.map (·.1)).length), ∃ q, l[i]? = some q ∧ (l.map (·.1))[i] = q.1 := fun i h => by
      have hil : i < l.length := by simpa using h
      exact ⟨l[i], List.getElem?_eq_getElem hil, by simp⟩
    refine ⟨l.map (·.1), ⟨some a, cap, l.map (·.2), by rw [hlen], by omega, by simp, ?_, ?_⟩, ⟨⟨by omega, by omega, ?_, ?_⟩, ?_⟩, ?_⟩
    · refine .inr ⟨a, rfl, trivial, fun j hj => ?_⟩
      rw [acells_length (by simp)] at hj
      have hq : j / 3 < (l.map (·.1)).length := by omega
      have hq2 : j / 3 < (l.map (·.2)).length := by simpa using hq
      have hq3 : j / 3 < l.length := by simpa using hq
      obtain ⟨g0, g1, g2⟩ := acells_get (xs := l.map (·.1)) (vs := l.map (·.2)) hq hq2
      obtain ⟨-, -, k0, k1, k2⟩ := t2 (j / 3) hq3
      rw [List.getElem_map] at g0 g1 g2
      have key : W.cell? (a.add j) = (acells (l.map (·.1)) (l.map (·.2)))[j]? := by
        rcases (show j = j / 3 * 3 ∨ j = j / 3 * 3 + 1 ∨ j = j / 3 * 3 + 2 by omega) with e | e | e
        · have h1 := k0.trans g0.symm; rw [← e] at h1; exact h1
        · have h1 := k1.trans g1.symm; rw [← e] at h1; exact h1
        · have h1 := k2.trans g2.symm; rw [← e] at h1; exact h1
      rw [key, List.getElem?_eq_getElem]
    · intro i h h'
      have hil : i < l.length := by simpa using h
      have := (t2 i hil).2.1
      simpa using this
    · intro b hb2
      obtain ⟨q, hq, rfl⟩ := List.mem_map.1 hb2
      have := t4 q hq
      simp only [At.bulk] at this
      omega
    · intro b hb2 t ht
      obtain ⟨q, hq, rfl⟩ := List.mem_map.1 hb2
      obtain ⟨i, hi2, rfl⟩ := List.getElem_of_mem hq
      have h1 := ((t2 i hi2).1 t ht).2
      have h2 := hDi i (by omega)
      simp only [Tm.bulk] at h1
      omega
    · intro b hb2 t ht
      obtain ⟨q, hq, rfl⟩ := List.mem_map.1 hb2
      obtain ⟨i, hi2, rfl⟩ := List.getElem_of_mem hq
      exact ((t2 i hi2).1 t ht).1
    · intro b hb2 t ht
      obtain ⟨q, hq, rfl⟩ := List.mem_map.1 hb2
      obtain ⟨i, hi2, rfl⟩ := List.getElem_of_mem hq
      have h1 := ((t2 i hi2).1 t ht).2
      have h2 := hDall i (by omega)
      simp only [Tm.bulk] at h1
      simp only [hbs]
      omega
end
/-- The table of powers of ten, from the row's list. -/
theorem gTab : Tryd.prog.globalNamed "internal/strconv.uint64pow10" = some 1 := by kernel_rfl
theorem tab_of {W : World} (h : laidMetH Tryd.prog Rows.minimizeCoresRow.laid W) : TabE W := by
  have h1 : laidMet Tryd.prog [("internal/strconv.uint64pow10", Rows.laid_internal_strconv_uint64pow10)] W := h.filter (fun x => x.1 == "internal/strconv.uint64pow10")
  have e : (Rows.laid_internal_strconv_uint64pow10 : DataW Unit) = Lib.tabData .u64 Lib.pow10Tab := by kernel_rfl
  rw [e] at h1
  exact Lib.tabBelow_of_tabIs (Lib.tabIs_of_head (rest := []) gTab (by kernel_rfl) Tryd.underlying154 Tryd.underlying136 (by kernel_rfl) (by kernel_rfl) h1)
/-- A world for the witness: the settled one, the three tables holding what their initialisers lay. -/
noncomputable def laidObj (cs : Array Value) : Obj → Obj
  | .cells _ t frozen => .cells cs t frozen
  | o => o
noncomputable def laidWorld (os : Os) : World :=
  { World.holding Tryd.prog os ⟨#[], #[], []⟩ with heap := (((World.holding Tryd.prog os ⟨#[], #[], []⟩).heap.modify 1 (laidObj #[.int .u64 1, .int .u64 10, .int .u64 100, .int .u64 1000, .int .u64 10000, .int .u64 100000, .int .u64 1000000, .int .u64 10000000, .int .u64 100000000, .int .u64 1000000000, .int .u64 10000000000, .int .u64 100000000000, .int .u64 1000000000000, .int .u64 10000000000000, .int .u64 100000000000000, .int .u64 1000000000000000, .int .u64 10000000000000000, .int .u64 100000000000000000, .int .u64 1000000000000000000, .int .u64 10000000000000000000])).modify 2 (laidObj #[.int .u8 0, .int .u8 1, .int .u8 28, .int .u8 2, .int .u8 29, .int .u8 14, .int .u8 24, .int .u8 3, .int .u8 30, .int .u8 22, .int .u8 20, .int .u8 15, .int .u8 25, .int .u8 17, .int .u8 4, .int .u8 8, .int .u8 31, .int .u8 27, .int .u8 13, .int .u8 23, .int .u8 21, .int .u8 19, .int .u8 16, .int .u8 7, .int .u8 26, .int .u8 12, .int .u8 18, .int .u8 6, .int .u8 11, .int .u8 5, .int .u8 10, .int .u8 9])).modify 3 (laidObj #[.int .u8 0, .int .u8 1, .int .u8 56, .int .u8 2, .int .u8 57, .int .u8 49, .int .u8 28, .int .u8 3, .int .u8 61, .int .u8 58, .int .u8 42, .int .u8 50, .int .u8 38, .int .u8 29, .int .u8 17, .int .u8 4, .int .u8 62, .int .u8 47, .int .u8 59, .int .u8 36, .int .u8 45, .int .u8 43, .int .u8 51, .int .u8 22, .int .u8 53, .int .u8 39, .int .u8 33, .int .u8 30, .int .u8 24, .int .u8 18, .int .u8 12, .int .u8 5, .int .u8 63, .int .u8 55, .int .u8 48, .int .u8 27, .int .u8 60, .int .u8 41, .int .u8 37, .int .u8 16, .int .u8 46, .int .u8 35, .int .u8 44, .int .u8 21, .int .u8 52, .int .u8 32, .int .u8 23, .int .u8 11, .int .u8 54, .int .u8 26, .int .u8 40, .int .u8 15, .int .u8 34, .int .u8 20, .int .u8 31, .int .u8 10, .int .u8 25, .int .u8 14, .int .u8 19, .int .u8 9, .int .u8 13, .int .u8 8, .int .u8 7, .int .u8 6]) }
section
variable {H : Type} {enc : TypeId × Value → H} {W : World} {base : Nat}
set_option maxRecDepth 20000 in
theorem open_strs {v : Value} {d : DataW H} {p : List MemPlace} (hv : Value.okWide Tryd.prog W .any base 26 v) (h : DataW.Trod enc Tryd.prog W 0 (fun _ => true) true 26 v d p) (hb : Rows.uptoBulk d ≤ 1048576) :
    ∃ l : List ByteArray, Strs (fun _ => True) W v l ∧ (∀ s ∈ l, s.size ≤ 1048576) ∧ l.length ≤ 1048576 := by
  obtain ⟨a0, len0, cap0, rfl⟩ := okWide_slice Tryd.underlying26 hv
  obtain ⟨fuel, hf⟩ := h
  rcases open_slice Tryd.underlying26 hf with ⟨hcs, hx⟩ | ⟨a, len, cap, m, n, D, Pl, hcs, -, hl, -, hm, hx, hi⟩
  · simp only [Value.cells] at hcs
    injection hcs with hcs
    rw [hcs]
    exact ⟨[], ⟨none, 0, rfl, by simp, .inl rfl⟩, fun t ht => by simp at ht, by simp⟩
  · simp only [Value.cells] at hcs
    injection hcs with hcs
    rw [hcs]
    injection hx with hx _
    subst hx
    simp only [if_true] at hm
    have hC : Tryd.prog.cellsOf 9 = 1 := by kernel_rfl
    obtain ⟨l, t1, t2, t3, t4⟩ := pick_sum (p := fun i (s : ByteArray) => W.cell? (a.add i) = some (.string s)) (m := fun s => s.size + 1) (D := D) len (fun i hil => by
      obtain ⟨cs', hc, ht⟩ := hi i (by omega)
      rw [hC] at hc
      obtain ⟨s, rfl, hd, -⟩ := DataW.trod_string Tryd.underlying9 ht
      injection hd with hd _
      have h0 := cells_at hc (j := 0) (by omega)
      rw [Go.Deep.add_add, Nat.mul_one] at h0
      refine ⟨s, by simpa using h0, ?_⟩
      rw [hd]; simp only [Rows.uptoBulk, data_len]; omega)
    have hbs : Rows.uptoBulk (DataW.slice ((List.range len).map D) ((List.range (m - len)).map fun j => D (len + j))) = Rows.uptoBulkAll ((List.range len).map D) + Rows.uptoBulkAll ((List.range (m - len)).map fun j => D (len + j)) + 1 := rfl
    rw [hbs] at hb
    have hln : l.length ≤ (l.map (fun s => s.size + 1)).sum := by
      clear t1 t2 t3 t4
      induction l with
      | nil => simp
      | cons t ts ih => simp only [List.map_cons, List.sum_cons, List.length_cons] at ih ⊢; omega
    refine ⟨l, ⟨some a, cap, by rw [t1], by omega, .inr ⟨a, rfl, trivial, fun j hj => ?_⟩⟩, fun s hs => ?_, by omega⟩
    · have hj2 : j < l.length := by simpa using hj
      rw [t2 j hj2]; simp
    · have := t4 s hs; omega
end
section
variable {H : Type} {enc : TypeId × Value → H} {W : World} {base : Nat}
set_option maxRecDepth 20000 in
theorem open_cond {fuel : Nat} {cs : List Value} {x : DataW H × List MemPlace} (h : DataW.trod enc Tryd.prog W 0 (fun _ => true) true fuel 93 cs = some x) : cs.length = 5 ∧ ∀ u ∈ cs, u.oneCell' = true := by
  obtain ⟨xs, n, -, -, hl, hxl, hg⟩ := DataW.trod_struct Tryd.underlying93 h
  have hc5 : cs.length = 5 := hl.trans (by kernel_rfl)
  refine ⟨hc5, ?_⟩
  match cs, hc5 with
  | [c0, c1, c2, c3, c4], _ =>
    match xs, hxl with
    | [y0, y1, y2], _ =>
      have g0 : DataW.trod enc Tryd.prog W 0 (fun _ => true) true n 9 [c0] = some y0 := hg 0 _ rfl
      have g1 : DataW.trod enc Tryd.prog W 0 (fun _ => true) true n 3 [c1] = some y1 := hg 1 _ rfl
      have g2 : DataW.trod enc Tryd.prog W 0 (fun _ => true) true n 64 [c2, c3, c4] = some y2 := hg 2 _ rfl
      obtain ⟨zs, n2, -, -, -, hzl, hf⟩ := DataW.trod_struct Tryd.underlying64 g2
      match zs, hzl with
      | [z0, z1, z2], _ =>
        have f0 : DataW.trod enc Tryd.prog W 0 (fun _ => true) true n2 3 [c2] = some z0 := hf 0 _ rfl
        have f1 : DataW.trod enc Tryd.prog W 0 (fun _ => true) true n2 2 [c3] = some z1 := hf 1 _ rfl
        have f2 : DataW.trod enc Tryd.prog W 0 (fun _ => true) true n2 9 [c4] = some z2 := hf 2 _ rfl
        obtain ⟨s0, e0, -, -⟩ := DataW.trod_string Tryd.underlying9 g0
        obtain ⟨k1, e1, -, -⟩ := DataW.trod_int Tryd.underlying3 g1
        obtain ⟨k2, e2, -, -⟩ := DataW.trod_int Tryd.underlying3 f0
        obtain ⟨k3, e3, -, -⟩ := DataW.trod_int Tryd.underlying2 f1
        obtain ⟨s4, e4, -, -⟩ := DataW.trod_string Tryd.underlying9 f2
        injection e0 with e0; injection e1 with e1; injection e2 with e2; injection e3 with e3; injection e4 with e4
        subst e0 e1 e2 e3 e4
        intro u hu
        simp only [List.mem_cons, List.not_mem_nil, or_false] at hu
        rcases hu with rfl | rfl | rfl | rfl | rfl <;> rfl
set_option maxRecDepth 20000 in
theorem open_conds {fuel : Nat} {v : Value} {x : DataW H × List MemPlace} (h : DataW.trod enc Tryd.prog W 0 (fun _ => true) true fuel 23 [v] = some x) (hb : Rows.uptoBulk x.1 ≤ 1048576) :
    ∃ n, n ≤ 1048576 ∧ Cns (fun _ => True) W v n := by
  rcases open_slice Tryd.underlying23 h with ⟨hcs, rfl⟩ | ⟨a, len, cap, m, n, D, Pl, hcs, -, hl, -, hm, rfl, hi⟩
  · injection hcs with hcs
    subst hcs
    exact ⟨0, by omega, Cns.nil _ _⟩
  · injection hcs with hcs
    subst hcs
    simp only [if_true] at hm
    have hC : Tryd.prog.cellsOf 93 = 5 := by kernel_rfl
    have hbs : Rows.uptoBulk (DataW.slice ((List.range len).map D) ((List.range (m - len)).map fun j => D (len + j))) = Rows.uptoBulkAll ((List.range len).map D) + Rows.uptoBulkAll ((List.range (m - len)).map fun j => D (len + j)) + 1 := rfl
    simp only [hbs] at hb
    obtain ⟨l, t1, t2, t3, t4⟩ := pick_sum (p := fun i (_ : Unit) => True) (m := fun _ => 1) (D := D) len (fun i _ => ⟨(), trivial, bulk_one _⟩)
    have hlen : len ≤ 1048576 := by
      have e : (l.map (fun _ => 1)).sum = l.length := by clear t1 t2 t3 t4; induction l with
        | nil => rfl
        | cons y l ih => simp only [List.map_cons, List.sum_cons, List.length_cons, ih]; omega
      omega
    obtain ⟨us, u1, u2, -, -⟩ := pick_sum (p := fun j (u : Value) => W.cell? (a.add j) = some u ∧ u.oneCell' = true) (m := fun _ => 0) (D := D) (len * 5) (fun j hj => by
      obtain ⟨cs', hc, ht⟩ := hi (j / 5) (by omega)
      rw [hC] at hc
      obtain ⟨h5, hone⟩ := open_cond ht
      have hj5 : j % 5 < cs'.length := by omega
      have k := cells_at hc (j := j % 5) (by omega)
      rw [Go.Deep.add_add, show j / 5 * 5 + j % 5 = j by omega, List.getElem?_eq_getElem hj5] at k
      exact ⟨cs'[j % 5], ⟨k, hone _ (List.getElem_mem hj5)⟩, Nat.zero_le _⟩)
    refine ⟨len, hlen, some a, cap, us, rfl, by omega, u1, .inr ⟨a, rfl, trivial, fun j hj => (u2 j hj).1⟩, fun u hu => ?_, fun e => by cases e⟩
    obtain ⟨i, hi2, rfl⟩ := List.getElem_of_mem hu
    exact (u2 i hi2).2
set_option maxRecDepth 100000 in
theorem open_ruleC {v : Value} {d : DataW H} {p : List MemPlace} (hv : Value.okWide Tryd.prog W .any base 25 v) (h : DataW.Trod enc Tryd.prog W 0 (fun _ => true) true 25 v d p) (hb : Rows.uptoBulk d ≤ 1048576) :
    ∃ (sv vc : Value) (n : Nat) (xs : List At), v = .agg #[sv, vc] ∧ Ats (fun _ => True) W sv xs ∧ Rg xs ∧ Cns (fun _ => True) W vc n ∧ n ≤ 1048576 := by
  obtain ⟨v0, v1, y0, y1, n, rfl, rfl, _, h0, h1⟩ := open_agg2 Tryd.underlying25 (by kernel_rfl) (by kernel_rfl) hv h
  simp only [Rows.uptoBulk, Rows.uptoBulkAll] at hb
  obtain ⟨xs, hx, hr, -⟩ := open_atoms h0 (by omega)
  obtain ⟨nc, hn, hC⟩ := open_conds h1 (by omega)
  exact ⟨v0, v1, nc, xs, rfl, hx, hr, hC, hn⟩
end
end Go.Proofs.YtehklbdgkppmeaaDoor
