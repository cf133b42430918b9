/- From readings of arguments to the words of the walks: rules, under the bound on the bulk. -/
import Derived.Test.YtiahaofjmcjdiaaDoorHvb
import Derived.Test.YtiahaofjmcjdiaaDoorCards
import Derived.Test.YtiahaofjmcjdiaaDoorTie
import Derived.ProofKit
import Derived.OpenShut
import Derived.Lib.SmallJoins
import Derived.Deep.Slices
import Derived.Deep.Fields
import Derived.Deep.DeepHandedRow
import Derived.Lib.LaidTab
namespace Go.Proofs.YtiahaofjmcjdiaaDoor
open Go.ChangeShapes Go.WideShapes Go.ChangeAt Go.RowKit Go.Joins Go.Deep

theorem own : ownKnob Tryd.prog.godebug = none := by kernel_rfl
theorem laidOut : laidOutB Tryd.prog = true := by kernel_rfl
theorem wf_i64 {n : Int} (h : (Lit.int .i64 n).wf = true) : -9223372036854775808 ≤ n ∧ n ≤ 9223372036854775807 := by have := bounds_i64 h; omega

section
variable {H : Type} {enc : TypeId × Value → H} {W : World} {base : Nat}

theorem bulk_one (d : DataW H) : 1 ≤ Rows.uptoBulk d := by
  cases d with
  | lit l => cases l <;> simp [Rows.uptoBulk]
  | nil => simp [Rows.uptoBulk]
  | ptr d => simp [Rows.uptoBulk]
  | slice elems spare => simp [Rows.uptoBulk]
  | agg parts => simp [Rows.uptoBulk]
  | iface t d => simp [Rows.uptoBulk]
  | map entries => simp [Rows.uptoBulk]
  | held h => simp [Rows.uptoBulk]
theorem bulk_app (l r : List (DataW H)) : Rows.uptoBulkAll (l ++ r) = Rows.uptoBulkAll l + Rows.uptoBulkAll r := by
  induction l with
  | nil => simp [Rows.uptoBulkAll]
  | cons x l ih => simp only [List.cons_append, Rows.uptoBulkAll, ih]; omega
/-- One thing for each place, their measures below the places' bulk. -/
theorem pick_sum {α : Type} {p : Nat → α → Prop} {m : α → Nat} {D : Nat → DataW H} : ∀ n : Nat, (∀ i, i < n → ∃ a, p i a ∧ m a ≤ Rows.uptoBulk (D i)) →
    ∃ l : List α, l.length = n ∧ (∀ i (h : i < l.length), p i l[i]) ∧ (l.map m).sum ≤ Rows.uptoBulkAll ((List.range n).map D) ∧ ∀ a ∈ l, m a ≤ Rows.uptoBulkAll ((List.range n).map D)
  | 0, _ => ⟨[], rfl, fun i h => by simp at h, by simp, fun a h => by simp at h⟩
  | n + 1, hp => by
    obtain ⟨l, h1, h2, h3, h4⟩ := pick_sum n (fun i hi => hp i (by omega))
    obtain ⟨a, ha, hm⟩ := hp n (by omega)
    have eb : Rows.uptoBulkAll ((List.range (n + 1)).map D) = Rows.uptoBulkAll ((List.range n).map D) + Rows.uptoBulk (D n) := by
      rw [List.range_succ, List.map_append, bulk_app]; simp [Rows.uptoBulkAll]
    refine ⟨l ++ [a], by simp [h1], fun i h => ?_, by rw [eb]; simp; omega, fun b hb => ?_⟩
    · rcases Nat.lt_or_ge i n with hi | hi
      · rw [List.getElem_append_left (by omega)]; exact h2 i (by omega)
      · have hin : i = n := by simp at h; omega
        subst hin
        rw [List.getElem_append_right (by omega)]
        simp [h1]; exact ha
    · rw [List.mem_append, List.mem_singleton] at hb
      rcases hb with hb | rfl
      · have := h4 b hb; omega
      · omega

/-- Integers in range. -/
def Tm.Rng (t : Tm) : Prop := -9223372036854775808 ≤ t.kind ∧ t.kind ≤ 9223372036854775807 ∧ -9223372036854775808 ≤ t.int ∧ t.int ≤ 9223372036854775807
def Tm.bulk (t : Tm) : Nat := t.var.size + t.str.size + 1
theorem data_len (s : ByteArray) : s.data.toList.length = s.size := by rw [Array.length_toList]; rfl

set_option maxRecDepth 20000 in
theorem open_term {fuel : Nat} {cs : List Value} {x : DataW H × List MemPlace} (h : DataW.trod enc Tryd.prog W 0 (fun _ => true) true fuel 47 cs = some x) : ∃ t : Tm, cs = t.cells ∧ t.Rng ∧ t.bulk ≤ Rows.uptoBulk x.1 := by
  obtain ⟨y0, y1, n, rfl, hl, h0, h1⟩ := trod_struct2 Tryd.underlying47 h
  obtain ⟨xs, n2, -, rfl, hl2, hxl, hf⟩ := DataW.trod_struct Tryd.underlying45 h1
  have hc4 : cs.length = 4 := hl.trans (by kernel_rfl)
  match cs, hc4 with
  | [c0, c1, c2, c3], _ =>
    have h0' : DataW.trod enc Tryd.prog W 0 (fun _ => true) true n 9 [c0] = some y0 := h0
    obtain ⟨s0, e0, rfl, -⟩ := DataW.trod_string Tryd.underlying9 h0'
    match xs, hxl with
    | [z0, z1, z2], _ =>
      have f0 : DataW.trod enc Tryd.prog W 0 (fun _ => true) true n2 3 [c1] = some z0 := hf 0 _ rfl
      have f1 : DataW.trod enc Tryd.prog W 0 (fun _ => true) true n2 2 [c2] = some z1 := hf 1 _ rfl
      have f2 : DataW.trod enc Tryd.prog W 0 (fun _ => true) true n2 9 [c3] = some z2 := hf 2 _ rfl
      obtain ⟨k0, e1, rfl, w1⟩ := DataW.trod_int Tryd.underlying3 f0
      obtain ⟨k1, e2, rfl, w2⟩ := DataW.trod_int Tryd.underlying2 f1
      obtain ⟨s1, e3, rfl, -⟩ := DataW.trod_string Tryd.underlying9 f2
      injection e0 with e0; injection e1 with e1; injection e2 with e2; injection e3 with e3
      subst e0 e1 e2 e3
      refine ⟨⟨s0, k0, k1, s1⟩, rfl, ⟨(wf_i64 w1).1, (wf_i64 w1).2, (wf_i64 w2).1, (wf_i64 w2).2⟩, ?_⟩
      simp only [Tm.bulk, Rows.uptoBulk, Rows.uptoBulkAll, List.map_cons, List.map_nil, data_len]
      omega

theorem cells_at {cs : List Value} {a : Addr} {n : Nat} (h : W.cells? 0 a n = some cs) {j : Nat} (hj : j < n) : W.cell? (a.add j) = cs[j]? := (World.cells?_some h).2.2 j hj

set_option maxRecDepth 20000 in
theorem open_terms {fuel : Nat} {v : Value} {x : DataW H × List MemPlace} (h : DataW.trod enc Tryd.prog W 0 (fun _ => true) true fuel 33 [v] = some x) :
    ∃ ts : List Tm, Ts (fun _ => True) W v ts ∧ (∀ t ∈ ts, t.Rng ∧ t.bulk ≤ Rows.uptoBulk x.1) ∧ ts.length + 1 ≤ Rows.uptoBulk x.1 := by
  rcases open_slice Tryd.underlying33 h with ⟨hcs, rfl⟩ | ⟨a, len, cap, m, n, D, Pl, hcs, -, hl, -, hm, rfl, hi⟩
  · injection hcs with hcs
    subst hcs
    exact ⟨[], ⟨none, 0, rfl, by simp, .inl rfl⟩, fun t ht => by simp at ht, by simp [Rows.uptoBulk]⟩
  · injection hcs with hcs
    subst hcs
    simp only [if_true] at hm
    have hC : Tryd.prog.cellsOf 47 = 4 := by kernel_rfl
    obtain ⟨ts, t1, t2, t3, t4⟩ := pick_sum (p := fun i (t : Tm) => t.Rng ∧ ∀ j, j < 4 → W.cell? (a.add (4 * i + j)) = t.cells[j]?) (m := Tm.bulk) (D := D) len (fun i hil => by
      obtain ⟨cs', hc, ht⟩ := hi i (by omega)
      obtain ⟨t, rfl, hr, hb⟩ := open_term ht
      rw [hC] at hc
      refine ⟨t, ⟨hr, fun j hj => ?_⟩, hb⟩
      rw [← cells_at hc hj, Go.Deep.add_add, Nat.mul_comm])
    have hbs : Rows.uptoBulk (DataW.slice ((List.range len).map D) ((List.range (m - len)).map fun j => D (len + j))) = Rows.uptoBulkAll ((List.range len).map D) + Rows.uptoBulkAll ((List.range (m - len)).map fun j => D (len + j)) + 1 := rfl
    have hln : ts.length ≤ (ts.map Tm.bulk).sum := by
      clear t1 t2 t3 t4
      induction ts with
      | nil => simp
      | cons t ts ih => simp only [List.map_cons, List.sum_cons, List.length_cons, Tm.bulk] at ih ⊢; omega
    refine ⟨ts, ⟨some a, cap, by rw [t1], by omega, ?_⟩, fun t ht => ⟨?_, ?_⟩, ?_⟩
    · refine .inr ⟨a, rfl, trivial, fun j hj => ?_⟩
      rw [tcells_length] at hj
      have hq : j / 4 < ts.length := by omega
      have h1 := (t2 (j / 4) hq).2 (j % 4) (by omega)
      have h2 := tcells_get hq (j % 4) (by omega)
      rw [show 4 * (j / 4) + j % 4 = j by omega] at h1 h2
      rw [h1, ← h2, List.getElem?_eq_getElem]
    · obtain ⟨i, hi2, rfl⟩ := List.getElem_of_mem ht
      exact (t2 i hi2).1
    · have := t4 t ht
      simp only [hbs]; omega
    · simp only [hbs]; omega

def At.bulk (a : At) : Nat := a.rel.size + a.terms.length + 1
theorem acells_length : ∀ {xs : List At} {vs : List Value}, vs.length = xs.length → (acells xs vs).length = xs.length * 3
  | [], [], _ => rfl
  | a :: xs, v :: vs, h => by
    have := acells_length (xs := xs) (vs := vs) (by simpa using h)
    simp [acells]; omega
  | [], v :: vs, h => by simp at h
  | a :: xs, [], h => by simp at h
theorem allT_sum (xs : List At) : (allT xs).length ≤ (xs.map At.bulk).sum := by
  induction xs with
  | nil => simp [allT]
  | cons a xs ih =>
    have e : allT (a :: xs) = a.terms ++ allT xs := by simp [allT]
    rw [e, List.length_append, List.map_cons, List.sum_cons]
    simp only [At.bulk] at ih ⊢
    omega
theorem len_sum (xs : List At) : xs.length ≤ (xs.map At.bulk).sum := by
  induction xs with
  | nil => simp
  | cons a xs ih => simp only [List.map_cons, List.sum_cons, List.length_cons, At.bulk] at ih ⊢; omega

set_option maxRecDepth 20000 in
theorem open_atoms {fuel : Nat} {v : Value} {x : DataW H × List MemPlace} (h : DataW.trod enc Tryd.prog W 0 (fun _ => true) true fuel 22 [v] = some x) (hb : Rows.uptoBulk x.1 ≤ 1048576) :
    ∃ xs : List At, Ats (fun _ => True) W v xs ∧ Rg xs := by
  rcases open_slice Tryd.underlying22 h with ⟨hcs, rfl⟩ | ⟨a, len, cap, m, n, D, Pl, hcs, -, hl, -, hm, rfl, hi⟩
  · injection hcs with hcs
    subst hcs
    exact ⟨[], ⟨none, 0, [], rfl, by simp, rfl, .inl rfl, fun i h => by simp at h⟩, ⟨by simp, by simp [allT], fun t ht => by simp at ht, fun t ht => by simp at ht⟩, fun t ht => by simp at ht⟩
  · injection hcs with hcs
    subst hcs
    simp only [if_true] at hm
    have hC : Tryd.prog.cellsOf 61 = 3 := by kernel_rfl
    have hbs : Rows.uptoBulk (DataW.slice ((List.range len).map D) ((List.range (m - len)).map fun j => D (len + j))) = Rows.uptoBulkAll ((List.range len).map D) + Rows.uptoBulkAll ((List.range (m - len)).map fun j => D (len + j)) + 1 := rfl
    simp only [hbs] at hb
    obtain ⟨l, t1, t2, t3, t4⟩ := pick_sum (p := fun i (q : At × Value) => (∀ t ∈ q.1.terms, t.Rng ∧ t.bulk ≤ Rows.uptoBulk (D i)) ∧ Ts (fun _ => True) W q.2 q.1.terms ∧ W.cell? (a.add (i * 3)) = some (.bool q.1.neg) ∧ W.cell? (a.add (i * 3 + 1)) = some (.string q.1.rel) ∧ W.cell? (a.add (i * 3 + 2)) = some q.2) (m := fun q => q.1.bulk) (D := D) len (fun i hil => by
      obtain ⟨cs', hc, ht⟩ := hi i (by omega)
      rw [hC] at hc
      obtain ⟨ys, n2, -, hx, hcl, hyl, hf⟩ := DataW.trod_struct Tryd.underlying61 ht
      have hc3 : cs'.length = 3 := hcl.trans hC
      match cs', hc3 with
      | [c0, c1, c2], _ =>
        match ys, hyl with
        | [z0, z1, z2], _ =>
          have f0 : DataW.trod enc Tryd.prog W 0 (fun _ => true) true n2 4 [c0] = some z0 := hf 0 _ rfl
          have f1 : DataW.trod enc Tryd.prog W 0 (fun _ => true) true n2 9 [c1] = some z1 := hf 1 _ rfl
          have f2 : DataW.trod enc Tryd.prog W 0 (fun _ => true) true n2 33 [c2] = some z2 := hf 2 _ rfl
          obtain ⟨b0, e0, rfl⟩ := DataW.trod_bool Tryd.underlying4 f0
          obtain ⟨s1, e1, rfl, -⟩ := DataW.trod_string Tryd.underlying9 f1
          obtain ⟨ts, hts, hr, hln⟩ := open_terms f2
          injection e0 with e0; injection e1 with e1
          subst e0 e1
          injection hx with hx _
          have k0 := cells_at hc (j := 0) (by omega)
          have k1 := cells_at hc (j := 1) (by omega)
          have k2 := cells_at hc (j := 2) (by omega)
          rw [Go.Deep.add_add] at k0 k1 k2
          have eb : Rows.uptoBulk (D i) = 1 + (s1.size + 1 + (Rows.uptoBulk z2.1 + 0)) + 1 := by
            rw [hx]; simp only [Rows.uptoBulk, Rows.uptoBulkAll, List.map_cons, List.map_nil, data_len]
          refine ⟨(⟨b0, s1, ts⟩, c2), ⟨fun t ht => ⟨(hr t ht).1, by have := (hr t ht).2; omega⟩, hts, k0, k1, k2⟩, ?_⟩
          simp only [At.bulk]
          omega)
    have hlen : (l.map (·.1)).length = len := by simp [t1]
    have hlv : (l.map (·.2)).length = len := by simp [t1]
    have hsum : ((l.map (·.1)).map At.bulk).sum ≤ 1048576 := by rw [List.map_map]; exact Nat.le_trans t3 (by omega)
    have hall := allT_sum (l.map (·.1))
    have hlsum := len_sum (l.map (·.1))
    have hDi : ∀ i, i < len → Rows.uptoBulk (D i) ≤ 1048576 := fun i hi2 => by
      have hmem : D i ∈ (List.range len).map D := List.mem_map.2 ⟨i, by simpa using hi2, rfl⟩
      have hpl : ∀ {l : List (DataW H)}, D i ∈ l → Rows.uptoBulk (D i) ≤ Rows.uptoBulkAll l := by
        intro l hl2
        induction l with
        | nil => cases hl2
        | cons y r ih =>
          simp only [Rows.uptoBulkAll]
          rcases List.mem_cons.1 hl2 with e | e
          · rw [← e]; omega
          · have := ih e; omega
      have := hpl hmem
      omega
    have hat : ∀ i (h : i < (l.map (·.1)).length), ∃ q, l[i]? = some q ∧ (l.map (·.1))[i] = q.1 := fun i h => by
      have hil : i < l.length := by simpa using h
      exact ⟨l[i], List.getElem?_eq_getElem hil, by simp⟩
    refine ⟨l.map (·.1), ⟨some a, cap, l.map (·.2), by rw [hlen], by omega, by simp, ?_, ?_⟩, ⟨by omega, by omega, ?_, ?_⟩, ?_⟩
    · refine .inr ⟨a, rfl, trivial, fun j hj => ?_⟩
      rw [acells_length (by simp)] at hj
      have hq : j / 3 < (l.map (·.1)).length := by omega
      have hq2 : j / 3 < (l.map (·.2)).length := by simpa using hq
      have hq3 : j / 3 < l.length := by simpa using hq
      obtain ⟨g0, g1, g2⟩ := acells_get (xs := l.map (·.1)) (vs := l.map (·.2)) hq hq2
      obtain ⟨-, -, k0, k1, k2⟩ := t2 (j / 3) hq3
      rw [List.getElem_map] at g0 g1 g2
      have key : W.cell? (a.add j) = (acells (l.map (·.1)) (l.map (·.2)))[j]? := by
        rcases (show j = j / 3 * 3 ∨ j = j / 3 * 3 + 1 ∨ j = j / 3 * 3 + 2 by omega) with e | e | e
        · have h1 := k0.trans g0.symm; rw [← e] at h1; exact h1
        · have h1 := k1.trans g1.symm; rw [← e] at h1; exact h1
        · have h1 := k2.trans g2.symm; rw [← e] at h1; exact h1
      rw [key, List.getElem?_eq_getElem]
    · intro i h h'
      have hil : i < l.length := by simpa using h
      have := (t2 i hil).2.1
      simpa using this
    · intro b hb2
      obtain ⟨q, hq, rfl⟩ := List.mem_map.1 hb2
      have := t4 q hq
      simp only [At.bulk] at this
      omega
    · intro b hb2 t ht
      obtain ⟨q, hq, rfl⟩ := List.mem_map.1 hb2
      obtain ⟨i, hi2, rfl⟩ := List.getElem_of_mem hq
      have h1 := ((t2 i hi2).1 t ht).2
      have h2 := hDi i (by omega)
      simp only [Tm.bulk] at h1
      omega
    · intro b hb2 t ht
      obtain ⟨q, hq, rfl⟩ := List.mem_map.1 hb2
      obtain ⟨i, hi2, rfl⟩ := List.getElem_of_mem hq
      exact ((t2 i hi2).1 t ht).1

set_option maxRecDepth 100000 in
theorem open_rule {v : Value} {d : DataW H} {p : List MemPlace} (hv : Value.okWide Tryd.prog W .any base 25 v) (h : DataW.Trod enc Tryd.prog W 0 (fun _ => true) true 25 v d p) (hb : Rows.uptoBulk d ≤ 1048576) :
    ∃ (sv : Value) (C : Option Addr) (n c : Nat) (xs : List At), v = .agg #[sv, .slice C n c] ∧ Ats (fun _ => True) W sv xs ∧ Rg xs := by
  obtain ⟨v0, v1, y0, y1, n, rfl, rfl, _, h0, h1⟩ := open_agg2 Tryd.underlying25 (by kernel_rfl) (by kernel_rfl) hv h
  simp only [Rows.uptoBulk, Rows.uptoBulkAll] at hb
  obtain ⟨xs, hx, hr⟩ := open_atoms h0 (by omega)
  rcases DataW.trod_slice Tryd.underlying23 h1 with ⟨hc, _⟩ | ⟨a, len, cap, _, _, _, _, hc, _⟩
  · injection hc with hc; subst hc
    exact ⟨v0, none, 0, 0, xs, rfl, hx, hr⟩
  · injection hc with hc; subst hc
    exact ⟨v0, some a, len, cap, xs, rfl, hx, hr⟩
end
/-- The table of powers of ten, from the row's list. -/
theorem gTab : Tryd.prog.globalNamed "internal/strconv.uint64pow10" = some 0 := by kernel_rfl
theorem tab_of {W : World} (h : laidMetH Tryd.prog Rows.homomorphismComposesRow.laid W) : TabE W := by
  have h1 : laidMet Tryd.prog [("internal/strconv.uint64pow10", Rows.laid_internal_strconv_uint64pow10)] W := h.filter (fun x => x.1 == "internal/strconv.uint64pow10")
  have e : (Rows.laid_internal_strconv_uint64pow10 : DataW Unit) = Lib.tabData .u64 Lib.pow10Tab := by kernel_rfl
  rw [e] at h1
  exact Lib.tabBelow_of_tabIs (Lib.tabIs_of_head (rest := []) gTab (by kernel_rfl) Tryd.underlying106 Tryd.underlying96 (by kernel_rfl) (by kernel_rfl) h1)
/-- A world for the witness: the settled one, the three tables holding what their initialisers lay. -/
noncomputable def laidObj (cs : Array Value) : Obj → Obj
  | .cells _ t frozen => .cells cs t frozen
  | o => o
noncomputable def laidWorld (os : Os) : World :=
  { World.holding Tryd.prog os ⟨#[], #[], []⟩ with heap := (((World.holding Tryd.prog os ⟨#[], #[], []⟩).heap.modify 0 (laidObj #[.int .u64 1, .int .u64 10, .int .u64 100, .int .u64 1000, .int .u64 10000, .int .u64 100000, .int .u64 1000000, .int .u64 10000000, .int .u64 100000000, .int .u64 1000000000, .int .u64 10000000000, .int .u64 100000000000, .int .u64 1000000000000, .int .u64 10000000000000, .int .u64 100000000000000, .int .u64 1000000000000000, .int .u64 10000000000000000, .int .u64 100000000000000000, .int .u64 1000000000000000000, .int .u64 10000000000000000000])).modify 1 (laidObj #[.int .u8 0, .int .u8 1, .int .u8 28, .int .u8 2, .int .u8 29, .int .u8 14, .int .u8 24, .int .u8 3, .int .u8 30, .int .u8 22, .int .u8 20, .int .u8 15, .int .u8 25, .int .u8 17, .int .u8 4, .int .u8 8, .int .u8 31, .int .u8 27, .int .u8 13, .int .u8 23, .int .u8 21, .int .u8 19, .int .u8 16, .int .u8 7, .int .u8 26, .int .u8 12, .int .u8 18, .int .u8 6, .int .u8 11, .int .u8 5, .int .u8 10, .int .u8 9])).modify 2 (laidObj #[.int .u8 0, .int .u8 1, .int .u8 56, .int .u8 2, .int .u8 57, .int .u8 49, .int .u8 28, .int .u8 3, .int .u8 61, .int .u8 58, .int .u8 42, .int .u8 50, .int .u8 38, .int .u8 29, .int .u8 17, .int .u8 4, .int .u8 62, .int .u8 47, .int .u8 59, .int .u8 36, .int .u8 45, .int .u8 43, .int .u8 51, .int .u8 22, .int .u8 53, .int .u8 39, .int .u8 33, .int .u8 30, .int .u8 24, .int .u8 18, .int .u8 12, .int .u8 5, .int .u8 63, .int .u8 55, .int .u8 48, .int .u8 27, .int .u8 60, .int .u8 41, .int .u8 37, .int .u8 16, .int .u8 46, .int .u8 35, .int .u8 44, .int .u8 21, .int .u8 52, .int .u8 32, .int .u8 23, .int .u8 11, .int .u8 54, .int .u8 26, .int .u8 40, .int .u8 15, .int .u8 34, .int .u8 20, .int .u8 31, .int .u8 10, .int .u8 25, .int .u8 14, .int .u8 19, .int .u8 9, .int .u8 13, .int .u8 8, .int .u8 7, .int .u8 6]) }
end Go.Proofs.YtiahaofjmcjdiaaDoor
