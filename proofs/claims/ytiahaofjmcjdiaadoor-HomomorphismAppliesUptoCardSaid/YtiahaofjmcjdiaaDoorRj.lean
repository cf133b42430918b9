/- From readings of arguments to the words of the walks: names, pairs, under the bound on the bulk. -/
import Derived.Test.YtiahaofjmcjdiaaDoorRd
import Derived.Test.YtiahaofjmcjdiaaDoorRi
namespace Go.Proofs.YtiahaofjmcjdiaaDoor
open Go.ChangeShapes Go.WideShapes Go.ChangeAt Go.RowKit Go.Joins Go.Deep

section
variable {H : Type} {enc : TypeId × Value → H} {W : World} {base : Nat}

set_option maxRecDepth 20000 in
theorem open_strs {v : Value} {d : DataW H} {p : List MemPlace} (hv : Value.okWide Tryd.prog W .any base 26 v) (h : DataW.Trod enc Tryd.prog W 0 (fun _ => true) true 26 v d p) (hb : Rows.uptoBulk d ≤ 1048576) :
    ∃ l : List ByteArray, Strs (fun _ => True) W v l ∧ (∀ s ∈ l, s.size ≤ 1048576) ∧ l.length ≤ 1048576 := by
  obtain ⟨a0, len0, cap0, rfl⟩ := okWide_slice Tryd.underlying26 hv
  obtain ⟨fuel, hf⟩ := h
  rcases open_slice Tryd.underlying26 hf with ⟨hcs, hx⟩ | ⟨a, len, cap, m, n, D, Pl, hcs, -, hl, -, hm, hx, hi⟩
  · simp only [Value.cells] at hcs
    injection hcs with hcs
    rw [hcs]
    exact ⟨[], ⟨none, 0, rfl, by simp, .inl rfl⟩, fun t ht => by simp at ht, by simp⟩
  · simp only [Value.cells] at hcs
    injection hcs with hcs
    rw [hcs]
    injection hx with hx _
    subst hx
    simp only [if_true] at hm
    have hC : Tryd.prog.cellsOf 9 = 1 := by kernel_rfl
    obtain ⟨l, t1, t2, t3, t4⟩ := pick_sum (p := fun i (s : ByteArray) => W.cell? (a.add i) = some (.string s)) (m := fun s => s.size + 1) (D := D) len (fun i hil => by
      obtain ⟨cs', hc, ht⟩ := hi i (by omega)
      rw [hC] at hc
      obtain ⟨s, rfl, hd, -⟩ := DataW.trod_string Tryd.underlying9 ht
      injection hd with hd _
      have h0 := cells_at hc (j := 0) (by omega)
      rw [Go.Deep.add_add, Nat.mul_one] at h0
      refine ⟨s, by simpa using h0, ?_⟩
      rw [hd]; simp only [Rows.uptoBulk, data_len]; omega)
    have hbs : Rows.uptoBulk (DataW.slice ((List.range len).map D) ((List.range (m - len)).map fun j => D (len + j))) = Rows.uptoBulkAll ((List.range len).map D) + Rows.uptoBulkAll ((List.range (m - len)).map fun j => D (len + j)) + 1 := rfl
    rw [hbs] at hb
    have hln : l.length ≤ (l.map (fun s => s.size + 1)).sum := by
      clear t1 t2 t3 t4
      induction l with
      | nil => simp
      | cons t ts ih => simp only [List.map_cons, List.sum_cons, List.length_cons] at ih ⊢; omega
    refine ⟨l, ⟨some a, cap, by rw [t1], by omega, .inr ⟨a, rfl, trivial, fun j hj => ?_⟩⟩, fun s hs => ?_, by omega⟩
    · have hj2 : j < l.length := by simpa using hj
      rw [t2 j hj2]; simp
    · have := t4 s hs; omega

def prBulk (p : ByteArray × Tm) : Nat := p.1.size + p.2.bulk
set_option maxRecDepth 20000 in
theorem open_pairs {v : Value} {d : DataW H} {p : List MemPlace} (hv : Value.okWide Tryd.prog W .any base 29 v) (h : DataW.Trod enc Tryd.prog W 0 (fun _ => true) true 29 v d p) (hb : Rows.uptoBulk d ≤ 1048576) :
    ∃ l : List (ByteArray × Tm), Prs (fun _ => True) W v l ∧ (∀ q ∈ l, q.2.Rng ∧ q.1.size ≤ 1048576 ∧ q.2.var.size ≤ 1048576 ∧ q.2.str.size ≤ 1048576) ∧ l.length ≤ 1048576 := by
  obtain ⟨a0, len0, cap0, rfl⟩ := okWide_slice Tryd.underlying29 hv
  obtain ⟨fuel, hf⟩ := h
  rcases open_slice Tryd.underlying29 hf with ⟨hcs, hx⟩ | ⟨a, len, cap, m, n, D, Pl, hcs, -, hl, -, hm, hx, hi⟩
  · simp only [Value.cells] at hcs
    injection hcs with hcs
    rw [hcs]
    exact ⟨[], ⟨none, 0, rfl, by simp, .inl rfl⟩, fun t ht => by simp at ht, by simp⟩
  · simp only [Value.cells] at hcs
    injection hcs with hcs
    rw [hcs]
    injection hx with hx _
    subst hx
    simp only [if_true] at hm
    have hC : Tryd.prog.cellsOf 49 = 5 := by kernel_rfl
    obtain ⟨l, t1, t2, t3, t4⟩ := pick_sum (p := fun i (q : ByteArray × Tm) => q.2.Rng ∧ ∀ j, j < 5 → W.cell? (a.add (5 * i + j)) = (pairC q.1 q.2)[j]?) (m := prBulk) (D := D) len (fun i hil => by
      obtain ⟨cs', hc, ht⟩ := hi i (by omega)
      rw [hC] at hc
      obtain ⟨y0, y1, n2, hx, hl2, h0, h1⟩ := trod_struct2 Tryd.underlying49 ht
      have hc5 : cs'.length = 5 := hl2.trans hC
      match cs', hc5 with
      | [c0, c1, c2, c3, c4], _ =>
        have f0 : DataW.trod enc Tryd.prog W 0 (fun _ => true) true n2 9 [c0] = some y0 := h0
        have f1 : DataW.trod enc Tryd.prog W 0 (fun _ => true) true n2 47 [c1, c2, c3, c4] = some y1 := h1
        obtain ⟨s0, e0, rfl, -⟩ := DataW.trod_string Tryd.underlying9 f0
        obtain ⟨t, et, hr, hbt⟩ := open_term f1
        injection e0 with e0
        subst e0
        injection hx with hx _
        refine ⟨(s0, t), ⟨hr, fun j hj => ?_⟩, ?_⟩
        · have h2 := cells_at hc hj
          rw [Go.Deep.add_add, Nat.mul_comm] at h2
          rw [h2, et]
          rfl
        · rw [hx]
          simp only [prBulk, Rows.uptoBulk, Rows.uptoBulkAll, data_len]
          omega)
    have hbs : Rows.uptoBulk (DataW.slice ((List.range len).map D) ((List.range (m - len)).map fun j => D (len + j))) = Rows.uptoBulkAll ((List.range len).map D) + Rows.uptoBulkAll ((List.range (m - len)).map fun j => D (len + j)) + 1 := rfl
    rw [hbs] at hb
    have hln : l.length ≤ (l.map prBulk).sum := by
      clear t1 t2 t3 t4
      induction l with
      | nil => simp
      | cons t ts ih => simp only [List.map_cons, List.sum_cons, List.length_cons, prBulk, Tm.bulk] at ih ⊢; omega
    refine ⟨l, ⟨some a, cap, by rw [t1], by omega, .inr ⟨a, rfl, trivial, fun j hj => ?_⟩⟩, fun q hq => ⟨?_, ?_⟩, by omega⟩
    · rw [pcells_length] at hj
      have hq : j / 5 < l.length := by omega
      have h1 := (t2 (j / 5) hq).2 (j % 5) (by omega)
      have h2 := pcells_get hq (j % 5) (by omega)
      rw [show 5 * (j / 5) + j % 5 = j by omega] at h1 h2
      rw [h1, ← h2, List.getElem?_eq_getElem]
    · obtain ⟨i, hi2, rfl⟩ := List.getElem_of_mem hq
      exact (t2 i hi2).1
    · have := t4 q hq
      simp only [prBulk, Tm.bulk] at this
      omega
end
end Go.Proofs.YtiahaofjmcjdiaaDoor
