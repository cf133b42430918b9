/- From readings of arguments to the words of the walks: rules with their conditions. -/
import Derived.Test.YtiahaofjmcjdiaaDoorRj
import Derived.Test.YtiahaofjmcjdiaaDoorSa
namespace Go.Proofs.YtiahaofjmcjdiaaDoor
open Go.ChangeShapes Go.WideShapes Go.ChangeAt Go.RowKit Go.Joins Go.Deep

section
variable {H : Type} {enc : TypeId × Value → H} {W : World} {base : Nat}

set_option maxRecDepth 20000 in
theorem open_cond {fuel : Nat} {cs : List Value} {x : DataW H × List MemPlace} (h : DataW.trod enc Tryd.prog W 0 (fun _ => true) true fuel 85 cs = some x) : cs.length = 5 ∧ ∀ u ∈ cs, u.oneCell' = true := by
  obtain ⟨xs, n, -, -, hl, hxl, hg⟩ := DataW.trod_struct Tryd.underlying85 h
  have hc5 : cs.length = 5 := hl.trans (by kernel_rfl)
  refine ⟨hc5, ?_⟩
  match cs, hc5 with
  | [c0, c1, c2, c3, c4], _ =>
    match xs, hxl with
    | [y0, y1, y2], _ =>
      have g0 : DataW.trod enc Tryd.prog W 0 (fun _ => true) true n 9 [c0] = some y0 := hg 0 _ rfl
      have g1 : DataW.trod enc Tryd.prog W 0 (fun _ => true) true n 3 [c1] = some y1 := hg 1 _ rfl
      have g2 : DataW.trod enc Tryd.prog W 0 (fun _ => true) true n 45 [c2, c3, c4] = some y2 := hg 2 _ rfl
      obtain ⟨zs, n2, -, -, -, hzl, hf⟩ := DataW.trod_struct Tryd.underlying45 g2
      match zs, hzl with
      | [z0, z1, z2], _ =>
        have f0 : DataW.trod enc Tryd.prog W 0 (fun _ => true) true n2 3 [c2] = some z0 := hf 0 _ rfl
        have f1 : DataW.trod enc Tryd.prog W 0 (fun _ => true) true n2 2 [c3] = some z1 := hf 1 _ rfl
        have f2 : DataW.trod enc Tryd.prog W 0 (fun _ => true) true n2 9 [c4] = some z2 := hf 2 _ rfl
        obtain ⟨s0, e0, -, -⟩ := DataW.trod_string Tryd.underlying9 g0
        obtain ⟨k1, e1, -, -⟩ := DataW.trod_int Tryd.underlying3 g1
        obtain ⟨k2, e2, -, -⟩ := DataW.trod_int Tryd.underlying3 f0
        obtain ⟨k3, e3, -, -⟩ := DataW.trod_int Tryd.underlying2 f1
        obtain ⟨s4, e4, -, -⟩ := DataW.trod_string Tryd.underlying9 f2
        injection e0 with e0; injection e1 with e1; injection e2 with e2; injection e3 with e3; injection e4 with e4
        subst e0 e1 e2 e3 e4
        intro u hu
        simp only [List.mem_cons, List.not_mem_nil, or_false] at hu
        rcases hu with rfl | rfl | rfl | rfl | rfl <;> rfl

set_option maxRecDepth 20000 in
theorem open_conds {fuel : Nat} {v : Value} {x : DataW H × List MemPlace} (h : DataW.trod enc Tryd.prog W 0 (fun _ => true) true fuel 23 [v] = some x) (hb : Rows.uptoBulk x.1 ≤ 1048576) :
    ∃ n, n ≤ 1048576 ∧ Cns (fun _ => True) W v n := by
  rcases open_slice Tryd.underlying23 h with ⟨hcs, rfl⟩ | ⟨a, len, cap, m, n, D, Pl, hcs, -, hl, -, hm, rfl, hi⟩
  · injection hcs with hcs
    subst hcs
    exact ⟨0, by omega, Cns.nil _ _⟩
  · injection hcs with hcs
    subst hcs
    simp only [if_true] at hm
    have hC : Tryd.prog.cellsOf 85 = 5 := by kernel_rfl
    have hbs : Rows.uptoBulk (DataW.slice ((List.range len).map D) ((List.range (m - len)).map fun j => D (len + j))) = Rows.uptoBulkAll ((List.range len).map D) + Rows.uptoBulkAll ((List.range (m - len)).map fun j => D (len + j)) + 1 := rfl
    simp only [hbs] at hb
    obtain ⟨l, t1, t2, t3, t4⟩ := pick_sum (p := fun i (_ : Unit) => True) (m := fun _ => 1) (D := D) len (fun i _ => ⟨(), trivial, bulk_one _⟩)
    have hlen : len ≤ 1048576 := by
      have e : (l.map (fun _ => 1)).sum = l.length := by clear t1 t2 t3 t4; induction l with
        | nil => rfl
        | cons y l ih => simp only [List.map_cons, List.sum_cons, List.length_cons, ih]; omega
      omega
    obtain ⟨us, u1, u2, -, -⟩ := pick_sum (p := fun j (u : Value) => W.cell? (a.add j) = some u ∧ u.oneCell' = true) (m := fun _ => 0) (D := D) (len * 5) (fun j hj => by
      obtain ⟨cs', hc, ht⟩ := hi (j / 5) (by omega)
      rw [hC] at hc
      obtain ⟨h5, hone⟩ := open_cond ht
      have hj5 : j % 5 < cs'.length := by omega
      have k := cells_at hc (j := j % 5) (by omega)
      rw [Go.Deep.add_add, show j / 5 * 5 + j % 5 = j by omega, List.getElem?_eq_getElem hj5] at k
      exact ⟨cs'[j % 5], ⟨k, hone _ (List.getElem_mem hj5)⟩, Nat.zero_le _⟩)
    refine ⟨len, hlen, some a, cap, us, rfl, by omega, u1, .inr ⟨a, rfl, trivial, fun j hj => (u2 j hj).1⟩, fun u hu => ?_, fun e => by cases e⟩
    obtain ⟨i, hi2, rfl⟩ := List.getElem_of_mem hu
    exact (u2 i hi2).2

set_option maxRecDepth 100000 in
theorem open_ruleC {v : Value} {d : DataW H} {p : List MemPlace} (hv : Value.okWide Tryd.prog W .any base 25 v) (h : DataW.Trod enc Tryd.prog W 0 (fun _ => true) true 25 v d p) (hb : Rows.uptoBulk d ≤ 1048576) :
    ∃ (sv vc : Value) (n : Nat) (xs : List At), v = .agg #[sv, vc] ∧ Ats (fun _ => True) W sv xs ∧ Rg xs ∧ Cns (fun _ => True) W vc n ∧ n ≤ 1048576 := by
  obtain ⟨v0, v1, y0, y1, n, rfl, rfl, _, h0, h1⟩ := open_agg2 Tryd.underlying25 (by kernel_rfl) (by kernel_rfl) hv h
  simp only [Rows.uptoBulk, Rows.uptoBulkAll] at hb
  obtain ⟨xs, hx, hr⟩ := open_atoms h0 (by omega)
  obtain ⟨nc, hn, hC⟩ := open_conds h1 (by omega)
  exact ⟨v0, v1, nc, xs, rfl, hx, hr, hC, hn⟩
end
end Go.Proofs.YtiahaofjmcjdiaaDoor
