/- From readings of arguments to the words of the walks: queries, under the bound on the bulk. -/
import Derived.Test.YtehklbdgkppmeaaDoorJr
import Derived.Test.YtehklbdgkppmeaaDoorJk
namespace Go.Proofs.YtehklbdgkppmeaaDoor
open Go.ChangeShapes Go.WideShapes Go.ChangeAt Go.RowKit Go.Joins Go.Deep

section
variable {H : Type} {enc : TypeId × Value → H} {W : World} {base : Nat}

theorem bulk_mem {D : DataW H} {l : List (DataW H)} (h : D ∈ l) : Rows.uptoBulk D ≤ Rows.uptoBulkAll l := by
  induction l with
  | nil => cases h
  | cons y r ih =>
    simp only [Rows.uptoBulkAll]
    rcases List.mem_cons.1 h with e | e
    · rw [← e]; omega
    · have := ih e; omega
set_option maxRecDepth 20000 in
theorem open_strsF {fuel : Nat} {v : Value} {x : DataW H × List MemPlace} (h : DataW.trod enc Tryd.prog W 0 (fun _ => true) true fuel 26 [v] = some x) (hb : Rows.uptoBulk x.1 ≤ 1048576) :
    ∃ l : List ByteArray, Strs T1 W v l ∧ (∀ s ∈ l, s.size + 2 ≤ Rows.uptoBulk x.1) ∧ l.length ≤ 1048576 := by
  rcases open_slice Tryd.underlying26 h with ⟨hcs, hx⟩ | ⟨a, len, cap, m, n, D, Pl, hcs, -, hl, -, hm, hx, hi⟩
  · injection hcs with hcs
    rw [hcs]
    exact ⟨[], ⟨none, 0, rfl, by simp, .inl rfl⟩, fun t ht => by simp at ht, by simp⟩
  · injection hcs with hcs
    rw [hcs]
    simp only [if_true] at hm
    have hC : Tryd.prog.cellsOf 9 = 1 := by kernel_rfl
    obtain ⟨l, t1, t2, t3, t4⟩ := pick_sum (p := fun i (s : ByteArray) => W.cell? (a.add i) = some (.string s)) (m := fun s => s.size + 1) (D := D) len (fun i hil => by
      obtain ⟨cs', hc, ht⟩ := hi i (by omega)
      rw [hC] at hc
      obtain ⟨s, rfl, hd, -⟩ := DataW.trod_string Tryd.underlying9 ht
      injection hd with hd _
      have h0 := cells_at hc (j := 0) (by omega)
      rw [Go.Deep.add_add, Nat.mul_one] at h0
      refine ⟨s, by simpa using h0, ?_⟩
      rw [hd]; simp only [Rows.uptoBulk, data_len]; omega)
    have hbs : Rows.uptoBulk x.1 = Rows.uptoBulkAll ((List.range len).map D) + Rows.uptoBulkAll ((List.range (m - len)).map fun j => D (len + j)) + 1 := by rw [hx]; rfl
    rw [hbs] at hb ⊢
    have hln : l.length ≤ (l.map (fun s => s.size + 1)).sum := by
      clear t1 t2 t3 t4
      induction l with
      | nil => simp
      | cons t ts ih => simp only [List.map_cons, List.sum_cons, List.length_cons] at ih ⊢; omega
    refine ⟨l, ⟨some a, cap, by rw [t1], by omega, .inr ⟨a, rfl, trivial, fun j hj => ?_⟩⟩, fun s hs => ?_, by omega⟩
    · have hj2 : j < l.length := by simpa using hj
      rw [t2 j hj2]; simp
    · have := t4 s hs; omega

set_option maxRecDepth 20000 in
theorem open_ruleF {fuel : Nat} {cs : List Value} {x : DataW H × List MemPlace} (h : DataW.trod enc Tryd.prog W 0 (fun _ => true) true fuel 25 cs = some x) (hb : Rows.uptoBulk x.1 ≤ 1048576) :
    ∃ (B : Option Addr) (n d : Nat) (C : Option Addr) (e : Nat) (r : Ru), cs = [.slice B n d, .slice C r.nc e] ∧ Ats T1 W (.slice B n d) r.ats ∧ Rg r.ats ∧ Cns T1 W (.slice C r.nc e) r.nc ∧ ∀ a ∈ r.ats, ∀ t ∈ a.terms, t.var.size + 4 ≤ Rows.uptoBulk x.1 := by
  obtain ⟨xs, n, -, hx, hl, hxl, hg⟩ := DataW.trod_struct Tryd.underlying25 h
  have hc2 : cs.length = 2 := hl.trans (by kernel_rfl)
  match cs, hc2 with
  | [c0, c1], _ =>
    match xs, hxl with
    | [y0, y1], _ =>
      have g0 : DataW.trod enc Tryd.prog W 0 (fun _ => true) true n 22 [c0] = some y0 := hg 0 _ rfl
      have g1 : DataW.trod enc Tryd.prog W 0 (fun _ => true) true n 23 [c1] = some y1 := hg 1 _ rfl
      have hbe : Rows.uptoBulk x.1 = Rows.uptoBulk y0.1 + (Rows.uptoBulk y1.1 + 0) + 1 := by rw [hx]; rfl
      obtain ⟨ax, ha, hr, htg⟩ := open_atoms g0 (by omega)
      have b1 := bulk_one y1.1
      obtain ⟨nc, -, hC⟩ := open_conds g1 (by omega)
      obtain ⟨B, d, rfl⟩ := ha.sl
      obtain ⟨C, e, e1⟩ : ∃ A c, c1 = .slice A nc c := by obtain ⟨A, c, _, e, _⟩ := hC; exact ⟨A, c, e⟩
      subst e1
      exact ⟨B, ax.length, d, C, e, ⟨ax, nc⟩, rfl, ha, hr, hC, fun a h1 t h2 => by have := htg a h1 t h2; omega⟩

set_option maxRecDepth 20000 in
theorem open_rulesF {fuel : Nat} {v : Value} {x : DataW H × List MemPlace} (h : DataW.trod enc Tryd.prog W 0 (fun _ => true) true fuel 41 [v] = some x) (hb : Rows.uptoBulk x.1 ≤ 1048576) :
    ∃ rs : List Ru, Rus T1 W v rs ∧ (∀ r ∈ rs, Rg r.ats) ∧ rs.length ≤ 1048576 ∧ ∀ r ∈ rs, ∀ a ∈ r.ats, ∀ t ∈ a.terms, t.var.size + 5 ≤ Rows.uptoBulk x.1 := by
  rcases open_slice Tryd.underlying41 h with ⟨hcs, hx⟩ | ⟨a, len, cap, m, n, D, Pl, hcs, -, hl, -, hm, hx, hi⟩
  · injection hcs with hcs
    rw [hcs]
    exact ⟨[], ⟨none, 0, rfl, by simp, fun i hi => by simp at hi⟩, fun t ht => by simp at ht, by simp, fun t ht => by simp at ht⟩
  · injection hcs with hcs
    rw [hcs]
    simp only [if_true] at hm
    have hC : Tryd.prog.cellsOf 25 = 2 := by kernel_rfl
    have hbs : Rows.uptoBulk x.1 = Rows.uptoBulkAll ((List.range len).map D) + Rows.uptoBulkAll ((List.range (m - len)).map fun j => D (len + j)) + 1 := by rw [hx]; rfl
    rw [hbs] at hb
    obtain ⟨l, t1, t2, t3, t4⟩ := pick_sum (p := fun i (r : Ru) => ∃ B n d C e, W.cell? (a.add (i * 2)) = some (.slice B n d) ∧ W.cell? (a.add (i * 2 + (0 + 1))) = some (.slice C r.nc e) ∧ Ats T1 W (.slice B n d) r.ats ∧ Rg r.ats ∧ Cns T1 W (.slice C r.nc e) r.nc ∧ ∀ a ∈ r.ats, ∀ t ∈ a.terms, t.var.size + 4 ≤ Rows.uptoBulkAll ((List.range len).map D)) (m := fun _ => 1) (D := D) len (fun i hil => by
      obtain ⟨cs', hc, ht⟩ := hi i (by omega)
      rw [hC] at hc
      have hmem : D i ∈ (List.range len).map D := List.mem_map.2 ⟨i, by simpa using hil, rfl⟩
      have hbi := bulk_mem hmem
      obtain ⟨B, n, d, C, e, r, rfl, h1, h2, h3, h4⟩ := open_ruleF ht (by show Rows.uptoBulk (D i) ≤ _; omega)
      replace h4 : ∀ a ∈ r.ats, ∀ t ∈ a.terms, t.var.size + 4 ≤ Rows.uptoBulkAll ((List.range len).map D) := fun a ha t ht => Nat.le_trans (h4 a ha t ht) hbi
      have k0 := cells_at hc (j := 0) (by omega)
      have k1 := cells_at hc (j := 1) (by omega)
      rw [Go.Deep.add_add] at k0 k1
      exact ⟨r, ⟨B, n, d, C, e, k0, k1, h1, h2, h3, h4⟩, bulk_one _⟩)
    have hln : l.length = (l.map (fun _ => 1)).sum := by
      clear t1 t2 t3 t4
      induction l with
      | nil => simp
      | cons t ts ih => simp only [List.map_cons, List.sum_cons, List.length_cons] at ih ⊢; omega
    refine ⟨l, ⟨some a, cap, by rw [t1], by omega, fun i hi => ?_⟩, fun r hr => ?_, by omega, fun r hr a ha t ht => ?_⟩
    · obtain ⟨B, n, d, C, e, k0, k1, h1, -, h3, -⟩ := t2 i hi
      rw [add_succ'] at k1
      exact ⟨a, B, n, d, C, e, rfl, trivial, k0, k1, h1, h3⟩
    · obtain ⟨i, hi, rfl⟩ := List.getElem_of_mem hr
      obtain ⟨B, n, d, C, e, -, -, -, h2, -⟩ := t2 i hi
      exact h2
    · obtain ⟨i, hi, rfl⟩ := List.getElem_of_mem hr
      obtain ⟨B, n, d, C, e, -, -, -, -, -, h2⟩ := t2 i hi
      have := h2 a ha t ht
      omega

set_option maxRecDepth 20000 in
theorem open_key {fuel : Nat} {cs : List Value} {x : DataW H × List MemPlace} (h : DataW.trod enc Tryd.prog W 0 (fun _ => true) true fuel 84 cs = some x) : cs.length = 2 ∧ ∀ u ∈ cs, u.oneCell' = true := by
  obtain ⟨xs, n, -, -, hl, hxl, hg⟩ := DataW.trod_struct Tryd.underlying84 h
  have hc2 : cs.length = 2 := hl.trans (by kernel_rfl)
  refine ⟨hc2, ?_⟩
  match cs, hc2 with
  | [c0, c1], _ =>
    match xs, hxl with
    | [y0, y1], _ =>
      have g0 : DataW.trod enc Tryd.prog W 0 (fun _ => true) true n 9 [c0] = some y0 := hg 0 _ rfl
      have g1 : DataW.trod enc Tryd.prog W 0 (fun _ => true) true n 4 [c1] = some y1 := hg 1 _ rfl
      obtain ⟨s0, e0, -, -⟩ := DataW.trod_string Tryd.underlying9 g0
      obtain ⟨b1, e1, -⟩ := DataW.trod_bool Tryd.underlying4 g1
      injection e0 with e0; injection e1 with e1
      subst e0 e1
      intro u hu
      simp only [List.mem_cons, List.not_mem_nil, or_false] at hu
      rcases hu with rfl | rfl <;> rfl

set_option maxRecDepth 20000 in
theorem open_keysF {fuel : Nat} {v : Value} {x : DataW H × List MemPlace} (h : DataW.trod enc Tryd.prog W 0 (fun _ => true) true fuel 42 [v] = some x) (hb : Rows.uptoBulk x.1 ≤ 1048576) :
    ∃ n, Kys T1 W v n ∧ n ≤ 1048576 := by
  rcases open_slice Tryd.underlying42 h with ⟨hcs, hx⟩ | ⟨a, len, cap, m, n, D, Pl, hcs, -, hl, -, hm, hx, hi⟩
  · injection hcs with hcs
    subst hcs
    exact ⟨0, Kys.nil _ _, by omega⟩
  · injection hcs with hcs
    subst hcs
    simp only [if_true] at hm
    have hC : Tryd.prog.cellsOf 84 = 2 := by kernel_rfl
    have hbs : Rows.uptoBulk x.1 = Rows.uptoBulkAll ((List.range len).map D) + Rows.uptoBulkAll ((List.range (m - len)).map fun j => D (len + j)) + 1 := by rw [hx]; rfl
    rw [hbs] at hb
    obtain ⟨l, t1, t2, t3, t4⟩ := pick_sum (p := fun i (_ : Unit) => True) (m := fun _ => 1) (D := D) len (fun i _ => ⟨(), trivial, bulk_one _⟩)
    have hlen : len ≤ 1048576 := by
      have e : (l.map (fun _ => 1)).sum = l.length := by clear t1 t2 t3 t4; induction l with
        | nil => rfl
        | cons y l ih => simp only [List.map_cons, List.sum_cons, List.length_cons, ih]; omega
      omega
    obtain ⟨us, u1, u2, -, -⟩ := pick_sum (p := fun j (u : Value) => W.cell? (a.add j) = some u ∧ u.oneCell' = true) (m := fun _ => 0) (D := D) (len * 2) (fun j hj => by
      obtain ⟨cs', hc, ht⟩ := hi (j / 2) (by omega)
      rw [hC] at hc
      obtain ⟨h2, hone⟩ := open_key ht
      have hj2 : j % 2 < cs'.length := by omega
      have k := cells_at hc (j := j % 2) (by omega)
      rw [Go.Deep.add_add, show j / 2 * 2 + j % 2 = j by omega, List.getElem?_eq_getElem hj2] at k
      exact ⟨cs'[j % 2], ⟨k, hone _ (List.getElem_mem hj2)⟩, Nat.zero_le _⟩)
    refine ⟨len, ⟨some a, cap, us, rfl, by omega, u1, .inr ⟨a, rfl, trivial, fun j hj => (u2 j hj).1⟩, fun u hu => ?_, fun e => by cases e⟩, hlen⟩
    obtain ⟨i, hi2, rfl⟩ := List.getElem_of_mem hu
    exact (u2 i hi2).2

set_option maxRecDepth 20000 in
theorem open_queryF {fuel : Nat} {cs : List Value} {x : DataW H × List MemPlace} (h : DataW.trod enc Tryd.prog W 0 (fun _ => true) true fuel 44 cs = some x) (hb : Rows.uptoBulk x.1 ≤ 1048576) :
    ∃ (A : Option Addr) (c : Nat) (B : Option Addr) (d : Nat) (O : Option Addr) (co : Nat) (q : Qr), cs = [.slice A q.hd.length c, .int .i64 q.ag, .string q.av, .slice B q.rs.length d, .slice O q.no co] ∧ Qc W A c B d O co q ∧ QG q ∧ q.no ≤ 1048576 ∧ (-9223372036854775808 ≤ q.ag ∧ q.ag ≤ 9223372036854775807) ∧ q.av.size ≤ 1048576 ∧ ∀ r ∈ q.rs, ∀ a ∈ r.ats, ∀ t ∈ a.terms, t.var.size ≤ 1048568 := by
  obtain ⟨xs, n, -, hx, hl, hxl, hg⟩ := DataW.trod_struct Tryd.underlying44 h
  have hc5 : cs.length = 5 := hl.trans (by kernel_rfl)
  match cs, hc5 with
  | [c0, c1, c2, c3, c4], _ =>
    match xs, hxl with
    | [y0, y1, y2, y3, y4], _ =>
      have g0 : DataW.trod enc Tryd.prog W 0 (fun _ => true) true n 26 [c0] = some y0 := hg 0 _ rfl
      have g1 : DataW.trod enc Tryd.prog W 0 (fun _ => true) true n 3 [c1] = some y1 := hg 1 _ rfl
      have g2 : DataW.trod enc Tryd.prog W 0 (fun _ => true) true n 9 [c2] = some y2 := hg 2 _ rfl
      have g3 : DataW.trod enc Tryd.prog W 0 (fun _ => true) true n 41 [c3] = some y3 := hg 3 _ rfl
      have g4 : DataW.trod enc Tryd.prog W 0 (fun _ => true) true n 42 [c4] = some y4 := hg 4 _ rfl
      have hbe : Rows.uptoBulk x.1 = Rows.uptoBulk y0.1 + (Rows.uptoBulk y1.1 + (Rows.uptoBulk y2.1 + (Rows.uptoBulk y3.1 + (Rows.uptoBulk y4.1 + 0)))) + 1 := by rw [hx]; rfl
      have b1 := bulk_one y1.1; have b2 := bulk_one y2.1; have b3 := bulk_one y3.1; have b4 := bulk_one y4.1
      obtain ⟨hd, h1, h2, h3⟩ := open_strsF g0 (by omega)
      obtain ⟨ag, e1, d1, hw⟩ := DataW.trod_int Tryd.underlying3 g1
      obtain ⟨av, e2, d2, -⟩ := DataW.trod_string Tryd.underlying9 g2
      obtain ⟨rs, k1, k2, k3, k4⟩ := open_rulesF g3 (by omega)
      have b0 := bulk_one y0.1
      obtain ⟨no, m1, m2⟩ := open_keysF g4 (by omega)
      injection e1 with e1; injection e2 with e2
      subst e1 e2
      obtain ⟨A, c, f1⟩ : ∃ A c, c0 = .slice A hd.length c := by obtain ⟨A, c, e, _⟩ := h1; exact ⟨A, c, e⟩
      obtain ⟨B, d, f2⟩ := k1.sl
      obtain ⟨O, co, f3⟩ := m1.sl
      subst f1 f2 f3
      have hav : av.size + 1 ≤ Rows.uptoBulk y2.1 := by rw [d2]; simp only [Rows.uptoBulk, data_len]; omega
      exact ⟨A, c, B, d, O, co, ⟨hd, ag, av, rs, no⟩, rfl, ⟨h1, k1, m1⟩, ⟨k2, fun v hv => by have := h2 v hv; omega, h3, k3⟩, m2, wf_i64 hw, by show av.size ≤ _; omega, fun r hr a ha t ht => by have := k4 r hr a ha t ht; omega⟩

set_option maxRecDepth 100000 in
theorem open_query {v : Value} {d : DataW H} {p : List MemPlace} (hv : ∃ cs : Array Value, v = .agg cs ∧ cs.size = Tryd.prog.cellsOf 44) (h : DataW.Trod enc Tryd.prog W 0 (fun _ => true) true 44 v d p) (hb : Rows.uptoBulk d ≤ 1048576) :
    ∃ (A : Option Addr) (c : Nat) (B : Option Addr) (d : Nat) (O : Option Addr) (co : Nat) (q : Qr), v = .agg (qcells A q.hd.length c q.ag q.av B q.rs.length d O q.no co).toArray ∧ Qc W A c B d O co q ∧ QG q ∧ q.no ≤ 1048576 := by
  obtain ⟨cs, rfl, -⟩ := hv
  obtain ⟨fuel, hf⟩ := h
  obtain ⟨A, c, B, d', O, co, q, e, h1, h2, h3, -⟩ := open_queryF hf hb
  have e' : cs.toList = qcells A q.hd.length c q.ag q.av B q.rs.length d' O q.no co := e
  refine ⟨A, c, B, d', O, co, q, ?_, h1, h2, h3⟩
  rw [← Array.toArray_toList (xs := cs), e']

set_option maxRecDepth 100000 in
theorem open_queryT {v : Value} {d : DataW H} {p : List MemPlace} (hv : ∃ cs : Array Value, v = .agg cs ∧ cs.size = Tryd.prog.cellsOf 44) (h : DataW.Trod enc Tryd.prog W 0 (fun _ => true) true 44 v d p) (hb : Rows.uptoBulk d ≤ 1048576) :
    ∃ (A : Option Addr) (c : Nat) (B : Option Addr) (d : Nat) (O : Option Addr) (co : Nat) (q : Qr), v = .agg (qcells A q.hd.length c q.ag q.av B q.rs.length d O q.no co).toArray ∧ Qc W A c B d O co q ∧ QG q ∧ q.no ≤ 1048576 ∧ ∀ r ∈ q.rs, ∀ a ∈ r.ats, ∀ t ∈ a.terms, t.var.size ≤ 1048572 := by
  obtain ⟨cs, rfl, -⟩ := hv
  obtain ⟨fuel, hf⟩ := h
  obtain ⟨A, c, B, d', O, co, q, e, h1, h2, h3, -, -, h4⟩ := open_queryF hf hb
  have e' : cs.toList = qcells A q.hd.length c q.ag q.av B q.rs.length d' O q.no co := e
  refine ⟨A, c, B, d', O, co, q, ?_, h1, h2, h3, fun r hr a ha t ht => by have := h4 r hr a ha t ht; omega⟩
  rw [← Array.toArray_toList (xs := cs), e']

theorem okWide_arr3 {P : Program} {W : World} {base : Nat} {t e : TypeId} {n : Nat} {v : Value} (ht : P.underlying t = some (.array n e)) (h : Value.okWide P W .any base t v) : ∃ cs, v = .agg cs := by
  simp only [Value.okWide, ht] at h
  obtain ⟨cs, h1, -⟩ := h
  exact ⟨cs, h1⟩
set_option maxRecDepth 100000 in
/-- An array of three queries. -/
theorem open_query3 {v : Value} {d : DataW H} {p : List MemPlace} (hv : ∃ cs : Array Value, v = .agg cs) (h : DataW.Trod enc Tryd.prog W 0 (fun _ => true) true 45 v d p) (hb : Rows.uptoBulk d ≤ 1048576) :
    ∃ (A0 : Option Addr) (c0 : Nat) (B0 : Option Addr) (d0 : Nat) (O0 : Option Addr) (e0 : Nat) (A1 : Option Addr) (c1 : Nat) (B1 : Option Addr) (d1 : Nat) (O1 : Option Addr) (e1 : Nat) (A2 : Option Addr) (c2 : Nat) (B2 : Option Addr) (d2 : Nat) (O2 : Option Addr) (e2 : Nat) (qs : Nat → Qr),
      v = .agg (qcells A0 (qs 0).hd.length c0 (qs 0).ag (qs 0).av B0 (qs 0).rs.length d0 O0 (qs 0).no e0 ++ (qcells A1 (qs 1).hd.length c1 (qs 1).ag (qs 1).av B1 (qs 1).rs.length d1 O1 (qs 1).no e1 ++ qcells A2 (qs 2).hd.length c2 (qs 2).ag (qs 2).av B2 (qs 2).rs.length d2 O2 (qs 2).no e2)).toArray ∧ Qc W A0 c0 B0 d0 O0 e0 (qs 0) ∧ Qc W A1 c1 B1 d1 O1 e1 (qs 1) ∧ Qc W A2 c2 B2 d2 O2 e2 (qs 2) ∧ ∀ i, i < 3 → QG (qs i) := by
  obtain ⟨cs, rfl⟩ := hv
  obtain ⟨fuel, hf⟩ := h
  obtain ⟨xs, m, -, hx, hl, hxl, hg⟩ := DataW.trod_array Tryd.underlying45 hf
  injection hx with hx _
  have hl15 : cs.toList.length = 15 := hl.trans (by kernel_rfl)
  have hC : Tryd.prog.cellsOf 44 = 5 := by kernel_rfl
  rw [hC] at hg
  match xs, hxl with
  | [y0, y1, y2], _ =>
    have hbe : Rows.uptoBulk d = Rows.uptoBulk y0.1 + (Rows.uptoBulk y1.1 + (Rows.uptoBulk y2.1 + 0)) + 1 := by rw [hx]; rfl
    obtain ⟨A0, c0, B0, d0, O0, e0, q0, k0, h0, g0, -⟩ := open_queryF (hg 0 (by omega)) (x := y0) (by omega)
    obtain ⟨A1, c1, B1, d1, O1, e1, q1, k1, h1, g1, -⟩ := open_queryF (hg 1 (by omega)) (x := y1) (by omega)
    obtain ⟨A2, c2, B2, d2, O2, e2, q2, k2, h2, g2, -⟩ := open_queryF (hg 2 (by omega)) (x := y2) (by omega)
    refine ⟨A0, c0, B0, d0, O0, e0, A1, c1, B1, d1, O1, e1, A2, c2, B2, d2, O2, e2, fun i => match i with | 0 => q0 | 1 => q1 | _ => q2, ?_, h0, h1, h2, fun i hi => ?_⟩
    · have e : cs.toList = (cs.toList.drop (0 * 5)).take 5 ++ ((cs.toList.drop (1 * 5)).take 5 ++ (cs.toList.drop (2 * 5)).take 5) := by
        have a1 := List.take_append_drop 5 cs.toList
        have a2 := List.take_append_drop 5 (cs.toList.drop 5)
        rw [List.drop_drop] at a2
        have a3 : (cs.toList.drop 10).take 5 = cs.toList.drop 10 := List.take_of_length_le (by rw [List.length_drop, hl15]; omega)
        rw [show 0 * 5 = 0 from rfl, show 1 * 5 = 5 from rfl, show 2 * 5 = 10 from rfl, List.drop_zero, a3, a2, a1]
      replace k0 : (cs.toList.drop (0 * 5)).take 5 = _ := k0
      replace k1 : (cs.toList.drop (1 * 5)).take 5 = _ := k1
      replace k2 : (cs.toList.drop (2 * 5)).take 5 = _ := k2
      rw [k0, k1, k2] at e
      rw [← Array.toArray_toList (xs := cs), e]
      rfl
    · match i, hi with
      | 0, _ => exact g0
      | 1, _ => exact g1
      | 2, _ => exact g2
end
end Go.Proofs.YtehklbdgkppmeaaDoor
