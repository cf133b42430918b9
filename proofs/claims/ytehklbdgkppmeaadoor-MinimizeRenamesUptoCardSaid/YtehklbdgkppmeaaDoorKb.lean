/- Words for minimal queries; contract: minimize.Minimal of a query that is not pure. -/
import Derived.Test.YtehklbdgkppmeaaDoorKa
import Derived.Test.YtehklbdgkppmeaaDoorJk
import Derived.WalkMore
import Derived.Deep.LoopGhost
namespace Go.Proofs.YtehklbdgkppmeaaDoor
open Go.RowKit Go.Maps

theorem Rus.fr {S F : Nat → Prop} {w w' : World} {v : Value} {rs : List Ru} (h : Rus F w v rs) (hf : Fr S w w') (hs : ∀ k, F k → ¬ S k) : Rus F w' v rs := by
  obtain ⟨A, c, h1, h2, h3⟩ := h
  refine ⟨A, c, h1, h2, fun i hi => ?_⟩
  obtain ⟨ad, B, n, d, C, e, e1, e2, e3, e4, e5, e6⟩ := h3 i hi
  exact ⟨ad, B, n, d, C, e, e1, e2, hf.cell e3 (by rw [block_add]; exact hs _ e2), hf.cell e4 (by show ¬ S (ad.add (i * 2)).block; rw [block_add]; exact hs _ e2), e5.fr hf hs, e6.fr hf hs⟩
theorem Rus.mono {F G : Nat → Prop} {w : World} {v : Value} {rs : List Ru} (h : Rus F w v rs) (hs : ∀ k, k < w.heap.size → F k → G k) : Rus G w v rs := by
  obtain ⟨A, c, h1, h2, h3⟩ := h
  refine ⟨A, c, h1, h2, fun i hi => ?_⟩
  obtain ⟨ad, B, n, d, C, e, e1, e2, e3, e4, e5, e6⟩ := h3 i hi
  have := cell_lt e3
  rw [block_add] at this
  exact ⟨ad, B, n, d, C, e, e1, hs _ this e2, e3, e4, e5.mono hs, e6.mono hs⟩
theorem Rus.of_row {F : Nat → Prop} {w : World} {base n : Nat} {v : Value} {rs : List Ru} {ps : List (Value × Value)} (hl : ps.length = rs.length) (hr : w.ownsRow base 25 2 v n (pcat ps)) (hg : ∀ k, base ≤ k → F k)
    (ht : ∀ i (_ : i < rs.length) (h' : i < ps.length), ∃ B m d C e, ps[i] = (.slice B m d, .slice C rs[i].nc e) ∧ Ats F w (.slice B m d) rs[i].ats ∧ Cns F w (.slice C rs[i].nc e) rs[i].nc) : Rus F w v rs := by
  have hn : n = rs.length := by
    have := hr.1
    rw [pcat_length, hl] at this
    omega
  subst hn
  obtain ⟨A, c, rfl, hc, hcl⟩ := Cl.of_own hr
  refine ⟨A, c, rfl, hc, fun i hi => ?_⟩
  obtain ⟨B, m, d, C, e, h1, h2, h3⟩ := ht i hi (by omega)
  obtain ⟨ad, e1, hb, c0, c1⟩ := hcl.rule (i := i) (by omega)
  rw [h1] at c0 c1
  exact ⟨ad, B, m, d, C, e, e1, hg _ hb.2, c0, c1, h2, h3⟩
/-- A row of rules of its own; what the rules hold lies elsewhere, above base. -/
def RuB (w : World) (base : Nat) (v : Value) (n : Nat) (rs : List Ru) (ps : List (Value × Value)) : Prop :=
  ps.length = rs.length ∧ w.ownsRow base 25 2 v n (pcat ps) ∧ ∀ i (_ : i < rs.length) (h' : i < ps.length), ∃ B m d C e, ps[i] = (.slice B m d, .slice C rs[i].nc e) ∧ Ats (fun k => base ≤ k ∧ v.ownBlock ≠ some k) w (.slice B m d) rs[i].ats ∧ Cns (fun k => base ≤ k ∧ v.ownBlock ≠ some k) w (.slice C rs[i].nc e) rs[i].nc
theorem RuB.num {w : World} {base n : Nat} {v : Value} {rs : List Ru} {ps : List (Value × Value)} (h : RuB w base v n rs ps) : n = rs.length := by
  have := h.2.1.1
  rw [pcat_length, h.1] at this
  omega
theorem RuB.ext {w w' : World} {base n : Nat} {v : Value} {rs : List Ru} {ps : List (Value × Value)} (h : RuB w base v n rs ps) (he : Ext w w') : RuB w' base v n rs ps :=
  ⟨h.1, own_ext' h.2.1 he, fun i hi hi' => let ⟨B, m, d, C, e, h1, h2, h3⟩ := h.2.2 i hi hi'; ⟨B, m, d, C, e, h1, h2.ext he, h3.ext he⟩⟩
theorem RuB.nil (w : World) (base : Nat) : RuB w base (.slice none 0 0) 0 [] [] := ⟨rfl, World.ownsRow_nil _ _ _ _, fun i h => by simp at h⟩
theorem RuB.rus {w : World} {base n : Nat} {v : Value} {rs : List Ru} {ps : List (Value × Value)} (h : RuB w base v n rs ps) : Rus (fun k => base ≤ k) w v rs :=
  Rus.of_row h.1 h.2.1 (fun _ h => h) (fun i hi hi' => let ⟨B, m, d, C, e, h1, h2, h3⟩ := h.2.2 i hi hi'; ⟨B, m, d, C, e, h1, h2.mono (fun _ _ h => h.1), h3.mono (fun _ _ h => h.1)⟩)
theorem RuB.more {wr wb w9 : World} {base n : Nat} {v v9 : Value} {rs : List Ru} {ps : List (Value × Value)} {r : Ru} {B : Option Addr} {m d : Nat} {C : Option Addr} {e : Nat} (h : RuB wr base v n rs ps) (he : Ext wr wb)
    (ha : Ats (fun k => base ≤ k ∧ v.ownBlock ≠ some k) wb (.slice B m d) r.ats) (hc : Cns (fun k => base ≤ k ∧ v.ownBlock ≠ some k) wb (.slice C r.nc e) r.nc)
    (hr : w9.ownsRow base 25 2 v9 (n + 1) (pcat ps ++ [.slice B m d, .slice C r.nc e])) (hg : wb.grownBy w9 v.ownBlock) (hl : Lands wb v v9) : RuB w9 base v9 (n + 1) (rs ++ [r]) (ps ++ [(.slice B m d, .slice C r.nc e)]) := by
  obtain ⟨hln, hrow, hts⟩ := h
  have hne : ∀ k, k < wb.heap.size → v.ownBlock ≠ some k → v9.ownBlock ≠ some k := fun k hk h1 h2 => by
    rcases hl with hl | hl
    · exact h1 (hl ▸ h2)
    · rw [hl] at h2; injection h2 with h2; omega
  have hup : ∀ {u : Value} {xs : List At}, Ats (fun k => base ≤ k ∧ v.ownBlock ≠ some k) wb u xs → Ats (fun k => base ≤ k ∧ v9.ownBlock ≠ some k) w9 u xs := fun hu => (hu.mono (fun k hk h1 => And.intro h1 hk)).fr (grown_fr hg) (fun k hk e => hk.1.2 e) |>.mono (fun k _ hk => ⟨hk.1.1, hne k hk.2 hk.1.2⟩)
  have hup2 : ∀ {u : Value} {n : Nat}, Cns (fun k => base ≤ k ∧ v.ownBlock ≠ some k) wb u n → Cns (fun k => base ≤ k ∧ v9.ownBlock ≠ some k) w9 u n := fun hu => (hu.mono (fun k hk h1 => And.intro h1 hk)).fr (grown_fr hg) (fun k hk e => hk.1.2 e) |>.mono (fun k _ hk => ⟨hk.1.1, hne k hk.2 hk.1.2⟩)
  refine ⟨by simp [hln], by rw [pcat_snoc]; exact hr, fun i hi hi' => ?_⟩
  rcases Nat.lt_or_ge i rs.length with hx | hx
  · rw [List.getElem_append_left (by omega)]
    obtain ⟨B', m', d', C', e', h1, h2, h3⟩ := hts i hx (by omega)
    have e2 : (rs ++ [r])[i] = rs[i] := List.getElem_append_left hx
    rw [e2]
    exact ⟨B', m', d', C', e', h1, hup (h2.ext he), hup2 (h3.ext he)⟩
  · have e : i = rs.length := by simp at hi; omega
    subst e
    have e2 : (rs ++ [r])[rs.length] = r := by simp
    have e3 : (ps ++ [(Value.slice B m d, Value.slice C r.nc e)])[rs.length] = (Value.slice B m d, Value.slice C r.nc e) := by rw [List.getElem_append_right (by omega)]; simp [hln]
    rw [e2, e3]
    exact ⟨B, m, d, C, e, rfl, hup ha, hup2 hc⟩

/-- The core of rule i. -/
def csAt (q : Qr) (i : Nat) : List At := coreP (((q.rs[i]?).map Ru.ats).getD []) q.hd
theorem csAt_get {q : Qr} {i : Nat} (h : i < q.rs.length) : csAt q i = coreP q.rs[i].ats q.hd := by unfold csAt; rw [List.getElem?_eq_getElem h]; rfl
def cRu (q : Qr) (i : Nat) : Ru := ⟨csAt q i, 0⟩
/-- The core of rule j maps to the core of rule i. -/
def relM (q : Qr) (j i : Nat) : Bool := (findS (csAt q j) (csAt q i) q.hd).isSome
def keptTo (R : Nat → Nat → Bool) (n i : Nat) : List Nat := (List.range i).filter (fun x => !dropB R n x)
theorem keptTo_all (R : Nat → Nat → Bool) (n : Nat) : keptTo R n n = keptL R n := rfl
theorem keptTo_succ (R : Nat → Nat → Bool) (n i : Nat) : keptTo R n (i + 1) = keptTo R n i ++ (if dropB R n i = true then [] else [i]) := by
  unfold keptTo
  rw [List.range_succ, List.filter_append]
  congr 1
  cases h : dropB R n i <;> simp [h]
theorem keptTo_length (R : Nat → Nat → Bool) (n i : Nat) : (keptTo R n i).length ≤ i := by
  have := List.length_filter_le (fun x => !dropB R n x) (List.range i)
  rwa [List.length_range] at this
theorem drop_yes {R : Nat → Nat → Bool} {n i j : Nat} (hj : j < n) (h : overB R j i = true) : dropB R n i = true := List.any_eq_true.2 ⟨j, List.mem_range.2 hj, h⟩
theorem drop_no {R : Nat → Nat → Bool} {n i : Nat} (h : ∀ j, j < n → overB R j i = false) : dropB R n i = false := List.any_eq_false.2 (fun j hj => by rw [h j (List.mem_range.1 hj)]; decide)
def minRs (q : Qr) : List Ru := (keptL (relM q) q.rs.length).map (cRu q)
def minQ (q : Qr) : Qr := ⟨q.hd, 0, ⟨#[]⟩, minRs q, q.no⟩
def MinNo (w : World) (e : Ending) (w' : World) : Prop := e = .returned (.tuple #[.agg #[.slice none 0 0, .int .i64 0, .string ⟨#[]⟩, .slice none 0 0, .slice none 0 0], .int .i64 1]) ∧ Ext w w'
def MinYes (q : Qr) (w : World) (e : Ending) (w' : World) : Prop :=
  ∃ A c B d O co, e = .returned (.tuple #[.agg #[.slice A q.hd.length c, .int .i64 0, .string ⟨#[]⟩, .slice B (minRs q).length d, .slice O q.no co], .int .i64 0]) ∧ Ext w w' ∧ Qc w' A c B d O co (minQ q)

section
variable {w : World} {A : Option Addr} {c : Nat} {B : Option Addr} {d : Nat} {O : Option Addr} {co : Nat} {q : Qr}
set_option maxRecDepth 20000 in
set_option maxHeartbeats 1600000 in
theorem minimal_no (hq : Qc w A c B d O co q) (oq : QOk q) (hno : q.pure = false) :
    Calls Tryd.prog 24 #[.agg #[.slice A q.hd.length c, .int .i64 q.ag, .string q.av, .slice B q.rs.length d, .slice O q.no co]] w (MinNo w) := by
  have HP : Hid (∀ W, Ext w W → Calls Tryd.prog 39 #[.agg #[.slice A q.hd.length c, .int .i64 q.ag, .string q.av, .slice B q.rs.length d, .slice O q.no co]] W (Ret (fun x _ => x = .bool false) W)) := Lib.hid (fun W hW => by
    have h := mpure_any (ag := q.ag) (av := q.av) (O := O) (no := q.no) (co := co) (hq.hd.ext hW) (hq.rs.ext hW) (fun r hr => (oq.ax r hr).bd) (fun v hv => by have := oq.hs v hv; omega) (by have := oq.hl; omega) (by have := oq.rl; omega)
    rw [show pureQ q.hd q.ag q.rs = false from hno] at h
    exact h)
  clear hq oq hno
  generalize q.hd.length = na at *
  generalize q.rs.length = ma at *
  generalize q.no = oa at *
  generalize q.ag = ag at *
  generalize q.av = av at *
  go_enter Tryd.func24, Tryd.ntmps24
  go_wp2_with fail
  go_step3
  go_wp2_with fail
  have h2 := two_q w [.slice A na c, .int .i64 ag, .string av, .slice B ma d, .slice O oa co] [.slice none 0 0, .int .i64 0, .string ⟨#[]⟩, .slice none 0 0, .slice none 0 0] _ rfl
  change Bk ((w.alloc (.cells #[.slice A na c, .int .i64 ag, .string av, .slice B ma d, .slice O oa co] 44)).alloc (.cells #[.slice none 0 0, .int .i64 0, .string ⟨#[]⟩, .slice none 0 0, .slice none 0 0] 44)) _ _ _ ∧ Bk ((w.alloc (.cells #[.slice A na c, .int .i64 ag, .string av, .slice B ma d, .slice O oa co] 44)).alloc (.cells #[.slice none 0 0, .int .i64 0, .string ⟨#[]⟩, .slice none 0 0, .slice none 0 0] 44)) _ _ _ ∧ Ext w ((w.alloc (.cells #[.slice A na c, .int .i64 ag, .string av, .slice B ma d, .slice O oa co] 44)).alloc (.cells #[.slice none 0 0, .int .i64 0, .string ⟨#[]⟩, .slice none 0 0, .slice none 0 0] 44)) at h2
  generalize ((w.alloc (.cells #[.slice A na c, .int .i64 ag, .string av, .slice B ma d, .slice O oa co] 44)).alloc (.cells #[.slice none 0 0, .int .i64 0, .string ⟨#[]⟩, .slice none 0 0, .slice none 0 0] 44)) = w1 at *
  obtain ⟨kq, kz, hx⟩ := h2
  refine (HP.out _ hx).mono ?_
  rintro e w2 ⟨y, rfl, he2, rfl⟩
  have hez := hx.trans he2
  have hkz := kz.ext he2
  have z0 := hkz.cell (i := 0) (by simp); have z1 := hkz.cell (i := 1) (by simp); have z2 := hkz.cell (i := 2) (by simp); have z3 := hkz.cell (i := 3) (by simp); have z4 := hkz.cell (i := 4) (by simp)
  have f0 := hkz.free 0; have f1 := hkz.free 1; have f2 := hkz.free 2; have f3 := hkz.free 3; have f4 := hkz.free 4
  simp only [List.getElem_cons_zero, List.getElem_cons_succ] at z0 z1 z2 z3 z4
  have HEZ := Lib.hid hez; have HKZ := Lib.hid hkz
  clear hez hkz hx he2 kq kz
  go_wp2_with fail
  have hs := (((((HKZ.out.set 0 (.slice none 0 0)).set 1 (.int .i64 0)).set 2 (.string ⟨#[]⟩)).set 3 (.slice none 0 0)).set 4 (.slice none 0 0))
  have hf : Ext w (((((w2.setCell ⟨w.heap.size + 1, 0, none⟩ (.slice none 0 0)).setCell ⟨w.heap.size + 1, 1, none⟩ (.int .i64 0)).setCell ⟨w.heap.size + 1, 2, none⟩ (.string ⟨#[]⟩)).setCell ⟨w.heap.size + 1, 3, none⟩ (.slice none 0 0)).setCell ⟨w.heap.size + 1, 4, none⟩ (.slice none 0 0)) := ((((HEZ.out.setCell (p := ⟨w.heap.size + 1, 0, none⟩) (Nat.le_succ _) _).setCell (p := ⟨w.heap.size + 1, 1, none⟩) (Nat.le_succ _) _).setCell (p := ⟨w.heap.size + 1, 2, none⟩) (Nat.le_succ _) _).setCell (p := ⟨w.heap.size + 1, 3, none⟩) (Nat.le_succ _) _).setCell (p := ⟨w.heap.size + 1, 4, none⟩) (Nat.le_succ _) _
  generalize (((((w2.setCell ⟨w.heap.size + 1, 0, none⟩ (.slice none 0 0)).setCell ⟨w.heap.size + 1, 1, none⟩ (.int .i64 0)).setCell ⟨w.heap.size + 1, 2, none⟩ (.string ⟨#[]⟩)).setCell ⟨w.heap.size + 1, 3, none⟩ (.slice none 0 0)).setCell ⟨w.heap.size + 1, 4, none⟩ (.slice none 0 0)) = wz at *
  have s0 := hs.cell (i := 0) (by simp); have s1 := hs.cell (i := 1) (by simp); have s2 := hs.cell (i := 2) (by simp); have s3 := hs.cell (i := 3) (by simp); have s4 := hs.cell (i := 4) (by simp)
  simp at s0 s1 s2 s3 s4
  refine bodyPost_ret (v := .tuple #[.agg #[.slice none 0 0, .int .i64 0, .string ⟨#[]⟩, .slice none 0 0, .slice none 0 0], .int .i64 1]) ?_ rfl ⟨rfl, hf⟩
  simp [results, Tryd.results24, go_sem, s0, s1, s2, s3, s4]
end
end Go.Proofs.YtehklbdgkppmeaaDoor
