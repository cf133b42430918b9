/- Plain law of NormalizeFilters: a last condition removes just the rows of the derived relations that violate it. -/
import Derived.Test.YtmmmdinncmbjkaaGreatMf45
namespace Go.Proofs.YtmmmdinncmbjkaaGreat
open Go.RowKit Go.Maps
theorem names_less {ss : List Sc} {q q' : Qy} {r r' : Rl} (hc : checkE ss q = 0) (hr : r ∈ q.rs) (hc' : checkE ss q' = 0) (hr' : r' ∈ q'.rs) (hh : q'.hd = q.hd) (ho : q'.od = q.od) (ha : r'.ats = r.ats) : namesL q' r' = namesL q r := by
  unfold namesL
  rw [conds_in hc hr, conds_in hc' hr', hh, ho, ha]
theorem cnd_last {ts : List Tm} {cs : List Cd} {d : Cd} : upL (cndAt ts (cs ++ [d])) (cs ++ [d]).length = upL (cndAt ts cs) cs.length ++ (if d.var ≠ ⟨#[]⟩ ∧ idxT ts d.var < ts.length then [⟨idxT ts d.var, d.op, d.kind, d.int, d.str⟩] else []) := by
  have e1 : upL (cndAt ts (cs ++ [d])) cs.length = upL (cndAt ts cs) cs.length := upL_congr (fun k hk => by
    unfold cndAt
    rw [List.getElem?_append_left hk])
  have e2 : cndAt ts (cs ++ [d]) cs.length = if d.var ≠ ⟨#[]⟩ ∧ idxT ts d.var < ts.length then some ⟨idxT ts d.var, d.op, d.kind, d.int, d.str⟩ else none := by
    unfold cndAt
    rw [List.getElem?_append_right (Nat.le_refl _), Nat.sub_self]
    rfl
  rw [List.length_append, List.length_singleton]
  by_cases h : d.var ≠ ⟨#[]⟩ ∧ idxT ts d.var < ts.length
  · rw [if_pos h] at e2 ⊢
    rw [upL_some e2, e1]
  · rw [if_neg h] at e2 ⊢
    rw [upL_none e2, e1, List.append_nil]
/-- Whether a row of a derived relation stays. -/
def stayB (col : Int) (d : Cd) (x : List Vl) : Bool := decide (col < 0) || holdI d.op (cmpV (x.getD col.toNat zv) ⟨d.kind, d.int, d.str⟩)
/-- The column of the condition's variable. -/
def ColOk (names : List ByteArray) (vars : List Int) (d : Cd) (col : Int) : Prop := (∃ p, ∃ hp : p < vars.length, vars[p] = (posN names d.var : Int) ∧ col = (p : Int)) ∨ ((posN names d.var : Int) ∉ vars ∧ col = -1)
theorem filt_mem {ss : List Sc} {us : List Up} {q q' : Qy} {r r' : Rl} {i : Nat} {b : At} {d : Cd} {col : Int} (hc : checkE ss q = 0) (hr : r ∈ q.rs) (hc' : checkE ss q' = 0) (hr' : r' ∈ q'.rs) (hh : q'.hd = q.hd) (ho : q'.od = q.od) (ha : r'.ats = r.ats) (hcd : r.cds = r'.cds ++ [d]) (hi : r.ats[i]? = some b) (hcol : ColOk (namesL q r) (refS (namesL q r) r i b).vars d col) (x : List Vl) :
    x ∈ loadL (madeD ss us) (refS (namesL q r) r i b) ↔ x ∈ loadL (madeD ss us) (refS (namesL q' r') r' i b) ∧ stayB col d x = true := by
  have hnm := names_less hc hr hc' hr' hh ho ha
  have hne : ∀ s ∈ namesL q r, s ≠ ⟨#[]⟩ := fun s hs => bound_ne (names_bound hc hr s hs)
  have hcov : ∀ b ∈ r.ats, ∀ t ∈ b.terms, t.var ≠ ⟨#[]⟩ → t.var ∈ namesL q r := fun b hb => names_cov hb
  have hkey : ∀ s e, madeD ss us s = some e → ∃ x ∈ ss, x.name = s := fun s e h => madeD_key h
  have hok := src_ok (names := namesL q r) hi hcov
  have hok' : SrcOk (refS (namesL q' r') r' i b) := by
    rw [hnm]
    exact src_ok (names := namesL q r) (by rw [ha]; exact hi) (by rw [ha]; exact hcov)
  have hdv : d.var ≠ ⟨#[]⟩ := cond_var hc hr d (by rw [hcd]; simp)
  have hdn : d.var ∈ namesL q r := mem_addNs.2 (.inr (by
    rw [varsC_eq]
    exact varsT_iff.2 ⟨cdT d, List.mem_append_right _ (List.mem_map.2 ⟨d, by rw [hcd]; simp, rfl⟩), rfl, hdv⟩))
  rw [hnm] at hok' ⊢
  rw [load_mem hkey hok, load_mem hkey hok', derive_mem, derive_mem]
  have hB : ∀ y : Fc, derB (factsL (madeD ss us) ss) (refS (namesL q r) r i b) y = true ↔ derB (factsL (madeD ss us) ss) (refS (namesL q r) r' i b) y = true ∧ (idxT b.terms d.var < b.terms.length → holdI d.op (cmpV (y.row.getD (idxT b.terms d.var) zv) ⟨d.kind, d.int, d.str⟩) = true) := fun y => by
    have e1 : (refS (namesL q r) r i b).fs = (refS (namesL q r) r' i b).fs ++ (if d.var ≠ ⟨#[]⟩ ∧ idxT b.terms d.var < b.terms.length then [⟨idxT b.terms d.var, d.op, d.kind, d.int, d.str⟩] else []) := by
      show upL (conAt b.terms) b.terms.length ++ upL (cndAt b.terms r.cds) r.cds.length = (upL (conAt b.terms) b.terms.length ++ upL (cndAt b.terms r'.cds) r'.cds.length) ++ _
      rw [hcd, cnd_last, List.append_assoc]
    have e2 : (refS (namesL q r) r i b).nots.all (derN (factsL (madeD ss us) ss) (refS (namesL q r) r i b) y.row) = (refS (namesL q r) r' i b).nots.all (derN (factsL (madeD ss us) ss) (refS (namesL q r) r' i b) y.row) := by
      show (notsL (namesL q r) r.ats i).all (derN (factsL (madeD ss us) ss) (refS (namesL q r) r i b) y.row) = (notsL (namesL q r) r'.ats i).all (derN (factsL (madeD ss us) ss) (refS (namesL q r) r' i b) y.row)
      rw [ha]
      rfl
    unfold derB
    rw [e1, e2]
    simp only [Bool.and_eq_true, decide_eq_true_eq, List.all_append]
    by_cases h : idxT b.terms d.var < b.terms.length
    · rw [if_pos ⟨hdv, h⟩]
      have e3 : [(⟨idxT b.terms d.var, d.op, d.kind, d.int, d.str⟩ : Fl)].all (derF y.row) = holdI d.op (cmpV (y.row.getD (idxT b.terms d.var) zv) ⟨d.kind, d.int, d.str⟩) := by
        simp [derF]
      rw [e3]
      constructor
      · rintro ⟨⟨⟨h1, h2, h3⟩, h4⟩, h5⟩
        exact ⟨⟨⟨⟨h1, h2⟩, h4⟩, h5⟩, fun _ => h3⟩
      · rintro ⟨⟨⟨⟨h1, h2⟩, h4⟩, h5⟩, h3⟩
        exact ⟨⟨⟨h1, h2, h3 h⟩, h4⟩, h5⟩
    · rw [if_neg (fun h2 => h h2.2)]
      constructor
      · rintro ⟨⟨⟨h1, h2, -⟩, h4⟩, h5⟩
        exact ⟨⟨⟨⟨h1, h2⟩, h4⟩, h5⟩, fun h3 => absurd h3 h⟩
      · rintro ⟨⟨⟨⟨h1, h2⟩, h4⟩, h5⟩, -⟩
        exact ⟨⟨⟨h1, h2, rfl⟩, h4⟩, h5⟩
  -- the column's value
  have hS : ∀ y : List Vl, (stayB col d (projR (refS (namesL q r) r i b).cols y) = true ↔ (idxT b.terms d.var < b.terms.length → holdI d.op (cmpV (y.getD (idxT b.terms d.var) zv) ⟨d.kind, d.int, d.str⟩) = true)) := fun y => by
    unfold stayB
    rcases hcol with ⟨p, hp, e, rfl⟩ | ⟨hno, rfl⟩
    · have hin : (posN (namesL q r) d.var : Int) ∈ (refS (namesL q r) r i b).vars := e ▸ List.getElem_mem hp
      obtain ⟨k, hk, e2⟩ := mem_upL.1 hin
      obtain ⟨hk2, hix, e3⟩ := vrR_some.1 e2
      have e4 : k = posN (namesL q r) d.var := by omega
      subst e4
      rw [pos_at hdn] at hix
      have h1 : (projR (refS (namesL q r) r i b).cols y).getD p zv = y.getD (idxT b.terms d.var) zv := by
        have hpc : p < (refS (namesL q r) r i b).cols.length := by rw [← hok.len]; exact hp
        unfold projR
        rw [List.getD_eq_getElem?_getD, List.getElem?_map, List.getElem?_eq_getElem hpc]
        simp only [Option.map_some, Option.getD_some]
        have e5 : (refS (namesL q r) r i b).cols[p]? = (upL (fun k => (vrR (namesL q r) b.terms k).map (colI (namesL q r) b.terms)) (namesL q r).length)[p]? := by
          show (upL (clR (namesL q r) b.terms) (namesL q r).length)[p]? = _
          rw [← cols_ref, upL_map]
        rw [← upL_map] at e5
        rw [List.getElem?_map, List.getElem?_eq_getElem hpc] at e5
        have e6 : (refS (namesL q r) r i b).vars[p]? = some (posN (namesL q r) d.var : Int) := by
          rw [List.getElem?_eq_getElem hp]
          exact congrArg some e
        change (upL (vrR (namesL q r) b.terms) (namesL q r).length)[p]? = _ at e6
        rw [e6] at e5
        simp only [Option.map_some, Option.some.injEq] at e5
        have e8 : (namesL q r).getD (posN (namesL q r) d.var) ⟨#[]⟩ = d.var := by
          rw [List.getD_eq_getElem?_getD, List.getElem?_eq_getElem (pos_lt hdn)]
          exact pos_at hdn
        have e7 : colI (namesL q r) b.terms (posN (namesL q r) d.var : Int) = (idxT b.terms d.var : Int) := by
          unfold colI
          rw [Int.toNat_natCast, e8]
        rw [e5, e7, Int.toNat_natCast]
      rw [Int.toNat_natCast, h1, show decide ((p : Int) < 0) = false from decide_eq_false (by omega), Bool.false_or]
      exact ⟨fun h _ => h, fun h => h hix⟩
    · have hx : ¬ idxT b.terms d.var < b.terms.length := fun h => hno (mem_upL.2 ⟨posN (namesL q r) d.var, pos_lt hdn, vrR_some.2 ⟨pos_lt hdn, by rw [pos_at hdn]; exact h, rfl⟩⟩)
      rw [show decide ((-1 : Int) < 0) = true from by decide, Bool.true_or]
      exact ⟨fun _ h => absurd h hx, fun _ => rfl⟩
  constructor
  · rintro ⟨y, hy, hd, rfl⟩
    have h1 := (hB y).1 hd
    exact ⟨⟨y, hy, h1.1, rfl⟩, (hS y.row).2 h1.2⟩
  · rintro ⟨⟨y, hy, hd, rfl⟩, hs⟩
    exact ⟨y, hy, (hB y).2 ⟨hd, (hS y.row).1 hs⟩, rfl⟩
theorem filt_len {M : Dm} {s s' : Src} {p : List Vl → Bool} (h : ∀ x, x ∈ loadL M s ↔ x ∈ loadL M s' ∧ p x = true) : (loadL M s).length = ((loadL M s').filter p).length :=
  so_mem_len (so_nodup (setR_so _)) ((so_nodup (setR_so _)).sublist List.filter_sublist) (fun x => by rw [h, List.mem_filter])
/-- The sources of the query and of the lesser one, side by side. -/
theorem srcs_less {ss : List Sc} {us : List Up} {q q' : Qy} {r r' : Rl} {d : Cd} (hc : checkE ss q = 0) (hr : r ∈ q.rs) (hc' : checkE ss q' = 0) (hr' : r' ∈ q'.rs) (hh : q'.hd = q.hd) (ho : q'.od = q.od) (ha : r'.ats = r.ats) (hcd : r.cds = r'.cds ++ [d]) : (srcsL q' r').length = (srcsL q r).length ∧ ∀ k (h : k < (srcsL q r).length) (h' : k < (srcsL q' r').length), ((srcsL q' r')[k]).vars = ((srcsL q r)[k]).vars ∧ ∀ col, ColOk (namesL q r) ((srcsL q r)[k]).vars d col → ∀ x, x ∈ loadL (madeD ss us) (srcsL q r)[k] ↔ x ∈ loadL (madeD ss us) (srcsL q' r')[k] ∧ stayB col d x = true := by
  have hnm := names_less hc hr hc' hr' hh ho ha
  have e1 : srcsL q r = (upL (fun i => (r.ats[i]?).bind (fun a => if a.neg = true then none else some (i, a))) r.ats.length).map (fun p => refS (namesL q r) r p.1 p.2) := by
    unfold srcsL
    rw [upL_map]
    refine upL_congr (fun k hk => ?_)
    unfold srcR
    rw [List.getElem?_eq_getElem hk]
    simp only [Option.bind_some]
    split <;> rfl
  have e2 : srcsL q' r' = (upL (fun i => (r.ats[i]?).bind (fun a => if a.neg = true then none else some (i, a))) r.ats.length).map (fun p => refS (namesL q' r') r' p.1 p.2) := by
    unfold srcsL
    rw [upL_map, ha]
    refine upL_congr (fun k hk => ?_)
    unfold srcR
    rw [ha, List.getElem?_eq_getElem hk]
    simp only [Option.bind_some]
    split <;> rfl
  refine ⟨by rw [e1, e2, List.length_map, List.length_map], fun k h h' => ?_⟩
  simp only [e1, e2, List.getElem_map]
  simp only [e1, List.length_map] at h
  have hmem := List.getElem_mem h
  obtain ⟨j, -, e3⟩ := mem_upL.1 hmem
  generalize (upL (fun i => (r.ats[i]?).bind (fun a => if a.neg = true then none else some (i, a))) r.ats.length)[k] = p at *
  have hi : r.ats[p.1]? = some p.2 := by
    rcases ha2 : r.ats[j]? with _ | a
    · rw [ha2] at e3
      cases e3
    · rw [ha2] at e3
      simp only [Option.bind_some] at e3
      split at e3
      · cases e3
      · injection e3 with e3
        subst e3
        exact ha2
  refine ⟨?_, fun col hcol x => filt_mem hc hr hc' hr' hh ho ha hcd hi hcol x⟩
  rw [hnm]
  rfl
end Go.Proofs.YtmmmdinncmbjkaaGreat
