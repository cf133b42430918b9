/- The walk of HomomorphismComposes. -/
import Derived.Test.YtiahaofjmcjdiaaDoorHvb
namespace Go.Proofs.YtiahaofjmcjdiaaDoor
open Go.RowKit

def RuT : TypeId := 25
/-- The three boxes. -/
structure Bx (w wr : World) (la lb lc : List Value) : Prop where
  a : Bk wr w.heap.size 25 la
  b : Bk wr (w.heap.size + 1) 25 lb
  c : Bk wr (w.heap.size + 1 + 1) 25 lc
  ext : Ext w wr
theorem Bx.fore {w wr w' : World} {la lb lc : List Value} (h : Bx w wr la lb lc) (he : Ext wr w') : Bx w w' la lb lc := ⟨h.a.ext he, h.b.ext he, h.c.ext he, h.ext.trans he⟩
theorem lpureB_out {xs : List At} {nc : Nat} (h : lpureB xs nc = true) : (∀ a ∈ xs, a.neg = false) ∧ nc = 0 := of_decide_eq_true h

theorem fold_addP (s : ByteArray) : ∀ (ps : List (ByteArray × Tm)) (f : ByteArray → Option Tm), ps.foldl addP f s = if (f s).isSome = true then f s else ps.foldl addP (fun _ => none) s
  | [], f => by rcases h : f s with _ | u <;> simp [h]
  | p :: ps, f => by
    rw [List.foldl_cons, List.foldl_cons, fold_addP s ps (addP f p), fold_addP s ps (addP (fun _ => none) p)]
    by_cases e : s = p.1
    · rcases hf : f s with _ | u
      · have h1 : addP f p s = some p.2 := by unfold addP; rw [← e, hf]; simp [updT]
        have h2 : addP (fun _ => none) p s = some p.2 := by unfold addP; simp [updT, e]
        rw [h1, h2]; simp
      · have h1 : addP f p s = some u := by unfold addP; rw [← e, hf]; simp [hf]
        rw [h1]; simp
    · have h1 : addP f p s = f s := by unfold addP; split; rfl; simp [updT, e]
      have h2 : addP (fun _ => none) p s = none := by unfold addP; simp [updT, e]
      rw [h1, h2]; simp
theorem firstP_cons (p : ByteArray × Tm) (ps : List (ByteArray × Tm)) (s : ByteArray) : firstP (p :: ps) s = if s = p.1 then some p.2 else firstP ps s := by
  unfold firstP
  rw [List.foldl_cons, fold_addP]
  by_cases e : s = p.1
  · have h2 : addP (fun _ => none) p s = some p.2 := by unfold addP; simp [updT, e]
    rw [h2, if_pos e]; rfl
  · have h2 : addP (fun _ => none) p s = none := by unfold addP; simp [updT, e]
    rw [h2, if_neg e]; rfl
theorem firstP_none {s : ByteArray} : ∀ {ps : List (ByteArray × Tm)}, (∀ q ∈ ps, q.1 ≠ s) → firstP ps s = none
  | [], _ => rfl
  | p :: ps, h => by rw [firstP_cons, if_neg (fun e => h p (by simp) e.symm), firstP_none (fun q hq => h q (by simp [hq]))]
theorem firstP_hit {s : ByteArray} : ∀ {ps : List (ByteArray × Tm)} {j : Nat} (hj : j < ps.length), (∀ q ∈ ps.take j, q.1 ≠ s) → ps[j].1 = s → firstP ps s = some ps[j].2
  | p :: ps, 0, _, _, he => by
    have he : p.1 = s := he
    rw [firstP_cons, if_pos he.symm]; rfl
  | p :: ps, j + 1, hj, h, he => by
    rw [firstP_cons, if_neg (fun e => h p (by simp) e.symm)]
    exact firstP_hit (ps := ps) (j := j) (by simpa using hj) (fun q hq => h q (by simp [hq])) he
/-- No pair so far replaces the term. -/
def NoHit (t : Tm) (h : List (ByteArray × Tm)) : Prop := t.var = ⟨#[]⟩ ∨ ∀ q ∈ h, q.1 ≠ t.var
theorem NoHit.step {t : Tm} {h : List (ByteArray × Tm)} {j : Nat} (hn : NoHit t (h.take j)) (hj : j < h.length) (hne : ¬ (t.var ≠ ⟨#[]⟩ ∧ h[j].1 = t.var)) : NoHit t (h.take (j + 1)) := by
  by_cases e : t.var = ⟨#[]⟩
  · exact .inl e
  · rcases hn with hn | hn
    · exact absurd hn e
    · refine .inr (fun q hq => ?_)
      rw [List.take_succ_eq_append_getElem hj, List.mem_append, List.mem_singleton] at hq
      rcases hq with hq | hq
      · exact hn q hq
      · subst hq; exact fun e2 => hne ⟨e, e2⟩
theorem NoHit.rep {t : Tm} {h : List (ByteArray × Tm)} (hn : NoHit t h) : repT (firstP h) t = t := by
  unfold repT
  by_cases e : t.var = ⟨#[]⟩
  · rw [if_pos e]
  · rw [if_neg e]
    rcases hn with hn | hn
    · exact absurd hn e
    · rw [firstP_none hn]; rfl
theorem hit_rep {t : Tm} {h : List (ByteArray × Tm)} {j : Nat} (hj : j < h.length) (hn : NoHit t (h.take j)) (h1 : t.var ≠ ⟨#[]⟩) (h2 : h[j].1 = t.var) : repT (firstP h) t = h[j].2 := by
  unfold repT
  rw [if_neg h1]
  rcases hn with hn | hn
  · exact absurd hn h1
  · rw [firstP_hit hj hn h2]; rfl
theorem find_hit {w w' : World} {e : Ending} {xs ys : List At} {im : ByteArray → Option Tm} (h : findS xs ys [] = some im) (hp : FindPost xs ys [] w e w') :
    ∃ A c n, e = .returned (.tuple #[.slice A n c, .bool true, .int .i64 0]) ∧ Ext w w' ∧ n = (varsT (allT xs)).length ∧ Prs (fun _ => True) w' (.slice A n c) (pairsOf (varsT (allT xs)) im) := by
  obtain ⟨he, hp⟩ := hp
  rw [h] at hp
  obtain ⟨v, rfl, hr⟩ := hp
  obtain ⟨A, c, rfl⟩ := own_slice hr
  obtain ⟨g1, g2, g3⟩ := Cl.own hr (fun _ => True) (fun _ _ => trivial)
  exact ⟨A, c, _, rfl, he, rfl, A, c, by simp [pairsOf], by simp only [pairsOf, List.length_map]; exact g1, g3⟩
theorem find_miss {w w' : World} {e : Ending} {xs ys : List At} (h : findS xs ys [] = none) (hp : FindPost xs ys [] w e w') : e = .returned (.tuple #[.slice none 0 0, .bool false, .int .i64 0]) ∧ Ext w w' := by
  obtain ⟨he, hp⟩ := hp
  rw [h] at hp
  exact ⟨hp, he⟩
theorem find_self {xs : List At} (h : Sp xs) : ∃ im, findS xs xs [] = some im := Option.isSome_iff_exists.1 (findS_some (hom_id h.good) (hom_cands (hom_id h.good) (fun _ _ => rfl)))
theorem hom_some {xs ys : List At} {im : ByteArray → Option Tm} (h : findS xs ys [] = some im) : Hom im xs ys ∧ ∀ v ∈ varsT (allT xs), (im v).isSome = true := by
  obtain ⟨h1, h2⟩ := find_hom h
  exact ⟨h1, fun v hv => by obtain ⟨t, _, e⟩ := h2 v hv; rw [e]; rfl⟩

theorem two_new (w : World) (o0 o1 : List Value) (t0 t1 : TypeId) (W : World) (hW : W = (w.alloc (.cells o0.toArray t0)).alloc (.cells o1.toArray t1)) :
    Bk W w.heap.size t0 o0 ∧ Bk W (w.heap.size + 1) t1 o1 ∧ Ext w W := by
  subst hW
  have k0 := Bk.new w t0 o0
  have k1 := Bk.new (w.alloc (.cells o0.toArray t0)) t1 o1
  rw [show (w.alloc (.cells o0.toArray t0)).heap.size = w.heap.size + 1 by simp] at k1
  exact ⟨k0.alloc _, k1, (((Ext.refl w).alloc _).alloc _)⟩
theorem own_ext {w w' : World} {base size n : Nat} {e : TypeId} {v : Value} {xs : List Value} (h : w.ownsRow base e size v n xs) (he : Ext w w') : w'.ownsRow base e size v n xs :=
  h.kept (row := none) ⟨he.os, he.tape, he.output, he.size, fun _ hk _ => he.heap hk⟩ (by cases v.ownBlock <;> simp)

set_option maxRecDepth 100000 in
set_option maxHeartbeats 3200000 in
theorem composes_any {F : Nat → Prop} {w : World} {svA svB svC : Value} {CA CB CC : Option Addr} {na ca nb cb nc cc : Nat} {xa xb xc : List At} (hA : Ats F w svA xa) (hB : Ats F w svB xb) (hC : Ats F w svC xc) (ra : Rg xa) (rb : Rg xb) (rc : Rg xc) (htab : TabE w) :
    Calls Tryd.prog 5 #[.agg #[svA, .slice CA na ca], .agg #[svB, .slice CB nb cb], .agg #[svC, .slice CC nc cc]] w (Ret (fun x _ => x = .bool true) w) := by
  have HA := Lib.hid hA; have HB := Lib.hid hB; have HC := Lib.hid hC; have RA := Lib.hid ra; have RB := Lib.hid rb; have RC := Lib.hid rc; have HTAB := Lib.hid htab
  obtain ⟨A1, c1, n1, h1⟩ : ∃ A c n, svA = .slice A n c := by obtain ⟨A, c, vs, hv, _⟩ := hA; exact ⟨A, c, _, hv⟩
  obtain ⟨A2, c2, n2, h2⟩ : ∃ A c n, svB = .slice A n c := by obtain ⟨A, c, vs, hv, _⟩ := hB; exact ⟨A, c, _, hv⟩
  obtain ⟨A3, c3, n3, h3⟩ : ∃ A c n, svC = .slice A n c := by obtain ⟨A, c, vs, hv, _⟩ := hC; exact ⟨A, c, _, hv⟩
  subst h1 h2 h3
  clear hA hB hC ra rb rc htab
  go_enter Tryd.func5, Tryd.ntmps5
  go_wp2_with fail
  have h3 := three_new w [.slice A1 n1 c1, .slice CA na ca] [.slice A2 n2 c2, .slice CB nb cb] [.slice A3 n3 c3, .slice CC nc cc] 25 25 25 _ rfl
  change Bk (((w.alloc (.cells #[.slice A1 n1 c1, .slice CA na ca] 25)).alloc (.cells #[.slice A2 n2 c2, .slice CB nb cb] 25)).alloc (.cells #[.slice A3 n3 c3, .slice CC nc cc] 25)) _ _ _ ∧ Bk (((w.alloc (.cells #[.slice A1 n1 c1, .slice CA na ca] 25)).alloc (.cells #[.slice A2 n2 c2, .slice CB nb cb] 25)).alloc (.cells #[.slice A3 n3 c3, .slice CC nc cc] 25)) _ _ _ ∧ Bk (((w.alloc (.cells #[.slice A1 n1 c1, .slice CA na ca] 25)).alloc (.cells #[.slice A2 n2 c2, .slice CB nb cb] 25)).alloc (.cells #[.slice A3 n3 c3, .slice CC nc cc] 25)) _ _ _ ∧ Ext w (((w.alloc (.cells #[.slice A1 n1 c1, .slice CA na ca] 25)).alloc (.cells #[.slice A2 n2 c2, .slice CB nb cb] 25)).alloc (.cells #[.slice A3 n3 c3, .slice CC nc cc] 25)) at h3
  generalize (((w.alloc (.cells #[.slice A1 n1 c1, .slice CA na ca] 25)).alloc (.cells #[.slice A2 n2 c2, .slice CB nb cb] 25)).alloc (.cells #[.slice A3 n3 c3, .slice CC nc cc] 25)) = w1 at *
  obtain ⟨k1, k2, k3, hx1⟩ := h3
  have HX : Hid (Bx w w1 [.slice A1 n1 c1, .slice CA na ca] [.slice A2 n2 c2, .slice CB nb cb] [.slice A3 n3 c3, .slice CC nc cc]) := Lib.hid ⟨k1, k2, k3, hx1⟩
  clear k1 k2 k3 hx1
  refine (great_any (HA.out.ext HX.out.ext) RA.out.bd).mono ?_
  rintro e v2 ⟨y, rfl, hen, bA, rfl, hsA⟩
  replace HX := Lib.hid (HX.out.fore hen)
  clear hen
  rcases bA with _ | _
  case true =>
    clear hsA
    go_wp2_with fail
    refine (awake_any (HTAB.out.fore HX.out.ext)).mono ?_
    rintro e wz ⟨y, rfl, hez, rfl⟩
    have HZ := Lib.hid (HX.out.ext.trans hez)
    clear hez
    go_wp2_with fail
    go_ret
    exact Ret.mk HZ.out rfl
  have SMA := Lib.hid (hsA rfl)
  clear hsA
  have a0 := HX.out.a.cell (i := 0) (by simp); have a1 := HX.out.a.cell (i := 1) (by simp); have b0 := HX.out.b.cell (i := 0) (by simp); have b1 := HX.out.b.cell (i := 1) (by simp); have d0 := HX.out.c.cell (i := 0) (by simp); have d1 := HX.out.c.cell (i := 1) (by simp)
  simp only [List.getElem_cons_zero, List.getElem_cons_succ] at a0 a1 b0 b1 d0 d1
  go_wp2_with fail
  clear a0 a1 b0 b1 d0 d1
  refine (great_any (HB.out.ext HX.out.ext) RB.out.bd).mono ?_
  rintro e v3 ⟨y, rfl, hen, bB, rfl, hsB⟩
  replace HX := Lib.hid (HX.out.fore hen)
  clear hen
  rcases bB with _ | _
  case true =>
    clear hsB
    go_wp2_with fail
    refine (awake_any (HTAB.out.fore HX.out.ext)).mono ?_
    rintro e wz ⟨y, rfl, hez, rfl⟩
    have HZ := Lib.hid (HX.out.ext.trans hez)
    clear hez
    go_wp2_with fail
    go_ret
    exact Ret.mk HZ.out rfl
  have SMB := Lib.hid (hsB rfl)
  clear hsB
  have a0 := HX.out.a.cell (i := 0) (by simp); have a1 := HX.out.a.cell (i := 1) (by simp); have b0 := HX.out.b.cell (i := 0) (by simp); have b1 := HX.out.b.cell (i := 1) (by simp); have d0 := HX.out.c.cell (i := 0) (by simp); have d1 := HX.out.c.cell (i := 1) (by simp)
  simp only [List.getElem_cons_zero, List.getElem_cons_succ] at a0 a1 b0 b1 d0 d1
  go_wp2_with fail
  clear a0 a1 b0 b1 d0 d1
  refine (great_any (HC.out.ext HX.out.ext) RC.out.bd).mono ?_
  rintro e v4 ⟨y, rfl, hen, bC, rfl, hsC⟩
  replace HX := Lib.hid (HX.out.fore hen)
  clear hen
  rcases bC with _ | _
  case true =>
    clear hsC
    go_wp2_with fail
    refine (awake_any (HTAB.out.fore HX.out.ext)).mono ?_
    rintro e wz ⟨y, rfl, hez, rfl⟩
    have HZ := Lib.hid (HX.out.ext.trans hez)
    clear hez
    go_wp2_with fail
    go_ret
    exact Ret.mk HZ.out rfl
  have SMC := Lib.hid (hsC rfl)
  clear hsC
  have a0 := HX.out.a.cell (i := 0) (by simp); have a1 := HX.out.a.cell (i := 1) (by simp); have b0 := HX.out.b.cell (i := 0) (by simp); have b1 := HX.out.b.cell (i := 1) (by simp); have d0 := HX.out.c.cell (i := 0) (by simp); have d1 := HX.out.c.cell (i := 1) (by simp)
  simp only [List.getElem_cons_zero, List.getElem_cons_succ] at a0 a1 b0 b1 d0 d1
  go_wp2_with fail
  clear a0 a1 b0 b1 d0 d1
  refine (lpure_any (HA.out.ext HX.out.ext) RA.out.bd.len).mono ?_
  rintro e v5 ⟨y, rfl, hen, rfl⟩
  replace HX := Lib.hid (HX.out.fore hen)
  clear hen
  rcases hpA : lpureB xa na with _ | _
  case false =>
    clear hpA
    go_wp2_with fail
    refine (awake_any (HTAB.out.fore HX.out.ext)).mono ?_
    rintro e wz ⟨y, rfl, hez, rfl⟩
    have HZ := Lib.hid (HX.out.ext.trans hez)
    clear hez
    go_wp2_with fail
    go_ret
    exact Ret.mk HZ.out rfl
  have PUA := Lib.hid hpA
  clear hpA
  have a0 := HX.out.a.cell (i := 0) (by simp); have a1 := HX.out.a.cell (i := 1) (by simp); have b0 := HX.out.b.cell (i := 0) (by simp); have b1 := HX.out.b.cell (i := 1) (by simp); have d0 := HX.out.c.cell (i := 0) (by simp); have d1 := HX.out.c.cell (i := 1) (by simp)
  simp only [List.getElem_cons_zero, List.getElem_cons_succ] at a0 a1 b0 b1 d0 d1
  go_wp2_with fail
  clear a0 a1 b0 b1 d0 d1
  refine (lpure_any (HB.out.ext HX.out.ext) RB.out.bd.len).mono ?_
  rintro e v6 ⟨y, rfl, hen, rfl⟩
  replace HX := Lib.hid (HX.out.fore hen)
  clear hen
  rcases hpB : lpureB xb nb with _ | _
  case false =>
    clear hpB
    go_wp2_with fail
    refine (awake_any (HTAB.out.fore HX.out.ext)).mono ?_
    rintro e wz ⟨y, rfl, hez, rfl⟩
    have HZ := Lib.hid (HX.out.ext.trans hez)
    clear hez
    go_wp2_with fail
    go_ret
    exact Ret.mk HZ.out rfl
  have PUB := Lib.hid hpB
  clear hpB
  have a0 := HX.out.a.cell (i := 0) (by simp); have a1 := HX.out.a.cell (i := 1) (by simp); have b0 := HX.out.b.cell (i := 0) (by simp); have b1 := HX.out.b.cell (i := 1) (by simp); have d0 := HX.out.c.cell (i := 0) (by simp); have d1 := HX.out.c.cell (i := 1) (by simp)
  simp only [List.getElem_cons_zero, List.getElem_cons_succ] at a0 a1 b0 b1 d0 d1
  go_wp2_with fail
  clear a0 a1 b0 b1 d0 d1
  refine (lpure_any (HC.out.ext HX.out.ext) RC.out.bd.len).mono ?_
  rintro e v7 ⟨y, rfl, hen, rfl⟩
  replace HX := Lib.hid (HX.out.fore hen)
  clear hen
  rcases hpC : lpureB xc nc with _ | _
  case false =>
    clear hpC
    go_wp2_with fail
    refine (awake_any (HTAB.out.fore HX.out.ext)).mono ?_
    rintro e wz ⟨y, rfl, hez, rfl⟩
    have HZ := Lib.hid (HX.out.ext.trans hez)
    clear hez
    go_wp2_with fail
    go_ret
    exact Ret.mk HZ.out rfl
  have PUC := Lib.hid hpC
  clear hpC
  obtain ⟨gA, rfl⟩ := lpureB_out PUA.out
  obtain ⟨gB, rfl⟩ := lpureB_out PUB.out
  obtain ⟨gC, rfl⟩ := lpureB_out PUC.out
  have SA : Hid (Sp xa) := Lib.hid ⟨RA.out, SMA.out, gA⟩
  have SB : Hid (Sp xb) := Lib.hid ⟨RB.out, SMB.out, gB⟩
  have SC : Hid (Sp xc) := Lib.hid ⟨RC.out, SMC.out, gC⟩
  clear gA gB gC
  have a0 := HX.out.a.cell (i := 0) (by simp); have a1 := HX.out.a.cell (i := 1) (by simp); have b0 := HX.out.b.cell (i := 0) (by simp); have b1 := HX.out.b.cell (i := 1) (by simp); have d0 := HX.out.c.cell (i := 0) (by simp); have d1 := HX.out.c.cell (i := 1) (by simp)
  simp only [List.getElem_cons_zero, List.getElem_cons_succ] at a0 a1 b0 b1 d0 d1
  go_wp2_with fail
  clear a0 a1 b0 b1 d0 d1
  obtain ⟨imi, hii⟩ := find_self SA.out
  refine (find_sp (HA.out.ext HX.out.ext) (HA.out.ext HX.out.ext) SA.out SA.out).mono ?_
  intro e w8 hp
  obtain ⟨Ai, ci, ni, rfl, hen, hni, hmi⟩ := find_hit hii hp
  replace HX := Lib.hid (HX.out.fore hen)
  have HMI := Lib.hid hmi; have HHI := Lib.hid (hom_some hii)
  clear hp hen hmi hii hni
  have a0 := HX.out.a.cell (i := 0) (by simp); have a1 := HX.out.a.cell (i := 1) (by simp); have b0 := HX.out.b.cell (i := 0) (by simp); have b1 := HX.out.b.cell (i := 1) (by simp); have d0 := HX.out.c.cell (i := 0) (by simp); have d1 := HX.out.c.cell (i := 1) (by simp)
  simp only [List.getElem_cons_zero, List.getElem_cons_succ] at a0 a1 b0 b1 d0 d1
  go_wp2_with fail
  clear a0 a1 b0 b1 d0 d1
  refine (find_sp (HA.out.ext HX.out.ext) (HB.out.ext HX.out.ext) SA.out SB.out).mono ?_
  intro e w9 hp
  rcases hfi : findS xa xb [] with _ | imf
  · obtain ⟨rfl, hen⟩ := find_miss hfi hp
    replace HX := Lib.hid (HX.out.fore hen)
    have HMI := Lib.hid (HMI.out.ext hen)
    clear hp hen hfi
    have a0 := HX.out.a.cell (i := 0) (by simp); have a1 := HX.out.a.cell (i := 1) (by simp); have b0 := HX.out.b.cell (i := 0) (by simp); have b1 := HX.out.b.cell (i := 1) (by simp); have d0 := HX.out.c.cell (i := 0) (by simp); have d1 := HX.out.c.cell (i := 1) (by simp)
    simp only [List.getElem_cons_zero, List.getElem_cons_succ] at a0 a1 b0 b1 d0 d1
    go_wp2_with fail
    clear a0 a1 b0 b1 d0 d1
    refine (find_sp (HB.out.ext HX.out.ext) (HC.out.ext HX.out.ext) SB.out SC.out).mono ?_
    intro e w10 hp
    rcases hfh : findS xb xc [] with _ | imh
    · obtain ⟨rfl, hen⟩ := find_miss hfh hp
      replace HX := Lib.hid (HX.out.fore hen)
      have HMI := Lib.hid (HMI.out.ext hen)
      clear hp hen hfh
      have a0 := HX.out.a.cell (i := 0) (by simp); have a1 := HX.out.a.cell (i := 1) (by simp); have b0 := HX.out.b.cell (i := 0) (by simp); have b1 := HX.out.b.cell (i := 1) (by simp); have d0 := HX.out.c.cell (i := 0) (by simp); have d1 := HX.out.c.cell (i := 1) (by simp)
      simp only [List.getElem_cons_zero, List.getElem_cons_succ] at a0 a1 b0 b1 d0 d1
      go_wp2_with fail
      clear a0 a1 b0 b1 d0 d1
      refine (check_sp (HA.out.ext HX.out.ext) (HA.out.ext HX.out.ext) HMI.out SA.out SA.out (HTAB.out.fore HX.out.ext) HHI.out.1 HHI.out.2).mono ?_
      rintro e wk ⟨y, rfl, hen, rfl⟩
      replace HX := Lib.hid (HX.out.fore hen)
      clear hen HMI
      go_wp2_with fail
      refine (awake_any (HTAB.out.fore HX.out.ext)).mono ?_
      rintro e wz ⟨y, rfl, hez, rfl⟩
      have HZ := Lib.hid (HX.out.ext.trans hez)
      clear hez
      go_wp2_with fail
      go_ret
      exact Ret.mk HZ.out rfl
    · obtain ⟨Ah, ch, nh, rfl, hen, hnh, hmh⟩ := find_hit hfh hp
      replace HX := Lib.hid (HX.out.fore hen)
      have HMI := Lib.hid (HMI.out.ext hen)
      have HMH := Lib.hid hmh; have HHH := Lib.hid (hom_some hfh); have HNH := Lib.hid hnh
      clear hp hen hfh hmh hnh
      have a0 := HX.out.a.cell (i := 0) (by simp); have a1 := HX.out.a.cell (i := 1) (by simp); have b0 := HX.out.b.cell (i := 0) (by simp); have b1 := HX.out.b.cell (i := 1) (by simp); have d0 := HX.out.c.cell (i := 0) (by simp); have d1 := HX.out.c.cell (i := 1) (by simp)
      simp only [List.getElem_cons_zero, List.getElem_cons_succ] at a0 a1 b0 b1 d0 d1
      go_wp2_with fail
      clear a0 a1 b0 b1 d0 d1
      refine (check_sp (HA.out.ext HX.out.ext) (HA.out.ext HX.out.ext) HMI.out SA.out SA.out (HTAB.out.fore HX.out.ext) HHI.out.1 HHI.out.2).mono ?_
      rintro e wk ⟨y, rfl, hen, rfl⟩
      replace HX := Lib.hid (HX.out.fore hen)
      have HMH := Lib.hid (HMH.out.ext hen)
      clear hen HMI
      have a0 := HX.out.a.cell (i := 0) (by simp); have a1 := HX.out.a.cell (i := 1) (by simp); have b0 := HX.out.b.cell (i := 0) (by simp); have b1 := HX.out.b.cell (i := 1) (by simp); have d0 := HX.out.c.cell (i := 0) (by simp); have d1 := HX.out.c.cell (i := 1) (by simp)
      simp only [List.getElem_cons_zero, List.getElem_cons_succ] at a0 a1 b0 b1 d0 d1
      go_wp2_with fail
      clear a0 a1 b0 b1 d0 d1
      refine (check_sp (HB.out.ext HX.out.ext) (HC.out.ext HX.out.ext) HMH.out SB.out SC.out (HTAB.out.fore HX.out.ext) HHH.out.1 HHH.out.2).mono ?_
      rintro e wm ⟨y, rfl, hen, rfl⟩
      replace HX := Lib.hid (HX.out.fore hen)
      have HMH := Lib.hid (HMH.out.ext hen)
      clear hen
      go_wp2_with fail
      refine (awake_any (HTAB.out.fore HX.out.ext)).mono ?_
      rintro e wz ⟨y, rfl, hez, rfl⟩
      have HZ := Lib.hid (HX.out.ext.trans hez)
      clear hez
      go_wp2_with fail
      go_ret
      exact Ret.mk HZ.out rfl
  · obtain ⟨Af, cf, nf, rfl, hen, hnf, hmf⟩ := find_hit hfi hp
    replace HX := Lib.hid (HX.out.fore hen)
    have HMI := Lib.hid (HMI.out.ext hen)
    have HMF := Lib.hid hmf; have HHF := Lib.hid (hom_some hfi); have HNF := Lib.hid hnf
    clear hp hen hmf hfi hnf
    have a0 := HX.out.a.cell (i := 0) (by simp); have a1 := HX.out.a.cell (i := 1) (by simp); have b0 := HX.out.b.cell (i := 0) (by simp); have b1 := HX.out.b.cell (i := 1) (by simp); have d0 := HX.out.c.cell (i := 0) (by simp); have d1 := HX.out.c.cell (i := 1) (by simp)
    simp only [List.getElem_cons_zero, List.getElem_cons_succ] at a0 a1 b0 b1 d0 d1
    go_wp2_with fail
    clear a0 a1 b0 b1 d0 d1
    refine (find_sp (HB.out.ext HX.out.ext) (HC.out.ext HX.out.ext) SB.out SC.out).mono ?_
    intro e w10 hp
    rcases hfh : findS xb xc [] with _ | imh
    · obtain ⟨rfl, hen⟩ := find_miss hfh hp
      replace HX := Lib.hid (HX.out.fore hen)
      have HMI := Lib.hid (HMI.out.ext hen)
      have HMF := Lib.hid (HMF.out.ext hen)
      clear hp hen hfh
      have a0 := HX.out.a.cell (i := 0) (by simp); have a1 := HX.out.a.cell (i := 1) (by simp); have b0 := HX.out.b.cell (i := 0) (by simp); have b1 := HX.out.b.cell (i := 1) (by simp); have d0 := HX.out.c.cell (i := 0) (by simp); have d1 := HX.out.c.cell (i := 1) (by simp)
      simp only [List.getElem_cons_zero, List.getElem_cons_succ] at a0 a1 b0 b1 d0 d1
      go_wp2_with fail
      clear a0 a1 b0 b1 d0 d1
      refine (check_sp (HA.out.ext HX.out.ext) (HA.out.ext HX.out.ext) HMI.out SA.out SA.out (HTAB.out.fore HX.out.ext) HHI.out.1 HHI.out.2).mono ?_
      rintro e wk ⟨y, rfl, hen, rfl⟩
      replace HX := Lib.hid (HX.out.fore hen)
      have HMF := Lib.hid (HMF.out.ext hen)
      clear hen HMI
      have a0 := HX.out.a.cell (i := 0) (by simp); have a1 := HX.out.a.cell (i := 1) (by simp); have b0 := HX.out.b.cell (i := 0) (by simp); have b1 := HX.out.b.cell (i := 1) (by simp); have d0 := HX.out.c.cell (i := 0) (by simp); have d1 := HX.out.c.cell (i := 1) (by simp)
      simp only [List.getElem_cons_zero, List.getElem_cons_succ] at a0 a1 b0 b1 d0 d1
      go_wp2_with fail
      clear a0 a1 b0 b1 d0 d1
      refine (check_sp (HA.out.ext HX.out.ext) (HB.out.ext HX.out.ext) HMF.out SA.out SB.out (HTAB.out.fore HX.out.ext) HHF.out.1 HHF.out.2).mono ?_
      rintro e wl ⟨y, rfl, hen, rfl⟩
      replace HX := Lib.hid (HX.out.fore hen)
      have HMF := Lib.hid (HMF.out.ext hen)
      clear hen
      go_wp2_with fail
      refine (awake_any (HTAB.out.fore HX.out.ext)).mono ?_
      rintro e wz ⟨y, rfl, hez, rfl⟩
      have HZ := Lib.hid (HX.out.ext.trans hez)
      clear hez
      go_wp2_with fail
      go_ret
      exact Ret.mk HZ.out rfl
    · obtain ⟨Ah, ch, nh, rfl, hen, hnh, hmh⟩ := find_hit hfh hp
      replace HX := Lib.hid (HX.out.fore hen)
      have HMI := Lib.hid (HMI.out.ext hen)
      have HMH := Lib.hid hmh; have HHH := Lib.hid (hom_some hfh); have HNH := Lib.hid hnh
      have HMF := Lib.hid (HMF.out.ext hen)
      clear hp hen hfh hmh hnh
      have a0 := HX.out.a.cell (i := 0) (by simp); have a1 := HX.out.a.cell (i := 1) (by simp); have b0 := HX.out.b.cell (i := 0) (by simp); have b1 := HX.out.b.cell (i := 1) (by simp); have d0 := HX.out.c.cell (i := 0) (by simp); have d1 := HX.out.c.cell (i := 1) (by simp)
      simp only [List.getElem_cons_zero, List.getElem_cons_succ] at a0 a1 b0 b1 d0 d1
      go_wp2_with fail
      clear a0 a1 b0 b1 d0 d1
      refine (check_sp (HA.out.ext HX.out.ext) (HA.out.ext HX.out.ext) HMI.out SA.out SA.out (HTAB.out.fore HX.out.ext) HHI.out.1 HHI.out.2).mono ?_
      rintro e wk ⟨y, rfl, hen, rfl⟩
      replace HX := Lib.hid (HX.out.fore hen)
      have HMF := Lib.hid (HMF.out.ext hen)
      have HMH := Lib.hid (HMH.out.ext hen)
      clear hen HMI
      have a0 := HX.out.a.cell (i := 0) (by simp); have a1 := HX.out.a.cell (i := 1) (by simp); have b0 := HX.out.b.cell (i := 0) (by simp); have b1 := HX.out.b.cell (i := 1) (by simp); have d0 := HX.out.c.cell (i := 0) (by simp); have d1 := HX.out.c.cell (i := 1) (by simp)
      simp only [List.getElem_cons_zero, List.getElem_cons_succ] at a0 a1 b0 b1 d0 d1
      go_wp2_with fail
      clear a0 a1 b0 b1 d0 d1
      refine (check_sp (HA.out.ext HX.out.ext) (HB.out.ext HX.out.ext) HMF.out SA.out SB.out (HTAB.out.fore HX.out.ext) HHF.out.1 HHF.out.2).mono ?_
      rintro e wl ⟨y, rfl, hen, rfl⟩
      replace HX := Lib.hid (HX.out.fore hen)
      have HMF := Lib.hid (HMF.out.ext hen)
      have HMH := Lib.hid (HMH.out.ext hen)
      clear hen
      have a0 := HX.out.a.cell (i := 0) (by simp); have a1 := HX.out.a.cell (i := 1) (by simp); have b0 := HX.out.b.cell (i := 0) (by simp); have b1 := HX.out.b.cell (i := 1) (by simp); have d0 := HX.out.c.cell (i := 0) (by simp); have d1 := HX.out.c.cell (i := 1) (by simp)
      simp only [List.getElem_cons_zero, List.getElem_cons_succ] at a0 a1 b0 b1 d0 d1
      go_wp2_with fail
      clear a0 a1 b0 b1 d0 d1
      refine (check_sp (HB.out.ext HX.out.ext) (HC.out.ext HX.out.ext) HMH.out SB.out SC.out (HTAB.out.fore HX.out.ext) HHH.out.1 HHH.out.2).mono ?_
      rintro e wm ⟨y, rfl, hen, rfl⟩
      replace HX := Lib.hid (HX.out.fore hen)
      have HMH := Lib.hid (HMH.out.ext hen)
      have HMF := Lib.hid (HMF.out.ext hen)
      clear hen
      go_wp2_with fail
      obtain ⟨fl, hfl⟩ : ∃ fl, fl = pairsOf (varsT (allT xa)) imf := ⟨_, rfl⟩
      obtain ⟨hl, hhl⟩ : ∃ hl, hl = pairsOf (varsT (allT xb)) imh := ⟨_, rfl⟩
      obtain ⟨Bf, df, ef, hdf, clf⟩ := HMF.out
      obtain ⟨Bh, dh, eh, hdh, clh⟩ := HMH.out
      rw [← hfl] at ef hdf clf
      rw [← hhl] at eh hdh clh
      injection ef with ef1 ef2 ef3
      injection eh with eh1 eh2 eh3
      subst ef1 ef3 eh1 eh3
      have hnf4 : nf ≤ 4 := by rw [HNF.out]; exact SA.out.vars
      have hnh4 : nh ≤ 4 := by rw [HNH.out]; exact SB.out.vars
      rw [← ef2] at hdf
      rw [← eh2] at hdh
      have HFL := Lib.hid hfl; have HHL := Lib.hid hhl; have HLF := Lib.hid ef2; have HLH := Lib.hid eh2; have HCF := Lib.hid clf; have HCH := Lib.hid clh
      clear hfl hhl ef2 eh2 clf clh HMF HMH HNF HNH
      obtain ⟨i0, hi0, hz0, hz1, hz2⟩ := info_parts info_pair
      have HI0 := Lib.hid (And.intro hi0 (And.intro hz0 (And.intro hz1 hz2))); clear hi0 hz0 hz1 hz2
      go_loopw [16, 122] (fun t q wr => ∃ i : Nat, i ≤ nf ∧ q = .int .i64 (i : Int) ∧ wr.ownsRow wm.heap.size 49 5 t i (pcells (bothOf (fl.take i) hl)) ∧ Ext wm wr) (fun _ q _ => nf - (intOf q).toNat)
      case atStart => exact ⟨0, Nat.zero_le _, rfl, World.ownsRow_nil _ _ _ _, Ext.refl _⟩
      case round =>
        obtain ⟨i, hi, rfl, hrow, hext⟩ := hrel
        obtain ⟨wo, rfl⟩ : ∃ wo : World, wo = wr := ⟨_, rfl⟩
        obtain ⟨At, ct, rfl⟩ := own_slice hrow
        have HROW := Lib.hid hrow; have HEXT := Lib.hid hext
        by_cases hlt : i < nf
        · have i1 : (0 : Int) ≤ (i : Int) := by omega
          have i2 : (i : Int) < (nf : Int) := by omega
          have hif : i < fl.length := by have := HLF.out; omega
          obtain ⟨adf, rfl, -, c0, c1, c2, c3, c4⟩ := HCF.out.pair (i := i) hif
          replace c0 := hext.cell c0
          replace c1 := hext.cell c1
          replace c2 := hext.cell c2
          replace c3 := hext.cell c3
          replace c4 := hext.cell c4
          have hbo : bothOf (fl.take (i + 1)) hl = bothOf (fl.take i) hl ++ [(fl[i].1, repT (firstP hl) fl[i].2)] := by unfold bothOf; rw [List.take_succ_eq_append_getElem hif, List.map_append]; rfl
          obtain ⟨pr, hpr⟩ : ∃ pr, pr = fl[i] := ⟨_, rfl⟩
          rw [← hpr] at c0 c1 c2 c3 c4 hbo
          obtain ⟨s, x⟩ := pr
          simp only at c0 c1 c2 c3 c4 hbo
          have HBO := Lib.hid hbo
          clear hbo hpr hrow hext
          go_wp2_with fail
          have h2 := two_new wo [.string s, .string x.var, .int .i64 x.kind, .int .i64 x.int, .string x.str] [.string x.var, .int .i64 x.kind, .int .i64 x.int, .string x.str] 49 47 _ rfl
          change Bk ((wo.alloc (.cells #[.string s, .string x.var, .int .i64 x.kind, .int .i64 x.int, .string x.str] 49)).alloc (.cells #[.string x.var, .int .i64 x.kind, .int .i64 x.int, .string x.str] 47)) _ _ _ ∧ Bk ((wo.alloc (.cells #[.string s, .string x.var, .int .i64 x.kind, .int .i64 x.int, .string x.str] 49)).alloc (.cells #[.string x.var, .int .i64 x.kind, .int .i64 x.int, .string x.str] 47)) _ _ _ ∧ Ext wo ((wo.alloc (.cells #[.string s, .string x.var, .int .i64 x.kind, .int .i64 x.int, .string x.str] 49)).alloc (.cells #[.string x.var, .int .i64 x.kind, .int .i64 x.int, .string x.str] 47)) at h2
          generalize ((wo.alloc (.cells #[.string s, .string x.var, .int .i64 x.kind, .int .i64 x.int, .string x.str] 49)).alloc (.cells #[.string x.var, .int .i64 x.kind, .int .i64 x.int, .string x.str] 47)) = w2 at *
          obtain ⟨kp, kt, hx2⟩ := h2
          have KP2 := Lib.hid kp; have KT2 := Lib.hid kt; have HX2 := Lib.hid hx2
          clear kp kt hx2 c0 c1 c2 c3 c4
          go_loopw [130] (fun q wr => ∃ j : Nat, j ≤ nh ∧ q = .int .i64 (j : Int) ∧ NoHit x (hl.take j) ∧ Ext w2 wr) (fun q _ => nh - (intOf q).toNat)
          case atStart => exact ⟨0, Nat.zero_le _, rfl, .inr (by simp), Ext.refl _⟩
          case round =>
            obtain ⟨j, hj, rfl, hno, hext2⟩ := hrel
            have HNO := Lib.hid hno; have HE2 := Lib.hid hext2
            clear hno
            by_cases hjt : j < nh
            · have j1 : (0 : Int) ≤ (j : Int) := by omega
              have j2 : (j : Int) < (nh : Int) := by omega
              have hjl : j < hl.length := by have := HLH.out; omega
              obtain ⟨adh, rfl, -, d0, d1, d2, d3, d4⟩ := HCH.out.pair (i := j) hjl
              have hxw := (HEXT.out.trans HX2.out).trans hext2
              replace d0 := hxw.cell d0
              replace d1 := hxw.cell d1
              replace d2 := hxw.cell d2
              replace d3 := hxw.cell d3
              replace d4 := hxw.cell d4
              have kt0 := (KT2.out.ext hext2).cell (i := 0) (by simp); have kt1 := (KT2.out.ext hext2).cell (i := 1) (by simp); have kt2 := (KT2.out.ext hext2).cell (i := 2) (by simp); have kt3 := (KT2.out.ext hext2).cell (i := 3) (by simp)
              have ft0 := (KT2.out.ext hext2).free 0; have ft1 := (KT2.out.ext hext2).free 1; have ft2 := (KT2.out.ext hext2).free 2; have ft3 := (KT2.out.ext hext2).free 3
              simp only [List.getElem_cons_zero, List.getElem_cons_succ] at kt0 kt1 kt2 kt3
              obtain ⟨pr, hpr⟩ : ∃ pr, pr = hl[j] := ⟨_, rfl⟩
              rw [← hpr] at d0 d1 d2 d3 d4
              have HPR := Lib.hid hpr
              obtain ⟨s2, y⟩ := pr
              simp only at d0 d1 d2 d3 d4
              have hsz2 : wo.heap.size + 1 < wr.heap.size := (KT2.out.ext hext2).lt
              clear hpr hxw hext2
              by_cases hv : x.var = ⟨#[]⟩
              · have hve := var_eq hv
                have HS := Lib.hid (HNO.out.step hjl (fun h => h.1 hv))
                clear hv
                go_wp2_with fail
                go_roundw
                case rel => exact ⟨j + 1, by omega, by go_num, HS.out, HE2.out.alloc _⟩
                case measure => simp [intOf]; omega
              · have hve := var_ne hv
                by_cases hq : s2 = x.var
                · have HZ : Hid (repT (firstP hl) x = y) := Lib.hid (by have h := hit_rep hjl HNO.out hv (by rw [← HPR.out]; exact hq); rw [h, ← HPR.out])
                  subst hq
                  clear hv
                  go_upto_region 21 with fail
                  have hset : Fr (fun k => k = wo.heap.size + 1) wr (((((wr.setCell ⟨wo.heap.size + 1, 0, none⟩ (.string y.var)).setCell ⟨wo.heap.size + 1, 1, none⟩ (.int .i64 y.kind)).setCell ⟨wo.heap.size + 1, 2, none⟩ (.int .i64 y.int)).setCell ⟨wo.heap.size + 1, 3, none⟩ (.string y.str)).alloc (.cells #[.string x.var, .string y.var, .int .i64 y.kind, .int .i64 y.int, .string y.str] 49)) :=
                    (((((Fr.refl (fun k => k = wo.heap.size + 1) wr).setCell (p := ⟨wo.heap.size + 1, 0, none⟩) (.inl rfl) _).setCell (p := ⟨wo.heap.size + 1, 1, none⟩) (.inl rfl) _).setCell (p := ⟨wo.heap.size + 1, 2, none⟩) (.inl rfl) _).setCell (p := ⟨wo.heap.size + 1, 3, none⟩) (.inl rfl) _).ext ((Ext.refl _).alloc _)
                  have KT : Hid (Bk (((((wr.setCell ⟨wo.heap.size + 1, 0, none⟩ (.string y.var)).setCell ⟨wo.heap.size + 1, 1, none⟩ (.int .i64 y.kind)).setCell ⟨wo.heap.size + 1, 2, none⟩ (.int .i64 y.int)).setCell ⟨wo.heap.size + 1, 3, none⟩ (.string y.str)).alloc (.cells #[.string x.var, .string y.var, .int .i64 y.kind, .int .i64 y.int, .string y.str] 49)) (wo.heap.size + 1) 47 [.string y.var, .int .i64 y.kind, .int .i64 y.int, .string y.str]) := Lib.hid (((((((KT2.out.ext HE2.out).set 0 (.string y.var)).set 1 (.int .i64 y.kind)).set 2 (.int .i64 y.int)).set 3 (.string y.str))).alloc _)
                  generalize (((((wr.setCell ⟨wo.heap.size + 1, 0, none⟩ (.string y.var)).setCell ⟨wo.heap.size + 1, 1, none⟩ (.int .i64 y.kind)).setCell ⟨wo.heap.size + 1, 2, none⟩ (.int .i64 y.int)).setCell ⟨wo.heap.size + 1, 3, none⟩ (.string y.str)).alloc (.cells #[.string x.var, .string y.var, .int .i64 y.kind, .int .i64 y.int, .string y.str] 49)) = X at *
                  have KP := Lib.hid ((KP2.out.ext HE2.out).fr hset (by simp))
                  have HR := Lib.hid (own_fr (own_ext HROW.out (HX2.out.trans HE2.out)) hset (fun k hk e => by subst e; exact own_bk (own_ext HROW.out (HX2.out.trans HE2.out)) (KT2.out.ext HE2.out) (by decide) hk rfl))
                  have HEX := Lib.hid (hset.new ((HEXT.out.trans HX2.out).trans HE2.out) (fun k hk => by have := HEXT.out.size; omega))
                  obtain ⟨z, rfl⟩ : ∃ z : Tm, z = y := ⟨_, rfl⟩
                  clear hset d0 d1 d2 d3 d4 kt0 kt1 kt2 kt3 ft0 ft1 ft2 ft3
                  have kp0 := KP.out.cell (i := 0) (by simp); have kt0 := KT.out.cell (i := 0) (by simp); have kt1 := KT.out.cell (i := 1) (by simp); have kt2 := KT.out.cell (i := 2) (by simp); have kt3 := KT.out.cell (i := 3) (by simp)
                  simp only [List.getElem_cons_zero, List.getElem_cons_succ] at kp0 kt0 kt1 kt2 kt3
                  have hszx : wm.heap.size ≤ X.heap.size := HEX.out.size
                  go_wp2_with (first | (at_builtin; refine wpList_append_at rfl _ _ 29 rfl wm.heap.size 49 i0 (.agg #[.string ⟨#[]⟩, .string ⟨#[]⟩, .int .i64 0, .int .i64 0, .string ⟨#[]⟩]) 5 64 Tryd.underlying29 HI0.out.1 HI0.out.2.1 HI0.out.2.2.1 HI0.out.2.2.2 rfl (by omega) _ i (pcells (bothOf (fl.take i) hl)) rfl (HR.out.alloc _) ⟨X.heap.size, 0, none⟩ 1 1 (pairC s z) rfl rfl (laid_news X _ (pairC s z)) (by simp [pairC, Value.oneCell']) (by simp only [maxLen]; omega) (by omega) (by simp; omega) ?_; intro v' w' hr' hgr hland; have HN := Lib.hid (And.intro hr' (((HEX.out.alloc _).grown hgr (fun kk hk => (HR.out.lt kk hk).1)))); clear hr' hgr hland))
                  go_roundw
                  case rel => exact ⟨i + 1, by omega, by go_num, by rw [HBO.out, HZ.out, pcells_snoc]; exact HN.out.1, HN.out.2⟩
                  case measure => simp [intOf]; omega
                · have HS := Lib.hid (HNO.out.step hjl (fun h => hq (by rw [← h.2, ← HPR.out])))
                  have hq2 : (s2.toList == x.var.toList) = false := beq_false_of_ne (fun e => hq (toList_inj e))
                  clear hv hq
                  go_wp2_with fail
                  go_roundw
                  case rel => exact ⟨j + 1, by omega, by go_num, HS.out, HE2.out.alloc _⟩
                  case measure => simp [intOf]; omega
            · obtain rfl : j = nh := by omega
              have hdn2 : ¬ (j : Int) < (j : Int) := by omega
              have HZ : Hid (repT (firstP hl) x = x) := Lib.hid (by have h := HNO.out; rw [HLH.out, List.take_length] at h; exact h.rep)
              have KP := Lib.hid (KP2.out.ext HE2.out); have KT := Lib.hid (KT2.out.ext HE2.out)
              have HEX := Lib.hid ((HEXT.out.trans HX2.out).trans HE2.out)
              have HR := Lib.hid (own_ext HROW.out (HX2.out.trans HE2.out))
              obtain ⟨z, hz⟩ : ∃ z, x = z := ⟨_, rfl⟩
              obtain ⟨X, rfl⟩ : ∃ X : World, X = wr := ⟨_, rfl⟩
              clear hext2
              rw [hz] at KT
              replace HZ : Hid (repT (firstP hl) x = z) := Lib.hid (HZ.out.trans hz)
              clear hz
              have kp0 := KP.out.cell (i := 0) (by simp); have kt0 := KT.out.cell (i := 0) (by simp); have kt1 := KT.out.cell (i := 1) (by simp); have kt2 := KT.out.cell (i := 2) (by simp); have kt3 := KT.out.cell (i := 3) (by simp)
              simp only [List.getElem_cons_zero, List.getElem_cons_succ] at kp0 kt0 kt1 kt2 kt3
              have hszx : wm.heap.size ≤ X.heap.size := HEX.out.size
              go_wp2_with (first | (at_builtin; refine wpList_append_at rfl _ _ 29 rfl wm.heap.size 49 i0 (.agg #[.string ⟨#[]⟩, .string ⟨#[]⟩, .int .i64 0, .int .i64 0, .string ⟨#[]⟩]) 5 64 Tryd.underlying29 HI0.out.1 HI0.out.2.1 HI0.out.2.2.1 HI0.out.2.2.2 rfl (by omega) _ i (pcells (bothOf (fl.take i) hl)) rfl (HR.out.alloc _) ⟨X.heap.size, 0, none⟩ 1 1 (pairC s z) rfl rfl (laid_news X _ (pairC s z)) (by simp [pairC, Value.oneCell']) (by simp only [maxLen]; omega) (by omega) (by simp; omega) ?_; intro v' w' hr' hgr hland; have HN := Lib.hid (And.intro hr' (((HEX.out.alloc _).grown hgr (fun kk hk => (HR.out.lt kk hk).1)))); clear hr' hgr hland))
              go_roundw
              case rel => exact ⟨i + 1, by omega, by go_num, by rw [HBO.out, HZ.out, pcells_snoc]; exact HN.out.1, HN.out.2⟩
              case measure => simp [intOf]; omega
        · obtain rfl : i = nf := by omega
          have hdn : ¬ (i : Int) < (i : Int) := by omega
          clear hrow hext
          replace HX := Lib.hid (HX.out.fore HEXT.out)
          have HBOTH : Hid (Prs (fun _ => True) wo (.slice At i ct) (pairsOf (varsT (allT xa)) (compI imf (firstP hl)))) := Lib.hid (by
            obtain ⟨g1, g2, g3⟩ := Cl.own HROW.out (fun _ => True) (fun _ _ => trivial)
            have et : fl.take i = fl := by rw [HLF.out]; exact List.take_length
            have eb : bothOf fl hl = pairsOf (varsT (allT xa)) (compI imf (firstP hl)) := by rw [HFL.out]; exact both_pairs HHF.out.2 rfl
            have el : i = (pairsOf (varsT (allT xa)) (compI imf (firstP hl))).length := by rw [HLF.out, HFL.out]; simp [pairsOf]
            rw [et, eb] at g3
            exact ⟨At, ct, by rw [← el], by rw [← el]; exact g1, g3⟩)
          have HHB : Hid (Hom (compI imf (firstP hl)) xa xc) := Lib.hid (hom_comp HHF.out.1 (hom_congr HHH.out.1 (fun v hv => by rw [HHL.out]; exact first_pairs hv (HHH.out.2 v hv))) HHF.out.2)
          have HSB : Hid (∀ v ∈ varsT (allT xa), (compI imf (firstP hl) v).isSome = true) := Lib.hid (fun v hv => by unfold compI; rw [Option.isSome_map]; exact HHF.out.2 v hv)
          obtain ⟨imc, hic⟩ : ∃ im, findS xa xc [] = some im := Option.isSome_iff_exists.1 (findS_some HHB.out (hom_cands HHB.out HSB.out))
          have HIC := Lib.hid hic
          clear hic HROW HEXT
          have a0 := HX.out.a.cell (i := 0) (by simp); have a1 := HX.out.a.cell (i := 1) (by simp); have b0 := HX.out.b.cell (i := 0) (by simp); have b1 := HX.out.b.cell (i := 1) (by simp); have d0 := HX.out.c.cell (i := 0) (by simp); have d1 := HX.out.c.cell (i := 1) (by simp)
          simp only [List.getElem_cons_zero, List.getElem_cons_succ] at a0 a1 b0 b1 d0 d1
          go_wp2_with fail
          clear a0 a1 b0 b1 d0 d1
          refine (find_sp (HA.out.ext HX.out.ext) (HC.out.ext HX.out.ext) SA.out SC.out).mono ?_
          intro e w20 hp
          obtain ⟨Ac, cx, nx, rfl, hen, -, -⟩ := find_hit HIC.out hp
          replace HX := Lib.hid (HX.out.fore hen)
          replace HBOTH := Lib.hid (HBOTH.out.ext hen)
          clear hp hen HIC
          have a0 := HX.out.a.cell (i := 0) (by simp); have a1 := HX.out.a.cell (i := 1) (by simp); have b0 := HX.out.b.cell (i := 0) (by simp); have b1 := HX.out.b.cell (i := 1) (by simp); have d0 := HX.out.c.cell (i := 0) (by simp); have d1 := HX.out.c.cell (i := 1) (by simp)
          simp only [List.getElem_cons_zero, List.getElem_cons_succ] at a0 a1 b0 b1 d0 d1
          go_wp2_with fail
          clear a0 a1 b0 b1 d0 d1
          refine (check_sp (HA.out.ext HX.out.ext) (HC.out.ext HX.out.ext) HBOTH.out SA.out SC.out (HTAB.out.fore HX.out.ext) HHB.out HSB.out).mono ?_
          rintro e w21 ⟨y, rfl, hen, rfl⟩
          replace HX := Lib.hid (HX.out.fore hen)
          clear hen
          go_wp2_with fail
          refine (awake_any (HTAB.out.fore HX.out.ext)).mono ?_
          rintro e wz ⟨y, rfl, hez, rfl⟩
          have HZ := Lib.hid (HX.out.ext.trans hez)
          clear hez
          go_wp2_with fail
          go_ret
          exact Ret.mk HZ.out rfl
end Go.Proofs.YtiahaofjmcjdiaaDoor
