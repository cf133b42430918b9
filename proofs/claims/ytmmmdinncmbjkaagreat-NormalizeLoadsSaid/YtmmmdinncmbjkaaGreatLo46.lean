/- Plain law: the order with all directions reversed. Plain law: the program's names are the reference's, the free variables are the head's. Plain: the sources of a checked rule fit the database made of the schemas. Words: a source of the reference that is being built. -/
import Derived.Test.YtmmmdinncmbjkaaGreatLo45
import Derived.Test.YtmmmdinncmbjkaaGreatLo44
import Derived.Test.YtmmmdinncmbjkaaGreatLo16
import Derived.Test.YtmmmdinncmbjkaaGreatLo17
namespace Go.Proofs.YtmmmdinncmbjkaaGreat
open Go.RowKit Go.Maps
def turnK (k : Ky) : Ky := ⟨k.var, !k.desc⟩
theorem turn_var (l : List Ky) : (l.map turnK).map Ky.var = l.map Ky.var := by
  rw [List.map_map]; rfl
theorem orderE_iff {hd : List ByteArray} {od : List Ky} : orderE hd od = 0 ↔ (∀ k ∈ od, k.var ∈ hd) ∧ (od.map Ky.var).Nodup := by
  have key : ∀ i (hi : i < od.length), (if (od.map Ky.var).getD i ⟨#[]⟩ ∈ hd then (if (od.map Ky.var).getD i ⟨#[]⟩ ∈ (od.map Ky.var).take i then (8 : Int) else 0) else 7) = 0 ↔ od[i].var ∈ hd ∧ od[i].var ∉ (od.map Ky.var).take i := fun i hi => by
    have e : (od.map Ky.var).getD i ⟨#[]⟩ = od[i].var := by rw [List.getD_eq_getElem?_getD, List.getElem?_eq_getElem (by simpa using hi)]; simp
    rw [e]
    by_cases h1 : od[i].var ∈ hd
    · rw [if_pos h1]
      by_cases h2 : od[i].var ∈ (od.map Ky.var).take i
      · rw [if_pos h2]; exact ⟨fun h => (by cases h), fun h => absurd h2 h.2⟩
      · rw [if_neg h2]; exact ⟨fun _ => ⟨h1, h2⟩, fun _ => rfl⟩
    · rw [if_neg h1]; exact ⟨fun h => (by cases h), fun h => absurd h.1 h1⟩
  unfold orderE
  rw [firstI_zero]
  constructor
  · intro h
    refine ⟨fun k hk => ?_, ?_⟩
    · obtain ⟨i, hi, rfl⟩ := List.getElem_of_mem hk
      exact ((key i hi).1 (h i hi)).1
    · refine List.pairwise_iff_getElem.2 (fun i j hi hj hij e => ?_)
      have hi' : i < od.length := by simpa using hi
      have hj' : j < od.length := by simpa using hj
      refine ((key j hj').1 (h j hj')).2 ?_
      rw [List.mem_take_iff_getElem]
      refine ⟨i, by simp; omega, ?_⟩
      rw [e]; simp
  · rintro ⟨h1, h2⟩ i hi
    refine (key i hi).2 ⟨h1 _ (List.getElem_mem hi), fun h => ?_⟩
    rw [List.mem_take_iff_getElem] at h
    obtain ⟨j, hj, e⟩ := h
    have hji : j < i := by omega
    have hj2 : j < (od.map Ky.var).length := by simp; omega
    have := List.pairwise_iff_getElem.1 h2 j i hj2 (by simpa using hi) hji
    exact this (by rw [e]; simp)
theorem headE_nodup {hd : List ByteArray} (h : headE hd = 0) : hd.Nodup := by
  unfold headE at h
  split at h
  · refine List.pairwise_iff_getElem.2 (fun i j hi hj hij e => ?_)
    have h1 := firstI_zero.1 h j hj
    have e1 : hd.getD j ⟨#[]⟩ = hd[j] := by rw [List.getD_eq_getElem?_getD, List.getElem?_eq_getElem hj]; rfl
    rw [e1] at h1
    split at h1
    · split at h1
      · cases h1
      · rename_i h3
        refine h3 ?_
        rw [List.mem_take_iff_getElem]
        exact ⟨i, by omega, e⟩
    · cases h1
  · cases h
theorem order_vars (hd : List ByteArray) (od : List Ky) : (orderL hd od).map Ky.var = od.map Ky.var ++ hd.filter (fun v => !decide (v ∈ od.map Ky.var)) := by
  unfold orderL
  rw [List.map_append, List.map_map]
  have : (Ky.var ∘ fun v => (⟨v, false⟩ : Ky)) = id := rfl
  rw [this, List.map_id]
theorem order_all {hd : List ByteArray} {od : List Ky} {v : ByteArray} (h : v ∈ hd) : v ∈ (orderL hd od).map Ky.var := by
  rw [order_vars, List.mem_append]
  by_cases h1 : v ∈ od.map Ky.var
  · exact .inl h1
  · exact .inr (List.mem_filter.2 ⟨h, by simp only [decide_eq_false h1]; rfl⟩)
theorem order_fine {hd : List ByteArray} {od : List Ky} (h : orderE hd od = 0) (hh : headE hd = 0) : orderE hd ((orderL hd od).map turnK) = 0 := by
  obtain ⟨h1, h2⟩ := orderE_iff.1 h
  rw [orderE_iff, turn_var, order_vars]
  refine ⟨fun k hk => ?_, ?_⟩
  · have hv : k.var ∈ ((orderL hd od).map turnK).map Ky.var := List.mem_map.2 ⟨k, hk, rfl⟩
    rw [turn_var, order_vars] at hv
    rcases List.mem_append.1 hv with e | e
    · obtain ⟨y, hy, e2⟩ := List.mem_map.1 e
      rw [← e2]; exact h1 y hy
    · exact (List.mem_filter.1 e).1
  · rw [List.nodup_append]
    refine ⟨h2, (headE_nodup hh).filter _, fun a ha b hb e => ?_⟩
    subst e
    have := (List.mem_filter.1 hb).2
    simp only [decide_eq_true ha] at this
    cases this
end Go.Proofs.YtmmmdinncmbjkaaGreat
namespace Go.Proofs.YtmmmdinncmbjkaaGreat
open Go.RowKit Go.Maps
theorem order_nodup {hd : List ByteArray} {od : List Ky} (h : orderE hd od = 0) (hh : headE hd = 0) : ((orderL hd od).map Ky.var).Nodup := by
  have h1 := (orderE_iff.1 (order_fine h hh)).2
  rwa [turn_var] at h1
theorem order_free {ss : List Sc} {q : Qy} (hc : checkE ss q = 0) : (orderL q.hd q.od).length = q.hd.length := by
  obtain ⟨-, -, -, hh, -, -, ho⟩ := ast_ok (check_ast hc)
  have h1 := order_nodup ho hh
  have h2 := headE_nodup hh
  have h3 : ((orderL q.hd q.od).map Ky.var).Perm q.hd := (List.perm_ext_iff_of_nodup h1 h2).2 (fun v => ⟨fun hv => by
    rw [order_vars, List.mem_append] at hv
    rcases hv with hv | hv
    · obtain ⟨k, hk, rfl⟩ := List.mem_map.1 hv
      exact (orderE_iff.1 ho).1 k hk
    · exact (List.mem_filter.1 hv).1, fun hv => order_all hv⟩)
  have h4 := h3.length_eq
  rwa [List.length_map] at h4
theorem cond_var {ss : List Sc} {q : Qy} {r : Rl} (hc : checkE ss q = 0) (hr : r ∈ q.rs) : ∀ d ∈ r.cds, d.var ≠ ⟨#[]⟩ := by
  obtain ⟨-, -, -, -, -, hrl, -⟩ := ast_ok (check_ast hc)
  obtain ⟨hi, -, -⟩ := rule_ok (hrl r hr)
  obtain ⟨-, -, -, -, h⟩ := items_ok hi
  intro d hd
  have h1 := h d hd
  unfold condE at h1
  split at h1
  · rename_i h2; exact nameB_ne h2
  · cases h1
theorem term_zero {ss : List Sc} {q : Qy} {r : Rl} (hc : checkE ss q = 0) (hr : r ∈ q.rs) : ∀ a ∈ r.ats, a.terms.length ≤ 6 ∧ ∀ t ∈ a.terms, t.var ≠ ⟨#[]⟩ → t.kind = 0 ∧ t.int = 0 ∧ t.str = ⟨#[]⟩ := by
  obtain ⟨-, -, -, -, -, hrl, -⟩ := ast_ok (check_ast hc)
  obtain ⟨hi, -, -⟩ := rule_ok (hrl r hr)
  obtain ⟨-, -, -, h, -⟩ := items_ok hi
  intro a ha
  obtain ⟨-, h1, h2⟩ := atom_ok (h a ha)
  refine ⟨h1, fun t ht hv => ?_⟩
  have h3 := h2 t ht
  unfold termE at h3
  rw [if_neg hv] at h3
  split at h3
  · split at h3
    · assumption
    · cases h3
  · cases h3
theorem srcs_bd {ss : List Sc} {q : Qy} {r : Rl} (hc : checkE ss q = 0) (hr : r ∈ q.rs) {s : Src} (h : s ∈ srcsL q r) : s.vars.length ≤ (namesL q r).length ∧ s.cols.length ≤ (namesL q r).length ∧ s.same.length ≤ 6 ∧ s.fs.length ≤ 14 ∧ s.nots.length ≤ 8 ∧ ∀ y ∈ s.nots, y.vars.length ≤ 6 ∧ y.cs.length ≤ 6 := by
  obtain ⟨-, -, -, -, -, hrl, -⟩ := ast_ok (check_ast hc)
  obtain ⟨hi, -, -⟩ := rule_ok (hrl r hr)
  obtain ⟨-, h8, h8', -, -⟩ := items_ok hi
  have ht := term_zero hc hr
  obtain ⟨i, -, e⟩ := mem_upL.1 h
  obtain ⟨h1, -, rfl⟩ := srcR_some.1 e
  have h6 := (ht _ (List.getElem_mem h1)).1
  refine ⟨upL_len _ _, upL_len _ _, Nat.le_trans (upL_len _ _) h6, ?_, ?_, ?_⟩
  · show (upL (conAt r.ats[i].terms) r.ats[i].terms.length ++ upL (cndAt r.ats[i].terms r.cds) r.cds.length).length ≤ 14
    rw [List.length_append]
    have h2 := upL_len (conAt r.ats[i].terms) r.ats[i].terms.length
    have h3 := upL_len (cndAt r.ats[i].terms r.cds) r.cds.length
    omega
  · show (notsL (namesL q r) r.ats i).length ≤ 8
    unfold notsL
    rw [List.length_map]
    exact Nat.le_trans (List.length_filter_le _ _) h8
  · intro y hy
    have hy' : y ∈ notsL (namesL q r) r.ats i := hy
    obtain ⟨a, ha, rfl⟩ := List.mem_map.1 hy'
    have h2 := (ht a (List.mem_filter.1 ha).1).1
    exact ⟨by show (a.terms.map _).length ≤ 6; rw [List.length_map]; exact h2, by show (a.terms.map _).length ≤ 6; rw [List.length_map]; exact h2⟩
end Go.Proofs.YtmmmdinncmbjkaaGreat
namespace Go.Proofs.YtmmmdinncmbjkaaGreat
open Go.RowKit Go.Maps
theorem runX_ne {σ α : Type} {f : σ → α → Except Int σ} (hf : ∀ s a e, f s a = .error e → e ≠ 0) : ∀ (l : List α) (s : σ) (e : Int), runX f l s = .error e → e ≠ 0
  | [], s, e, h => by cases h
  | a :: l, s, e, h => by
    have e1 : runX f (a :: l) s = match f s a with | .ok s' => runX f l s' | .error e => .error e := rfl
    rw [e1] at h
    rcases hfa : f s a with x | s'
    · rw [hfa] at h
      injection h with h
      exact h ▸ hf _ _ _ hfa
    · rw [hfa] at h
      exact runX_ne hf l s' e h
theorem runX_each {σ α : Type} {f : σ → α → Except Int σ} : ∀ (l : List α) (s s' : σ), runX f l s = .ok s' → ∀ a ∈ l, ∃ t t', f t a = .ok t'
  | [], s, s', h, a, ha => by simp at ha
  | b :: l, s, s', h, a, ha => by
    have e1 : runX f (b :: l) s = match f s b with | .ok s' => runX f l s' | .error e => .error e := rfl
    rw [e1] at h
    rcases hfb : f s b with x | t
    · rw [hfb] at h
      cases h
    · rw [hfb] at h
      rcases List.mem_cons.1 ha with rfl | ha
      · exact ⟨_, _, hfb⟩
      · exact runX_each l t s' h a ha
theorem kindT_ne : ∀ (m : Km) (p : Tm × Int) (e : Int), kindT m p = .error e → e ≠ 0 := by
  intro m p e h
  unfold kindT at h
  repeat' split at h
  all_goals (first | (injection h with h; omega) | cases h)
theorem kindA_ne (ss : List Sc) : ∀ (m : Km) (a : At) (e : Int), kindA ss m a = .error e → e ≠ 0 := by
  intro m a e h
  unfold kindA at h
  split at h
  · injection h with h; omega
  · split at h
    · exact runX_ne kindT_ne _ _ _ h
    · injection h with h; omega
theorem check_inf {ss : List Sc} {q : Qy} (h : checkE ss q = 0) : firstE (fun r => errX (inferX ss r)) q.rs = 0 := by
  by_cases h1 : firstE (fun r => errX (inferX ss r)) q.rs = 0
  · exact h1
  · exact absurd h (by rw [checkE_inf (check_ast h) h1]; exact h1)
/-- Every atom has a relation of its arity. -/
theorem atom_find {ss : List Sc} {q : Qy} {r : Rl} (hc : checkE ss q = 0) (hr : r ∈ q.rs) {a : At} (ha : a ∈ r.ats) : ∃ x, findS ss a.rel = some x ∧ a.terms.length = x.kinds.length := by
  have h1 := firstE_zero.1 (check_inf hc) r hr
  rcases h2 : inferX ss r with e | m
  · rw [h2] at h1
    exact absurd h1 (runX_ne (kindA_ne ss) _ _ _ h2)
  · obtain ⟨t, t', h3⟩ := runX_each _ _ _ h2 a ha
    unfold kindA at h3
    split at h3
    · cases h3
    · rename_i x hx
      split at h3
      · rename_i hl
        exact ⟨x, hx, hl⟩
      · cases h3
theorem stepD_kinds {M : Dm} {u : Up} (s : ByteArray) : (stepD M u s).map En.kinds = (M s).map En.kinds := by
  unfold stepD
  rcases hp : appD M u with er | p
  · rfl
  · simp only
    unfold appD at hp
    split at hp
    · split at hp
      · cases hp
      · rename_i e he
        split at hp
        · cases hp
        · rename_i q hq
          injection hp with hp
          subst hp
          simp only
          by_cases hq2 : q.2 = true
          · rw [if_pos hq2]
            unfold updD
            by_cases e2 : s = u.rel
            · rw [if_pos e2, e2, he]
              rfl
            · rw [if_neg e2]
          · rw [if_neg hq2]
    · cases hp
theorem madeD_kinds {ss : List Sc} {us : List Up} (s : ByteArray) : (madeD ss us s).map En.kinds = (findS ss s).map Sc.kinds := by
  have h1 : ∀ (us : List Up) (M : Dm), (us.foldl stepD M s).map En.kinds = (M s).map En.kinds := by
    intro us
    induction us with
    | nil => exact fun M => rfl
    | cons u us ih => exact fun M => by rw [List.foldl_cons, ih, stepD_kinds]
  unfold madeD
  rw [h1]
  unfold dmL
  rw [Option.map_map]
  rfl
/-- Every atom's relation is in the database, with its arity. -/
theorem atom_rel {ss : List Sc} {us : List Up} {q : Qy} {r : Rl} (hO : DmOk (madeD ss us)) (hc : checkE ss q = 0) (hr : r ∈ q.rs) {a : At} (ha : a ∈ r.ats) : ∃ x, madeD ss us a.rel = some x ∧ x.rel.ar = (a.terms.length : Int) := by
  obtain ⟨y, hy, hl⟩ := atom_find hc hr ha
  have h1 := madeD_kinds (ss := ss) (us := us) a.rel
  rw [hy] at h1
  rcases h2 : madeD ss us a.rel with _ | x
  · rw [h2] at h1
    cases h1
  · rw [h2] at h1
    simp only [Option.map_some, Option.some.injEq] at h1
    exact ⟨x, rfl, by rw [(hO.ar _ _ h2).1, h1, hl]⟩
theorem name_size {s : ByteArray} (h : nameB s = true) : s.size ≤ 16 := by
  unfold nameB catB at h
  simp only [Bool.and_eq_true, decide_eq_true_eq] at h
  exact h.2.1.2
/-- What is known of the atoms and conditions of a checked rule. -/
theorem rule_parts {ss : List Sc} {q : Qy} {r : Rl} (hc : checkE ss q = 0) (hr : r ∈ q.rs) : r.ats.length ≤ 8 ∧ r.cds.length ≤ 8 ∧ (∀ a ∈ r.ats, nameB a.rel = true ∧ a.terms.length ≤ 6 ∧ ∀ t ∈ a.terms, termE t = 0) ∧ ∀ c ∈ r.cds, condE c = 0 := by
  obtain ⟨-, -, -, -, -, hrl, -⟩ := ast_ok (check_ast hc)
  obtain ⟨hi, -, -⟩ := rule_ok (hrl r hr)
  obtain ⟨-, h8, h8', h, hcd⟩ := items_ok hi
  exact ⟨h8, h8', fun a ha => atom_ok (h a ha), hcd⟩
theorem names_14 {ss : List Sc} {q : Qy} {r : Rl} (hc : checkE ss q = 0) (hr : r ∈ q.rs) : (namesL q r).length ≤ 14 := by
  obtain ⟨-, -, -, hh, -, hrl, -⟩ := ast_ok (check_ast hc)
  obtain ⟨-, hv, -⟩ := rule_ok (hrl r hr)
  have h1 := addNs_len (varsC r) (((orderL q.hd q.od).map Ky.var).foldl addN [])
  have h2 := addNs_len ((orderL q.hd q.od).map Ky.var) []
  have h4 := head_len hh
  have h5 := order_free hc
  rw [List.length_map] at h2
  unfold namesL
  simp only [List.length_nil] at h2
  omega
theorem con_at {ts : List Tm} {f : Fl} {n : Nat} (h : f ∈ upL (conAt ts) n) : ∃ k, ∃ hk : k < ts.length, ts[k].var = ⟨#[]⟩ ∧ f = ⟨k, 0, ts[k].kind, ts[k].int, ts[k].str⟩ := by
  obtain ⟨k, -, e⟩ := mem_upL.1 h
  unfold conAt at e
  rcases Nat.lt_or_ge k ts.length with hk | hk
  · rw [List.getElem?_eq_getElem hk] at e
    simp only [Option.bind_some] at e
    split at e
    · rename_i h1
      injection e with e
      exact ⟨k, hk, h1, e.symm⟩
    · cases e
  · rw [List.getElem?_eq_none hk] at e
    cases e
theorem cnd_at {ts : List Tm} {cds : List Cd} {f : Fl} {n : Nat} (h : f ∈ upL (cndAt ts cds) n) : ∃ c ∈ cds, idxT ts c.var < ts.length ∧ f = ⟨idxT ts c.var, c.op, c.kind, c.int, c.str⟩ := by
  obtain ⟨k, -, e⟩ := mem_upL.1 h
  unfold cndAt at e
  rcases Nat.lt_or_ge k cds.length with hk | hk
  · rw [List.getElem?_eq_getElem hk] at e
    simp only [Option.bind_some] at e
    split at e
    · rename_i h1
      injection e with e
      exact ⟨_, List.getElem_mem hk, h1.2, e.symm⟩
    · cases e
  · rw [List.getElem?_eq_none hk] at e
    cases e
theorem sam_at {ts : List Tm} {p : Pi} (h : p ∈ upL (samAt ts) ts.length) : (0 ≤ p.a ∧ p.a < (ts.length : Int)) ∧ 0 ≤ p.b ∧ p.b < (ts.length : Int) := by
  obtain ⟨k, hk, e⟩ := mem_upL.1 h
  unfold samAt at e
  rw [List.getElem?_eq_getElem hk] at e
  simp only [Option.bind_some] at e
  split at e
  · rename_i h1
    injection e with e
    subst e
    have := h1.2
    exact ⟨⟨by show (0 : Int) ≤ (idxT ts ts[k].var : Int); omega, by show (idxT ts ts[k].var : Int) < _; omega⟩, by show (0 : Int) ≤ (k : Int); omega, by show (k : Int) < _; omega⟩
  · cases e
theorem col_lt {names : List ByteArray} {ts : List Tm} {c : Int} {n : Nat} (h : c ∈ upL (clR names ts) n) : 0 ≤ c ∧ c < (ts.length : Int) := by
  obtain ⟨k, -, e⟩ := mem_upL.1 h
  unfold clR at e
  rcases Nat.lt_or_ge k names.length with hk | hk
  · rw [List.getElem?_eq_getElem hk] at e
    simp only [Option.bind_some] at e
    split at e
    · rename_i h1
      injection e with e
      omega
    · cases e
  · rw [List.getElem?_eq_none hk] at e
    cases e
theorem miss_of {a x : Int} (h : 0 ≤ x ∧ x < a) : missB a x = false := by
  unfold missB
  rw [decide_eq_false (by omega), decide_eq_false (by omega)]
  rfl
theorem fits_of {s : Src} {a : Int} (h1 : ∀ p ∈ s.same, (0 ≤ p.a ∧ p.a < a) ∧ 0 ≤ p.b ∧ p.b < a) (h2 : ∀ f ∈ s.fs, 0 ≤ f.col ∧ f.col < a) (h3 : ∀ c ∈ s.cols, 0 ≤ c ∧ c < a) (h4 : s.vars.length = s.cols.length) : fitsB s a = true := by
  unfold fitsB
  simp only [Bool.and_eq_true, Bool.not_eq_true', decide_eq_true_eq, List.any_eq_false]
  refine ⟨fun p hp => ?_, fun f hf => ?_, fun c hcx => ?_, h4⟩
  · unfold pairB
    rw [miss_of (h1 p hp).1, miss_of (h1 p hp).2]
    simp
  · rw [miss_of (h2 f hf)]
    simp
  · rw [miss_of (h3 c hcx)]
    simp
theorem idxI_pos {l : List Int} {v : Int} (h : v ∈ l) : 0 ≤ idxI l v := by
  unfold idxI
  split
  · omega
  · rename_i h1
    rw [List.findIdx?_eq_none_iff] at h1
    have := h1 v h
    simp at this
/-- **A source fits the database.** -/
theorem src_fits {ss : List Sc} {us : List Up} {q : Qy} {r : Rl} {s : Src} (hO : DmOk (madeD ss us)) (hc : checkE ss q = 0) (hr : r ∈ q.rs) (hs : s ∈ srcsL q r) : LdOk (madeD ss us) s ∧ SrcOk s := by
  obtain ⟨b1, b2, b3, b4, b5, b6⟩ := srcs_bd hc hr hs
  have b14 := names_14 hc hr
  obtain ⟨i, -, e⟩ := mem_upL.1 hs
  obtain ⟨hi, -, rfl⟩ := srcR_some.1 e
  obtain ⟨-, -, hat, hcd⟩ := rule_parts hc hr
  have hm := List.getElem_mem hi
  obtain ⟨hnm, h6, hte⟩ := hat _ hm
  have hok : SrcOk (refS (namesL q r) r i r.ats[i]) := src_ok (List.getElem?_eq_getElem hi) (fun b hb => names_cov hb)
  obtain ⟨x, hx, hxa⟩ := atom_rel hO hc hr hm
  refine ⟨⟨?_, ⟨x, hx, ?_⟩, ?_, ?_, by omega, by omega, by omega, by omega⟩, hok⟩
  · have := name_size hnm
    show r.ats[i].rel.size ≤ maxLen
    simp only [maxLen]
    omega
  · rw [hxa]
    refine fits_of (fun p hp => sam_at hp) (fun f hf => ?_) (fun c hcx => col_lt hcx) hok.len
    rcases List.mem_append.1 hf with hf | hf
    · obtain ⟨k, hk, -, rfl⟩ := con_at hf
      exact ⟨by show (0 : Int) ≤ (k : Int); omega, by show (k : Int) < _; omega⟩
    · obtain ⟨c, -, h1, rfl⟩ := cnd_at hf
      exact ⟨by show (0 : Int) ≤ ((idxT r.ats[i].terms c.var : Nat) : Int); omega, by show ((idxT r.ats[i].terms c.var : Nat) : Int) < _; omega⟩
  · intro f hf
    have hsz : ∀ (k n : Int) (t : ByteArray), valB k n t = true → t.size ≤ maxLen := fun k n t h => by
      unfold valB at h
      split at h
      · rw [of_decide_eq_true h]; exact Nat.zero_le _
      · split at h
        · have := (of_decide_eq_true h).2; simp only [maxLen]; omega
        · cases h
    rcases List.mem_append.1 hf with hf | hf
    · obtain ⟨k, hk, h1, rfl⟩ := con_at hf
      have h2 := hte _ (List.getElem_mem hk)
      unfold termE at h2
      rw [if_pos h1] at h2
      split at h2
      · rename_i h3
        exact ⟨by simp, h3, hsz _ _ _ h3⟩
      · cases h2
    · obtain ⟨c, hcm, h1, rfl⟩ := cnd_at hf
      have h2 := hcd c hcm
      unfold condE at h2
      split at h2
      · split at h2
        · rename_i h4
          split at h2
          · rename_i h3
            exact ⟨h4, h3, hsz _ _ _ h3⟩
          · cases h2
        · cases h2
      · cases h2
  · intro y hy
    have hy2 : y ∈ notsL (namesL q r) r.ats i := hy
    have hyv := hok.nots y hy
    unfold notsL at hy2
    obtain ⟨b, hb, rfl⟩ := List.mem_map.1 hy2
    have hbm := (List.mem_filter.1 hb).1
    obtain ⟨hbn, -, -⟩ := hat _ hbm
    obtain ⟨z, hz, hza⟩ := atom_rel hO hc hr hbm
    refine ⟨?_, ?_, fun v hv => (hyv v hv).imp id (fun h => idxI_pos h), z, hz, ?_⟩
    · have := name_size hbn
      show b.rel.size ≤ maxLen
      simp only [maxLen]
      omega
    · show (b.terms.map Tm.vl).length = (b.terms.map (numI (namesL q r))).length
      rw [List.length_map, List.length_map]
    · show z.rel.ar = ((b.terms.map (numI (namesL q r))).length : Int)
      rw [List.length_map]
      exact hza
theorem facts_len {M : Dm} (hO : DmOk M) : ∀ (ss : List Sc), (factsL M ss).length ≤ 4096 * ss.length
  | [] => by simp [factsL]
  | s :: ss => by
    have h1 := facts_len hO ss
    have h2 := (rowsOf_le hO s.name).1
    have e : factsL M (s :: ss) = factsOf M s ++ factsL M ss := rfl
    rw [e, List.length_append, List.length_cons]
    have h3 : (factsOf M s).length = (rowsOf M s.name).length := List.length_map _
    omega
theorem row_len {M : Dm} (hO : DmOk M) {s : ByteArray} {x : En} (hx : M s = some x) {r : List Vl} (hr : r ∈ rowsOf M s) : (r.length : Int) = x.rel.ar := by
  unfold rowsOf at hr
  rw [hx] at hr
  exact (accE_zero (hO.row _ _ hx r hr).1).1
/-- **A source fits the facts.** -/
theorem src_der {ss : List Sc} {us : List Up} {q : Qy} {r : Rl} {s : Src} (hl : ss.length ≤ 6) (hO : DmOk (madeD ss us)) (hc : checkE ss q = 0) (hr : r ∈ q.rs) (hs : s ∈ srcsL q r) : DerOk s (factsL (madeD ss us) ss) := by
  obtain ⟨hk, hok⟩ := src_fits hO hc hr hs
  obtain ⟨x, hx, hfit⟩ := hk.src
  obtain ⟨f1, f2, f3, f4⟩ := fits_parts hfit
  have hk1 := hk.b1
  have hkey : ∀ s e, madeD ss us s = some e → ∃ x ∈ ss, x.name = s := fun s e h => madeD_key h
  have hrow : ∀ y ∈ factsL (madeD ss us) ss, y.rel = s.rel → (y.row.length : Int) = x.rel.ar := fun y hy e => by
    have h1 := (mem_facts hkey).1 hy
    rw [e] at h1
    exact row_len hO hx h1
  refine ⟨?_, fun y hy => ?_, by omega, hk.b3, hk.b4, hk.b5, f4, fun y hy => ?_, fun g hg => (hk.fs g hg).1, fun y hy e g hg => ?_, fun y hy e p hp => ?_, fun y hy e c hcx => ?_⟩
  · have := facts_len hO ss
    omega
  · exact (rowsOf_le hO y.rel).2 _ ((mem_facts hkey).1 hy)
  · obtain ⟨-, h2, -, z, hz, hza⟩ := hk.nots y hy
    have := hO.ar _ _ hz
    exact ⟨h2, by omega⟩
  · rw [hrow y hy e]
    exact f2 g hg
  · rw [hrow y hy e]
    exact f1 p hp
  · rw [hrow y hy e]
    exact miss_ok (f3 c hcx)
end Go.Proofs.YtmmmdinncmbjkaaGreat
namespace Go.Proofs.YtmmmdinncmbjkaaGreat
open Go.RowKit Go.Maps
theorem info_rfl : (Tryz.prog.info? 137).map (fun i => (i.zero, i.size, i.bytes)) = some (some (.agg #[.int .i64 0, .int .i64 0, .int .i64 0, .int .i64 0, .string ⟨#[]⟩]), 5, 48) := by kernel_rfl
theorem info_rnot : (Tryz.prog.info? 139).map (fun i => (i.zero, i.size, i.bytes)) = some (some (.agg #[.string ⟨#[]⟩, .slice none 0 0, .slice none 0 0]), 3, 64) := by kernel_rfl
theorem info_rsrc : (Tryz.prog.info? 77).map (fun i => (i.zero, i.size, i.bytes)) = some (some (.agg #[.string ⟨#[]⟩, .slice none 0 0, .slice none 0 0, .slice none 0 0, .slice none 0 0, .slice none 0 0]), 6, 136) := by kernel_rfl
structure RB (w : World) (base gb : Nat) (rl : ByteArray) (uv uc us uf un : Value) (nv nc ns nf : Nat) (vs cs : List Int) (ss : List Pi) (fs : List Fl) : Prop where
  bk : Bk w gb 77 [.string rl, uv, uc, us, uf, un]
  rv : w.ownsRow base 3 1 uv nv (vs.map I64)
  rc : w.ownsRow base 3 1 uc nc (cs.map I64)
  rs : w.ownsRow base 51 2 us ns (picells ss)
  rf : w.ownsRow base 137 5 uf nf (fcells fs)
  sep : ∀ k, uv.ownBlock = some k → uc.ownBlock ≠ some k
section
variable {w w8 : World} {base gb nv nc ns nf : Nat} {rl : ByteArray} {uv uc us uf un v8 : Value} {vs cs : List Int} {ss : List Pi} {fs : List Fl}
theorem RB.ext (h : RB w base gb rl uv uc us uf un nv nc ns nf vs cs ss fs) (he : Ext w w8) : RB w8 base gb rl uv uc us uf un nv nc ns nf vs cs ss fs := ⟨h.bk.ext he, own_ext' h.rv he, own_ext' h.rc he, own_ext' h.rs he, own_ext' h.rf he, h.sep⟩
theorem RB.bkF (h : RB w base gb rl uv uc us uf un nv nc ns nf vs cs ss fs) (hg : w.grownBy w8 uf.ownBlock) : Bk w8 gb 77 [.string rl, uv, uc, us, uf, un] := h.bk.fr (grown_fr hg) (fun e => own_bk h.rf h.bk (by decide) e rfl)
theorem RB.bkS (h : RB w base gb rl uv uc us uf un nv nc ns nf vs cs ss fs) (hg : w.grownBy w8 us.ownBlock) : Bk w8 gb 77 [.string rl, uv, uc, us, uf, un] := h.bk.fr (grown_fr hg) (fun e => own_bk h.rs h.bk (by decide) e rfl)
theorem RB.bkV (h : RB w base gb rl uv uc us uf un nv nc ns nf vs cs ss fs) (hg : w.grownBy w8 uv.ownBlock) : Bk w8 gb 77 [.string rl, uv, uc, us, uf, un] := h.bk.fr (grown_fr hg) (fun e => own_bk h.rv h.bk (by decide) e rfl)
theorem RB.bkC (h : RB w base gb rl uv uc us uf un nv nc ns nf vs cs ss fs) (hg : w.grownBy w8 uc.ownBlock) : Bk w8 gb 77 [.string rl, uv, uc, us, uf, un] := h.bk.fr (grown_fr hg) (fun e => own_bk h.rc h.bk (by decide) e rfl)
theorem RB.putF (h : RB w base gb rl uv uc us uf un nv nc ns nf vs cs ss fs) {x : Fl} (hr : w8.ownsRow base 137 5 v8 (nf + 1) (fcells fs ++ x.cells)) (hg : w.grownBy w8 uf.ownBlock) : RB (w8.setCell ⟨gb, 4, none⟩ v8) base gb rl uv uc us v8 un nv nc ns (nf + 1) vs cs ss (fs ++ [x]) := by
  have hb8 := h.bkF hg
  have hs : Fr (fun k => k = gb) w8 (w8.setCell ⟨gb, 4, none⟩ v8) := (Fr.refl (fun k => k = gb) w8).setCell (p := ⟨gb, 4, none⟩) (.inl rfl) _
  have rv := own_fr h.rv (grown_fr hg) (fun q hq e => own_ne h.rf h.rv (by decide) e hq)
  have rc := own_fr h.rc (grown_fr hg) (fun q hq e => own_ne h.rf h.rc (by decide) e hq)
  have rs := own_fr h.rs (grown_fr hg) (fun q hq e => own_ne h.rf h.rs (by decide) e hq)
  refine ⟨by simpa using hb8.set 4 v8, own_fr rv hs (fun k hk => own_bk rv hb8 (by decide) hk), own_fr rc hs (fun k hk => own_bk rc hb8 (by decide) hk), own_fr rs hs (fun k hk => own_bk rs hb8 (by decide) hk), ?_, h.sep⟩
  rw [fcells_app]
  exact own_fr hr hs (fun k hk => own_bk hr hb8 (by decide) hk)
theorem RB.putS (h : RB w base gb rl uv uc us uf un nv nc ns nf vs cs ss fs) {x : Pi} (hr : w8.ownsRow base 51 2 v8 (ns + 1) (picells ss ++ x.cells)) (hg : w.grownBy w8 us.ownBlock) : RB (w8.setCell ⟨gb, 3, none⟩ v8) base gb rl uv uc v8 uf un nv nc (ns + 1) nf vs cs (ss ++ [x]) fs := by
  have hb8 := h.bkS hg
  have hs : Fr (fun k => k = gb) w8 (w8.setCell ⟨gb, 3, none⟩ v8) := (Fr.refl (fun k => k = gb) w8).setCell (p := ⟨gb, 3, none⟩) (.inl rfl) _
  have rv := own_fr h.rv (grown_fr hg) (fun q hq e => own_ne h.rs h.rv (by decide) e hq)
  have rc := own_fr h.rc (grown_fr hg) (fun q hq e => own_ne h.rs h.rc (by decide) e hq)
  have rf := own_fr h.rf (grown_fr hg) (fun q hq e => own_ne h.rs h.rf (by decide) e hq)
  refine ⟨by simpa using hb8.set 3 v8, own_fr rv hs (fun k hk => own_bk rv hb8 (by decide) hk), own_fr rc hs (fun k hk => own_bk rc hb8 (by decide) hk), ?_, own_fr rf hs (fun k hk => own_bk rf hb8 (by decide) hk), h.sep⟩
  rw [picells_app]
  exact own_fr hr hs (fun k hk => own_bk hr hb8 (by decide) hk)
theorem RB.putV (h : RB w base gb rl uv uc us uf un nv nc ns nf vs cs ss fs) {x : Int} (hr : w8.ownsRow base 3 1 v8 (nv + 1) (vs.map I64 ++ [.int .i64 x])) (hg : w.grownBy w8 uv.ownBlock) (hl : Lands w uv v8) : RB (w8.setCell ⟨gb, 1, none⟩ v8) base gb rl v8 uc us uf un (nv + 1) nc ns nf (vs ++ [x]) cs ss fs := by
  have hb8 := h.bkV hg
  have hs : Fr (fun k => k = gb) w8 (w8.setCell ⟨gb, 1, none⟩ v8) := (Fr.refl (fun k => k = gb) w8).setCell (p := ⟨gb, 1, none⟩) (.inl rfl) _
  have rc := own_fr h.rc (grown_fr hg) (fun q hq e => h.sep q e hq)
  have rs := own_fr h.rs (grown_fr hg) (fun q hq e => own_ne h.rv h.rs (by decide) e hq)
  have rf := own_fr h.rf (grown_fr hg) (fun q hq e => own_ne h.rv h.rf (by decide) e hq)
  refine ⟨by simpa using hb8.set 1 v8, ?_, own_fr rc hs (fun k hk => own_bk rc hb8 (by decide) hk), own_fr rs hs (fun k hk => own_bk rs hb8 (by decide) hk), own_fr rf hs (fun k hk => own_bk rf hb8 (by decide) hk), fun k hk e => ?_⟩
  · rw [List.map_append]
    exact own_fr hr hs (fun k hk => own_bk hr hb8 (by decide) hk)
  · rcases hl with hl | hl
    · exact h.sep k (hl ▸ hk) e
    · rw [hl] at hk
      injection hk with hk
      have := (h.rc.lt k e).2
      omega
theorem RB.putC (h : RB w base gb rl uv uc us uf un nv nc ns nf vs cs ss fs) {x : Int} (hr : w8.ownsRow base 3 1 v8 (nc + 1) (cs.map I64 ++ [.int .i64 x])) (hg : w.grownBy w8 uc.ownBlock) (hl : Lands w uc v8) : RB (w8.setCell ⟨gb, 2, none⟩ v8) base gb rl uv v8 us uf un nv (nc + 1) ns nf vs (cs ++ [x]) ss fs := by
  have hb8 := h.bkC hg
  have hs : Fr (fun k => k = gb) w8 (w8.setCell ⟨gb, 2, none⟩ v8) := (Fr.refl (fun k => k = gb) w8).setCell (p := ⟨gb, 2, none⟩) (.inl rfl) _
  have rv := own_fr h.rv (grown_fr hg) (fun q hq e => h.sep q hq e)
  have rs := own_fr h.rs (grown_fr hg) (fun q hq e => own_ne h.rc h.rs (by decide) e hq)
  have rf := own_fr h.rf (grown_fr hg) (fun q hq e => own_ne h.rc h.rf (by decide) e hq)
  refine ⟨by simpa using hb8.set 2 v8, own_fr rv hs (fun k hk => own_bk rv hb8 (by decide) hk), ?_, own_fr rs hs (fun k hk => own_bk rs hb8 (by decide) hk), own_fr rf hs (fun k hk => own_bk rf hb8 (by decide) hk), fun k hk e => ?_⟩
  · rw [List.map_append]
    exact own_fr hr hs (fun k hk => own_bk hr hb8 (by decide) hk)
  · rcases hl with hl | hl
    · exact h.sep k hk (hl ▸ e)
    · rw [hl] at e
      injection e with e
      have := (h.rv.lt k hk).2
      omega
/-- The Nots cell is set. -/
theorem RB.putN (h : RB w base gb rl uv uc us uf un nv nc ns nf vs cs ss fs) (v : Value) : RB (w.setCell ⟨gb, 5, none⟩ v) base gb rl uv uc us uf v nv nc ns nf vs cs ss fs := by
  have hs : Fr (fun k => k = gb) w (w.setCell ⟨gb, 5, none⟩ v) := (Fr.refl (fun k => k = gb) w).setCell (p := ⟨gb, 5, none⟩) (.inl rfl) _
  exact ⟨by simpa using h.bk.set 5 v, own_fr h.rv hs (fun k hk => own_bk h.rv h.bk (by decide) hk), own_fr h.rc hs (fun k hk => own_bk h.rc h.bk (by decide) hk), own_fr h.rs hs (fun k hk => own_bk h.rs h.bk (by decide) hk), own_fr h.rf hs (fun k hk => own_bk h.rf h.bk (by decide) hk), h.sep⟩
end
end Go.Proofs.YtmmmdinncmbjkaaGreat
