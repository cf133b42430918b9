/- Plain law: the program's names are the reference's, the free variables are the head's. Plain: the sources of a checked rule fit the database made of the schemas. Plain law of NormalizeMeans: an assignment's projections are in all derived relations if and only if it satisfies the rule. Contracts: the reference's Values (some row of values), the law's inAll. -/
import Derived.Test.YtmmmdinncmbjkaaGreatMf44
import Derived.Test.YtmmmdinncmbjkaaGreatMf43
import Derived.Test.YtmmmdinncmbjkaaGreatMf37
import Derived.Test.YtmmmdinncmbjkaaGreatMf23
namespace Go.Proofs.YtmmmdinncmbjkaaGreat
open Go.RowKit Go.Maps
theorem order_nodup {hd : List ByteArray} {od : List Ky} (h : orderE hd od = 0) (hh : headE hd = 0) : ((orderL hd od).map Ky.var).Nodup := by
  have h1 := (orderE_iff.1 (order_fine h hh)).2
  rwa [turn_var] at h1
theorem conds_in {ss : List Sc} {q : Qy} {r : Rl} (hc : checkE ss q = 0) (hr : r ∈ q.rs) : varsC r = varsT (allT r.ats) := by
  obtain ⟨-, -, -, -, -, hrl, -⟩ := ast_ok (check_ast hc)
  obtain ⟨-, -, hb⟩ := rule_ok (hrl r hr)
  have key : ∀ (l : List Cd), (∀ c ∈ l, c.var ≠ ⟨#[]⟩ → c.var ∈ varsT (allT r.ats)) → l.foldl (fun vs c => addV vs c.var) (varsT (allT r.ats)) = varsT (allT r.ats) := by
    intro l
    induction l with
    | nil => exact fun _ => rfl
    | cons c l ih =>
      intro h
      rw [List.foldl_cons]
      have e : addV (varsT (allT r.ats)) c.var = varsT (allT r.ats) := by
        unfold addV
        by_cases h0 : c.var = ⟨#[]⟩
        · rw [if_pos (.inl h0)]
        · rw [if_pos (.inr (h c (by simp) h0))]
      rw [e]
      exact ih (fun d hd => h d (List.mem_cons_of_mem _ hd))
  refine key _ (fun c hcm h0 => ?_)
  have hcv : c.var ∈ varsC r := by
    rw [varsC_eq]
    exact varsT_iff.2 ⟨cdT c, List.mem_append_right _ (List.mem_map.2 ⟨c, hcm, rfl⟩), rfl, h0⟩
  have h1 := hb c.var (List.mem_append_right _ hcv)
  obtain ⟨i, hi, -, hx⟩ := bound_at h1
  have h2 := idxT_at hx
  exact varsT_iff.2 ⟨_, allT_iff.2 ⟨_, List.getElem_mem hi, List.getElem_mem hx⟩, h2, h0⟩
theorem order_free {ss : List Sc} {q : Qy} (hc : checkE ss q = 0) : (orderL q.hd q.od).length = q.hd.length := by
  obtain ⟨-, -, -, hh, -, -, ho⟩ := ast_ok (check_ast hc)
  have h1 := order_nodup ho hh
  have h2 := headE_nodup hh
  have h3 : ((orderL q.hd q.od).map Ky.var).Perm q.hd := (List.perm_ext_iff_of_nodup h1 h2).2 (fun v => ⟨fun hv => by
    rw [order_vars, List.mem_append] at hv
    rcases hv with hv | hv
    · obtain ⟨k, hk, rfl⟩ := List.mem_map.1 hv
      exact (orderE_iff.1 ho).1 k hk
    · exact (List.mem_filter.1 hv).1, fun hv => order_all hv⟩)
  have h4 := h3.length_eq
  rwa [List.length_map] at h4
theorem cond_var {ss : List Sc} {q : Qy} {r : Rl} (hc : checkE ss q = 0) (hr : r ∈ q.rs) : ∀ d ∈ r.cds, d.var ≠ ⟨#[]⟩ := by
  obtain ⟨-, -, -, -, -, hrl, -⟩ := ast_ok (check_ast hc)
  obtain ⟨hi, -, -⟩ := rule_ok (hrl r hr)
  obtain ⟨-, -, -, -, h⟩ := items_ok hi
  intro d hd
  have h1 := h d hd
  unfold condE at h1
  split at h1
  · rename_i h2; exact nameB_ne h2
  · cases h1
theorem term_zero {ss : List Sc} {q : Qy} {r : Rl} (hc : checkE ss q = 0) (hr : r ∈ q.rs) : ∀ a ∈ r.ats, a.terms.length ≤ 6 ∧ ∀ t ∈ a.terms, t.var ≠ ⟨#[]⟩ → t.kind = 0 ∧ t.int = 0 ∧ t.str = ⟨#[]⟩ := by
  obtain ⟨-, -, -, -, -, hrl, -⟩ := ast_ok (check_ast hc)
  obtain ⟨hi, -, -⟩ := rule_ok (hrl r hr)
  obtain ⟨-, -, -, h, -⟩ := items_ok hi
  intro a ha
  obtain ⟨-, h1, h2⟩ := atom_ok (h a ha)
  refine ⟨h1, fun t ht hv => ?_⟩
  have h3 := h2 t ht
  unfold termE at h3
  rw [if_neg hv] at h3
  split at h3
  · split at h3
    · assumption
    · cases h3
  · cases h3
theorem srcs_bd {ss : List Sc} {q : Qy} {r : Rl} (hc : checkE ss q = 0) (hr : r ∈ q.rs) {s : Src} (h : s ∈ srcsL q r) : s.vars.length ≤ (namesL q r).length ∧ s.cols.length ≤ (namesL q r).length ∧ s.same.length ≤ 6 ∧ s.fs.length ≤ 14 ∧ s.nots.length ≤ 8 ∧ ∀ y ∈ s.nots, y.vars.length ≤ 6 ∧ y.cs.length ≤ 6 := by
  obtain ⟨-, -, -, -, -, hrl, -⟩ := ast_ok (check_ast hc)
  obtain ⟨hi, -, -⟩ := rule_ok (hrl r hr)
  obtain ⟨-, h8, h8', -, -⟩ := items_ok hi
  have ht := term_zero hc hr
  obtain ⟨i, -, e⟩ := mem_upL.1 h
  obtain ⟨h1, -, rfl⟩ := srcR_some.1 e
  have h6 := (ht _ (List.getElem_mem h1)).1
  refine ⟨upL_len _ _, upL_len _ _, Nat.le_trans (upL_len _ _) h6, ?_, ?_, ?_⟩
  · show (upL (conAt r.ats[i].terms) r.ats[i].terms.length ++ upL (cndAt r.ats[i].terms r.cds) r.cds.length).length ≤ 14
    rw [List.length_append]
    have h2 := upL_len (conAt r.ats[i].terms) r.ats[i].terms.length
    have h3 := upL_len (cndAt r.ats[i].terms r.cds) r.cds.length
    omega
  · show (notsL (namesL q r) r.ats i).length ≤ 8
    unfold notsL
    rw [List.length_map]
    exact Nat.le_trans (List.length_filter_le _ _) h8
  · intro y hy
    have hy' : y ∈ notsL (namesL q r) r.ats i := hy
    obtain ⟨a, ha, rfl⟩ := List.mem_map.1 hy'
    have h2 := (ht a (List.mem_filter.1 ha).1).1
    exact ⟨by show (a.terms.map _).length ≤ 6; rw [List.length_map]; exact h2, by show (a.terms.map _).length ≤ 6; rw [List.length_map]; exact h2⟩
end Go.Proofs.YtmmmdinncmbjkaaGreat
namespace Go.Proofs.YtmmmdinncmbjkaaGreat
open Go.RowKit Go.Maps
theorem runX_ne {σ α : Type} {f : σ → α → Except Int σ} (hf : ∀ s a e, f s a = .error e → e ≠ 0) : ∀ (l : List α) (s : σ) (e : Int), runX f l s = .error e → e ≠ 0
  | [], s, e, h => by cases h
  | a :: l, s, e, h => by
    have e1 : runX f (a :: l) s = match f s a with | .ok s' => runX f l s' | .error e => .error e := rfl
    rw [e1] at h
    rcases hfa : f s a with x | s'
    · rw [hfa] at h
      injection h with h
      exact h ▸ hf _ _ _ hfa
    · rw [hfa] at h
      exact runX_ne hf l s' e h
theorem runX_each {σ α : Type} {f : σ → α → Except Int σ} : ∀ (l : List α) (s s' : σ), runX f l s = .ok s' → ∀ a ∈ l, ∃ t t', f t a = .ok t'
  | [], s, s', h, a, ha => by simp at ha
  | b :: l, s, s', h, a, ha => by
    have e1 : runX f (b :: l) s = match f s b with | .ok s' => runX f l s' | .error e => .error e := rfl
    rw [e1] at h
    rcases hfb : f s b with x | t
    · rw [hfb] at h
      cases h
    · rw [hfb] at h
      rcases List.mem_cons.1 ha with rfl | ha
      · exact ⟨_, _, hfb⟩
      · exact runX_each l t s' h a ha
theorem kindT_ne : ∀ (m : Km) (p : Tm × Int) (e : Int), kindT m p = .error e → e ≠ 0 := by
  intro m p e h
  unfold kindT at h
  repeat' split at h
  all_goals (first | (injection h with h; omega) | cases h)
theorem kindA_ne (ss : List Sc) : ∀ (m : Km) (a : At) (e : Int), kindA ss m a = .error e → e ≠ 0 := by
  intro m a e h
  unfold kindA at h
  split at h
  · injection h with h; omega
  · split at h
    · exact runX_ne kindT_ne _ _ _ h
    · injection h with h; omega
theorem check_inf {ss : List Sc} {q : Qy} (h : checkE ss q = 0) : firstE (fun r => errX (inferX ss r)) q.rs = 0 := by
  by_cases h1 : firstE (fun r => errX (inferX ss r)) q.rs = 0
  · exact h1
  · exact absurd h (by rw [checkE_inf (check_ast h) h1]; exact h1)
/-- Every atom has a relation of its arity. -/
theorem atom_find {ss : List Sc} {q : Qy} {r : Rl} (hc : checkE ss q = 0) (hr : r ∈ q.rs) {a : At} (ha : a ∈ r.ats) : ∃ x, findS ss a.rel = some x ∧ a.terms.length = x.kinds.length := by
  have h1 := firstE_zero.1 (check_inf hc) r hr
  rcases h2 : inferX ss r with e | m
  · rw [h2] at h1
    exact absurd h1 (runX_ne (kindA_ne ss) _ _ _ h2)
  · obtain ⟨t, t', h3⟩ := runX_each _ _ _ h2 a ha
    unfold kindA at h3
    split at h3
    · cases h3
    · rename_i x hx
      split at h3
      · rename_i hl
        exact ⟨x, hx, hl⟩
      · cases h3
theorem stepD_kinds {M : Dm} {u : Up} (s : ByteArray) : (stepD M u s).map En.kinds = (M s).map En.kinds := by
  unfold stepD
  rcases hp : appD M u with er | p
  · rfl
  · simp only
    unfold appD at hp
    split at hp
    · split at hp
      · cases hp
      · rename_i e he
        split at hp
        · cases hp
        · rename_i q hq
          injection hp with hp
          subst hp
          simp only
          by_cases hq2 : q.2 = true
          · rw [if_pos hq2]
            unfold updD
            by_cases e2 : s = u.rel
            · rw [if_pos e2, e2, he]
              rfl
            · rw [if_neg e2]
          · rw [if_neg hq2]
    · cases hp
theorem madeD_kinds {ss : List Sc} {us : List Up} (s : ByteArray) : (madeD ss us s).map En.kinds = (findS ss s).map Sc.kinds := by
  have h1 : ∀ (us : List Up) (M : Dm), (us.foldl stepD M s).map En.kinds = (M s).map En.kinds := by
    intro us
    induction us with
    | nil => exact fun M => rfl
    | cons u us ih => exact fun M => by rw [List.foldl_cons, ih, stepD_kinds]
  unfold madeD
  rw [h1]
  unfold dmL
  rw [Option.map_map]
  rfl
/-- Every atom's relation is in the database, with its arity. -/
theorem atom_rel {ss : List Sc} {us : List Up} {q : Qy} {r : Rl} (hO : DmOk (madeD ss us)) (hc : checkE ss q = 0) (hr : r ∈ q.rs) {a : At} (ha : a ∈ r.ats) : ∃ x, madeD ss us a.rel = some x ∧ x.rel.ar = (a.terms.length : Int) := by
  obtain ⟨y, hy, hl⟩ := atom_find hc hr ha
  have h1 := madeD_kinds (ss := ss) (us := us) a.rel
  rw [hy] at h1
  rcases h2 : madeD ss us a.rel with _ | x
  · rw [h2] at h1
    cases h1
  · rw [h2] at h1
    simp only [Option.map_some, Option.some.injEq] at h1
    exact ⟨x, rfl, by rw [(hO.ar _ _ h2).1, h1, hl]⟩
theorem name_size {s : ByteArray} (h : nameB s = true) : s.size ≤ 16 := by
  unfold nameB catB at h
  simp only [Bool.and_eq_true, decide_eq_true_eq] at h
  exact h.2.1.2
/-- What is known of the atoms and conditions of a checked rule. -/
theorem rule_parts {ss : List Sc} {q : Qy} {r : Rl} (hc : checkE ss q = 0) (hr : r ∈ q.rs) : r.ats.length ≤ 8 ∧ r.cds.length ≤ 8 ∧ (∀ a ∈ r.ats, nameB a.rel = true ∧ a.terms.length ≤ 6 ∧ ∀ t ∈ a.terms, termE t = 0) ∧ ∀ c ∈ r.cds, condE c = 0 := by
  obtain ⟨-, -, -, -, -, hrl, -⟩ := ast_ok (check_ast hc)
  obtain ⟨hi, -, -⟩ := rule_ok (hrl r hr)
  obtain ⟨-, h8, h8', h, hcd⟩ := items_ok hi
  exact ⟨h8, h8', fun a ha => atom_ok (h a ha), hcd⟩
theorem names_14 {ss : List Sc} {q : Qy} {r : Rl} (hc : checkE ss q = 0) (hr : r ∈ q.rs) : (namesL q r).length ≤ 14 := by
  obtain ⟨-, -, -, hh, -, hrl, -⟩ := ast_ok (check_ast hc)
  obtain ⟨-, hv, -⟩ := rule_ok (hrl r hr)
  have h1 := addNs_len (varsC r) (((orderL q.hd q.od).map Ky.var).foldl addN [])
  have h2 := addNs_len ((orderL q.hd q.od).map Ky.var) []
  have h4 := head_len hh
  have h5 := order_free hc
  rw [List.length_map] at h2
  unfold namesL
  simp only [List.length_nil] at h2
  omega
theorem con_at {ts : List Tm} {f : Fl} {n : Nat} (h : f ∈ upL (conAt ts) n) : ∃ k, ∃ hk : k < ts.length, ts[k].var = ⟨#[]⟩ ∧ f = ⟨k, 0, ts[k].kind, ts[k].int, ts[k].str⟩ := by
  obtain ⟨k, -, e⟩ := mem_upL.1 h
  unfold conAt at e
  rcases Nat.lt_or_ge k ts.length with hk | hk
  · rw [List.getElem?_eq_getElem hk] at e
    simp only [Option.bind_some] at e
    split at e
    · rename_i h1
      injection e with e
      exact ⟨k, hk, h1, e.symm⟩
    · cases e
  · rw [List.getElem?_eq_none hk] at e
    cases e
theorem cnd_at {ts : List Tm} {cds : List Cd} {f : Fl} {n : Nat} (h : f ∈ upL (cndAt ts cds) n) : ∃ c ∈ cds, idxT ts c.var < ts.length ∧ f = ⟨idxT ts c.var, c.op, c.kind, c.int, c.str⟩ := by
  obtain ⟨k, -, e⟩ := mem_upL.1 h
  unfold cndAt at e
  rcases Nat.lt_or_ge k cds.length with hk | hk
  · rw [List.getElem?_eq_getElem hk] at e
    simp only [Option.bind_some] at e
    split at e
    · rename_i h1
      injection e with e
      exact ⟨_, List.getElem_mem hk, h1.2, e.symm⟩
    · cases e
  · rw [List.getElem?_eq_none hk] at e
    cases e
theorem sam_at {ts : List Tm} {p : Pi} (h : p ∈ upL (samAt ts) ts.length) : (0 ≤ p.a ∧ p.a < (ts.length : Int)) ∧ 0 ≤ p.b ∧ p.b < (ts.length : Int) := by
  obtain ⟨k, hk, e⟩ := mem_upL.1 h
  unfold samAt at e
  rw [List.getElem?_eq_getElem hk] at e
  simp only [Option.bind_some] at e
  split at e
  · rename_i h1
    injection e with e
    subst e
    have := h1.2
    exact ⟨⟨by show (0 : Int) ≤ (idxT ts ts[k].var : Int); omega, by show (idxT ts ts[k].var : Int) < _; omega⟩, by show (0 : Int) ≤ (k : Int); omega, by show (k : Int) < _; omega⟩
  · cases e
theorem col_lt {names : List ByteArray} {ts : List Tm} {c : Int} {n : Nat} (h : c ∈ upL (clR names ts) n) : 0 ≤ c ∧ c < (ts.length : Int) := by
  obtain ⟨k, -, e⟩ := mem_upL.1 h
  unfold clR at e
  rcases Nat.lt_or_ge k names.length with hk | hk
  · rw [List.getElem?_eq_getElem hk] at e
    simp only [Option.bind_some] at e
    split at e
    · rename_i h1
      injection e with e
      omega
    · cases e
  · rw [List.getElem?_eq_none hk] at e
    cases e
theorem miss_of {a x : Int} (h : 0 ≤ x ∧ x < a) : missB a x = false := by
  unfold missB
  rw [decide_eq_false (by omega), decide_eq_false (by omega)]
  rfl
theorem fits_of {s : Src} {a : Int} (h1 : ∀ p ∈ s.same, (0 ≤ p.a ∧ p.a < a) ∧ 0 ≤ p.b ∧ p.b < a) (h2 : ∀ f ∈ s.fs, 0 ≤ f.col ∧ f.col < a) (h3 : ∀ c ∈ s.cols, 0 ≤ c ∧ c < a) (h4 : s.vars.length = s.cols.length) : fitsB s a = true := by
  unfold fitsB
  simp only [Bool.and_eq_true, Bool.not_eq_true', decide_eq_true_eq, List.any_eq_false]
  refine ⟨fun p hp => ?_, fun f hf => ?_, fun c hcx => ?_, h4⟩
  · unfold pairB
    rw [miss_of (h1 p hp).1, miss_of (h1 p hp).2]
    simp
  · rw [miss_of (h2 f hf)]
    simp
  · rw [miss_of (h3 c hcx)]
    simp
theorem idxI_pos {l : List Int} {v : Int} (h : v ∈ l) : 0 ≤ idxI l v := by
  unfold idxI
  split
  · omega
  · rename_i h1
    rw [List.findIdx?_eq_none_iff] at h1
    have := h1 v h
    simp at this
/-- **A source fits the database.** -/
theorem src_fits {ss : List Sc} {us : List Up} {q : Qy} {r : Rl} {s : Src} (hO : DmOk (madeD ss us)) (hc : checkE ss q = 0) (hr : r ∈ q.rs) (hs : s ∈ srcsL q r) : LdOk (madeD ss us) s ∧ SrcOk s := by
  obtain ⟨b1, b2, b3, b4, b5, b6⟩ := srcs_bd hc hr hs
  have b14 := names_14 hc hr
  obtain ⟨i, -, e⟩ := mem_upL.1 hs
  obtain ⟨hi, -, rfl⟩ := srcR_some.1 e
  obtain ⟨-, -, hat, hcd⟩ := rule_parts hc hr
  have hm := List.getElem_mem hi
  obtain ⟨hnm, h6, hte⟩ := hat _ hm
  have hok : SrcOk (refS (namesL q r) r i r.ats[i]) := src_ok (List.getElem?_eq_getElem hi) (fun b hb => names_cov hb)
  obtain ⟨x, hx, hxa⟩ := atom_rel hO hc hr hm
  refine ⟨⟨?_, ⟨x, hx, ?_⟩, ?_, ?_, by omega, by omega, by omega, by omega⟩, hok⟩
  · have := name_size hnm
    show r.ats[i].rel.size ≤ maxLen
    simp only [maxLen]
    omega
  · rw [hxa]
    refine fits_of (fun p hp => sam_at hp) (fun f hf => ?_) (fun c hcx => col_lt hcx) hok.len
    rcases List.mem_append.1 hf with hf | hf
    · obtain ⟨k, hk, -, rfl⟩ := con_at hf
      exact ⟨by show (0 : Int) ≤ (k : Int); omega, by show (k : Int) < _; omega⟩
    · obtain ⟨c, -, h1, rfl⟩ := cnd_at hf
      exact ⟨by show (0 : Int) ≤ ((idxT r.ats[i].terms c.var : Nat) : Int); omega, by show ((idxT r.ats[i].terms c.var : Nat) : Int) < _; omega⟩
  · intro f hf
    have hsz : ∀ (k n : Int) (t : ByteArray), valB k n t = true → t.size ≤ maxLen := fun k n t h => by
      unfold valB at h
      split at h
      · rw [of_decide_eq_true h]; exact Nat.zero_le _
      · split at h
        · have := (of_decide_eq_true h).2; simp only [maxLen]; omega
        · cases h
    rcases List.mem_append.1 hf with hf | hf
    · obtain ⟨k, hk, h1, rfl⟩ := con_at hf
      have h2 := hte _ (List.getElem_mem hk)
      unfold termE at h2
      rw [if_pos h1] at h2
      split at h2
      · rename_i h3
        exact ⟨by simp, h3, hsz _ _ _ h3⟩
      · cases h2
    · obtain ⟨c, hcm, h1, rfl⟩ := cnd_at hf
      have h2 := hcd c hcm
      unfold condE at h2
      split at h2
      · split at h2
        · rename_i h4
          split at h2
          · rename_i h3
            exact ⟨h4, h3, hsz _ _ _ h3⟩
          · cases h2
        · cases h2
      · cases h2
  · intro y hy
    have hy2 : y ∈ notsL (namesL q r) r.ats i := hy
    have hyv := hok.nots y hy
    unfold notsL at hy2
    obtain ⟨b, hb, rfl⟩ := List.mem_map.1 hy2
    have hbm := (List.mem_filter.1 hb).1
    obtain ⟨hbn, -, -⟩ := hat _ hbm
    obtain ⟨z, hz, hza⟩ := atom_rel hO hc hr hbm
    refine ⟨?_, ?_, fun v hv => (hyv v hv).imp id (fun h => idxI_pos h), z, hz, ?_⟩
    · have := name_size hbn
      show b.rel.size ≤ maxLen
      simp only [maxLen]
      omega
    · show (b.terms.map Tm.vl).length = (b.terms.map (numI (namesL q r))).length
      rw [List.length_map, List.length_map]
    · show z.rel.ar = ((b.terms.map (numI (namesL q r))).length : Int)
      rw [List.length_map]
      exact hza
theorem facts_len {M : Dm} (hO : DmOk M) : ∀ (ss : List Sc), (factsL M ss).length ≤ 4096 * ss.length
  | [] => by simp [factsL]
  | s :: ss => by
    have h1 := facts_len hO ss
    have h2 := (rowsOf_le hO s.name).1
    have e : factsL M (s :: ss) = factsOf M s ++ factsL M ss := rfl
    rw [e, List.length_append, List.length_cons]
    have h3 : (factsOf M s).length = (rowsOf M s.name).length := List.length_map _
    omega
theorem row_len {M : Dm} (hO : DmOk M) {s : ByteArray} {x : En} (hx : M s = some x) {r : List Vl} (hr : r ∈ rowsOf M s) : (r.length : Int) = x.rel.ar := by
  unfold rowsOf at hr
  rw [hx] at hr
  exact (accE_zero (hO.row _ _ hx r hr).1).1
/-- **A source fits the facts.** -/
theorem src_der {ss : List Sc} {us : List Up} {q : Qy} {r : Rl} {s : Src} (hl : ss.length ≤ 6) (hO : DmOk (madeD ss us)) (hc : checkE ss q = 0) (hr : r ∈ q.rs) (hs : s ∈ srcsL q r) : DerOk s (factsL (madeD ss us) ss) := by
  obtain ⟨hk, hok⟩ := src_fits hO hc hr hs
  obtain ⟨x, hx, hfit⟩ := hk.src
  obtain ⟨f1, f2, f3, f4⟩ := fits_parts hfit
  have hk1 := hk.b1
  have hkey : ∀ s e, madeD ss us s = some e → ∃ x ∈ ss, x.name = s := fun s e h => madeD_key h
  have hrow : ∀ y ∈ factsL (madeD ss us) ss, y.rel = s.rel → (y.row.length : Int) = x.rel.ar := fun y hy e => by
    have h1 := (mem_facts hkey).1 hy
    rw [e] at h1
    exact row_len hO hx h1
  refine ⟨?_, fun y hy => ?_, by omega, hk.b3, hk.b4, hk.b5, f4, fun y hy => ?_, fun g hg => (hk.fs g hg).1, fun y hy e g hg => ?_, fun y hy e p hp => ?_, fun y hy e c hcx => ?_⟩
  · have := facts_len hO ss
    omega
  · exact (rowsOf_le hO y.rel).2 _ ((mem_facts hkey).1 hy)
  · obtain ⟨-, h2, -, z, hz, hza⟩ := hk.nots y hy
    have := hO.ar _ _ hz
    exact ⟨h2, by omega⟩
  · rw [hrow y hy e]
    exact f2 g hg
  · rw [hrow y hy e]
    exact f1 p hp
  · rw [hrow y hy e]
    exact miss_ok (f3 c hcx)
end Go.Proofs.YtmmmdinncmbjkaaGreat
namespace Go.Proofs.YtmmmdinncmbjkaaGreat
open Go.RowKit Go.Maps
/-- The row of an atom under an assignment. -/
def rowOf (names : List ByteArray) (a : List Vl) (ts : List Tm) : List Vl := ts.map (fun t => if t.var = ⟨#[]⟩ then t.vl else a.getD (posN names t.var) zv)
def projA (a : List Vl) (vs : List Int) : List Vl := vs.map (fun v => a.getD v.toNat zv)
def holdC (names : List ByteArray) (a : List Vl) (c : Cd) : Bool := holdI c.op (cmpV (a.getD (posN names c.var) zv) ⟨c.kind, c.int, c.str⟩)
def atomB (names : List ByteArray) (f : List Fc) (a : List Vl) (b : At) : Bool := hasFc f b.rel (rowOf names a b.terms) != b.neg
/-- The assignment satisfies the rule. -/
def satB (names : List ByteArray) (r : Rl) (f : List Fc) (a : List Vl) : Bool := r.ats.all (atomB names f a) && r.cds.all (holdC names a)
/-- The projections of the assignment are in all derived relations. -/
def inB (M : Dm) (srcs : List Src) (a : List Vl) : Bool := srcs.all (fun s => hasR (loadL M s) (projA a s.vars))
theorem rowOf_at {names : List ByteArray} {a : List Vl} {ts : List Tm} {k : Nat} (hk : k < ts.length) : (rowOf names a ts).getD k zv = if ts[k].var = ⟨#[]⟩ then ts[k].vl else a.getD (posN names ts[k].var) zv := by
  unfold rowOf
  rw [List.getD_eq_getElem?_getD, List.getElem?_map, List.getElem?_eq_getElem hk]
  rfl
theorem rowOf_first {names : List ByteArray} {a : List Vl} {ts : List Tm} {s : ByteArray} (h : idxT ts s < ts.length) (hs : s ≠ ⟨#[]⟩) : (rowOf names a ts).getD (idxT ts s) zv = a.getD (posN names s) zv := by
  rw [rowOf_at h, idxT_at h, if_neg hs]
theorem proj_rowOf {names : List ByteArray} {a : List Vl} {ts : List Tm} (hd : names.Nodup) (hne : ∀ s ∈ names, s ≠ ⟨#[]⟩) : projR (upL (clR names ts) names.length) (rowOf names a ts) = projA a (upL (vrR names ts) names.length) := by
  unfold projR projA
  rw [upL_map, upL_map]
  refine upL_congr (fun k hk => ?_)
  unfold vrR clR
  rw [List.getElem?_eq_getElem hk]
  simp only [Option.bind_some]
  by_cases h : idxT ts names[k] < ts.length
  · rw [if_pos h, if_pos h]
    simp only [Option.map_some, Int.toNat_natCast]
    rw [rowOf_first h (hne _ (List.getElem_mem hk)), pos_get hd hk]
  · rw [if_neg h, if_neg h]
    rfl
/-- What the equality of projections says. -/
theorem proj_each {names : List ByteArray} {a x : List Vl} {ts : List Tm} (h : projR (upL (clR names ts) names.length) x = projA a (upL (vrR names ts) names.length)) {k : Nat} (hk : k < names.length) (hi : idxT ts names[k] < ts.length) : x.getD (idxT ts names[k]) zv = a.getD k zv := by
  rw [← cols_ref] at h
  unfold projR projA at h
  rw [List.map_map] at h
  have h1 := List.map_inj_left.1 h (k : Int) (mem_upL.2 ⟨k, hk, vrR_some.2 ⟨hk, hi, rfl⟩⟩)
  simp only [Function.comp, Int.toNat_natCast] at h1
  have e : colI names ts (k : Int) = (idxT ts names[k] : Int) := by
    unfold colI
    rw [Int.toNat_natCast, List.getD_eq_getElem?_getD, List.getElem?_eq_getElem hk]
    rfl
  rw [e, Int.toNat_natCast] at h1
  exact h1
theorem hold_eq {a b : Vl} : holdI 0 (cmpV a b) = true ↔ a = b := by
  unfold holdI
  rw [if_pos rfl]
  have h := cmp_zero a b
  rw [h]
  simp
theorem all_app {α : Type} {p : α → Bool} {l m : List α} : (l ++ m).all p = true ↔ l.all p = true ∧ m.all p = true := by
  rw [List.all_append, Bool.and_eq_true]
/-- The filters of an atom hold of its row just where the conditions on its variables hold of the assignment. -/
theorem fs_rowOf {names : List ByteArray} {r : Rl} {i : Nat} {b : At} {a : List Vl} (hcv : ∀ c ∈ r.cds, c.var ≠ ⟨#[]⟩) : (refS names r i b).fs.all (derF (rowOf names a b.terms)) = true ↔ ∀ c ∈ r.cds, idxT b.terms c.var < b.terms.length → holdC names a c = true := by
  show (upL (conAt b.terms) b.terms.length ++ upL (cndAt b.terms r.cds) r.cds.length).all _ = true ↔ _
  rw [all_app, List.all_eq_true, List.all_eq_true]
  constructor
  · rintro ⟨-, h⟩ c hc hi
    obtain ⟨k, hk, rfl⟩ := List.getElem_of_mem hc
    have h1 := h ⟨idxT b.terms r.cds[k].var, r.cds[k].op, r.cds[k].kind, r.cds[k].int, r.cds[k].str⟩ (mem_upL.2 ⟨k, hk, by
      unfold cndAt
      rw [List.getElem?_eq_getElem hk]
      simp only [Option.bind_some]
      rw [if_pos ⟨hcv _ hc, hi⟩]⟩)
    unfold derF at h1
    simp only [Int.toNat_natCast] at h1
    rw [rowOf_first hi (hcv _ hc)] at h1
    exact h1
  · intro h
    refine ⟨fun g hg => ?_, fun g hg => ?_⟩
    · obtain ⟨k, hk, h1, rfl⟩ := con_at hg
      unfold derF
      simp only [Int.toNat_natCast]
      rw [rowOf_at hk, if_pos h1]
      exact hold_eq.2 rfl
    · obtain ⟨c, hc, hi, rfl⟩ := cnd_at hg
      unfold derF
      simp only [Int.toNat_natCast]
      rw [rowOf_first hi (hcv _ hc)]
      exact h c hc hi
theorem sam_rowOf {names : List ByteArray} {r : Rl} {i : Nat} {b : At} {a : List Vl} : (refS names r i b).same.all (derS (rowOf names a b.terms)) = true := by
  rw [List.all_eq_true]
  intro p hp
  obtain ⟨k, hk, e⟩ := mem_upL.1 (show p ∈ upL (samAt b.terms) b.terms.length from hp)
  unfold samAt at e
  rw [List.getElem?_eq_getElem hk] at e
  simp only [Option.bind_some] at e
  split at e
  · rename_i h1
    injection e with e
    subst e
    unfold derS
    simp only [Int.toNat_natCast, decide_eq_true_eq]
    rw [rowOf_at hk, if_neg h1.1, rowOf_first (Nat.lt_trans h1.2 hk) h1.1]
  · cases e
/-- The row of a negated atom. -/
theorem not_rowOf {names : List ByteArray} {r : Rl} {i : Nat} {b c : At} {a : List Vl} (hi : r.ats[i]? = some b) (hd : names.Nodup) (hne : ∀ s ∈ names, s ≠ ⟨#[]⟩) (hc : ∀ b ∈ r.ats, ∀ t ∈ b.terms, t.var ≠ ⟨#[]⟩ → t.var ∈ names) (hm : ntOf names c ∈ (refS names r i b).nots) (hcm : ∀ t ∈ c.terms, t.var ≠ ⟨#[]⟩ → t.var ∈ names) : notRow (refS names r i b) (rowOf names a b.terms) (ntOf names c) = rowOf names a c.terms := by
  have hok := src_ok (names := names) hi hc
  have hv := hok.nots _ hm
  unfold notRow rowOf
  have e : ((ntOf names c).vars.zip (ntOf names c).cs) = c.terms.map (fun t => (numI names t, t.vl)) := by
    show (c.terms.map (numI names)).zip (c.terms.map Tm.vl) = _
    induction c.terms with
    | nil => rfl
    | cons t l ih => rw [List.map_cons, List.map_cons, List.zip_cons_cons, List.map_cons, ih]
  rw [e, List.map_map]
  refine List.map_congr_left (fun t ht => ?_)
  simp only [Function.comp]
  by_cases h0 : t.var = ⟨#[]⟩
  · rw [if_pos h0]
    have : numI names t = -1 := if_pos h0
    rw [this]
    exact pick_const (fun p hp e => hok.neg (by have h1 := (List.of_mem_zip hp).1; rw [e] at h1; exact h1))
  · rw [if_neg h0]
    have hmem := hcm t ht h0
    have hn : numI names t = (posN names t.var : Int) := by
      unfold numI
      rw [if_neg h0, if_pos hmem]
    have h1 := (hv (numI names t) (List.mem_map.2 ⟨t, ht, rfl⟩)).resolve_left (by rw [hn]; omega)
    obtain ⟨p, hp, e1⟩ := List.getElem_of_mem h1
    rw [← e1, pick_at hok.nd hok.len hp rfl]
    have h2 := proj_rowOf (a := a) (ts := b.terms) hd hne
    have h3 : (projR (refS names r i b).cols (rowOf names a b.terms))[p]? = (projA a (refS names r i b).vars)[p]? := congrArg (fun l => l[p]?) h2
    unfold projR projA at h3
    have hpc : p < (refS names r i b).cols.length := by rw [← hok.len]; exact hp
    rw [List.getElem?_map, List.getElem?_map, List.getElem?_eq_getElem hp, List.getElem?_eq_getElem hpc] at h3
    simp only [Option.map_some, Option.some.injEq] at h3
    rw [e1, hn, Int.toNat_natCast] at h3
    exact h3
/-- **One source: its derived relation holds the projection just where the atom's row is a fact, its conditions hold, and the negated atoms that it guards are no facts.** -/
theorem src_mem {ss : List Sc} {us : List Up} {q : Qy} {r : Rl} {i : Nat} {b : At} {a : List Vl} (hO : DmOk (madeD ss us)) (hc : checkE ss q = 0) (hr : r ∈ q.rs) (hi : r.ats[i]? = some b) :
    projA a (refS (namesL q r) r i b).vars ∈ loadL (madeD ss us) (refS (namesL q r) r i b) ↔ hasFc (factsL (madeD ss us) ss) b.rel (rowOf (namesL q r) a b.terms) = true ∧ (∀ c ∈ r.cds, idxT b.terms c.var < b.terms.length → holdC (namesL q r) a c = true) ∧ ∀ c ∈ r.ats, c.neg = true → guardI r.ats c = some i → hasFc (factsL (madeD ss us) ss) c.rel (rowOf (namesL q r) a c.terms) = false := by
  have hd := names_nodup q r
  have hne : ∀ s ∈ namesL q r, s ≠ ⟨#[]⟩ := fun s hs => bound_ne (names_bound hc hr s hs)
  have hcov : ∀ b ∈ r.ats, ∀ t ∈ b.terms, t.var ≠ ⟨#[]⟩ → t.var ∈ namesL q r := fun b hb => names_cov hb
  have hcv := cond_var hc hr
  have hkey : ∀ s e, madeD ss us s = some e → ∃ x ∈ ss, x.name = s := fun s e h => madeD_key h
  have hok := src_ok (names := namesL q r) hi hcov
  have hbm : b ∈ r.ats := List.mem_of_getElem? hi
  have hnots : ∀ x : List Vl, x = rowOf (namesL q r) a b.terms → ((refS (namesL q r) r i b).nots.all (derN (factsL (madeD ss us) ss) (refS (namesL q r) r i b) x) = true ↔ ∀ c ∈ r.ats, c.neg = true → guardI r.ats c = some i → hasFc (factsL (madeD ss us) ss) c.rel (rowOf (namesL q r) a c.terms) = false) := by
    rintro x rfl
    rw [List.all_eq_true]
    constructor
    · intro h c hcm hng hg
      have hm : ntOf (namesL q r) c ∈ (refS (namesL q r) r i b).nots := by
        show ntOf (namesL q r) c ∈ notsL (namesL q r) r.ats i
        unfold notsL
        exact List.mem_map.2 ⟨c, List.mem_filter.2 ⟨hcm, by unfold isNt; simp [hng, hg]⟩, rfl⟩
      have h1 := h _ hm
      unfold derN at h1
      rw [not_rowOf hi hd hne hcov hm (hcov c hcm), Bool.not_eq_true'] at h1
      exact h1
    · intro h y hy
      have hy2 : y ∈ notsL (namesL q r) r.ats i := hy
      unfold notsL at hy2
      obtain ⟨c, hcm, rfl⟩ := List.mem_map.1 hy2
      obtain ⟨hcm1, hcm2⟩ := List.mem_filter.1 hcm
      unfold isNt at hcm2
      simp only [Bool.and_eq_true, decide_eq_true_eq] at hcm2
      unfold derN
      rw [not_rowOf hi hd hne hcov hy (hcov c hcm1)]
      have h1 := h c hcm1 hcm2.1 hcm2.2
      show (!hasFc (factsL (madeD ss us) ss) c.rel (rowOf (namesL q r) a c.terms)) = true
      rw [h1]
      rfl
  rw [load_mem hkey hok, derive_mem]
  constructor
  · rintro ⟨⟨rl, x⟩, hx, hB, he⟩
    unfold derB at hB
    simp only [Bool.and_eq_true, decide_eq_true_eq] at hB
    obtain ⟨⟨⟨hrl, hf⟩, hs⟩, hn⟩ := hB
    obtain rfl : rl = b.rel := hrl
    obtain ⟨e, hM, har⟩ := atom_rel hO hc hr hbm
    have hxm := (mem_facts hkey).1 hx
    have hxl : x.length = b.terms.length := by
      have : (x.length : Int) = _ := row_len hO hM hxm
      omega
    have hxe : x = rowOf (namesL q r) a b.terms := by
      refine List.ext_getElem (by rw [hxl]; simp [rowOf]) (fun k h1 h2 => ?_)
      have hk : k < b.terms.length := by omega
      have e1 : x[k] = x.getD k zv := by rw [List.getD_eq_getElem?_getD, List.getElem?_eq_getElem h1]; rfl
      have e2 : (rowOf (namesL q r) a b.terms)[k] = (rowOf (namesL q r) a b.terms).getD k zv := by rw [List.getD_eq_getElem?_getD, List.getElem?_eq_getElem h2]; rfl
      rw [e1, e2, rowOf_at hk]
      by_cases h0 : b.terms[k].var = ⟨#[]⟩
      · rw [if_pos h0]
        have hm : (⟨k, 0, b.terms[k].kind, b.terms[k].int, b.terms[k].str⟩ : Fl) ∈ (refS (namesL q r) r i b).fs := List.mem_append_left _ (mem_upL.2 ⟨k, hk, by
          unfold conAt
          rw [List.getElem?_eq_getElem hk]
          simp only [Option.bind_some]
          rw [if_pos h0]⟩)
        have h3 := List.all_eq_true.1 hf _ hm
        unfold derF at h3
        simp only [Int.toNat_natCast] at h3
        exact hold_eq.1 h3
      · rw [if_neg h0]
        have hvn := hcov b hbm _ (List.getElem_mem hk) h0
        have hfst := proj_each he.symm (pos_lt hvn) (by rw [pos_at hvn]; have := idxT_le hk; omega)
        rw [pos_at hvn] at hfst
        have hle := idxT_le hk
        rcases Nat.lt_or_ge (idxT b.terms b.terms[k].var) k with h3 | h3
        · have hm : (⟨idxT b.terms b.terms[k].var, k⟩ : Pi) ∈ (refS (namesL q r) r i b).same := mem_upL.2 ⟨k, hk, by
            unfold samAt
            rw [List.getElem?_eq_getElem hk]
            simp only [Option.bind_some]
            rw [if_pos ⟨h0, h3⟩]⟩
          have h4 := List.all_eq_true.1 hs _ hm
          unfold derS at h4
          simp only [Int.toNat_natCast, decide_eq_true_eq] at h4
          rw [← h4, hfst]
        · have e3 : idxT b.terms b.terms[k].var = k := by omega
          rw [e3] at hfst
          exact hfst
    refine ⟨?_, ?_, (hnots x hxe).1 hn⟩
    · rw [has_facts hkey, hasR_iff, ← hxe]
      exact hxm
    · rw [hxe] at hf
      exact (fs_rowOf hcv).1 hf
  · rintro ⟨h1, h2, h3⟩
    refine ⟨⟨b.rel, rowOf (namesL q r) a b.terms⟩, ?_, ?_, (proj_rowOf hd hne).symm⟩
    · rw [has_facts hkey, hasR_iff] at h1
      exact (mem_facts hkey).2 h1
    · unfold derB
      simp only [Bool.and_eq_true, decide_eq_true_eq]
      exact ⟨⟨⟨rfl, (fs_rowOf hcv).2 h2⟩, sam_rowOf⟩, (hnots _ rfl).2 h3⟩
theorem check_ver {ss : List Sc} {q : Qy} (h : checkE ss q = 0) : firstE (fun r => verifyE (kmOf ss r) r) q.rs = 0 := by
  by_cases h1 : firstE (fun r => verifyE (kmOf ss r) r) q.rs = 0
  · exact h1
  · exact absurd h (by rw [checkE_ver (check_ast h) (check_inf h) h1]; exact h1)
theorem neg_guard {ss : List Sc} {q : Qy} {r : Rl} (hc : checkE ss q = 0) (hr : r ∈ q.rs) {b : At} (hb : b ∈ r.ats) (hn : b.neg = true) : ∃ g, guardI r.ats b = some g := by
  have h1 := firstE_zero.1 (check_ver hc) r hr
  unfold verifyE at h1
  split at h1
  · have h2 := firstE_zero.1 h1 b hb
    unfold negE at h2
    rw [if_pos hn] at h2
    split at h2
    · rename_i h3
      exact Option.isSome_iff_exists.1 h3
    · cases h2
  · rename_i h3
    exact absurd h1 h3
/-- **The plain law of NormalizeMeans.** -/
theorem means_plain {ss : List Sc} {us : List Up} {q : Qy} {r : Rl} {a : List Vl} (hO : DmOk (madeD ss us)) (hc : checkE ss q = 0) (hr : r ∈ q.rs) : inB (madeD ss us) (srcsL q r) a = satB (namesL q r) r (factsL (madeD ss us) ss) a := by
  rw [Bool.eq_iff_iff]
  unfold inB satB
  rw [List.all_eq_true, Bool.and_eq_true, List.all_eq_true, List.all_eq_true]
  have hsrc : (∀ s ∈ srcsL q r, hasR (loadL (madeD ss us) s) (projA a s.vars) = true) ↔ ∀ i (hi : i < r.ats.length), r.ats[i].neg = false → (hasFc (factsL (madeD ss us) ss) r.ats[i].rel (rowOf (namesL q r) a r.ats[i].terms) = true ∧ (∀ c ∈ r.cds, idxT r.ats[i].terms c.var < r.ats[i].terms.length → holdC (namesL q r) a c = true) ∧ ∀ c ∈ r.ats, c.neg = true → guardI r.ats c = some i → hasFc (factsL (madeD ss us) ss) c.rel (rowOf (namesL q r) a c.terms) = false) := by
    constructor
    · intro h i hi hn
      have h1 := h (refS (namesL q r) r i r.ats[i]) (mem_upL.2 ⟨i, hi, srcR_some.2 ⟨hi, hn, rfl⟩⟩)
      rw [hasR_iff] at h1
      exact (src_mem hO hc hr (List.getElem?_eq_getElem hi)).1 h1
    · intro h s hs
      obtain ⟨i, -, e⟩ := mem_upL.1 hs
      obtain ⟨hi, hn, rfl⟩ := srcR_some.1 e
      rw [hasR_iff]
      exact (src_mem hO hc hr (List.getElem?_eq_getElem hi)).2 (h i hi hn)
  rw [hsrc]
  constructor
  · intro h
    refine ⟨fun b hb => ?_, fun c hcm => ?_⟩
    · unfold atomB
      rcases hn : b.neg with _ | _
      · obtain ⟨i, hi, rfl⟩ := List.getElem_of_mem hb
        rw [(h i hi hn).1]
        rfl
      · obtain ⟨g, hg⟩ := neg_guard hc hr hb hn
        obtain ⟨hgl, hgn, -⟩ := guard_cov hg
        rw [(h g hgl hgn).2.2 b hb hn hg]
        rfl
    · have hcv : c.var ∈ varsC r := by
        rw [varsC_eq]
        exact varsT_iff.2 ⟨cdT c, List.mem_append_right _ (List.mem_map.2 ⟨c, hcm, rfl⟩), rfl, cond_var hc hr c hcm⟩
      obtain ⟨-, -, -, -, -, hrl, -⟩ := ast_ok (check_ast hc)
      obtain ⟨-, -, hb⟩ := rule_ok (hrl r hr)
      obtain ⟨i, hi, hn, hx⟩ := bound_at (hb c.var (List.mem_append_right _ hcv))
      exact (h i hi hn).2.1 c hcm hx
  · rintro ⟨h1, h2⟩ i hi hn
    refine ⟨?_, fun c hcm _ => h2 c hcm, fun c hcm hng _ => ?_⟩
    · have h3 := h1 _ (List.getElem_mem hi)
      unfold atomB at h3
      rw [hn] at h3
      simpa using h3
    · have h3 := h1 c hcm
      unfold atomB at h3
      rw [hng] at h3
      simpa using h3
end Go.Proofs.YtmmmdinncmbjkaaGreat
namespace Go.Proofs.YtmmmdinncmbjkaaGreat
open Go.RowKit Go.Maps
theorem Sl.re {F : Nat → Prop} {w : World} {A : Option Addr} {n c : Nat} {xs : List Re} (h : Sl rdRe F w (.slice A n c) xs) {i : Nat} (hi : i < xs.length) : ∃ ad B d, A = some ad ∧ w.cell? (ad.add (i * 2)) = some (.int .i64 xs[i].ar) ∧ w.cell? ⟨(ad.add (i * 2)).block, (ad.add (i * 2)).off + 1, none⟩ = some (.slice B xs[i].rows.length d) ∧ Sl rdRow F w (.slice B xs[i].rows.length d) xs[i].rows := by
  obtain ⟨ad, cs, h1, -, ⟨u, rfl, hu⟩, c0, cr⟩ := h.at hi
  obtain ⟨B, d, rfl⟩ := hu.sl
  exact ⟨ad, B, d, h1, c0 (by simp), cr 0 (by simp), hu⟩
/-- A slice of values. -/
def ValsV (w : World) (x : Value) (w' : World) : Prop := ∃ (A : Option Addr) (m c : Nat) (l : List Vl), x = .slice A m c ∧ m ≤ 1048576 ∧ Sl rdVl (fun k => w.heap.size ≤ k) w' (.slice A m c) l
theorem ValsV.mk {w w' : World} {A : Option Addr} {m c : Nat} {l : List Vl} (hm : m ≤ 1048576) (h : Sl rdVl (fun k => w.heap.size ≤ k) w' (.slice A m c) l) : ValsV w (.slice A m c) w' := ⟨A, m, c, l, rfl, hm, h⟩
set_option maxRecDepth 20000 in
set_option maxHeartbeats 3200000 in
theorem values22 {F : Nat → Prop} {w : World} {A : Option Addr} {n c : Nat} {f : List Fc} (hf : Sl rdFc F w (.slice A n c) f) (hn : n ≤ 32768) (hr : ∀ x ∈ f, x.row.length ≤ 32) :
    Calls Tryz.prog 18 #[.slice A n c] w (Ret (ValsV w) w) := by
  have hnf := hf.cap.1
  obtain ⟨i0, hi0, hz0, hz1, hz2⟩ := info_parts info_val
  have HV0 := Lib.hid (And.intro hi0 (And.intro hz0 (And.intro hz1 hz2))); clear hi0 hz0 hz1 hz2
  have HF := Lib.hid hf; have HNF := Lib.hid hnf; have HR := Lib.hid hr
  clear hf hnf hr
  go_enter Tryz.func18, Tryz.ntmps18
  go_wp2_with fail
  go_loopw [3, 4] (fun o t wr => ∃ (i k : Nat) (l : List Vl), i ≤ n ∧ t = .int .i64 (i : Int) ∧ wr.ownsRow w.heap.size 83 3 o k (vcells l) ∧ k ≤ i * 32 ∧ Ext w wr) (fun _ t _ => n - (intOf t).toNat)
  case atStart => exact ⟨0, 0, [], Nat.zero_le _, rfl, World.ownsRow_nil _ _ _ _, by omega, Ext.refl _⟩
  case round =>
    obtain ⟨i, k, l, hi, rfl, how, hki, hx⟩ := hrel
    obtain ⟨Ao, co, rfl⟩ := own_slice how
    obtain ⟨W, rfl⟩ : ∃ W : World, W = wr := ⟨_, rfl⟩
    have HOW := Lib.hid how; have HX := Lib.hid hx
    by_cases hlt : i < n
    · have i1 : (0 : Int) ≤ (i : Int) := by omega
      have i2 : (i : Int) < (n : Int) := by omega
      have hil : i < f.length := by have := HNF.out; omega
      obtain ⟨ad, B, d, rfl, -, d1, hs⟩ := HF.out.fc hil
      have hxl := HR.out _ (List.getElem_mem hil)
      obtain ⟨xr, hxr⟩ : ∃ x, x = f[i].row := ⟨_, rfl⟩
      rw [← hxr] at d1 hs hxl
      obtain ⟨lx, hlx⟩ : ∃ l, l = xr.length := ⟨_, rfl⟩
      rw [← hlx] at d1 hs hxl
      have HD1 := Lib.hid d1; have HS := Lib.hid hs; have HLX := Lib.hid hlx
      replace d1 := hx.cell d1
      clear hs hxr hlx how hx
      go_wp2_with fail
      clear d1
      go_loopw [3, 5] (fun o t wr => ∃ (j k : Nat) (l : List Vl), j ≤ lx ∧ t = .int .i64 (j : Int) ∧ wr.ownsRow w.heap.size 83 3 o k (vcells l) ∧ k ≤ i * 32 + j ∧ Ext w wr) (fun _ t _ => lx - (intOf t).toNat)
      case atStart => exact ⟨0, k, l, Nat.zero_le _, rfl, HOW.out, by omega, HX.out⟩
      case round =>
        clear HOW HX
        obtain ⟨j, k, l, hj, rfl, how, hkj, hx⟩ := hrel
        obtain ⟨Ao, co, rfl⟩ := own_slice how
        obtain ⟨W2, rfl⟩ : ∃ W : World, W = wr := ⟨_, rfl⟩
        have HOW := Lib.hid how; have HX := Lib.hid hx
        have d1 := hx.cell HD1.out
        by_cases hjl : j < lx
        · have j1 : (0 : Int) ≤ (j : Int) := by omega
          have j2 : (j : Int) < (lx : Int) := by omega
          have hjx : j < xr.length := by have := HLX.out; omega
          obtain ⟨ar, rfl, -, f0, f1, f2⟩ := HS.out.vl hjx
          obtain ⟨y, hy⟩ : ∃ y, y = xr[j] := ⟨_, rfl⟩
          rw [← hy] at f0 f1 f2
          obtain ⟨yk, yi, ys⟩ := y
          simp only at f0 f1 f2
          have HF0 := Lib.hid f0; have HF1 := Lib.hid f1; have HF2 := Lib.hid f2
          have hkb : k ≤ 1048576 := by omega
          clear f0 f1 f2 hy how hx
          go_wp2_with fail
          clear d1
          go_loopw [6, 7] (fun b t wr => ∃ (p : Nat) (y : Bool), p ≤ k ∧ t = .int .i64 (p : Int) ∧ b = .bool y ∧ Ext W2 wr) (fun _ t _ => k - (intOf t).toNat)
          case atStart => exact ⟨0, false, Nat.zero_le _, rfl, rfl, Ext.refl _⟩
          case round =>
            obtain ⟨p, b, hp, rfl, rfl, hxp⟩ := hrel
            obtain ⟨W3, rfl⟩ : ∃ W : World, W = wr := ⟨_, rfl⟩
            have HXP := Lib.hid hxp; have HX3 := Lib.hid (HX.out.trans hxp)
            have d1 := HX3.out.cell HD1.out; have f0 := HX3.out.cell HF0.out; have f1 := HX3.out.cell HF1.out; have f2 := HX3.out.cell HF2.out
            by_cases hpk : p < k
            · have p1 : (0 : Int) ≤ (p : Int) := by omega
              have p2 : (p : Int) < (k : Int) := by omega
              have hsl := ((Rw.of_flat (cells := Vl.cells) (sz := 3) (hl := fun _ => rfl) HOW.out).sl (by decide)).ext hxp
              have hkl := hsl.cap.1
              obtain ⟨ao, rfl, -, o0, o1, o2⟩ := hsl.vl (i := p) (by omega)
              obtain ⟨z, hz⟩ : ∃ y, y = l[p] := ⟨_, rfl⟩
              rw [← hz] at o0 o1 o2
              obtain ⟨zk, zi, zs⟩ := z
              simp only at o0 o1 o2
              have heq := fun W => eq_val W zk yk zi yi zs ys
              rw [vl_beq] at heq
              obtain ⟨q, hq⟩ : ∃ q, q = decide ((⟨zk, zi, zs⟩ : Vl) = ⟨yk, yi, ys⟩) := ⟨_, rfl⟩
              rw [← hq] at heq
              clear hsl hkl hz hq hxp
              go_upto_region 12 with fail
              rcases b with _ | _
              · go_quiet (fail)
                have HX4 := Lib.hid (HXP.out.drewN nq)
                generalize (W3.drewN nq) = W4 at *
                clear d1 f0 f1 f2 o0 o1 o2 heq
                go_wp2_with fail
                go_roundw
                case rel => exact ⟨p + 1, q, by omega, by go_num, rfl, HX4.out⟩
                case measure => simp [intOf]; omega
              · go_quiet (fail)
                have HX4 := Lib.hid (HXP.out.drewN nq)
                generalize (W3.drewN nq) = W4 at *
                clear d1 f0 f1 f2 o0 o1 o2 heq
                go_wp2_with fail
                go_roundw
                case rel => exact ⟨p + 1, true, by omega, by go_num, rfl, HX4.out⟩
                case measure => simp [intOf]; omega
            · obtain rfl : p = k := by omega
              have hdp : ¬ (p : Int) < (p : Int) := by omega
              have HOW3 := Lib.hid (own_ext' HOW.out hxp)
              have HOWB : Hid (∀ b, (Value.slice Ao p co).ownBlock = some b → w.heap.size ≤ b) := Lib.hid (fun b hb => own_ge HOW.out hb)
              have hsz : w.heap.size ≤ W3.heap.size := HX3.out.size
              clear hxp
              rcases b with _ | _
              · have HTK : Hid (vcells (l ++ [⟨yk, yi, ys⟩]) = vcells l ++ [.int .i64 yk, .int .i64 yi, .string ys]) := Lib.hid (vcells_app1 _ _)
                go_wp2_with (first
                  | (at_builtin; refine wpList_append_at rfl _ _ 48 rfl w.heap.size 83 i0 (.agg #[.int .i64 0, .int .i64 0, .string ⟨#[]⟩]) 3 32 Tryz.underlying48 HV0.out.1 HV0.out.2.1 HV0.out.2.2.1 HV0.out.2.2.2 rfl (by omega) (.slice Ao p co) p (vcells l) rfl (HOW3.out.alloc _) ⟨W3.heap.size, 0, none⟩ 1 1 [.int .i64 yk, .int .i64 yi, .string ys] rfl rfl (laid_news W3 _ _) (by simp [Value.oneCell']) (by simp only [maxLen]; omega) (by omega) (by simp; omega) ?_; intro v8 w8 hr8 hg8 hl8; obtain ⟨A8, c8, e8⟩ := own_slice hr8; subst e8; have HR8 := Lib.hid hr8; have HX8 := Lib.hid ((HX3.out.trans ((Ext.refl W3).alloc (.cells #[.int .i64 yk, .int .i64 yi, .string ys] 83))).grown hg8 (fun b hb => HOWB.out b hb)); clear hr8 hg8 hl8))
                go_roundw
                case rel => exact ⟨j + 1, p + 1, l ++ [⟨yk, yi, ys⟩], by omega, by go_num, by rw [HTK.out]; exact HR8.out, by omega, HX8.out⟩
                case measure => simp [intOf]; omega
              · clear d1 f0 f1 f2
                go_wp2_with fail
                go_roundw
                case rel => exact ⟨j + 1, p, l, by omega, by go_num, HOW3.out, by omega, HX3.out⟩
                case measure => simp [intOf]; omega
        · obtain rfl : j = lx := by omega
          have hdj : ¬ (j : Int) < (j : Int) := by omega
          clear how hx
          go_wp2_with fail
          go_roundw
          case rel => exact ⟨i + 1, k, l, by omega, by go_num, HOW.out, by omega, HX.out⟩
          case measure => simp [intOf]; omega
    · obtain rfl : i = n := by omega
      have hdi : ¬ (i : Int) < (i : Int) := by omega
      have HQ := Lib.hid (ValsV.mk (by omega) (((Rw.of_flat (cells := Vl.cells) (sz := 3) (hl := fun _ => rfl) how).sl (by decide)).mono (G := fun k => w.heap.size ≤ k) (by decide) (fun q _ hq => by omega)))
      clear how hx
      go_wp2_with fail
      go_ret
      exact Ret.mk HX.out HQ.out
/-- What inAll wants of a source. -/
structure InOk (M : Dm) (n : Nat) (s : Src) : Prop where
  var : ∀ v ∈ s.vars, 0 ≤ v ∧ v < (n : Int)
  len : s.vars.length ≤ 1048576
  bd : (loadL M s).length ≤ 1048576
  row : ∀ x ∈ loadL M s, x.length ≤ 1048576
set_option maxRecDepth 20000 in
set_option maxHeartbeats 3200000 in
theorem inall_any {F G H : Nat → Prop} {w : World} {V D : Value} {fr : Int} {B L R : Option Addr} {m d lm lc nr rc : Nat} {srcs : List Src} {M : Dm} {a : List Vl} (hV : ∃ A n c, V = .slice A n c) (hD : ∃ A n c, D = .slice A n c) (h : Sl rdSrc F w (.slice B m d) srcs) (hl : Sl rdRe G w (.slice L lm lc) (srcs.map (loadR M))) (hr : Sl rdVl H w (.slice R nr rc) a) (hm : m ≤ 1048576) (hok : ∀ s ∈ srcs, InOk M a.length s) :
    Calls Tryz.prog 19 #[.agg #[V, .int .i64 fr, D, .slice B m d], .slice L lm lc, .slice R nr rc] w (Ret (fun x _ => x = .bool (inB M srcs a)) w) := by
  obtain ⟨A1, n1, c1, rfl⟩ := hV
  obtain ⟨A2, n2, c2, rfl⟩ := hD
  have hnm := h.cap.1; have hlm := hl.cap.1; have hnr := hr.cap.1
  rw [List.length_map] at hlm
  obtain rfl : lm = m := by omega
  obtain ⟨i0, hi0, hz0, hz1, hz2⟩ := info_parts info_val
  have HV0 := Lib.hid (And.intro hi0 (And.intro hz0 (And.intro hz1 hz2))); clear hi0 hz0 hz1 hz2
  have HS := Lib.hid h; have HL := Lib.hid hl; have HR := Lib.hid hr; have HOK := Lib.hid hok; have HM := Lib.hid hnm; have HNR := Lib.hid hnr
  clear h hl hr hok hnm hlm hnr
  go_enter Tryz.func19, Tryz.ntmps19
  go_upto_region 1 with fail
  have kb := Bk.new w 40 [.slice A1 n1 c1, .int .i64 fr, .slice A2 n2 c2, .slice B lm d]
  change Bk (w.alloc (.cells #[.slice A1 n1 c1, .int .i64 fr, .slice A2 n2 c2, .slice B lm d] 40)) _ _ _ at kb
  have hx1 : Ext w (w.alloc (.cells #[.slice A1 n1 c1, .int .i64 fr, .slice A2 n2 c2, .slice B lm d] 40)) := (Ext.refl w).alloc _
  generalize (w.alloc (.cells #[.slice A1 n1 c1, .int .i64 fr, .slice A2 n2 c2, .slice B lm d] 40)) = w1 at *
  have HKB := Lib.hid kb; have HX1 := Lib.hid hx1
  clear kb hx1
  go_wp2_with fail
  go_loopw [7] (fun t wr => ∃ i : Nat, i ≤ lm ∧ t = .int .i64 (i : Int) ∧ Hid ((srcs.take i).all (fun s => hasR (loadL M s) (projA a s.vars)) = true) ∧ Ext w1 wr) (fun t _ => lm - (intOf t).toNat)
  case atStart => exact ⟨0, Nat.zero_le _, rfl, Lib.hid rfl, Ext.refl _⟩
  case round =>
    obtain ⟨i, hi, rfl, HALL, hx⟩ := hrel
    obtain ⟨W, rfl⟩ : ∃ W : World, W = wr := ⟨_, rfl⟩
    have HX := Lib.hid hx; have HXW := Lib.hid (HX1.out.trans hx)
    by_cases hlt : i < lm
    · have i1 : (0 : Int) ≤ (i : Int) := by omega
      have i2 : (i : Int) < (lm : Int) := by omega
      have his : i < srcs.length := by have := HM.out; omega
      obtain ⟨ads, P1, x1, P2, x2, P3, x3, P4, x4, P5, x5, rfl, -, -, s1, -, -, -, -, g1, -⟩ := HS.out.src his
      obtain ⟨adl, Bs, ds, rfl, r0, r1, hrw⟩ := HL.out.re (i := i) (by rw [List.length_map]; exact his)
      rw [List.getElem_map] at r0 r1 hrw
      have hok := HOK.out _ (List.getElem_mem his)
      have hat := all_take his HALL.out
      have hno : (srcs.take (i + 1)).all (fun s => hasR (loadL M s) (projA a s.vars)) = false → inB M srcs a = false := fun h => by
        rw [← Bool.not_eq_true] at h ⊢
        intro h2
        refine h (List.all_eq_true.2 (fun s hs => List.all_eq_true.1 h2 s (List.mem_of_mem_take hs)))
      obtain ⟨s, hs⟩ : ∃ s, s = srcs[i] := ⟨_, rfl⟩
      rw [← hs] at s1 g1 r0 r1 hrw hok hat
      have HVAR := Lib.hid hok.var; have HLEN := hok.len
      obtain ⟨pr, hpr⟩ : ∃ r, r = projA a s.vars := ⟨_, rfl⟩
      rw [← hpr] at hat
      have hpl : pr.length = s.vars.length := by rw [hpr]; simp [projA]
      have HSE := Lib.hid (fun (X : World) (hX : Ext w X) (H9 : Nat → Prop) (A9 : Option Addr) (n9 c9 : Nat) (h9 : Sl rdVl H9 X (.slice A9 n9 c9) pr) => relsearch_any (a := (loadR M s).ar) (setR_so _) (hrw.ext hX) h9 (by rw [h9.cap.1, hpl]; exact HLEN) hok.row (by have := hok.bd; exact this))
      obtain ⟨q, hq⟩ : ∃ q, q = hasR (loadL M s) pr := ⟨_, rfl⟩
      have HSE2 : Hid (∀ (X : World), Ext w X → ∀ (H9 : Nat → Prop) (A9 : Option Addr) (n9 c9 : Nat), Sl rdVl H9 X (.slice A9 n9 c9) pr → Calls Tryz.prog 24 #[.agg #[.int .i64 (loadR M s).ar, .slice Bs (loadR M s).rows.length ds], .slice A9 n9 c9] X (fun e w' => ∃ z : Int, e = .returned (.tuple #[.int .i64 z, .bool q]) ∧ Ext X w')) := Lib.hid (fun X hX H9 A9 n9 c9 h9 => (HSE.out X hX H9 A9 n9 c9 h9).mono (fun e w' h => ⟨(lowR (loadL M s) pr : Int), h.2.trans (by rw [hq]; rfl), h.1⟩))
      have HQ : Hid ((srcs.take (i + 1)).all (fun s => hasR (loadL M s) (projA a s.vars)) = q) := Lib.hid (by rw [hat, hq])
      obtain ⟨nv, hnv⟩ : ∃ n, n = s.vars.length := ⟨_, rfl⟩
      obtain ⟨nl, hnl⟩ : ∃ n, n = (loadR M s).rows.length := ⟨_, rfl⟩
      obtain ⟨ar, har⟩ : ∃ n, n = (loadR M s).ar := ⟨_, rfl⟩
      rw [← hnl] at r1 HSE2
      rw [← har] at r0 HSE2
      rw [← hnv] at s1 g1 HLEN hpl
      have HPR := Lib.hid hpr; have HPL := Lib.hid hpl; have HNV := Lib.hid hnv; have HG1 := Lib.hid g1; have HNO := Lib.hid hno
      have HS1 := Lib.hid (HX1.out.cell s1); have HR0 := Lib.hid (HXW.out.cell r0); have HR1 := Lib.hid (HXW.out.cell r1)
      clear hs hat hno hpr hpl hq hnv hnl har HSE hrw hok g1 s1 r0 r1 hx
      go_upto_region 5 with fail
      have hro := World.ownsRow_made (base := W.heap.size) (e := 83) (size := 3) W #[] 0 (Nat.le_refl _) (Nat.zero_le _) rfl
      have hx6 : Ext W (W.alloc (.cells #[] 83)) := (Ext.refl W).alloc _
      generalize (W.alloc (.cells #[] 83)) = w6 at *
      have HRO := Lib.hid hro; have HX6 := Lib.hid hx6
      clear hro hx6
      go_wp2_with fail
      go_loopw [8, 9] (fun u t wr => ∃ j : Nat, j ≤ nv ∧ t = .int .i64 (j : Int) ∧ wr.ownsRow W.heap.size 83 3 u j (vcells (pr.take j)) ∧ Ext W wr) (fun _ t _ => nv - (intOf t).toNat)
      case atStart => exact ⟨0, Nat.zero_le _, rfl, HRO.out, HX6.out⟩
      case round =>
        obtain ⟨j, hj, rfl, how, hx7⟩ := hrel
        obtain ⟨Au, cu, rfl⟩ := own_slice how
        obtain ⟨W6, rfl⟩ : ∃ W : World, W = wr := ⟨_, rfl⟩
        have hxw6 := HX.out.trans hx7
        have HOW := Lib.hid how; have HXE := Lib.hid hx7; have HXW6 := Lib.hid hxw6
        have z3 := (HKB.out.ext hxw6).cell (i := 3) (by simp)
        simp only [List.getElem_cons_zero, List.getElem_cons_succ] at z3
        have s1 := hxw6.cell HS1.out
        have hsz6 : W.heap.size ≤ W6.heap.size := hx7.size
        by_cases hjl : j < nv
        · have j1 : (0 : Int) ≤ (j : Int) := by omega
          have j2 : (j : Int) < (nv : Int) := by omega
          have hjv : j < s.vars.length := by have := HNV.out; omega
          obtain ⟨A9, c9, e9, -, hcl⟩ := HG1.out
          injection e9 with e9 e9b e9c
          subst e9
          clear e9b e9c
          obtain ⟨av, rfl, -, v0⟩ := hcl.int hjv
          have hrg := HVAR.out _ (List.getElem_mem hjv)
          have htk : pr.take (j + 1) = pr.take j ++ [a.getD s.vars[j].toNat zv] := by
            rw [List.take_succ_eq_append_getElem (by have := HPL.out; omega)]
            congr 2
            have := HPR.out
            subst this
            unfold projA
            rw [List.getElem_map]
          obtain ⟨sv, hsv⟩ : ∃ z, z = s.vars[j] := ⟨_, rfl⟩
          rw [← hsv] at v0 hrg htk
          obtain ⟨cn, adr, rfl, hcn, rfl, f0, f1, f2⟩ := HR.out.vlI hrg.1 (by omega)
          obtain ⟨y, hy⟩ : ∃ y, y = a.getD (cn : Int).toNat zv := ⟨_, rfl⟩
          rw [← hy] at f0 f1 f2 htk
          obtain ⟨yk, yi, yst⟩ := y
          simp only at f0 f1 f2
          have HTK4 : Hid (vcells (pr.take (j + 1)) = vcells (pr.take j) ++ [.int .i64 yk, .int .i64 yi, .string yst]) := Lib.hid (by rw [htk, vcells_app1])
          have hex := HX1.out.trans hxw6
          replace v0 := hex.cell v0; replace f0 := hex.cell f0; replace f1 := hex.cell f1; replace f2 := hex.cell f2
          have hc1 : (0 : Int) ≤ (cn : Int) := by omega
          have hc2 : (cn : Int) < (nr : Int) := by have := HNR.out; omega
          have HOWB : Hid (∀ b, (Value.slice Au j cu).ownBlock = some b → W.heap.size ≤ b) := Lib.hid (fun b hb => own_ge HOW.out hb)
          clear hcl hrg htk hsv hy hex hx7 hxw6 how hcn
          go_wp2_with (first
            | (at_builtin; refine wpList_append_at rfl _ _ 81 rfl W.heap.size 83 i0 (.agg #[.int .i64 0, .int .i64 0, .string ⟨#[]⟩]) 3 32 Tryz.underlying81 HV0.out.1 HV0.out.2.1 HV0.out.2.2.1 HV0.out.2.2.2 rfl (by omega) (.slice Au j cu) j (vcells (pr.take j)) rfl (HOW.out.alloc _) ⟨W6.heap.size, 0, none⟩ 1 1 [.int .i64 yk, .int .i64 yi, .string yst] rfl rfl (laid_news W6 _ _) (by simp [Value.oneCell']) (by simp only [maxLen]; omega) (by omega) (by simp; omega) ?_; intro v8 w8 hr8 hg8 hl8; obtain ⟨A8, c8, e8⟩ := own_slice hr8; subst e8; have HR8 := Lib.hid hr8; have HX8 := Lib.hid ((HXE.out.trans ((Ext.refl W6).alloc (.cells #[.int .i64 yk, .int .i64 yi, .string yst] 83))).grown hg8 (fun b hb => HOWB.out b hb)); clear hr8 hg8 hl8))
          go_roundw
          case rel => exact ⟨j + 1, by omega, by go_num, by rw [HTK4.out]; exact HR8.out, HX8.out⟩
          case measure => simp [intOf]; omega
        · obtain rfl : j = nv := by omega
          have hdj : ¬ (j : Int) < (j : Int) := by omega
          have et : pr.take j = pr := List.take_of_length_le (by have := HPL.out; omega)
          rw [et] at how
          have hU := (Rw.of_flat (cells := Vl.cells) (sz := 3) (hl := fun _ => rfl) how).sl (by decide)
          have HCL := Lib.hid (HSE2.out W6 (HX1.out.trans hxw6) _ _ _ _ hU)
          have r0 := HXE.out.cell HR0.out; have r1 := HXE.out.cell HR1.out
          clear et hU how hx7 hxw6
          go_wp2_with fail
          refine HCL.out.mono ?_
          rintro e w9 ⟨z, rfl, he9⟩
          have HX9 := Lib.hid (HXW6.out.trans he9)
          clear he9 z3 s1 r0 r1
          rcases q with _ | _
          · have HB := Lib.hid (HNO.out HQ.out)
            go_wp2_with fail
            go_ret
            exact Ret.mk (HX1.out.trans HX9.out) (by rw [HB.out]; rfl)
          · go_wp2_with fail
            go_roundw
            case rel => exact ⟨i + 1, by omega, by go_num, HQ, HX9.out⟩
            case measure => simp [intOf]; omega
    · obtain rfl : i = lm := by omega
      have hdi : ¬ (i : Int) < (i : Int) := by omega
      have HB : Hid (inB M srcs a = true) := Lib.hid (by
        have h := HALL.out
        rw [List.take_of_length_le (by have := HM.out; omega)] at h
        exact h)
      clear hx
      go_wp2_with fail
      go_ret
      exact Ret.mk HXW.out (by rw [HB.out]; rfl)
end Go.Proofs.YtmmmdinncmbjkaaGreat
