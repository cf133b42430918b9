/- Plain: the program's derived relation holds the reference's rows. Plain: the sources of a checked rule are in order. Contract: normalize.Rule, where it hands back an error. -/
import Derived.Test.YtmmmdinncmbjkaaGreatMf42
import Derived.Test.YtmmmdinncmbjkaaGreatMf37
import Derived.Test.YtmmmdinncmbjkaaGreatMf15
namespace Go.Proofs.YtmmmdinncmbjkaaGreat
open Go.RowKit Go.Maps
theorem dmL_key {ss : List Sc} {s : ByteArray} {e : En} (h : dmL ss s = some e) : ∃ x ∈ ss, x.name = s := by
  obtain ⟨-, -, y, hy, h2, -⟩ := dmL_rows h
  exact ⟨y, hy, h2⟩
theorem stepD_key {M : Dm} {u : Up} {s : ByteArray} (h : (stepD M u s).isSome = true) : (M s).isSome = true := by
  unfold stepD at h
  rcases hp : appD M u with er | p
  · rw [hp] at h
    exact h
  · rw [hp] at h
    simp only at h
    unfold appD at hp
    split at hp
    · split at hp
      · cases hp
      · rename_i e he
        split at hp
        · cases hp
        · rename_i q hq
          injection hp with hp
          subst hp
          simp only at h
          by_cases hq2 : q.2 = true
          · rw [if_pos hq2] at h
            unfold updD at h
            by_cases e2 : s = u.rel
            · rw [e2, he]
              rfl
            · rw [if_neg e2] at h
              exact h
          · rw [if_neg hq2] at h
            exact h
    · cases hp
theorem madeD_key {ss : List Sc} {us : List Up} {s : ByteArray} {e : En} (h : madeD ss us s = some e) : ∃ x ∈ ss, x.name = s := by
  have h1 : ∀ (us : List Up) (M : Dm), (us.foldl stepD M s).isSome = true → (M s).isSome = true := by
    intro us
    induction us with
    | nil => exact fun M h => h
    | cons u us ih =>
      intro M h
      rw [List.foldl_cons] at h
      exact stepD_key (ih _ h)
  have h2 := h1 us (dmL ss) (by unfold madeD at h; rw [h]; rfl)
  obtain ⟨e2, h3⟩ := Option.isSome_iff_exists.1 h2
  exact dmL_key h3
theorem mem_facts {M : Dm} {ss : List Sc} (hk : ∀ s e, M s = some e → ∃ x ∈ ss, x.name = s) {x : Fc} : x ∈ factsL M ss ↔ x.row ∈ rowsOf M x.rel := by
  unfold factsL factsOf
  rw [List.mem_flatMap]
  constructor
  · rintro ⟨s, hs, hx⟩
    obtain ⟨r, hr, rfl⟩ := List.mem_map.1 hx
    exact hr
  · intro h
    have h2 : ∃ e, M x.rel = some e := by
      unfold rowsOf at h
      split at h
      · rename_i e he
        exact ⟨e, he⟩
      · simp at h
    obtain ⟨e, he⟩ := h2
    obtain ⟨s, hs, hn⟩ := hk _ _ he
    exact ⟨s, hs, List.mem_map.2 ⟨x.row, by rw [hn]; exact h, by rw [hn]⟩⟩
theorem has_facts {M : Dm} {ss : List Sc} (hk : ∀ s e, M s = some e → ∃ x ∈ ss, x.name = s) {rl : ByteArray} {r : List Vl} : hasFc (factsL M ss) rl r = hasR (rowsOf M rl) r := by
  rw [Bool.eq_iff_iff, hasR_iff]
  unfold hasFc
  rw [List.any_eq_true]
  constructor
  · rintro ⟨x, hx, h⟩
    simp only [Bool.and_eq_true, decide_eq_true_eq] at h
    have h1 := (mem_facts hk).1 hx
    rw [h.1, h.2] at h1
    exact h1
  · intro h
    exact ⟨⟨rl, r⟩, (mem_facts hk).2 h, by simp⟩
theorem filR_mem {l : List Fl} : ∀ {rows : List (List Vl)} {x : List Vl}, x ∈ l.foldl filR rows ↔ x ∈ rows ∧ l.all (derF x) = true := by
  induction l with
  | nil => simp
  | cons f l ih =>
    intro rows x
    rw [List.foldl_cons, ih, List.all_cons, Bool.and_eq_true]
    unfold filR
    rw [List.mem_filter]
    exact ⟨fun h => ⟨h.1.1, h.1.2, h.2⟩, fun h => ⟨⟨h.1, h.2.1⟩, h.2.2⟩⟩
theorem cmp_zero (a b : Vl) : (cmpV a b == 0) = decide (a = b) := by
  rw [Bool.eq_iff_iff]
  simp [cmp_vl.eq a b]
theorem samR_mem {l : List Pi} : ∀ {rows : List (List Vl)} {x : List Vl}, x ∈ l.foldl samR rows ↔ x ∈ rows ∧ l.all (derS x) = true := by
  induction l with
  | nil => simp
  | cons f l ih =>
    intro rows x
    rw [List.foldl_cons, ih, List.all_cons, Bool.and_eq_true]
    unfold samR
    rw [List.mem_filter, cmp_zero]
    exact ⟨fun h => ⟨h.1.1, h.1.2, h.2⟩, fun h => ⟨⟨h.1, h.2.1⟩, h.2.2⟩⟩
theorem selR_mem {s : Src} {rows : List (List Vl)} {x : List Vl} : x ∈ selR s rows ↔ x ∈ rows ∧ s.fs.all (derF x) = true ∧ s.same.all (derS x) = true := by
  unfold selR
  rw [samR_mem, filR_mem]
  exact ⟨fun h => ⟨h.1.1, h.1.2, h.2⟩, fun h => ⟨⟨h.1, h.2.1⟩, h.2.2⟩⟩
theorem mem_addR {out : List (List Vl)} {r x : List Vl} : x ∈ addR out r ↔ x ∈ out ∨ x = r := by
  unfold addR
  split
  · rename_i h
    exact ⟨.inl, fun h2 => h2.elim id (fun e => e ▸ h)⟩
  · simp
theorem derive_mem {f : List Fc} {s : Src} {l : List Fc} {r : List Vl} : r ∈ deriveL f s l ↔ ∃ x ∈ l, derB f s x = true ∧ r = projR s.cols x.row := by
  have h : ∀ (l : List Fc) (out : List (List Vl)), r ∈ l.foldl (derOne f s) out ↔ r ∈ out ∨ ∃ x ∈ l, derB f s x = true ∧ r = projR s.cols x.row := by
    intro l
    induction l with
    | nil => simp
    | cons a l ih =>
      intro out
      rw [List.foldl_cons, ih]
      unfold derOne
      by_cases h : derB f s a = true
      · rw [if_pos h, mem_addR]
        constructor
        · rintro ((h1 | h1) | ⟨x, h1, h2⟩)
          · exact .inl h1
          · exact .inr ⟨a, by simp, h, h1⟩
          · exact .inr ⟨x, List.mem_cons_of_mem _ h1, h2⟩
        · rintro (h1 | ⟨x, h1, h2, h3⟩)
          · exact .inl (.inl h1)
          · rcases List.mem_cons.1 h1 with e | e
            · exact .inl (.inr (by rw [h3, e]))
            · exact .inr ⟨x, e, h2, h3⟩
      · rw [if_neg h]
        constructor
        · rintro (h1 | ⟨x, h1, h2⟩)
          · exact .inl h1
          · exact .inr ⟨x, List.mem_cons_of_mem _ h1, h2⟩
        · rintro (h1 | ⟨x, h1, h2, h3⟩)
          · exact .inl h1
          · rcases List.mem_cons.1 h1 with e | e
            · rw [e] at h2
              exact absurd h2 h
            · exact .inr ⟨x, e, h2, h3⟩
  have h2 := h l []
  simp only [List.not_mem_nil, false_or] at h2
  exact h2
theorem derive_nodup {f : List Fc} {s : Src} {l : List Fc} : (deriveL f s l).Nodup := by
  have h : ∀ (l : List Fc) (out : List (List Vl)), out.Nodup → (l.foldl (derOne f s) out).Nodup := by
    intro l
    induction l with
    | nil => exact fun out h => h
    | cons a l ih =>
      intro out h
      rw [List.foldl_cons]
      refine ih _ ?_
      unfold derOne
      split
      · unfold addR
        split
        · exact h
        · rename_i hn
          rw [List.nodup_append]
          exact ⟨h, by simp, fun x hx y hy e => hn (by rw [List.mem_singleton.1 hy] at e; rw [← e]; exact hx)⟩
      · exact h
  exact h l [] List.nodup_nil
/-- A variable's value, picked out of the columns. -/
theorem pick_const {ps : List (Int × Int)} {x : List Vl} {v : Int} {c : Vl} (h : ∀ p ∈ ps, p.1 ≠ v) : pickV ps x v c = c := by
  unfold pickV
  induction ps with
  | nil => rfl
  | cons p ps ih =>
    rw [List.foldl_cons, if_neg (h p (by simp))]
    exact ih (fun q hq => h q (List.mem_cons_of_mem _ hq))
theorem pick_at {vars cols : List Int} {x : List Vl} {v : Int} {c : Vl} (hn : vars.Nodup) (hl : vars.length = cols.length) {p : Nat} (hp : p < vars.length) (hv : vars[p] = v) : pickV (vars.zip cols) x v c = x.getD (cols[p]'(by omega)).toNat zv := by
  induction vars generalizing cols p c with
  | nil => simp at hp
  | cons a vars ih =>
    rcases cols with _ | ⟨b, cols⟩
    · simp at hl
    · rw [List.nodup_cons] at hn
      simp only [List.length_cons, Nat.add_right_cancel_iff] at hl
      rw [List.zip_cons_cons]
      unfold pickV
      rw [List.foldl_cons]
      rcases p with _ | p
      · simp only [List.getElem_cons_zero] at hv ⊢
        rw [if_pos hv]
        refine pick_const (fun q hq e => hn.1 ?_)
        have h1 := (List.of_mem_zip hq).1
        rw [hv, ← e]
        exact h1
      · simp only [List.getElem_cons_succ] at hv ⊢
        have hne : ¬ a = v := fun e => hn.1 (by rw [e, ← hv]; exact List.getElem_mem _)
        rw [if_neg hne]
        exact ih hn.2 hl (by simpa using hp) hv
theorem col_at {vars : List Int} {v : Int} (hn : vars.Nodup) (hneg : v ≠ -1) {p : Nat} (hp : p < vars.length) (hv : vars[p] = v) : colX vars v = (p : Int) := by
  unfold colX
  rw [if_neg hneg]
  refine idxI_at hp hv (fun j hj hlt e => ?_)
  have h := (List.getElem_inj (h₀ := hj) (h₁ := hp) hn).1 (by rw [e, hv])
  omega
theorem img_one {s : Src} {x : List Vl} (hn : s.vars.Nodup) (hl : s.vars.length = s.cols.length) (hneg : (-1 : Int) ∉ s.vars) {v : Int} {c : Vl} (hv : v = -1 ∨ v ∈ s.vars) : (if 0 ≤ colX s.vars v then (projR s.cols x).getD (colX s.vars v).toNat zv else c) = pickV (s.vars.zip s.cols) x v c := by
  rcases hv with rfl | hv
  · rw [show colX s.vars (-1) = -1 from if_pos rfl, if_neg (by omega)]
    exact (pick_const (v := -1) (fun p hp e => hneg (by have h1 := (List.of_mem_zip hp).1; rw [e] at h1; exact h1))).symm
  · have hne : v ≠ -1 := fun e => hneg (e ▸ hv)
    obtain ⟨p, hp, e⟩ := List.getElem_of_mem hv
    have hpc : p < s.cols.length := by omega
    rw [col_at hn hne hp e, if_pos (by omega), pick_at hn hl hp e, Int.toNat_natCast, List.getD_eq_getElem?_getD]
    unfold projR
    rw [List.getElem?_map, List.getElem?_eq_getElem hpc]
    rfl
theorem img_not {s : Src} {x : List Vl} {y : Nt} (hn : s.vars.Nodup) (hl : s.vars.length = s.cols.length) (hneg : (-1 : Int) ∉ s.vars) (hy : ∀ v ∈ y.vars, v = -1 ∨ v ∈ s.vars) : imgR (y.vars.map (colX s.vars)) y.cs (projR s.cols x) = notRow s x y := by
  unfold imgR notRow
  have h : ∀ (vs : List Int) (cs : List Vl), (∀ v ∈ vs, v = -1 ∨ v ∈ s.vars) → List.zipWith (fun c v => if 0 ≤ c then (projR s.cols x).getD c.toNat zv else v) (vs.map (colX s.vars)) cs = (vs.zip cs).map (fun p => pickV (s.vars.zip s.cols) x p.1 p.2) := by
    intro vs
    induction vs with
    | nil => simp
    | cons v vs ih =>
      intro cs hv
      rcases cs with _ | ⟨c, cs⟩
      · simp
      · rw [List.map_cons, List.zipWith_cons_cons, List.zip_cons_cons, List.map_cons, ih cs (fun u hu => hv u (List.mem_cons_of_mem _ hu)), img_one hn hl hneg (hv v (by simp))]
  exact h _ _ hy
/-- A source whose variables are distinct, and known to its negated atoms. -/
structure SrcOk (s : Src) : Prop where
  nd : s.vars.Nodup
  len : s.vars.length = s.cols.length
  neg : (-1 : Int) ∉ s.vars
  nots : ∀ y ∈ s.nots, ∀ v ∈ y.vars, v = -1 ∨ v ∈ s.vars
theorem exB_facts {M : Dm} {ss : List Sc} {s : Src} (hk : ∀ s e, M s = some e → ∃ x ∈ ss, x.name = s) (hs : SrcOk s) {x : List Vl} {y : Nt} (hy : y ∈ s.nots) : exB (projR s.cols x) (exOf M s y) = hasFc (factsL M ss) y.rel (notRow s x y) := by
  rw [has_facts hk]
  unfold exB exOf rowsOf
  rcases h : M y.rel with _ | z
  · rfl
  · simp only
    rw [img_not hs.nd hs.len hs.neg (hs.nots y hy)]
theorem any_facts {M : Dm} {ss : List Sc} {s : Src} (hk : ∀ s e, M s = some e → ∃ x ∈ ss, x.name = s) (hs : SrcOk s) {x : List Vl} : ((exsL M s).any (exB (projR s.cols x)) = false) ↔ s.nots.all (derN (factsL M ss) s x) = true := by
  unfold exsL
  rw [List.any_eq_false, List.all_eq_true]
  constructor
  · intro h y hy
    have h1 := h _ (List.mem_map.2 ⟨y, hy, rfl⟩)
    rw [exB_facts hk hs hy] at h1
    unfold derN
    simpa using h1
  · intro h e he
    obtain ⟨y, hy, rfl⟩ := List.mem_map.1 he
    have h1 := h y hy
    unfold derN at h1
    rw [exB_facts hk hs hy]
    simpa using h1
/-- **The program's derived relation holds just the reference's rows.** -/
theorem load_mem {M : Dm} {ss : List Sc} {s : Src} (hk : ∀ s e, M s = some e → ∃ x ∈ ss, x.name = s) (hs : SrcOk s) {r : List Vl} : r ∈ loadL M s ↔ r ∈ deriveL (factsL M ss) s (factsL M ss) := by
  rw [derive_mem]
  unfold loadL
  rw [setR_mem, List.mem_filter]
  constructor
  · rintro ⟨h1, h2⟩
    obtain ⟨x, hx, rfl⟩ := List.mem_map.1 h1
    obtain ⟨h3, h4, h5⟩ := selR_mem.1 hx
    refine ⟨⟨s.rel, x⟩, (mem_facts hk).2 h3, ?_, rfl⟩
    unfold derB
    rw [h4, h5, (any_facts hk hs).1 (by simpa using h2)]
    simp
  · rintro ⟨⟨rl, x⟩, hx, hd, rfl⟩
    unfold derB at hd
    simp only [Bool.and_eq_true, decide_eq_true_eq] at hd
    obtain ⟨⟨⟨rfl, h4⟩, h5⟩, h6⟩ := hd
    exact ⟨List.mem_map.2 ⟨x, selR_mem.2 ⟨(mem_facts hk).1 hx, h4, h5⟩, rfl⟩, by simpa using (any_facts hk hs).2 h6⟩
theorem so_mem_len {l m : List (List Vl)} (hl : l.Nodup) (hm : m.Nodup) (h : ∀ r, r ∈ l ↔ r ∈ m) : l.length = m.length := by
  have h1 := nodup_le hl (fun r hr => (h r).1 hr)
  have h2 := nodup_le hm (fun r hr => (h r).2 hr)
  omega
theorem load_len {M : Dm} {ss : List Sc} {s : Src} (hk : ∀ s e, M s = some e → ∃ x ∈ ss, x.name = s) (hs : SrcOk s) : (deriveL (factsL M ss) s (factsL M ss)).length = (loadL M s).length :=
  so_mem_len derive_nodup (so_nodup (setR_so _)) (fun _ => (load_mem hk hs).symm)
end Go.Proofs.YtmmmdinncmbjkaaGreat
namespace Go.Proofs.YtmmmdinncmbjkaaGreat
open Go.RowKit Go.Maps
theorem guard_cov {xs : List At} {a : At} {g : Nat} (h : guardI xs a = some g) : ∃ hg : g < xs.length, xs[g].neg = false ∧ ∀ t ∈ a.terms, t.var = ⟨#[]⟩ ∨ ∃ u ∈ xs[g].terms, u.var = t.var := by
  unfold guardI at h
  obtain ⟨hg, h1, -⟩ := List.findIdx?_eq_some_iff_getElem.1 h
  simp only [Bool.and_eq_true, Bool.not_eq_true'] at h1
  refine ⟨hg, h1.1, fun t ht => ?_⟩
  have h2 := h1.2
  unfold covB at h2
  have h3 := List.all_eq_true.1 h2 t ht
  simp only [Bool.or_eq_true, decide_eq_true_eq, List.any_eq_true] at h3
  exact h3
theorem idx_lt {ts : List Tm} {u : Tm} (hu : u ∈ ts) : idxT ts u.var < ts.length := by
  unfold idxT
  exact List.findIdx_lt_length_of_exists ⟨u, hu, by simp⟩
theorem src_ok {names : List ByteArray} {r : Rl} {i : Nat} {a : At} (hi : r.ats[i]? = some a) (hc : ∀ b ∈ r.ats, ∀ t ∈ b.terms, t.var ≠ ⟨#[]⟩ → t.var ∈ names) : SrcOk (refS names r i a) := by
  have hasc := upL_asc (f := vrR names a.terms) (fun k x h => by obtain ⟨-, -, h3⟩ := vrR_some.1 h; exact h3) names.length
  refine ⟨hasc.imp (fun h => by omega), ?_, fun h => ?_, fun y hy v hv => ?_⟩
  · show (upL (vrR names a.terms) names.length).length = (upL (clR names a.terms) names.length).length
    rw [← cols_ref, List.length_map]
  · obtain ⟨k, -, h2⟩ := mem_upL.1 h
    obtain ⟨-, -, h3⟩ := vrR_some.1 h2
    omega
  · have hy2 : y ∈ notsL names r.ats i := hy
    unfold notsL at hy2
    obtain ⟨b, hb, rfl⟩ := List.mem_map.1 hy2
    obtain ⟨hb1, hb2⟩ := List.mem_filter.1 hb
    unfold isNt at hb2
    simp only [Bool.and_eq_true, decide_eq_true_eq] at hb2
    obtain ⟨hg, -, hcov⟩ := guard_cov hb2.2
    have hga : r.ats[i] = a := by
      rw [List.getElem?_eq_getElem hg] at hi
      injection hi
    rw [hga] at hcov
    have hv2 : v ∈ b.terms.map (numI names) := hv
    obtain ⟨t, ht, rfl⟩ := List.mem_map.1 hv2
    unfold numI
    by_cases e : t.var = ⟨#[]⟩
    · exact .inl (if_pos e)
    · have hm := hc b hb1 t ht e
      rw [if_neg e, if_pos hm]
      refine .inr (mem_upL.2 ⟨posN names t.var, pos_lt hm, vrR_some.2 ⟨pos_lt hm, ?_, rfl⟩⟩)
      rw [pos_at hm]
      obtain ⟨u, hu, hu2⟩ := (hcov t ht).resolve_left e
      rw [← hu2]
      exact idx_lt hu
end Go.Proofs.YtmmmdinncmbjkaaGreat
namespace Go.Proofs.YtmmmdinncmbjkaaGreat
open Go.RowKit Go.Maps
set_option maxRecDepth 20000 in
set_option maxHeartbeats 1600000 in
theorem rule_no {F G : Nat → Prop} {w : World} {A B O S : Option Addr} {ca cb co nS cs : Nat} {ri : Int} {q : Qy} {ss : List Sc} (h : QyR F w A ca B cb O co q) (hS : Sl rdSc G w (.slice S nS cs) ss) (hz : QyZ q) (hlo : q.od.length ≤ 1048576) (hls : ss.length ≤ maxLen) (hc : checkE ss q ≠ 0) :
    Calls Tryz.prog 14 #[.agg #[.slice A q.hd.length ca, .int .i64 q.ag, .string q.av, .slice B q.rs.length cb, .slice O q.od.length co], .int .i64 ri, .slice S nS cs] w (RuleNo (checkE ss q) w) := by
  have HCK := Lib.hid (fun (V : World) (hV : Ext w V) => check_any (h.ext hV) (hS.ext hV) hz hlo hls)
  obtain ⟨x, hx⟩ : ∃ x, x = checkE ss q := ⟨_, rfl⟩
  rw [← hx] at HCK hc ⊢
  obtain ⟨nh, hnh⟩ : ∃ n, n = q.hd.length := ⟨_, rfl⟩
  obtain ⟨nr, hnr⟩ : ∃ n, n = q.rs.length := ⟨_, rfl⟩
  obtain ⟨no, hno⟩ : ∃ n, n = q.od.length := ⟨_, rfl⟩
  obtain ⟨ag, hag⟩ : ∃ x, x = q.ag := ⟨_, rfl⟩
  obtain ⟨av, hav⟩ : ∃ x, x = q.av := ⟨_, rfl⟩
  rw [← hnh, ← hnr, ← hno, ← hag, ← hav] at HCK
  rw [← hnh, ← hnr, ← hno, ← hag, ← hav]
  have hne : (x != 0) = true := by rw [bne_iff_ne]; exact hc
  clear h hS hz hlo hls hc hx hnh hnr hno hag hav
  go_enter Tryz.func14, Tryz.ntmps14
  go_upto_region 1 with fail
  have kq := Bk.new w 61 [.slice A nh ca, .int .i64 ag, .string av, .slice B nr cb, .slice O no co]
  change Bk (w.alloc (.cells #[.slice A nh ca, .int .i64 ag, .string av, .slice B nr cb, .slice O no co] 61)) _ _ _ at kq
  have hx1 : Ext w (w.alloc (.cells #[.slice A nh ca, .int .i64 ag, .string av, .slice B nr cb, .slice O no co] 61)) := (Ext.refl w).alloc _
  have hs1 : (w.alloc (.cells #[.slice A nh ca, .int .i64 ag, .string av, .slice B nr cb, .slice O no co] 61)).heap.size = w.heap.size + 1 := by simp
  generalize (w.alloc (.cells #[.slice A nh ca, .int .i64 ag, .string av, .slice B nr cb, .slice O no co] 61)) = w1 at *
  have kr := Bk.new w1 40 [.slice none 0 0, .int .i64 0, .slice none 0 0, .slice none 0 0]
  change Bk (w1.alloc (.cells #[.slice none 0 0, .int .i64 0, .slice none 0 0, .slice none 0 0] 40)) _ _ _ at kr
  have hx2 : Ext w1 (w1.alloc (.cells #[.slice none 0 0, .int .i64 0, .slice none 0 0, .slice none 0 0] 40)) := (Ext.refl w1).alloc _
  have hs2 : (w1.alloc (.cells #[.slice none 0 0, .int .i64 0, .slice none 0 0, .slice none 0 0] 40)).heap.size = w1.heap.size + 1 := by simp
  generalize (w1.alloc (.cells #[.slice none 0 0, .int .i64 0, .slice none 0 0, .slice none 0 0] 40)) = w2 at *
  rw [hs1] at kr hs2
  have HKQ := Lib.hid (kq.ext hx2); have HKR := Lib.hid kr; have HX2 := Lib.hid (hx1.trans hx2)
  clear kq kr hx1 hx2 hs1
  have q0 := HKQ.out.cell (i := 0) (by simp); have q1 := HKQ.out.cell (i := 1) (by simp); have q2 := HKQ.out.cell (i := 2) (by simp); have q3 := HKQ.out.cell (i := 3) (by simp); have q4 := HKQ.out.cell (i := 4) (by simp)
  simp only [List.getElem_cons_zero, List.getElem_cons_succ] at q0 q1 q2 q3 q4
  go_wp2_with fail
  refine (HCK.out _ HX2.out).mono ?_
  rintro e w3 ⟨he, A1, n1, c1, B1, m1, d1, rfl⟩
  have hs3 : w2.heap.size ≤ w3.heap.size := he.size
  have hlt3 : w.heap.size < w3.heap.size := by omega
  have hlt4 : w.heap.size + 1 < w3.heap.size := by omega
  have hx3 : Ext w3 (w3.alloc (.cells #[.slice A1 n1 c1, .slice B1 m1 d1] 120)) := (Ext.refl w3).alloc _
  replace HX2 := Lib.hid ((HX2.out.trans he).trans hx3)
  replace HKR := Lib.hid ((HKR.out.ext he).ext hx3)
  replace q3 := he.cell q3
  clear he hs2 hs3 q0 q1 q2 q4
  obtain ⟨w4, hw4⟩ : ∃ u, u = w3.alloc (.cells #[.slice A1 n1 c1, .slice B1 m1 d1] 120) := ⟨_, rfl⟩
  rw [← hw4] at HX2 HKR hx3
  have r0 := HKR.out.cell (i := 0) (by simp); have r1 := HKR.out.cell (i := 1) (by simp); have r2 := HKR.out.cell (i := 2) (by simp); have r3 := HKR.out.cell (i := 3) (by simp)
  have fz0 := HKR.out.free 0; have fz1 := HKR.out.free 1; have fz2 := HKR.out.free 2; have fz3 := HKR.out.free 3
  simp only [List.getElem_cons_zero, List.getElem_cons_succ] at r0 r1 r2 r3
  go_upto_region 3 with fail
  rw [← hw4]
  clear hw4 hx3 hlt3 hlt4 q3
  go_wp2_with fail
  have kz : Bk ((((w4.setCell ⟨w.heap.size + 1, 0, none⟩ (.slice none 0 0)).setCell ⟨w.heap.size + 1, 1, none⟩ (.int .i64 0)).setCell ⟨w.heap.size + 1, 2, none⟩ (.slice none 0 0)).setCell ⟨w.heap.size + 1, 3, none⟩ (.slice none 0 0)) (w.heap.size + 1) 40 [.slice none 0 0, .int .i64 0, .slice none 0 0, .slice none 0 0] := ((((HKR.out.set 0 _).set 1 _).set 2 _).set 3 _)
  have hez : Ext w ((((w4.setCell ⟨w.heap.size + 1, 0, none⟩ (.slice none 0 0)).setCell ⟨w.heap.size + 1, 1, none⟩ (.int .i64 0)).setCell ⟨w.heap.size + 1, 2, none⟩ (.slice none 0 0)).setCell ⟨w.heap.size + 1, 3, none⟩ (.slice none 0 0)) := ((((HX2.out.setCell (p := ⟨w.heap.size + 1, 0, none⟩) (Nat.le_succ _) _).setCell (p := ⟨w.heap.size + 1, 1, none⟩) (Nat.le_succ _) _).setCell (p := ⟨w.heap.size + 1, 2, none⟩) (Nat.le_succ _) _).setCell (p := ⟨w.heap.size + 1, 3, none⟩) (Nat.le_succ _) _)
  generalize ((((w4.setCell ⟨w.heap.size + 1, 0, none⟩ (.slice none 0 0)).setCell ⟨w.heap.size + 1, 1, none⟩ (.int .i64 0)).setCell ⟨w.heap.size + 1, 2, none⟩ (.slice none 0 0)).setCell ⟨w.heap.size + 1, 3, none⟩ (.slice none 0 0)) = wz at *
  have z0 := kz.cell (i := 0) (by simp); have z1 := kz.cell (i := 1) (by simp); have z2 := kz.cell (i := 2) (by simp); have z3 := kz.cell (i := 3) (by simp)
  simp only [List.getElem_cons_zero, List.getElem_cons_succ] at z0 z1 z2 z3
  exact bodyPost_ret (v := .tuple #[.agg #[.slice none 0 0, .int .i64 0, .slice none 0 0, .slice none 0 0], .int .i64 x]) (by simp [results, Tryz.results14, go_sem, z0, z1, z2, z3]) rfl ⟨rfl, hez⟩
end Go.Proofs.YtmmmdinncmbjkaaGreat
