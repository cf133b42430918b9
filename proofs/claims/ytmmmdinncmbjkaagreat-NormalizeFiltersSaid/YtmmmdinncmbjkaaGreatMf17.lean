/- Plain law: the program's variables and columns of a source are the reference's. Contract: normalize.Rule, where the query is right. -/
import Derived.Test.YtmmmdinncmbjkaaGreatMf16
import Derived.Test.YtmmmdinncmbjkaaGreatMf15
namespace Go.Proofs.YtmmmdinncmbjkaaGreat
open Go.RowKit Go.Maps
def vrR (names : List ByteArray) (ts : List Tm) (k : Nat) : Option Int := (names[k]?).bind (fun s => if idxT ts s < ts.length then some (k : Int) else none)
def clR (names : List ByteArray) (ts : List Tm) (k : Nat) : Option Int := (names[k]?).bind (fun s => if idxT ts s < ts.length then some (idxT ts s : Int) else none)
def refS (names : List ByteArray) (r : Rl) (i : Nat) (a : At) : Src :=
  ⟨a.rel, upL (vrR names a.terms) names.length, upL (clR names a.terms) names.length, upL (samAt a.terms) a.terms.length, upL (conAt a.terms) a.terms.length ++ upL (cndAt a.terms r.cds) r.cds.length, notsL names r.ats i⟩
theorem asc_ext : ∀ {l m : List Int}, l.Pairwise (· < ·) → m.Pairwise (· < ·) → (∀ x, x ∈ l ↔ x ∈ m) → l = m
  | [], [], _, _, _ => rfl
  | [], y :: m, _, _, h => absurd ((h y).2 (by simp)) (by simp)
  | x :: l, [], _, _, h => absurd ((h x).1 (by simp)) (by simp)
  | x :: l, y :: m, hl, hm, h => by
    rw [List.pairwise_cons] at hl hm
    have h1 : x = y := by
      rcases List.mem_cons.1 ((h x).1 (by simp)) with e | e
      · exact e
      · rcases List.mem_cons.1 ((h y).2 (by simp)) with e2 | e2
        · exact e2.symm
        · have := hl.1 y e2; have := hm.1 x e; omega
    subst h1
    rw [asc_ext hl.2 hm.2 (fun z => ?_)]
    constructor
    · intro hz
      rcases List.mem_cons.1 ((h z).1 (List.mem_cons_of_mem _ hz)) with e | e
      · have := hl.1 z hz; omega
      · exact e
    · intro hz
      rcases List.mem_cons.1 ((h z).2 (List.mem_cons_of_mem _ hz)) with e | e
      · have := hm.1 z hz; omega
      · exact e
theorem mem_upL {α : Type} {f : Nat → Option α} {n : Nat} {x : α} : x ∈ upL f n ↔ ∃ k, k < n ∧ f k = some x := by
  unfold upL
  rw [List.mem_filterMap]
  simp
theorem vrR_some {names : List ByteArray} {ts : List Tm} {k : Nat} {x : Int} : vrR names ts k = some x ↔ ∃ h : k < names.length, idxT ts names[k] < ts.length ∧ x = (k : Int) := by
  unfold vrR
  rcases Nat.lt_or_ge k names.length with h | h
  · rw [List.getElem?_eq_getElem h]
    simp only [Option.bind_some]
    by_cases h1 : idxT ts names[k] < ts.length
    · rw [if_pos h1]
      exact ⟨fun e => ⟨h, h1, by injection e with e; exact e.symm⟩, fun ⟨_, _, e⟩ => by rw [e]⟩
    · rw [if_neg h1]
      exact ⟨fun e => by simp at e, fun ⟨_, h2, _⟩ => absurd h2 h1⟩
  · rw [List.getElem?_eq_none h]
    exact ⟨fun e => by simp at e, fun ⟨h2, _⟩ => by omega⟩
theorem upL_asc {f : Nat → Option Int} (hf : ∀ k x, f k = some x → x = (k : Int)) : ∀ n, (upL f n).Pairwise (· < ·)
  | 0 => by simp [upL]
  | n + 1 => by
    rcases h : f n with _ | x
    · rw [upL_none h]; exact upL_asc hf n
    · rw [upL_some h, List.pairwise_append]
      refine ⟨upL_asc hf n, by simp, fun a ha b hb => ?_⟩
      obtain ⟨k, hk, e⟩ := mem_upL.1 ha
      rw [List.mem_singleton] at hb
      subst hb
      have h1 := hf k a e
      have h2 := hf n b h
      omega
theorem pos_inj {l : List ByteArray} {s t : ByteArray} (hs : s ∈ l) (ht : t ∈ l) (h : posN l s = posN l t) : s = t := by
  have h1 := pos_at hs
  have h2 := pos_at ht
  rw [← h1, ← h2]
  simp only [h]
theorem pos_get {l : List ByteArray} (hn : l.Nodup) {k : Nat} (hk : k < l.length) : posN l l[k] = k := by
  exact pos_char hk (fun j hj hl => List.pairwise_iff_getElem.1 hn j k hl hk hj) rfl
theorem vrsAt_some {names : List ByteArray} {ts : List Tm} {k : Nat} {x : Int} : vrsAt names ts k = some x ↔ ∃ h : k < ts.length, ts[k].var ≠ ⟨#[]⟩ ∧ ¬ idxT ts ts[k].var < k ∧ x = numI names ts[k] := by
  unfold vrsAt
  rcases Nat.lt_or_ge k ts.length with h | h
  · rw [List.getElem?_eq_getElem h]
    simp only [Option.bind_some]
    by_cases h1 : ts[k].var ≠ ⟨#[]⟩ ∧ ¬ idxT ts ts[k].var < k
    · rw [if_pos h1]
      exact ⟨fun e => ⟨h, h1.1, h1.2, by injection e with e; exact e.symm⟩, fun ⟨_, _, _, e⟩ => by rw [e]⟩
    · rw [if_neg h1]
      exact ⟨fun e => by simp at e, fun ⟨_, h2, h3, _⟩ => absurd ⟨h2, h3⟩ h1⟩
  · rw [List.getElem?_eq_none h]
    exact ⟨fun e => by simp at e, fun ⟨h2, _⟩ => by omega⟩
theorem vrs_nodup {names : List ByteArray} {ts : List Tm} (hc : ∀ t ∈ ts, t.var ≠ ⟨#[]⟩ → t.var ∈ names) : ∀ n, (upL (vrsAt names ts) n).Nodup
  | 0 => by simp [upL]
  | n + 1 => by
    rcases h : vrsAt names ts n with _ | x
    · rw [upL_none h]; exact vrs_nodup hc n
    · rw [upL_some h, List.nodup_append]
      refine ⟨vrs_nodup hc n, by simp, fun a ha b hb e => ?_⟩
      rw [List.mem_singleton] at hb
      subst hb
      subst e
      obtain ⟨k, hk, e2⟩ := mem_upL.1 ha
      obtain ⟨h1, h2, h3, h4⟩ := vrsAt_some.1 e2
      obtain ⟨g1, g2, g3, g4⟩ := vrsAt_some.1 h
      have m1 := hc _ (List.getElem_mem h1) h2
      have m2 := hc _ (List.getElem_mem g1) g2
      unfold numI at h4 g4
      rw [if_neg h2, if_pos m1] at h4
      rw [if_neg g2, if_pos m2] at g4
      have e3 := pos_inj m1 m2 (by omega)
      rw [← e3] at g3
      have := idxT_le h1
      omega
theorem vars_ref {names : List ByteArray} {ts : List Tm} (hd : names.Nodup) (hne : ∀ s ∈ names, s ≠ ⟨#[]⟩) (hc : ∀ t ∈ ts, t.var ≠ ⟨#[]⟩ → t.var ∈ names) : sortI (upL (vrsAt names ts) ts.length) = upL (vrR names ts) names.length := by
  have hp : (sortI (upL (vrsAt names ts) ts.length)).Perm (upL (vrsAt names ts) ts.length) := List.mergeSort_perm _ _
  refine asc_ext ?_ (upL_asc (fun k x h => (vrR_some.1 h).2.2) _) (fun x => ?_)
  · have h1 : (sortI (upL (vrsAt names ts) ts.length)).Pairwise (fun a b => decide (a ≤ b) = true) := List.pairwise_mergeSort (fun a b c h1 h2 => by simp at h1 h2 ⊢; omega) (fun a b => by simp; omega) _
    have h2 : (sortI (upL (vrsAt names ts) ts.length)).Pairwise (· ≠ ·) := hp.nodup_iff.2 (vrs_nodup hc _)
    exact (h1.and h2).imp (fun {a b} h => by have := h.1; simp at this; have := h.2; omega)
  · rw [sortI_mem, mem_upL, mem_upL]
    constructor
    · rintro ⟨k, hk, e⟩
      obtain ⟨h1, h2, h3, rfl⟩ := vrsAt_some.1 e
      have m := hc _ (List.getElem_mem h1) h2
      refine ⟨posN names ts[k].var, pos_lt m, vrR_some.2 ⟨pos_lt m, ?_, ?_⟩⟩
      · rw [pos_at m]; have := idxT_le h1; omega
      · unfold numI; rw [if_neg h2, if_pos m]
    · rintro ⟨k, hk, e⟩
      obtain ⟨h1, h2, rfl⟩ := vrR_some.1 e
      have e2 := idxT_at h2
      have m := List.getElem_mem h1
      refine ⟨idxT ts names[k], h2, vrsAt_some.2 ⟨h2, ?_, ?_, ?_⟩⟩
      · rw [e2]; exact hne _ m
      · rw [e2]; omega
      · unfold numI
        rw [e2, if_neg (hne _ m), if_pos m, pos_get hd h1]
theorem upL_map {α β : Type} {f : Nat → Option α} {g : α → β} (n : Nat) : (upL f n).map g = upL (fun k => (f k).map g) n := by
  unfold upL
  rw [List.map_filterMap]
theorem upL_congr {α : Type} {f g : Nat → Option α} : ∀ {n : Nat}, (∀ k, k < n → f k = g k) → upL f n = upL g n
  | 0, _ => rfl
  | n + 1, h => by
    have ih := upL_congr (n := n) (fun k hk => h k (by omega))
    rcases e : f n with _ | x
    · rw [upL_none e, upL_none ((h n (by omega)).symm.trans e), ih]
    · rw [upL_some e, upL_some ((h n (by omega)).symm.trans e), ih]
theorem cols_ref {names : List ByteArray} {ts : List Tm} : (upL (vrR names ts) names.length).map (colI names ts) = upL (clR names ts) names.length := by
  rw [upL_map]
  refine upL_congr (fun k hk => ?_)
  unfold vrR clR
  rw [List.getElem?_eq_getElem hk]
  simp only [Option.bind_some]
  by_cases h : idxT ts names[k] < ts.length
  · rw [if_pos h, if_pos h]
    simp only [Option.map_some]
    unfold colI
    rw [Int.toNat_natCast, List.getD_eq_getElem?_getD, List.getElem?_eq_getElem hk]
    rfl
  · rw [if_neg h, if_neg h]; rfl
theorem source_ref {names : List ByteArray} {r : Rl} {i : Nat} {a : At} (hd : names.Nodup) (hne : ∀ s ∈ names, s ≠ ⟨#[]⟩) (hc : ∀ t ∈ a.terms, t.var ≠ ⟨#[]⟩ → t.var ∈ names) : sourceL names r i a = refS names r i a := by
  unfold sourceL refS
  simp only
  rw [vars_ref hd hne hc, cols_ref]
theorem addN_nodup {l : List ByteArray} {s : ByteArray} (h : l.Nodup) : (addN l s).Nodup := by
  unfold addN
  by_cases hs : s ∈ l
  · rw [if_pos hs]; exact h
  · rw [if_neg hs, List.nodup_append]
    exact ⟨h, by simp, fun a ha b hb e => by rw [List.mem_singleton] at hb; subst hb; subst e; exact hs ha⟩
theorem addNs_nodup : ∀ (l : List ByteArray) {b : List ByteArray}, b.Nodup → (l.foldl addN b).Nodup
  | [], _, h => h
  | s :: l, _, h => addNs_nodup l (addN_nodup h)
def srcR (names : List ByteArray) (r : Rl) (i : Nat) : Option Src := (r.ats[i]?).bind (fun a => if a.neg = true then none else some (refS names r i a))
theorem srcs_ref {names : List ByteArray} {r : Rl} (hd : names.Nodup) (hne : ∀ s ∈ names, s ≠ ⟨#[]⟩) (hc : ∀ a ∈ r.ats, ∀ t ∈ a.terms, t.var ≠ ⟨#[]⟩ → t.var ∈ names) : upL (srcAt names r) r.ats.length = upL (srcR names r) r.ats.length := by
  refine upL_congr (fun k hk => ?_)
  unfold srcAt srcR
  rw [List.getElem?_eq_getElem hk]
  simp only [Option.bind_some]
  rw [source_ref hd hne (hc _ (List.getElem_mem hk))]
deriving instance DecidableEq for Vl
deriving instance DecidableEq for Nt
deriving instance DecidableEq for Fl
deriving instance DecidableEq for Pi
deriving instance DecidableEq for Src
deriving instance DecidableEq for Nm
def exS : List Sc := [⟨⟨#[114]⟩, [1, 1, 1, 1]⟩, ⟨⟨#[115]⟩, [1]⟩]
def exS0 : Src := ⟨⟨#[114]⟩, [0, 1], [0, 1], [⟨0, 2⟩], [⟨3, 0, 1, 3, ⟨#[]⟩⟩, ⟨1, 2, 1, 5, ⟨#[]⟩⟩], [⟨⟨#[115]⟩, [0], [⟨0, 0, ⟨#[]⟩⟩]⟩]⟩
def exS1 : Src := ⟨⟨#[115]⟩, [1], [0], [], [⟨0, 2, 1, 5, ⟨#[]⟩⟩], []⟩
theorem ex_check : checkE exS exQ = 0 := by decide +kernel
theorem ex_names : namesL exQ exR = [⟨#[121]⟩, ⟨#[120]⟩] := by decide +kernel
theorem ex_norm : normalL exQ exR = ⟨[⟨#[121]⟩, ⟨#[120]⟩], 2, [false, false], [exS0, exS1]⟩ := by
  unfold normalL
  rw [ex_names, srcs_ref (by decide +kernel) (by decide +kernel) (by decide +kernel)]
  decide +kernel
end Go.Proofs.YtmmmdinncmbjkaaGreat
namespace Go.Proofs.YtmmmdinncmbjkaaGreat
open Go.RowKit Go.Maps
theorem check_ast {ss : List Sc} {q : Qy} (h : checkE ss q = 0) : astE q = 0 := by
  unfold checkE at h
  by_cases h1 : astE q = 0
  · exact h1
  · rw [if_neg h1] at h; exact h
theorem orderL_len (hd : List ByteArray) (od : List Ky) : (orderL hd od).length ≤ od.length + hd.length := by
  unfold orderL
  rw [List.length_append, List.length_map]
  have := List.length_filter_le (fun v => !decide (v ∈ od.map Ky.var)) hd
  omega
theorem orderL_size {hd : List ByteArray} {od : List Ky} (hh : ∀ s ∈ hd, s.size ≤ maxLen) (ho : ∀ k ∈ od, k.var.size ≤ maxLen) : ∀ k ∈ orderL hd od, k.var.size ≤ maxLen := by
  intro k hk
  unfold orderL at hk
  rcases List.mem_append.1 hk with h | h
  · exact ho k h
  · obtain ⟨s, hs, rfl⟩ := List.mem_map.1 h
    exact hh s (List.mem_filter.1 hs).1
theorem varsC_term {r : Rl} {a : At} {t : Tm} (ha : a ∈ r.ats) (ht : t ∈ a.terms) (hv : t.var ≠ ⟨#[]⟩) : t.var ∈ varsC r := by
  have h1 : t.var ∈ varsT (allT r.ats) := varsT_iff.2 ⟨t, List.mem_flatMap.2 ⟨a, ha, ht⟩, rfl, hv⟩
  unfold varsC
  have : ∀ (l : List Cd) (b : List ByteArray), t.var ∈ b → t.var ∈ l.foldl (fun vs c => addV vs c.var) b := by
    intro l
    induction l with
    | nil => exact fun b h => h
    | cons c l ih =>
      intro b h
      rw [List.foldl_cons]
      refine ih _ ?_
      unfold addV
      split
      · exact h
      · exact List.mem_append_left _ h
  exact this _ _ h1
set_option maxRecDepth 20000 in
set_option maxHeartbeats 6400000 in
theorem rule_good {F G : Nat → Prop} {w : World} {A B O S : Option Addr} {ca cb co nS cs ri : Nat} {q : Qy} {ss : List Sc} (h : QyR F w A ca B cb O co q) (hS : Sl rdSc G w (.slice S nS cs) ss) (hz : QyZ q) (hlo : q.od.length ≤ 500000) (hls : ss.length ≤ maxLen) (hc : checkE ss q = 0) (hri : ri < q.rs.length) :
    Calls Tryz.prog 14 #[.agg #[.slice A q.hd.length ca, .int .i64 q.ag, .string q.av, .slice B q.rs.length cb, .slice O q.od.length co], .int .i64 (ri : Int), .slice S nS cs] w (RuleYes (normalL q q.rs[ri]) w) := by
  obtain ⟨-, -, -, hhd, -, hrl, -⟩ := ast_ok (check_ast hc)
  have hmem := List.getElem_mem hri
  obtain ⟨hit, hvl, hbnd⟩ := rule_ok (hrl _ hmem)
  obtain ⟨hrb, hall⟩ := items_bd hit (hz.rs _ hmem)
  obtain ⟨-, hal, hcl, hae, -⟩ := items_ok hit
  have hh6 := head_len hhd
  obtain ⟨adr, Ba, da, Bc, dc, rfl, -, ra, rc, hat, hcd⟩ := h.rs.rl hri
  have hcov : ∀ a ∈ q.rs[ri].ats, ∀ t ∈ a.terms, t.var ≠ ⟨#[]⟩ → t.var ∈ namesL q q.rs[ri] := fun a ha t ht hv => mem_addNs.2 (.inr (varsC_term ha ht hv))
  have hnsz : ∀ s ∈ namesL q q.rs[ri], s.size ≤ maxLen := fun s hs => by
    rcases mem_addNs.1 hs with h1 | h1
    · rcases mem_addNs.1 h1 with h2 | h2
      · cases h2
      · obtain ⟨k, hk, rfl⟩ := List.mem_map.1 h2
        exact orderL_size hz.hd hz.od k hk
    · exact rlB_vars (hz.rs _ hmem) s h1
  have hosz := orderL_size hz.hd hz.od
  have hol := orderL_len q.hd q.od
  have hvsz := rlB_vars (hz.rs _ hmem)
  have HCK := Lib.hid (fun (V : World) (hV : Ext w V) => check_any (h.ext hV) (hS.ext hV) hz (by omega) hls)
  rw [hc] at HCK
  have HORD := Lib.hid (fun (V : World) (hV : Ext w V) => order_any (nb := q.rs.length) (B := some adr) (cb := cb) (ag := q.ag) (av := q.av) (h.hd.ext hV) (h.od.ext hV) hz.hd hz.od (by omega) hlo)
  have HVARS := Lib.hid (fun (V : World) (hV : Ext w V) => vars_any (hat.ext hV) (hcd.ext hV) hrb)
  have hN : normalL q q.rs[ri] = ⟨namesL q q.rs[ri], (orderL q.hd q.od).length, (orderL q.hd q.od).map Ky.desc, upL (srcAt (namesL q q.rs[ri]) q.rs[ri]) q.rs[ri].ats.length⟩ := rfl
  have hNL : namesL q q.rs[ri] = (varsC q.rs[ri]).foldl addN (((orderL q.hd q.od).map Ky.var).foldl addN []) := rfl
  have hrz := hz.rs _ hmem
  have hla : ∀ a ∈ q.rs[ri].ats, a.terms.length ≤ 1048576 := fun a ha => by have := (atom_ok (hae a ha)).2.1; omega
  rw [hN]
  obtain ⟨names, hnames⟩ : ∃ l, l = namesL q q.rs[ri] := ⟨_, rfl⟩
  rw [← hnames] at hNL hcov hnsz ⊢
  obtain ⟨r, hr⟩ : ∃ r, r = q.rs[ri] := ⟨_, rfl⟩
  rw [← hr] at ra rc hat hcd hcov hNL HVARS hrz hla hal hcl hvl hvsz ⊢
  obtain ⟨od, hod⟩ : ∃ l, l = orderL q.hd q.od := ⟨_, rfl⟩
  rw [← hod] at HORD hNL hosz hol ⊢
  obtain ⟨nh, hnh⟩ : ∃ n, n = q.hd.length := ⟨_, rfl⟩
  obtain ⟨nr, hnr⟩ : ∃ n, n = q.rs.length := ⟨_, rfl⟩
  obtain ⟨no, hno⟩ : ∃ n, n = q.od.length := ⟨_, rfl⟩
  obtain ⟨na, hna⟩ : ∃ n, n = r.ats.length := ⟨_, rfl⟩
  obtain ⟨nc, hnc⟩ : ∃ n, n = r.cds.length := ⟨_, rfl⟩
  obtain ⟨nk, hnk⟩ : ∃ n, n = od.length := ⟨_, rfl⟩
  rw [← hnh, ← hnr, ← hno] at HCK HORD
  rw [← hnk] at HORD hol
  rw [← hna] at ra hal hat
  rw [← hnc] at rc hcl hcd
  rw [← hna, ← hnc] at HVARS
  have hsrc := fun (V : World) (hV : Ext w V) (g bm m nn : Nat) (An : Option Addr) (cn : Nat) (post : List Value) (i : Nat) (hbk : Bk V g 127 ([.slice Ba na da, .slice Bc nc dc] ++ .slice An nn cn :: .map (some bm) :: post)) (hM : MapV V bm m (nmF names)) (hNm : Strs (fun _ => True) V (.slice An nn cn) names) (hi : i < r.ats.length) => source_any hbk hM hNm (hat.ext hV) (hcd.ext hV) hrz hnsz hla (by omega) (by omega) hi (hcov _ (List.getElem_mem hi))
  rw [← hnr] at hri
  rw [← hnh, ← hno] at hol
  rw [← hnh] at hh6
  rw [← hno] at hlo
  rw [← hnh, ← hnr, ← hno, ← hnk, ← hna]
  have HSRC := Lib.hid hsrc; have HAT := Lib.hid hat.at2; have HNL := Lib.hid hNL; have HOSZ := Lib.hid hosz; have HVSZ := Lib.hid hvsz; have HNA := Lib.hid hna; have HNK := Lib.hid hnk
  have r1 : (0 : Int) ≤ (ri : Int) := by omega
  have r2 : (ri : Int) < (nr : Int) := by omega
  obtain ⟨i0, hi0, hz0, hz1, hz2⟩ := info_parts info_bl
  have HI0 := Lib.hid (And.intro hi0 (And.intro hz0 (And.intro hz1 hz2))); clear hi0 hz0 hz1 hz2
  obtain ⟨p0, hp0, hx0, hx1, hx2⟩ := info_parts info_src
  have HP0 := Lib.hid (And.intro hp0 (And.intro hx0 (And.intro hx1 hx2))); clear hp0 hx0 hx1 hx2
  have hmm := @run_makeMap Tryz.prog
  clear h hS hz hls hc hhd hrl hmem hit hbnd hrb hall hae hat hcd hcov hnsz hosz hvsz hN hNL hrz hla hnames hr hod hsrc hnh hnr hno hna hnc hnk
  obtain ⟨ag, hag⟩ : ∃ x, x = q.ag := ⟨_, rfl⟩
  obtain ⟨av, hav⟩ : ∃ x, x = q.av := ⟨_, rfl⟩
  rw [← hag, ← hav] at HCK HORD
  rw [← hag, ← hav]
  clear hag hav
  go_enter Tryz.func14, Tryz.ntmps14
  go_upto_region 1 with fail
  have kq := Bk.new w 61 [.slice A nh ca, .int .i64 ag, .string av, .slice (some adr) nr cb, .slice O no co]
  change Bk (w.alloc (.cells #[.slice A nh ca, .int .i64 ag, .string av, .slice (some adr) nr cb, .slice O no co] 61)) _ _ _ at kq
  have hx1 : Ext w (w.alloc (.cells #[.slice A nh ca, .int .i64 ag, .string av, .slice (some adr) nr cb, .slice O no co] 61)) := (Ext.refl w).alloc _
  have hs1 : (w.alloc (.cells #[.slice A nh ca, .int .i64 ag, .string av, .slice (some adr) nr cb, .slice O no co] 61)).heap.size = w.heap.size + 1 := by simp
  generalize (w.alloc (.cells #[.slice A nh ca, .int .i64 ag, .string av, .slice (some adr) nr cb, .slice O no co] 61)) = w1 at *
  have kr := Bk.new w1 40 [.slice none 0 0, .int .i64 0, .slice none 0 0, .slice none 0 0]
  change Bk (w1.alloc (.cells #[.slice none 0 0, .int .i64 0, .slice none 0 0, .slice none 0 0] 40)) _ _ _ at kr
  have hx2 : Ext w1 (w1.alloc (.cells #[.slice none 0 0, .int .i64 0, .slice none 0 0, .slice none 0 0] 40)) := (Ext.refl w1).alloc _
  have hs2 : (w1.alloc (.cells #[.slice none 0 0, .int .i64 0, .slice none 0 0, .slice none 0 0] 40)).heap.size = w1.heap.size + 1 := by simp
  generalize (w1.alloc (.cells #[.slice none 0 0, .int .i64 0, .slice none 0 0, .slice none 0 0] 40)) = w2 at *
  rw [hs1] at kr hs2
  have HKQ := Lib.hid (kq.ext hx2); have HKR := Lib.hid kr; have HX2 := Lib.hid (hx1.trans hx2)
  clear kq kr hx1 hx2 hs1
  have q0 := HKQ.out.cell (i := 0) (by simp); have q1 := HKQ.out.cell (i := 1) (by simp); have q2 := HKQ.out.cell (i := 2) (by simp); have q3 := HKQ.out.cell (i := 3) (by simp); have q4 := HKQ.out.cell (i := 4) (by simp)
  simp only [List.getElem_cons_zero, List.getElem_cons_succ] at q0 q1 q2 q3 q4
  go_wp2_with fail
  refine (HCK.out _ HX2.out).mono ?_
  rintro e w3 ⟨he, A1, n1, c1, B1, m1, d1, rfl⟩
  have hs3 : w2.heap.size ≤ w3.heap.size := he.size
  replace HX2 := Lib.hid (HX2.out.trans he)
  replace q0 := he.cell q0; replace q1 := he.cell q1; replace q2 := he.cell q2; replace q3 := he.cell q3; replace q4 := he.cell q4
  replace HKQ := Lib.hid (HKQ.out.ext he); replace HKR := Lib.hid (HKR.out.ext he)
  clear he
  have hne : ¬ (nr : Int) ≤ (ri : Int) := by omega
  have hneg : ¬ (ri : Int) < 0 := by omega
  have hlt3 : w.heap.size < w3.heap.size := by omega
  go_upto_region 6 with fail
  have hx3 : Ext w3 (w3.alloc (.cells #[.slice A1 n1 c1, .slice B1 m1 d1] 120)) := (Ext.refl w3).alloc _
  generalize (w3.alloc (.cells #[.slice A1 n1 c1, .slice B1 m1 d1] 120)) = w4 at *
  replace HX2 := Lib.hid (HX2.out.trans hx3)
  replace q0 := hx3.cell q0; replace q1 := hx3.cell q1; replace q2 := hx3.cell q2; replace q3 := hx3.cell q3; replace q4 := hx3.cell q4
  replace HKQ := Lib.hid (HKQ.out.ext hx3); replace HKR := Lib.hid (HKR.out.ext hx3)
  have ra4 := HX2.out.cell ra; have rc4 := HX2.out.cell rc
  have hs4 : w3.heap.size ≤ w4.heap.size := hx3.size
  have hlt4 : w.heap.size < w4.heap.size := by omega
  clear hx3 ra rc
  go_upto_region 7 with fail
  have hm1 := MapV.made w4
  rw [← nmF_nil] at hm1
  have hx5 : Ext w4 (w4.alloc (.map #[] 0)) := (Ext.refl w4).alloc _
  have hs5 : (w4.alloc (.map #[] 0)).heap.size = w4.heap.size + 1 := by simp
  generalize (w4.alloc (.map #[] 0)) = w5 at *
  obtain ⟨base, hbase⟩ : ∃ b, b = w4.heap.size := ⟨_, rfl⟩
  rw [← hbase] at hm1 hs5 ⊢
  have kn := Bk.new w5 127 [.slice Ba na da, .slice Bc nc dc, .slice none 0 0, .map (some base), .slice none 0 0, .int .i64 0, .slice none 0 0, .slice none 0 0]
  change Bk (w5.alloc (.cells #[.slice Ba na da, .slice Bc nc dc, .slice none 0 0, .map (some base), .slice none 0 0, .int .i64 0, .slice none 0 0, .slice none 0 0] 127)) _ _ _ at kn
  have hx6 : Ext w5 (w5.alloc (.cells #[.slice Ba na da, .slice Bc nc dc, .slice none 0 0, .map (some base), .slice none 0 0, .int .i64 0, .slice none 0 0, .slice none 0 0] 127)) := (Ext.refl w5).alloc _
  have hs6 : (w5.alloc (.cells #[.slice Ba na da, .slice Bc nc dc, .slice none 0 0, .map (some base), .slice none 0 0, .int .i64 0, .slice none 0 0, .slice none 0 0] 127)).heap.size = w5.heap.size + 1 := by simp
  generalize (w5.alloc (.cells #[.slice Ba na da, .slice Bc nc dc, .slice none 0 0, .map (some base), .slice none 0 0, .int .i64 0, .slice none 0 0, .slice none 0 0] 127)) = w6 at *
  rw [hs5] at kn hs6
  obtain ⟨g, hg⟩ : ∃ g, g = base + 1 := ⟨_, rfl⟩
  rw [← hg] at kn hs5 hs6 ⊢
  have HNB : Hid (NmB w6 base g base 0 (.slice Ba na da) (.slice Bc nc dc) (.slice none 0 0) (.slice none 0 0) (.int .i64 0) (.slice none 0 0) (.slice none 0 0) 0 [] []) := Lib.hid ⟨⟨kn, World.ownsRow_nil _ _ _ _, hm1.ext hx6, by omega, Nat.le_refl _⟩, World.ownsRow_nil _ _ _ _⟩
  have hx46 : Ext w4 w6 := hx5.trans hx6
  have hbg : base < g := by omega
  have hwb : w.heap.size < base := by omega
  have hwb1 : w.heap.size + 1 < base := by omega
  have hbw4 : base ≤ w4.heap.size := by omega
  have hbw5 : w4.heap.size ≤ base := by omega
  have hg6 : w6.heap.size = g + 1 := hs6
  have HX46 := Lib.hid hx46; have HX6 := Lib.hid (HX2.out.trans hx46)
  have HWB : Hid (w4.heap.size = base) := Lib.hid hbase.symm
  replace q0 := hx46.cell q0; replace q1 := hx46.cell q1; replace q2 := hx46.cell q2; replace q3 := hx46.cell q3; replace q4 := hx46.cell q4
  clear hx5 hx6 hm1 kn hs5 hs6 hx46 hmm hbase ra4 rc4 hlt4 hs4 hg
  go_wp2_with fail
  refine (HORD.out _ HX6.out).mono ?_
  rintro e w7 ⟨v, rfl, he, hown⟩
  obtain ⟨Ak, ck, rfl⟩ := own_slice hown
  have HX47 := Lib.hid (HX46.out.trans he); have HNB7 := Lib.hid (HNB.out.ext he); have HKEY := Lib.hid hown
  clear he hown q0 q1 q2 q3 q4 HNB
  have hnkb : nk ≤ 1048576 := by omega
  go_wp2_with fail
  go_loopw [48] (fun t wr => ∃ (i m : Nat) (nv dv : Value) (ns : List ByteArray), i ≤ nk ∧ t = .int .i64 (i : Int) ∧ Hid (ns = ((od.take i).map Ky.var).foldl addN []) ∧ m ≤ i ∧ NmB wr base g base m (.slice Ba na da) (.slice Bc nc dc) nv (.slice none 0 0) (.int .i64 0) dv (.slice none 0 0) i ns ((od.take i).map Ky.desc) ∧ wr.ownsRow w6.heap.size 130 2 (.slice Ak nk ck) nk (kcells od) ∧ Ext w4 wr) (fun t _ => nk - (intOf t).toNat)
  case atStart => exact ⟨0, 0, _, _, [], Nat.zero_le _, rfl, Lib.hid rfl, Nat.le_refl _, HNB7.out, HKEY.out, HX47.out⟩
  case round =>
    obtain ⟨i, m, nv, dv, ns, hi, rfl, HNS, hm, hnb, hky, hx⟩ := hrel
    obtain ⟨An, cn, rfl⟩ := own_slice hnb.bl.row
    obtain ⟨Ad, cd, rfl⟩ := own_slice hnb.rd
    obtain ⟨W, rfl⟩ : ∃ W : World, W = wr := ⟨_, rfl⟩
    have HNB1 := Lib.hid hnb; have HKY := Lib.hid hky; have HX := Lib.hid hx
    have hnl : ns.length ≤ i := by
      have h1 := addNs_len ((od.take i).map Ky.var) []
      rw [← HNS.out] at h1
      simp at h1
      omega
    by_cases hik : i < nk
    · have i1 : (0 : Int) ≤ (i : Int) := by omega
      have i2 : (i : Int) < (nk : Int) := by omega
      have hio : i < od.length := by have := HNK.out; omega
      have hsl : Sl rdKy (fun k => w6.heap.size ≤ k) W (.slice Ak nk ck) od := (Rw.of_flat (cells := Ky.cells) (sz := 2) (hl := fun _ => rfl) hky).sl (by decide)
      obtain ⟨adk, rfl, -, c0, c1⟩ := hsl.ky hio
      have hsz := HOSZ.out _ (List.getElem_mem hio)
      have htk : od.take (i + 1) = od.take i ++ [od[i]] := List.take_succ_eq_append_getElem hio
      obtain ⟨⟨xv, xd⟩, hx'⟩ : ∃ x, x = od[i] := ⟨_, rfl⟩
      rw [← hx'] at c0 c1 hsz htk
      simp only at c0 c1 hsz
      have HN2 : Hid (addN ns xv = ((od.take (i + 1)).map Ky.var).foldl addN []) := Lib.hid (by rw [htk, List.map_append, List.foldl_append, ← HNS.out]; rfl)
      have HD2 : Hid ((od.take (i + 1)).map Ky.desc = (od.take i).map Ky.desc ++ [xd]) := Lib.hid (by rw [htk, List.map_append]; rfl)
      clear hnb hky hx hsl htk hx'
      go_upto_region 10 with fail
      have kk := Bk.new W 130 [.string xv, .bool xd]
      change Bk (W.alloc (.cells #[.string xv, .bool xd] 130)) _ _ _ at kk
      have hx1 : Ext W (W.alloc (.cells #[.string xv, .bool xd] 130)) := (Ext.refl W).alloc _
      generalize (W.alloc (.cells #[.string xv, .bool xd] 130)) = W1 at *
      have k0 := kk.cell (i := 0) (by simp); have k1 := kk.cell (i := 1) (by simp)
      simp only [List.getElem_cons_zero, List.getElem_cons_succ] at k0 k1
      have HNB2 := Lib.hid (HNB1.out.ext hx1); have HKY2 := Lib.hid (own_ext' HKY.out hx1); have HXA := Lib.hid (HX.out.trans hx1); have HKK := Lib.hid kk
      have hgW : g < W.heap.size := HNB1.out.bl.bk.lt
      have hW1 : W.heap.size < W1.heap.size := kk.lt
      have HNO : Hid (∀ k, (Value.slice An ns.length cn).ownBlock = some k → base ≤ k ∧ k < W.heap.size) := Lib.hid (fun k hk => HNB1.out.bl.row.lt k hk)
      clear kk hx1 c0 c1
      go_wp2_with fail
      refine (add_bl HNB2.out.bl (by omega) (by omega) (by omega) hsz).mono ?_
      rintro e w8 ⟨rfl, hf, nv', hbl, -⟩
      have HNB3 := Lib.hid (HNB2.out.add hf hbl)
      have HKY3 := Lib.hid (own_fr HKY2.out hf (fun k hk e => by
        rcases e with e | e | e
        · exact own_bk HKY2.out HNB2.out.bl.bk (by decide) hk e
        · exact HNB2.out.bl.map.ne_own HKY2.out hk e
        · exact own_ne HKY2.out HNB2.out.bl.row (by decide) hk e))
      have HX3 := Lib.hid (hf.new HXA.out (fun k hk => by
        rcases hk with e | e | e
        · omega
        · omega
        · have := (HNO.out k e).1; omega))
      have kk3 := HKK.out.fr hf (fun e => by
        rcases e with e | e | e
        · omega
        · omega
        · have := (HNO.out _ e).2; omega)
      have k1' := kk3.cell (i := 1) (by simp)
      have d6 := HNB3.out.bl.bk.cell (i := 6) (by simp)
      simp at k1' d6
      have hw18 : W1.heap.size ≤ w8.heap.size := hf.size
      clear hf hbl k0 k1 kk3
      go_wp2_with (first
        | (at_builtin; refine wpList_append_at rfl _ _ 38 rfl base 4 i0 (.bool false) 1 1 Tryz.underlying38 HI0.out.1 HI0.out.2.1 HI0.out.2.2.1 HI0.out.2.2.2 rfl (by omega) (.slice Ad i cd) i (((od.take i).map Ky.desc).map Value.bool) rfl (HNB3.out.rd.alloc _) ⟨w8.heap.size, 0, none⟩ 1 1 [.bool xd] rfl rfl (laid_news w8 _ _) (by simp [Value.oneCell']) (by simp only [maxLen]; omega) (by omega) (by simp; omega) ?_; intro v9 w9 hr9 hg9 hl9; obtain ⟨A9, c9, e9⟩ := own_slice hr9; subst e9; have hnb9 := HNB3.out.ext ((Ext.refl w8).alloc (.cells #[.bool xd] 4)); have hb9 := (hnb9.blD hg9).bk; have q9 := hb9.cell (i := 6) (by simp); have f9 := hb9.free 6; simp at q9; have HP9 := Lib.hid (hnb9.putD (b := xd) hr9 hg9); have HKY9 := Lib.hid (own_fr (own_ext' HKY3.out ((Ext.refl w8).alloc (.cells #[.bool xd] 4))) (grown_fr hg9) (fun q hq e => own_ne hnb9.rd (own_ext' HKY3.out ((Ext.refl w8).alloc (.cells #[.bool xd] 4))) (by decide) e hq)); have HB9 := Lib.hid hb9; have HX9 := Lib.hid ((HX3.out.alloc _).grown hg9 (fun q hq => by have := own_ge hnb9.rd hq; omega)); clear hnb9 hb9 hr9 hg9 hl9))
      go_roundw
      case rel =>
        refine ⟨i + 1, m + 1, nv', _, addN ns xv, by omega, by go_num, HN2, by omega, by rw [HD2.out]; exact HP9.out, ?_, HX9.out.setCell (by show w4.heap.size ≤ g; have := HWB.out; omega) _⟩
        exact own_fr HKY9.out ((Fr.refl (fun k => k = g) w9).setCell (p := ⟨g, 6, none⟩) (.inl rfl) _) (fun k hk => own_bk HKY9.out HB9.out (by decide) hk)
      case measure => simp [intOf]; omega
    · obtain rfl : i = nk := by omega
      have hdi : ¬ (i : Int) < (i : Int) := by omega
      have et : od.take i = od := List.take_of_length_le (by have := HNK.out; omega)
      rw [et] at HNS HNB1
      have d5 := HNB1.out.bl.bk.cell (i := 5) (by simp); have d6 := HNB1.out.bl.bk.cell (i := 6) (by simp); have fz5 := HNB1.out.bl.bk.free 5
      simp at d5 d6
      clear et hnb hky hx
      go_upto_region 14 with fail
      have hnbA := HNB1.out.put (q0 := .slice none 0 0) (q1 := .int .i64 (i : Int)) (q3 := .slice none 0 0) 5 (.int .i64 (i : Int)) (HNB1.out.bl.bk.set 5 _)
      have HXA := Lib.hid (HX.out.setCell (p := ⟨g, 5, none⟩) (by show w4.heap.size ≤ g; omega) (.int .i64 (i : Int)))
      generalize (W.setCell ⟨g, 5, none⟩ (.int .i64 (i : Int))) = wA at *
      have HNBA := Lib.hid hnbA
      have d0 := hnbA.bl.bk.cell (i := 0) (by simp); have d1 := hnbA.bl.bk.cell (i := 1) (by simp)
      simp at d0 d1
      clear hnbA d5 d6 fz5 HNB1 HX
      go_wp2_with fail
      have HWA := Lib.hid (HX2.out.trans HXA.out)
      refine (HVARS.out _ HWA.out).mono ?_
      rintro e wB ⟨v, rfl, heB, hown⟩
      obtain ⟨Av, cv, rfl⟩ := own_slice hown
      obtain ⟨vs, hvs⟩ : ∃ l, l = varsC r := ⟨_, rfl⟩
      rw [← hvs] at hown hvl HVSZ HNL ⊢
      obtain ⟨nvs, hnvs⟩ : ∃ n, n = vs.length := ⟨_, rfl⟩
      rw [← hnvs] at hown hvl ⊢
      have HNVS := Lib.hid hnvs
      have HNBB := Lib.hid (HNBA.out.ext heB); have HXB := Lib.hid (HXA.out.trans heB); have HVR := Lib.hid hown
      have hsep : ∀ k, (Value.slice An ns.length cn).ownBlock = some k → (Value.slice Av nvs cv).ownBlock ≠ some k := fun k hk e => by
        have h1 := (HNBA.out.bl.row.lt k hk).2
        have h2 := own_ge hown e
        omega
      have HSEP := Lib.hid hsep
      have hAB : wA.heap.size ≤ wB.heap.size := heB.size
      clear heB hown d0 d1 hvs hnvs hsep HNBA HXA
      go_wp2_with fail
      go_loopw [77] (fun t wr => ∃ (y m2 : Nat) (nv : Value) (ns2 : List ByteArray), y ≤ nvs ∧ t = .int .i64 (y : Int) ∧ Hid (ns2 = (vs.take y).foldl addN ns) ∧ m2 ≤ i + y ∧ NmB wr base g base m2 (.slice Ba na da) (.slice Bc nc dc) nv (.slice none 0 0) (.int .i64 (i : Int)) (.slice Ad i cd) (.slice none 0 0) i ns2 (od.map Ky.desc) ∧ wr.ownsRow wA.heap.size 9 1 (.slice Av nvs cv) nvs (vs.map Sv) ∧ Hid (∀ k, nv.ownBlock = some k → (Value.slice Av nvs cv).ownBlock ≠ some k) ∧ Ext w4 wr) (fun t _ => nvs - (intOf t).toNat)
      case atStart => exact ⟨0, m, _, ns, Nat.zero_le _, rfl, Lib.hid rfl, by omega, HNBB.out, HVR.out, HSEP, HXB.out⟩
      case round =>
        obtain ⟨y, m2, nv, ns2, hy, rfl, HNS2, hm2, hnb, hvr, HSP, hx⟩ := hrel
        obtain ⟨An2, cn2, rfl⟩ := own_slice hnb.bl.row
        obtain ⟨W2, rfl⟩ : ∃ W : World, W = wr := ⟨_, rfl⟩
        have HNB2 := Lib.hid hnb; have HVR2 := Lib.hid hvr; have HX2' := Lib.hid hx
        have hnl2 : ns2.length ≤ i + y := by
          have h1 := addNs_len (vs.take y) ns
          rw [← HNS2.out] at h1
          simp at h1
          omega
        by_cases hyl : y < nvs
        · have y1 : (0 : Int) ≤ (y : Int) := by omega
          have y2 : (y : Int) < (nvs : Int) := by omega
          have hyv : y < vs.length := by have := HNVS.out; omega
          obtain ⟨A9, c9, e9, -, hcl⟩ := Strs.of_own hvr
          injection e9 with e9 e9b e9c
          subst e9
          clear e9b e9c
          obtain ⟨adv, rfl, -, v0⟩ := hcl.str hyv
          have htk : vs.take (y + 1) = vs.take y ++ [vs[y]] := List.take_succ_eq_append_getElem hyv
          have hsz := HVSZ.out _ (List.getElem_mem hyv)
          obtain ⟨xv, hxv⟩ : ∃ x, x = vs[y] := ⟨_, rfl⟩
          rw [← hxv] at v0 htk hsz
          have HN3 : Hid (addN ns2 xv = (vs.take (y + 1)).foldl addN ns) := Lib.hid (by rw [htk, List.foldl_append, ← HNS2.out]; rfl)
          have hgW : g < W2.heap.size := hnb.bl.bk.lt
          have HNO : Hid (∀ k, (Value.slice An2 ns2.length cn2).ownBlock = some k → base ≤ k ∧ k < W2.heap.size) := Lib.hid (fun k hk => HNB2.out.bl.row.lt k hk)
          clear hnb hvr hx hcl htk hxv
          go_wp2_with fail
          refine (add_bl HNB2.out.bl (by omega) (by omega) (by omega) hsz).mono ?_
          rintro e w8 ⟨rfl, hf, nv', hbl, hlow⟩
          have HNB3 := Lib.hid (HNB2.out.add hf hbl)
          have HVR3 := Lib.hid (own_fr HVR2.out hf (fun k hk e => by
            rcases e with e | e | e
            · exact own_bk HVR2.out HNB2.out.bl.bk (by decide) hk e
            · exact HNB2.out.bl.map.ne_own HVR2.out hk e
            · exact HSP.out k e hk))
          have HSP3 : Hid (∀ k, nv'.ownBlock = some k → (Value.slice (some adv) nvs cv).ownBlock ≠ some k) := Lib.hid (fun k hk e => by
            rcases hlow k hk with h1 | h1
            · exact HSP.out k h1 e
            · have := (HVR2.out.lt k e).2; omega)
          have HX3 := Lib.hid (hf.new HX2'.out (fun k hk => by
            rcases hk with e | e | e
            · omega
            · omega
            · have := (HNO.out k e).1; omega))
          clear hf hbl hlow v0
          go_wp2_with fail
          go_roundw
          case rel => exact ⟨y + 1, m2 + 1, nv', addN ns2 xv, by omega, by go_num, HN3, by omega, HNB3.out, HVR3.out, HSP3, HX3.out⟩
          case measure => simp [intOf]; omega
        · obtain rfl : y = nvs := by omega
          have hdy : ¬ (y : Int) < (y : Int) := by omega
          have et : vs.take y = vs := List.take_of_length_le (by have := HNVS.out; omega)
          have hnm : ns2 = names := by rw [HNS2.out, et, HNL.out, HNS.out]
          subst hnm
          have d2 := hnb.bl.bk.cell (i := 2) (by simp); have d4 := hnb.bl.bk.cell (i := 4) (by simp); have fz4 := hnb.bl.bk.free 4
          simp at d2 d4
          clear et hnb hvr hx
          go_upto_region 20 with fail
          have hnbC := HNB2.out.put (q0 := .slice An2 ns2.length cn2) (q1 := .int .i64 (i : Int)) (q3 := .slice none 0 0) 4 (.slice An2 ns2.length cn2) (HNB2.out.bl.bk.set 4 _)
          have HXC := Lib.hid (HX2'.out.setCell (p := ⟨g, 4, none⟩) (by show w4.heap.size ≤ g; omega) (.slice An2 ns2.length cn2))
          generalize (W2.setCell ⟨g, 4, none⟩ (.slice An2 ns2.length cn2)) = wC at *
          have HNBC := Lib.hid hnbC
          have d0 := hnbC.bl.bk.cell (i := 0) (by simp)
          simp at d0
          have hgC : g < wC.heap.size := hnbC.bl.bk.lt
          clear hnbC d2 d4 fz4
          go_wp2_with fail
          clear d0
          go_loopw [95] (fun t wr => ∃ (z ks : Nat) (sv : Value) (l : List Src) (css : List (List Value)), z ≤ na ∧ t = .int .i64 (z : Int) ∧ Hid (l = upL (srcAt ns2 r) z) ∧ ks ≤ z ∧ NmB wr base g base m2 (.slice Ba na da) (.slice Bc nc dc) (.slice An2 ns2.length cn2) (.slice An2 ns2.length cn2) (.int .i64 (i : Int)) (.slice Ad i cd) sv i ns2 (od.map Ky.desc) ∧ Rw rdSrc wr wC.heap.size 36 sv ks l css ∧ wC.heap.size ≤ wr.heap.size ∧ Ext w4 wr) (fun t _ => na - (intOf t).toNat)
          case atStart => exact ⟨0, 0, _, [], [], Nat.zero_le _, rfl, Lib.hid rfl, Nat.le_refl _, HNBC.out, Rw.empty _ _ _ _, Nat.le_refl _, HXC.out⟩
          case round =>
            obtain ⟨z, ks, sv, l, css, hz, rfl, HL, hks, hnb, hrw, hcw, hx⟩ := hrel
            obtain ⟨As, cs2, rfl⟩ := own_slice hrw.own
            obtain ⟨W3, rfl⟩ : ∃ W : World, W = wr := ⟨_, rfl⟩
            have HNB4 := Lib.hid hnb; have HRW := Lib.hid hrw; have HX4 := Lib.hid hx
            have hgW : g < W3.heap.size := hnb.bl.bk.lt
            have HXW := Lib.hid (HX2.out.trans hx)
            by_cases hzl : z < na
            · have z1 : (0 : Int) ≤ (z : Int) := by omega
              have z2 : (z : Int) < (na : Int) := by omega
              have hzr : z < r.ats.length := by have := HNA.out; omega
              obtain ⟨ad, Bt, dt, rfl, -, e0, e1, e2, -⟩ := HAT.out z hzr
              replace e0 := HXW.out.cell e0; replace e1 := HXW.out.cell e1; replace e2 := HXW.out.cell e2
              have hsa : srcAt ns2 r z = if r.ats[z].neg = true then none else some (sourceL ns2 r z r.ats[z]) := by unfold srcAt; rw [List.getElem?_eq_getElem hzr]; rfl
              have HSC := Lib.hid (fun (V : World) (hV : Ext w V) nn An cn post hbk hM hNm => HSRC.out V hV g base m2 nn An cn post z hbk hM hNm hzr)
              obtain ⟨a, ha⟩ : ∃ a, a = r.ats[z] := ⟨_, rfl⟩
              rw [← ha] at e0 e1 e2 hsa HSC
              obtain ⟨src, hsrc⟩ : ∃ s, s = sourceL ns2 r z a := ⟨_, rfl⟩
              rw [← hsrc] at hsa HSC
              have hrel : src.rel = a.rel := by rw [hsrc]; rfl
              obtain ⟨ng, rl, ts⟩ := a
              simp only at e0 e1 e2 hsa HSC hrel
              have HSA := Lib.hid hsa; have HREL := Lib.hid hrel
              clear hnb hrw hx ha hsrc hsa hrel
              go_upto_region 23 with fail
              have ka := Bk.new W3 109 [.bool ng, .string rl, .slice Bt ts.length dt]
              change Bk (W3.alloc (.cells #[.bool ng, .string rl, .slice Bt ts.length dt] 109)) _ _ _ at ka
              have hx1 : Ext W3 (W3.alloc (.cells #[.bool ng, .string rl, .slice Bt ts.length dt] 109)) := (Ext.refl W3).alloc _
              generalize (W3.alloc (.cells #[.bool ng, .string rl, .slice Bt ts.length dt] 109)) = W5 at *
              have a0 := ka.cell (i := 0) (by simp)
              simp only [List.getElem_cons_zero, List.getElem_cons_succ] at a0
              have HNB5 := Lib.hid (HNB4.out.ext hx1); have HRW5 := Lib.hid (HRW.out.ext hx1); have HX5 := Lib.hid (HX4.out.trans hx1); have HXW5 := Lib.hid (HXW.out.trans hx1)
              have hW35 : W3.heap.size < W5.heap.size := ka.lt
              clear ka hx1 e0 e1 e2
              rcases ng with _ | _
              · have hn1 : srcAt ns2 r z = some src := HSA.out
                have HL2 : Hid (l ++ [src] = upL (srcAt ns2 r) (z + 1)) := Lib.hid (by rw [upL_some hn1, HL.out])
                have hsc := HSC.out W5.drew HXW5.out.drew ns2.length An2 cn2 _ (HNB5.out.bl.bk.ext (Ext.refl W5).drew) (HNB5.out.bl.map.ext (Ext.refl W5).drew) (((Strs.of_own HNB5.out.bl.row).mono (fun _ _ _ => trivial)).ext (Ext.refl W5).drew)
                have d7 := HNB5.out.bl.bk.cell (i := 7) (by simp)
                simp at d7
                have HOWN : Hid (∀ b, (Value.slice As ks cs2).ownBlock = some b → wC.heap.size ≤ b ∧ b < W5.heap.size) := Lib.hid (fun b hb => HRW5.out.own.lt b hb)
                have HSCC : Hid (Calls Tryz.prog 40 #[.pointer (some ⟨g, 0, none⟩), .int .i64 (z : Int)] W5.drew (Ret (fun x w' => ∃ X1 x1 y1 X2 x2 y2 X3 x3 y3 X4 x4 y4 X5 x5 y5, x = .agg #[.string rl, .slice X1 x1 y1, .slice X2 x2 y2, .slice X3 x3 y3, .slice X4 x4 y4, .slice X5 x5 y5] ∧ rdSrc.R (fun k => wC.heap.size ≤ k ∧ (Value.slice As ks cs2).ownBlock ≠ some k) w' [.string rl, .slice X1 x1 y1, .slice X2 x2 y2, .slice X3 x3 y3, .slice X4 x4 y4, .slice X5 x5 y5] src) W5.drew)) := Lib.hid (hsc.mono (fun e w' hp => by
                  obtain ⟨x, rfl, he, a, b, d, e2, f, rfl, hrr⟩ := hp
                  obtain ⟨X1, x1, y1, X2, x2, y2, X3, x3, y3, X4, x4, y4, X5, x5, y5, rfl, rfl, rfl, rfl, rfl⟩ := src_sl hrr
                  exact Ret.mk he ⟨_, _, _, _, _, _, _, _, _, _, _, _, _, _, _, rfl, rdSrc.mono hrr (fun k _ hk => by
                    have hk' : W5.heap.size ≤ k := hk
                    exact ⟨by omega, fun e => by have := (HOWN.out k e).2; omega⟩)⟩))
                clear hn1 hsc
                go_upto_region 24 with fail
                go_region_law (first
                  | (refine step_append_at (by rfl) _ _ _ (by rfl) wC.heap.size 36 p0 (.agg #[.string ⟨#[]⟩, .slice none 0 0, .slice none 0 0, .slice none 0 0, .slice none 0 0, .slice none 0 0]) 6 136 Tryz.underlying37 HP0.out.1 HP0.out.2.1 HP0.out.2.2.1 HP0.out.2.2.2 rfl (by omega) (.slice As ks cs2) ks css.flatten (by rfl) (by exact own_ext' HRW5.out.own (((Ext.refl W5).drew.trans HEI.out).alloc _)) ⟨wi.heap.size, 0, none⟩ 1 1 [.string rl, .slice X1 x1 y1, .slice X2 x2 y2, .slice X3 x3 y3, .slice X4 x4 y4, .slice X5 x5 y5] (by rfl) (by rfl) (by exact laid_news wi _ _) (by simp [Value.oneCell']) (by simp only [maxLen]; omega) (by omega) (by have := HEI.out.size; simp at this ⊢; omega) ?_; intro v9 w9 hr9 hg9 hl9; obtain ⟨A9, c9, e9⟩ := own_slice hr9; subst e9; have hxg := ((Ext.refl W5).drew.trans HEI.out).alloc (.cells #[.string rl, .slice X1 x1 y1, .slice X2 x2 y2, .slice X3 x3 y3, .slice X4 x4 y4, .slice X5 x5 y5] 36); have hrw9 := Rw.more (x := src) HRW5.out hxg (rdSrc.ext HRR.out ((Ext.refl wi).alloc _)) hr9 hg9 hl9; have hnb9 := (HNB5.out.ext hxg).grownS (HRW5.out.own |> fun h => own_ext' h hxg) (by decide) (by decide) (by decide) hg9; have q9 := hnb9.bl.bk.cell (i := 7) (by simp); have f9 := hnb9.bl.bk.free 7; simp at q9; have HRW9 := Lib.hid hrw9; have HNB9 := Lib.hid hnb9; have HX9 := Lib.hid ((HX5.out.trans hxg).grown hg9 (fun b hb => by have := (HOWN.out b hb).1; omega)); have HSZ9 : Hid (wC.heap.size ≤ w9.heap.size) := Lib.hid (by have h1 := hxg.size; have h2 := hg9.size; omega); clear hr9 hg9 hl9 hxg hrw9 hnb9)
                  | (go_simp; (with_reducible refine HSCC.out.mono ?_); rintro e wi ⟨xv, rfl, hei, X1, x1, y1, X2, x2, y2, X3, x3, y3, X4, x4, y4, X5, x5, y5, rfl, hrr⟩; have HEI := Lib.hid hei; have HRR := Lib.hid hrr; (try (replace d7 := hei.cell ((Ext.refl W5).drew.cell d7); have d7a := ((Ext.refl wi).alloc (.cells #[.string rl, .slice X1 x1 y1, .slice X2 x2 y2, .slice X3 x3 y3, .slice X4 x4 y4, .slice X5 x5 y5] 36)).cell d7)); clear hei hrr; go_wp2_with fail))
                all_goals
                  have hs9 : Fr (fun k => k = g) w9 (w9.setCell ⟨g, 7, none⟩ (.slice A9 (ks + 1) c9)) := (Fr.refl (fun k => k = g) w9).setCell (p := ⟨g, 7, none⟩) (.inl rfl) _
                  have HNBZ := Lib.hid (HNB9.out.put (q0 := .slice An2 ns2.length cn2) (q1 := .int .i64 (i : Int)) (q3 := .slice A9 (ks + 1) c9) 7 (.slice A9 (ks + 1) c9) (HNB9.out.bl.bk.set 7 _))
                  have HRWZ := Lib.hid (HRW9.out.fr hs9 (fun k hk e => by omega))
                  have HXZ := Lib.hid (HX9.out.setCell (p := ⟨g, 7, none⟩) (by show w4.heap.size ≤ g; omega) (.slice A9 (ks + 1) c9))
                  have HSZ : Hid (wC.heap.size ≤ (w9.setCell ⟨g, 7, none⟩ (.slice A9 (ks + 1) c9)).heap.size) := Lib.hid (by
                    have h1 := hs9.size
                    have h2 := HSZ9.out
                    omega)
                  clear hs9 q9 f9 d7
                  go_wp2_with fail
                  go_roundw
                  case rel => exact ⟨z + 1, ks + 1, _, _, _, by omega, by go_num, HL2, by omega, HNBZ.out, HRWZ.out, HSZ.out, HXZ.out⟩
                  case measure => simp [intOf]; omega
              · have hn1 : srcAt ns2 r z = none := HSA.out
                have HL2 : Hid (l = upL (srcAt ns2 r) (z + 1)) := Lib.hid (by rw [upL_none hn1]; exact HL.out)
                clear hn1
                go_wp2_with fail
                go_roundw
                case rel => exact ⟨z + 1, ks, _, l, css, by omega, by go_num, HL2, by omega, HNB5.out, HRW5.out, by omega, HX5.out⟩
                case measure => simp [intOf]; omega
            · obtain rfl : z = na := by omega
              have hdz : ¬ (z : Int) < (z : Int) := by omega
              have d4 := hnb.bl.bk.cell (i := 4) (by simp); have d5 := hnb.bl.bk.cell (i := 5) (by simp); have d6 := hnb.bl.bk.cell (i := 6) (by simp); have d7 := hnb.bl.bk.cell (i := 7) (by simp)
              simp at d4 d5 d6 d7
              have hkr := HKR.out.ext hx
              have r0 := hkr.cell (i := 0) (by simp); have r1 := hkr.cell (i := 1) (by simp); have r2 := hkr.cell (i := 2) (by simp); have r3 := hkr.cell (i := 3) (by simp)
              have fz0 := hkr.free 0; have fz1 := hkr.free 1; have fz2 := hkr.free 2; have fz3 := hkr.free 3
              simp only [List.getElem_cons_zero, List.getElem_cons_succ] at r0 r1 r2 r3
              obtain ⟨W9, rfl⟩ : ∃ W : World, W = W3 := ⟨_, rfl⟩
              have HKR9 := Lib.hid hkr; have HX9 := Lib.hid (HX2.out.trans hx)
              have hwz : w.heap.size + 1 < W9.heap.size := hkr.lt
              clear hkr hnb hrw hx
              go_wp2_with fail
              have kz : Bk ((((W9.setCell ⟨w.heap.size + 1, 0, none⟩ (.slice An2 ns2.length cn2)).setCell ⟨w.heap.size + 1, 1, none⟩ (.int .i64 (i : Int))).setCell ⟨w.heap.size + 1, 2, none⟩ (.slice Ad i cd)).setCell ⟨w.heap.size + 1, 3, none⟩ (.slice As ks cs2)) (w.heap.size + 1) 40 [.slice An2 ns2.length cn2, .int .i64 (i : Int), .slice Ad i cd, .slice As ks cs2] := ((((HKR9.out.set 0 _).set 1 _).set 2 _).set 3 _)
              have hez : Ext w ((((W9.setCell ⟨w.heap.size + 1, 0, none⟩ (.slice An2 ns2.length cn2)).setCell ⟨w.heap.size + 1, 1, none⟩ (.int .i64 (i : Int))).setCell ⟨w.heap.size + 1, 2, none⟩ (.slice Ad i cd)).setCell ⟨w.heap.size + 1, 3, none⟩ (.slice As ks cs2)) := ((((HX9.out.setCell (p := ⟨w.heap.size + 1, 0, none⟩) (Nat.le_succ _) _).setCell (p := ⟨w.heap.size + 1, 1, none⟩) (Nat.le_succ _) _).setCell (p := ⟨w.heap.size + 1, 2, none⟩) (Nat.le_succ _) _).setCell (p := ⟨w.heap.size + 1, 3, none⟩) (Nat.le_succ _) _)
              have hfz : Fr (fun q => q = w.heap.size + 1) W9 ((((W9.setCell ⟨w.heap.size + 1, 0, none⟩ (.slice An2 ns2.length cn2)).setCell ⟨w.heap.size + 1, 1, none⟩ (.int .i64 (i : Int))).setCell ⟨w.heap.size + 1, 2, none⟩ (.slice Ad i cd)).setCell ⟨w.heap.size + 1, 3, none⟩ (.slice As ks cs2)) := (((((Fr.refl (fun q => q = w.heap.size + 1) W9).setCell (p := ⟨w.heap.size + 1, 0, none⟩) (.inl rfl) _).setCell (p := ⟨w.heap.size + 1, 1, none⟩) (.inl rfl) _).setCell (p := ⟨w.heap.size + 1, 2, none⟩) (.inl rfl) _).setCell (p := ⟨w.heap.size + 1, 3, none⟩) (.inl rfl) _)
              generalize ((((W9.setCell ⟨w.heap.size + 1, 0, none⟩ (.slice An2 ns2.length cn2)).setCell ⟨w.heap.size + 1, 1, none⟩ (.int .i64 (i : Int))).setCell ⟨w.heap.size + 1, 2, none⟩ (.slice Ad i cd)).setCell ⟨w.heap.size + 1, 3, none⟩ (.slice As ks cs2)) = wz at *
              have z0 := kz.cell (i := 0) (by simp); have z1 := kz.cell (i := 1) (by simp); have z2 := kz.cell (i := 2) (by simp); have z3 := kz.cell (i := 3) (by simp)
              simp only [List.getElem_cons_zero, List.getElem_cons_succ] at z0 z1 z2 z3
              refine bodyPost_ret (v := .tuple #[.agg #[.slice An2 ns2.length cn2, .int .i64 (i : Int), .slice Ad i cd, .slice As ks cs2], .int .i64 0]) (by simp [results, Tryz.results14, go_sem, z0, z1, z2, z3]) rfl ⟨hez, _, _, _, rfl, ?_, ?_, ?_⟩
              · exact ((Strs.of_own HNB4.out.bl.row).fr hfz (fun q hq e => by have := hq.2; omega)).mono (fun q _ hq => by have := hq.2; omega)
              · exact ((Bls.of_own HNB4.out.rd).fr hfz (fun q hq e => by have := hq.2; omega)).mono (fun q _ hq => by have := hq.2; omega)
              · have h := ((HRW.out.sl (by decide)).fr hfz (fun q hq e => by omega)).mono (G := fun q => w.heap.size ≤ q) (by decide) (fun q _ hq => by omega)
                rw [HL.out] at h
                exact h
end Go.Proofs.YtmmmdinncmbjkaaGreat
