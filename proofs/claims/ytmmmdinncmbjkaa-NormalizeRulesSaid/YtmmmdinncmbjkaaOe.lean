/- Plain law: the program's variables and columns of a source are the reference's. -/
import Derived.Test.YtmmmdinncmbjkaaOh
import Derived.Test.YtmmmdinncmbjkaaOd
namespace Go.Proofs.Ytmmmdinncmbjkaa
open Go.RowKit Go.Maps

def vrR (names : List ByteArray) (ts : List Tm) (k : Nat) : Option Int := (names[k]?).bind (fun s => if idxT ts s < ts.length then some (k : Int) else none)
def clR (names : List ByteArray) (ts : List Tm) (k : Nat) : Option Int := (names[k]?).bind (fun s => if idxT ts s < ts.length then some (idxT ts s : Int) else none)
def refS (names : List ByteArray) (r : Rl) (i : Nat) (a : At) : Src :=
  ⟨a.rel, upL (vrR names a.terms) names.length, upL (clR names a.terms) names.length, upL (samAt a.terms) a.terms.length, upL (conAt a.terms) a.terms.length ++ upL (cndAt a.terms r.cds) r.cds.length, notsL names r.ats i⟩
theorem asc_ext : ∀ {l m : List Int}, l.Pairwise (· < ·) → m.Pairwise (· < ·) → (∀ x, x ∈ l ↔ x ∈ m) → l = m
  | [], [], _, _, _ => rfl
  | [], y :: m, _, _, h => absurd ((h y).2 (by simp)) (by simp)
  | x :: l, [], _, _, h => absurd ((h x).1 (by simp)) (by simp)
  | x :: l, y :: m, hl, hm, h => by
    rw [List.pairwise_cons] at hl hm
    have h1 : x = y := by
      rcases List.mem_cons.1 ((h x).1 (by simp)) with e | e
      · exact e
      · rcases List.mem_cons.1 ((h y).2 (by simp)) with e2 | e2
        · exact e2.symm
        · have := hl.1 y e2; have := hm.1 x e; omega
    subst h1
    rw [asc_ext hl.2 hm.2 (fun z => ?_)]
    constructor
    · intro hz
      rcases List.mem_cons.1 ((h z).1 (List.mem_cons_of_mem _ hz)) with e | e
      · have := hl.1 z hz; omega
      · exact e
    · intro hz
      rcases List.mem_cons.1 ((h z).2 (List.mem_cons_of_mem _ hz)) with e | e
      · have := hm.1 z hz; omega
      · exact e
theorem mem_upL {α : Type} {f : Nat → Option α} {n : Nat} {x : α} : x ∈ upL f n ↔ ∃ k, k < n ∧ f k = some x := by
  unfold upL
  rw [List.mem_filterMap]
  simp
theorem vrR_some {names : List ByteArray} {ts : List Tm} {k : Nat} {x : Int} : vrR names ts k = some x ↔ ∃ h : k < names.length, idxT ts names[k] < ts.length ∧ x = (k : Int) := by
  unfold vrR
  rcases Nat.lt_or_ge k names.length with h | h
  · rw [List.getElem?_eq_getElem h]
    simp only [Option.bind_some]
    by_cases h1 : idxT ts names[k] < ts.length
    · rw [if_pos h1]
      exact ⟨fun e => ⟨h, h1, by injection e with e; exact e.symm⟩, fun ⟨_, _, e⟩ => by rw [e]⟩
    · rw [if_neg h1]
      exact ⟨fun e => by simp at e, fun ⟨_, h2, _⟩ => absurd h2 h1⟩
  · rw [List.getElem?_eq_none h]
    exact ⟨fun e => by simp at e, fun ⟨h2, _⟩ => by omega⟩
theorem upL_asc {f : Nat → Option Int} (hf : ∀ k x, f k = some x → x = (k : Int)) : ∀ n, (upL f n).Pairwise (· < ·)
  | 0 => by simp [upL]
  | n + 1 => by
    rcases h : f n with _ | x
    · rw [upL_none h]; exact upL_asc hf n
    · rw [upL_some h, List.pairwise_append]
      refine ⟨upL_asc hf n, by simp, fun a ha b hb => ?_⟩
      obtain ⟨k, hk, e⟩ := mem_upL.1 ha
      rw [List.mem_singleton] at hb
      subst hb
      have h1 := hf k a e
      have h2 := hf n b h
      omega
theorem pos_inj {l : List ByteArray} {s t : ByteArray} (hs : s ∈ l) (ht : t ∈ l) (h : posN l s = posN l t) : s = t := by
  have h1 := pos_at hs
  have h2 := pos_at ht
  rw [← h1, ← h2]
  simp only [h]
theorem pos_get {l : List ByteArray} (hn : l.Nodup) {k : Nat} (hk : k < l.length) : posN l l[k] = k := by
  exact pos_char hk (fun j hj hl => List.pairwise_iff_getElem.1 hn j k hl hk hj) rfl
theorem vrsAt_some {names : List ByteArray} {ts : List Tm} {k : Nat} {x : Int} : vrsAt names ts k = some x ↔ ∃ h : k < ts.length, ts[k].var ≠ ⟨#[]⟩ ∧ ¬ idxT ts ts[k].var < k ∧ x = numI names ts[k] := by
  unfold vrsAt
  rcases Nat.lt_or_ge k ts.length with h | h
  · rw [List.getElem?_eq_getElem h]
    simp only [Option.bind_some]
    by_cases h1 : ts[k].var ≠ ⟨#[]⟩ ∧ ¬ idxT ts ts[k].var < k
    · rw [if_pos h1]
      exact ⟨fun e => ⟨h, h1.1, h1.2, by injection e with e; exact e.symm⟩, fun ⟨_, _, _, e⟩ => by rw [e]⟩
    · rw [if_neg h1]
      exact ⟨fun e => by simp at e, fun ⟨_, h2, h3, _⟩ => absurd ⟨h2, h3⟩ h1⟩
  · rw [List.getElem?_eq_none h]
    exact ⟨fun e => by simp at e, fun ⟨h2, _⟩ => by omega⟩
theorem vrs_nodup {names : List ByteArray} {ts : List Tm} (hc : ∀ t ∈ ts, t.var ≠ ⟨#[]⟩ → t.var ∈ names) : ∀ n, (upL (vrsAt names ts) n).Nodup
  | 0 => by simp [upL]
  | n + 1 => by
    rcases h : vrsAt names ts n with _ | x
    · rw [upL_none h]; exact vrs_nodup hc n
    · rw [upL_some h, List.nodup_append]
      refine ⟨vrs_nodup hc n, by simp, fun a ha b hb e => ?_⟩
      rw [List.mem_singleton] at hb
      subst hb
      subst e
      obtain ⟨k, hk, e2⟩ := mem_upL.1 ha
      obtain ⟨h1, h2, h3, h4⟩ := vrsAt_some.1 e2
      obtain ⟨g1, g2, g3, g4⟩ := vrsAt_some.1 h
      have m1 := hc _ (List.getElem_mem h1) h2
      have m2 := hc _ (List.getElem_mem g1) g2
      unfold numI at h4 g4
      rw [if_neg h2, if_pos m1] at h4
      rw [if_neg g2, if_pos m2] at g4
      have e3 := pos_inj m1 m2 (by omega)
      rw [← e3] at g3
      have := idxT_le h1
      omega
theorem vars_ref {names : List ByteArray} {ts : List Tm} (hd : names.Nodup) (hne : ∀ s ∈ names, s ≠ ⟨#[]⟩) (hc : ∀ t ∈ ts, t.var ≠ ⟨#[]⟩ → t.var ∈ names) : sortI (upL (vrsAt names ts) ts.length) = upL (vrR names ts) names.length := by
  have hp : (sortI (upL (vrsAt names ts) ts.length)).Perm (upL (vrsAt names ts) ts.length) := List.mergeSort_perm _ _
  refine asc_ext ?_ (upL_asc (fun k x h => (vrR_some.1 h).2.2) _) (fun x => ?_)
  · have h1 : (sortI (upL (vrsAt names ts) ts.length)).Pairwise (fun a b => decide (a ≤ b) = true) := List.pairwise_mergeSort (fun a b c h1 h2 => by simp at h1 h2 ⊢; omega) (fun a b => by simp; omega) _
    have h2 : (sortI (upL (vrsAt names ts) ts.length)).Pairwise (· ≠ ·) := hp.nodup_iff.2 (vrs_nodup hc _)
    exact (h1.and h2).imp (fun {a b} h => by have := h.1; simp at this; have := h.2; omega)
  · rw [sortI_mem, mem_upL, mem_upL]
    constructor
    · rintro ⟨k, hk, e⟩
      obtain ⟨h1, h2, h3, rfl⟩ := vrsAt_some.1 e
      have m := hc _ (List.getElem_mem h1) h2
      refine ⟨posN names ts[k].var, pos_lt m, vrR_some.2 ⟨pos_lt m, ?_, ?_⟩⟩
      · rw [pos_at m]; have := idxT_le h1; omega
      · unfold numI; rw [if_neg h2, if_pos m]
    · rintro ⟨k, hk, e⟩
      obtain ⟨h1, h2, rfl⟩ := vrR_some.1 e
      have e2 := idxT_at h2
      have m := List.getElem_mem h1
      refine ⟨idxT ts names[k], h2, vrsAt_some.2 ⟨h2, ?_, ?_, ?_⟩⟩
      · rw [e2]; exact hne _ m
      · rw [e2]; omega
      · unfold numI
        rw [e2, if_neg (hne _ m), if_pos m, pos_get hd h1]
theorem upL_map {α β : Type} {f : Nat → Option α} {g : α → β} (n : Nat) : (upL f n).map g = upL (fun k => (f k).map g) n := by
  unfold upL
  rw [List.map_filterMap]
theorem upL_congr {α : Type} {f g : Nat → Option α} : ∀ {n : Nat}, (∀ k, k < n → f k = g k) → upL f n = upL g n
  | 0, _ => rfl
  | n + 1, h => by
    have ih := upL_congr (n := n) (fun k hk => h k (by omega))
    rcases e : f n with _ | x
    · rw [upL_none e, upL_none ((h n (by omega)).symm.trans e), ih]
    · rw [upL_some e, upL_some ((h n (by omega)).symm.trans e), ih]
theorem cols_ref {names : List ByteArray} {ts : List Tm} : (upL (vrR names ts) names.length).map (colI names ts) = upL (clR names ts) names.length := by
  rw [upL_map]
  refine upL_congr (fun k hk => ?_)
  unfold vrR clR
  rw [List.getElem?_eq_getElem hk]
  simp only [Option.bind_some]
  by_cases h : idxT ts names[k] < ts.length
  · rw [if_pos h, if_pos h]
    simp only [Option.map_some]
    unfold colI
    rw [Int.toNat_natCast, List.getD_eq_getElem?_getD, List.getElem?_eq_getElem hk]
    rfl
  · rw [if_neg h, if_neg h]; rfl
theorem source_ref {names : List ByteArray} {r : Rl} {i : Nat} {a : At} (hd : names.Nodup) (hne : ∀ s ∈ names, s ≠ ⟨#[]⟩) (hc : ∀ t ∈ a.terms, t.var ≠ ⟨#[]⟩ → t.var ∈ names) : sourceL names r i a = refS names r i a := by
  unfold sourceL refS
  simp only
  rw [vars_ref hd hne hc, cols_ref]
theorem addN_nodup {l : List ByteArray} {s : ByteArray} (h : l.Nodup) : (addN l s).Nodup := by
  unfold addN
  by_cases hs : s ∈ l
  · rw [if_pos hs]; exact h
  · rw [if_neg hs, List.nodup_append]
    exact ⟨h, by simp, fun a ha b hb e => by rw [List.mem_singleton] at hb; subst hb; subst e; exact hs ha⟩
theorem addNs_nodup : ∀ (l : List ByteArray) {b : List ByteArray}, b.Nodup → (l.foldl addN b).Nodup
  | [], _, h => h
  | s :: l, _, h => addNs_nodup l (addN_nodup h)
def srcR (names : List ByteArray) (r : Rl) (i : Nat) : Option Src := (r.ats[i]?).bind (fun a => if a.neg = true then none else some (refS names r i a))
theorem srcs_ref {names : List ByteArray} {r : Rl} (hd : names.Nodup) (hne : ∀ s ∈ names, s ≠ ⟨#[]⟩) (hc : ∀ a ∈ r.ats, ∀ t ∈ a.terms, t.var ≠ ⟨#[]⟩ → t.var ∈ names) : upL (srcAt names r) r.ats.length = upL (srcR names r) r.ats.length := by
  refine upL_congr (fun k hk => ?_)
  unfold srcAt srcR
  rw [List.getElem?_eq_getElem hk]
  simp only [Option.bind_some]
  rw [source_ref hd hne (hc _ (List.getElem_mem hk))]
deriving instance DecidableEq for Vl
deriving instance DecidableEq for Nt
deriving instance DecidableEq for Fl
deriving instance DecidableEq for Pi
deriving instance DecidableEq for Src
deriving instance DecidableEq for Nm
def exS : List Sc := [⟨⟨#[114]⟩, [1, 1, 1, 1]⟩, ⟨⟨#[115]⟩, [1]⟩]
def exS0 : Src := ⟨⟨#[114]⟩, [0, 1], [0, 1], [⟨0, 2⟩], [⟨3, 0, 1, 3, ⟨#[]⟩⟩, ⟨1, 2, 1, 5, ⟨#[]⟩⟩], [⟨⟨#[115]⟩, [0], [⟨0, 0, ⟨#[]⟩⟩]⟩]⟩
def exS1 : Src := ⟨⟨#[115]⟩, [1], [0], [], [⟨0, 2, 1, 5, ⟨#[]⟩⟩], []⟩
theorem ex_check : checkE exS exQ = 0 := by decide +kernel
theorem ex_names : namesL exQ exR = [⟨#[121]⟩, ⟨#[120]⟩] := by decide +kernel
theorem ex_norm : normalL exQ exR = ⟨[⟨#[121]⟩, ⟨#[120]⟩], 2, [false, false], [exS0, exS1]⟩ := by
  unfold normalL
  rw [ex_names, srcs_ref (by decide +kernel) (by decide +kernel) (by decide +kernel)]
  decide +kernel
end Go.Proofs.Ytmmmdinncmbjkaa
