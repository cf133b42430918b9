/- Contract: slices.Clone at conditions. Words: conditions, rows of atoms. -/
import Derived.Test.YtiahaofjmcjdiaaDoorRk
import Derived.Shelf.Slices.Clone
namespace Go.Proofs.YtiahaofjmcjdiaaDoor
open Go.RowKit

/-- A slice of n conditions. -/
def Cns (F : Nat → Prop) (w : World) (v : Value) (n : Nat) : Prop := ∃ A c xs, v = .slice A n c ∧ n ≤ c ∧ xs.length = n * 5 ∧ Cl F w A xs ∧ (∀ u ∈ xs, u.oneCell' = true) ∧ (A = none → n = 0 ∧ c = 0)
theorem Cns.ext {F : Nat → Prop} {w w' : World} {v : Value} {n : Nat} (h : Cns F w v n) (he : Ext w w') : Cns F w' v n := let ⟨A, c, xs, h1, h2, h3, h4, h5, h6⟩ := h; ⟨A, c, xs, h1, h2, h3, h4.ext he, h5, h6⟩
theorem Cns.fr {S F : Nat → Prop} {w w' : World} {v : Value} {n : Nat} (h : Cns F w v n) (hf : Fr S w w') (hs : ∀ k, F k → ¬ S k) : Cns F w' v n := let ⟨A, c, xs, h1, h2, h3, h4, h5, h6⟩ := h; ⟨A, c, xs, h1, h2, h3, h4.fr hf hs, h5, h6⟩
theorem Cns.nil (F : Nat → Prop) (w : World) : Cns F w (.slice none 0 0) 0 := ⟨none, 0, [], rfl, Nat.le_refl _, rfl, .inl rfl, by simp, fun _ => ⟨rfl, rfl⟩⟩
theorem Cns.mono {F G : Nat → Prop} {w : World} {v : Value} {n : Nat} (h : Cns F w v n) (hs : ∀ k, k < w.heap.size → F k → G k) : Cns G w v n := let ⟨A, c, xs, h1, h2, h3, h4, h5, h6⟩ := h; ⟨A, c, xs, h1, h2, h3, h4.mono hs, h5, h6⟩
theorem info_cond : (Tryd.prog.info? 85).map (fun i => (i.zero, i.size, i.bytes)) = some (some (.agg #[.string ⟨#[]⟩, .int .i64 0, .int .i64 0, .int .i64 0, .string ⟨#[]⟩]), 5, 56) := by kernel_rfl

set_option maxRecDepth 20000 in
set_option maxHeartbeats 800000 in
theorem clone_cond {F : Nat → Prop} {w : World} {v : Value} {n : Nat} (h : Cns F w v n) (hn : n ≤ 1048576) :
    Calls Tryd.prog 38 #[v] w (fun e w' => Ext w w' ∧ ∃ A' c', e = .returned (.slice A' n c') ∧ Cns (fun k => w.heap.size ≤ k) w' (.slice A' n c') n) := by
  obtain ⟨A, c, xs, rfl, hc, hl, hcl, hone, hnil⟩ := h
  have q22 : ∀ (w : World) (a : Option Addr) (n c n' c' : Nat), (binOp .eql 23 (.slice a n c) (.slice none n' c')).run Tryd.prog w = .ok (.bool a.isNone) w := fun w a n c n' c' => Lib.run_eql_slice_nil w _ _ a n c n' c' Tryd.underlying23
  have HL := Lib.hid hl; have HCL := Lib.hid hcl; have HONE := Lib.hid hone
  clear hl hcl hone
  obtain ⟨i0, hi0, hz0, hz1, hz2⟩ := info_parts info_cond
  have HI0 := Lib.hid (And.intro hi0 (And.intro hz0 (And.intro hz1 hz2)))
  clear hi0 hz0 hz1 hz2
  go_enter Tryd.func38, Tryd.ntmps38
  rcases A with _ | a
  · obtain ⟨rfl, rfl⟩ := hnil rfl
    clear hnil
    go_wp2_with fail
    go_ret
    exact ⟨Ext.refl _, none, 0, rfl, Cns.nil _ _⟩
  · clear hnil
    have HNW : Hid (∀ j u, xs[j]? = some u → (w.alloc (.cells #[] 85)).cell? (a.add j) = some u) := Lib.hid (fun j u hj => by
      obtain ⟨ad, e, -, h3⟩ := HCL.out.at' hj
      injection e with e
      subst e
      exact ((Ext.refl w).alloc _).cell h3)
    go_wp2_with (first | (at_builtin; refine wpList_append_at rfl _ _ 23 rfl w.heap.size 85 i0 (.agg #[.string ⟨#[]⟩, .int .i64 0, .int .i64 0, .int .i64 0, .string ⟨#[]⟩]) 5 56 Tryd.underlying23 HI0.out.1 HI0.out.2.1 HI0.out.2.2.1 HI0.out.2.2.2 rfl (by omega) _ 0 [] rfl (World.ownsRow_made w #[] 0 (Nat.le_refl _) (Nat.zero_le _) rfl) a n c xs rfl HL.out HNW.out HONE.out (by simp only [maxLen]; omega) (by omega) (by simp) ?_; intro v9 w9 hr9 hg9 hld9; have HR9 := Lib.hid hr9; have HG9 := Lib.hid hg9; obtain ⟨A9, c9, rfl⟩ := own_slice hr9; clear hr9 hg9 hld9))
    go_ret
    have hr := HR9.out
    simp only [Nat.zero_add, List.nil_append] at hr
    refine ⟨((Ext.refl w).alloc _).grown HG9.out (fun k hk => by have hk : some w.heap.size = some k := hk; injection hk with hk; omega), A9, c9, rfl, ?_⟩
    obtain ⟨A', c', e, hc', hcl'⟩ := Cl.of_own hr
    injection e with e1 _ e3
    subst e1 e3
    refine ⟨A9, c9, xs, rfl, hc', HL.out, hcl'.mono (fun k _ hk => hk.2), HONE.out, fun he => ?_⟩
    subst he
    rcases hr.2 with ⟨e, rfl⟩ | ⟨g, cap, cur, e, -⟩
    · injection e with _ _ e; exact ⟨rfl, e⟩
    · injection e with e _ _; cases e

/-- A row of atoms grows by one. -/
theorem acells_snoc : ∀ {xs : List At} {vs : List Value} {a : At} {v : Value}, vs.length = xs.length → acells (xs ++ [a]) (vs ++ [v]) = acells xs vs ++ [.bool a.neg, .string a.rel, v]
  | [], [], _, _, _ => rfl
  | b :: xs, u :: vs, a, v, h => by
    have := acells_snoc (xs := xs) (vs := vs) (a := a) (v := v) (by simpa using h)
    simp [acells, this]
  | [], _ :: _, _, _, h => by simp at h
  | _ :: _, [], _, _, h => by simp at h
theorem info_atom : (Tryd.prog.info? 61).map (fun i => (i.zero, i.size, i.bytes)) = some (some (.agg #[.bool false, .string ⟨#[]⟩, .slice none 0 0]), 3, 48) := by kernel_rfl

/-- The image of a rule's atoms, without doubles. -/
def addA (l : List At) (a : At) : List At := if a.keyS ∈ l.map At.keyS then l else l ++ [a]
def appL (im : ByteArray → Option Tm) (xs : List At) : List At := xs.foldl (fun l a => addA l (repA im a)) []
theorem appL_snoc (im : ByteArray → Option Tm) (xs : List At) (a : At) : appL im (xs ++ [a]) = addA (appL im xs) (repA im a) := by simp [appL]
theorem appL_length (im : ByteArray → Option Tm) (xs : List At) : (appL im xs).length ≤ xs.length := by
  suffices h : ∀ (xs l : List At), (xs.foldl (fun l a => addA l (repA im a)) l).length ≤ l.length + xs.length by
    have := h xs []; simpa [appL] using this
  intro xs
  induction xs with
  | nil => simp
  | cons a xs ih =>
    intro l
    have h1 := ih (addA l (repA im a))
    have h2 : (addA l (repA im a)).length ≤ l.length + 1 := by unfold addA; split <;> simp
    simp only [List.foldl_cons, List.length_cons]
    omega

/-- After some atoms: the result's box, its row, the set of keys. -/
structure ApH (w wr : World) (g bS n : Nat) (l : List At) (v : Value) (ws : List Value) : Prop where
  bk : Bk wr g 25 [v, .slice none 0 0]
  row : wr.ownsRow w.heap.size 61 3 v l.length (acells l ws)
  len : ws.length = l.length
  ts : ∀ j (h : j < l.length) (h' : j < ws.length), Ts (fun k => w.heap.size ≤ k ∧ v.ownBlock ≠ some k ∧ k ≠ g ∧ k ≠ bS) wr ws[j] l[j].terms
  map : MapV wr bS n (pinF (fun t => decide (t ∈ l.map At.keyS)))
  ext : Ext w wr
theorem ApH.fore {w wr wr' : World} {g bS n : Nat} {l : List At} {v : Value} {ws : List Value} (h : ApH w wr g bS n l v ws) (he : Ext wr wr') : ApH w wr' g bS n l v ws :=
  ⟨h.bk.ext he, own_fr h.row (he.fr (fun _ => False)) (fun _ _ h => h), h.len, fun j h1 h2 => (h.ts j h1 h2).ext he, h.map.ext he, h.ext.trans he⟩
/-- The key is noted, the atom appended, the box set. -/
theorem ApH.step {w wr wu wb w9 : World} {g bS n : Nat} {l : List At} {v v9 vt : Value} {ws : List Value} {a : At} (h : ApH w wr g bS n l v ws) (hg : w.heap.size ≤ g) (hb : w.heap.size ≤ bS)
    (ht : Ts (fun k => w.heap.size ≤ k ∧ v.ownBlock ≠ some k ∧ k ≠ g ∧ k ≠ bS) wr vt a.terms) (hn : a.keyS ∉ l.map At.keyS)
    (hmu : MapV wu bS (n + 1) (updV (pinF (fun t => decide (t ∈ l.map At.keyS))) a.keyS (some (.bool true)))) (hgu : wr.grownBy wu (some bS)) (he : Ext wu wb)
    (hr : w9.ownsRow w.heap.size 61 3 v9 (l.length + 1) (acells l ws ++ [.bool a.neg, .string a.rel, vt])) (hgr : wb.grownBy w9 v.ownBlock) (hL : Lands wb v v9) :
    ApH w (w9.setCell ⟨g, 0, none⟩ v9) g bS (n + 1) (addA l a) v9 (ws ++ [vt]) := by
  have el : addA l a = l ++ [a] := by rw [addA, if_neg hn]
  have hgb : g ≠ bS := h.map.ne h.bk
  have hfu : Fr (fun k => k = bS) wr wu := (grown_fr hgu).mono (fun k _ e => by injection e with e; exact e.symm)
  have hvb : ∀ k, v.ownBlock = some k → k ≠ bS := fun k hk => h.map.ne_own h.row hk
  have hvg : ∀ k, v.ownBlock = some k → k ≠ g := fun k hk => own_bk h.row h.bk (by decide) hk
  have s1 := hfu.size; have s2 := he.size; have s3 := hgr.size
  have hbk0 : Bk wb g 25 [v, .slice none 0 0] := (h.bk.fr hfu hgb).ext he
  have hbk9 : Bk w9 g 25 [v, .slice none 0 0] := hbk0.fr (grown_fr hgr) (fun e => hvg g e rfl)
  have hset : Fr (fun k => k = g) w9 (w9.setCell ⟨g, 0, none⟩ v9) := Fr.setCell (S := fun k => k = g) (Fr.refl _ w9) (p := ⟨g, 0, none⟩) (.inl rfl) v9
  have hm9 : MapV w9 bS (n + 1) (updV (pinF (fun t => decide (t ∈ l.map At.keyS))) a.keyS (some (.bool true))) := (hmu.ext he).fr (grown_fr hgr) (fun e => hvb bS e rfl)
  have hv9 : ∀ k, k < wr.heap.size → v.ownBlock ≠ some k → v9.ownBlock ≠ some k := fun k hk hv e => by
    rcases hL with hl | hl
    · exact hv (hl ▸ e)
    · rw [hl] at e; injection e with e; omega
  have hts : ∀ (u : Value) (m : List Tm), Ts (fun k => w.heap.size ≤ k ∧ v.ownBlock ≠ some k ∧ k ≠ g ∧ k ≠ bS) wr u m → Ts (fun k => w.heap.size ≤ k ∧ v9.ownBlock ≠ some k ∧ k ≠ g ∧ k ≠ bS) (w9.setCell ⟨g, 0, none⟩ v9) u m := fun u m hu =>
    (((((hu.mono (G := fun k => (w.heap.size ≤ k ∧ v.ownBlock ≠ some k ∧ k ≠ g ∧ k ≠ bS) ∧ k < wr.heap.size) (fun k hk hh => ⟨hh, hk⟩)).fr hfu (fun k hk => hk.1.2.2.2)).ext he).fr (grown_fr hgr) (fun k hk => hk.1.2.1)).fr hset (fun k hk => hk.1.2.2.1)).mono
      (fun k _ hk => ⟨hk.1.1, hv9 k hk.2 hk.1.2.1, hk.1.2.2.1, hk.1.2.2.2⟩)
  rw [el]
  refine ⟨hbk9.set 0 v9, ?_, by simp [h.len], fun j h1 h2 => ?_, ?_, ?_⟩
  · rw [acells_snoc h.len, List.length_append, List.length_singleton]
    exact own_fr hr hset (fun k hk e => own_bk hr hbk9 (by decide) hk e)
  · rcases Nat.lt_or_ge j l.length with hj | hj
    · rw [List.getElem_append_left (by have := h.len; omega), List.getElem_append_left hj]
      exact hts _ _ (h.ts j hj (by have := h.len; omega))
    · have hjl : j = l.length := by simp at h1; omega
      subst hjl
      rw [List.getElem_append_right (by have := h.len; omega), List.getElem_append_right (by omega)]
      simp only [h.len, Nat.sub_self, List.getElem_singleton]
      exact hts _ _ ht
  · rw [List.map_append, List.map_singleton, ← pinF_snoc]
    exact hm9.fr hset (fun e => hgb e.symm)
  · refine (((hfu.new h.ext (fun k hk => by omega)).trans he).grown hgr (fun k hk => own_ge h.row hk)).setCell (p := ⟨g, 0, none⟩) hg _
end Go.Proofs.YtiahaofjmcjdiaaDoor
