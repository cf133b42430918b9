/- Words for the walk of HomomorphismApplies: the two rows of numbers, the rows of atoms wanted. -/
import Derived.Test.YtiahaofjmcjdiaaDoorSc
namespace Go.Proofs.YtiahaofjmcjdiaaDoor
open Go.RowKit

structure ApV (W wr : World) (g : Nat) (v0 v : Value) (T0 T tv ti : List Tm) (vv vi : Value) : Prop where
  num : NumB wr g g v T
  pre : T0 <+: T
  kv : ∀ t ∈ tv, t.key ∈ T
  ki : ∀ t ∈ ti, t.key ∈ T
  rv : wr.ownsRow W.heap.size 3 1 vv tv.length ((tv.map (numT T)).map I64)
  ri : wr.ownsRow W.heap.size 3 1 vi ti.length ((ti.map (numT T)).map I64)
  ne : ∀ k, vv.ownBlock = some k → vi.ownBlock ≠ some k
  fr : Fr (fun k => k = g ∨ v0.ownBlock = some k) W wr
  land : v.ownBlock = v0.ownBlock ∨ ∀ k, v.ownBlock = some k → W.heap.size ≤ k
theorem own_ext' {w w' : World} {base size n : Nat} {e : TypeId} {v : Value} {xs : List Value} (h : w.ownsRow base e size v n xs) (he : Ext w w') : w'.ownsRow base e size v n xs := own_fr h (he.fr (fun _ => False)) (fun _ _ h => h)
theorem ApV.fore {W wr wr' : World} {g : Nat} {v0 v vv vi : Value} {T0 T tv ti : List Tm} (h : ApV W wr g v0 v T0 T tv ti vv vi) (he : Ext wr wr') : ApV W wr' g v0 v T0 T tv ti vv vi :=
  ⟨h.num.ext he, h.pre, h.kv, h.ki, own_ext' h.rv he, own_ext' h.ri he, h.ne, h.fr.ext he, h.land⟩
theorem nums_pre {T T' l : List Tm} (h : ∀ t ∈ l, t.key ∈ T) (hp : T <+: T') : l.map (numT T) = l.map (numT T') := List.map_congr_left (fun t ht => (numT_pre (h t ht) hp).symm)
theorem ApV.of {W wr wr' : World} {g : Nat} {v0 v v' vv vi : Value} {T0 T tv ti : List Tm} {t : Tm} (h : ApV W wr g v0 v T0 T tv ti vv vi) (hn : NumB wr' g g v' (addT T t)) (hf : Fr (fun k => k = g ∨ v.ownBlock = some k) wr wr') (hl : v'.ownBlock = v.ownBlock ∨ ∀ k, v'.ownBlock = some k → wr.heap.size ≤ k) : ApV W wr' g v0 v' T0 (addT T t) tv ti vv vi := by
  have hs := h.fr.size
  have hp := addT_pre T t
  refine ⟨hn, h.pre.trans hp, fun u hu => hp.subset (h.kv u hu), fun u hu => hp.subset (h.ki u hu), ?_, ?_, h.ne, h.fr.comp hf (fun k hk => ?_), ?_⟩
  · rw [← nums_pre h.kv hp]
    exact own_fr h.rv hf (fun k hk e => by rcases e with e | e; exact own_bk h.rv h.num.cell (by decide) hk e; exact own_ne h.rv h.num.row (by decide) hk e)
  · rw [← nums_pre h.ki hp]
    exact own_fr h.ri hf (fun k hk e => by rcases e with e | e; exact own_bk h.ri h.num.cell (by decide) hk e; exact own_ne h.ri h.num.row (by decide) hk e)
  · rcases hk with hk | hk
    · exact .inl (.inl hk)
    · rcases h.land with e | e
      · exact .inl (.inr (e ▸ hk))
      · exact .inr (e k hk)
  · rcases hl with e | e
    · rw [e]; exact h.land
    · exact .inr (fun k hk => by have := e k hk; omega)
theorem ApV.pushV {W wr wb w9 : World} {g : Nat} {v0 v vv vv' vi : Value} {T0 T tv ti : List Tm} {t : Tm} (h : ApV W wr g v0 v T0 T tv ti vv vi) (hk : t.key ∈ T) (he : Ext wr wb) (hr : w9.ownsRow W.heap.size 3 1 vv' (tv.length + 1) ((tv.map (numT T)).map I64 ++ [I64 (numT T t)])) (hg : wb.grownBy w9 vv.ownBlock) (hL : Lands wb vv vv') : ApV W w9 g v0 v T0 T (tv ++ [t]) ti vv' vi := by
  have hb := h.fore he
  refine ⟨hb.num.fr (grown_fr hg) (fun e => own_bk hb.rv hb.num.cell (by decide) e rfl) (fun k hk1 e => own_ne hb.rv hb.num.row (by decide) e hk1), h.pre, fun u hu => ?_, h.ki, ?_, own_fr hb.ri (grown_fr hg) (fun k hk1 e => h.ne k e hk1), fun k hk1 e => ?_, hb.fr.comp (grown_fr hg) (fun k hk1 => .inr (own_ge hb.rv hk1)), h.land⟩
  · rcases List.mem_append.1 hu with hu | hu
    · exact h.kv u hu
    · rw [List.mem_singleton.1 hu]; exact hk
  · simpa using hr
  · rcases hL with hl | hl
    · exact h.ne k (hl ▸ hk1) e
    · rw [hl] at hk1
      injection hk1 with hk1
      have := (hb.ri.lt k e).2
      omega
theorem ApV.pushI {W wr wb w9 : World} {g : Nat} {v0 v vv vi vi' : Value} {T0 T tv ti : List Tm} {t : Tm} (h : ApV W wr g v0 v T0 T tv ti vv vi) (hk : t.key ∈ T) (he : Ext wr wb) (hr : w9.ownsRow W.heap.size 3 1 vi' (ti.length + 1) ((ti.map (numT T)).map I64 ++ [I64 (numT T t)])) (hg : wb.grownBy w9 vi.ownBlock) (hL : Lands wb vi vi') : ApV W w9 g v0 v T0 T tv (ti ++ [t]) vv vi' := by
  have hb := h.fore he
  refine ⟨hb.num.fr (grown_fr hg) (fun e => own_bk hb.ri hb.num.cell (by decide) e rfl) (fun k hk1 e => own_ne hb.ri hb.num.row (by decide) e hk1), h.pre, h.kv, fun u hu => ?_, own_fr hb.rv (grown_fr hg) (fun k hk1 e => h.ne k hk1 e), ?_, fun k hk1 e => ?_, hb.fr.comp (grown_fr hg) (fun k hk1 => .inr (own_ge hb.ri hk1)), h.land⟩
  · rcases List.mem_append.1 hu with hu | hu
    · exact h.ki u hu
    · rw [List.mem_singleton.1 hu]; exact hk
  · simpa using hr
  · rcases hL with hl | hl
    · exact h.ne k hk1 (hl ▸ e)
    · rw [hl] at e
      injection e with e
      have := (hb.rv.lt k hk1).2
      omega

theorem info_bool : (Tryd.prog.info? 4).map (fun i => (i.zero, i.size, i.bytes)) = some (some (.bool false), 1, 1) := by kernel_rfl
abbrev NbV (a : At) : Value := .bool a.neg
/-- The atoms wanted, and their signs. -/
structure ApW (W wr : World) (T : List Tm) (L : List At) (vw vn : Value) (ws : List Value) : Prop where
  rw : wr.ownsRow W.heap.size 58 2 vw L.length (rcells (L.map (rat T)) ws)
  len : ws.length = L.length
  ins : ∀ j (h : j < L.length) (h' : j < ws.length), Ins (fun k => W.heap.size ≤ k ∧ vw.ownBlock ≠ some k ∧ vn.ownBlock ≠ some k) wr ws[j] (L[j].terms.map (numT T))
  rn : wr.ownsRow W.heap.size 4 1 vn L.length (L.map NbV)
  ext : Ext W wr
theorem ApW.fore {W wr wr' : World} {T : List Tm} {L : List At} {vw vn : Value} {ws : List Value} (h : ApW W wr T L vw vn ws) (he : Ext wr wr') : ApW W wr' T L vw vn ws :=
  ⟨own_ext' h.rw he, h.len, fun j h1 h2 => (h.ins j h1 h2).ext he, own_ext' h.rn he, h.ext.trans he⟩
theorem lands_ne {wb wr : World} {v v' : Value} (hL : Lands wb v v') (hs : wr.heap.size ≤ wb.heap.size) {k : Nat} (hk : k < wr.heap.size) (h : v.ownBlock ≠ some k) : v'.ownBlock ≠ some k := fun e => by
  rcases hL with hl | hl
  · exact h (hl ▸ e)
  · rw [hl] at e; injection e with e; omega
theorem ApW.push {W wr wb w9 wc wf : World} {T : List Tm} {L : List At} {vw vw' vn vn' vt : Value} {ws : List Value} {a : At} (h : ApW W wr T L vw vn ws)
    (ht : Ins (fun k => W.heap.size ≤ k ∧ vw.ownBlock ≠ some k ∧ vn.ownBlock ≠ some k) wr vt (a.terms.map (numT T))) (he : Ext wr wb)
    (hr : w9.ownsRow W.heap.size 58 2 vw' (L.length + 1) (rcells (L.map (rat T)) ws ++ [.string a.rel, vt])) (hg : wb.grownBy w9 vw.ownBlock) (hL : Lands wb vw vw') (he2 : Ext w9 wc)
    (hr2 : wf.ownsRow W.heap.size 4 1 vn' (L.length + 1) (L.map NbV ++ [.bool a.neg])) (hg2 : wc.grownBy wf vn.ownBlock) (hL2 : Lands wc vn vn') : ApW W wf T (L ++ [a]) vw' vn' (ws ++ [vt]) := by
  have s1 := he.size; have s2 := hg.size; have s3 := he2.size; have s4 := hg2.size
  have hb := h.fore he
  have hn9 := own_fr hb.rn (grown_fr hg) (fun k hk e => own_ne hb.rn hb.rw (by decide) hk e)
  have hins : ∀ (u : Value) (z : List Int), Ins (fun k => W.heap.size ≤ k ∧ vw.ownBlock ≠ some k ∧ vn.ownBlock ≠ some k) wr u z → Ins (fun k => W.heap.size ≤ k ∧ vw'.ownBlock ≠ some k ∧ vn'.ownBlock ≠ some k) wf u z := fun u z hu =>
    (((((hu.mono (G := fun k => (W.heap.size ≤ k ∧ vw.ownBlock ≠ some k ∧ vn.ownBlock ≠ some k) ∧ k < wr.heap.size) (fun k hk hh => ⟨hh, hk⟩)).ext he).fr (grown_fr hg) (fun k hk => hk.1.2.1)).ext he2).fr (grown_fr hg2) (fun k hk => hk.1.2.2)).mono
      (fun k _ hk => ⟨hk.1.1, lands_ne hL s1 hk.2 hk.1.2.1, lands_ne hL2 (by omega) hk.2 hk.1.2.2⟩)
  refine ⟨?_, by simp [h.len], fun j h1 h2 => ?_, by simpa using hr2, ?_⟩
  · have hw := own_fr (own_ext' hr he2) (grown_fr hg2) (fun k hk e => by
      have h2 := own_ne (own_ext' hr he2) (own_ext' hn9 he2) (by decide) hk
      exact h2 e)
    rw [List.map_append, List.map_singleton, rcells_snoc (by rw [List.length_map]; exact h.len), List.length_append, List.length_singleton]
    exact hw
  · rcases Nat.lt_or_ge j L.length with hj | hj
    · rw [List.getElem_append_left (by have := h.len; omega), List.getElem_append_left hj]
      exact hins _ _ (h.ins j hj (by have := h.len; omega))
    · have hjl : j = L.length := by simp at h1; omega
      subst hjl
      rw [List.getElem_append_right (by have := h.len; omega), List.getElem_append_right (by omega)]
      simp only [h.len, Nat.sub_self, List.getElem_singleton]
      exact hins _ _ ht
  · exact ((hb.ext.grown hg (fun k hk => own_ge hb.rw hk)).trans he2).grown hg2 (fun k hk => own_ge h.rn hk)
theorem ApW.ras {W wr : World} {T : List Tm} {L : List At} {vw vn : Value} {ws : List Value} (h : ApW W wr T L vw vn ws) : Ras (fun k => W.heap.size ≤ k) wr vw (L.map (rat T)) := by
  obtain ⟨A, c, rfl, hc, hcl⟩ := Cl.of_own h.rw
  refine ⟨A, c, ws, by simp, by simpa using hc, by simpa using h.len, hcl.mono (fun k _ hk => hk.2), fun j hj hj' => ?_⟩
  simp only [List.getElem_map, rat]
  exact (h.ins j (by simpa using hj) hj').mono (fun k _ hk => hk.1)

theorem dbl_snoc (T : List Tm) (L : List At) (a : At) {k : Nat} (h : k < L.length) : dblB T (L.take (k + 1)) a = (dblB T (L.take k) a || decide (L[k].neg = a.neg ∧ rat T a = rat T L[k])) := by
  unfold dblB
  rw [List.take_succ_eq_append_getElem h, List.any_append]
  simp
/-- One atom in a slice of its own. -/
theorem ras_one {F : Nat → Prop} {w : World} {b : Nat} {rl : ByteArray} {v : Value} {zs : List Int} (hb : Bk w b 58 [.string rl, v]) (hi : Ins F w v zs) : Ras (fun _ => True) w (.slice (some ⟨b, 0, none⟩) 1 1) [⟨rl, zs⟩] :=
  ⟨_, _, [v], rfl, Nat.le_refl _, rfl, Cl.bk hb, fun j h h' => by
    obtain rfl : j = 0 := by simp at h; omega
    exact hi.mono (fun _ _ _ => trivial)⟩
/-- Atom i of a slice, as a slice. -/
theorem ras_at {F : Nat → Prop} {w : World} {ad : Addr} {n c : Nat} {xs : List RAt} (h : Ras F w (.slice (some ad) n c) xs) {i : Nat} (hi : i < xs.length) : Ras (fun _ => True) w (.slice (some (ad.add (i * 2))) 1 (c - i)) [xs[i]] := by
  obtain ⟨A, c', vs, e, hc, hl, hcl, hin⟩ := h
  injection e with e1 e2 e3
  subst e1 e3
  obtain ⟨ad', e', -, c0, c1⟩ := hcl.ratom hi (by omega)
  injection e' with e'
  subst e'
  refine ⟨_, _, [vs[i]'(by omega)], rfl, by simp; omega, rfl, .inr ⟨_, rfl, trivial, fun j hj => ?_⟩, fun j h1 h2 => ?_⟩
  · have hj2 : j < 2 := by simpa [rcells] using hj
    rcases (show j = 0 ∨ j = 1 by omega) with rfl | rfl
    · rw [add_zero]; exact c0
    · have : (ad.add (i * 2)).add 1 = ⟨(ad.add (i * 2)).block, (ad.add (i * 2)).off + 1, none⟩ := by simp [Addr.add]
      rw [this]; exact c1
  · obtain rfl : j = 0 := by simp at h1; omega
    exact (hin i hi (by omega)).mono (fun _ _ _ => trivial)
end Go.Proofs.YtiahaofjmcjdiaaDoor
