/- Distinct. -/
import Derived.Test.YtjpkaljndfgkjaaZc
import Derived.Test.YtjpkaljndfgkjaaRowB
import Derived.Test.YtjpkaljndfgkjaaPermM
import Derived.Test.YtjpkaljndfgkjaaShelf
import Derived.BigRegion
import Derived.Deep.RegionLaw
import Derived.Shelf.Spec.SlicesInsertGrow
namespace Go.Proofs.Ytjpkaljndfgkjaa
open Go.RowKit Go.Maps

/-- What Permutation leaves. -/
def PermPost (w : World) (bs : List Nat) (R : Option (List Nat × Nat)) (e : Ending) (w' : World) : Prop :=
  Ext w w' ∧ match R with
    | none => e = .returned (.tuple #[.slice none 0 0, .agg #[.slice none 0 0, .int .i64 0], .int .i64 36])
    | some (l, p) => ∃ A c A' c', e = .returned (.tuple #[.slice A l.length c, .agg #[.slice A' bs.length c', .int .i64 (p : Int)], .int .i64 0]) ∧ (l.length = 0 ∨ ∃ g, A = some ⟨g, 0, none⟩) ∧ In w' (.slice A l.length c) l ∧ By w' (.slice A' bs.length c') bs
theorem iota_get {m i : Nat} (h : i < m) : (List.range m).getD i 0 = i := by simp [List.getD, h]
/-- The row while it is filled: the first k are in place. -/
def fillP (m k : Nat) : List Value := (List.range m).map fun i => if i < k then I64 i else I64 0
theorem fillP_length (m k : Nat) : (fillP m k).length = m := by simp [fillP]
theorem fillP_zero (m : Nat) : fillP m 0 = List.replicate m (.int .i64 0) := by
  refine List.ext_getElem (by simp [fillP]) (fun i h1 h2 => ?_)
  simp [fillP]
theorem fillP_succ {m k : Nat} (_h : k < m) : (fillP m k).set k (I64 k) = fillP m (k + 1) := by
  refine List.ext_getElem (by simp [fillP]) (fun i h1 h2 => ?_)
  rw [List.getElem_set]
  by_cases e : k = i
  · subst e; simp [fillP]
  · rw [if_neg e]
    simp only [fillP, List.getElem_map, List.getElem_range]
    by_cases h : i < k
    · rw [if_pos h, if_pos (by omega)]
    · rw [if_neg h, if_neg (by omega)]
theorem fillP_all (m : Nat) : fillP m m = (List.range m).map I64 := by
  refine List.ext_getElem (by simp [fillP]) (fun i h1 h2 => ?_)
  have : i < m := by rw [fillP_length] at h1; exact h1
  simp [fillP, this]
theorem four_new (w : World) (t0 t1 t2 t3 : TypeId) (x0 x1 x2 x3 : List Value) (W : World) (hW : W = (((w.alloc (.cells x0.toArray t0)).alloc (.cells x1.toArray t1)).alloc (.cells x2.toArray t2)).alloc (.cells x3.toArray t3)) :
    Bk W w.heap.size t0 x0 ∧ Bk W (w.heap.size + 1) t1 x1 ∧ Bk W (w.heap.size + 1 + 1) t2 x2 ∧ Bk W (w.heap.size + 1 + 1 + 1) t3 x3 ∧ Ext w W := by
  subst hW
  have k0 := Bk.new w t0 x0
  have k1 := Bk.new (w.alloc (.cells x0.toArray t0)) t1 x1
  have k2 := Bk.new ((w.alloc (.cells x0.toArray t0)).alloc (.cells x1.toArray t1)) t2 x2
  have k3 := Bk.new (((w.alloc (.cells x0.toArray t0)).alloc (.cells x1.toArray t1)).alloc (.cells x2.toArray t2)) t3 x3
  rw [show (w.alloc (.cells x0.toArray t0)).heap.size = w.heap.size + 1 by simp] at k1
  rw [show ((w.alloc (.cells x0.toArray t0)).alloc (.cells x1.toArray t1)).heap.size = w.heap.size + 1 + 1 by simp] at k2
  rw [show (((w.alloc (.cells x0.toArray t0)).alloc (.cells x1.toArray t1)).alloc (.cells x2.toArray t2)).heap.size = w.heap.size + 1 + 1 + 1 by simp] at k3
  exact ⟨((k0.alloc _).alloc _).alloc _, (k1.alloc _).alloc _, k2.alloc _, k3, ((((Ext.refl w).alloc _).alloc _).alloc _).alloc _⟩
/-- What stands beside the row: the tape, the result's tape, the reader. -/
def PEnv (w wr : World) (S : Value) (bs : List Nat) (pos q : Int) : Prop :=
  Bk wr w.heap.size 25 [S, .int .i64 pos] ∧ Bk wr (w.heap.size + 1) 25 [.slice none 0 0, .int .i64 0] ∧ Rd wr (w.heap.size + 1 + 1) S q ∧ By wr S bs ∧ Ext w wr
theorem PEnv.ext {w wr w' : World} {S : Value} {bs : List Nat} {pos q : Int} (h : PEnv w wr S bs pos q) (he : Ext wr w') : PEnv w w' S bs pos q :=
  ⟨h.1.ext he, h.2.1.ext he, Bk.ext h.2.2.1 he, h.2.2.2.1.ext he, h.2.2.2.2.trans he⟩
theorem PEnv.set {w wr : World} {S : Value} {bs : List Nat} {pos q : Int} {ns : List Nat} (h : PEnv w wr S bs pos q) (hb : Bk wr (w.heap.size + 1 + 1 + 1) 3 (ns.map I64)) (i : Nat) (u : Value) : PEnv w (wr.setCell ⟨w.heap.size + 1 + 1 + 1, i, none⟩ u) S bs pos q := by
  have hm : Mod (w.heap.size + 1 + 1 + 1) wr (wr.setCell ⟨w.heap.size + 1 + 1 + 1, i, none⟩ u) := (Mod.refl _ wr).setCell (.inl rfl) u
  refine ⟨hm.bk h.1 (by omega), hm.bk h.2.1 (by omega), hm.bk h.2.2.1 (by omega), h.2.2.2.1.mod hb (fun d hd => ?_) hm, h.2.2.2.2.setCell (by simp; omega) _⟩
  obtain ⟨n, _, e⟩ := List.mem_map.1 hd
  cases e
theorem PEnv.mod {w wr w' : World} {A : Option Addr} {n c : Nat} {bs : List Nat} {pos q r : Int} (h : PEnv w wr (.slice A n c) bs pos q) (hm : Mod (w.heap.size + 1 + 1) wr w') (hr : Rd w' (w.heap.size + 1 + 1) (.slice A n c) r) : PEnv w w' (.slice A n c) bs pos r :=
  ⟨hm.bk h.1 (by omega), hm.bk h.2.1 (by omega), hr, h.2.2.2.1.mod h.2.2.1 (rd_u8 _ _ ⟨_, _, _, rfl⟩) hm, h.2.2.2.2.mod hm (by omega)⟩
/-- What the reference's Permutation leaves. -/
def RPermPost (w : World) (R : Option (List Nat × Nat)) (e : Ending) (w' : World) : Prop :=
  Ext w w' ∧ match R with
    | none => e = .returned (.tuple #[.slice none 0 0, .int .i64 (-1)])
    | some (l, p) => ∃ A c, e = .returned (.tuple #[.slice A l.length c, .int .i64 (p : Int)]) ∧ (l.length = 0 ∨ ∃ g, A = some ⟨g, 0, none⟩) ∧ In w' (.slice A l.length c) l
theorem Row.set {w : World} {base g n c i : Nat} {t : TypeId} {z u : Value} {xs : List Value} (h : Row w base t z (.slice (some ⟨g, 0, none⟩) n c) xs) : Row (w.setCell ⟨g, i, none⟩ u) base t z (.slice (some ⟨g, 0, none⟩) n c) (if i < xs.length then xs.set i u else xs) ∨ ¬ i < xs.length := by
  by_cases hi : i < xs.length
  · left
    rw [if_pos hi]
    rcases h with ⟨e, _⟩ | ⟨g', r, e, h2, h3, h4⟩
    · cases e
    · injection e with e1 e2 e3
      injection e1 with e1
      injection e1 with e1 _ _
      subst e1 e2 e3
      have hb := h3.set i u
      rw [List.set_append_left _ _ hi] at hb
      exact .inr ⟨g, r, by simp, h2, hb, by simpa using h4⟩
  · right; exact hi
theorem Row.put {w : World} {base g n c i : Nat} {t : TypeId} {z u : Value} {xs : List Value} (h : Row w base t z (.slice (some ⟨g, 0, none⟩) n c) xs) (hi : i < xs.length) : Row (w.setCell ⟨g, i, none⟩ u) base t z (.slice (some ⟨g, 0, none⟩) n c) (xs.set i u) := by
  rcases h.set (i := i) (u := u) with h | h
  · rw [if_pos hi] at h; exact h
  · exact absurd hi h
theorem Row.at {w : World} {base g n c i : Nat} {t : TypeId} {z : Value} {xs : List Value} (h : Row w base t z (.slice (some ⟨g, 0, none⟩) n c) xs) (hi : i < xs.length) : w.cell? ⟨g, i, none⟩ = some (xs.getD i undef) ∧ w.frozen? ⟨g, i, none⟩ = false := by
  rcases h with ⟨e, _⟩ | ⟨g', r, e, h2, h3, h4⟩
  · cases e
  · injection e with e1 e2 e3
    injection e1 with e1
    injection e1 with e1 _ _
    subst e1
    refine ⟨?_, h3.free i⟩
    rw [h3.cell (i := i) (by simp; omega)]
    simp [List.getD, hi, List.getElem_append_left hi]
theorem Row.form {w : World} {base : Nat} {t : TypeId} {z v : Value} {xs : List Value} (h : Row w base t z v xs) (h0 : 0 < xs.length) : ∃ g c, v = .slice (some ⟨g, 0, none⟩) xs.length c ∧ base ≤ g := by
  rcases h with ⟨_, e⟩ | ⟨g, r, e, h2, h3, h4⟩
  · subst e; simp at h0
  · exact ⟨g, _, e, h2⟩
/-- append of whatever a slice reads as, nil too. -/
theorem run_append_sl {P : Program} (w : World) (base : Nat) (t ty e : TypeId) (i : TypeInfo) (z : Value) (bytes : Nat) (ht : P.underlying t = some (.slice e)) (hi : P.info? e = some i) (hz : i.zero = some z)
    (hsize : i.size = 1) (hby : i.bytes = bytes) (hzs : z.cells.size = 1) (v : Value) (n : Nat) (xs : List Value) (hown : w.ownsRow base e 1 v n xs) (y : Value) (news : List Value) (hy : Sl w y news)
    (h1 : ∀ u ∈ news, u.oneCell' = true) (h63 : n + news.length ≤ maxLen) (hbytes : (n + news.length) * bytes ≤ 140737488355328) (hbase : base ≤ w.heap.size) :
    ∃ v' w', (Builtin.append_ #[t, t] ty #[v, y]).run P w = .ok v' w' ∧ w'.ownsRow base e 1 v' (n + news.length) (xs ++ news) ∧ w.grownBy w' v.ownBlock := by
  have hy' := hy
  obtain ⟨A, c, rfl, hc, _⟩ := hy
  rcases A with _ | ad
  · obtain rfl : news = [] := by simpa using Sl.none hy'
    refine ⟨v, w, ?_, by simpa using hown, ⟨rfl, rfl, rfl, Nat.le_refl _, fun _ _ _ => rfl⟩⟩
    rcases hown.2 with ⟨rfl, rfl⟩ | ⟨g, cap, cur, rfl, _, _, hnc, _⟩
    · simp [Builtin.append_, run_underlying ht, sizeOf, typeInfo, hi, Builtin.lenOf, Builtin.firstCells]
    · simp [Builtin.append_, run_underlying ht, sizeOf, typeInfo, hi, Builtin.lenOf, Builtin.firstCells, hnc, storeCells]
  · obtain ⟨v', w', hr, h2, h3, _⟩ := run_append_own (P := P) w base t ty e i z 1 bytes ht hi hz hsize hby hzs (by omega) v n xs hown ad news.length c news (by simp) (Sl.cells hy') h1 h63 hbytes hbase
    exact ⟨v', w', hr, h2, h3⟩
theorem step_append_sl {P : Program} {w : World} {ops : Array Oper} {o : Oper} {a : Act} {K : Act → World → Prop} {Q : Exit → Act → World → Prop} {E : Prop} (hgd : o.guard = none) (s y : Operand) (t : TypeId)
    (ho : o.op = .call { callee := .builtin .append, args := #[s, y], argTypes := #[t, t] })
    (base : Nat) (e : TypeId) (i : TypeInfo) (z : Value) (bytes : Nat) (ht : P.underlying t = some (.slice e)) (hi : P.info? e = some i) (hz : i.zero = some z) (hsize : i.size = 1) (hby : i.bytes = bytes) (hzs : z.cells.size = 1)
    (v : Value) (n : Nat) (xs : List Value) (hs : a.eval s = v) (hown : w.ownsRow base e 1 v n xs) (x : Value) (news : List Value) (hx : a.eval y = x) (hsl : Sl w x news) (h1 : ∀ u ∈ news, u.oneCell' = true)
    (h63 : n + news.length ≤ maxLen) (hbytes : (n + news.length) * bytes ≤ 140737488355328) (hbase : base ≤ w.heap.size)
    (h : ∀ v' w', w'.ownsRow base e 1 v' (n + news.length) (xs ++ news) → w.grownBy w' v.ownBlock → K (a.put o.dst v') w') :
    if Region.wanted o (yielded ops a.tmps) = true then Oper.wp P o a w K Q else E := by
  have hw : Region.wanted o (yielded ops a.tmps) = true := by simp [Region.wanted, hgd]
  rw [if_pos hw]
  obtain ⟨v', w', hr, h2, h3⟩ := run_append_sl (P := P) w base t o.type e i z bytes ht hi hz hsize hby hzs v n xs hown x news hsl h1 h63 hbytes hbase
  unfold Oper.wp execOp
  simp only [ho, resolve, invoke, builtin, Sem.run_bind, Sem.run_pure, Result.andThen_ok, List.map_toArray, List.map_cons, List.map_nil, hs, hx, hr]
  exact h v' w' h2 h3
/-- More fuel. -/
theorem uni_more {b : Nat → Nat} {L n l : Nat} {r : Nat × Nat} : ∀ {f g pos : Nat}, f ≤ g → uni b L n l f pos = some r → uni b L n l g pos = some r
  | 0, _, _, _, h => by simp [uni] at h
  | f + 1, 0, _, hfg, _ => by omega
  | f + 1, g + 1, pos, hfg, h => by
    simp only [uni] at h ⊢
    split at h
    · cases h
    · rename_i h1
      rw [if_neg h1]
      split at h
      · rename_i h2; rw [if_pos h2]; exact h
      · rename_i h2; rw [if_neg h2]; exact uni_more (by omega) h
/-- Only the bits used matter. -/
theorem uni_used {b c : Nat → Nat} {L M n l : Nat} : ∀ {f pos x p : Nat}, uni b L n l f pos = some (x, p) → (∀ i, i < p → b i = c i) → p ≤ M → uni c M n l f pos = some (x, p)
  | 0, _, _, _, h, _, _ => by simp [uni] at h
  | f + 1, pos, x, p, h, hb, hM => by
    have hs := uni_some h
    have hw : wrd b pos l = wrd c pos l := wrd_congr (fun i hi => hb _ (by omega))
    simp only [uni] at h ⊢
    split at h
    · cases h
    · rw [if_neg (by omega)]
      split at h
      · rename_i h2; rw [← hw, if_pos h2]; exact h
      · rename_i h2; rw [← hw, if_neg h2]; exact uni_used h hb hM
theorem uni_tape {bs cs : List Nat} {n l pos x p : Nat} (h : uni (bitAt bs) (8 * bs.length) n l (8 * bs.length + 1) pos = some (x, p)) (hb : ∀ i, i < p → bitAt bs i = bitAt cs i) (hl : bs.length ≤ cs.length) :
    uni (bitAt cs) (8 * cs.length) n l (8 * cs.length + 1) pos = some (x, p) :=
  uni_more (by omega) (uni_used h hb (by have := uni_some h; omega))
theorem bitAt_append {bs ms : List Nat} {i : Nat} (h : i < 8 * bs.length) : bitAt bs i = bitAt (bs ++ ms) i := by
  unfold bitAt
  rw [show (bs ++ ms).getD (i / 8) 0 = bs.getD (i / 8) 0 by simp [List.getD, List.getElem?_append_left (show i / 8 < bs.length by omega)]]
theorem own_slice {w : World} {base n : Nat} {e : TypeId} {v : Value} {xs : List Value} (h : w.ownsRow base e 1 v n xs) : ∃ A c, v = .slice A n c := by
  rcases h.2 with ⟨rfl, rfl⟩ | ⟨g, cap, cur, rfl, _⟩
  · exact ⟨_, _, rfl⟩
  · exact ⟨_, _, rfl⟩
theorem own_base {w : World} {base b2 n : Nat} {e : TypeId} {v : Value} {xs : List Value} (h : w.ownsRow base e 1 v n xs) (hb : b2 ≤ base) : w.ownsRow b2 e 1 v n xs := by
  obtain ⟨h1, h2⟩ := h
  refine ⟨h1, ?_⟩
  rcases h2 with h | ⟨g, cap, cur, h3, h4, h5⟩
  · exact .inl h
  · exact .inr ⟨g, cap, cur, h3, by omega, h5⟩
theorem own_of_heap {w w' : World} {base n : Nat} {e : TypeId} {v : Value} {xs : List Value} (h : w.ownsRow base e 1 v n xs) (hh : ∀ g, v.ownBlock = some g → w'.heap[g]? = w.heap[g]?) : w'.ownsRow base e 1 v n xs := by
  obtain ⟨h1, h2⟩ := h
  refine ⟨h1, ?_⟩
  rcases h2 with h | ⟨g, cap, cur, rfl, h4, h5, h6⟩
  · exact .inl h
  · exact .inr ⟨g, cap, cur, rfl, h4, (hh g rfl).trans h5, h6⟩
theorem own_ne {w : World} {base n k : Nat} {e t : TypeId} {v : Value} {xs ys : List Value} (h : w.ownsRow base e 1 v n xs) (hb : Bk w k t ys) (hte : e ≠ t) : ∀ g, v.ownBlock = some g → g ≠ k := by
  rintro g hg rfl
  rcases h.2 with ⟨rfl, _⟩ | ⟨g', cap, cur, rfl, h4, h5, h6⟩
  · simp [Value.ownBlock] at hg
  · simp only [Value.ownBlock] at hg
    injection hg with hg
    subst hg
    unfold Bk at hb
    rw [h5] at hb
    injection hb with hb
    injection hb with _ hb _
    exact hte hb
theorem grown_bk {w w' : World} {row : Option Nat} {k : Nat} {t : TypeId} {xs : List Value} (hg : w.grownBy w' row) (hb : Bk w k t xs) (hne : ∀ g, row = some g → g ≠ k) : Bk w' k t xs :=
  (hg.block k hb.lt (fun e => hne k e.symm rfl)).trans hb
/-- A slice of bytes of the walk's own: its block begins with them. -/
def OB (w : World) (base : Nat) (S : Value) (cs : List Nat) : Prop :=
  (S = .slice none 0 0 ∧ cs = []) ∨ ∃ g cap tl, S = .slice (some ⟨g, 0, none⟩) cs.length cap ∧ cs.length ≤ cap ∧ base ≤ g ∧ Bk w g 5 (cs.map U8 ++ tl)
theorem OB.of_own {w : World} {base n : Nat} {S : Value} {cs : List Nat} (h : w.ownsRow base 5 1 S n (cs.map U8)) : OB w base S cs := by
  obtain ⟨h1, h2⟩ := h
  rw [List.length_map, Nat.mul_one] at h1
  subst h1
  rcases h2 with ⟨rfl, h0⟩ | ⟨g, cap, cur, rfl, h4, h5, h6, h7, h8, h9⟩
  · exact .inl ⟨rfl, List.eq_nil_of_length_eq_zero h0⟩
  · refine .inr ⟨g, cap, cur.toList.drop cs.length, rfl, h6, h4, ?_⟩
    rw [Nat.mul_one] at h9
    unfold Bk
    rw [← h9, List.take_append_drop]
    exact h5
theorem OB.ext {w w' : World} {base : Nat} {S : Value} {cs : List Nat} (h : OB w base S cs) (he : Ext w w') : OB w' base S cs := by
  rcases h with h | ⟨g, cap, tl, h1, h2, h3, h4⟩
  · exact .inl h
  · exact .inr ⟨g, cap, tl, h1, h2, h3, h4.ext he⟩
theorem OB.by {w : World} {base : Nat} {S : Value} {cs : List Nat} (h : OB w base S cs) (hb : ∀ b ∈ cs, b < 256) (hl : cs.length ≤ 1000) : By w S cs := by
  refine ⟨hb, by omega, ?_⟩
  rcases h with ⟨rfl, rfl⟩ | ⟨g, cap, tl, rfl, h2, h3, h4⟩
  · exact (By.nil w).2.2
  · refine ⟨some ⟨g, 0, none⟩, cap, by simp, by simpa using h2, fun _ => ⟨_, rfl, fun i hi => ?_⟩⟩
    rw [add0, h4.cell (i := i) (by simp at hi ⊢; omega), List.getElem_append_left hi]
theorem OB.far {w w' : World} {base k : Nat} {S : Value} {cs : List Nat} {t : TypeId} {ys : List Value} (h : OB w base S cs) (hb : Bk w k t ys) (ht : 5 ≠ t) (hm : Mod k w w') : OB w' base S cs := by
  rcases h with h | ⟨g, cap, tl, h1, h2, h3, h4⟩
  · exact .inl h
  · refine .inr ⟨g, cap, tl, h1, h2, h3, hm.bk h4 ?_⟩
    rintro rfl
    unfold Bk at hb h4
    rw [hb] at h4
    injection h4 with h4
    injection h4 with _ h4 _
    exact ht h4.symm
/-- A bit of a byte turned: the others stay. -/
theorem xor_bits : ∀ (b : Fin 256) (r j : Fin 8), j ≠ r → (b.val ^^^ 2 ^ r.val) / 2 ^ j.val % 2 = b.val / 2 ^ j.val % 2 := by decide +kernel
theorem xor_lt : ∀ (b : Fin 256) (r : Fin 8), b.val ^^^ 2 ^ r.val < 256 := by decide +kernel
theorem bitAt_turn {cs : List Nat} {i j : Nat} (hc : ∀ b ∈ cs, b < 256) (hi : i < 8 * cs.length) (hj : j ≠ i) : bitAt (cs.set (i / 8) (cs.getD (i / 8) 0 ^^^ 2 ^ (i % 8))) j = bitAt cs j := by
  unfold bitAt
  by_cases e : j / 8 = i / 8
  · rw [e]
    have hlt : i / 8 < cs.length := by omega
    have h1 : (cs.set (i / 8) (cs.getD (i / 8) 0 ^^^ 2 ^ (i % 8))).getD (i / 8) 0 = cs.getD (i / 8) 0 ^^^ 2 ^ (i % 8) := by simp [List.getD, hlt]
    rw [h1]
    have h2 : cs.getD (i / 8) 0 < 256 := by
      simp [List.getD, hlt]; exact hc _ (List.getElem_mem hlt)
    exact xor_bits ⟨_, h2⟩ ⟨i % 8, by omega⟩ ⟨j % 8, by omega⟩ (by simp [Fin.ext_iff]; omega)
  · have h1 : (cs.set (i / 8) (cs.getD (i / 8) 0 ^^^ 2 ^ (i % 8))).getD (j / 8) 0 = cs.getD (j / 8) 0 := by
      simp [List.getD, List.getElem?_set_ne (fun h => e h.symm)]
    rw [h1]
theorem stored_far {w : World} {g k : Nat} {x y : Value} (h : g ≠ k) : ((w.setCell ⟨k, 0, none⟩ x).setCell ⟨k, 1, none⟩ y).heap[g]? = w.heap[g]? :=
  (Below.heap_setCell (w.setCell ⟨k, 0, none⟩ x) ⟨k, 1, none⟩ y g h).trans (Below.heap_setCell w ⟨k, 0, none⟩ x g h)
theorem cat_lt {bs ms : List Nat} (h1 : ∀ b ∈ bs, b < 256) (h2 : ∀ b ∈ ms, b < 256) : ∀ b ∈ bs ++ ms, b < 256 := fun b hb => (List.mem_append.1 hb).elim (h1 b) (h2 b)
theorem xor_run : ∀ (b : Fin 256) (r : Fin 8), bits BinOp.xor IntKind.u8 (b.val : Int) ((2 ^ r.val : Nat) : Int) = ((b.val ^^^ 2 ^ r.val : Nat) : Int) := by decide +kernel
theorem xor_at {x r : Nat} (hx : x < 256) (hr : r < 8) (k : Int) (hk : ((2 ^ r : Nat) : Int) = k) : bits BinOp.xor IntKind.u8 (x : Int) k = ((x ^^^ 2 ^ r : Nat) : Int) := by rw [← hk]; exact xor_run ⟨x, hx⟩ ⟨r, hr⟩
theorem OB.put {w : World} {base gb cv d L : Nat} {es : List Nat} {tl : List Value} (hb : Bk w gb 5 (es.map U8 ++ tl)) (hl : es.length = L) (hc : L ≤ cv) (hg : base ≤ gb) (hd : d < es.length) (z : Nat) :
    OB (w.setCell ⟨gb, d, none⟩ (.int .u8 (z : Int))) base (.slice (some ⟨gb, 0, none⟩) L cv) (es.set d z) := by
  subst hl
  have h := hb.set d (.int .u8 (z : Int))
  rw [List.set_append_left _ _ (by simpa using hd)] at h
  refine .inr ⟨gb, cv, tl, by simp, by simpa using hc, hg, ?_⟩
  rw [List.map_set]; exact h
/-- Cells laid into a block that is known whole. -/
theorem Bk.setCells {w : World} {g : Nat} {t : TypeId} : ∀ {vs : List Value} {xs : List Value} {o : Nat}, Bk w g t xs → o + vs.length ≤ xs.length → Bk (w.setCells g o vs) g t (xs.take o ++ vs ++ xs.drop (o + vs.length))
  | [], xs, o, h, _ => by simpa [World.setCells] using h
  | v :: vs, xs, o, h, hl => by
    simp only [World.setCells]
    have hl' : o + (vs.length + 1) ≤ xs.length := by simpa using hl
    have h1 := h.set o v
    have h2 := Bk.setCells (vs := vs) (o := o + 1) h1 (by simp; omega)
    obtain ⟨pre, a, post, hxs, hpre⟩ : ∃ pre a post, xs = pre ++ a :: post ∧ pre.length = o :=
      ⟨xs.take o, xs[o], xs.drop (o + 1), by rw [← List.drop_eq_getElem_cons (by omega), List.take_append_drop], by simp; omega⟩
    subst hxs
    subst hpre
    have e1 : (pre ++ a :: post).set pre.length v = pre ++ v :: post := by simp
    rw [e1] at h2
    have e2 : (pre ++ v :: post).take (pre.length + 1) = pre ++ [v] := by
      rw [show pre ++ v :: post = (pre ++ [v]) ++ post by simp]; exact List.take_left' (by simp)
    have e3 : (pre ++ v :: post).drop (pre.length + 1 + vs.length) = post.drop vs.length := by
      rw [show pre.length + 1 + vs.length = pre.length + (vs.length + 1) by omega, ← List.drop_drop, List.drop_left, List.drop_succ_cons]
    have e4 : (pre ++ a :: post).drop (pre.length + (v :: vs).length) = post.drop vs.length := by
      rw [← List.drop_drop, List.drop_left, List.length_cons, List.drop_succ_cons]
    rw [e2, e3] at h2
    rw [e4, show (pre ++ a :: post).take pre.length = pre by simp]
    simpa using h2
theorem setCells_other (_w : World) (g k : Nat) (h : k ≠ g) : ∀ (vs : List Value) (o : Nat) (w : World), (w.setCells g o vs).heap[k]? = w.heap[k]?
  | [], _, _ => rfl
  | v :: r, o, w => by
    rw [World.setCells, setCells_other w g k h r]
    exact Below.heap_setCell w ⟨g, o, none⟩ v k h
theorem size_nat (w : World) : (Go.sizeOf 38).run Try.prog w = .ok 1 w := by
  obtain ⟨i0, hi0, _, h1, _⟩ := info_parts info_nat
  simp [Go.sizeOf, typeInfo, hi0, h1]
theorem Bk.shape {w : World} {g : Nat} {t : TypeId} {xs : List Value} (h : Bk w g t xs) : w.shape? g = some (t, xs.length) := by
  unfold Bk at h; simp [World.shape?, h]
set_option maxHeartbeats 1600000 in
set_option maxRecDepth 100000 in
/-- There is room behind the row: in place. -/
theorem insert_shift {w : World} {g n r i vb : Nat} {xs : List Value} {x : Value} (hb : Bk w g 38 (xs ++ List.replicate (r + 1) (.slice none 0 0))) (hn : xs.length = n) (hi : i < n) (hn2 : n ≤ 1000) (hr : n + (r + 1) ≤ maxLen)
    (hv : Bk w vb 38 [x]) (hne : vb ≠ g) (h1 : x.oneCell' = true) (h1c : ∀ v ∈ xs, v.oneCell' = true) :
    Calls Try.prog 39 #[.slice (some ⟨g, 0, none⟩) n (n + (r + 1)), .int .i64 (i : Int), .slice (some ⟨vb, 0, none⟩) 1 1] w fun e w' =>
      e = .returned (.slice (some ⟨g, 0, none⟩) (n + 1) (n + (r + 1))) ∧ w' = (w.drew.setCells g (i + 1) (xs.drop i)).setCells g i [x] := by
  obtain ⟨c, hc⟩ : ∃ c, c = n + (r + 1) := ⟨_, rfl⟩
  rw [← hc] at hr ⊢
  have hcs : ∀ j v, xs[j]? = some v → w.cell? ⟨g, j, none⟩ = some v := fun j v hj => by
    obtain ⟨hj1, hj2⟩ := List.getElem?_eq_some_iff.1 hj
    rw [hb.cell (i := j) (by simp; omega), List.getElem_append_left hj1, hj2]
  have hsp : ∀ j, j < n + 1 → (w.cell? ⟨g, j, none⟩).isSome = true := fun j hj => by
    rw [hb.cell (i := j) (by simp; omega)]; rfl
  have hfz : ∀ j, w.frozen? ⟨g, j, none⟩ = false := fun j => hb.free j
  have hvs : ∀ j v, [x][j]? = some v → w.cell? ⟨vb, j, none⟩ = some v := fun j v hj => by
    obtain ⟨hj1, hj2⟩ := List.getElem?_eq_some_iff.1 hj
    rw [hv.cell (i := j) hj1, hj2]
  have hov : ∀ lb cb, (callFunc 59 #[.slice (some ⟨vb, 0, none⟩) 1 1, .slice (some ⟨g, i + 1, none⟩) lb cb]).run Try.prog w = .ok (.value (.bool false)) w := fun lb cb => by
    rw [run_callFunc_extern Try.func59 (by kernel_rfl) (by kernel_rfl) (by kernel_rfl) (e := Extern.SlicesOverlaps.overlaps #[48, 48] #[4]) (by kernel_rfl),
      Lib.run_overlaps_apart w 48 4 38 Try.underlying48 1 size_nat ⟨vb, 0, none⟩ ⟨g, i + 1, none⟩ 1 1 lb cb hne _ _ _ _ hv.shape hb.shape (by simp) (hv.free 0) (hv.free _)]
    rfl
  have hsz : (Try.prog.info? 38).map (·.size) = some 1 := by
    obtain ⟨i0, hi0, _, h1, _⟩ := info_parts info_nat
    rw [hi0]; simp [h1]
  have hdl : (xs.drop i).length = n - i := by rw [List.length_drop, hn]
  have hcp1 : ∀ ty dc sc, (Builtin.copy_ #[48, 48] ty #[.slice (some ⟨g, i + 1, none⟩) (n - i) dc, .slice (some ⟨g, i, none⟩) (n + 1 - i) sc]).run Try.prog w.drew = .ok (goInt (xs.drop i).length) (w.drew.setCells g (i + 1) (xs.drop i)) := fun ty dc sc =>
    run_copy_cells w.drew _ _ ty 38 g (i + 1) (n - i) dc ⟨g, i, none⟩ (n + 1 - i) sc (xs.drop i) Try.underlying48 hsz (by rw [hdl]; simp only [Nat.min_def]; split <;> omega)
      (fun j v hj => by rw [Addr.add_lit]; exact hcs (i + j) v (by rwa [List.getElem?_drop] at hj))
      (fun j hj => hsp _ (by omega)) (fun j hj => hfz _) (fun v hv => h1c v (List.mem_of_mem_drop hv))
  obtain ⟨W1, hW1⟩ : ∃ W1, W1 = w.drew.setCells g (i + 1) (xs.drop i) := ⟨_, rfl⟩
  have hsp1 : ∀ k, k < n + 1 → (W1.cell? ⟨g, k, none⟩).isSome = true := fun k hk => by
    rw [hW1]
    exact isSome_setCells g _ _ w.drew (fun j hj => hsp (i + 1 + j) (by rw [hdl] at hj; omega)) _ (hsp k hk)
  have hcp2 : ∀ (W : World), (∀ x, W.cell? x = W1.cell? x) → (∀ x, W.frozen? x = W1.frozen? x) → ∀ ty dc, (Builtin.copy_ #[48, 48] ty #[.slice (some ⟨g, i, none⟩) (n + 1 - i) dc, .slice (some ⟨vb, 0, none⟩) 1 1]).run Try.prog W = .ok (goInt [x].length) (W.setCells g i [x]) := fun W hWc hWf ty dc =>
    run_copy_cells W _ _ ty 38 g i (n + 1 - i) dc ⟨vb, 0, none⟩ 1 1 [x] Try.underlying48 hsz (by simp only [List.length_singleton, Nat.min_def]; split <;> omega)
      (fun j v hj => by
        rw [Addr.add_lit, hWc, hW1, World.cell?_setCells_out g _ _ _ _ (fun h _ => absurd h hne), Nat.zero_add]
        exact hvs j v hj)
      (fun j hj => by rw [hWc]; exact hsp1 _ (by simp at hj; omega)) (fun j hj => by rw [hWf, hW1, World.frozen?_setCells]; exact hfz _) (by simpa using h1)
  rw [← hW1] at hcp1
  have hz1 : ¬ ((i : Int) = (n : Int)) := by omega
  have hw1 : IntKind.i64.wrap ((i : Int) + 1) = (i : Int) + 1 := by rw [IntKind.wrap_i64]; omega
  have hb1 : (0 : Int) ≤ (i : Int) + 1 := by omega
  have hin : i ≤ n := by omega
  have htn : ((i : Int) + 1).toNat = i + 1 := by omega
  have hb2 : ¬ (c = i + 1) := by omega
  have hb3 : (i : Int) ≤ (n : Int) + 1 := by omega
  have hb4 : ¬ (c = i) := by omega
  have hc1 : ¬ (c : Int) < (n : Int) + 1 := by omega
  have hc2 : (n : Int) + 1 ≤ (c : Int) := by omega
  have hc3 : c ≤ 9223372036854775807 := by simp only [maxLen] at hr; omega
  have HW1 := Lib.hid hW1
  clear hcs hsp hfz hvs hb hv hdl hsz hsp1 hW1 hn hc hr
  go_enter Try.func39, Try.ntmps39
  go_wp2_with (simp only [hov])
  go_region_law (refine step_copy_runI rfl _ _ 48 48 rfl _ _ (by simp [Act.eval, Act.put]) (by simp [Act.eval, Act.put]) (hcp1 _ _ _) ?_)
  go_wp2_with (at_builtin; refine wpList_copy_runI _ rfl _ _ 48 48 rfl _ _ rfl rfl (hcp2 _ (fun _ => rfl) (fun _ => rfl) _ _) ?_)
  go_ret
  first | exact ⟨rfl, rfl⟩ | exact ⟨rfl, by rw [HW1.out]⟩
set_option maxHeartbeats 1600000 in
set_option maxRecDepth 100000 in
/-- There is no room: a new row. -/
theorem insert_grow {w : World} {g n i vb : Nat} {xs : List Value} {x : Value} (hb : Bk w g 38 xs) (hn : xs.length = n) (hi : i < n) (hn2 : n ≤ 1000)
    (hv : Bk w vb 38 [x]) (h1 : x.oneCell' = true) (h1c : ∀ v ∈ xs, v.oneCell' = true) :
    Calls Try.prog 39 #[.slice (some ⟨g, 0, none⟩) n n, .int .i64 (i : Int), .slice (some ⟨vb, 0, none⟩) 1 1] w fun e w' =>
      ∃ G ROW, n + 1 ≤ G ∧ G ≤ maxLen ∧ ROW = xs.take i ++ List.replicate (n + 1 - i) (.slice none 0 0) ++ List.replicate (G - (n + 1)) (.slice none 0 0) ∧ e = .returned (.slice (some ⟨w.heap.size, 0, none⟩) (n + 1) G) ∧
      w' = (((w.alloc (.cells ROW.toArray 38)).drew.setCells w.heap.size i [x]).drew).setCells w.heap.size (i + 1) (xs.drop i) := by
  have hcs : ∀ j v, xs[j]? = some v → w.cell? ⟨g, j, none⟩ = some v := fun j v hj => by
    obtain ⟨hj1, hj2⟩ := List.getElem?_eq_some_iff.1 hj
    rw [hb.cell (i := j) hj1, hj2]
  have hvs : ∀ j v, [x][j]? = some v → w.cell? ⟨vb, j, none⟩ = some v := fun j v hj => by
    obtain ⟨hj1, hj2⟩ := List.getElem?_eq_some_iff.1 hj
    rw [hv.cell (i := j) hj1, hj2]
  obtain ⟨i0, hi0, hz0, hzs, hzb⟩ := info_parts info_nat
  have hsz : (Try.prog.info? 38).map (·.size) = some 1 := by rw [hi0]; simp [hzs]
  have hbw := hb.lt
  have hvw := hv.lt
  have hkk : (n : Int) + 1 - (i : Int) = ((n + 1 - i : Nat) : Int) := by omega
  have hik : i + (n + 1 - i) = n + 1 := by omega
  have hold : (Builtin.firstCells i0.size i (.slice (some ⟨g, 0, none⟩) i n)).run Try.prog w.drew = .ok (xs.take i).toArray w.drew := by
    rw [hzs]
    exact run_firstCells_some w.drew 1 i ⟨g, 0, none⟩ i n (xs.take i) (by rw [List.length_take]; omega) (fun j v hj => by
      rw [Addr.add_lit, Nat.zero_add]
      rw [List.getElem?_take] at hj
      split at hj
      · exact hcs j v hj
      · cases hj)
  have hrz : ∀ ty, (Builtin.append_ #[48, 3] ty #[.slice (some ⟨g, 0, none⟩) i n, .int .i64 ((n : Int) + 1 - (i : Int))]).run Try.prog w =
      .ok (.slice (some ⟨w.heap.size, 0, none⟩) (n + 1) (grownCap w (n + 1) n 38)) (w.drew.alloc (.cells ((xs.take i).toArray ++ Builtin.zeroCells (Value.slice none 0 0).cells (n + 1 - i) ++ Builtin.zeroCells (Value.slice none 0 0).cells (grownCap w (n + 1) n 38 - (n + 1))) 38)) := fun ty => by
    have h := Lib.run_append_grow_zeros w 48 3 ty 38 i0 _ .i64 .i64 Try.underlying48 Try.underlying3 hi0 hz0 (some ⟨g, 0, none⟩) i n (xs.take i) hold (n + 1 - i) (by omega) (by omega) (by omega) (by omega) (by rw [hzb]; omega) (by rw [hzb, hik]; exact growslice_fits (by omega) (by omega))
    rw [hik] at h
    rw [hkk]
    exact h
  have hGn := grownCap_ge w (n + 1) n 38
  have hGm := grownCap_le_maxLen w (n + 1) n 38 (by unfold maxLen; omega)
  rw [zeroCells_one _ rfl, zeroCells_one _ rfl] at hrz
  generalize grownCap w (n + 1) n 38 = G at *
  obtain ⟨ROW, hROW⟩ : ∃ ROW : List Value, ROW = xs.take i ++ List.replicate (n + 1 - i) (.slice none 0 0) ++ List.replicate (G - (n + 1)) (.slice none 0 0) := ⟨_, rfl⟩
  rw [List.append_toArray, List.append_toArray, ← hROW] at hrz
  have hRl : ROW.length = G := by rw [hROW]; simp; omega
  obtain ⟨W1, hW1⟩ : ∃ W1, W1 = w.drew.alloc (.cells ROW.toArray 38) := ⟨_, rfl⟩
  rw [← hW1] at hrz
  have hbk : Bk W1 w.heap.size 38 ROW := by rw [hW1]; exact Bk.new w.drew _ ROW
  have hN : ∀ j, j < n + 1 → (W1.cell? ⟨w.heap.size, j, none⟩).isSome = true := fun j hj => by rw [hbk.cell (i := j) (by omega)]; rfl
  have hNf : ∀ j, W1.frozen? ⟨w.heap.size, j, none⟩ = false := fun j => hbk.free j
  have hex : Ext w W1 := by rw [hW1]; exact (Ext.refl w).drew.alloc _
  have hcpA : ∀ (W : World), (∀ x, W.cell? x = W1.cell? x) → (∀ x, W.frozen? x = W1.frozen? x) → ∀ ty dc, (Builtin.copy_ #[48, 48] ty #[.slice (some ⟨w.heap.size, i, none⟩) (n + 1 - i) dc, .slice (some ⟨vb, 0, none⟩) 1 1]).run Try.prog W = .ok (goInt [x].length) (W.setCells w.heap.size i [x]) := fun W hWc hWf ty dc =>
    run_copy_cells W _ _ ty 38 w.heap.size i (n + 1 - i) dc ⟨vb, 0, none⟩ 1 1 [x] Try.underlying48 hsz (by simp only [List.length_singleton, Nat.min_def]; split <;> omega)
      (fun j v hj => by rw [Addr.add_lit, hWc, Nat.zero_add]; exact hex.cell (hvs j v hj))
      (fun j hj => by rw [hWc]; exact hN _ (by simp at hj; omega)) (fun j hj => by rw [hWf]; exact hNf _) (by simpa using h1)
  have hG63 : G ≤ 9223372036854775807 := by simp only [maxLen] at hGm; omega
  have hGi : ¬ (G = i) := by omega
  have hGim : ¬ (G = i + 1) := by omega
  have hci : ¬ (n = i) := by omega
  have hbN : g ≠ w.heap.size := by omega
  have hdl : (xs.drop i).length = n - i := by rw [List.length_drop, hn]
  have hcpB : ∀ (W : World), (∀ y, W.cell? y = (W1.setCells w.heap.size i [x]).cell? y) → (∀ y, W.frozen? y = (W1.setCells w.heap.size i [x]).frozen? y) → ∀ ty dc sc, (Builtin.copy_ #[48, 48] ty #[.slice (some ⟨w.heap.size, i + 1, none⟩) (n - i) dc, .slice (some ⟨g, i, none⟩) (n - i) sc]).run Try.prog W = .ok (goInt (xs.drop i).length) (W.setCells w.heap.size (i + 1) (xs.drop i)) := fun W hWc hWf ty dc sc =>
    run_copy_cells W _ _ ty 38 w.heap.size (i + 1) (n - i) dc ⟨g, i, none⟩ (n - i) sc (xs.drop i) Try.underlying48 hsz (by rw [hdl]; simp only [Nat.min_def]; split <;> omega)
      (fun j v hj => by
        rw [Addr.add_lit, hWc, World.cell?_setCells_out _ _ _ _ _ (fun h _ => absurd h hbN)]
        exact hex.cell (hcs (i + j) v (by rwa [List.getElem?_drop] at hj)))
      (fun j hj => by rw [hWc]; exact isSome_setCells _ _ _ _ (fun t ht => hN _ (by simp at ht; omega)) _ (hN _ (by omega)))
      (fun j hj => by rw [hWf, World.frozen?_setCells]; exact hNf _) (fun v hv => h1c v (List.mem_of_mem_drop hv))
  subst hW1
  have hE1 : ∀ x, ((w.alloc (.cells ROW.toArray 38)).drew).cell? x = (w.drew.alloc (.cells ROW.toArray 38)).cell? x := fun x => rfl
  have hE2 : ∀ x, ((w.alloc (.cells ROW.toArray 38)).drew).frozen? x = (w.drew.alloc (.cells ROW.toArray 38)).frozen? x := fun x => rfl
  have hF1 : ∀ y, (((w.alloc (.cells ROW.toArray 38)).drew.setCells w.heap.size i [x]).drew).cell? y = ((w.drew.alloc (.cells ROW.toArray 38)).setCells w.heap.size i [x]).cell? y := fun y => rfl
  have hF2 : ∀ y, (((w.alloc (.cells ROW.toArray 38)).drew.setCells w.heap.size i [x]).drew).frozen? y = ((w.drew.alloc (.cells ROW.toArray 38)).setCells w.heap.size i [x]).frozen? y := fun y => rfl
  have hz2 : ¬ ((i : Int) = (n : Int)) := by omega
  have hz3 : (n : Int) < (n : Int) + 1 := by omega
  have hw1 : IntKind.i64.wrap ((i : Int) + 1) = (i : Int) + 1 := by rw [IntKind.wrap_i64]; omega
  have hb1 : (0 : Int) ≤ (i : Int) + 1 := by omega
  have hin : i ≤ n := by omega
  have htn : ((i : Int) + 1).toNat = i + 1 := by omega
  have hb3 : (i : Int) ≤ (n : Int) := by omega
  have HROW := Lib.hid hROW; have HGN := Lib.hid (And.intro hGn hGm)
  clear hkk hik hold hROW hRl hGn hGm hbk hN hNf hex hcs hvs hb hv hdl hsz hn
  go_enter Try.func39, Try.ntmps39
  go_wp2_with (first
    | (at_builtin; refine Lib.wpList_append_run _ rfl _ _ _ _ rfl _ _ rfl rfl _ _ (hrz _) ?_)
    | (at_builtin; refine wpList_copy_runI _ rfl _ _ 48 48 rfl _ _ rfl rfl (hcpA _ hE1 hE2 _ _) ?_))
  go_region_law (refine step_copy_runI rfl _ _ 48 48 rfl (.slice (some ⟨w.heap.size, i + 1, none⟩) (n - i) (G - (i + 1))) (.slice (some ⟨g, i, none⟩) (n - i) (n - i)) (by simp [Act.eval, Act.put]) (by simp [Act.eval, Act.put]) (hcpB _ hF1 hF2 3 (G - (i + 1)) (n - i)) ?_)
  go_wp2
  go_ret
  exact ⟨G, ROW, HGN.out.1, HGN.out.2, HROW.out, rfl, rfl⟩
theorem ins_list {xs : List Value} {i : Nat} {x z : Value} (hi : i < xs.length) (k : Nat) :
    ((xs.take i ++ List.replicate (xs.length + 1 - i) z ++ List.replicate k z).take i ++ [x] ++ (xs.take i ++ List.replicate (xs.length + 1 - i) z ++ List.replicate k z).drop (i + 1)).take (i + 1) ++ xs.drop i ++
      ((xs.take i ++ List.replicate (xs.length + 1 - i) z ++ List.replicate k z).take i ++ [x] ++ (xs.take i ++ List.replicate (xs.length + 1 - i) z ++ List.replicate k z).drop (i + 1)).drop (i + 1 + (xs.drop i).length) =
    (xs.take i ++ [x] ++ xs.drop i) ++ List.replicate k z := by
  obtain ⟨pre, post, hxs, hpre⟩ : ∃ pre post, xs = pre ++ post ∧ pre.length = i := ⟨xs.take i, xs.drop i, (List.take_append_drop _ _).symm, by simp; omega⟩
  subst hxs
  subst hpre
  have e1 : (pre ++ post).take pre.length = pre := List.take_left
  have e2 : (pre ++ post).drop pre.length = post := List.drop_left
  rw [e1, e2, show (pre ++ post).length + 1 - pre.length = post.length + 1 by simp; omega]
  have e3 : (pre ++ List.replicate (post.length + 1) z ++ List.replicate k z).take pre.length = pre := by rw [List.append_assoc]; exact List.take_left
  have e4 : (pre ++ List.replicate (post.length + 1) z ++ List.replicate k z).drop (pre.length + 1) = List.replicate post.length z ++ List.replicate k z := by
    rw [List.append_assoc, ← List.drop_drop, List.drop_left, List.replicate_succ]; rfl
  rw [e3, e4]
  have e5 : (pre ++ [x] ++ (List.replicate post.length z ++ List.replicate k z)).take (pre.length + 1) = pre ++ [x] := List.take_left' (by simp)
  have e6 : (pre ++ [x] ++ (List.replicate post.length z ++ List.replicate k z)).drop (pre.length + 1 + post.length) = List.replicate k z := by
    rw [← List.drop_drop, List.drop_left' (by simp), List.drop_left' (by simp)]
  rw [e5, e6]
theorem shift_list {xs : List Value} {i r : Nat} {x z : Value} (hi : i < xs.length) :
    (((xs ++ List.replicate (r + 1) z).take (i + 1) ++ xs.drop i ++ (xs ++ List.replicate (r + 1) z).drop (i + 1 + (xs.drop i).length)).take i ++ [x] ++
      ((xs ++ List.replicate (r + 1) z).take (i + 1) ++ xs.drop i ++ (xs ++ List.replicate (r + 1) z).drop (i + 1 + (xs.drop i).length)).drop (i + [x].length)) =
    (xs.take i ++ [x] ++ xs.drop i) ++ List.replicate r z := by
  obtain ⟨pre, a, post, hxs, hpre⟩ : ∃ pre a post, xs = pre ++ a :: post ∧ pre.length = i :=
    ⟨xs.take i, xs[i], xs.drop (i + 1), by rw [← List.drop_eq_getElem_cons hi, List.take_append_drop], by simp; omega⟩
  subst hxs
  subst hpre
  have e1 : (pre ++ a :: post).take pre.length = pre := List.take_left
  have e2 : (pre ++ a :: post).drop pre.length = a :: post := List.drop_left
  rw [e1, e2]
  have e3 : (pre ++ a :: post ++ List.replicate (r + 1) z).take (pre.length + 1) = pre ++ [a] := by
    rw [show pre ++ a :: post ++ List.replicate (r + 1) z = (pre ++ [a]) ++ (post ++ List.replicate (r + 1) z) by simp]; exact List.take_left' (by simp)
  have e4 : (pre ++ a :: post ++ List.replicate (r + 1) z).drop (pre.length + 1 + (a :: post).length) = List.replicate r z := by
    rw [List.drop_append, List.drop_eq_nil_of_le (by simp), List.nil_append, List.drop_replicate]
    congr 1; simp; omega
  rw [e3, e4]
  have e5 : (pre ++ [a] ++ (a :: post) ++ List.replicate r z).take pre.length = pre := by
    rw [show pre ++ [a] ++ (a :: post) ++ List.replicate r z = pre ++ ([a] ++ (a :: post) ++ List.replicate r z) by simp]; exact List.take_left
  have e6 : (pre ++ [a] ++ (a :: post) ++ List.replicate r z).drop (pre.length + [x].length) = (a :: post) ++ List.replicate r z := by
    rw [show pre ++ [a] ++ (a :: post) ++ List.replicate r z = (pre ++ [a]) ++ ((a :: post) ++ List.replicate r z) by simp]; exact List.drop_left' (by simp)
  rw [e5, e6]; simp
set_option maxHeartbeats 800000 in
set_option maxRecDepth 100000 in
/-- At the end. -/
theorem insert_end {w : World} {base vb n : Nat} {v x : Value} {xs : List Value} (hrow : Row w base 38 (.slice none 0 0) v xs) (hbase : base ≤ w.heap.size) (hn : n = xs.length) (hn2 : n ≤ 1000)
    (hv : Bk w vb 38 [x]) (h1 : x.oneCell' = true) :
    Calls Try.prog 39 #[v, .int .i64 (n : Int), .slice (some ⟨vb, 0, none⟩) 1 1] w fun e w' =>
      ∃ v', e = .returned v' ∧ Row w' base 38 (.slice none 0 0) v' (xs ++ [x]) ∧ w.grownBy w' v.ownBlock := by
  obtain ⟨i0, hi0, hz0, hz1, hz2⟩ := info_parts info_nat
  have HI := Lib.hid (And.intro hi0 (And.intro hz0 (And.intro hz1 hz2))); clear hi0 hz0 hz1 hz2
  have hcx : w.cell? ((⟨vb, 0, none⟩ : Addr).add 0) = some x := by rw [add_zero]; exact hv.cell (i := 0) (by simp)
  have HC := Lib.hid hcx; have HN := Lib.hid hn; have HV := Lib.hid hv
  clear hcx hn hv
  have hrow' := hrow
  have HR := Lib.hid hrow'
  clear hrow'
  rcases hrow with ⟨rfl, rfl⟩ | ⟨g, r, hvv, hbg, hbk, hcm⟩
  · obtain rfl : n = 0 := HN.out
    go_enter Try.func39, Try.ntmps39
    go_wp2_with (first | (at_builtin; refine wpList_append_row rfl _ _ 48 rfl base 38 i0 (.slice none 0 0) 24 Try.underlying48 HI.out.1 HI.out.2.1 HI.out.2.2.1 HI.out.2.2.2 rfl _ [] rfl HR.out ⟨vb, 0, none⟩ 1 x rfl HC.out h1 ?c3 ?c4 hbase ?_))
    case c3 => simp [maxLen]
    case c4 => simp
    intro v' w' hr' hgr
    have HR' := Lib.hid hr'; have HG := Lib.hid hgr
    clear hr' hgr
    go_wp2_with fail
    go_ret
    exact ⟨_, rfl, HR'.out, HG.out⟩
  · rw [← HN.out] at hvv hcm
    subst hvv
    have hcm' : n + r ≤ 9223372036854775807 := by simp only [maxLen] at hcm; omega
    have hnr : (n : Int) ≤ (n : Int) + (r : Int) := by omega
    by_cases hr0 : r = 0
    · subst hr0
      clear hbk
      go_enter Try.func39, Try.ntmps39
      go_wp2_with (first | (at_builtin; refine wpList_append_row rfl _ _ 48 rfl base 38 i0 (.slice none 0 0) 24 Try.underlying48 HI.out.1 HI.out.2.1 HI.out.2.2.1 HI.out.2.2.2 rfl _ xs rfl HR.out ⟨vb, 0, none⟩ 1 x rfl HC.out h1 ?c3 ?c4 hbase ?_))
      case c3 => rw [← HN.out]; simp only [maxLen]; omega
      case c4 => rw [← HN.out]; omega
      intro v' w' hr' hgr
      have HR' := Lib.hid hr'; have HG := Lib.hid hgr
      clear hr' hgr
      go_wp2_with fail
      go_ret
      exact ⟨_, rfl, HR'.out, HG.out⟩
    · have hne : ¬ (n + r = n) := by omega
      clear hbk
      go_enter Try.func39, Try.ntmps39
      go_wp2_with (first | (at_builtin; refine wpList_append_row rfl _ _ 48 rfl base 38 i0 (.slice none 0 0) 24 Try.underlying48 HI.out.1 HI.out.2.1 HI.out.2.2.1 HI.out.2.2.2 rfl _ xs rfl HR.out ⟨vb, 0, none⟩ 1 x rfl HC.out h1 ?c3 ?c4 hbase ?_))
      case c3 => rw [← HN.out]; simp only [maxLen]; omega
      case c4 => rw [← HN.out]; omega
      intro v' w' hr' hgr
      have HR' := Lib.hid hr'; have HG := Lib.hid hgr
      clear hr' hgr
      go_wp2_with fail
      go_ret
      exact ⟨_, rfl, HR'.out, HG.out⟩
theorem setCells_grown {w w' : World} {g o : Nat} {vs : List Value} {row : Option Nat} (h : w.grownBy w' row) (hg : row = some g ∨ w.heap.size ≤ g) : w.grownBy (w'.setCells g o vs) row := by
  induction vs generalizing w' o with
  | nil => exact h
  | cons v r ih =>
    rw [World.setCells]
    refine ih ⟨h.os, h.tape, h.output, by simpa [World.setCell] using h.size, fun k hk hn => ?_⟩
    refine (Below.heap_setCell w' ⟨g, o, none⟩ v k ?_).trans (h.block k hk hn)
    rintro rfl
    rcases hg with e | e
    · exact hn e.symm
    · omega
/-- slices.Insert of one element into a row. -/
theorem insert_row {w : World} {base i vb : Nat} {v x : Value} {xs : List Value} (hrow : Row w base 38 (.slice none 0 0) v xs) (hbase : base ≤ w.heap.size) (hi : i ≤ xs.length) (hn2 : xs.length ≤ 1000)
    (hv : Bk w vb 38 [x]) (hne : ∀ g, v.ownBlock = some g → vb ≠ g) (h1 : x.oneCell' = true) (h1c : ∀ v ∈ xs, v.oneCell' = true) :
    Calls Try.prog 39 #[v, .int .i64 (i : Int), .slice (some ⟨vb, 0, none⟩) 1 1] w fun e w' =>
      ∃ v', e = .returned v' ∧ Row w' base 38 (.slice none 0 0) v' (xs.take i ++ [x] ++ xs.drop i) ∧ w.grownBy w' v.ownBlock := by
  rcases Nat.lt_or_ge i xs.length with hlt | hge
  · have hrow' := hrow
    rcases hrow with ⟨rfl, rfl⟩ | ⟨g, r, rfl, hbg, hbk, hcm⟩
    · simp at hlt
    · have hne' := hne g rfl
      cases r with
      | zero =>
        rw [List.replicate_zero, List.append_nil] at hbk
        refine (insert_grow hbk rfl hlt hn2 hv h1 h1c).mono ?_
        rintro e w' ⟨G, ROW, hG1, hG2, hR, rfl, rfl⟩
        have hb0 : Bk ((w.alloc (.cells ROW.toArray 38)).drew) w.heap.size 38 ROW := Bk.new w _ ROW
        have hRl : ROW.length = G := by rw [hR]; simp; omega
        have hb1 := Bk.setCells (vs := [x]) (o := i) hb0 (by simp; omega)
        have hb2 := Bk.setCells (vs := xs.drop i) (o := i + 1) (Bk.drew hb1) (by simp; omega)
        have hl := ins_list (x := x) (z := .slice none 0 0) hlt (G - (xs.length + 1))
        rw [← hR] at hl
        rw [show i + [x].length = i + 1 from rfl, hl] at hb2
        refine ⟨_, rfl, .inr ⟨w.heap.size, G - (xs.length + 1), ?_, hbase, hb2, by simp; omega⟩, ?_⟩
        · have : (xs.take i ++ [x] ++ xs.drop i).length = xs.length + 1 := by simp; omega
          rw [this]; congr 1; omega
        · have h0 : w.grownBy ((w.alloc (.cells ROW.toArray 38)).drew) (Value.ownBlock (.slice (some ⟨g, 0, none⟩) xs.length (xs.length + 0))) := Mod.of_ext (g := g) ((Ext.refl w).alloc _).drew
          have h2 := setCells_grown (g := w.heap.size) (o := i) (vs := [x]) h0 (.inr (Nat.le_refl _))
          exact setCells_grown (g := w.heap.size) (o := i + 1) (vs := xs.drop i) (w' := ((w.alloc (.cells ROW.toArray 38)).drew.setCells w.heap.size i [x]).drew) ⟨h2.os, h2.tape, h2.output, h2.size, h2.block⟩ (.inr (Nat.le_refl _))
      | succ r =>
        refine (insert_shift hbk rfl hlt hn2 hcm hv hne' h1 h1c).mono ?_
        rintro e w' ⟨rfl, rfl⟩
        have hb1 := Bk.setCells (vs := xs.drop i) (o := i + 1) (Bk.drew hbk) (by simp; omega)
        have hb2 := Bk.setCells (vs := [x]) (o := i) hb1 (by simp; omega)
        rw [shift_list hlt] at hb2
        refine ⟨_, rfl, .inr ⟨g, r, ?_, hbg, hb2, by simp; omega⟩, ?_⟩
        · have : (xs.take i ++ [x] ++ xs.drop i).length = xs.length + 1 := by simp; omega
          rw [this]; congr 1; omega
        · have h0 : w.grownBy w.drew (some g) := Mod.of_ext (g := g) (Ext.refl w).drew
          exact setCells_grown (setCells_grown h0 (.inl rfl)) (.inl rfl)
  · obtain rfl : i = xs.length := by omega
    refine (insert_end hrow hbase rfl hn2 hv h1).mono ?_
    rintro e w' ⟨v', rfl, h2, h3⟩
    refine ⟨v', rfl, ?_, h3⟩
    rw [List.take_length, List.drop_length, List.append_nil]; exact h2
/-- A number put into an ascending list. -/
def putL (l : List Nat) (x : Nat) : List Nat := l.takeWhile (· < x) ++ x :: l.dropWhile (· < x)
def Asc (l : List Nat) : Prop := l.Pairwise (· < ·)
theorem putL_length (l : List Nat) (x : Nat) : (putL l x).length = l.length + 1 := by
  have h := congrArg List.length (List.takeWhile_append_dropWhile (p := fun a => decide (a < x)) (l := l))
  simp only [List.length_append] at h
  simp only [putL, List.length_append, List.length_cons]; omega
theorem mem_putL {l : List Nat} {x y : Nat} : y ∈ putL l x ↔ y = x ∨ y ∈ l := by
  have h : y ∈ l ↔ y ∈ l.takeWhile (· < x) ++ l.dropWhile (· < x) := by rw [List.takeWhile_append_dropWhile]
  rw [h]
  simp only [putL, List.mem_append, List.mem_cons]
  constructor
  · rintro (h | h | h)
    · exact .inr (.inl h)
    · exact .inl h
    · exact .inr (.inr h)
  · rintro (h | h | h)
    · exact .inr (.inl h)
    · exact .inl h
    · exact .inr (.inr h)
theorem takeWhile_lt {l : List Nat} {x : Nat} : ∀ y ∈ l.takeWhile (· < x), y < x := by
  induction l with
  | nil => simp
  | cons a l ih =>
    by_cases ha : a < x
    · have h : decide (a < x) = true := by simpa using ha
      simp only [List.takeWhile_cons, h, if_true]
      intro y hy
      rcases List.mem_cons.1 hy with rfl | hy
      · exact ha
      · exact ih y hy
    · have h : decide (a < x) = false := by simpa using ha
      simp [h]
/-- The split at k, where all before are below x and none from k on. -/
theorem split_at {l : List Nat} {x k : Nat} (hk : k ≤ l.length) (h1 : ∀ i, i < k → l.getD i 0 < x) (h2 : ∀ i, k ≤ i → i < l.length → x ≤ l.getD i 0) :
    l.takeWhile (· < x) = l.take k ∧ l.dropWhile (· < x) = l.drop k := by
  induction l generalizing k with
  | nil => simp
  | cons a l ih =>
    cases k with
    | zero =>
      have := h2 0 (Nat.le_refl _) (by simp)
      simp only [List.getD_cons_zero] at this
      have hn : decide (a < x) = false := by simp; omega
      simp [hn]
    | succ k =>
      have ha := h1 0 (by omega)
      simp only [List.getD_cons_zero] at ha
      have hn : decide (a < x) = true := by simp; omega
      have := ih (k := k) (by simpa using hk) (fun i hi => by simpa using h1 (i + 1) (by omega)) (fun i hi hl => by simpa using h2 (i + 1) (by omega) (by simpa using hl))
      simp [hn, this]
theorem asc_dropWhile {l : List Nat} {x : Nat} (h : Asc l) : ∀ y ∈ l.dropWhile (· < x), x ≤ y := by
  induction l with
  | nil => simp
  | cons a l ih =>
    have hp := List.pairwise_cons.1 h
    by_cases ha : a < x
    · have : decide (a < x) = true := by simpa using ha
      simp only [List.dropWhile_cons, this, if_true]
      exact ih hp.2
    · have : decide (a < x) = false := by simpa using ha
      simp only [List.dropWhile_cons, this]
      intro y hy
      rcases List.mem_cons.1 hy with rfl | hy
      · omega
      · have := hp.1 y hy; omega
theorem asc_putL {l : List Nat} {x : Nat} (h : Asc l) (hx : x ∉ l) : Asc (putL l x) := by
  unfold putL Asc
  have hl : Asc (l.takeWhile (· < x) ++ l.dropWhile (· < x)) := by rw [List.takeWhile_append_dropWhile]; exact h
  obtain ⟨p1, p2, p3⟩ := List.pairwise_append.1 hl
  refine List.pairwise_append.2 ⟨p1, List.pairwise_cons.2 ⟨fun y hy => ?_, p2⟩, fun a ha b hb => ?_⟩
  · have h1 := asc_dropWhile h y hy
    have h2 : y ≠ x := fun e => hx (e ▸ (List.dropWhile_sublist _).subset hy)
    omega
  · rcases List.mem_cons.1 hb with rfl | hb
    · exact takeWhile_lt a ha
    · exact p3 a ha b hb
theorem putL_last {l : List Nat} {x : Nat} (h : ∀ y ∈ l, y < x) : putL l x = l ++ [x] := by
  obtain ⟨h1, h2⟩ := split_at (l := l) (x := x) (k := l.length) (Nat.le_refl _) (fun i hi => by simp only [List.getD, List.getElem?_eq_getElem hi, Option.getD_some]; exact h _ (List.getElem_mem hi)) (fun i h1 h2 => by omega)
  rw [putL, h1, h2, List.take_length, List.drop_length]
/-- What is put: the number drawn, or the last where it is there already. -/
def pick (l : List Nat) (r j : Nat) : Nat := if r ∈ l then j else r
theorem pick_new {l : List Nat} {r j : Nat} (h : ∀ y ∈ l, y < j) : pick l r j ∉ l := by
  unfold pick
  split
  · intro hm; have := h _ hm; omega
  · assumption
theorem pick_le {l : List Nat} {r j : Nat} (h : r < j + 1) : pick l r j < j + 1 := by unfold pick; split <;> omega
/-- m numbers more, the next from below j + 1 on. -/
def dist (b : Nat → Nat) (L : Nat) : Nat → Nat → List Nat → Nat → Option (List Nat × Nat)
  | 0, _, l, pos => some (l, pos)
  | m + 1, j, l, pos => match uni b L (j + 1) (blen j) (L + 1) pos with
    | none => none
    | some (r, p) => dist b L m (j + 1) (putL l (pick l r j)) p
theorem dist_none {b : Nat → Nat} {L m j pos : Nat} {l : List Nat} (h : uni b L (j + 1) (blen j) (L + 1) pos = none) : dist b L (m + 1) j l pos = none := by simp [dist, h]
theorem dist_some {b : Nat → Nat} {L m j pos r p : Nat} {l : List Nat} (h : uni b L (j + 1) (blen j) (L + 1) pos = some (r, p)) : dist b L (m + 1) j l pos = dist b L m (j + 1) (putL l (pick l r j)) p := by simp [dist, h]
/-- What holds of the set while it is drawn. -/
structure SetOk (l : List Nat) (j c : Nat) : Prop where
  asc : Asc l
  lt : ∀ y ∈ l, y < j
  len : l.length = c
theorem SetOk.put {l : List Nat} {j c r : Nat} (h : SetOk l j c) (hr : r < j + 1) : SetOk (putL l (pick l r j)) (j + 1) (c + 1) :=
  ⟨asc_putL h.asc (pick_new h.lt), fun y hy => by
    rcases mem_putL.1 hy with rfl | hy
    · exact pick_le hr
    · have := h.lt y hy; omega, by rw [putL_length, h.len]⟩
theorem asc_get {l : List Nat} (h : Asc l) {i j : Nat} (hij : i < j) (hj : j < l.length) : l.getD i 0 < l.getD j 0 := by
  have := List.pairwise_iff_getElem.1 h i j (by omega) hj hij
  simpa [List.getD, hj, show i < l.length by omega] using this
/-- Cmp, where the first is not above the second. -/
theorem cmp_le {w : World} {u v : Value} {a b : Nat} (ha : Nv w u a) (hb : Nv w v b) (h : a ≤ b) :
    Calls Try.prog 22 #[u, v] w fun e w' => ∃ c : Int, e = .returned (.int .i64 c) ∧ c ≤ 0 ∧ Qt w w' :=
  (cmp_nv ha hb).mono (by
    rintro e w' ⟨rfl, hq⟩
    refine ⟨_, rfl, ?_, hq⟩
    rcases Nat.lt_or_ge a b with hl | hl
    · rw [cmpI_lt hl]; omega
    · rw [cmpI_eq (by omega)]; omega)
theorem cmp_lt {w : World} {u v : Value} {a b : Nat} (ha : Nv w u a) (hb : Nv w v b) (h : a < b) :
    Calls Try.prog 22 #[u, v] w fun e w' => e = .returned (.int .i64 (-1)) ∧ Qt w w' :=
  (cmp_nv ha hb).mono (by rintro e w' ⟨rfl, hq⟩; exact ⟨by rw [cmpI_lt h], hq⟩)
theorem cmp_ge {w : World} {u v : Value} {a b : Nat} (ha : Nv w u a) (hb : Nv w v b) (h : b ≤ a) :
    Calls Try.prog 22 #[u, v] w fun e w' => ∃ c : Int, e = .returned (.int .i64 c) ∧ 0 ≤ c ∧ Qt w w' :=
  (cmp_nv ha hb).mono (by
    rintro e w' ⟨rfl, hq⟩
    refine ⟨_, rfl, ?_, hq⟩
    rcases Nat.lt_or_ge b a with hl | hl
    · rw [cmpI_gt hl]; omega
    · rw [cmpI_eq (by omega)]; omega)
/-- Where the search ends. -/
def Found (m y : Nat) (f : Nat → Nat) (k : Nat) : Prop := k ≤ m ∧ (∀ i, i < k → f i < y) ∧ (∀ i, k ≤ i → i < m → y ≤ f i)
/-- What the search returns. -/
def SrchPost (m y : Nat) (f : Nat → Nat) (w : World) (e : Ending) (w' : World) : Prop :=
  ∃ k, e = .returned (.tuple #[.int .i64 ((k : Nat) : Int), .bool (decide (k < m ∧ f k = y))]) ∧ Found m y f k ∧ Qt w w'
set_option maxRecDepth 20000 in
set_option maxHeartbeats 1600000 in
theorem search_ns {w : World} {A : Option Addr} {m c y : Nat} {u : Value} {f : Nat → Nat} (hns : Ns w A m f) (hm : m ≤ 1000) (hu : Nv w u y) (hmono : ∀ i j, i < j → j < m → f i < f j) :
    Calls Try.prog 38 #[.slice A m c, u, .func (.func 22) #[] #[]] w (SrchPost m y f w) := by
  have HNS := Lib.hid hns; have HMO := Lib.hid hmono; have HU := Lib.hid hu
  clear hns hmono hu
  go_enter Try.func38, Try.ntmps38
  go_wp2_with fail
  go_loopw [9, 10] (fun s t wr => ∃ (a b : Nat), a ≤ b ∧ b ≤ m ∧ s = .int .i64 (a : Int) ∧ t = .int .i64 (b : Int) ∧ Hid ((∀ i, i < a → f i < y) ∧ (∀ i, b ≤ i → i < m → y ≤ f i)) ∧ Qt w wr) (fun s t _ => (intOf t).toNat - (intOf s).toNat)
  case atStart => exact ⟨0, m, Nat.zero_le _, Nat.le_refl _, rfl, rfl, Lib.hid ⟨fun i hi => by omega, fun i h1 h2 => by omega⟩, Qt.refl _⟩
  case round =>
    obtain ⟨a, b, hab, hbm, rfl, rfl, HF, hq⟩ := hrel
    by_cases hlt : a < b
    · obtain ⟨h, hh⟩ : ∃ h, h = (a + b) / 2 := ⟨_, rfl⟩
      obtain ⟨s, hs⟩ : ∃ s, s = a + b := ⟨_, rfl⟩
      have hsI : (a : Int) + (b : Int) = (s : Int) := by omega
      have hhI : (s : Int) / 2 = (h : Int) := by omega
      have h1 : a ≤ h := by omega
      have h2 : h < b := by omega
      have hs2 : s ≤ 2000 := by omega
      obtain ⟨ad, B, k, d, rfl, hc, hz⟩ := HNS.out h (by omega)
      replace hc := hq.ext.cell hc
      replace hz := hz.ext hq.ext
      have hu := HU.out.ext hq.ext
      have i1 : (0 : Int) ≤ (h : Int) := by omega
      have i2 : (h : Int) < (m : Int) := by omega
      have i3 : h < m := by omega
      clear hh hs
      by_cases hfy : f h < y
      · go_wp2_with fail
        refine (cmp_lt hz.nv hu hfy).mono ?_
        rintro e w2 ⟨rfl, hq2⟩
        clear hc hz hu hsI hhI
        go_wp2_with fail
        go_roundw
        case rel =>
          refine ⟨h + 1, b, by omega, hbm, by go_num, rfl, Lib.hid ⟨fun i hi => ?_, HF.out.2⟩, hq.trans hq2⟩
          rcases Nat.lt_or_ge i h with hl | hl
          · have := HMO.out i h hl i3; omega
          · obtain rfl : i = h := by omega
            exact hfy
        case measure => simp [intOf]; omega
      · go_wp2_with fail
        refine (cmp_ge hz.nv hu (by omega)).mono ?_
        rintro e w2 ⟨ce, rfl, hce, hq2⟩
        have hce' : ¬ ce < 0 := by omega
        clear hc hz hu hsI hhI hce
        go_wp2_with fail
        go_roundw
        case rel =>
          refine ⟨a, h, h1, by omega, rfl, rfl, Lib.hid ⟨HF.out.1, fun i hi him => ?_⟩, hq.trans hq2⟩
          rcases Nat.lt_or_ge h i with hl | hl
          · have := HMO.out h i hl him; omega
          · obtain rfl : i = h := by omega
            omega
        case measure => simp [intOf]; omega
    · obtain rfl : a = b := by omega
      by_cases ham : a < m
      · obtain ⟨ad, B, k, d, rfl, hc, hz⟩ := HNS.out a ham
        replace hc := hq.ext.cell hc
        replace hz := hz.ext hq.ext
        have hu := HU.out.ext hq.ext
        have i1 : (0 : Int) ≤ (a : Int) := by omega
        have i2 : (a : Int) < (m : Int) := by omega
        have hd : decide (a < m) = true := by simpa using ham
        go_wp2_with fail
        refine (cmp_nv hz.nv hu).mono ?_
        rintro e w2 ⟨rfl, hq2⟩
        have hfy := HF.out.2 a (Nat.le_refl _) ham
        by_cases he : f a = y
        · rw [cmpI_eq he]
          have HE := Lib.hid he
          clear he hfy hc
          go_wp2_with fail
          go_ret2
          exact ⟨a, by rw [decide_eq_true (show a < m ∧ f a = y from ⟨ham, HE.out⟩)]; rfl, ⟨hbm, HF.out.1, HF.out.2⟩, hq.trans hq2⟩
        · rw [cmpI_gt (by omega)]
          have HE := Lib.hid he
          clear he hfy hc
          go_wp2_with fail
          go_ret2
          exact ⟨a, by rw [decide_eq_false (show ¬ (a < m ∧ f a = y) from fun h => HE.out h.2)]; rfl, ⟨hbm, HF.out.1, HF.out.2⟩, hq.trans hq2⟩
      · have hd : decide (a < m) = false := by simpa using ham
        go_wp2_with fail
        go_ret2
        exact ⟨a, by rw [decide_eq_false (show ¬ (a < m ∧ f a = y) from fun h => ham h.1)]; rfl, ⟨hbm, HF.out.1, HF.out.2⟩, hq⟩
/-- Values that are the numbers of a list. -/
def NumsL (w : World) : List Value → List Nat → Prop
  | [], [] => True
  | x :: xs, n :: ns => ((∃ B a d, x = .slice B a d) ∧ Nz w x n) ∧ NumsL w xs ns
  | _, _ => False
theorem NumsL.len {w : World} : ∀ {xs : List Value} {ns : List Nat}, NumsL w xs ns → xs.length = ns.length
  | [], [], _ => rfl
  | _ :: _, _ :: _, h => by simp [NumsL.len h.2]
  | [], _ :: _, h => h.elim
  | _ :: _, [], h => h.elim
theorem NumsL.append {w : World} : ∀ {xs ys : List Value} {ns ms : List Nat}, NumsL w xs ns → NumsL w ys ms → NumsL w (xs ++ ys) (ns ++ ms)
  | [], _, [], _, _, h => h
  | _ :: _, _, _ :: _, _, h, k => ⟨h.1, NumsL.append h.2 k⟩
  | [], _, _ :: _, _, h, _ => h.elim
  | _ :: _, _, [], _, h, _ => h.elim
theorem NumsL.split {w : World} : ∀ {xs : List Value} {ns : List Nat} (k : Nat), NumsL w xs ns → NumsL w (xs.take k) (ns.take k) ∧ NumsL w (xs.drop k) (ns.drop k)
  | [], [], k, _ => by simp [NumsL]
  | x :: xs, n :: ns, 0, h => ⟨trivial, h⟩
  | x :: xs, n :: ns, k + 1, h => ⟨⟨h.1, (NumsL.split k h.2).1⟩, (NumsL.split k h.2).2⟩
  | [], _ :: _, _, h => h.elim
  | _ :: _, [], _, h => h.elim
theorem NumsL.map {w w' : World} (hk : ∀ {x : Value} {ds : List Nat}, Dg w x ds → Dg w' x ds) : ∀ {xs : List Value} {ns : List Nat}, NumsL w xs ns → NumsL w' xs ns
  | [], [], _ => trivial
  | _ :: _, _ :: _, h => ⟨⟨h.1.1, hk h.1.2⟩, NumsL.map hk h.2⟩
  | [], _ :: _, h => h.elim
  | _ :: _, [], h => h.elim
theorem NumsL.get {w : World} : ∀ {xs : List Value} {ns : List Nat}, NumsL w xs ns → ∀ i (hi : i < xs.length), (∃ B a d, xs[i] = .slice B a d) ∧ Nz w xs[i] (ns.getD i 0)
  | _ :: _, _ :: _, h, 0, _ => h.1
  | _ :: _, _ :: _, h, i + 1, hi => by simpa using NumsL.get h.2 i (by simpa using hi)
  | [], [], _, i, hi => by simp at hi
  | [], _ :: _, h, _, _ => h.elim
  | _ :: _, [], h, _, _ => h.elim
theorem NumsL.no32 {w : World} {xs : List Value} {ns : List Nat} (h : NumsL w xs ns) : ∀ d : Nat, U32 d ∉ xs := not_u32 (fun i hi => (h.get i hi).1)
theorem NumsL.no8 {w : World} {xs : List Value} {ns : List Nat} (h : NumsL w xs ns) : ∀ d : Nat, U8 d ∉ xs := by
  intro d hm
  obtain ⟨i, hi, e⟩ := List.getElem_of_mem hm
  obtain ⟨B, a, c, e2⟩ := (h.get i hi).1
  rw [e2] at e; cases e
theorem NumsL.one {w : World} {xs : List Value} {ns : List Nat} (h : NumsL w xs ns) : ∀ v ∈ xs, v.oneCell' = true := by
  intro v hm
  obtain ⟨i, hi, e⟩ := List.getElem_of_mem hm
  obtain ⟨B, a, c, e2⟩ := (h.get i hi).1
  rw [e2] at e; subst e; rfl
/-- A row of the numbers l. -/
def NsL (w : World) (base : Nat) (v : Value) (l : List Nat) : Prop := ∃ vs, Row w base 38 (.slice none 0 0) v vs ∧ NumsL w vs l
theorem NsL.nil (w : World) (base : Nat) : NsL w base (.slice none 0 0) [] := ⟨[], Row.nil _ _ _ _, trivial⟩
theorem NsL.ext {w w' : World} {base : Nat} {v : Value} {l : List Nat} (h : NsL w base v l) (he : Ext w w') : NsL w' base v l :=
  let ⟨vs, h1, h2⟩ := h; ⟨vs, h1.ext he, h2.map (fun k => k.ext he)⟩
theorem NsL.mod {w w' : World} {base g : Nat} {v : Value} {l : List Nat} {t : TypeId} {ys : List Value} (h : NsL w base v l) (hm : Mod g w w') (hb : Bk w g t ys) (hd : ∀ d : Nat, U32 d ∉ ys) (hg : g < base) : NsL w' base v l := by
  obtain ⟨vs, h1, h2⟩ := h
  refine ⟨vs, ?_, h2.map (fun k => k.mod hb hd hm)⟩
  rcases h1 with h | ⟨k, r, e, hk, hbk, hl⟩
  · exact .inl h
  · exact .inr ⟨k, r, e, hk, hm.bk hbk (by omega), hl⟩
theorem NsL.out {w : World} {base : Nat} {v : Value} {l : List Nat} (h : NsL w base v l) : ∃ A c, v = .slice A l.length c ∧ Ns w A l.length (fun i => l.getD i 0) := by
  obtain ⟨vs, h1, h2⟩ := h
  have hl := h2.len
  obtain ⟨A, c, rfl, hc, hx⟩ := h1.sl
  refine ⟨A, c, by rw [hl], fun i hi => ?_⟩
  obtain ⟨ad, rfl, hy⟩ := hx (by omega)
  obtain ⟨⟨B, a, d, e⟩, hz⟩ := h2.get i (by omega)
  exact ⟨ad, B, a, d, rfl, by rw [hy i (by omega), e], by rw [← e]; exact hz⟩
/-- What a change of the row does to what is beside it: nothing. -/
theorem row_far {w w' : World} {base : Nat} {v : Value} {vs : List Value} {l : List Nat} (h1 : Row w base 38 (.slice none 0 0) v vs) (h2 : NumsL w vs l) (hg : w.grownBy w' v.ownBlock) :
    (∀ {x : Value} {ds : List Nat}, Dg w x ds → Dg w' x ds) ∧ (∀ {x : Value} {bs : List Nat}, By w x bs → By w' x bs) ∧ (∀ {k : Nat} {t : TypeId} {ys : List Value}, k < base → Bk w k t ys → Bk w' k t ys) ∧ (∀ {a : World}, a.heap.size ≤ base → Ext a w → Ext a w') := by
  refine ⟨fun h => h1.dg (by simp [U32]) h2.no32 hg h, fun {x bs} h => ?_, fun hk hb => grown_bk hg hb (fun g e => by have := h1.block g e; omega), fun ha he => he.grown hg (fun g e => by have := h1.block g e; omega)⟩
  rcases h1 with ⟨rfl, rfl⟩ | ⟨g, r, rfl, _, h3, _⟩
  · exact h.ext ⟨hg.os, hg.tape, hg.output, hg.size, fun k hk => hg.block k hk (by simp [Value.ownBlock])⟩
  · refine h.mod h3 (fun d hd => ?_) hg
    rcases List.mem_append.1 hd with h | h
    · exact h2.no8 d h
    · have := List.eq_of_mem_replicate h; cases this
/-- What stands beside the row: the tape, the result's tape, the reader. -/
def DEnv (w wr : World) (gR : Nat) (S : Value) (bs : List Nat) (pos q : Int) : Prop :=
  Bk wr w.heap.size 25 [S, .int .i64 pos] ∧ Bk wr (w.heap.size + 1) 25 [.slice none 0 0, .int .i64 0] ∧ Rd wr gR S q ∧ By wr S bs ∧ Ext w wr ∧ w.heap.size + 1 < gR
theorem DEnv.ext {w wr w' : World} {gR : Nat} {S : Value} {bs : List Nat} {pos q : Int} (h : DEnv w wr gR S bs pos q) (he : Ext wr w') : DEnv w w' gR S bs pos q :=
  ⟨h.1.ext he, h.2.1.ext he, Bk.ext h.2.2.1 he, h.2.2.2.1.ext he, h.2.2.2.2.1.trans he, h.2.2.2.2.2⟩
theorem DEnv.mod {w wr w' : World} {gR : Nat} {A : Option Addr} {n c : Nat} {bs : List Nat} {pos q r : Int} (h : DEnv w wr gR (.slice A n c) bs pos q) (hm : Mod gR wr w') (hr : Rd w' gR (.slice A n c) r) : DEnv w w' gR (.slice A n c) bs pos r :=
  ⟨hm.bk h.1 (by have := h.2.2.2.2.2; omega), hm.bk h.2.1 (by have := h.2.2.2.2.2; omega), hr, h.2.2.2.1.mod h.2.2.1 (rd_u8 _ _ ⟨_, _, _, rfl⟩) hm, h.2.2.2.2.1.mod hm (by have := h.2.2.2.2.2; omega), h.2.2.2.2.2⟩
theorem DEnv.row {w wr w' : World} {gR base : Nat} {S v : Value} {bs : List Nat} {pos q : Int} {vs : List Value} {l : List Nat} (h : DEnv w wr gR S bs pos q) (h1 : Row wr base 38 (.slice none 0 0) v vs) (h2 : NumsL wr vs l) (hg : wr.grownBy w' v.ownBlock) (hb : gR < base) : DEnv w w' gR S bs pos q := by
  obtain ⟨_, f2, f3, f4⟩ := row_far h1 h2 hg
  obtain ⟨e1, e2, e3, e4, e5, e6⟩ := h
  exact ⟨f3 (by omega) e1, f3 (by omega) e2, f3 hb e3, f2 e4, f4 (by omega) e5, e6⟩
/-- The search's answer, in words of the list. -/
theorem found_mem {l : List Nat} {y k : Nat} (ha : Asc l) (hf : Found l.length y (fun i => l.getD i 0) k) : (k < l.length ∧ l.getD k 0 = y) ↔ y ∈ l := by
  obtain ⟨h1, h2, h3⟩ := hf
  constructor
  · rintro ⟨hk, e⟩
    rw [← e]
    simp only [List.getD, List.getElem?_eq_getElem hk, Option.getD_some]
    exact List.getElem_mem hk
  · intro hm
    obtain ⟨i, hi, e⟩ := List.getElem_of_mem hm
    have hg : l.getD i 0 = y := by simp [List.getD, hi, e]
    rcases Nat.lt_or_ge i k with hl | hl
    · have := h2 i hl; simp only at this; omega
    · have hkl : k < l.length := by omega
      have h5 := h3 k (Nat.le_refl _) hkl
      simp only at h5
      rcases Nat.lt_or_ge k i with hlt | hge
      · have := asc_get ha hlt hi; omega
      · obtain rfl : i = k := by omega
        exact ⟨hkl, hg⟩
theorem found_put {l : List Nat} {y k : Nat} (hf : Found l.length y (fun i => l.getD i 0) k) : putL l y = l.take k ++ [y] ++ l.drop k := by
  obtain ⟨h1, h2, h3⟩ := hf
  obtain ⟨e1, e2⟩ := split_at h1 h2 h3
  rw [putL, e1, e2]; simp
/-- What Distinct leaves. -/
def DistPost (w : World) (bs : List Nat) (R : Option (List Nat × Nat)) (e : Ending) (w' : World) : Prop :=
  Ext w w' ∧ match R with
    | none => e = .returned (.tuple #[.slice none 0 0, .agg #[.slice none 0 0, .int .i64 0], .int .i64 36])
    | some (l, p) => ∃ A c A' c', e = .returned (.tuple #[.slice A l.length c, .agg #[.slice A' bs.length c', .int .i64 (p : Int)], .int .i64 0]) ∧ Ns w' A l.length (fun i => l.getD i 0) ∧ By w' (.slice A' bs.length c') bs ∧ (∀ ad, A = some ad → w.heap.size ≤ ad.block)
theorem NsL.add {w1 w' : World} {base : Nat} {v v' : Value} {l : List Nat} {B : Option Addr} {a d y : Nat} {vs : List Value} (h1 : Row w1 base 38 (.slice none 0 0) v vs) (h2 : NumsL w1 vs l) (k : Nat)
    (hr : Row w' base 38 (.slice none 0 0) v' (vs.take k ++ [.slice B a d] ++ vs.drop k)) (hg : w1.grownBy w' v.ownBlock) (hx : Nz w1 (.slice B a d) y) : NsL w' base v' (l.take k ++ [y] ++ l.drop k) := by
  obtain ⟨f1, _⟩ := row_far h1 h2 hg
  obtain ⟨s1, s2⟩ := h2.split k
  exact ⟨_, hr, NumsL.append (NumsL.append (s1.map f1) ⟨⟨⟨_, _, _, rfl⟩, f1 hx⟩, trivial⟩) (s2.map f1)⟩
theorem NsL.snoc {w1 w' : World} {base : Nat} {v v' : Value} {l : List Nat} {B : Option Addr} {a d y : Nat} {vs : List Value} (h1 : Row w1 base 38 (.slice none 0 0) v vs) (h2 : NumsL w1 vs l)
    (hr : Row w' base 38 (.slice none 0 0) v' (vs ++ [.slice B a d])) (hg : w1.grownBy w' v.ownBlock) (hx : Nz w1 (.slice B a d) y) : NsL w' base v' (l ++ [y]) := by
  obtain ⟨f1, _⟩ := row_far h1 h2 hg
  exact ⟨_, hr, NumsL.append (h2.map f1) ⟨⟨⟨_, _, _, rfl⟩, f1 hx⟩, trivial⟩⟩
set_option maxRecDepth 20000 in
set_option maxHeartbeats 3200000 in
theorem distinct_any {w : World} {u t : Value} {n m pos : Nat} {bs : List Nat} (hu : Nv w u n) (hn : n ≤ 255) (hm : m ≤ n) (ht : Tp w t bs pos) (hp : pos ≤ 8 * bs.length) :
    Calls Try.prog 16 #[u, .int .i64 (m : Int), t] w (DistPost w bs (dist (bitAt bs) (8 * bs.length) m (n - m) [] pos)) := by
  obtain ⟨s, rfl, hs⟩ := ht
  obtain ⟨A, c, rfl, hc⟩ := hs.parts
  have hd1 : decide ((m : Int) < 0) = false := by simp
  have hd2 : decide ((4096 : Int) < m) = false := by simp; omega
  have hcv : IntKind.u64.wrap (m : Int) = (m : Int) := u64_id (by omega)
  obtain ⟨i0, hi0, hz0, hz1, hz2⟩ := info_parts info_nat
  have HI := Lib.hid (And.intro hi0 (And.intro hz0 (And.intro hz1 hz2))); clear hi0 hz0 hz1 hz2
  obtain ⟨R, hR⟩ : ∃ R, dist (bitAt bs) (8 * bs.length) m (n - m) [] pos = R := ⟨_, rfl⟩
  rw [hR]
  have HR := Lib.hid hR; have HP := Lib.hid hp
  clear hR hp hc
  go_enter Try.func16, Try.ntmps16
  go_wp2_with fail
  have hx0 : Ext w ((w.alloc (.cells #[.slice A bs.length c, .int .i64 (pos : Int)] 25)).alloc (.cells #[.slice none 0 0, .int .i64 0] 25)) := ((Ext.refl w).alloc _).alloc _
  have k0 : Bk ((w.alloc (.cells #[.slice A bs.length c, .int .i64 (pos : Int)] 25)).alloc (.cells #[.slice none 0 0, .int .i64 0] 25)) w.heap.size 25 [.slice A bs.length c, .int .i64 (pos : Int)] := (Bk.new w _ [.slice A bs.length c, .int .i64 (pos : Int)]).alloc _
  have k1 : Bk ((w.alloc (.cells #[.slice A bs.length c, .int .i64 (pos : Int)] 25)).alloc (.cells #[.slice none 0 0, .int .i64 0] 25)) (w.heap.size + 1) 25 [.slice none 0 0, .int .i64 0] := by
    have h := Bk.new (w.alloc (.cells #[.slice A bs.length c, .int .i64 (pos : Int)] 25)) 25 [.slice none 0 0, .int .i64 0]
    rw [show (w.alloc (.cells #[.slice A bs.length c, .int .i64 (pos : Int)] 25)).heap.size = w.heap.size + 1 by simp] at h
    exact h
  generalize ((w.alloc (.cells #[.slice A bs.length c, .int .i64 (pos : Int)] 25)).alloc (.cells #[.slice none 0 0, .int .i64 0] 25)) = W0 at *
  refine (of_nz m (by omega) _).mono ?_
  rintro e w1 ⟨_, rfl, he1, ho⟩
  go_wp2_with fail
  refine (cmp_le ho.nv (hu.ext (hx0.trans he1)) hm).mono ?_
  rintro e w2 ⟨ce, rfl, hce, hq2⟩
  have hce' : ¬ 0 < ce := by omega
  have hx2 := (hx0.trans he1).trans hq2.ext
  have l0 := (k0.ext he1).ext hq2.ext
  have l1 := (k1.ext he1).ext hq2.ext
  have hs2 := hs.ext hx2
  have hu2 := hu.ext hx2
  have d0 := l0.cell (i := 0) (by simp)
  have d1 := l0.cell (i := 1) (by simp)
  simp only [List.getElem_cons_zero, List.getElem_cons_succ] at d0 d1
  clear he1 hq2 ho k0 k1 hx0 hs hu hce
  have hgr : w.heap.size + 1 < w2.heap.size := l1.lt
  have hz : Ext w2 (w2.alloc (.cells #[.slice A bs.length c, .int .i64 (pos : Int)] 84)) := (Ext.refl w2).alloc _
  have k2 : Bk (w2.alloc (.cells #[.slice A bs.length c, .int .i64 (pos : Int)] 84)) w2.heap.size 84 [.slice A bs.length c, .int .i64 (pos : Int)] := Bk.new w2 _ [.slice A bs.length c, .int .i64 (pos : Int)]
  have henv : DEnv w (w2.alloc (.cells #[.slice A bs.length c, .int .i64 (pos : Int)] 84)) w2.heap.size (.slice A bs.length c) bs pos pos := ⟨l0.ext hz, l1.ext hz, k2, hs2.ext hz, hx2.trans hz, hgr⟩
  have hu3 := hu2.ext hz
  have HENV := Lib.hid henv; have HU3 := Lib.hid hu3
  clear henv hu3 k2 hz l0 l1 hs2 hu2 hx2 hgr
  go_wp2_with fail
  refine (of_nz m (by omega) _).mono ?_
  rintro e w4 ⟨_, rfl, he4, ho⟩
  go_wp2_with fail
  refine (sub_nv (HU3.out.ext he4) ho.nv hm (Nat.le_trans (dl (by omega)) (by omega))).mono ?_
  rintro e w5 ⟨_, rfl, he5, jv, rfl, hj⟩
  have henv := (HENV.out.ext he4).ext he5
  have hbase : w2.heap.size < w4.heap.size := by have := he4.size; simp at this; omega
  have hb45 := he5.size
  clear HENV HU3 he4 he5 ho d0 d1 hce' hd1 hd2 hcv
  go_wp2_with fail
  obtain ⟨gR, hgR⟩ : ∃ gR, gR = w2.heap.size := ⟨_, rfl⟩
  rw [← hgR] at henv hbase ⊢
  clear hgR
  obtain ⟨base, hbs⟩ : ∃ base, base = w4.heap.size := ⟨_, rfl⟩
  rw [← hbs] at hbase hb45
  clear hbs
  have HE0 := Lib.hid henv; have HJ0 := Lib.hid hj
  clear henv hj
  go_loopw [10, 11, 47] (fun v jv q wr => ∃ (k : Nat) (l : List Nat) (p : Nat), k ≤ m ∧ q = .int .i64 (k : Int) ∧ Hid (dist (bitAt bs) (8 * bs.length) (m - k) (n - m + k) l p = R) ∧ SetOk l (n - m + k) k ∧ p ≤ 8 * bs.length ∧ NsL wr base v l ∧ Nz wr jv (n - m + k) ∧ DEnv w wr gR (.slice A bs.length c) bs pos p ∧ base ≤ wr.heap.size) (fun _ _ q _ => m - (intOf q).toNat)
  case atStart => exact ⟨0, [], pos, Nat.zero_le _, rfl, HR, ⟨List.Pairwise.nil, fun _ h => (by simp at h), rfl⟩, HP.out, NsL.nil _ _, HJ0.out, HE0.out, hb45⟩
  case round =>
    clear HR HP HE0 HJ0 hb45
    obtain ⟨k, l, p, hk, rfl, HD, hok, hp, hns, hj, henv, hsz⟩ := hrel
    have HOK := Lib.hid hok; have HPP := Lib.hid hp
    clear hok hp
    by_cases hlt : k < m
    · go_wp2_with fail
      refine (of_nz 1 (by omega) _).mono ?_
      rintro e v1 ⟨_, rfl, he1, ho⟩
      replace hns := hns.ext he1
      replace hj := hj.ext he1
      replace henv := henv.ext he1
      have hs1 := he1.size
      clear he1
      go_wp2_with fail
      refine (add_nv hj.nv ho.nv (Nat.le_trans (dl (by omega)) (by omega)) (Nat.le_trans (dl (by omega)) (by omega))).mono ?_
      rintro e v2 ⟨nx, rfl, he2, hnx⟩
      replace hns := hns.ext he2
      replace hj := hj.ext he2
      replace henv := henv.ext he2
      have hs2 := he2.size
      clear he2 ho
      go_wp2_with fail
      refine (uniform_any hnx.nv (by omega) (dig_small (by omega)) henv.2.2.1 henv.2.2.2.1 HPP.out).mono ?_
      rintro e v3 ⟨hm3, hU⟩
      have hdd := HD.out
      rw [show m - k = (m - (k + 1)) + 1 by omega] at hdd
      rw [show n - m + k + 1 - 1 = n - m + k by omega] at hU
      replace hns := hns.mod hm3 henv.2.2.1 (rd_u32 _ _ ⟨_, _, _, rfl⟩) hbase
      have hj3 : Nz v3 _ _ := Dg.mod hj henv.2.2.1 (rd_u32 _ _ ⟨_, _, _, rfl⟩) hm3
      have hnx3 : Nz v3 _ _ := Dg.mod hnx henv.2.2.1 (rd_u32 _ _ ⟨_, _, _, rfl⟩) hm3
      have hs3 := hm3.size
      rcases hun : uni (bitAt bs) (8 * bs.length) (n - m + k + 1) (blen (n - m + k)) (8 * bs.length + 1) p with _ | ⟨r, q⟩
      · rw [hun] at hU
        rw [dist_none hun] at hdd
        subst hdd
        simp only at hU
        subst hU
        have hgR2 := henv.2.2.2.2.2
        have l1 := hm3.bk henv.2.1 (by omega)
        have hxm := henv.2.2.2.2.1.mod hm3 (by omega)
        have c0 := l1.cell (i := 0) (by simp)
        have c1 := l1.cell (i := 1) (by simp)
        have f0 := l1.free 0
        have f1 := l1.free 1
        have m1 := (l1.set 0 (.slice none 0 0)).set 1 (.int .i64 0)
        have r0 := m1.cell (i := 0) (by simp)
        have r1 := m1.cell (i := 1) (by simp)
        have HR := Lib.hid (And.intro r0 r1)
        have HX := Lib.hid hxm
        clear r0 r1 m1 hun henv hj hj3 hnx hnx3 hns hm3 l1 hxm HD
        go_wp2_with fail
        refine bodyPost_ret (v := .tuple #[.slice none 0 0, .agg #[.slice none 0 0, .int .i64 0], .int .i64 36]) ?_ rfl ⟨(HX.out.setCell (p := ⟨w.heap.size + 1, 0, none⟩) (by simp) _).setCell (p := ⟨w.heap.size + 1, 1, none⟩) (by simp) _, rfl⟩
        obtain ⟨r0, r1⟩ := HR.out
        simp [results, Try.results16, go_sem, r0, r1]
      · rw [hun] at hU
        rw [dist_some hun] at hdd
        obtain ⟨x, rfl, hxr, hrd⟩ := hU
        have hrj := (uni_some hun).1
        have hq := (uni_some hun).2.2.1
        replace henv := henv.mod hm3 hrd
        have HDD := Lib.hid hdd; have HQ := Lib.hid hq
        clear hun hdd hq hm3 hrd hj hnx HD HPP
        obtain ⟨SA, Sc, hv, hNs⟩ := hns.out
        have hlen := HOK.out.len
        rw [hlen] at hv hNs
        subst hv
        go_wp2_with fail
        refine (search_ns hNs (by omega) hxr.nv (fun i j hij hjm => asc_get HOK.out.asc hij (by omega))).mono ?_
        rintro e v4 ⟨at', rfl, hF, hq4⟩
        replace hns := hns.ext hq4.ext
        have hj4 := hj3.ext hq4.ext
        have hnx4 := hnx3.ext hq4.ext
        have hxr4 := hxr.ext hq4.ext
        replace henv := henv.ext hq4.ext
        have hs4 := hq4.ext.size
        rw [← hlen] at hF
        have hmem := found_mem HOK.out.asc hF
        rw [hlen] at hmem
        have hF2 : at' ≤ l.length := hF.1
        clear hj3 hnx3 hxr hq4 hNs
        have HF := Lib.hid hF
        have hok2 := HOK.out.put hrj
        clear hF hlen
        by_cases hin : r ∈ l
        · rw [decide_eq_true (hmem.2 hin)]
          have hpk : pick l r (n - m + k) = n - m + k := by simp [pick, hin]
          rw [hpk, putL_last HOK.out.lt] at hok2
          have hdd := HDD.out
          rw [hpk, putL_last HOK.out.lt] at hdd
          obtain ⟨JB, jd, hje⟩ := hj4.slice
          generalize (dig (n - m + k)).length = ja at hje
          subst hje
          have HDD2 := Lib.hid hdd; have HOK2 := Lib.hid hok2
          have hal : Ext v4 (v4.alloc (.cells #[.slice JB ja jd] 38)) := (Ext.refl v4).alloc _
          obtain ⟨vs, hrw, hnums⟩ := hns.ext hal
          have hvl := hnums.len
          have henv5 := henv.ext hal
          have hj5 := hj4.ext hal
          have hnx5 := hnx4.ext hal
          have hlen := HOK.out.len
          have HVL := Lib.hid (hvl.trans hlen)
          have HA := Lib.hid (And.intro hnums (And.intro henv5 (And.intro hj5 hnx5)))
          have hbz : base ≤ (v4.alloc (.cells #[.slice JB ja jd] 38)).heap.size := by have := hal.size; omega
          clear hmem hpk hdd hok2 HDD HF hns hnums hvl henv5 hj5 hnx5 hlen henv hj4 hnx4 hxr4 hal hF2 hin
          go_wp2_with (first | (at_builtin; refine wpList_append_row rfl _ _ 48 rfl base 38 i0 (.slice none 0 0) 24 Try.underlying48 HI.out.1 HI.out.2.1 HI.out.2.2.1 HI.out.2.2.2 rfl _ vs rfl hrw ⟨v4.heap.size, 0, none⟩ 1 (.slice JB ja jd) rfl ?c1 rfl ?c3 ?c4 hbz ?_))
          case c1 => exact one_new v4 _ _ 0 _ rfl
          case c3 => rw [HVL.out]; simp only [maxLen]; omega
          case c4 => rw [HVL.out]; omega
          intro v' w' hr' hgr
          obtain ⟨hnums, henv5, hj5, hnx5⟩ := HA.out
          have hns2 := NsL.snoc hrw hnums hr' hgr hj5
          have henv6 := henv5.row hrw hnums hgr hbase
          have hnx6 : Nz w' _ _ := (row_far hrw hnums hgr).1 hnx5
          have hsz2 : base ≤ w'.heap.size := Nat.le_trans hbz (World.grownBy.size hgr)
          clear hrw hr' hgr hnums henv5 hj5 hnx5 HA
          go_wp2_with fail
          go_roundw
          case rel => exact ⟨k + 1, l ++ [n - m + k], q, by omega, by go_num, HDD2, HOK2.out, HQ.out, hns2, hnx6, henv6, hsz2⟩
          case measure => simp [intOf]; omega
        · rw [decide_eq_false (fun h => hin (hmem.1 h))]
          have hpk : pick l r (n - m + k) = r := by simp [pick, hin]
          rw [hpk, found_put HF.out] at hok2
          have hdd := HDD.out
          rw [hpk, found_put HF.out] at hdd
          obtain ⟨JB, jd, hje⟩ := hxr4.slice
          generalize (dig r).length = ja at hje
          subst hje
          have HDD2 := Lib.hid hdd; have HOK2 := Lib.hid hok2
          have hal : Ext v4 (v4.alloc (.cells #[.slice JB ja jd] 38)) := (Ext.refl v4).alloc _
          have hlen := HOK.out.len
          obtain ⟨vs4, hrw4, hnums4⟩ := hns
          have hrw := hrw4.ext hal
          have hnums := hnums4.map (fun h => Dg.ext h hal)
          have hvl := hnums.len
          have hkb : Bk (v4.alloc (.cells #[.slice JB ja jd] 38)) v4.heap.size 38 [.slice JB ja jd] := Bk.new v4 _ [.slice JB ja jd]
          have henv5 := henv.ext hal
          have hx5 := hxr4.ext hal
          have hnx5 := hnx4.ext hal
          have hbz : base ≤ (v4.alloc (.cells #[.slice JB ja jd] 38)).heap.size := by have := hal.size; omega
          have HIN := Lib.hid (insert_row hrw hbz (i := at') (by omega) (by omega) hkb (fun g hg => by have := (hrw4.own.lt g hg).2; omega) rfl hnums.one)
          have HA := Lib.hid (And.intro hrw (And.intro hnums (And.intro henv5 (And.intro hx5 hnx5))))
          clear hmem hpk hdd hok2 HDD HF hnums hvl henv5 hx5 hnx5 hlen henv hj4 hnx4 hxr4 hal hrw hrw4 hnums4 hkb hin
          go_wp2_with fail
          refine HIN.out.mono ?_
          rintro e w' ⟨v', rfl, hr', hgr⟩
          obtain ⟨hrw, hnums, henv5, hx5, hnx5⟩ := HA.out
          have hns2 := NsL.add hrw hnums at' hr' hgr hx5
          have henv6 := henv5.row hrw hnums hgr hbase
          have hnx6 : Nz w' _ _ := (row_far hrw hnums hgr).1 hnx5
          have hsz2 : base ≤ w'.heap.size := Nat.le_trans hbz (World.grownBy.size hgr)
          clear hrw hr' hgr hnums henv5 hx5 hnx5 HA HIN
          go_wp2_with fail
          go_roundw
          case rel => exact ⟨k + 1, l.take at' ++ [r] ++ l.drop at', q, by omega, by go_num, HDD2, HOK2.out, HQ.out, hns2, hnx6, henv6, hsz2⟩
          case measure => simp [intOf]; omega
    · obtain rfl : k = m := by omega
      have hdd := HD.out
      rw [Nat.sub_self] at hdd
      simp only [dist] at hdd
      subst hdd
      obtain ⟨SA, Sc, hv, hNs⟩ := hns.out
      obtain ⟨l0, l1, hr, hs1, hxm, hgR2⟩ := henv
      have HBL : Hid (∀ ad, SA = some ad → w.heap.size ≤ ad.block) := Lib.hid (by
        rintro ad rfl
        obtain ⟨vs, hrw, _⟩ := hns
        have := hrw.block ad.block (by rw [hv]; rfl)
        omega)
      have d0 := l0.cell (i := 0) (by simp)
      have d1 := l0.cell (i := 1) (by simp)
      have d2 := Bk.cell hr (i := 1) (by simp)
      have c0 := l1.cell (i := 0) (by simp)
      have c1 := l1.cell (i := 1) (by simp)
      have f0 := l1.free 0
      have f1 := l1.free 1
      simp only [List.getElem_cons_zero, List.getElem_cons_succ] at d0 d1 d2 c0 c1
      have L1 := Lib.hid l1; have HX := Lib.hid hxm; have HNS := Lib.hid hns; have HS1 := Lib.hid hs1; have HV := Lib.hid hv
      clear l1 l0 hr hs1 hxm hns hNs hv hj HD HPP
      go_upto_region 20 with fail
      go_region_held3 (fun W => W.cell? ⟨w.heap.size, 0, none⟩ = some (.slice A bs.length c) ∧ W.cell? ⟨w.heap.size, 1, none⟩ = some (.int .i64 pos) ∧ W.cell? ⟨gR, 1, none⟩ = some (.int .i64 (p : Int)))
        (first | exact ⟨d0, d1, d2⟩ | exact ⟨he2.cell d0, he2.cell d1, he2.cell d2⟩ | exact ⟨cell_far (cell_far (he2.cell d0) (by simp)) (by simp), cell_far (cell_far (he2.cell d1) (by simp)) (by simp), cell_far (cell_far (he2.cell d2) (by simp; omega)) (by simp; omega)⟩)
        (first | (go_at_call 34; refine (used_tp (bs := bs) (pos := (pos : Int)) (p : Int) ?_).mono ?_; exact ⟨_, rfl, HS1.out.ext ((Ext.refl _).drew)⟩; rintro e w2 ⟨t', rfl, he2, ⟨s', rfl, hs'⟩⟩; obtain ⟨A', c', rfl, -⟩ := hs'.parts; have n1 := L1.out.drew.ext he2; have g0 := n1.cell (i := 0) (by simp); have g1 := n1.cell (i := 1) (by simp); have q0 := n1.free 0; have q1 := n1.free 1))
      have hm2 : Mod (w.heap.size + 1) w2 ((w2.setCell ⟨w.heap.size + 1, 0, none⟩ (.slice A' bs.length c')).setCell ⟨w.heap.size + 1, 1, none⟩ (.int .i64 (p : Int))) := ((Mod.refl _ w2).setCell (p := ⟨w.heap.size + 1, 0, none⟩) (.inl rfl) _).setCell (p := ⟨w.heap.size + 1, 1, none⟩) (.inl rfl) _
      have hxf := (HX.out.drew.trans he2).mod hm2 (by omega)
      have hnf := ((HNS.out.ext (Ext.refl _).drew).ext he2).mod hm2 n1 (by simp [U32]) (by omega)
      have hsf := hs'.mod n1 (by simp [U8]) hm2
      have m1 := (n1.set 0 (.slice A' bs.length c')).set 1 (.int .i64 (p : Int))
      have r0 := m1.cell (i := 0) (by simp)
      have r1 := m1.cell (i := 1) (by simp)
      have HR := Lib.hid (And.intro r0 r1); clear r0 r1 m1
      obtain ⟨SA2, Sc2, hv2, hNs2⟩ := hnf.out
      rw [HV.out] at hv2
      injection hv2 with e1 e2 e3
      subst e1 e3
      have HF := Lib.hid (And.intro hxf (And.intro hNs2 hsf)); clear hxf hnf hsf hm2 hNs2 e2
      have hv := HV.out
      go_wp2_with fail
      refine bodyPost_ret (v := .tuple #[.slice SA l.length Sc, .agg #[.slice A' bs.length c', .int .i64 (p : Int)], .int .i64 0]) ?_ rfl ⟨HF.out.1, ⟨_, _, _, _, rfl, HF.out.2.1, HF.out.2.2, HBL.out⟩⟩
      obtain ⟨r0, r1⟩ := HR.out
      simp [results, Try.results16, go_sem, r0, r1]
      exact hv
set_option maxHeartbeats 800000 in
theorem distinct_neg {w : World} {u t : Value} {m pos : Int} {bs : List Nat} (hm : m < 0) (ht : Tp w t bs pos) :
    Calls Try.prog 16 #[u, .int .i64 m, t] w fun e w' => e = .returned (.tuple #[.slice none 0 0, .agg #[.slice none 0 0, .int .i64 0], .int .i64 3]) ∧ Ext w w' := by
  obtain ⟨s, rfl, hs⟩ := ht
  obtain ⟨A, c, rfl, hc⟩ := hs.parts
  have hx : Ext w (((w.alloc (.cells #[.slice A bs.length c, .int .i64 pos] 25)).alloc (.cells #[.slice none 0 0, .int .i64 0] 25))) := ((Ext.refl w).alloc _).alloc _
  have HX := Lib.hid hx
  clear hx hs hc
  have hd : decide (m < 0) = true := by simp; omega
  go_enter Try.func16, Try.ntmps16
  go_wp2_with fail
  refine bodyPost_ret (v := .tuple #[.slice none 0 0, .agg #[.slice none 0 0, .int .i64 0], .int .i64 3]) ?_ rfl ⟨rfl, HX.out⟩
  simp [results, Try.results16, go_sem]
set_option maxRecDepth 20000 in
set_option maxHeartbeats 800000 in
theorem distinct_big {w : World} {u t : Value} {n m : Nat} {pos : Int} {bs : List Nat} (hu : Nv w u n) (hm : n < m) (hm2 : m < 9223372036854775808) (ht : Tp w t bs pos) :
    Calls Try.prog 16 #[u, .int .i64 (m : Int), t] w fun e w' => e = .returned (.tuple #[.slice none 0 0, .agg #[.slice none 0 0, .int .i64 0], .int .i64 3]) ∧ Ext w w' := by
  obtain ⟨s, rfl, hs⟩ := ht
  obtain ⟨A, c, rfl, hc⟩ := hs.parts
  have hd1 : decide ((m : Int) < 0) = false := by simp
  have hcv : IntKind.u64.wrap (m : Int) = (m : Int) := u64_id (by omega)
  have HM2 := Lib.hid hm2
  clear hm2
  go_enter Try.func16, Try.ntmps16
  go_wp2_with fail
  have hx0 : Ext w ((w.alloc (.cells #[.slice A bs.length c, .int .i64 pos] 25)).alloc (.cells #[.slice none 0 0, .int .i64 0] 25)) := ((Ext.refl w).alloc _).alloc _
  have k1 : Bk ((w.alloc (.cells #[.slice A bs.length c, .int .i64 pos] 25)).alloc (.cells #[.slice none 0 0, .int .i64 0] 25)) (w.heap.size + 1) 25 [.slice none 0 0, .int .i64 0] := by
    have h := Bk.new (w.alloc (.cells #[.slice A bs.length c, .int .i64 pos] 25)) 25 [.slice none 0 0, .int .i64 0]
    rw [show (w.alloc (.cells #[.slice A bs.length c, .int .i64 pos] 25)).heap.size = w.heap.size + 1 by simp] at h
    exact h
  generalize ((w.alloc (.cells #[.slice A bs.length c, .int .i64 pos] 25)).alloc (.cells #[.slice none 0 0, .int .i64 0] 25)) = W0 at *
  refine (of_nz m (by have := HM2.out; omega) _).mono ?_
  rintro e w1 ⟨_, rfl, he1, ho⟩
  go_wp2_with fail
  refine (cmp_nv ho.nv (hu.ext (hx0.trans he1))).mono ?_
  rintro e w2 ⟨rfl, hq2⟩
  rw [cmpI_gt hm]
  have hx2 := (hx0.trans he1).trans hq2.ext
  have l1 := (k1.ext he1).ext hq2.ext
  have c0 := l1.cell (i := 0) (by simp)
  have c1 := l1.cell (i := 1) (by simp)
  have f0 := l1.free 0
  have f1 := l1.free 1
  have m1 := (l1.set 0 (.slice none 0 0)).set 1 (.int .i64 0)
  have r0 := m1.cell (i := 0) (by simp)
  have r1 := m1.cell (i := 1) (by simp)
  have HR := Lib.hid (And.intro r0 r1)
  have HX := Lib.hid hx2
  clear r0 r1 m1 hx2 l1 k1 he1 hq2 ho hx0 hs hu hc
  go_wp2_with fail
  refine bodyPost_ret (v := .tuple #[.slice none 0 0, .agg #[.slice none 0 0, .int .i64 0], .int .i64 3]) ?_ rfl ⟨rfl, (HX.out.setCell (p := ⟨w.heap.size + 1, 0, none⟩) (by simp) _).setCell (p := ⟨w.heap.size + 1, 1, none⟩) (by simp) _⟩
  obtain ⟨r0, r1⟩ := HR.out
  simp [results, Try.results16, go_sem, r0, r1]
end Go.Proofs.Ytjpkaljndfgkjaa
