/- For SampleUsed: an append whose source is any slice; bytes.Clone; bits that stay. -/
import Derived.Test.YtamkbboijblooaaSamJ
import Derived.Test.YtamkbboijblooaaRowB
import Derived.Test.YtamkbboijblooaaShelf
namespace Go.Proofs.Ytamkbboijblooaa
open Go.RowKit

/-- append of whatever a slice reads as, nil too. -/
theorem run_append_sl {P : Program} (w : World) (base : Nat) (t ty e : TypeId) (i : TypeInfo) (z : Value) (bytes : Nat) (ht : P.underlying t = some (.slice e)) (hi : P.info? e = some i) (hz : i.zero = some z)
    (hsize : i.size = 1) (hby : i.bytes = bytes) (hzs : z.cells.size = 1) (v : Value) (n : Nat) (xs : List Value) (hown : w.ownsRow base e 1 v n xs) (y : Value) (news : List Value) (hy : Sl w y news)
    (h1 : ∀ u ∈ news, u.oneCell' = true) (h63 : n + news.length ≤ maxLen) (hbytes : (n + news.length) * bytes ≤ 140737488355328) (hbase : base ≤ w.heap.size) :
    ∃ v' w', (Builtin.append_ #[t, t] ty #[v, y]).run P w = .ok v' w' ∧ w'.ownsRow base e 1 v' (n + news.length) (xs ++ news) ∧ w.grownBy w' v.ownBlock := by
  have hy' := hy
  obtain ⟨A, c, rfl, hc, _⟩ := hy
  rcases A with _ | ad
  · obtain rfl : news = [] := by simpa using Sl.none hy'
    refine ⟨v, w, ?_, by simpa using hown, ⟨rfl, rfl, rfl, Nat.le_refl _, fun _ _ _ => rfl⟩⟩
    rcases hown.2 with ⟨rfl, rfl⟩ | ⟨g, cap, cur, rfl, _, _, hnc, _⟩
    · simp [Builtin.append_, run_underlying ht, sizeOf, typeInfo, hi, Builtin.lenOf, Builtin.firstCells]
    · simp [Builtin.append_, run_underlying ht, sizeOf, typeInfo, hi, Builtin.lenOf, Builtin.firstCells, hnc, storeCells]
  · obtain ⟨v', w', hr, h2, h3, _⟩ := run_append_own (P := P) w base t ty e i z 1 bytes ht hi hz hsize hby hzs (by omega) v n xs hown ad news.length c news (by simp) (Sl.cells hy') h1 h63 hbytes hbase
    exact ⟨v', w', hr, h2, h3⟩

theorem step_append_sl {P : Program} {w : World} {ops : Array Oper} {o : Oper} {a : Act} {K : Act → World → Prop} {Q : Exit → Act → World → Prop} {E : Prop} (hgd : o.guard = none) (s y : Operand) (t : TypeId)
    (ho : o.op = .call { callee := .builtin .append, args := #[s, y], argTypes := #[t, t] })
    (base : Nat) (e : TypeId) (i : TypeInfo) (z : Value) (bytes : Nat) (ht : P.underlying t = some (.slice e)) (hi : P.info? e = some i) (hz : i.zero = some z) (hsize : i.size = 1) (hby : i.bytes = bytes) (hzs : z.cells.size = 1)
    (v : Value) (n : Nat) (xs : List Value) (hs : a.eval s = v) (hown : w.ownsRow base e 1 v n xs) (x : Value) (news : List Value) (hx : a.eval y = x) (hsl : Sl w x news) (h1 : ∀ u ∈ news, u.oneCell' = true)
    (h63 : n + news.length ≤ maxLen) (hbytes : (n + news.length) * bytes ≤ 140737488355328) (hbase : base ≤ w.heap.size)
    (h : ∀ v' w', w'.ownsRow base e 1 v' (n + news.length) (xs ++ news) → w.grownBy w' v.ownBlock → K (a.put o.dst v') w') :
    if Region.wanted o (yielded ops a.tmps) = true then Oper.wp P o a w K Q else E := by
  have hw : Region.wanted o (yielded ops a.tmps) = true := by simp [Region.wanted, hgd]
  rw [if_pos hw]
  obtain ⟨v', w', hr, h2, h3⟩ := run_append_sl (P := P) w base t o.type e i z bytes ht hi hz hsize hby hzs v n xs hown x news hsl h1 h63 hbytes hbase
  unfold Oper.wp execOp
  simp only [ho, resolve, invoke, builtin, Sem.run_bind, Sem.run_pure, Result.andThen_ok, List.map_toArray, List.map_cons, List.map_nil, hs, hx, hr]
  exact h v' w' h2 h3

theorem cloneB {w : World} {v : Value} {bs : List Nat} (h : By w v bs) :
    Calls Try.prog 25 #[v] w (Ret (fun x w' => w'.ownsRow w.heap.size 5 1 x bs.length (bs.map U8)) w) := by
  obtain ⟨A, c, rfl, hc⟩ := h.parts
  rcases A with _ | ad
  · have hb : bs = [] := by simpa using Sl.none h.2.2
    subst hb
    refine (Try.bytes_Clone_nil _ c w).mono ?_
    rintro e w' ⟨rfl, rfl⟩
    exact Ret.mk (Ext.refl _) (World.ownsRow_nil _ _ _ _)
  · refine (Try.bytes_Clone_at ad bs.length c (bs.map (fun b : Nat => (b : Int))) w (by simp) h.2.1 (fun i hi => ?_)).mono ?_
    · refine (Sl.cells h.2.2 i (U8 bs[i]) (by simp [hi])).trans ?_
      simp [List.getD, hi]
    · rintro e w' ⟨v', rfl, ho, _, hb⟩
      rw [List.map_map] at ho
      exact Ret.mk hb ho

/-- More fuel. -/
theorem uni_more {b : Nat → Nat} {L n l : Nat} {r : Nat × Nat} : ∀ {f g pos : Nat}, f ≤ g → uni b L n l f pos = some r → uni b L n l g pos = some r
  | 0, _, _, _, h => by simp [uni] at h
  | f + 1, 0, _, hfg, _ => by omega
  | f + 1, g + 1, pos, hfg, h => by
    simp only [uni] at h ⊢
    split at h
    · cases h
    · rename_i h1
      rw [if_neg h1]
      split at h
      · rename_i h2; rw [if_pos h2]; exact h
      · rename_i h2; rw [if_neg h2]; exact uni_more (by omega) h
/-- Only the bits used matter. -/
theorem uni_used {b c : Nat → Nat} {L M n l : Nat} : ∀ {f pos x p : Nat}, uni b L n l f pos = some (x, p) → (∀ i, i < p → b i = c i) → p ≤ M → uni c M n l f pos = some (x, p)
  | 0, _, _, _, h, _, _ => by simp [uni] at h
  | f + 1, pos, x, p, h, hb, hM => by
    have hs := uni_some h
    have hw : wrd b pos l = wrd c pos l := wrd_congr (fun i hi => hb _ (by omega))
    simp only [uni] at h ⊢
    split at h
    · cases h
    · rw [if_neg (by omega)]
      split at h
      · rename_i h2; rw [← hw, if_pos h2]; exact h
      · rename_i h2; rw [← hw, if_neg h2]; exact uni_used h hb hM
theorem uni_tape {bs cs : List Nat} {n l pos x p : Nat} (h : uni (bitAt bs) (8 * bs.length) n l (8 * bs.length + 1) pos = some (x, p)) (hb : ∀ i, i < p → bitAt bs i = bitAt cs i) (hl : bs.length ≤ cs.length) :
    uni (bitAt cs) (8 * cs.length) n l (8 * cs.length + 1) pos = some (x, p) :=
  uni_more (by omega) (uni_used h hb (by have := uni_some h; omega))

theorem bitAt_append {bs ms : List Nat} {i : Nat} (h : i < 8 * bs.length) : bitAt bs i = bitAt (bs ++ ms) i := by
  unfold bitAt
  rw [show (bs ++ ms).getD (i / 8) 0 = bs.getD (i / 8) 0 by simp [List.getD, List.getElem?_append_left (show i / 8 < bs.length by omega)]]
end Go.Proofs.Ytamkbboijblooaa
namespace Go.Proofs.Ytamkbboijblooaa
open Go.RowKit
theorem own_slice {w : World} {base n : Nat} {e : TypeId} {v : Value} {xs : List Value} (h : w.ownsRow base e 1 v n xs) : ∃ A c, v = .slice A n c := by
  rcases h.2 with ⟨rfl, rfl⟩ | ⟨g, cap, cur, rfl, _⟩
  · exact ⟨_, _, rfl⟩
  · exact ⟨_, _, rfl⟩
theorem own_base {w : World} {base b2 n : Nat} {e : TypeId} {v : Value} {xs : List Value} (h : w.ownsRow base e 1 v n xs) (hb : b2 ≤ base) : w.ownsRow b2 e 1 v n xs := by
  obtain ⟨h1, h2⟩ := h
  refine ⟨h1, ?_⟩
  rcases h2 with h | ⟨g, cap, cur, h3, h4, h5⟩
  · exact .inl h
  · exact .inr ⟨g, cap, cur, h3, by omega, h5⟩
theorem own_of_heap {w w' : World} {base n : Nat} {e : TypeId} {v : Value} {xs : List Value} (h : w.ownsRow base e 1 v n xs) (hh : ∀ g, v.ownBlock = some g → w'.heap[g]? = w.heap[g]?) : w'.ownsRow base e 1 v n xs := by
  obtain ⟨h1, h2⟩ := h
  refine ⟨h1, ?_⟩
  rcases h2 with h | ⟨g, cap, cur, rfl, h4, h5, h6⟩
  · exact .inl h
  · exact .inr ⟨g, cap, cur, rfl, h4, (hh g rfl).trans h5, h6⟩
theorem own_ne {w : World} {base n k : Nat} {e t : TypeId} {v : Value} {xs ys : List Value} (h : w.ownsRow base e 1 v n xs) (hb : Bk w k t ys) (hte : e ≠ t) : ∀ g, v.ownBlock = some g → g ≠ k := by
  rintro g hg rfl
  rcases h.2 with ⟨rfl, _⟩ | ⟨g', cap, cur, rfl, h4, h5, h6⟩
  · simp [Value.ownBlock] at hg
  · simp only [Value.ownBlock] at hg
    injection hg with hg
    subst hg
    unfold Bk at hb
    rw [h5] at hb
    injection hb with hb
    injection hb with _ hb _
    exact hte hb
theorem grown_bk {w w' : World} {row : Option Nat} {k : Nat} {t : TypeId} {xs : List Value} (hg : w.grownBy w' row) (hb : Bk w k t xs) (hne : ∀ g, row = some g → g ≠ k) : Bk w' k t xs :=
  (hg.block k hb.lt (fun e => hne k e.symm rfl)).trans hb

/-- A slice of bytes of the walk's own: its block begins with them. -/
def OB (w : World) (base : Nat) (S : Value) (cs : List Nat) : Prop :=
  (S = .slice none 0 0 ∧ cs = []) ∨ ∃ g cap tl, S = .slice (some ⟨g, 0, none⟩) cs.length cap ∧ cs.length ≤ cap ∧ base ≤ g ∧ Bk w g 5 (cs.map U8 ++ tl)
theorem OB.of_own {w : World} {base n : Nat} {S : Value} {cs : List Nat} (h : w.ownsRow base 5 1 S n (cs.map U8)) : OB w base S cs := by
  obtain ⟨h1, h2⟩ := h
  rw [List.length_map, Nat.mul_one] at h1
  subst h1
  rcases h2 with ⟨rfl, h0⟩ | ⟨g, cap, cur, rfl, h4, h5, h6, h7, h8, h9⟩
  · exact .inl ⟨rfl, List.eq_nil_of_length_eq_zero h0⟩
  · refine .inr ⟨g, cap, cur.toList.drop cs.length, rfl, h6, h4, ?_⟩
    rw [Nat.mul_one] at h9
    unfold Bk
    rw [← h9, List.take_append_drop]
    exact h5
theorem OB.ext {w w' : World} {base : Nat} {S : Value} {cs : List Nat} (h : OB w base S cs) (he : Ext w w') : OB w' base S cs := by
  rcases h with h | ⟨g, cap, tl, h1, h2, h3, h4⟩
  · exact .inl h
  · exact .inr ⟨g, cap, tl, h1, h2, h3, h4.ext he⟩
theorem OB.by {w : World} {base : Nat} {S : Value} {cs : List Nat} (h : OB w base S cs) (hb : ∀ b ∈ cs, b < 256) (hl : cs.length ≤ 1000) : By w S cs := by
  refine ⟨hb, by omega, ?_⟩
  rcases h with ⟨rfl, rfl⟩ | ⟨g, cap, tl, rfl, h2, h3, h4⟩
  · exact (By.nil w).2.2
  · refine ⟨some ⟨g, 0, none⟩, cap, by simp, by simpa using h2, fun _ => ⟨_, rfl, fun i hi => ?_⟩⟩
    rw [add0, h4.cell (i := i) (by simp at hi ⊢; omega), List.getElem_append_left hi]
theorem OB.far {w w' : World} {base k : Nat} {S : Value} {cs : List Nat} {t : TypeId} {ys : List Value} (h : OB w base S cs) (hb : Bk w k t ys) (ht : 5 ≠ t) (hm : Mod k w w') : OB w' base S cs := by
  rcases h with h | ⟨g, cap, tl, h1, h2, h3, h4⟩
  · exact .inl h
  · refine .inr ⟨g, cap, tl, h1, h2, h3, hm.bk h4 ?_⟩
    rintro rfl
    unfold Bk at hb h4
    rw [hb] at h4
    injection h4 with h4
    injection h4 with _ h4 _
    exact ht h4.symm
/-- A bit of a byte turned: the others stay. -/
theorem xor_bits : ∀ (b : Fin 256) (r j : Fin 8), j ≠ r → (b.val ^^^ 2 ^ r.val) / 2 ^ j.val % 2 = b.val / 2 ^ j.val % 2 := by decide +kernel
theorem xor_lt : ∀ (b : Fin 256) (r : Fin 8), b.val ^^^ 2 ^ r.val < 256 := by decide +kernel
theorem bitAt_turn {cs : List Nat} {i j : Nat} (hc : ∀ b ∈ cs, b < 256) (hi : i < 8 * cs.length) (hj : j ≠ i) : bitAt (cs.set (i / 8) (cs.getD (i / 8) 0 ^^^ 2 ^ (i % 8))) j = bitAt cs j := by
  unfold bitAt
  by_cases e : j / 8 = i / 8
  · rw [e]
    have hlt : i / 8 < cs.length := by omega
    have h1 : (cs.set (i / 8) (cs.getD (i / 8) 0 ^^^ 2 ^ (i % 8))).getD (i / 8) 0 = cs.getD (i / 8) 0 ^^^ 2 ^ (i % 8) := by simp [List.getD, hlt]
    rw [h1]
    have h2 : cs.getD (i / 8) 0 < 256 := by
      simp [List.getD, hlt]; exact hc _ (List.getElem_mem hlt)
    exact xor_bits ⟨_, h2⟩ ⟨i % 8, by omega⟩ ⟨j % 8, by omega⟩ (by simp [Fin.ext_iff]; omega)
  · have h1 : (cs.set (i / 8) (cs.getD (i / 8) 0 ^^^ 2 ^ (i % 8))).getD (j / 8) 0 = cs.getD (j / 8) 0 := by
      simp [List.getD, List.getElem?_set_ne (fun h => e h.symm)]
    rw [h1]
end Go.Proofs.Ytamkbboijblooaa
namespace Go.Proofs.Ytamkbboijblooaa
open Go.RowKit
theorem stored_far {w : World} {g k : Nat} {x y : Value} (h : g ≠ k) : ((w.setCell ⟨k, 0, none⟩ x).setCell ⟨k, 1, none⟩ y).heap[g]? = w.heap[g]? :=
  (Below.heap_setCell (w.setCell ⟨k, 0, none⟩ x) ⟨k, 1, none⟩ y g h).trans (Below.heap_setCell w ⟨k, 0, none⟩ x g h)
theorem cat_lt {bs ms : List Nat} (h1 : ∀ b ∈ bs, b < 256) (h2 : ∀ b ∈ ms, b < 256) : ∀ b ∈ bs ++ ms, b < 256 := fun b hb => (List.mem_append.1 hb).elim (h1 b) (h2 b)
end Go.Proofs.Ytamkbboijblooaa
namespace Go.Proofs.Ytamkbboijblooaa
open Go.RowKit
theorem xor_run : ∀ (b : Fin 256) (r : Fin 8), bits BinOp.xor IntKind.u8 (b.val : Int) ((2 ^ r.val : Nat) : Int) = ((b.val ^^^ 2 ^ r.val : Nat) : Int) := by decide +kernel
theorem xor_at {x r : Nat} (hx : x < 256) (hr : r < 8) (k : Int) (hk : ((2 ^ r : Nat) : Int) = k) : bits BinOp.xor IntKind.u8 (x : Int) k = ((x ^^^ 2 ^ r : Nat) : Int) := by rw [← hk]; exact xor_run ⟨x, hx⟩ ⟨r, hr⟩
theorem OB.put {w : World} {base gb cv d L : Nat} {es : List Nat} {tl : List Value} (hb : Bk w gb 5 (es.map U8 ++ tl)) (hl : es.length = L) (hc : L ≤ cv) (hg : base ≤ gb) (hd : d < es.length) (z : Nat) :
    OB (w.setCell ⟨gb, d, none⟩ (.int .u8 (z : Int))) base (.slice (some ⟨gb, 0, none⟩) L cv) (es.set d z) := by
  subst hl
  have h := hb.set d (.int .u8 (z : Int))
  rw [List.set_append_left _ _ (by simpa using hd)] at h
  refine .inr ⟨gb, cv, tl, by simp, by simpa using hc, hg, ?_⟩
  rw [List.map_set]; exact h
end Go.Proofs.Ytamkbboijblooaa
