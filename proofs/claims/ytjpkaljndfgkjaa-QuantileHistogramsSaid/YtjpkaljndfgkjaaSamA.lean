/- Words: a block that turns; bytes; tapes. Contracts: slices.Clone at bytes, Tape.used. -/
import Derived.Test.YtjpkaljndfgkjaaNatE
namespace Go.Proofs.Ytjpkaljndfgkjaa
open Go.RowKit

/-- Only block g, and what is new, may have turned. -/
def Mod (g : Nat) (w w' : World) : Prop := w.grownBy w' (some g)
theorem Mod.os {g : Nat} {w w' : World} (h : Mod g w w') : w'.os = w.os := World.grownBy.os h
theorem Mod.size {g : Nat} {w w' : World} (h : Mod g w w') : w.heap.size ≤ w'.heap.size := World.grownBy.size h
theorem Mod.heap {g : Nat} {w w' : World} (h : Mod g w w') {k : Nat} (hk : k < w.heap.size) (hg : k ≠ g) : w'.heap[k]? = w.heap[k]? := World.grownBy.block h k hk (fun e => hg (by injection e))
theorem Mod.of_ext {g : Nat} {w w' : World} (h : Ext w w') : Mod g w w' := ⟨h.os, h.tape, h.output, h.size, fun _ hk _ => h.heap hk⟩
theorem Mod.refl (g : Nat) (w : World) : Mod g w w := Mod.of_ext (Ext.refl w)
theorem Mod.trans {g : Nat} {a b c : World} (h : Mod g a b) (k : Mod g b c) : Mod g a c :=
  ⟨(World.grownBy.os k).trans (World.grownBy.os h), (World.grownBy.tape k).trans (World.grownBy.tape h), (World.grownBy.output k).trans (World.grownBy.output h), Nat.le_trans h.size k.size,
    fun i hi hn => (World.grownBy.block k i (Nat.lt_of_lt_of_le hi h.size) hn).trans (World.grownBy.block h i hi hn)⟩
theorem Mod.ext {g : Nat} {a b c : World} (h : Mod g a b) (k : Ext b c) : Mod g a c := h.trans (Mod.of_ext k)
theorem Mod.setCell {g : Nat} {a w : World} (h : Mod g a w) {p : Addr} (hp : p.block = g ∨ a.heap.size ≤ p.block) (u : Value) : Mod g a (w.setCell p u) :=
  have h' : a.grownBy w (some g) := h
  ⟨h'.os, h'.tape, h'.output, by simpa [World.setCell] using h'.size, fun i hi hn => (Below.heap_setCell w p u i (by
    rintro rfl
    rcases hp with e | e
    · exact hn (by rw [e])
    · omega)).trans (h'.block i hi hn)⟩
theorem Mod.drewN {g : Nat} {a w : World} (h : Mod g a w) (n : Nat) : Mod g a (w.drewN n) := h.trans (Mod.of_ext ((Ext.refl w).drewN n))
/-- A block of the call's own has turned: what was there before is as it was. -/
theorem Ext.mod {a w w' : World} {g : Nat} (h : Ext a w) (hm : Mod g w w') (hg : a.heap.size ≤ g) : Ext a w' := h.grown hm (fun k hk => by injection hk with hk; omega)
theorem Mod.cell {g : Nat} {w w' : World} (h : Mod g w w') {p : Addr} {v : Value} (hc : w.cell? p = some v) (hp : p.block ≠ g) : w'.cell? p = some v :=
  (World.cell?_of_block (h.heap (cell_lt hc) hp)).trans hc
theorem Mod.bk {g k : Nat} {w w' : World} {t : TypeId} {xs : List Value} (h : Mod g w w') (hb : Bk w k t xs) (hk : k ≠ g) : Bk w' k t xs := (h.heap hb.lt hk).trans hb
/-- A cell that is in block g is one of its cells. -/
theorem Bk.mem {w : World} {g : Nat} {t : TypeId} {ys : List Value} (h : Bk w g t ys) {p : Addr} {v : Value} (hc : w.cell? p = some v) (hp : p.block = g) : v ∈ ys := by
  unfold Bk at h
  rw [World.cell?, hp, h] at hc
  simp only at hc
  split at hc
  · cases hc
  · obtain ⟨h1, h2⟩ := Array.getElem?_eq_some_iff.1 hc
    rw [← h2]; simp
theorem Sl.mod {g : Nat} {w w' : World} {t : TypeId} {v : Value} {xs ys : List Value} (h : Sl w v xs) (hb : Bk w g t ys) (hd : ∀ x ∈ xs, x ∉ ys) (hm : Mod g w w') : Sl w' v xs := by
  obtain ⟨A, cap, rfl, hc, hx⟩ := h
  refine ⟨A, cap, rfl, hc, fun h0 => ?_⟩
  obtain ⟨ad, rfl, hy⟩ := hx h0
  exact ⟨ad, rfl, fun i hi => hm.cell (hy i hi) (fun e => hd _ (List.getElem_mem hi) (hb.mem (hy i hi) e))⟩
theorem Dg.mod {g : Nat} {w w' : World} {t : TypeId} {v : Value} {ds : List Nat} {ys : List Value} (h : Dg w v ds) (hb : Bk w g t ys) (hd : ∀ d : Nat, U32 d ∉ ys) (hm : Mod g w w') : Dg w' v ds :=
  ⟨h.1, h.2.1, h.2.2.mod hb (fun x hx => by obtain ⟨d, _, rfl⟩ := List.mem_map.1 hx; exact hd d) hm⟩
theorem Nv.mod {g : Nat} {w w' : World} {t : TypeId} {v : Value} {n : Nat} {ys : List Value} (h : Nv w v n) (hb : Bk w g t ys) (hd : ∀ d : Nat, U32 d ∉ ys) (hm : Mod g w w') : Nv w' v n :=
  let ⟨ds, h1, h2⟩ := h; ⟨ds, h1.mod hb hd hm, h2⟩

/-- The word for a byte. -/
abbrev U8 (d : Nat) : Value := .int .u8 (d : Int)
/-- A slice of bytes. -/
def By (w : World) (v : Value) (bs : List Nat) : Prop := (∀ b ∈ bs, b < 256) ∧ bs.length ≤ 140737488355328 ∧ Sl w v (bs.map U8)

theorem By.ext {w w' : World} {v : Value} {bs : List Nat} (h : By w v bs) (he : Ext w w') : By w' v bs := ⟨h.1, h.2.1, h.2.2.ext he⟩
theorem By.mod {g : Nat} {w w' : World} {t : TypeId} {v : Value} {ds : List Nat} {ys : List Value} (h : By w v ds) (hb : Bk w g t ys) (hd : ∀ d : Nat, U8 d ∉ ys) (hm : Mod g w w') : By w' v ds :=
  ⟨h.1, h.2.1, h.2.2.mod hb (fun x hx => by obtain ⟨d, _, rfl⟩ := List.mem_map.1 hx; exact hd d) hm⟩
theorem By.nil (w : World) : By w (.slice none 0 0) [] := ⟨by simp, by simp, none, 0, rfl, Nat.le_refl _, fun h => by simp at h⟩

theorem info_u8 : (Try.prog.info? 5).map (fun i => (i.zero, i.size, i.bytes)) = some (some (.int .u8 0), 1, 1) := by kernel_rfl

theorem oneCell_u8 (ds : List Nat) : ∀ u ∈ ds.map U8, u.oneCell' = true := by
  intro u hu
  obtain ⟨d, _, rfl⟩ := List.mem_map.1 hu
  rfl

set_option maxHeartbeats 400000 in
/-- slices.Clone at []byte. -/
theorem clone8 {w : World} {v : Value} {ds : List Nat} (h : By w v ds) :
    Calls Try.prog 58 #[v] w (Ret (fun x w' => By w' x ds ∧ ∃ n, w'.ownsRow w.heap.size 5 1 x n (ds.map U8)) w) := by
  have HS0 := h.2.2
  obtain ⟨hl, hb, A, cap, rfl, hc, -⟩ := h
  have HL := Lib.hid hl; have HS := Lib.hid HS0; clear hl HS0
  have hlen : (ds.map U8).length = ds.length := by simp
  rw [hlen] at HS hc ⊢
  clear hlen
  generalize hn : ds.length = n at *
  have HN := Lib.hid hn; clear hn
  obtain ⟨i0, hi0, hz0, hz1, hz2⟩ := info_parts info_u8
  have heq := fun W => Lib.run_eql_slice_nil (P := Try.prog) W 23 5 A n cap 0 0 Try.underlying23
  rcases A with _ | ad
  · have hd : ds = [] := by simpa using Sl.none HS.out
    subst hd
    obtain rfl : n = 0 := HN.out.symm
    go_enter Try.func58, Try.ntmps58
    go_wp2_with fail
    go_ret
    exact Ret.mk (Ext.refl w) ⟨By.nil w, 0, World.ownsRow_nil _ _ _ _⟩
  · have hcells := Sl.cells HS.out
    have HC := Lib.hid hcells; clear hcells
    go_enter Try.func58, Try.ntmps58
    go_wp2_with (first | (at_builtin; refine wpList_append_own _ rfl _ _ 23 rfl w.heap.size 5 i0 (.int .u8 0) 1 1 Try.underlying23 hi0 hz0 hz1 hz2 rfl (by decide) _ _ [] rfl (World.ownsRow_made _ _ _ (Nat.le_refl _) (by decide) rfl) ad n cap (ds.map U8) rfl ?c1 ?c2 ?c3 ?c4 ?c5 ?c6 ?_))
    case c1 => simpa using HN.out
    case c2 => exact fun j u hu => ((Ext.refl w).alloc _).cell (HC.out j u hu)
    case c3 => exact oneCell_u8 ds
    case c4 => simp only [maxLen]; omega
    case c5 => omega
    case c6 => exact ((Ext.refl w).alloc _).size
    intro v' w' hown hgr hne
    have he : Ext w w' := ((Ext.refl w).alloc _).grown hgr (by intro k hk; simp [Value.ownBlock] at hk; omega)
    have hd : By w' v' ds := ⟨HL.out, by have := HN.out; omega, Sl.of_own hown⟩
    clear hgr hne heq
    go_wp2_with fail
    go_ret
    exact Ret.mk he ⟨hd, n, hown⟩

/-- A tape: its bits and its position. -/
def Tp (w : World) (v : Value) (bs : List Nat) (pos : Int) : Prop := ∃ s, v = .agg #[s, .int .i64 pos] ∧ By w s bs
theorem Tp.ext {w w' : World} {v : Value} {bs : List Nat} {pos : Int} (h : Tp w v bs pos) (he : Ext w w') : Tp w' v bs pos := let ⟨s, h1, h2⟩ := h; ⟨s, h1, h2.ext he⟩

theorem By.parts {w : World} {v : Value} {bs : List Nat} (h : By w v bs) : ∃ A c, v = .slice A bs.length c ∧ bs.length ≤ c := by
  obtain ⟨_, _, A, c, e, hc, _⟩ := h
  simp only [List.length_map] at e hc
  exact ⟨A, c, e, hc⟩

set_option maxHeartbeats 400000 in
/-- The tape with another position. -/
theorem used_tp {w : World} {v : Value} {bs : List Nat} {pos : Int} (q : Int) (h : Tp w v bs pos) :
    Calls Try.prog 34 #[v, .int .i64 q] w (Ret (fun x w' => Tp w' x bs q) w) := by
  obtain ⟨s, rfl, hs⟩ := h
  go_enter Try.func34, Try.ntmps34
  go_wp2_with fail
  have hb1 := Bk.new (w.alloc (Obj.cells #[s, Value.int IntKind.i64 pos] 25)) 25 [Value.slice none 0 0, Value.int IntKind.i64 0]
  have he0 : Ext w ((w.alloc (Obj.cells #[s, Value.int IntKind.i64 pos] 25)).alloc (Obj.cells #[Value.slice none 0 0, Value.int IntKind.i64 0] 25)) := ((Ext.refl w).alloc _).alloc _
  refine (clone8 (hs.ext he0)).mono ?_
  rintro e w1 ⟨x, rfl, he, hx, -⟩
  have hb2 := hb1.ext he
  have hsz : (w.alloc (Obj.cells #[s, Value.int IntKind.i64 pos] 25)).heap.size = w.heap.size + 1 := by simp
  rw [hsz] at hb2
  have hc0 := hb2.cell (i := 0) (by simp)
  have hc1 := hb2.cell (i := 1) (by simp)
  have hf0 := hb2.free 0
  have hf1 := hb2.free 1
  have HE := Lib.hid (he0.trans he)
  clear he he0 hb1 hsz
  obtain ⟨A, c, rfl, -⟩ := hx.parts
  have hb3 := (hb2.set 0 (.slice A bs.length c)).set 1 (.int .i64 q)
  have hr0 := hb3.cell (i := 0) (by simp)
  have hr1 := hb3.cell (i := 1) (by simp)
  have hm : Mod (w.heap.size + 1) w1 ((w1.setCell ⟨w.heap.size + 1, 0, none⟩ (.slice A bs.length c)).setCell ⟨w.heap.size + 1, 1, none⟩ (.int .i64 q)) := ((Mod.refl _ w1).setCell (p := ⟨w.heap.size + 1, 0, none⟩) (.inl rfl) _).setCell (p := ⟨w.heap.size + 1, 1, none⟩) (.inl rfl) _
  have hy := hx.mod hb2 (by simp [U8]) hm
  have HR := Lib.hid (And.intro hr0 hr1); have HY := Lib.hid hy; have HM := Lib.hid hm; clear hr0 hr1 hy hm hb3 hb2
  go_wp2_with fail
  refine bodyPost_ret (v := .agg #[.slice A bs.length c, .int .i64 q]) ?_ rfl (Ret.mk (HE.out.mod HM.out (by omega)) ⟨_, rfl, HY.out⟩)
  obtain ⟨hr0, hr1⟩ := HR.out
  simp [results, Try.results34, go_sem, hr0, hr1]
end Go.Proofs.Ytjpkaljndfgkjaa
