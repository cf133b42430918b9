/- Contracts: sample.Uniform, sample.Bit. -/
import Derived.Test.YtjpkaljndfgkjaaSamD
import Derived.Deep.RegionHeld3
namespace Go.Proofs.Ytjpkaljndfgkjaa
open Go.RowKit

theorem cell_far {w : World} {p q : Addr} {v u : Value} (h : w.cell? q = some v) (hne : p.block ≠ q.block) : (w.setCell p u).cell? q = some v :=
  (World.cell?_of_block (Below.heap_setCell w p u q.block (Ne.symm hne))).trans h

/-- What Uniform leaves, by what is drawn. -/
def UnifPost (w : World) (bs : List Nat) (R : Option (Nat × Nat)) (e : Ending) (w' : World) : Prop :=
  Ext w w' ∧ match R with
    | none => e = .returned (.tuple #[.slice none 0 0, .agg #[.slice none 0 0, .int .i64 0], .int .i64 36])
    | some (x, p) => ∃ v u, e = .returned (.tuple #[v, u, .int .i64 0]) ∧ Nz w' v x ∧ Tp w' u bs (p : Int)

set_option maxHeartbeats 800000 in
theorem Uniform_any {w : World} {u t : Value} {n pos : Nat} {bs : List Nat} (hu : Nv w u n) (hn : 1 ≤ n) (hln : (dig n).length ≤ 100000) (ht : Tp w t bs pos) (hp : pos ≤ 8 * bs.length) :
    Calls Try.prog 9 #[u, t] w (UnifPost w bs (uni (bitAt bs) (8 * bs.length) n (blen (n - 1)) (8 * bs.length + 1) pos)) := by
  obtain ⟨s, rfl, hs⟩ := ht
  obtain ⟨A, c, rfl, hc⟩ := hs.parts
  go_enter Try.func9, Try.ntmps9
  go_wp2_with fail
  have hx1 : Ext w (w.alloc (Obj.cells #[Value.slice A bs.length c, Value.int IntKind.i64 ↑pos] 25)) := (Ext.refl w).alloc _
  have k0 := Bk.new w 25 [Value.slice A bs.length c, Value.int IntKind.i64 ↑pos]
  have z0 : (w.alloc (Obj.cells #[Value.slice A bs.length c, Value.int IntKind.i64 ↑pos] 25)).heap.size = w.heap.size + 1 := by simp
  change Bk (w.alloc (Obj.cells #[Value.slice A bs.length c, Value.int IntKind.i64 ↑pos] 25)) _ _ _ at k0
  generalize w.alloc (Obj.cells #[Value.slice A bs.length c, Value.int IntKind.i64 ↑pos] 25) = W0 at *
  have hx2 : Ext W0 (W0.alloc (Obj.cells #[Value.slice none 0 0, Value.int IntKind.i64 0] 25)) := (Ext.refl W0).alloc _
  have k1 := Bk.new W0 25 [Value.slice none 0 0, Value.int IntKind.i64 0]
  have z1 : (W0.alloc (Obj.cells #[Value.slice none 0 0, Value.int IntKind.i64 0] 25)).heap.size = W0.heap.size + 1 := by simp
  change Bk (W0.alloc (Obj.cells #[Value.slice none 0 0, Value.int IntKind.i64 0] 25)) _ _ _ at k1
  generalize W0.alloc (Obj.cells #[Value.slice none 0 0, Value.int IntKind.i64 0] 25) = W1 at *
  have hx3 : Ext W1 (W1.alloc (Obj.cells #[Value.slice A bs.length c, Value.int IntKind.i64 ↑pos] 84)) := (Ext.refl W1).alloc _
  have k2 := Bk.new W1 84 [Value.slice A bs.length c, Value.int IntKind.i64 ↑pos]
  change Bk (W1.alloc (Obj.cells #[Value.slice A bs.length c, Value.int IntKind.i64 ↑pos] 84)) _ _ _ at k2
  generalize W1.alloc (Obj.cells #[Value.slice A bs.length c, Value.int IntKind.i64 ↑pos] 84) = W2 at *
  replace k0 := (k0.ext hx2).ext hx3
  replace k1 := k1.ext hx3
  rw [z1, z0] at k2
  rw [z0] at k1
  have hxx := (hx1.trans hx2).trans hx3
  clear hx1 hx2 hx3 z0 z1
  refine (uniform_any (hu.ext hxx) hn hln k2 (hs.ext hxx) hp).mono ?_
  rintro e w1 ⟨hm, hR⟩
  have l0 := hm.bk k0 (by omega)
  have l1 := hm.bk k1 (by omega)
  have hxm := hxx.mod hm (by omega)
  have hs1 := hs.ext hxm
  generalize uni (bitAt bs) (8 * bs.length) n (blen (n - 1)) (8 * bs.length + 1) pos = R at *
  clear k0 k1 k2 hm hxx hu
  have c0 := l1.cell (i := 0) (by simp)
  have c1 := l1.cell (i := 1) (by simp)
  have f0 := l1.free 0
  have f1 := l1.free 1
  rcases R with _ | ⟨x, p⟩
  · simp only at hR
    subst hR
    have m1 := (l1.set 0 (.slice none 0 0)).set 1 (.int .i64 0)
    have r0 := m1.cell (i := 0) (by simp)
    have r1 := m1.cell (i := 1) (by simp)
    have HR := Lib.hid (And.intro r0 r1); clear r0 r1 m1
    go_wp2_with fail
    refine bodyPost_ret (v := .tuple #[.slice none 0 0, .agg #[.slice none 0 0, .int .i64 0], .int .i64 36]) ?_ rfl ⟨(hxm.setCell (p := ⟨w.heap.size + 1, 0, none⟩) (by simp) _).setCell (p := ⟨w.heap.size + 1, 1, none⟩) (by simp) _, rfl⟩
    obtain ⟨r0, r1⟩ := HR.out
    simp [results, Try.results9, go_sem, r0, r1]
  · obtain ⟨v, rfl, hv, hr⟩ := hR
    have d0 := l0.cell (i := 0) (by simp)
    have d1 := l0.cell (i := 1) (by simp)
    have d2 := hr.cell (i := 1) (by simp)
    simp only [List.getElem_cons_zero, List.getElem_cons_succ] at d0 d1 d2
    have L1 := Lib.hid l1; have L0 := Lib.hid l0; clear l1 l0
    go_wp2_with fail
    go_region_held3 (fun W => W.cell? ⟨w.heap.size, 0, none⟩ = some (.slice A bs.length c) ∧ W.cell? ⟨w.heap.size, 1, none⟩ = some (.int .i64 pos) ∧ W.cell? ⟨w.heap.size + 1 + 1, 1, none⟩ = some (.int .i64 (p : Int)))
      (first | exact ⟨d0, d1, d2⟩ | exact ⟨he2.cell d0, he2.cell d1, he2.cell d2⟩ | exact ⟨cell_far (cell_far (he2.cell d0) (by simp)) (by simp), cell_far (cell_far (he2.cell d1) (by simp)) (by simp), cell_far (cell_far (he2.cell d2) (by simp)) (by simp)⟩)
      (first | (go_at_call 34; refine (used_tp (bs := bs) (pos := (pos : Int)) (p : Int) ?_).mono ?_; exact ⟨_, rfl, hs1.ext ((Ext.refl _).drew)⟩; rintro e w2 ⟨t', rfl, he2, ⟨s', rfl, hs'⟩⟩; obtain ⟨A', c', rfl, -⟩ := hs'.parts; have n1 := L1.out.drew.ext he2; have g0 := n1.cell (i := 0) (by simp); have g1 := n1.cell (i := 1) (by simp); have q0 := n1.free 0; have q1 := n1.free 1))
    have hm2 : Mod (w.heap.size + 1) w2 ((w2.setCell ⟨w.heap.size + 1, 0, none⟩ (.slice A' bs.length c')).setCell ⟨w.heap.size + 1, 1, none⟩ (.int .i64 (p : Int))) := ((Mod.refl _ w2).setCell (p := ⟨w.heap.size + 1, 0, none⟩) (.inl rfl) _).setCell (p := ⟨w.heap.size + 1, 1, none⟩) (.inl rfl) _
    have hxf := (hxm.drew.trans he2).mod hm2 (by omega)
    have hvf : Nz _ v x := Dg.mod (hv.ext ((Ext.refl _).drew.trans he2)) n1 (by simp [U32]) hm2
    have hsf := hs'.mod n1 (by simp [U8]) hm2
    have m1 := (n1.set 0 (.slice A' bs.length c')).set 1 (.int .i64 (p : Int))
    have r0 := m1.cell (i := 0) (by simp)
    have r1 := m1.cell (i := 1) (by simp)
    have HR := Lib.hid (And.intro r0 r1); clear r0 r1 m1
    have HF := Lib.hid (And.intro hxf (And.intro hvf hsf)); clear hxf hvf hsf hm2
    go_wp2_with fail
    refine bodyPost_ret (v := .tuple #[v, .agg #[.slice A' bs.length c', .int .i64 (p : Int)], .int .i64 0]) ?_ rfl ⟨HF.out.1, ⟨_, _, rfl, HF.out.2.1, _, rfl, HF.out.2.2⟩⟩
    obtain ⟨r0, r1⟩ := HR.out
    simp [results, Try.results9, go_sem, r0, r1]

set_option maxHeartbeats 800000 in
theorem Uniform_zero {w : World} {u t : Value} {pos : Int} {bs : List Nat} (hu : Nv w u 0) (ht : Tp w t bs pos) :
    Calls Try.prog 9 #[u, t] w fun e w' => e = .returned (.tuple #[.slice none 0 0, .agg #[.slice none 0 0, .int .i64 0], .int .i64 18]) ∧ Ext w w' := by
  obtain ⟨s, rfl, hs⟩ := ht
  obtain ⟨A, c, rfl, hc⟩ := hs.parts
  go_enter Try.func9, Try.ntmps9
  go_wp2_with fail
  have hx1 : Ext w (w.alloc (Obj.cells #[Value.slice A bs.length c, Value.int IntKind.i64 ↑pos] 25)) := (Ext.refl w).alloc _
  have k0 := Bk.new w 25 [Value.slice A bs.length c, Value.int IntKind.i64 ↑pos]
  have z0 : (w.alloc (Obj.cells #[Value.slice A bs.length c, Value.int IntKind.i64 ↑pos] 25)).heap.size = w.heap.size + 1 := by simp
  change Bk (w.alloc (Obj.cells #[Value.slice A bs.length c, Value.int IntKind.i64 ↑pos] 25)) _ _ _ at k0
  generalize w.alloc (Obj.cells #[Value.slice A bs.length c, Value.int IntKind.i64 ↑pos] 25) = W0 at *
  have hx2 : Ext W0 (W0.alloc (Obj.cells #[Value.slice none 0 0, Value.int IntKind.i64 0] 25)) := (Ext.refl W0).alloc _
  have k1 := Bk.new W0 25 [Value.slice none 0 0, Value.int IntKind.i64 0]
  have z1 : (W0.alloc (Obj.cells #[Value.slice none 0 0, Value.int IntKind.i64 0] 25)).heap.size = W0.heap.size + 1 := by simp
  change Bk (W0.alloc (Obj.cells #[Value.slice none 0 0, Value.int IntKind.i64 0] 25)) _ _ _ at k1
  generalize W0.alloc (Obj.cells #[Value.slice none 0 0, Value.int IntKind.i64 0] 25) = W1 at *
  have hx3 : Ext W1 (W1.alloc (Obj.cells #[Value.slice A bs.length c, Value.int IntKind.i64 ↑pos] 84)) := (Ext.refl W1).alloc _
  have k2 := Bk.new W1 84 [Value.slice A bs.length c, Value.int IntKind.i64 ↑pos]
  change Bk (W1.alloc (Obj.cells #[Value.slice A bs.length c, Value.int IntKind.i64 ↑pos] 84)) _ _ _ at k2
  generalize W1.alloc (Obj.cells #[Value.slice A bs.length c, Value.int IntKind.i64 ↑pos] 84) = W2 at *
  replace k0 := (k0.ext hx2).ext hx3
  replace k1 := k1.ext hx3
  rw [z1, z0] at k2
  rw [z0] at k1
  have hxx := (hx1.trans hx2).trans hx3
  clear hx1 hx2 hx3 z0 z1
  refine (uniform_zero (hu.ext hxx)).mono ?_
  rintro e w1 ⟨rfl, hm⟩
  have l1 := k1.ext hm
  have hxm := hxx.trans hm
  clear k0 k1 k2 hm hxx hu
  have c0 := l1.cell (i := 0) (by simp)
  have c1 := l1.cell (i := 1) (by simp)
  have f0 := l1.free 0
  have f1 := l1.free 1
  have m1 := (l1.set 0 (.slice none 0 0)).set 1 (.int .i64 0)
  have r0 := m1.cell (i := 0) (by simp)
  have r1 := m1.cell (i := 1) (by simp)
  have HR := Lib.hid (And.intro r0 r1); clear r0 r1 m1
  go_wp2_with fail
  refine bodyPost_ret (v := .tuple #[.slice none 0 0, .agg #[.slice none 0 0, .int .i64 0], .int .i64 18]) ?_ rfl ⟨rfl, (hxm.setCell (p := ⟨w.heap.size + 1, 0, none⟩) (by simp) _).setCell (p := ⟨w.heap.size + 1, 1, none⟩) (by simp) _⟩
  obtain ⟨r0, r1⟩ := HR.out
  simp [results, Try.results9, go_sem, r0, r1]

end Go.Proofs.Ytjpkaljndfgkjaa
