/- Contracts: Database.Schema, Database.Relation, Relation.Arity. -/
import Derived.Test.YtmmmdinncmbjkaaGreatTb
namespace Go.Proofs.YtmmmdinncmbjkaaGreat
open Go.RowKit Go.Maps

theorem two_blk (w : World) (t u : TypeId) (cs ds : List Value) : Bk ((w.alloc (.cells cs.toArray t)).alloc (.cells ds.toArray u)) w.heap.size t cs ∧ Bk ((w.alloc (.cells cs.toArray t)).alloc (.cells ds.toArray u)) (w.heap.size + 1) u ds := by
  refine ⟨(Bk.new w t cs).alloc _, ?_⟩
  have h := Bk.new (w.alloc (.cells cs.toArray t)) u ds
  have e : (w.alloc (.cells cs.toArray t)).heap.size = w.heap.size + 1 := by simp
  rw [e] at h
  exact h
set_option maxRecDepth 20000 in
theorem arity_any {w : World} {a : Int} {A : Option Addr} {n c : Nat} :
    Calls Tryz.prog 11 #[.agg #[.int .i64 a, .slice A n c]] w (Ret (fun x _ => x = .int .i64 a) w) := by
  go_enter Tryz.func11, Tryz.ntmps11
  go_wp2_with fail
  go_ret
  exact Ret.mk ((Ext.refl w).alloc _) rfl
/-- What Database.Relation answers. -/
def RelPost (F : Nat → Prop) (m : Dm) (s : ByteArray) (w : World) (e : Ending) (w' : World) : Prop :=
  Ext w w' ∧ ((m s = none ∧ e = .returned (.tuple #[.agg #[.int .i64 0, .slice none 0 0], .bool false])) ∨ ∃ x A c, m s = some x ∧ e = .returned (.tuple #[.agg #[.int .i64 x.rel.ar, .slice A x.rel.rows.length c], .bool true]) ∧ Sl rdRow F w' (.slice A x.rel.rows.length c) x.rel.rows)
set_option maxRecDepth 20000 in
set_option maxHeartbeats 1600000 in
theorem relation_any {F : Nat → Prop} {w : World} {b n : Nat} {m : Dm} {s : ByteArray} (hD : DbB F w b n m) (hs : s.size ≤ maxLen) :
    Calls Tryz.prog 35 #[.agg #[.map (some b)], .string s] w (RelPost F m s w) := by
  obtain ⟨f, hM, hm⟩ := hD
  have HM := Lib.hid hM
  have k2 := two_blk w 26 54 [.map (some b)] [.int .i64 0, .slice none 0 0]
  have hx : Ext w ((w.alloc (.cells #[.map (some b)] 26)).alloc (.cells #[.int .i64 0, .slice none 0 0] 54)) := ((Ext.refl w).alloc _).alloc _
  rcases hm s with ⟨h1, h2⟩ | ⟨x, u, h1, h2, u1, r1, rfl, hk, hr⟩
  · have HU1 : Hid ((f s).getD (.agg #[.slice none 0 0, .int .i64 0, .slice none 0 0]) = .agg #[.slice none 0 0, .int .i64 0, .slice none 0 0]) := Lib.hid (by rw [h2]; rfl)
    have HU2 : Hid ((f s).isSome = false) := Lib.hid (by rw [h2]; rfl)
    have HNO := Lib.hid h1
    clear hm h1 h2 hM
    go_enter Tryz.func35, Tryz.ntmps35
    go_upto_region 1 with fail
    change Bk ((w.alloc (.cells #[.map (some b)] 26)).alloc (.cells #[.int .i64 0, .slice none 0 0] 54)) _ _ _ ∧ Bk ((w.alloc (.cells #[.map (some b)] 26)).alloc (.cells #[.int .i64 0, .slice none 0 0] 54)) _ _ _ at k2
    generalize ((w.alloc (.cells #[.map (some b)] 26)).alloc (.cells #[.int .i64 0, .slice none 0 0] 54)) = w1 at *
    obtain ⟨ka, kb⟩ := k2
    have a0 := ka.cell (i := 0) (by simp)
    simp only [List.getElem_cons_zero, List.getElem_cons_succ] at a0
    have HX := Lib.hid hx; have HKB := Lib.hid kb; have HM1 := Lib.hid (HM.out.ext hx)
    have hlt := kb.lt
    clear ka kb hx
    go_upto_region 2 with (first
      | (refine wpList_lookup_okV rfl _ _ 24 98 rfl Tryz.underlying24 (.agg #[.slice none 0 0, .int .i64 0, .slice none 0 0]) (zero_entry _) b n f rfl HM1.out s rfl hs _ HU1.out false HU2.out ?_))
    have ke := Bk.new w1 98 [.slice none 0 0, .int .i64 0, .slice none 0 0]
    change Bk (w1.alloc (.cells #[.slice none 0 0, .int .i64 0, .slice none 0 0] 98)) _ _ _ at ke
    have hx2 : Ext w1 (w1.alloc (.cells #[.slice none 0 0, .int .i64 0, .slice none 0 0] 98)) := (Ext.refl w1).alloc _
    generalize (w1.alloc (.cells #[.slice none 0 0, .int .i64 0, .slice none 0 0] 98)) = w2 at *
    have e1 := ke.cell (i := 1) (by simp); have e2 := ke.cell (i := 2) (by simp)
    simp only [List.getElem_cons_zero, List.getElem_cons_succ] at e1 e2
    have HKB2 := Lib.hid (HKB.out.ext hx2); have HX2 := Lib.hid (HX.out.trans hx2)
    have f0 := HKB2.out.free 0; have f1 := HKB2.out.free 1
    have b0 := HKB2.out.cell (i := 0) (by simp); have b1 := HKB2.out.cell (i := 1) (by simp)
    simp only [List.getElem_cons_zero, List.getElem_cons_succ] at b0 b1
    clear ke hx2 a0
    go_wp2_with fail
    have kz : Bk ((w2.setCell ⟨w.heap.size + 1, 0, none⟩ (.int .i64 0)).setCell ⟨w.heap.size + 1, 1, none⟩ (.slice none 0 0)) (w.heap.size + 1) 54 [.int .i64 0, .slice none 0 0] := (HKB2.out.set 0 _).set 1 _
    have hez : Ext w ((w2.setCell ⟨w.heap.size + 1, 0, none⟩ (.int .i64 0)).setCell ⟨w.heap.size + 1, 1, none⟩ (.slice none 0 0)) := (HX2.out.setCell (p := ⟨w.heap.size + 1, 0, none⟩) (Nat.le_succ _) _).setCell (p := ⟨w.heap.size + 1, 1, none⟩) (Nat.le_succ _) _
    generalize ((w2.setCell ⟨w.heap.size + 1, 0, none⟩ (.int .i64 0)).setCell ⟨w.heap.size + 1, 1, none⟩ (.slice none 0 0)) = wz at *
    have z0 := kz.cell (i := 0) (by simp); have z1 := kz.cell (i := 1) (by simp)
    simp only [List.getElem_cons_zero, List.getElem_cons_succ] at z0 z1
    exact bodyPost_ret (v := .tuple #[.agg #[.int .i64 0, .slice none 0 0], .bool false]) (by simp [results, Tryz.results35, go_sem, z0, z1]) rfl ⟨hez, .inl ⟨HNO.out, rfl⟩⟩
  · obtain ⟨A, c, rfl⟩ := hr.sl
    have HU1 : Hid ((f s).getD (.agg #[.slice none 0 0, .int .i64 0, .slice none 0 0]) = .agg #[u1, .int .i64 x.rel.ar, .slice A x.rel.rows.length c]) := Lib.hid (by rw [h2]; rfl)
    have HU2 : Hid ((f s).isSome = true) := Lib.hid (by rw [h2]; rfl)
    obtain ⟨nr, hnr⟩ : ∃ k, k = x.rel.rows.length := ⟨_, rfl⟩
    obtain ⟨ra, hra⟩ : ∃ k, k = x.rel.ar := ⟨_, rfl⟩
    have HQ := Lib.hid (fun (V : World) (hV : Ext w V) => (show RelPost F m s w (.returned (.tuple #[.agg #[.int .i64 ra, .slice A nr c], .bool true])) V by
      refine ⟨hV, .inr ⟨x, A, c, h1, by rw [hnr, hra], hr.ext hV⟩⟩))
    rw [← hnr, ← hra] at HU1
    obtain ⟨A0, c0, rfl⟩ : ∃ A0 c0, u1 = .slice A0 x.kinds.length c0 := let ⟨A0, c0, e, _⟩ := hk; ⟨A0, c0, e⟩
    obtain ⟨nk, hnk⟩ : ∃ k, k = x.kinds.length := ⟨_, rfl⟩
    rw [← hnk] at HU1
    clear hm h1 h2 hM hr hk hnr hra hnk
    go_enter Tryz.func35, Tryz.ntmps35
    go_upto_region 1 with fail
    change Bk ((w.alloc (.cells #[.map (some b)] 26)).alloc (.cells #[.int .i64 0, .slice none 0 0] 54)) _ _ _ ∧ Bk ((w.alloc (.cells #[.map (some b)] 26)).alloc (.cells #[.int .i64 0, .slice none 0 0] 54)) _ _ _ at k2
    generalize ((w.alloc (.cells #[.map (some b)] 26)).alloc (.cells #[.int .i64 0, .slice none 0 0] 54)) = w1 at *
    obtain ⟨ka, kb⟩ := k2
    have a0 := ka.cell (i := 0) (by simp)
    simp only [List.getElem_cons_zero, List.getElem_cons_succ] at a0
    have HX := Lib.hid hx; have HKB := Lib.hid kb; have HM1 := Lib.hid (HM.out.ext hx)
    have hlt := kb.lt
    clear ka kb hx
    go_upto_region 2 with (first
      | (refine wpList_lookup_okV rfl _ _ 24 98 rfl Tryz.underlying24 (.agg #[.slice none 0 0, .int .i64 0, .slice none 0 0]) (zero_entry _) b n f rfl HM1.out s rfl hs _ HU1.out true HU2.out ?_))
    have ke := Bk.new w1 98 [.slice A0 nk c0, .int .i64 ra, .slice A nr c]
    change Bk (w1.alloc (.cells #[.slice A0 nk c0, .int .i64 ra, .slice A nr c] 98)) _ _ _ at ke
    have hx2 : Ext w1 (w1.alloc (.cells #[.slice A0 nk c0, .int .i64 ra, .slice A nr c] 98)) := (Ext.refl w1).alloc _
    generalize (w1.alloc (.cells #[.slice A0 nk c0, .int .i64 ra, .slice A nr c] 98)) = w2 at *
    have e1 := ke.cell (i := 1) (by simp); have e2 := ke.cell (i := 2) (by simp)
    simp only [List.getElem_cons_zero, List.getElem_cons_succ] at e1 e2
    have HKB2 := Lib.hid (HKB.out.ext hx2); have HX2 := Lib.hid (HX.out.trans hx2)
    have f0 := HKB2.out.free 0; have f1 := HKB2.out.free 1
    have b0 := HKB2.out.cell (i := 0) (by simp); have b1 := HKB2.out.cell (i := 1) (by simp)
    simp only [List.getElem_cons_zero, List.getElem_cons_succ] at b0 b1
    clear ke hx2 a0
    go_wp2_with fail
    have kz : Bk ((w2.setCell ⟨w.heap.size + 1, 0, none⟩ (.int .i64 ra)).setCell ⟨w.heap.size + 1, 1, none⟩ (.slice A nr c)) (w.heap.size + 1) 54 [.int .i64 ra, .slice A nr c] := (HKB2.out.set 0 _).set 1 _
    have hez : Ext w ((w2.setCell ⟨w.heap.size + 1, 0, none⟩ (.int .i64 ra)).setCell ⟨w.heap.size + 1, 1, none⟩ (.slice A nr c)) := (HX2.out.setCell (p := ⟨w.heap.size + 1, 0, none⟩) (Nat.le_succ _) _).setCell (p := ⟨w.heap.size + 1, 1, none⟩) (Nat.le_succ _) _
    generalize ((w2.setCell ⟨w.heap.size + 1, 0, none⟩ (.int .i64 ra)).setCell ⟨w.heap.size + 1, 1, none⟩ (.slice A nr c)) = wz at *
    have z0 := kz.cell (i := 0) (by simp); have z1 := kz.cell (i := 1) (by simp)
    simp only [List.getElem_cons_zero, List.getElem_cons_succ] at z0 z1
    exact bodyPost_ret (v := .tuple #[.agg #[.int .i64 ra, .slice A nr c], .bool true]) (by simp [results, Tryz.results35, go_sem, z0, z1]) rfl (HQ.out _ hez)
end Go.Proofs.YtmmmdinncmbjkaaGreat
