/- Contracts: selected, remaining, Project on what is empty. -/
import Derived.Test.YtmmmdinncmbjkaaGreatTe
namespace Go.Proofs.YtmmmdinncmbjkaaGreat
open Go.RowKit Go.Maps

theorem three_blk (w : World) (t u v : TypeId) (cs ds es : List Value) : Bk (((w.alloc (.cells cs.toArray t)).alloc (.cells ds.toArray u)).alloc (.cells es.toArray v)) w.heap.size t cs ∧ Bk (((w.alloc (.cells cs.toArray t)).alloc (.cells ds.toArray u)).alloc (.cells es.toArray v)) (w.heap.size + 1) u ds ∧ Bk (((w.alloc (.cells cs.toArray t)).alloc (.cells ds.toArray u)).alloc (.cells es.toArray v)) (w.heap.size + 1 + 1) v es := by
  obtain ⟨h1, h2⟩ := two_blk w t u cs ds
  refine ⟨h1.alloc _, h2.alloc _, ?_⟩
  have h := Bk.new ((w.alloc (.cells cs.toArray t)).alloc (.cells ds.toArray u)) v es
  have e : ((w.alloc (.cells cs.toArray t)).alloc (.cells ds.toArray u)).heap.size = w.heap.size + 1 + 1 := by simp
  rw [e] at h
  exact h
set_option maxRecDepth 20000 in
set_option maxHeartbeats 1600000 in
theorem remaining_nil {w : World} {a : Int} {R X : Option Addr} {n c d : Nat} :
    Calls Tryz.prog 53 #[.agg #[.int .i64 a, .slice R n c], .slice X 0 d] w (fun e w' => Ext w w' ∧ e = .returned (.tuple #[.agg #[.int .i64 a, .slice R n c], .int .i64 0])) := by
  have k3 := three_blk w 54 147 54 [.int .i64 a, .slice R n c] [.slice X 0 d] [.int .i64 0, .slice none 0 0]
  have hx : Ext w (((w.alloc (.cells #[.int .i64 a, .slice R n c] 54)).alloc (.cells #[.slice X 0 d] 147)).alloc (.cells #[.int .i64 0, .slice none 0 0] 54)) := (((Ext.refl w).alloc _).alloc _).alloc _
  go_enter Tryz.func53, Tryz.ntmps53
  go_upto_region 1 with fail
  change Bk (((w.alloc (.cells #[.int .i64 a, .slice R n c] 54)).alloc (.cells #[.slice X 0 d] 147)).alloc (.cells #[.int .i64 0, .slice none 0 0] 54)) _ _ _ ∧ Bk (((w.alloc (.cells #[.int .i64 a, .slice R n c] 54)).alloc (.cells #[.slice X 0 d] 147)).alloc (.cells #[.int .i64 0, .slice none 0 0] 54)) _ _ _ ∧ Bk (((w.alloc (.cells #[.int .i64 a, .slice R n c] 54)).alloc (.cells #[.slice X 0 d] 147)).alloc (.cells #[.int .i64 0, .slice none 0 0] 54)) _ _ _ at k3
  generalize (((w.alloc (.cells #[.int .i64 a, .slice R n c] 54)).alloc (.cells #[.slice X 0 d] 147)).alloc (.cells #[.int .i64 0, .slice none 0 0] 54)) = w1 at *
  obtain ⟨ka, kb, kc⟩ := k3
  have a0 := ka.cell (i := 0) (by simp); have a1 := ka.cell (i := 1) (by simp); have b0 := kb.cell (i := 0) (by simp); have c0 := kc.cell (i := 0) (by simp); have c1 := kc.cell (i := 1) (by simp)
  simp only [List.getElem_cons_zero, List.getElem_cons_succ] at a0 a1 b0 c0 c1
  have f0 := kc.free 0; have f1 := kc.free 1
  have hlt := kc.lt
  go_wp2_with fail
  have kz : Bk ((w1.setCell ⟨w.heap.size + 1 + 1, 0, none⟩ (.int .i64 a)).setCell ⟨w.heap.size + 1 + 1, 1, none⟩ (.slice R n c)) (w.heap.size + 1 + 1) 54 [.int .i64 a, .slice R n c] := (kc.set 0 _).set 1 _
  have hez : Ext w ((w1.setCell ⟨w.heap.size + 1 + 1, 0, none⟩ (.int .i64 a)).setCell ⟨w.heap.size + 1 + 1, 1, none⟩ (.slice R n c)) := (hx.setCell (p := ⟨w.heap.size + 1 + 1, 0, none⟩) (by show w.heap.size ≤ w.heap.size + 1 + 1; omega) _).setCell (p := ⟨w.heap.size + 1 + 1, 1, none⟩) (by show w.heap.size ≤ w.heap.size + 1 + 1; omega) _
  generalize ((w1.setCell ⟨w.heap.size + 1 + 1, 0, none⟩ (.int .i64 a)).setCell ⟨w.heap.size + 1 + 1, 1, none⟩ (.slice R n c)) = wz at *
  have z0 := kz.cell (i := 0) (by simp); have z1 := kz.cell (i := 1) (by simp)
  simp only [List.getElem_cons_zero, List.getElem_cons_succ] at z0 z1
  exact bodyPost_ret (v := .tuple #[.agg #[.int .i64 a, .slice R n c], .int .i64 0]) (by simp [results, Tryz.results53, go_sem, z0, z1]) rfl ⟨hez, rfl⟩
set_option maxRecDepth 20000 in
set_option maxHeartbeats 1600000 in
theorem sorted_empty {w : World} {R : Option Addr} {c : Nat} {f : Value} :
    Calls Tryz.prog 104 #[.slice R 0 c, f] w (fun e w' => e = .returned (.bool true) ∧ w = w') := by
  go_enter Tryz.func104, Tryz.ntmps104
  go_wp2_with fail
  go_loopw [5] (fun t wr => t = .int .i64 (-1) ∧ w = wr) (fun _ _ => 0)
  case atStart => exact ⟨rfl, rfl⟩
  case round =>
    obtain ⟨rfl, rfl⟩ := hrel
    go_wp2_with fail
    go_ret
    exact ⟨rfl, rfl⟩
set_option maxRecDepth 20000 in
set_option maxHeartbeats 1600000 in
theorem compact_empty {w : World} {R : Option Addr} {c : Nat} {f : Value} :
    Calls Tryz.prog 106 #[.slice R 0 c, f] w (fun e w' => e = .returned (.slice R 0 c) ∧ w = w') := by
  go_enter Tryz.func106, Tryz.ntmps106
  go_wp2_with fail
  go_ret
  exact ⟨rfl, rfl⟩
set_option maxRecDepth 20000 in
set_option maxHeartbeats 1600000 in
theorem build_empty {w : World} {R : Option Addr} {c : Nat} {a : Int} :
    Calls Tryz.prog 78 #[.int .i64 a, .slice R 0 c] w (fun e w' => Ext w w' ∧ e = .returned (.tuple #[.agg #[.int .i64 a, .slice R 0 c], .int .i64 0])) := by
  have kb := Bk.new w 54 [.int .i64 0, .slice none 0 0]
  have hx : Ext w (w.alloc (.cells #[.int .i64 0, .slice none 0 0] 54)) := (Ext.refl w).alloc _
  go_enter Tryz.func78, Tryz.ntmps78
  go_upto_region 1 with fail
  change Bk (w.alloc (.cells #[.int .i64 0, .slice none 0 0] 54)) _ _ _ at kb
  generalize (w.alloc (.cells #[.int .i64 0, .slice none 0 0] 54)) = w1 at *
  go_wp2_with fail
  refine sorted_empty.mono ?_
  rintro e w2 ⟨rfl, rfl⟩
  go_wp2_with fail
  refine compact_empty.mono ?_
  rintro e w2 ⟨rfl, rfl⟩
  have b0 := kb.cell (i := 0) (by simp); have b1 := kb.cell (i := 1) (by simp)
  simp only [List.getElem_cons_zero, List.getElem_cons_succ] at b0 b1
  have f0 := kb.free 0; have f1 := kb.free 1
  have hlt := kb.lt
  go_wp2_with fail
  go_loopw [20] (fun t wr => t = .int .i64 0 ∧ w1 = wr) (fun _ _ => 0)
  case atStart => exact ⟨rfl, rfl⟩
  case round =>
    obtain ⟨rfl, rfl⟩ := hrel
    go_wp2_with fail
    have kz : Bk ((w1.setCell ⟨w.heap.size, 0, none⟩ (.int .i64 a)).setCell ⟨w.heap.size, 1, none⟩ (.slice R 0 c)) w.heap.size 54 [.int .i64 a, .slice R 0 c] := (kb.set 0 _).set 1 _
    have hez : Ext w ((w1.setCell ⟨w.heap.size, 0, none⟩ (.int .i64 a)).setCell ⟨w.heap.size, 1, none⟩ (.slice R 0 c)) := (hx.setCell (p := ⟨w.heap.size, 0, none⟩) (Nat.le_refl _) _).setCell (p := ⟨w.heap.size, 1, none⟩) (Nat.le_refl _) _
    generalize ((w1.setCell ⟨w.heap.size, 0, none⟩ (.int .i64 a)).setCell ⟨w.heap.size, 1, none⟩ (.slice R 0 c)) = wz at *
    have z0 := kz.cell (i := 0) (by simp); have z1 := kz.cell (i := 1) (by simp)
    simp only [List.getElem_cons_zero, List.getElem_cons_succ] at z0 z1
    exact bodyPost_ret (v := .tuple #[.agg #[.int .i64 a, .slice R 0 c], .int .i64 0]) (by simp [results, Tryz.results78, go_sem, z0, z1]) rfl ⟨hez, rfl⟩
theorem info_row : (Tryz.prog.info? 81).map (fun i => (i.zero, i.size, i.bytes)) = some (some (.slice none 0 0), 1, 24) := by kernel_rfl
set_option maxRecDepth 20000 in
set_option maxHeartbeats 1600000 in
theorem project_empty {F : Nat → Prop} {w : World} {R C : Option Addr} {c n d : Nat} {a : Int} {cols : List Int} (hC : Ins F w (.slice C n d) cols) (hn : n ≤ 32) (hb : ∀ x ∈ cols, missB a x = false) :
    Calls Tryz.prog 52 #[.agg #[.int .i64 a, .slice R 0 c], .slice C n d] w (fun e w' => Ext w w' ∧ ∃ A cc, e = .returned (.tuple #[.agg #[.int .i64 (n : Int), .slice A 0 cc], .int .i64 0])) := by
  obtain ⟨C', d', e, -, hcl⟩ := hC
  injection e with e1 e2 e3
  subst e1
  have HCL := Lib.hid hcl; have HN := Lib.hid e2; have HB := Lib.hid hb
  clear hcl e2 e3 hb
  have g32 : ¬ (32 : Int) < (n : Int) := by omega
  have k2 := two_blk w 54 54 [.int .i64 a, .slice R 0 c] [.int .i64 0, .slice none 0 0]
  have hx : Ext w ((w.alloc (.cells #[.int .i64 a, .slice R 0 c] 54)).alloc (.cells #[.int .i64 0, .slice none 0 0] 54)) := ((Ext.refl w).alloc _).alloc _
  go_enter Tryz.func52, Tryz.ntmps52
  go_upto_region 1 with fail
  change Bk ((w.alloc (.cells #[.int .i64 a, .slice R 0 c] 54)).alloc (.cells #[.int .i64 0, .slice none 0 0] 54)) _ _ _ ∧ Bk ((w.alloc (.cells #[.int .i64 a, .slice R 0 c] 54)).alloc (.cells #[.int .i64 0, .slice none 0 0] 54)) _ _ _ at k2
  generalize ((w.alloc (.cells #[.int .i64 a, .slice R 0 c] 54)).alloc (.cells #[.int .i64 0, .slice none 0 0] 54)) = w1 at *
  obtain ⟨ka, kb⟩ := k2
  have a0 := ka.cell (i := 0) (by simp); have a1 := ka.cell (i := 1) (by simp)
  simp only [List.getElem_cons_zero, List.getElem_cons_succ] at a0 a1
  have HKA := Lib.hid ka; have HKB := Lib.hid kb; have HX := Lib.hid hx
  have hlt := kb.lt
  clear ka kb hx
  go_wp2_with fail
  go_loopw [15] (fun t wr => ∃ i : Nat, i ≤ n ∧ t = .int .i64 (i : Int) ∧ Ext w1 wr) (fun t _ => n - (intOf t).toNat)
  case atStart => exact ⟨0, Nat.zero_le _, rfl, Ext.refl _⟩
  case round =>
    obtain ⟨i, hi, rfl, hxr⟩ := hrel
    obtain ⟨W, rfl⟩ : ∃ W : World, W = wr := ⟨_, rfl⟩
    have HXR := Lib.hid hxr
    replace a0 := hxr.cell a0; replace a1 := hxr.cell a1
    by_cases hlt : i < n
    · have i1 : (0 : Int) ≤ (i : Int) := by omega
      have i2 : (i : Int) < (n : Int) := by omega
      have hix : i < cols.length := by have := HN.out; omega
      obtain ⟨ad, rfl, -, c0⟩ := HCL.out.int hix
      replace c0 := hxr.cell (HX.out.cell c0)
      have hmb := HB.out _ (List.getElem_mem hix)
      obtain ⟨x, hx⟩ : ∃ x, x = cols[i] := ⟨_, rfl⟩
      rw [← hx] at c0 hmb
      have h0 : ¬ x < 0 := fun h => by simp [missB, h] at hmb
      have h1 : ¬ a ≤ x := fun h => by simp [missB, h] at hmb
      clear hx hmb hxr
      go_upto_region 6 with fail
      go_quiet (fail)
      have HXQ := Lib.hid (HXR.out.drewN nq)
      generalize (W.drewN nq) = Y at *
      clear a0 a1 c0
      go_wp2_with fail
      go_roundw
      case rel => exact ⟨i + 1, by omega, by go_num, HXQ.out⟩
      case measure => simp [intOf]; omega
    · obtain rfl : i = n := by omega
      have hdi : ¬ (i : Int) < (i : Int) := by omega
      have HKB1 := Lib.hid (HKB.out.ext hxr)
      clear hxr
      have hmk := make_row (P := Tryz.prog) 52 81 (.slice none 0 0) 24 Tryz.underlying52 info_row rfl 0 (by omega) (by omega) W
      simp only [Int.natCast_zero, List.replicate_zero] at hmk
      have hx2 : Ext W (W.alloc (.cells #[] 81)) := (Ext.refl W).alloc _
      go_upto_region 10 with fail
      generalize (W.alloc (.cells #[] 81)) = W2 at *
      have HX2 := Lib.hid (HX.out.trans (HXR.out.trans hx2)); have HKB2 := Lib.hid (HKB1.out.ext hx2)
      clear hx2 hmk a0 a1
      go_wp2_with fail
      go_loopw [40] (fun t wr => t = .int .i64 0 ∧ W2 = wr) (fun _ _ => 0)
      case atStart => exact ⟨rfl, rfl⟩
      case round =>
        obtain ⟨rfl, rfl⟩ := hrel
        go_wp2_with fail
        refine build_empty.mono ?_
        rintro e W3 ⟨he3, rfl⟩
        have HX3 := Lib.hid (HX2.out.trans he3); have HKB3 := Lib.hid (HKB2.out.ext he3)
        have b0 := HKB3.out.cell (i := 0) (by simp); have b1 := HKB3.out.cell (i := 1) (by simp)
        simp only [List.getElem_cons_zero, List.getElem_cons_succ] at b0 b1
        have f0 := HKB3.out.free 0; have f1 := HKB3.out.free 1
        have hlt9 : w.heap.size + 1 < W3.heap.size := HKB3.out.lt
        clear he3
        go_wp2_with fail
        have kz : Bk ((W3.setCell ⟨w.heap.size + 1, 0, none⟩ (.int .i64 (i : Int))).setCell ⟨w.heap.size + 1, 1, none⟩ (.slice (some ⟨W.heap.size, 0, none⟩) 0 0)) (w.heap.size + 1) 54 [.int .i64 (i : Int), .slice (some ⟨W.heap.size, 0, none⟩) 0 0] := (HKB3.out.set 0 _).set 1 _
        have hez : Ext w ((W3.setCell ⟨w.heap.size + 1, 0, none⟩ (.int .i64 (i : Int))).setCell ⟨w.heap.size + 1, 1, none⟩ (.slice (some ⟨W.heap.size, 0, none⟩) 0 0)) := (HX3.out.setCell (p := ⟨w.heap.size + 1, 0, none⟩) (Nat.le_succ _) _).setCell (p := ⟨w.heap.size + 1, 1, none⟩) (Nat.le_succ _) _
        generalize ((W3.setCell ⟨w.heap.size + 1, 0, none⟩ (.int .i64 (i : Int))).setCell ⟨w.heap.size + 1, 1, none⟩ (.slice (some ⟨W.heap.size, 0, none⟩) 0 0)) = wz at *
        have z0 := kz.cell (i := 0) (by simp); have z1 := kz.cell (i := 1) (by simp)
        simp only [List.getElem_cons_zero, List.getElem_cons_succ] at z0 z1
        exact bodyPost_ret (v := .tuple #[.agg #[.int .i64 (i : Int), .slice (some ⟨W.heap.size, 0, none⟩) 0 0], .int .i64 0]) (by simp [results, Tryz.results52, go_sem, z0, z1]) rfl ⟨hez, _, _, rfl⟩
end Go.Proofs.YtmmmdinncmbjkaaGreat
