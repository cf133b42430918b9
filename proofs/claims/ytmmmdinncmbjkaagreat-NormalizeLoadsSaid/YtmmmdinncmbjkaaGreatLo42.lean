/- Contract: the law's rows, where a relation has exactly the given rows. -/
import Derived.Test.YtmmmdinncmbjkaaGreatLo41
namespace Go.Proofs.YtmmmdinncmbjkaaGreat
open Go.RowKit Go.Maps
set_option maxRecDepth 20000 in
set_option maxHeartbeats 3200000 in
theorem rows_true {F G : Nat → Prop} {w : World} {A B : Option Addr} {n c m d : Nat} {a : Int} {rows l : List (List Vl)} (hS : SoR rows) (hA : Sl rdRow F w (.slice A n c) rows) (hB : Sl rdRow G w (.slice B m d) l) (hn : n ≤ 1048576) (hr : ∀ x ∈ rows, x.length ≤ 1048576) (hlen : l.length = rows.length) (hall : ∀ x ∈ l, x ∈ rows) :
    Calls Tryz.prog 16 #[.agg #[.int .i64 a, .slice A n c], .slice B m d] w (Ret (fun x _ => x = .bool true) w) := by
  have hna := hA.cap.1; have hmb := hB.cap.1
  obtain rfl : m = n := by omega
  have HA := Lib.hid hA; have HB := Lib.hid hB; have HMB := Lib.hid hmb; have HR := Lib.hid hr; have HALL := Lib.hid hall; have HSO := Lib.hid hS
  have HLEN := Lib.hid (fun (V : World) => len_any (w := V) (a := a) (A := A) (n := m) (c := c))
  have hbn : ((m : Int) != (m : Int)) = false := by simp
  clear hA hB hna hmb hr hlen hall hS
  go_enter Tryz.func16, Tryz.ntmps16
  go_upto_region 1 with fail
  have kb := Bk.new w 54 [.int .i64 a, .slice A m c]
  change Bk (w.alloc (.cells #[.int .i64 a, .slice A m c] 54)) _ _ _ at kb
  have hx1 : Ext w (w.alloc (.cells #[.int .i64 a, .slice A m c] 54)) := (Ext.refl w).alloc _
  generalize (w.alloc (.cells #[.int .i64 a, .slice A m c] 54)) = w1 at *
  have HKB := Lib.hid kb; have HX1 := Lib.hid hx1
  have b0 := kb.cell (i := 0) (by simp); have b1 := kb.cell (i := 1) (by simp)
  simp only [List.getElem_cons_zero, List.getElem_cons_succ] at b0 b1
  clear kb hx1
  go_wp2_with fail
  refine (HLEN.out _).mono ?_
  rintro e w2 ⟨yv, rfl, he2, rfl⟩
  have HX2 := Lib.hid (HX1.out.trans he2); have HKB2 := Lib.hid (HKB.out.ext he2)
  clear he2 b0 b1
  go_wp2_with fail
  go_loopw [5] (fun t wr => ∃ i : Nat, i ≤ m ∧ t = .int .i64 (i : Int) ∧ Ext w2 wr) (fun t _ => m - (intOf t).toNat)
  case atStart => exact ⟨0, Nat.zero_le _, rfl, Ext.refl _⟩
  case round =>
    obtain ⟨i, hi, rfl, hx⟩ := hrel
    obtain ⟨W, rfl⟩ : ∃ W : World, W = wr := ⟨_, rfl⟩
    have HX := Lib.hid hx; have HXW := Lib.hid (HX2.out.trans hx)
    by_cases hlt : i < m
    · have i1 : (0 : Int) ≤ (i : Int) := by omega
      have i2 : (i : Int) < (m : Int) := by omega
      have hil : i < l.length := by have := HMB.out; omega
      obtain ⟨ad, D, e, rfl, -, c0, hs⟩ := HB.out.row hil
      replace c0 := HXW.out.cell c0
      have hmem := HALL.out _ (List.getElem_mem hil)
      obtain ⟨x, hxx⟩ : ∃ x, x = l[i] := ⟨_, rfl⟩
      rw [← hxx] at c0 hs hmem
      have hxl := HR.out _ hmem
      have HSR := Lib.hid (fun (V : World) (hV : Ext W V) => relsearch_any (a := a) HSO.out (HA.out.ext (HXW.out.trans hV)) (hs.ext (HXW.out.trans hV)) hxl HR.out hn)
      obtain ⟨lx, hlx⟩ : ∃ k, k = x.length := ⟨_, rfl⟩
      rw [← hlx] at c0 HSR
      have hh : hasR rows x = true := hasR_iff.2 hmem
      have HSR2 : Hid (∀ (V : World), Ext W V → Calls Tryz.prog 24 #[.agg #[.int .i64 a, .slice A m c], .slice D lx e] V (fun e w' => ∃ z : Int, e = .returned (.tuple #[.int .i64 z, .bool true]) ∧ Ext V w')) := Lib.hid (fun V hV => (HSR.out V hV).mono (fun e w' h => ⟨(lowR rows x : Int), h.2.trans (by rw [hh]), h.1⟩))
      have b0 := (HKB2.out.ext hx).cell (i := 0) (by simp); have b1 := (HKB2.out.ext hx).cell (i := 1) (by simp)
      simp only [List.getElem_cons_zero, List.getElem_cons_succ] at b0 b1
      clear hs hmem hxx hxl hlx hh HSR hx
      go_upto_region 6 with fail
      go_region_held3 (fun V => Ext W V ∧ V.cell? ⟨w.heap.size, 0, none⟩ = some (.int .i64 a) ∧ V.cell? ⟨w.heap.size, 1, none⟩ = some (.slice A m c) ∧ V.cell? (ad.add i) = some (.slice D lx e))
        ((refine (fun he => ⟨he, Ext.cell he b0, Ext.cell he b1, Ext.cell he c0⟩) ?_; repeat (first | exact Ext.refl _ | exact (Ext.refl _).drew | refine Ext.drew ?_ | refine Ext.trans ?_ (by assumption))))
        (first
          | (go_at_call 24; (with_reducible refine (HSR2.out _ (And.left (by assumption))).mono ?_); rintro e wi ⟨z, rfl, hei⟩))
      have hfin := And.left (b := _ ∧ _) (by assumption)
      obtain ⟨X, rfl⟩ : ∃ X : World, X = wi := ⟨_, rfl⟩
      have HX3 := Lib.hid (HX.out.trans hfin)
      clear hfin hei b0 b1 c0
      go_wp2_with fail
      go_roundw
      case rel => exact ⟨i + 1, by omega, by go_num, HX3.out⟩
      case measure => simp [intOf]; omega
    · obtain rfl : i = m := by omega
      have hdi : ¬ (i : Int) < (i : Int) := by omega
      clear hx
      go_wp2_with fail
      go_ret
      exact Ret.mk HXW.out rfl
end Go.Proofs.YtmmmdinncmbjkaaGreat
