/- Contracts: Database.Schema, Database.Relation, Relation.Arity. Contract: normalize.fits. -/
import Derived.Test.YtmmmdinncmbjkaaGreatMf20
namespace Go.Proofs.YtmmmdinncmbjkaaGreat
open Go.RowKit Go.Maps
theorem two_blk (w : World) (t u : TypeId) (cs ds : List Value) : Bk ((w.alloc (.cells cs.toArray t)).alloc (.cells ds.toArray u)) w.heap.size t cs ∧ Bk ((w.alloc (.cells cs.toArray t)).alloc (.cells ds.toArray u)) (w.heap.size + 1) u ds := by
  refine ⟨(Bk.new w t cs).alloc _, ?_⟩
  have h := Bk.new (w.alloc (.cells cs.toArray t)) u ds
  have e : (w.alloc (.cells cs.toArray t)).heap.size = w.heap.size + 1 := by simp
  rw [e] at h
  exact h
set_option maxRecDepth 20000 in
theorem arity_any {w : World} {a : Int} {A : Option Addr} {n c : Nat} :
    Calls Tryz.prog 11 #[.agg #[.int .i64 a, .slice A n c]] w (Ret (fun x _ => x = .int .i64 a) w) := by
  go_enter Tryz.func11, Tryz.ntmps11
  go_wp2_with fail
  go_ret
  exact Ret.mk ((Ext.refl w).alloc _) rfl
/-- What Database.Relation answers. -/
def RelPost (F : Nat → Prop) (m : Dm) (s : ByteArray) (w : World) (e : Ending) (w' : World) : Prop :=
  Ext w w' ∧ ((m s = none ∧ e = .returned (.tuple #[.agg #[.int .i64 0, .slice none 0 0], .bool false])) ∨ ∃ x A c, m s = some x ∧ e = .returned (.tuple #[.agg #[.int .i64 x.rel.ar, .slice A x.rel.rows.length c], .bool true]) ∧ Sl rdRow F w' (.slice A x.rel.rows.length c) x.rel.rows)
set_option maxRecDepth 20000 in
set_option maxHeartbeats 1600000 in
theorem relation_any {F : Nat → Prop} {w : World} {b n : Nat} {m : Dm} {s : ByteArray} (hD : DbB F w b n m) (hs : s.size ≤ maxLen) :
    Calls Tryz.prog 35 #[.agg #[.map (some b)], .string s] w (RelPost F m s w) := by
  obtain ⟨f, hM, hm⟩ := hD
  have HM := Lib.hid hM
  have k2 := two_blk w 26 54 [.map (some b)] [.int .i64 0, .slice none 0 0]
  have hx : Ext w ((w.alloc (.cells #[.map (some b)] 26)).alloc (.cells #[.int .i64 0, .slice none 0 0] 54)) := ((Ext.refl w).alloc _).alloc _
  rcases hm s with ⟨h1, h2⟩ | ⟨x, u, h1, h2, u1, r1, rfl, hk, -, hr⟩
  · have HU1 : Hid ((f s).getD (.agg #[.slice none 0 0, .int .i64 0, .slice none 0 0]) = .agg #[.slice none 0 0, .int .i64 0, .slice none 0 0]) := Lib.hid (by rw [h2]; rfl)
    have HU2 : Hid ((f s).isSome = false) := Lib.hid (by rw [h2]; rfl)
    have HNO := Lib.hid h1
    clear hm h1 h2 hM
    go_enter Tryz.func35, Tryz.ntmps35
    go_upto_region 1 with fail
    change Bk ((w.alloc (.cells #[.map (some b)] 26)).alloc (.cells #[.int .i64 0, .slice none 0 0] 54)) _ _ _ ∧ Bk ((w.alloc (.cells #[.map (some b)] 26)).alloc (.cells #[.int .i64 0, .slice none 0 0] 54)) _ _ _ at k2
    generalize ((w.alloc (.cells #[.map (some b)] 26)).alloc (.cells #[.int .i64 0, .slice none 0 0] 54)) = w1 at *
    obtain ⟨ka, kb⟩ := k2
    have a0 := ka.cell (i := 0) (by simp)
    simp only [List.getElem_cons_zero, List.getElem_cons_succ] at a0
    have HX := Lib.hid hx; have HKB := Lib.hid kb; have HM1 := Lib.hid (HM.out.ext hx)
    have hlt := kb.lt
    clear ka kb hx
    go_upto_region 2 with (first
      | (refine wpList_lookup_okV rfl _ _ 24 98 rfl Tryz.underlying24 (.agg #[.slice none 0 0, .int .i64 0, .slice none 0 0]) (zero_entry _) b n f rfl HM1.out s rfl hs _ HU1.out false HU2.out ?_))
    have ke := Bk.new w1 98 [.slice none 0 0, .int .i64 0, .slice none 0 0]
    change Bk (w1.alloc (.cells #[.slice none 0 0, .int .i64 0, .slice none 0 0] 98)) _ _ _ at ke
    have hx2 : Ext w1 (w1.alloc (.cells #[.slice none 0 0, .int .i64 0, .slice none 0 0] 98)) := (Ext.refl w1).alloc _
    generalize (w1.alloc (.cells #[.slice none 0 0, .int .i64 0, .slice none 0 0] 98)) = w2 at *
    have e1 := ke.cell (i := 1) (by simp); have e2 := ke.cell (i := 2) (by simp)
    simp only [List.getElem_cons_zero, List.getElem_cons_succ] at e1 e2
    have HKB2 := Lib.hid (HKB.out.ext hx2); have HX2 := Lib.hid (HX.out.trans hx2)
    have f0 := HKB2.out.free 0; have f1 := HKB2.out.free 1
    have b0 := HKB2.out.cell (i := 0) (by simp); have b1 := HKB2.out.cell (i := 1) (by simp)
    simp only [List.getElem_cons_zero, List.getElem_cons_succ] at b0 b1
    clear ke hx2 a0
    go_wp2_with fail
    have kz : Bk ((w2.setCell ⟨w.heap.size + 1, 0, none⟩ (.int .i64 0)).setCell ⟨w.heap.size + 1, 1, none⟩ (.slice none 0 0)) (w.heap.size + 1) 54 [.int .i64 0, .slice none 0 0] := (HKB2.out.set 0 _).set 1 _
    have hez : Ext w ((w2.setCell ⟨w.heap.size + 1, 0, none⟩ (.int .i64 0)).setCell ⟨w.heap.size + 1, 1, none⟩ (.slice none 0 0)) := (HX2.out.setCell (p := ⟨w.heap.size + 1, 0, none⟩) (Nat.le_succ _) _).setCell (p := ⟨w.heap.size + 1, 1, none⟩) (Nat.le_succ _) _
    generalize ((w2.setCell ⟨w.heap.size + 1, 0, none⟩ (.int .i64 0)).setCell ⟨w.heap.size + 1, 1, none⟩ (.slice none 0 0)) = wz at *
    have z0 := kz.cell (i := 0) (by simp); have z1 := kz.cell (i := 1) (by simp)
    simp only [List.getElem_cons_zero, List.getElem_cons_succ] at z0 z1
    exact bodyPost_ret (v := .tuple #[.agg #[.int .i64 0, .slice none 0 0], .bool false]) (by simp [results, Tryz.results35, go_sem, z0, z1]) rfl ⟨hez, .inl ⟨HNO.out, rfl⟩⟩
  · obtain ⟨A, c, rfl⟩ := hr.sl
    have HU1 : Hid ((f s).getD (.agg #[.slice none 0 0, .int .i64 0, .slice none 0 0]) = .agg #[u1, .int .i64 x.rel.ar, .slice A x.rel.rows.length c]) := Lib.hid (by rw [h2]; rfl)
    have HU2 : Hid ((f s).isSome = true) := Lib.hid (by rw [h2]; rfl)
    obtain ⟨nr, hnr⟩ : ∃ k, k = x.rel.rows.length := ⟨_, rfl⟩
    obtain ⟨ra, hra⟩ : ∃ k, k = x.rel.ar := ⟨_, rfl⟩
    have HQ := Lib.hid (fun (V : World) (hV : Ext w V) => (show RelPost F m s w (.returned (.tuple #[.agg #[.int .i64 ra, .slice A nr c], .bool true])) V by
      refine ⟨hV, .inr ⟨x, A, c, h1, by rw [hnr, hra], hr.ext hV⟩⟩))
    rw [← hnr, ← hra] at HU1
    obtain ⟨A0, c0, rfl⟩ : ∃ A0 c0, u1 = .slice A0 x.kinds.length c0 := let ⟨A0, c0, e, _⟩ := hk; ⟨A0, c0, e⟩
    obtain ⟨nk, hnk⟩ : ∃ k, k = x.kinds.length := ⟨_, rfl⟩
    rw [← hnk] at HU1
    clear hm h1 h2 hM hr hk hnr hra hnk
    go_enter Tryz.func35, Tryz.ntmps35
    go_upto_region 1 with fail
    change Bk ((w.alloc (.cells #[.map (some b)] 26)).alloc (.cells #[.int .i64 0, .slice none 0 0] 54)) _ _ _ ∧ Bk ((w.alloc (.cells #[.map (some b)] 26)).alloc (.cells #[.int .i64 0, .slice none 0 0] 54)) _ _ _ at k2
    generalize ((w.alloc (.cells #[.map (some b)] 26)).alloc (.cells #[.int .i64 0, .slice none 0 0] 54)) = w1 at *
    obtain ⟨ka, kb⟩ := k2
    have a0 := ka.cell (i := 0) (by simp)
    simp only [List.getElem_cons_zero, List.getElem_cons_succ] at a0
    have HX := Lib.hid hx; have HKB := Lib.hid kb; have HM1 := Lib.hid (HM.out.ext hx)
    have hlt := kb.lt
    clear ka kb hx
    go_upto_region 2 with (first
      | (refine wpList_lookup_okV rfl _ _ 24 98 rfl Tryz.underlying24 (.agg #[.slice none 0 0, .int .i64 0, .slice none 0 0]) (zero_entry _) b n f rfl HM1.out s rfl hs _ HU1.out true HU2.out ?_))
    have ke := Bk.new w1 98 [.slice A0 nk c0, .int .i64 ra, .slice A nr c]
    change Bk (w1.alloc (.cells #[.slice A0 nk c0, .int .i64 ra, .slice A nr c] 98)) _ _ _ at ke
    have hx2 : Ext w1 (w1.alloc (.cells #[.slice A0 nk c0, .int .i64 ra, .slice A nr c] 98)) := (Ext.refl w1).alloc _
    generalize (w1.alloc (.cells #[.slice A0 nk c0, .int .i64 ra, .slice A nr c] 98)) = w2 at *
    have e1 := ke.cell (i := 1) (by simp); have e2 := ke.cell (i := 2) (by simp)
    simp only [List.getElem_cons_zero, List.getElem_cons_succ] at e1 e2
    have HKB2 := Lib.hid (HKB.out.ext hx2); have HX2 := Lib.hid (HX.out.trans hx2)
    have f0 := HKB2.out.free 0; have f1 := HKB2.out.free 1
    have b0 := HKB2.out.cell (i := 0) (by simp); have b1 := HKB2.out.cell (i := 1) (by simp)
    simp only [List.getElem_cons_zero, List.getElem_cons_succ] at b0 b1
    clear ke hx2 a0
    go_wp2_with fail
    have kz : Bk ((w2.setCell ⟨w.heap.size + 1, 0, none⟩ (.int .i64 ra)).setCell ⟨w.heap.size + 1, 1, none⟩ (.slice A nr c)) (w.heap.size + 1) 54 [.int .i64 ra, .slice A nr c] := (HKB2.out.set 0 _).set 1 _
    have hez : Ext w ((w2.setCell ⟨w.heap.size + 1, 0, none⟩ (.int .i64 ra)).setCell ⟨w.heap.size + 1, 1, none⟩ (.slice A nr c)) := (HX2.out.setCell (p := ⟨w.heap.size + 1, 0, none⟩) (Nat.le_succ _) _).setCell (p := ⟨w.heap.size + 1, 1, none⟩) (Nat.le_succ _) _
    generalize ((w2.setCell ⟨w.heap.size + 1, 0, none⟩ (.int .i64 ra)).setCell ⟨w.heap.size + 1, 1, none⟩ (.slice A nr c)) = wz at *
    have z0 := kz.cell (i := 0) (by simp); have z1 := kz.cell (i := 1) (by simp)
    simp only [List.getElem_cons_zero, List.getElem_cons_succ] at z0 z1
    exact bodyPost_ret (v := .tuple #[.agg #[.int .i64 ra, .slice A nr c], .bool true]) (by simp [results, Tryz.results35, go_sem, z0, z1]) rfl (HQ.out _ hez)
end Go.Proofs.YtmmmdinncmbjkaaGreat
namespace Go.Proofs.YtmmmdinncmbjkaaGreat
open Go.RowKit Go.Maps
def missB (a x : Int) : Bool := decide (x < 0) || decide (a ≤ x)
set_option maxRecDepth 20000 in
theorem miss_any {w : World} {x a : Int} {g : Nat} (hg : Bk w g 3 [.int .i64 a]) :
    Calls Tryz.prog 71 #[.int .i64 x, .pointer (some ⟨g, 0, none⟩)] w (fun e w' => e = .returned (.bool (missB a x)) ∧ w = w') := by
  have b0 := hg.cell (i := 0) (by simp)
  simp only [List.getElem_cons_zero] at b0
  clear hg
  rcases hm : missB a x with _ | _
  · have h0 : ¬ x < 0 := fun h => by simp [missB, h] at hm
    have h1 : ¬ a ≤ x := fun h => by simp [missB, h] at hm
    clear hm
    go_enter Tryz.func71, Tryz.ntmps71
    go_wp2_with fail
    go_ret
    exact ⟨rfl, rfl⟩
  · by_cases h0 : x < 0
    · clear hm
      go_enter Tryz.func71, Tryz.ntmps71
      go_wp2_with fail
      go_ret
      exact ⟨rfl, rfl⟩
    · have h1 : a ≤ x := by
        by_cases h : x < a
        · simp [missB, h0] at hm; omega
        · omega
      clear hm
      go_enter Tryz.func71, Tryz.ntmps71
      go_wp2_with fail
      go_ret
      exact ⟨rfl, rfl⟩
/-- An index where p holds, or -1. -/
def IdxO (n : Nat) (p : Nat → Bool) (x : Value) : Prop := ∃ r : Int, x = .int .i64 r ∧ ((r = -1 ∧ ∀ i, i < n → p i = false) ∨ ∃ i : Nat, r = (i : Int) ∧ i < n ∧ p i = true)
set_option maxRecDepth 20000 in
set_option maxHeartbeats 800000 in
theorem index_miss {F : Nat → Prop} {w : World} {A : Option Addr} {n c : Nat} {xs : List Int} {a : Int} {g : Nat} (hg : Bk w g 3 [.int .i64 a]) (h : Ins F w (.slice A n c) xs) (hl : n ≤ 1048576) :
    Calls Tryz.prog 99 #[.slice A n c, .func (.func 71) #[] #[.pointer (some ⟨g, 0, none⟩)]] w (Ret (fun x _ => IdxO n (fun i => missB a (xs.getD i 0)) x) w) := by
  obtain ⟨A', c', e, hc, hcl⟩ := h
  injection e with e1 e2 e3
  subst e1
  have HN := Lib.hid e2; have HCL := Lib.hid hcl; have HG := Lib.hid hg
  clear hcl e2 e3 hg
  go_enter Tryz.func99, Tryz.ntmps99
  go_wp2_with fail
  go_loopw [8] (fun q wr => ∃ i : Nat, i ≤ n ∧ q = .int .i64 (i : Int) ∧ Hid (∀ j, j < i → missB a (xs.getD j 0) = false) ∧ Ext w wr) (fun q _ => n - (intOf q).toNat)
  case atStart => exact ⟨0, Nat.zero_le _, rfl, Lib.hid (fun _ h => absurd h (by omega)), Ext.refl _⟩
  case round =>
    obtain ⟨i, hi, rfl, HGO, hext⟩ := hrel
    obtain ⟨W, rfl⟩ : ∃ W : World, W = wr := ⟨_, rfl⟩
    have HE := Lib.hid hext
    by_cases hlt : i < n
    · have i1 : (0 : Int) ≤ (i : Int) := by omega
      have i2 : (i : Int) < (n : Int) := by omega
      have hix : i < xs.length := by have := HN.out; omega
      obtain ⟨ad, rfl, -, c0⟩ := HCL.out.int hix
      replace c0 := hext.cell c0
      have hgd : xs.getD i 0 = xs[i] := by simp [List.getD, List.getElem?_eq_getElem hix]
      have HC := Lib.hid (miss_any (x := xs[i]) (HG.out.ext hext))
      obtain ⟨x, hx⟩ : ∃ x, x = xs[i] := ⟨_, rfl⟩
      rw [← hx] at c0 HC hgd
      have HGD := Lib.hid hgd
      clear hext hx hgd
      go_wp2_with fail
      refine HC.out.mono ?_
      rintro e w2 ⟨rfl, rfl⟩
      rcases hpi : missB a x with _ | _
      · have HPI := Lib.hid hpi
        clear hpi
        go_wp2_with fail
        go_roundw
        case rel =>
          refine ⟨i + 1, by omega, by go_num, Lib.hid (fun j hji => ?_), HE.out⟩
          rcases Nat.lt_or_ge j i with h | h
          · exact HGO.out j h
          · obtain rfl : j = i := by omega
            rw [HGD.out]; exact HPI.out
        case measure => simp [intOf]; omega
      · have HPI := Lib.hid hpi
        clear hpi
        go_wp2_with fail
        go_ret
        exact Ret.mk HE.out ⟨_, rfl, .inr ⟨i, rfl, hlt, by show missB a (xs.getD i 0) = true; rw [HGD.out]; exact HPI.out⟩⟩
    · obtain rfl : i = n := by omega
      have hdn : ¬ (i : Int) < (i : Int) := by omega
      go_wp2_with fail
      go_ret
      exact Ret.mk HE.out ⟨_, rfl, .inl ⟨rfl, HGO.out⟩⟩
theorem any_getD {p : Int → Bool} {xs : List Int} : xs.any p = (List.range xs.length).any (fun i => p (xs.getD i 0)) := by
  apply bool_iff
  rw [List.any_eq_true, List.any_eq_true]
  constructor
  · rintro ⟨x, hx, hp⟩
    obtain ⟨i, hi, rfl⟩ := List.getElem_of_mem hx
    exact ⟨i, List.mem_range.2 hi, by simpa [List.getD, List.getElem?_eq_getElem hi] using hp⟩
  · rintro ⟨i, hi, hp⟩
    rw [List.mem_range] at hi
    exact ⟨xs[i], List.getElem_mem hi, by simpa [List.getD, List.getElem?_eq_getElem hi] using hp⟩
set_option maxRecDepth 20000 in
set_option maxHeartbeats 800000 in
theorem contains_miss {F : Nat → Prop} {w : World} {A : Option Addr} {n c : Nat} {xs : List Int} {a : Int} {g : Nat} (hg : Bk w g 3 [.int .i64 a]) (h : Ins F w (.slice A n c) xs) (hl : n ≤ 1048576) :
    Calls Tryz.prog 72 #[.slice A n c, .func (.func 71) #[] #[.pointer (some ⟨g, 0, none⟩)]] w (Ret (fun x _ => x = .bool (xs.any (missB a))) w) := by
  have HI := Lib.hid (index_miss hg h hl)
  have hn : n = xs.length := by
    obtain ⟨A', c', e, -⟩ := h
    injection e
  have HN := Lib.hid hn
  clear hn hg h
  go_enter Tryz.func72, Tryz.ntmps72
  go_wp2_with fail
  refine HI.out.mono ?_
  rintro e w2 ⟨x, rfl, he2, r, rfl, hr⟩
  have HE2 := Lib.hid he2
  rcases hr with ⟨rfl, hr⟩ | ⟨i, rfl, hi, hr⟩
  · have HR : Hid (xs.any (missB a) = false) := Lib.hid (by
      rw [any_getD, List.any_eq_false]
      intro i hi
      have h0 : missB a (xs.getD i 0) = false := hr i (by have := HN.out; have := List.mem_range.1 hi; omega)
      rw [h0]
      simp)
    clear hr he2
    go_wp2_with fail
    go_ret
    exact Ret.mk HE2.out (by rw [HR.out]; rfl)
  · have HR : Hid (xs.any (missB a) = true) := Lib.hid (by
      rw [any_getD, List.any_eq_true]
      exact ⟨i, List.mem_range.2 (by have := HN.out; omega), hr⟩)
    have hle : decide ((0 : Int) ≤ (i : Int)) = true := decide_eq_true (by omega)
    clear hr he2
    go_wp2_with fail
    go_ret
    exact Ret.mk HE2.out (by rw [HR.out]; rfl)
end Go.Proofs.YtmmmdinncmbjkaaGreat
