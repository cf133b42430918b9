/- The walk of SamplePermutes. -/
import Derived.Test.YtamkbboijblooaaPermB
namespace Go.Proofs.Ytamkbboijblooaa
open Go.RowKit

set_option maxRecDepth 20000 in
set_option maxHeartbeats 1600000 in
theorem permutes_great {w : World} {t : Value} {m : Int} {bs : List Nat} {pos : Int} (ht : Tp w t bs pos) (hg : Hid (greatB bs.length pos = true)) :
    Calls Try.prog 7 #[.int .i64 m, t] w (Ret (fun x _ => x = .bool true) w) := by
  obtain ⟨s, rfl, hs⟩ := ht
  obtain ⟨A, c, rfl, -⟩ := hs.parts
  go_enter Try.func7, Try.ntmps7
  go_wp2_with fail
  have hx : Ext w (w.alloc (.cells #[.slice A bs.length c, .int .i64 pos] 25)) := (Ext.refl w).alloc _
  have k0 := Bk.new w 25 [.slice A bs.length c, .int .i64 pos]
  change Bk (w.alloc (.cells #[.slice A bs.length c, .int .i64 pos] 25)) _ _ _ at k0
  generalize (w.alloc (.cells #[.slice A bs.length c, .int .i64 pos] 25)) = W at *
  have hW := hs.ext hx
  have d0 := k0.cell (i := 0) (by simp)
  have d1 := k0.cell (i := 1) (by simp)
  simp only [List.getElem_cons_zero, List.getElem_cons_succ] at d0 d1
  refine (great_tp ⟨_, rfl, hW⟩).mono ?_
  rintro e w1 ⟨x, rfl, he1, rfl⟩
  replace hx := hx.trans he1
  replace d0 := he1.cell d0
  replace d1 := he1.cell d1
  replace hW := hW.ext he1
  clear k0 he1
  rw [hg.out]
  clear d0 d1
  go_wp2_with fail
  refine (awake_true _).mono ?_
  rintro e w2 ⟨x, rfl, he2, rfl⟩
  go_wp2_with fail
  go_ret
  exact Ret.mk (hx.trans he2) rfl

set_option maxRecDepth 20000 in
set_option maxHeartbeats 1600000 in
theorem permutes_skip {w : World} {t : Value} {m : Int} {bs : List Nat} {pos : Int} (ht : Tp w t bs pos) (hg : Hid (greatB bs.length pos = false)) (h1 : 100 < m) (h2 : m ≤ 4096) :
    Calls Try.prog 7 #[.int .i64 m, t] w (Ret (fun x _ => x = .bool true) w) := by
  have e1 : decide ((100 : Int) < m) = true := by simp; omega
  have e2 : decide (m ≤ (4096 : Int)) = true := by simp; omega
  obtain ⟨s, rfl, hs⟩ := ht
  obtain ⟨A, c, rfl, -⟩ := hs.parts
  go_enter Try.func7, Try.ntmps7
  go_wp2_with fail
  have hx : Ext w (w.alloc (.cells #[.slice A bs.length c, .int .i64 pos] 25)) := (Ext.refl w).alloc _
  have k0 := Bk.new w 25 [.slice A bs.length c, .int .i64 pos]
  change Bk (w.alloc (.cells #[.slice A bs.length c, .int .i64 pos] 25)) _ _ _ at k0
  generalize (w.alloc (.cells #[.slice A bs.length c, .int .i64 pos] 25)) = W at *
  have hW := hs.ext hx
  have d0 := k0.cell (i := 0) (by simp)
  have d1 := k0.cell (i := 1) (by simp)
  simp only [List.getElem_cons_zero, List.getElem_cons_succ] at d0 d1
  refine (great_tp ⟨_, rfl, hW⟩).mono ?_
  rintro e w1 ⟨x, rfl, he1, rfl⟩
  replace hx := hx.trans he1
  replace d0 := he1.cell d0
  replace d1 := he1.cell d1
  replace hW := hW.ext he1
  clear k0 he1
  rw [hg.out]
  clear d0 d1
  go_wp2_with fail
  refine (awake_true _).mono ?_
  rintro e w2 ⟨x, rfl, he2, rfl⟩
  go_wp2_with fail
  go_ret
  exact Ret.mk (hx.trans he2) rfl

set_option maxRecDepth 20000 in
set_option maxHeartbeats 1600000 in
theorem permutes_neg {w : World} {t : Value} {m : Int} {bs : List Nat} {pos : Int} (ht : Tp w t bs pos) (hg : Hid (greatB bs.length pos = false)) (hm : m < 0) :
    Calls Try.prog 7 #[.int .i64 m, t] w (Ret (fun x _ => x = .bool true) w) := by
  have e0 : decide (m < 0) = true := by simp; omega
  have e1 : decide ((100 : Int) < m) = false := by simp; omega
  obtain ⟨s, rfl, hs⟩ := ht
  obtain ⟨A, c, rfl, -⟩ := hs.parts
  go_enter Try.func7, Try.ntmps7
  go_wp2_with fail
  have hx : Ext w (w.alloc (.cells #[.slice A bs.length c, .int .i64 pos] 25)) := (Ext.refl w).alloc _
  have k0 := Bk.new w 25 [.slice A bs.length c, .int .i64 pos]
  change Bk (w.alloc (.cells #[.slice A bs.length c, .int .i64 pos] 25)) _ _ _ at k0
  generalize (w.alloc (.cells #[.slice A bs.length c, .int .i64 pos] 25)) = W at *
  have hW := hs.ext hx
  have d0 := k0.cell (i := 0) (by simp)
  have d1 := k0.cell (i := 1) (by simp)
  simp only [List.getElem_cons_zero, List.getElem_cons_succ] at d0 d1
  refine (great_tp ⟨_, rfl, hW⟩).mono ?_
  rintro e w1 ⟨x, rfl, he1, rfl⟩
  replace hx := hx.trans he1
  replace d0 := he1.cell d0
  replace d1 := he1.cell d1
  replace hW := hW.ext he1
  clear k0 he1
  rw [hg.out]
  go_wp2_with fail
  refine (permutation_err (Lib.hid (by omega)) ⟨_, rfl, hW⟩).mono ?_
  rintro e w2 ⟨rfl, he2⟩
  replace hx := hx.trans he2
  clear d0 d1 he2
  go_wp2_with fail
  refine (zero_tp (bs := []) (pos := 0) ⟨_, rfl, By.nil _⟩).mono ?_
  rintro e w3 ⟨x, rfl, he3, rfl⟩
  rw [show zeroB ([] : List Nat).length 0 = true from rfl]
  go_wp2_with fail
  refine (awake_true _).mono ?_
  rintro e w5 ⟨x, rfl, he5, rfl⟩
  go_wp2_with fail
  go_ret
  exact Ret.mk (((hx.alloc _).trans he3).trans he5) rfl

set_option maxRecDepth 20000 in
set_option maxHeartbeats 1600000 in
theorem permutes_big {w : World} {t : Value} {m : Int} {bs : List Nat} {pos : Int} (ht : Tp w t bs pos) (hg : Hid (greatB bs.length pos = false)) (hm : 4096 < m) :
    Calls Try.prog 7 #[.int .i64 m, t] w (Ret (fun x _ => x = .bool true) w) := by
  have e0 : decide (m < 0) = false := by simp; omega
  have e1 : decide ((100 : Int) < m) = true := by simp; omega
  have e2 : decide (m ≤ (4096 : Int)) = false := by simp; omega
  have e3 : decide ((4096 : Int) < m) = true := by simp; omega
  obtain ⟨s, rfl, hs⟩ := ht
  obtain ⟨A, c, rfl, -⟩ := hs.parts
  go_enter Try.func7, Try.ntmps7
  go_wp2_with fail
  have hx : Ext w (w.alloc (.cells #[.slice A bs.length c, .int .i64 pos] 25)) := (Ext.refl w).alloc _
  have k0 := Bk.new w 25 [.slice A bs.length c, .int .i64 pos]
  change Bk (w.alloc (.cells #[.slice A bs.length c, .int .i64 pos] 25)) _ _ _ at k0
  generalize (w.alloc (.cells #[.slice A bs.length c, .int .i64 pos] 25)) = W at *
  have hW := hs.ext hx
  have d0 := k0.cell (i := 0) (by simp)
  have d1 := k0.cell (i := 1) (by simp)
  simp only [List.getElem_cons_zero, List.getElem_cons_succ] at d0 d1
  refine (great_tp ⟨_, rfl, hW⟩).mono ?_
  rintro e w1 ⟨x, rfl, he1, rfl⟩
  replace hx := hx.trans he1
  replace d0 := he1.cell d0
  replace d1 := he1.cell d1
  replace hW := hW.ext he1
  clear k0 he1
  rw [hg.out]
  go_wp2_with fail
  refine (permutation_err (Lib.hid (by omega)) ⟨_, rfl, hW⟩).mono ?_
  rintro e w2 ⟨rfl, he2⟩
  replace hx := hx.trans he2
  clear d0 d1 he2
  go_wp2_with fail
  refine (zero_tp (bs := []) (pos := 0) ⟨_, rfl, By.nil _⟩).mono ?_
  rintro e w3 ⟨x, rfl, he3, rfl⟩
  rw [show zeroB ([] : List Nat).length 0 = true from rfl]
  go_wp2_with fail
  refine (awake_true _).mono ?_
  rintro e w5 ⟨x, rfl, he5, rfl⟩
  go_wp2_with fail
  go_ret
  exact Ret.mk (((hx.alloc _).trans he3).trans he5) rfl

set_option maxRecDepth 20000 in
set_option maxHeartbeats 1600000 in
theorem permutes_none {w : World} {t : Value} {m : Nat} {bs : List Nat} {pos : Int} (ht : Tp w t bs pos) (hm : m ≤ 100) (hg : Hid (greatB bs.length pos = false)) (hp0 : Hid (0 ≤ pos)) (hp1 : Hid (pos ≤ 8 * bs.length)) (hlen0 : Hid (bs.length ≤ 60)) (hR : Hid (perm (bitAt bs) (8 * bs.length) (m - 1) (List.range m) pos.toNat = none)) :
    Calls Try.prog 7 #[.int .i64 (m : Int), t] w (Ret (fun x _ => x = .bool true) w) := by
  have e0 : decide ((m : Int) < 0) = false := by simp
  have e1 : decide ((100 : Int) < m) = false := by simp; omega
  have e3 : decide ((4096 : Int) < m) = false := by simp; omega
  obtain ⟨s, rfl, hs⟩ := ht
  obtain ⟨A, c, rfl, -⟩ := hs.parts
  go_enter Try.func7, Try.ntmps7
  go_wp2_with fail
  have hx : Ext w (w.alloc (.cells #[.slice A bs.length c, .int .i64 pos] 25)) := (Ext.refl w).alloc _
  have k0 := Bk.new w 25 [.slice A bs.length c, .int .i64 pos]
  change Bk (w.alloc (.cells #[.slice A bs.length c, .int .i64 pos] 25)) _ _ _ at k0
  generalize (w.alloc (.cells #[.slice A bs.length c, .int .i64 pos] 25)) = W at *
  have hW := hs.ext hx
  have d0 := k0.cell (i := 0) (by simp)
  have d1 := k0.cell (i := 1) (by simp)
  simp only [List.getElem_cons_zero, List.getElem_cons_succ] at d0 d1
  refine (great_tp ⟨_, rfl, hW⟩).mono ?_
  rintro e w1 ⟨x, rfl, he1, rfl⟩
  replace hx := hx.trans he1
  replace d0 := he1.cell d0
  replace d1 := he1.cell d1
  replace hW := hW.ext he1
  clear k0 he1
  rw [hg.out]
  obtain ⟨p, rfl⟩ := Int.eq_ofNat_of_zero_le hp0.out
  have hp : p ≤ 8 * bs.length := by have := hp1.out; omega
  have hlen := hlen0.out
  have HR : Hid (perm (bitAt bs) (8 * bs.length) (m - 1) (List.range m) p = none) := Lib.hid (by have := hR.out; rw [Int.toNat_natCast] at this; exact this)
  clear hg hp0 hp1 hlen0 hR
  go_wp2_with fail
  refine (permutation_any (m := m) hm ⟨_, rfl, hW⟩ hp).mono ?_
  rintro e w2 ⟨he2, hpost⟩
  rw [HR.out] at hpost
  replace hx := hx.trans he2
  replace d0 := he2.cell d0
  replace d1 := he2.cell d1
  replace hW := hW.ext he2
  clear he2
  simp only at hpost
  subst hpost
  have z : Ext w2 (w2.alloc (.cells #[.slice none 0 0, .int .i64 0] 25)) := (Ext.refl w2).alloc _
  have kb := Bk.new w2 25 [.slice none 0 0, .int .i64 0]
  change Bk (w2.alloc (.cells #[.slice none 0 0, .int .i64 0] 25)) _ _ _ at kb
  have D0 := fun o => ((Ext.refl w2).alloc o).cell d0
  have D1 := fun o => ((Ext.refl w2).alloc o).cell d1
  go_upto_region 6 with fail
  clear D0 D1
  generalize (w2.alloc (.cells #[.slice none 0 0, .int .i64 0] 25)) = V at *
  replace hW := hW.ext z
  replace d0 := z.cell d0
  replace d1 := z.cell d1
  replace hx := hx.trans z
  have e0' := kb.cell (i := 0) (by simp)
  have e1' := kb.cell (i := 1) (by simp)
  simp only [List.getElem_cons_zero, List.getElem_cons_succ] at e0' e1'
  go_cut [8, 9] (fun sa sb wx => sa = .slice none 0 0 ∧ sb = .int .i64 (-1) ∧ Ext V wx)
  case first =>
    have HRP := Lib.hid (fun (U : World) (v : Value) (h1 : In U v (bitsOf bs (8 * bs.length))) => refPermutation (m := m) (pos := p) h1 hm hp (by omega))
    rw [HR.out] at HRP
    go_region_held3 (fun U => Ext V U ∧ U.cell? ⟨w.heap.size, 0, none⟩ = some (.slice A bs.length c) ∧ U.cell? ⟨w.heap.size, 1, none⟩ = some (.int .i64 (p : Int)))
      ((refine (fun he => ⟨he, Ext.cell he d0, Ext.cell he d1⟩) ?_; repeat (first | exact Ext.refl _ | exact (Ext.refl _).drew | refine Ext.trans ?_ (by assumption))))
      (first
        | (go_at_call 23; refine (refBits (bs := bs) ?_ (by omega)).mono ?_; exact hW.ext (And.left (by assumption)); rintro e wa ⟨o, rfl, hea, hoa⟩)
        | (go_at_call 32; refine (HRP.out _ _ hoa).mono ?_; rintro e wb ⟨heb, he⟩; simp only at he; subst he))
    have hfin := And.left (b := _ ∧ _) (by assumption)
    go_wp2_with fail
    go_meet
    exact ⟨rfl, rfl, hfin⟩
  case rest =>
    obtain ⟨rfl, rfl, he⟩ := hcut
    replace hx := hx.trans he
    replace e0' := he.cell e0'
    replace e1' := he.cell e1'
    clear he d0 d1 hW z kb
    go_wp2_with fail
    refine (zero_tp (bs := []) (pos := 0) ⟨_, rfl, By.nil _⟩).mono ?_
    rintro e w3 ⟨x, rfl, he3, rfl⟩
    rw [show zeroB ([] : List Nat).length 0 = true from rfl]
    go_wp2_with fail
    refine (awake_true _).mono ?_
    rintro e w5 ⟨x, rfl, he5, rfl⟩
    go_wp2_with fail
    go_ret
    exact Ret.mk ((hx.trans he3).trans he5) rfl

set_option maxRecDepth 20000 in
set_option maxHeartbeats 1600000 in
theorem permutes_some {w : World} {t : Value} {m : Nat} {bs : List Nat} {pos : Int} (ht : Tp w t bs pos) (hm : m ≤ 100) (hg : Hid (greatB bs.length pos = false)) (hp0 : Hid (0 ≤ pos)) (hp1 : Hid (pos ≤ 8 * bs.length)) (hlen0 : Hid (bs.length ≤ 60)) {l : List Nat} {q : Nat} (hR : Hid (perm (bitAt bs) (8 * bs.length) (m - 1) (List.range m) pos.toNat = some (l, q))) :
    Calls Try.prog 7 #[.int .i64 (m : Int), t] w (Ret (fun x _ => x = .bool true) w) := by
  have e0 : decide ((m : Int) < 0) = false := by simp
  have e1 : decide ((100 : Int) < m) = false := by simp; omega
  have e3 : decide ((4096 : Int) < m) = false := by simp; omega
  obtain ⟨s, rfl, hs⟩ := ht
  obtain ⟨A, c, rfl, -⟩ := hs.parts
  go_enter Try.func7, Try.ntmps7
  go_wp2_with fail
  have hx : Ext w (w.alloc (.cells #[.slice A bs.length c, .int .i64 pos] 25)) := (Ext.refl w).alloc _
  have k0 := Bk.new w 25 [.slice A bs.length c, .int .i64 pos]
  change Bk (w.alloc (.cells #[.slice A bs.length c, .int .i64 pos] 25)) _ _ _ at k0
  generalize (w.alloc (.cells #[.slice A bs.length c, .int .i64 pos] 25)) = W at *
  have hW := hs.ext hx
  have d0 := k0.cell (i := 0) (by simp)
  have d1 := k0.cell (i := 1) (by simp)
  simp only [List.getElem_cons_zero, List.getElem_cons_succ] at d0 d1
  refine (great_tp ⟨_, rfl, hW⟩).mono ?_
  rintro e w1 ⟨x, rfl, he1, rfl⟩
  replace hx := hx.trans he1
  replace d0 := he1.cell d0
  replace d1 := he1.cell d1
  replace hW := hW.ext he1
  clear k0 he1
  rw [hg.out]
  obtain ⟨p, rfl⟩ := Int.eq_ofNat_of_zero_le hp0.out
  have hp : p ≤ 8 * bs.length := by have := hp1.out; omega
  have hlen := hlen0.out
  have HR : Hid (perm (bitAt bs) (8 * bs.length) (m - 1) (List.range m) p = some (l, q)) := Lib.hid (by have := hR.out; rw [Int.toNat_natCast] at this; exact this)
  clear hg hp0 hp1 hlen0 hR
  go_wp2_with fail
  refine (permutation_any (m := m) hm ⟨_, rfl, hW⟩ hp).mono ?_
  rintro e w2 ⟨he2, hpost⟩
  rw [HR.out] at hpost
  replace hx := hx.trans he2
  replace d0 := he2.cell d0
  replace d1 := he2.cell d1
  replace hW := hW.ext he2
  clear he2
  obtain ⟨AL, cL, A', c', rfl, hAL, hinL, hby⟩ := hpost
  have z : Ext w2 (w2.alloc (.cells #[.slice A' bs.length c', .int .i64 (q : Int)] 25)) := (Ext.refl w2).alloc _
  have kb := Bk.new w2 25 [.slice A' bs.length c', .int .i64 (q : Int)]
  change Bk (w2.alloc (.cells #[.slice A' bs.length c', .int .i64 (q : Int)] 25)) _ _ _ at kb
  have D0 := fun o => ((Ext.refl w2).alloc o).cell d0
  have D1 := fun o => ((Ext.refl w2).alloc o).cell d1
  go_upto_region 6 with fail
  clear D0 D1
  generalize (w2.alloc (.cells #[.slice A' bs.length c', .int .i64 (q : Int)] 25)) = V at *
  replace hW := hW.ext z
  replace d0 := z.cell d0
  replace d1 := z.cell d1
  replace hx := hx.trans z
  have e0' := kb.cell (i := 0) (by simp)
  have e1' := kb.cell (i := 1) (by simp)
  simp only [List.getElem_cons_zero, List.getElem_cons_succ] at e0' e1'
  replace hinL := hinL.ext z
  replace hby := hby.ext z
  go_cut [8, 9] (fun sa sb wx => ∃ B d, sa = .slice B l.length d ∧ sb = .int .i64 (q : Int) ∧ Hid (l.length = 0 ∨ ∃ g, B = some ⟨g, 0, none⟩) ∧ In wx (.slice B l.length d) l ∧ Ext V wx)
  case first =>
    have HRP := Lib.hid (fun (U : World) (v : Value) (h1 : In U v (bitsOf bs (8 * bs.length))) => refPermutation (m := m) (pos := p) h1 hm hp (by omega))
    rw [HR.out] at HRP
    go_region_held3 (fun U => Ext V U ∧ U.cell? ⟨w.heap.size, 0, none⟩ = some (.slice A bs.length c) ∧ U.cell? ⟨w.heap.size, 1, none⟩ = some (.int .i64 (p : Int)))
      ((refine (fun he => ⟨he, Ext.cell he d0, Ext.cell he d1⟩) ?_; repeat (first | exact Ext.refl _ | exact (Ext.refl _).drew | refine Ext.trans ?_ (by assumption))))
      (first
        | (go_at_call 23; refine (refBits (bs := bs) ?_ (by omega)).mono ?_; exact hW.ext (And.left (by assumption)); rintro e wa ⟨o, rfl, hea, hoa⟩)
        | (go_at_call 32; refine (HRP.out _ _ hoa).mono ?_; rintro e wb ⟨heb, B, d, rfl, hBf, hinB⟩))
    have hfin := And.left (b := _ ∧ _) (by assumption)
    go_wp2_with fail
    go_meet
    exact ⟨B, d, rfl, rfl, Lib.hid hBf, hinB, hfin⟩
  case rest =>
    obtain ⟨B, d, rfl, rfl, hBf, hinB, he⟩ := hcut
    replace hx := hx.trans he
    replace e0' := he.cell e0'
    replace e1' := he.cell e1'
    replace d0 := he.cell d0
    replace d1 := he.cell d1
    replace hW := hW.ext he
    replace hby := hby.ext he
    replace hinL := hinL.ext he
    have hq0 : ¬ (q : Int) < 0 := by omega
    have HAL := Lib.hid hAL
    clear he z kb hAL
    go_wp2_with fail
    refine (equalI HAL.out hBf.out hinL hinB).mono ?_
    rintro e w4 ⟨rfl, hq4⟩
    have he4 := hq4.ext
    replace e0' := he4.cell e0'
    replace e1' := he4.cell e1'
    replace d0 := he4.cell d0
    replace d1 := he4.cell d1
    go_wp2_with fail
    refine (is_tp (r := (q : Int)) ⟨_, rfl, hby.ext he4⟩ ⟨_, rfl, hW.ext he4⟩).mono ?_
    rintro e w5 ⟨z, rfl, he5, rfl⟩
    rw [show (decide (bs = bs) && decide ((q : Int) = q)) = true by simp]
    go_wp2_with fail
    refine (awake_true _).mono ?_
    rintro e w6 ⟨z, rfl, he6, rfl⟩
    go_wp2_with fail
    go_ret
    exact Ret.mk (((hx.trans he4).trans he5).trans he6) rfl


theorem law_permutes {w : World} {t : Value} {m : Int} {bs : List Nat} {pos : Int} (ht : Tp w t bs pos) :
    Calls Try.prog 7 #[.int .i64 m, t] w (Ret (fun x _ => x = .bool true) w) := by
  by_cases hg : greatB bs.length pos = true
  · exact permutes_great ht (Lib.hid hg)
  · have hg' : greatB bs.length pos = false := by simpa using hg
    have h := hg'
    simp only [greatB, Bool.or_eq_false_iff, decide_eq_false_iff_not] at h
    obtain ⟨⟨h1, h2⟩, h3⟩ := h
    by_cases hn : m < 0
    · exact permutes_neg ht (Lib.hid hg') hn
    · by_cases hb : 4096 < m
      · exact permutes_big ht (Lib.hid hg') hb
      · by_cases hs : 100 < m
        · exact permutes_skip ht (Lib.hid hg') hs (by omega)
        · obtain ⟨k, rfl⟩ := Int.eq_ofNat_of_zero_le (show 0 ≤ m by omega)
          rcases hR : perm (bitAt bs) (8 * bs.length) (k - 1) (List.range k) pos.toNat with _ | ⟨l, q⟩
          · exact permutes_none ht (by omega) (Lib.hid hg') (Lib.hid (by omega)) (Lib.hid (by omega)) (Lib.hid (by omega)) (Lib.hid hR)
          · exact permutes_some ht (by omega) (Lib.hid hg') (Lib.hid (by omega)) (Lib.hid (by omega)) (Lib.hid (by omega)) (Lib.hid hR)
end Go.Proofs.Ytamkbboijblooaa
