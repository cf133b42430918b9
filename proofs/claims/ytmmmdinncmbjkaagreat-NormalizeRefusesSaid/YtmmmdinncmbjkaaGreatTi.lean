/- Contracts: exclude, where it refuses; selected, where it keeps all. -/
import Derived.Test.YtmmmdinncmbjkaaGreatTh
namespace Go.Proofs.YtmmmdinncmbjkaaGreat
open Go.RowKit Go.Maps

theorem four_blk (w : World) (t u v x : TypeId) (cs ds es fs : List Value) : Bk ((((w.alloc (.cells cs.toArray t)).alloc (.cells ds.toArray u)).alloc (.cells es.toArray v)).alloc (.cells fs.toArray x)) w.heap.size t cs ∧ Bk ((((w.alloc (.cells cs.toArray t)).alloc (.cells ds.toArray u)).alloc (.cells es.toArray v)).alloc (.cells fs.toArray x)) (w.heap.size + 1) u ds ∧ Bk ((((w.alloc (.cells cs.toArray t)).alloc (.cells ds.toArray u)).alloc (.cells es.toArray v)).alloc (.cells fs.toArray x)) (w.heap.size + 1 + 1) v es ∧ Bk ((((w.alloc (.cells cs.toArray t)).alloc (.cells ds.toArray u)).alloc (.cells es.toArray v)).alloc (.cells fs.toArray x)) (w.heap.size + 1 + 1 + 1) x fs := by
  obtain ⟨h1, h2, h3⟩ := three_blk w t u v cs ds es
  refine ⟨h1.alloc _, h2.alloc _, h3.alloc _, ?_⟩
  have h := Bk.new (((w.alloc (.cells cs.toArray t)).alloc (.cells ds.toArray u)).alloc (.cells es.toArray v)) x fs
  have e : (((w.alloc (.cells cs.toArray t)).alloc (.cells ds.toArray u)).alloc (.cells es.toArray v)).heap.size = w.heap.size + 1 + 1 + 1 := by simp
  rw [e] at h
  exact h
abbrev zeroX : Value := .agg #[.int .i64 0, .slice none 0 0, .slice none 0 0, .slice none 0 0]
set_option maxRecDepth 20000 in
set_option maxHeartbeats 6400000 in
theorem exclude_no {F : Nat → Prop} {w : World} {b n : Nat} {m : Dm} {rl yl : ByteArray} {A1 A2 A3 A4 A5 B1 B2 : Option Addr} {n1 n2 n3 n4 n5 c1 c2 c3 c4 c5 m1 m2 d1 d2 : Nat} (hD : DbB F w b n m) (hs : yl.size ≤ maxLen) (hno : ∀ x, m yl = some x → (m1 : Int) ≠ x.rel.ar) :
    Calls Tryz.prog 50 #[.agg #[.string rl, .slice A1 n1 c1, .slice A2 n2 c2, .slice A3 n3 c3, .slice A4 n4 c4, .slice A5 n5 c5], .agg #[.string yl, .slice B1 m1 d1, .slice B2 m2 d2], .agg #[.map (some b)]] w
      (fun e w' => Ext w w' ∧ e = .returned (.tuple #[zeroX, .int .i64 (if (m yl).isSome = true then 28 else 7)])) := by
  have HD := Lib.hid hD; have HNO := Lib.hid hno
  obtain ⟨er, her⟩ : ∃ c : Int, c = if (m yl).isSome = true then 28 else 7 := ⟨_, rfl⟩
  rw [← her]
  have HER := Lib.hid her
  clear her
  have k4 := four_blk w 36 50 26 149 [.string rl, .slice A1 n1 c1, .slice A2 n2 c2, .slice A3 n3 c3, .slice A4 n4 c4, .slice A5 n5 c5] [.string yl, .slice B1 m1 d1, .slice B2 m2 d2] [.map (some b)] [.int .i64 0, .slice none 0 0, .slice none 0 0, .slice none 0 0]
  obtain ⟨v1, hv1⟩ : ∃ v, v = (((w.alloc (.cells #[.string rl, .slice A1 n1 c1, .slice A2 n2 c2, .slice A3 n3 c3, .slice A4 n4 c4, .slice A5 n5 c5] 36)).alloc (.cells #[.string yl, .slice B1 m1 d1, .slice B2 m2 d2] 50)).alloc (.cells #[.map (some b)] 26)).alloc (.cells #[.int .i64 0, .slice none 0 0, .slice none 0 0, .slice none 0 0] 149) := ⟨_, rfl⟩
  change Bk ((((w.alloc (.cells #[.string rl, .slice A1 n1 c1, .slice A2 n2 c2, .slice A3 n3 c3, .slice A4 n4 c4, .slice A5 n5 c5] 36)).alloc (.cells #[.string yl, .slice B1 m1 d1, .slice B2 m2 d2] 50)).alloc (.cells #[.map (some b)] 26)).alloc (.cells #[.int .i64 0, .slice none 0 0, .slice none 0 0, .slice none 0 0] 149)) _ _ _ ∧ Bk ((((w.alloc (.cells #[.string rl, .slice A1 n1 c1, .slice A2 n2 c2, .slice A3 n3 c3, .slice A4 n4 c4, .slice A5 n5 c5] 36)).alloc (.cells #[.string yl, .slice B1 m1 d1, .slice B2 m2 d2] 50)).alloc (.cells #[.map (some b)] 26)).alloc (.cells #[.int .i64 0, .slice none 0 0, .slice none 0 0, .slice none 0 0] 149)) _ _ _ ∧ Bk ((((w.alloc (.cells #[.string rl, .slice A1 n1 c1, .slice A2 n2 c2, .slice A3 n3 c3, .slice A4 n4 c4, .slice A5 n5 c5] 36)).alloc (.cells #[.string yl, .slice B1 m1 d1, .slice B2 m2 d2] 50)).alloc (.cells #[.map (some b)] 26)).alloc (.cells #[.int .i64 0, .slice none 0 0, .slice none 0 0, .slice none 0 0] 149)) _ _ _ ∧ Bk ((((w.alloc (.cells #[.string rl, .slice A1 n1 c1, .slice A2 n2 c2, .slice A3 n3 c3, .slice A4 n4 c4, .slice A5 n5 c5] 36)).alloc (.cells #[.string yl, .slice B1 m1 d1, .slice B2 m2 d2] 50)).alloc (.cells #[.map (some b)] 26)).alloc (.cells #[.int .i64 0, .slice none 0 0, .slice none 0 0, .slice none 0 0] 149)) _ _ _ at k4
  rw [← hv1] at k4
  have hx : Ext w v1 := by rw [hv1]; exact ((((Ext.refl w).alloc _).alloc _).alloc _).alloc _
  clear hD hno
  go_enter Tryz.func50, Tryz.ntmps50
  go_upto_region 1 with fail
  rw [← hv1]
  clear hv1
  obtain ⟨ka, kb, kc, kd⟩ := k4
  have p0 := kb.cell (i := 0) (by simp); have p1 := kb.cell (i := 1) (by simp); have p2 := kb.cell (i := 2) (by simp); have q0 := kc.cell (i := 0) (by simp)
  simp only [List.getElem_cons_zero, List.getElem_cons_succ] at p0 p1 p2 q0
  have HX := Lib.hid hx; have HKD := Lib.hid kd
  have hlt := kd.lt
  clear ka kb kc kd
  go_wp2_with fail
  refine (relation_any (HD.out.ext hx) hs).mono ?_
  rintro e w2 ⟨he2, ⟨hnone, rfl⟩ | ⟨x, A, c, hsome, rfl, -⟩⟩
  · have HKD2 := Lib.hid (HKD.out.ext he2); have HX2 := Lib.hid (HX.out.trans he2)
    clear he2 hx p0 p1 p2 q0
    go_upto_region 3 with fail
    have hx3 : Ext w2 (w2.alloc (.cells #[.int .i64 0, .slice none 0 0] 54)) := (Ext.refl w2).alloc _
    generalize (w2.alloc (.cells #[.int .i64 0, .slice none 0 0] 54)) = w3 at *
    have HKD3 := Lib.hid (HKD2.out.ext hx3); have HX3 := Lib.hid (HX2.out.trans hx3)
    clear hx3
    have f0 := HKD3.out.free 0; have f1 := HKD3.out.free 1; have f2 := HKD3.out.free 2; have f3 := HKD3.out.free 3
    have b0 := HKD3.out.cell (i := 0) (by simp); have b1 := HKD3.out.cell (i := 1) (by simp); have b2 := HKD3.out.cell (i := 2) (by simp); have b3 := HKD3.out.cell (i := 3) (by simp)
    simp only [List.getElem_cons_zero, List.getElem_cons_succ] at b0 b1 b2 b3
    have HE7 : Hid (er = 7) := Lib.hid (by rw [HER.out, hnone]; rfl)
    clear hnone
    go_wp2_with fail
    have kz : Bk ((((w3.setCell ⟨w.heap.size + 1 + 1 + 1, 0, none⟩ (.int .i64 0)).setCell ⟨w.heap.size + 1 + 1 + 1, 1, none⟩ (.slice none 0 0)).setCell ⟨w.heap.size + 1 + 1 + 1, 2, none⟩ (.slice none 0 0)).setCell ⟨w.heap.size + 1 + 1 + 1, 3, none⟩ (.slice none 0 0)) (w.heap.size + 1 + 1 + 1) 149 [.int .i64 0, .slice none 0 0, .slice none 0 0, .slice none 0 0] := ((((HKD3.out).set 0 _).set 1 _).set 2 _).set 3 _
    have hez : Ext w ((((w3.setCell ⟨w.heap.size + 1 + 1 + 1, 0, none⟩ (.int .i64 0)).setCell ⟨w.heap.size + 1 + 1 + 1, 1, none⟩ (.slice none 0 0)).setCell ⟨w.heap.size + 1 + 1 + 1, 2, none⟩ (.slice none 0 0)).setCell ⟨w.heap.size + 1 + 1 + 1, 3, none⟩ (.slice none 0 0)) := ((((HX3.out).setCell (p := ⟨w.heap.size + 1 + 1 + 1, 0, none⟩) (by show w.heap.size ≤ w.heap.size + 1 + 1 + 1; omega) _).setCell (p := ⟨w.heap.size + 1 + 1 + 1, 1, none⟩) (by show w.heap.size ≤ w.heap.size + 1 + 1 + 1; omega) _).setCell (p := ⟨w.heap.size + 1 + 1 + 1, 2, none⟩) (by show w.heap.size ≤ w.heap.size + 1 + 1 + 1; omega) _).setCell (p := ⟨w.heap.size + 1 + 1 + 1, 3, none⟩) (by show w.heap.size ≤ w.heap.size + 1 + 1 + 1; omega) _
    generalize ((((w3.setCell ⟨w.heap.size + 1 + 1 + 1, 0, none⟩ (.int .i64 0)).setCell ⟨w.heap.size + 1 + 1 + 1, 1, none⟩ (.slice none 0 0)).setCell ⟨w.heap.size + 1 + 1 + 1, 2, none⟩ (.slice none 0 0)).setCell ⟨w.heap.size + 1 + 1 + 1, 3, none⟩ (.slice none 0 0)) = wz at *
    have z0 := kz.cell (i := 0) (by simp); have z1 := kz.cell (i := 1) (by simp); have z2 := kz.cell (i := 2) (by simp); have z3 := kz.cell (i := 3) (by simp)
    simp only [List.getElem_cons_zero, List.getElem_cons_succ] at z0 z1 z2 z3
    exact bodyPost_ret (v := .tuple #[zeroX, .int .i64 7]) (by simp [results, Tryz.results50, go_sem, z0, z1, z2, z3]) rfl ⟨hez, by rw [HE7.out]⟩
  · have HKD2 := Lib.hid (HKD.out.ext he2); have HX2 := Lib.hid (HX.out.trans he2)
    have hne := HNO.out x hsome
    obtain ⟨ra, hra⟩ : ∃ a, a = x.rel.ar := ⟨_, rfl⟩
    obtain ⟨nr, hnr⟩ : ∃ a, a = x.rel.rows.length := ⟨_, rfl⟩
    rw [← hra] at hne
    rw [← hra, ← hnr]
    have HE28 : Hid (er = 28) := Lib.hid (by rw [HER.out, hsome]; rfl)
    have hb : ((m1 : Int) != ra) = true := by rw [bne_iff_ne]; exact hne
    replace p1 := he2.cell p1; replace p2 := he2.cell p2
    clear he2 hx p0 q0 hra hnr hsome hne
    go_upto_region 4 with fail
    have kr := Bk.new w2 54 [.int .i64 ra, .slice A nr c]
    change Bk (w2.alloc (.cells #[.int .i64 ra, .slice A nr c] 54)) _ _ _ at kr
    have hx3 : Ext w2 (w2.alloc (.cells #[.int .i64 ra, .slice A nr c] 54)) := (Ext.refl w2).alloc _
    generalize (w2.alloc (.cells #[.int .i64 ra, .slice A nr c] 54)) = w3 at *
    replace p1 := hx3.cell p1; replace p2 := hx3.cell p2
    have r0 := kr.cell (i := 0) (by simp); have r1 := kr.cell (i := 1) (by simp)
    simp only [List.getElem_cons_zero, List.getElem_cons_succ] at r0 r1
    have HKD3 := Lib.hid (HKD2.out.ext hx3); have HX3 := Lib.hid (HX2.out.trans hx3)
    clear hx3 kr
    refine wp_region_any (by kernel_rfl) ?_
    (try (change wpAny _ _ _ _ _ _ _ (World.drew _)))
    refine wpAny_take (i := 0) (v := ?_) rfl (by kernel_rfl) (by kernel_rfl) (by kernel_rfl) (fun _ _ _ h => h) (Or.inl ⟨by rfl, ?_⟩) ?_
    rotate_left 1
    · (intro w; go_simp) <;> with_reducible rfl
    refine wpAny_ready (rs := [1, 3]) (by kernel_rfl) (by simp) ?_
    refine AllReady.cons rfl (fun K hK => ?_) ?_
    · go_simp
      refine hK _ _ ?_
      clear hK K
      refine wpAny_take (i := 2) (v := ?_) rfl (by kernel_rfl) (by kernel_rfl) (by kernel_rfl) (fun _ _ _ h => h) (Or.inl ⟨by rfl, ?_⟩) ?_
      rotate_left 1
      · (intro w; go_simp) <;> with_reducible rfl
      refine wpAny_ready (rs := [3]) (by kernel_rfl) (by simp) ?_
      refine AllReady.cons rfl (fun K hK => ?_) ?_
      · go_simp
        refine hK _ _ ?_
        clear hK K
        refine wpAny_ready (rs := [4]) (by kernel_rfl) (by simp) ?_
        refine AllReady.cons rfl (fun K hK => ?_) ?_
        · go_simp
          (with_reducible refine (arity_any (w := w3.drew)).mono ?_)
          rintro e wi ⟨yv, rfl, hei, rfl⟩
          replace p1 := hei.cell ((Ext.refl w3).drew.cell p1)
          go_wp2_with fail
          refine wpAny_take (i := 5) (v := ?_) rfl (by kernel_rfl) (by kernel_rfl) (by kernel_rfl) (fun _ _ _ h => h) (Or.inl ⟨by rfl, ?_⟩) ?_
          rotate_left 1
          · (intro w; go_simp) <;> with_reducible rfl
          refine wpAny_take (i := 6) (v := ?_) rfl (by kernel_rfl) (by kernel_rfl) (by kernel_rfl) (fun _ _ _ h => h) (Or.inl ⟨by rfl, ?_⟩) ?_
          rotate_left 1
          · (intro w; go_simp) <;> with_reducible rfl
          refine wpAny_take (i := 7) (v := undef) rfl (by kernel_rfl) (by kernel_rfl) (by kernel_rfl) (fun _ _ _ h => h) (Or.inr ⟨by rfl, rfl⟩) ?_
          (try go_simp)
          refine wpAny_take (i := 8) (v := undef) rfl (by kernel_rfl) (by kernel_rfl) (by kernel_rfl) (fun _ _ _ h => h) (Or.inr ⟨by rfl, rfl⟩) ?_
          (try go_simp)
          refine wpAny_take (i := 9) (v := undef) rfl (by kernel_rfl) (by kernel_rfl) (by kernel_rfl) (fun _ _ _ h => h) (Or.inr ⟨by rfl, rfl⟩) ?_
          (try go_simp)
          refine wpAny_take (i := 10) (v := undef) rfl (by kernel_rfl) (by kernel_rfl) (by kernel_rfl) (fun _ _ _ h => h) (Or.inr ⟨by rfl, rfl⟩) ?_
          (try go_simp)
          refine wpAny_take (i := 11) (v := undef) rfl (by kernel_rfl) (by kernel_rfl) (by kernel_rfl) (fun _ _ _ h => h) (Or.inr ⟨by rfl, rfl⟩) ?_
          (try go_simp)
          refine wpAny_take (i := 12) (v := undef) rfl (by kernel_rfl) (by kernel_rfl) (by kernel_rfl) (fun _ _ _ h => h) (Or.inr ⟨by rfl, rfl⟩) ?_
          (try go_simp)
          refine wpAny_take (i := 13) (v := undef) rfl (by kernel_rfl) (by kernel_rfl) (by kernel_rfl) (fun _ _ _ h => h) (Or.inr ⟨by rfl, rfl⟩) ?_
          (try go_simp)
          refine wpAny_take (i := 14) (v := ?_) rfl (by kernel_rfl) (by kernel_rfl) (by kernel_rfl) (fun _ _ _ h => h) (Or.inl ⟨by rfl, ?_⟩) ?_
          rotate_left 1
          · (intro w; go_simp) <;> with_reducible rfl
          refine wpAny_done (by kernel_rfl) ?_ _
          have he4 : Ext w3 wi := (Ext.refl w3).drew.trans hei
          have HKD4 := Lib.hid (HKD3.out.ext he4); have HX4 := Lib.hid (HX3.out.trans he4)
          have f0 := HKD4.out.free 0; have f1 := HKD4.out.free 1; have f2 := HKD4.out.free 2; have f3 := HKD4.out.free 3
          have b0 := HKD4.out.cell (i := 0) (by simp); have b1 := HKD4.out.cell (i := 1) (by simp); have b2 := HKD4.out.cell (i := 2) (by simp); have b3 := HKD4.out.cell (i := 3) (by simp)
          simp only [List.getElem_cons_zero, List.getElem_cons_succ] at b0 b1 b2 b3
          clear he4 hei p1 p2 r0 r1
          go_wp2_with fail
          have kz : Bk ((((wi.setCell ⟨w.heap.size + 1 + 1 + 1, 0, none⟩ (.int .i64 0)).setCell ⟨w.heap.size + 1 + 1 + 1, 1, none⟩ (.slice none 0 0)).setCell ⟨w.heap.size + 1 + 1 + 1, 2, none⟩ (.slice none 0 0)).setCell ⟨w.heap.size + 1 + 1 + 1, 3, none⟩ (.slice none 0 0)) (w.heap.size + 1 + 1 + 1) 149 [.int .i64 0, .slice none 0 0, .slice none 0 0, .slice none 0 0] := ((((HKD4.out).set 0 _).set 1 _).set 2 _).set 3 _
          have hez : Ext w ((((wi.setCell ⟨w.heap.size + 1 + 1 + 1, 0, none⟩ (.int .i64 0)).setCell ⟨w.heap.size + 1 + 1 + 1, 1, none⟩ (.slice none 0 0)).setCell ⟨w.heap.size + 1 + 1 + 1, 2, none⟩ (.slice none 0 0)).setCell ⟨w.heap.size + 1 + 1 + 1, 3, none⟩ (.slice none 0 0)) := ((((HX4.out).setCell (p := ⟨w.heap.size + 1 + 1 + 1, 0, none⟩) (by show w.heap.size ≤ w.heap.size + 1 + 1 + 1; omega) _).setCell (p := ⟨w.heap.size + 1 + 1 + 1, 1, none⟩) (by show w.heap.size ≤ w.heap.size + 1 + 1 + 1; omega) _).setCell (p := ⟨w.heap.size + 1 + 1 + 1, 2, none⟩) (by show w.heap.size ≤ w.heap.size + 1 + 1 + 1; omega) _).setCell (p := ⟨w.heap.size + 1 + 1 + 1, 3, none⟩) (by show w.heap.size ≤ w.heap.size + 1 + 1 + 1; omega) _
          generalize ((((wi.setCell ⟨w.heap.size + 1 + 1 + 1, 0, none⟩ (.int .i64 0)).setCell ⟨w.heap.size + 1 + 1 + 1, 1, none⟩ (.slice none 0 0)).setCell ⟨w.heap.size + 1 + 1 + 1, 2, none⟩ (.slice none 0 0)).setCell ⟨w.heap.size + 1 + 1 + 1, 3, none⟩ (.slice none 0 0)) = wz at *
          have z0 := kz.cell (i := 0) (by simp); have z1 := kz.cell (i := 1) (by simp); have z2 := kz.cell (i := 2) (by simp); have z3 := kz.cell (i := 3) (by simp)
          simp only [List.getElem_cons_zero, List.getElem_cons_succ] at z0 z1 z2 z3
          exact bodyPost_ret (v := .tuple #[zeroX, .int .i64 28]) (by simp [results, Tryz.results50, go_sem, z0, z1, z2, z3]) rfl ⟨hez, by rw [HE28.out]⟩
        · exact AllReady.nil
      · exact AllReady.nil
    refine AllReady.cons rfl (fun K hK => ?_) ?_
    · go_simp
      refine hK _ _ ?_
      clear hK K
      refine wpAny_ready (rs := [1, 4]) (by kernel_rfl) (by simp) ?_
      refine AllReady.cons rfl (fun K hK => ?_) ?_
      · go_simp
        refine hK _ _ ?_
        clear hK K
        refine wpAny_take (i := 2) (v := ?_) rfl (by kernel_rfl) (by kernel_rfl) (by kernel_rfl) (fun _ _ _ h => h) (Or.inl ⟨by rfl, ?_⟩) ?_
        rotate_left 1
        · (intro w; go_simp) <;> with_reducible rfl
        refine wpAny_ready (rs := [4]) (by kernel_rfl) (by simp) ?_
        refine AllReady.cons rfl (fun K hK => ?_) ?_
        · go_simp
          (with_reducible refine (arity_any (w := w3.drew)).mono ?_)
          rintro e wi ⟨yv, rfl, hei, rfl⟩
          replace p1 := hei.cell ((Ext.refl w3).drew.cell p1)
          go_wp2_with fail
          refine wpAny_take (i := 5) (v := ?_) rfl (by kernel_rfl) (by kernel_rfl) (by kernel_rfl) (fun _ _ _ h => h) (Or.inl ⟨by rfl, ?_⟩) ?_
          rotate_left 1
          · (intro w; go_simp) <;> with_reducible rfl
          refine wpAny_take (i := 6) (v := ?_) rfl (by kernel_rfl) (by kernel_rfl) (by kernel_rfl) (fun _ _ _ h => h) (Or.inl ⟨by rfl, ?_⟩) ?_
          rotate_left 1
          · (intro w; go_simp) <;> with_reducible rfl
          refine wpAny_take (i := 7) (v := undef) rfl (by kernel_rfl) (by kernel_rfl) (by kernel_rfl) (fun _ _ _ h => h) (Or.inr ⟨by rfl, rfl⟩) ?_
          (try go_simp)
          refine wpAny_take (i := 8) (v := undef) rfl (by kernel_rfl) (by kernel_rfl) (by kernel_rfl) (fun _ _ _ h => h) (Or.inr ⟨by rfl, rfl⟩) ?_
          (try go_simp)
          refine wpAny_take (i := 9) (v := undef) rfl (by kernel_rfl) (by kernel_rfl) (by kernel_rfl) (fun _ _ _ h => h) (Or.inr ⟨by rfl, rfl⟩) ?_
          (try go_simp)
          refine wpAny_take (i := 10) (v := undef) rfl (by kernel_rfl) (by kernel_rfl) (by kernel_rfl) (fun _ _ _ h => h) (Or.inr ⟨by rfl, rfl⟩) ?_
          (try go_simp)
          refine wpAny_take (i := 11) (v := undef) rfl (by kernel_rfl) (by kernel_rfl) (by kernel_rfl) (fun _ _ _ h => h) (Or.inr ⟨by rfl, rfl⟩) ?_
          (try go_simp)
          refine wpAny_take (i := 12) (v := undef) rfl (by kernel_rfl) (by kernel_rfl) (by kernel_rfl) (fun _ _ _ h => h) (Or.inr ⟨by rfl, rfl⟩) ?_
          (try go_simp)
          refine wpAny_take (i := 13) (v := undef) rfl (by kernel_rfl) (by kernel_rfl) (by kernel_rfl) (fun _ _ _ h => h) (Or.inr ⟨by rfl, rfl⟩) ?_
          (try go_simp)
          refine wpAny_take (i := 14) (v := ?_) rfl (by kernel_rfl) (by kernel_rfl) (by kernel_rfl) (fun _ _ _ h => h) (Or.inl ⟨by rfl, ?_⟩) ?_
          rotate_left 1
          · (intro w; go_simp) <;> with_reducible rfl
          refine wpAny_done (by kernel_rfl) ?_ _
          have he4 : Ext w3 wi := (Ext.refl w3).drew.trans hei
          have HKD4 := Lib.hid (HKD3.out.ext he4); have HX4 := Lib.hid (HX3.out.trans he4)
          have f0 := HKD4.out.free 0; have f1 := HKD4.out.free 1; have f2 := HKD4.out.free 2; have f3 := HKD4.out.free 3
          have b0 := HKD4.out.cell (i := 0) (by simp); have b1 := HKD4.out.cell (i := 1) (by simp); have b2 := HKD4.out.cell (i := 2) (by simp); have b3 := HKD4.out.cell (i := 3) (by simp)
          simp only [List.getElem_cons_zero, List.getElem_cons_succ] at b0 b1 b2 b3
          clear he4 hei p1 p2 r0 r1
          go_wp2_with fail
          have kz : Bk ((((wi.setCell ⟨w.heap.size + 1 + 1 + 1, 0, none⟩ (.int .i64 0)).setCell ⟨w.heap.size + 1 + 1 + 1, 1, none⟩ (.slice none 0 0)).setCell ⟨w.heap.size + 1 + 1 + 1, 2, none⟩ (.slice none 0 0)).setCell ⟨w.heap.size + 1 + 1 + 1, 3, none⟩ (.slice none 0 0)) (w.heap.size + 1 + 1 + 1) 149 [.int .i64 0, .slice none 0 0, .slice none 0 0, .slice none 0 0] := ((((HKD4.out).set 0 _).set 1 _).set 2 _).set 3 _
          have hez : Ext w ((((wi.setCell ⟨w.heap.size + 1 + 1 + 1, 0, none⟩ (.int .i64 0)).setCell ⟨w.heap.size + 1 + 1 + 1, 1, none⟩ (.slice none 0 0)).setCell ⟨w.heap.size + 1 + 1 + 1, 2, none⟩ (.slice none 0 0)).setCell ⟨w.heap.size + 1 + 1 + 1, 3, none⟩ (.slice none 0 0)) := ((((HX4.out).setCell (p := ⟨w.heap.size + 1 + 1 + 1, 0, none⟩) (by show w.heap.size ≤ w.heap.size + 1 + 1 + 1; omega) _).setCell (p := ⟨w.heap.size + 1 + 1 + 1, 1, none⟩) (by show w.heap.size ≤ w.heap.size + 1 + 1 + 1; omega) _).setCell (p := ⟨w.heap.size + 1 + 1 + 1, 2, none⟩) (by show w.heap.size ≤ w.heap.size + 1 + 1 + 1; omega) _).setCell (p := ⟨w.heap.size + 1 + 1 + 1, 3, none⟩) (by show w.heap.size ≤ w.heap.size + 1 + 1 + 1; omega) _
          generalize ((((wi.setCell ⟨w.heap.size + 1 + 1 + 1, 0, none⟩ (.int .i64 0)).setCell ⟨w.heap.size + 1 + 1 + 1, 1, none⟩ (.slice none 0 0)).setCell ⟨w.heap.size + 1 + 1 + 1, 2, none⟩ (.slice none 0 0)).setCell ⟨w.heap.size + 1 + 1 + 1, 3, none⟩ (.slice none 0 0)) = wz at *
          have z0 := kz.cell (i := 0) (by simp); have z1 := kz.cell (i := 1) (by simp); have z2 := kz.cell (i := 2) (by simp); have z3 := kz.cell (i := 3) (by simp)
          simp only [List.getElem_cons_zero, List.getElem_cons_succ] at z0 z1 z2 z3
          exact bodyPost_ret (v := .tuple #[zeroX, .int .i64 28]) (by simp [results, Tryz.results50, go_sem, z0, z1, z2, z3]) rfl ⟨hez, by rw [HE28.out]⟩
        · exact AllReady.nil
      refine AllReady.cons rfl (fun K hK => ?_) ?_
      · go_simp
        (with_reducible refine (arity_any (w := w3.drew)).mono ?_)
        rintro e wi ⟨yv, rfl, hei, rfl⟩
        replace p1 := hei.cell ((Ext.refl w3).drew.cell p1)
        go_wp2_with fail
        refine wpAny_ready (rs := [1]) (by kernel_rfl) (by simp) ?_
        refine AllReady.cons rfl (fun K hK => ?_) ?_
        · go_simp
          refine hK _ _ ?_
          clear hK K
          refine wpAny_take (i := 2) (v := ?_) rfl (by kernel_rfl) (by kernel_rfl) (by kernel_rfl) (fun _ _ _ h => h) (Or.inl ⟨by rfl, ?_⟩) ?_
          rotate_left 1
          · (intro w; go_simp) <;> with_reducible rfl
          refine wpAny_take (i := 5) (v := ?_) rfl (by kernel_rfl) (by kernel_rfl) (by kernel_rfl) (fun _ _ _ h => h) (Or.inl ⟨by rfl, ?_⟩) ?_
          rotate_left 1
          · (intro w; go_simp) <;> with_reducible rfl
          refine wpAny_take (i := 6) (v := ?_) rfl (by kernel_rfl) (by kernel_rfl) (by kernel_rfl) (fun _ _ _ h => h) (Or.inl ⟨by rfl, ?_⟩) ?_
          rotate_left 1
          · (intro w; go_simp) <;> with_reducible rfl
          refine wpAny_take (i := 7) (v := undef) rfl (by kernel_rfl) (by kernel_rfl) (by kernel_rfl) (fun _ _ _ h => h) (Or.inr ⟨by rfl, rfl⟩) ?_
          (try go_simp)
          refine wpAny_take (i := 8) (v := undef) rfl (by kernel_rfl) (by kernel_rfl) (by kernel_rfl) (fun _ _ _ h => h) (Or.inr ⟨by rfl, rfl⟩) ?_
          (try go_simp)
          refine wpAny_take (i := 9) (v := undef) rfl (by kernel_rfl) (by kernel_rfl) (by kernel_rfl) (fun _ _ _ h => h) (Or.inr ⟨by rfl, rfl⟩) ?_
          (try go_simp)
          refine wpAny_take (i := 10) (v := undef) rfl (by kernel_rfl) (by kernel_rfl) (by kernel_rfl) (fun _ _ _ h => h) (Or.inr ⟨by rfl, rfl⟩) ?_
          (try go_simp)
          refine wpAny_take (i := 11) (v := undef) rfl (by kernel_rfl) (by kernel_rfl) (by kernel_rfl) (fun _ _ _ h => h) (Or.inr ⟨by rfl, rfl⟩) ?_
          (try go_simp)
          refine wpAny_take (i := 12) (v := undef) rfl (by kernel_rfl) (by kernel_rfl) (by kernel_rfl) (fun _ _ _ h => h) (Or.inr ⟨by rfl, rfl⟩) ?_
          (try go_simp)
          refine wpAny_take (i := 13) (v := undef) rfl (by kernel_rfl) (by kernel_rfl) (by kernel_rfl) (fun _ _ _ h => h) (Or.inr ⟨by rfl, rfl⟩) ?_
          (try go_simp)
          refine wpAny_take (i := 14) (v := ?_) rfl (by kernel_rfl) (by kernel_rfl) (by kernel_rfl) (fun _ _ _ h => h) (Or.inl ⟨by rfl, ?_⟩) ?_
          rotate_left 1
          · (intro w; go_simp) <;> with_reducible rfl
          refine wpAny_done (by kernel_rfl) ?_ _
          have he4 : Ext w3 wi := (Ext.refl w3).drew.trans hei
          have HKD4 := Lib.hid (HKD3.out.ext he4); have HX4 := Lib.hid (HX3.out.trans he4)
          have f0 := HKD4.out.free 0; have f1 := HKD4.out.free 1; have f2 := HKD4.out.free 2; have f3 := HKD4.out.free 3
          have b0 := HKD4.out.cell (i := 0) (by simp); have b1 := HKD4.out.cell (i := 1) (by simp); have b2 := HKD4.out.cell (i := 2) (by simp); have b3 := HKD4.out.cell (i := 3) (by simp)
          simp only [List.getElem_cons_zero, List.getElem_cons_succ] at b0 b1 b2 b3
          clear he4 hei p1 p2 r0 r1
          go_wp2_with fail
          have kz : Bk ((((wi.setCell ⟨w.heap.size + 1 + 1 + 1, 0, none⟩ (.int .i64 0)).setCell ⟨w.heap.size + 1 + 1 + 1, 1, none⟩ (.slice none 0 0)).setCell ⟨w.heap.size + 1 + 1 + 1, 2, none⟩ (.slice none 0 0)).setCell ⟨w.heap.size + 1 + 1 + 1, 3, none⟩ (.slice none 0 0)) (w.heap.size + 1 + 1 + 1) 149 [.int .i64 0, .slice none 0 0, .slice none 0 0, .slice none 0 0] := ((((HKD4.out).set 0 _).set 1 _).set 2 _).set 3 _
          have hez : Ext w ((((wi.setCell ⟨w.heap.size + 1 + 1 + 1, 0, none⟩ (.int .i64 0)).setCell ⟨w.heap.size + 1 + 1 + 1, 1, none⟩ (.slice none 0 0)).setCell ⟨w.heap.size + 1 + 1 + 1, 2, none⟩ (.slice none 0 0)).setCell ⟨w.heap.size + 1 + 1 + 1, 3, none⟩ (.slice none 0 0)) := ((((HX4.out).setCell (p := ⟨w.heap.size + 1 + 1 + 1, 0, none⟩) (by show w.heap.size ≤ w.heap.size + 1 + 1 + 1; omega) _).setCell (p := ⟨w.heap.size + 1 + 1 + 1, 1, none⟩) (by show w.heap.size ≤ w.heap.size + 1 + 1 + 1; omega) _).setCell (p := ⟨w.heap.size + 1 + 1 + 1, 2, none⟩) (by show w.heap.size ≤ w.heap.size + 1 + 1 + 1; omega) _).setCell (p := ⟨w.heap.size + 1 + 1 + 1, 3, none⟩) (by show w.heap.size ≤ w.heap.size + 1 + 1 + 1; omega) _
          generalize ((((wi.setCell ⟨w.heap.size + 1 + 1 + 1, 0, none⟩ (.int .i64 0)).setCell ⟨w.heap.size + 1 + 1 + 1, 1, none⟩ (.slice none 0 0)).setCell ⟨w.heap.size + 1 + 1 + 1, 2, none⟩ (.slice none 0 0)).setCell ⟨w.heap.size + 1 + 1 + 1, 3, none⟩ (.slice none 0 0)) = wz at *
          have z0 := kz.cell (i := 0) (by simp); have z1 := kz.cell (i := 1) (by simp); have z2 := kz.cell (i := 2) (by simp); have z3 := kz.cell (i := 3) (by simp)
          simp only [List.getElem_cons_zero, List.getElem_cons_succ] at z0 z1 z2 z3
          exact bodyPost_ret (v := .tuple #[zeroX, .int .i64 28]) (by simp [results, Tryz.results50, go_sem, z0, z1, z2, z3]) rfl ⟨hez, by rw [HE28.out]⟩
        · exact AllReady.nil
      · exact AllReady.nil
    · exact AllReady.nil
end Go.Proofs.YtmmmdinncmbjkaaGreat
