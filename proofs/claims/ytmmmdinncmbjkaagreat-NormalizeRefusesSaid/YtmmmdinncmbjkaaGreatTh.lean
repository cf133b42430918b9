/- Contracts: strings.Clone, Database.Schema. -/
import Derived.Test.YtmmmdinncmbjkaaGreatTg
namespace Go.Proofs.YtmmmdinncmbjkaaGreat
open Go.RowKit Go.Maps

set_option maxRecDepth 20000 in
theorem strclone_any (s : ByteArray) (w : World) (hs : s.size ≤ 281474976710656) :
    Calls Tryz.prog 32 #[.string s] w (fun e w' => e = .returned (.string s) ∧ Ext w w') := by
  go_enter Tryz.func32, Tryz.ntmps32
  go_wp2_with fail
  refine (Tryz.stringslite_Clone s w hs).mono ?_
  rintro e w2 ⟨rfl, he⟩
  have HE : Hid (Ext w w2) := Lib.hid he
  clear he
  go_wp2_with fail
  go_ret
  exact ⟨rfl, HE.out⟩
/-- What Database.Schema answers. -/
def SchPost (m : Dm) (s : ByteArray) (w : World) (e : Ending) (w' : World) : Prop :=
  Ext w w' ∧ ((m s = none ∧ e = .returned (.tuple #[.agg #[.string ⟨#[]⟩, .slice none 0 0], .bool false])) ∨ ∃ x A c, m s = some x ∧ e = .returned (.tuple #[.agg #[.string s, .slice A x.kinds.length c], .bool true]))
set_option maxRecDepth 20000 in
set_option maxHeartbeats 1600000 in
theorem schema_any {F : Nat → Prop} {w : World} {b n : Nat} {m : Dm} {s : ByteArray} (hD : DbB F w b n m) (hs : s.size ≤ 1000) (hkb : ∀ x, m s = some x → x.kinds.length ≤ 1000) :
    Calls Tryz.prog 10 #[.agg #[.map (some b)], .string s] w (SchPost m s w) := by
  have hs2 : s.size ≤ maxLen := by simp only [maxLen]; omega
  obtain ⟨f, hM, hm⟩ := hD
  have HM := Lib.hid hM
  have k2 := two_blk w 26 45 [.map (some b)] [.string ⟨#[]⟩, .slice none 0 0]
  have hx : Ext w ((w.alloc (.cells #[.map (some b)] 26)).alloc (.cells #[.string ⟨#[]⟩, .slice none 0 0] 45)) := ((Ext.refl w).alloc _).alloc _
  rcases hm s with ⟨h1, h2⟩ | ⟨x, u, h1, h2, u1, r1, rfl, hk, hr⟩
  · have HU1 : Hid ((f s).getD (.agg #[.slice none 0 0, .int .i64 0, .slice none 0 0]) = .agg #[.slice none 0 0, .int .i64 0, .slice none 0 0]) := Lib.hid (by rw [h2]; rfl)
    have HU2 : Hid ((f s).isSome = false) := Lib.hid (by rw [h2]; rfl)
    have HNO := Lib.hid h1
    clear hm h1 h2 hM hkb
    go_enter Tryz.func10, Tryz.ntmps10
    go_upto_region 1 with fail
    change Bk ((w.alloc (.cells #[.map (some b)] 26)).alloc (.cells #[.string ⟨#[]⟩, .slice none 0 0] 45)) _ _ _ ∧ Bk ((w.alloc (.cells #[.map (some b)] 26)).alloc (.cells #[.string ⟨#[]⟩, .slice none 0 0] 45)) _ _ _ at k2
    generalize ((w.alloc (.cells #[.map (some b)] 26)).alloc (.cells #[.string ⟨#[]⟩, .slice none 0 0] 45)) = w1 at *
    obtain ⟨ka, kb⟩ := k2
    have a0 := ka.cell (i := 0) (by simp)
    simp only [List.getElem_cons_zero, List.getElem_cons_succ] at a0
    have HX := Lib.hid hx; have HKB := Lib.hid kb; have HM1 := Lib.hid (HM.out.ext hx)
    have hlt := kb.lt
    clear ka kb hx
    go_upto_region 2 with (first
      | (refine wpList_lookup_okV rfl _ _ 24 98 rfl Tryz.underlying24 (.agg #[.slice none 0 0, .int .i64 0, .slice none 0 0]) (zero_entry _) b n f rfl HM1.out s rfl hs2 _ HU1.out false HU2.out ?_))
    have ke := Bk.new w1 98 [.slice none 0 0, .int .i64 0, .slice none 0 0]
    change Bk (w1.alloc (.cells #[.slice none 0 0, .int .i64 0, .slice none 0 0] 98)) _ _ _ at ke
    have hx2 : Ext w1 (w1.alloc (.cells #[.slice none 0 0, .int .i64 0, .slice none 0 0] 98)) := (Ext.refl w1).alloc _
    generalize (w1.alloc (.cells #[.slice none 0 0, .int .i64 0, .slice none 0 0] 98)) = w2 at *
    have e0 := ke.cell (i := 0) (by simp)
    simp only [List.getElem_cons_zero, List.getElem_cons_succ] at e0
    have HKB2 := Lib.hid (HKB.out.ext hx2); have HX2 := Lib.hid (HX.out.trans hx2)
    have f0 := HKB2.out.free 0; have f1 := HKB2.out.free 1
    have b0 := HKB2.out.cell (i := 0) (by simp); have b1 := HKB2.out.cell (i := 1) (by simp)
    simp only [List.getElem_cons_zero, List.getElem_cons_succ] at b0 b1
    clear ke hx2 a0
    clear e0
    go_wp2_with fail
    have kz : Bk ((w2.setCell ⟨w.heap.size + 1, 0, none⟩ (.string ⟨#[]⟩)).setCell ⟨w.heap.size + 1, 1, none⟩ (.slice none 0 0)) (w.heap.size + 1) 45 [.string ⟨#[]⟩, .slice none 0 0] := (HKB2.out.set 0 _).set 1 _
    have hez : Ext w ((w2.setCell ⟨w.heap.size + 1, 0, none⟩ (.string ⟨#[]⟩)).setCell ⟨w.heap.size + 1, 1, none⟩ (.slice none 0 0)) := (HX2.out.setCell (p := ⟨w.heap.size + 1, 0, none⟩) (Nat.le_succ _) _).setCell (p := ⟨w.heap.size + 1, 1, none⟩) (Nat.le_succ _) _
    generalize ((w2.setCell ⟨w.heap.size + 1, 0, none⟩ (.string ⟨#[]⟩)).setCell ⟨w.heap.size + 1, 1, none⟩ (.slice none 0 0)) = wz at *
    have z0 := kz.cell (i := 0) (by simp); have z1 := kz.cell (i := 1) (by simp)
    simp only [List.getElem_cons_zero, List.getElem_cons_succ] at z0 z1
    exact bodyPost_ret (v := .tuple #[.agg #[.string ⟨#[]⟩, .slice none 0 0], .bool false]) (by simp [results, Tryz.results10, go_sem, z0, z1]) rfl ⟨hez, .inl ⟨HNO.out, rfl⟩⟩
  · obtain ⟨A, c, rfl⟩ := hr.sl
    obtain ⟨A0, c0, e0', -, hck⟩ := hk
    subst e0'
    have HU1 : Hid ((f s).getD (.agg #[.slice none 0 0, .int .i64 0, .slice none 0 0]) = .agg #[.slice A0 x.kinds.length c0, .int .i64 x.rel.ar, .slice A x.rel.rows.length c]) := Lib.hid (by rw [h2]; rfl)
    have HU2 : Hid ((f s).isSome = true) := Lib.hid (by rw [h2]; rfl)
    have hkl := hkb x h1
    obtain ⟨nr, hnr⟩ : ∃ k, k = x.rel.rows.length := ⟨_, rfl⟩
    obtain ⟨ra, hra⟩ : ∃ k, k = x.rel.ar := ⟨_, rfl⟩
    obtain ⟨nk, hnk⟩ : ∃ k, k = x.kinds.length := ⟨_, rfl⟩
    have HQ := Lib.hid (fun (V : World) (A9 : Option Addr) (c9 : Nat) (hV : Ext w V) => (show SchPost m s w (.returned (.tuple #[.agg #[.string s, .slice A9 nk c9], .bool true])) V by
      refine ⟨hV, .inr ⟨x, A9, c9, h1, by rw [hnk]⟩⟩))
    have HCLN := Lib.hid (fun (V : World) (hV : Ext w V) => clone_ints (w := V) (n := nk) (c := c0) (hck.ext hV) (by rw [List.length_map, hnk]; omega) (by simp [Value.oneCell']) (by omega))
    have HSTR := Lib.hid (fun (V : World) => strclone_any s V (by omega))
    rw [← hnr, ← hra, ← hnk] at HU1
    clear hm h1 h2 hM hr hck hnr hra hnk hkl hkb
    go_enter Tryz.func10, Tryz.ntmps10
    go_upto_region 1 with fail
    change Bk ((w.alloc (.cells #[.map (some b)] 26)).alloc (.cells #[.string ⟨#[]⟩, .slice none 0 0] 45)) _ _ _ ∧ Bk ((w.alloc (.cells #[.map (some b)] 26)).alloc (.cells #[.string ⟨#[]⟩, .slice none 0 0] 45)) _ _ _ at k2
    generalize ((w.alloc (.cells #[.map (some b)] 26)).alloc (.cells #[.string ⟨#[]⟩, .slice none 0 0] 45)) = w1 at *
    obtain ⟨ka, kb⟩ := k2
    have a0 := ka.cell (i := 0) (by simp)
    simp only [List.getElem_cons_zero, List.getElem_cons_succ] at a0
    have HX := Lib.hid hx; have HKB := Lib.hid kb; have HM1 := Lib.hid (HM.out.ext hx)
    have hlt := kb.lt
    clear ka kb hx
    go_upto_region 2 with (first
      | (refine wpList_lookup_okV rfl _ _ 24 98 rfl Tryz.underlying24 (.agg #[.slice none 0 0, .int .i64 0, .slice none 0 0]) (zero_entry _) b n f rfl HM1.out s rfl hs2 _ HU1.out true HU2.out ?_))
    have ke := Bk.new w1 98 [.slice A0 nk c0, .int .i64 ra, .slice A nr c]
    change Bk (w1.alloc (.cells #[.slice A0 nk c0, .int .i64 ra, .slice A nr c] 98)) _ _ _ at ke
    have hx2 : Ext w1 (w1.alloc (.cells #[.slice A0 nk c0, .int .i64 ra, .slice A nr c] 98)) := (Ext.refl w1).alloc _
    generalize (w1.alloc (.cells #[.slice A0 nk c0, .int .i64 ra, .slice A nr c] 98)) = w2 at *
    have e0 := ke.cell (i := 0) (by simp)
    simp only [List.getElem_cons_zero, List.getElem_cons_succ] at e0
    have HKB2 := Lib.hid (HKB.out.ext hx2); have HX2 := Lib.hid (HX.out.trans hx2)
    have f0 := HKB2.out.free 0; have f1 := HKB2.out.free 1
    have b0 := HKB2.out.cell (i := 0) (by simp); have b1 := HKB2.out.cell (i := 1) (by simp)
    simp only [List.getElem_cons_zero, List.getElem_cons_succ] at b0 b1
    clear ke hx2 a0
    have he1 : w1.heap.size ≠ w.heap.size + 1 := by omega
    go_upto_region 4 with fail
    go_region_held3 (fun V => Fr (fun k => k = w.heap.size + 1) w2 V ∧ V.cell? ⟨w1.heap.size, 0, none⟩ = some (.slice A0 nk c0))
      ((refine (fun hf => ⟨hf, Fr.cell hf e0 he1⟩) ?_; repeat (first | exact Fr.refl _ _ | assumption | refine Fr.drew ?_ | refine Fr.setCell ?_ (by first | exact .inl rfl | (left; rfl)) _ | exact Ext.fr (by assumption) _)))
      (first
        | (go_at_call 32; (with_reducible refine (HSTR.out _).mono ?_); rintro e wi ⟨rfl, hei⟩; have hen : Ext w2 wi := (by refine Ext.trans ?_ hei; repeat (first | exact Ext.refl _ | refine Ext.drew ?_ | refine Ext.trans ?_ (by assumption))); have kbi := HKB2.out.ext hen; have b0 := kbi.cell (i := 0) (by simp); have b1 := kbi.cell (i := 1) (by simp); have f0 := kbi.free 0; have f1 := kbi.free 1; simp only [List.getElem_cons_zero, List.getElem_cons_succ] at b0 b1)
        | (go_at_call 30; (with_reducible refine (HCLN.out _ (Ext.trans HX2.out (by repeat (first | exact Ext.refl _ | refine Ext.drew ?_ | refine Ext.trans ?_ (by assumption))))).mono ?_); rintro e wi ⟨yv, rfl, hei, hown⟩; obtain ⟨A9, c9, rfl⟩ := own_slice hown; have hen : Ext w2 wi := (by refine Ext.trans ?_ hei; repeat (first | exact Ext.refl _ | refine Ext.drew ?_ | refine Ext.trans ?_ (by assumption))); have kbi := HKB2.out.ext hen; have b0 := kbi.cell (i := 0) (by simp); have b1 := kbi.cell (i := 1) (by simp); have f0 := kbi.free 0; have f1 := kbi.free 1; simp only [List.getElem_cons_zero, List.getElem_cons_succ] at b0 b1))
    all_goals
      have kz : Bk ((wi.setCell ⟨w.heap.size + 1, 0, none⟩ (.string s)).setCell ⟨w.heap.size + 1, 1, none⟩ (.slice A9 nk c9)) (w.heap.size + 1) 45 [.string s, .slice A9 nk c9] := (kbi.set 0 _).set 1 _
      have hez : Ext w ((wi.setCell ⟨w.heap.size + 1, 0, none⟩ (.string s)).setCell ⟨w.heap.size + 1, 1, none⟩ (.slice A9 nk c9)) := ((HX2.out.trans hen).setCell (p := ⟨w.heap.size + 1, 0, none⟩) (Nat.le_succ _) _).setCell (p := ⟨w.heap.size + 1, 1, none⟩) (Nat.le_succ _) _
      generalize ((wi.setCell ⟨w.heap.size + 1, 0, none⟩ (.string s)).setCell ⟨w.heap.size + 1, 1, none⟩ (.slice A9 nk c9)) = wz at *
      have z0 := kz.cell (i := 0) (by simp); have z1 := kz.cell (i := 1) (by simp)
      simp only [List.getElem_cons_zero, List.getElem_cons_succ] at z0 z1
      go_wp2_with fail
      exact bodyPost_ret (v := .tuple #[.agg #[.string s, .slice A9 nk c9], .bool true]) (by simp [results, Tryz.results10, go_sem, z0, z1]) rfl (HQ.out _ _ _ hez)
end Go.Proofs.YtmmmdinncmbjkaaGreat
