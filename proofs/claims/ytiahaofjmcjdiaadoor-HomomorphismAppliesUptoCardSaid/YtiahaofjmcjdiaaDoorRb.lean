/- Contract: ordinalref24.Apply. -/
import Derived.Test.YtiahaofjmcjdiaaDoorRa
import Derived.Test.YtiahaofjmcjdiaaDoorHk
namespace Go.Proofs.YtiahaofjmcjdiaaDoor
open Go.RowKit

/-- The image under way. -/
structure ApI (w wr : World) (g : Nat) (rl : ByteArray) (l : List Int) (v : Value) : Prop where
  bk : Bk wr g 58 [.string rl, v]
  row : wr.ownsRow w.heap.size 3 1 v l.length (l.map I64)
  ext : Ext w wr
theorem ApI.step {w wr wb w9 : World} {g m : Nat} {rl : ByteArray} {l : List Int} {v v9 : Value} {x : Int} (h : ApI w wr g rl l v) (hg : w.heap.size ≤ g) (he : Ext wr wb) (hm : m = l.length) (hr : w9.ownsRow w.heap.size 3 1 v9 (m + 1) (l.map I64 ++ [I64 x])) (hgr : wb.grownBy w9 v.ownBlock) :
    ApI w (w9.setCell ⟨g, 1, none⟩ v9) g rl (l ++ [x]) v9 ∧ ∀ k o, k ≠ g → Bk wr k 58 o → Bk (w9.setCell ⟨g, 1, none⟩ v9) k 58 o := by
  subst hm
  have hrow : wb.ownsRow w.heap.size 3 1 v l.length (l.map I64) := own_fr h.row (he.fr (fun _ => False)) (fun _ _ h => h)
  have hb9 : Bk w9 g 58 [.string rl, v] := (h.bk.ext he).fr (grown_fr hgr) (fun e => own_bk hrow (h.bk.ext he) (by decide) e rfl)
  have hx9 : Ext w w9 := (h.ext.trans he).grown hgr (fun k hk => (hrow.lt k hk).1)
  have hset : Fr (fun k => k = g) w9 (w9.setCell ⟨g, 1, none⟩ v9) := Fr.setCell (S := fun k => k = g) (Fr.refl _ w9) (p := ⟨g, 1, none⟩) (.inl rfl) _
  refine ⟨⟨hb9.set 1 _, ?_, hset.new hx9 (fun k hk => by omega)⟩, fun k o hk hb => ?_⟩
  · rw [List.length_append, List.map_append]
    exact own_fr hr hset (fun k hk e => by subst e; exact own_bk hr hb9 (by decide) hk rfl)
  · exact ((hb.ext he).fr (grown_fr hgr) (fun e => own_bk hrow (hb.ext he) (by decide) e rfl)).fr hset hk

set_option maxRecDepth 20000 in
set_option maxHeartbeats 1600000 in
theorem apply_any {F G K : Nat → Prop} {w : World} {vv vi : Value} {vs is zs : List Int} {rl : ByteArray} {B : Option Addr} {d : Nat} (hv : Ins F w vv vs) (hi : Ins G w vi is) (hcl : Cl K w B (zs.map I64)) (hd : zs.length ≤ d) (hl : zs.length ≤ 1048576) (hlv : vs.length ≤ 1048577) :
    Calls Tryd.prog 19 #[vv, vi, .agg #[.string rl, .slice B zs.length d]] w (fun e w' => Ext w w' ∧ ∃ v, e = .returned (.agg #[.string rl, v]) ∧ w'.ownsRow w.heap.size 3 1 v zs.length ((zs.map (imgZ vs is)).map I64)) := by
  obtain ⟨nt, hnt⟩ : ∃ nt, nt = zs.length := ⟨_, rfl⟩
  rw [← hnt] at hd hl ⊢
  have HNT := Lib.hid hnt; have HCL := Lib.hid hcl; have HV := Lib.hid hv; have HIS := Lib.hid hi
  obtain ⟨A1, c1, n1, e1⟩ : ∃ A c n, vv = .slice A n c := by obtain ⟨A, c, e, _⟩ := hv; exact ⟨A, c, _, e⟩
  obtain ⟨A2, c2, n2, e2⟩ : ∃ A c n, vi = .slice A n c := by obtain ⟨A, c, e, _⟩ := hi; exact ⟨A, c, _, e⟩
  subst e1 e2
  clear hnt hcl hv hi
  obtain ⟨i0, hi0, hz0, hz1, hz2⟩ := info_parts info_int
  have HI0 := Lib.hid (And.intro hi0 (And.intro hz0 (And.intro hz1 hz2))); clear hi0 hz0 hz1 hz2
  go_enter Tryd.func19, Tryd.ntmps19
  go_wp2_with fail
  have h3 := three_new w [.string rl, .slice B nt d] [.string ⟨#[]⟩, .slice none 0 0] [.string rl, .slice none 0 0] 58 58 58 _ rfl
  change Bk (((w.alloc (.cells #[.string rl, .slice B nt d] 58)).alloc (.cells #[.string ⟨#[]⟩, .slice none 0 0] 58)).alloc (.cells #[.string rl, .slice none 0 0] 58)) _ _ _ ∧ Bk (((w.alloc (.cells #[.string rl, .slice B nt d] 58)).alloc (.cells #[.string ⟨#[]⟩, .slice none 0 0] 58)).alloc (.cells #[.string rl, .slice none 0 0] 58)) _ _ _ ∧ Bk (((w.alloc (.cells #[.string rl, .slice B nt d] 58)).alloc (.cells #[.string ⟨#[]⟩, .slice none 0 0] 58)).alloc (.cells #[.string rl, .slice none 0 0] 58)) _ _ _ ∧ Ext w (((w.alloc (.cells #[.string rl, .slice B nt d] 58)).alloc (.cells #[.string ⟨#[]⟩, .slice none 0 0] 58)).alloc (.cells #[.string rl, .slice none 0 0] 58)) at h3
  generalize (((w.alloc (.cells #[.string rl, .slice B nt d] 58)).alloc (.cells #[.string ⟨#[]⟩, .slice none 0 0] 58)).alloc (.cells #[.string rl, .slice none 0 0] 58)) = w1 at *
  obtain ⟨k0, k1, k2, hx1⟩ := h3
  have HK0 := Lib.hid k0; have HK1 := Lib.hid k1; have HK2 := Lib.hid k2; have HX1 := Lib.hid hx1
  clear k0 k1 k2 hx1
  go_loopw [8] (fun q wr => ∃ (j : Nat) (v : Value), j ≤ nt ∧ q = .int .i64 (j : Int) ∧ ApI w wr (w.heap.size + 1 + 1) rl ((zs.take j).map (imgZ vs is)) v ∧ Bk wr w.heap.size 58 [.string rl, .slice B nt d] ∧ Bk wr (w.heap.size + 1) 58 [.string ⟨#[]⟩, .slice none 0 0]) (fun q _ => nt - (intOf q).toNat)
  case atStart => exact ⟨0, .slice none 0 0, Nat.zero_le _, rfl, ⟨HK2.out, World.ownsRow_nil _ _ _ _, HX1.out⟩, HK0.out, HK1.out⟩
  case round =>
    obtain ⟨j, v, hj, rfl, hJ, hp0, hp1⟩ := hrel
    have hlen : ((zs.take j).map (imgZ vs is)).length = j := by have := HNT.out; simp; omega
    have hrw := hJ.row
    rw [hlen] at hrw
    obtain ⟨Av, cv, rfl⟩ := own_slice hrw
    have HROW := Lib.hid hrw; have HJ := Lib.hid hJ; have HP0 := Lib.hid hp0; have HP1 := Lib.hid hp1; have HLEN := Lib.hid hlen
    have g1 := hp0.cell (i := 1) (by simp)
    have g2 := hJ.bk.cell (i := 1) (by simp)
    have hg2 := hJ.bk.lt
    simp only [List.getElem_cons_zero, List.getElem_cons_succ] at g1 g2
    have hww : w.heap.size ≤ wr.heap.size := hJ.ext.size
    clear hrw hp0 hp1 hlen
    by_cases hlt : j < nt
    · have j1 : (0 : Int) ≤ (j : Int) := by omega
      have j2 : (j : Int) < (nt : Int) := by omega
      have hjt : j < zs.length := by have := HNT.out; omega
      obtain ⟨ad, rfl, hHa, d0⟩ := HCL.out.int (i := j) hjt
      replace d0 := hJ.ext.cell d0
      obtain ⟨x, hx⟩ : ∃ x, x = zs[j] := ⟨_, rfl⟩
      rw [← hx] at d0
      have etk : (zs.take (j + 1)).map (imgZ vs is) = (zs.take j).map (imgZ vs is) ++ [imgZ vs is x] := by rw [List.take_succ_eq_append_getElem hjt, List.map_append, hx]; rfl
      have HETK := Lib.hid etk
      have hxd : Ext w wr.drew := hJ.ext.drew
      have HXD := Lib.hid hxd
      have HCALL := Lib.hid (image_any (x := x) (HV.out.ext hxd) (HIS.out.ext hxd) hlv)
      obtain ⟨y, hy⟩ : ∃ y, y = imgZ vs is x := ⟨_, rfl⟩
      rw [← hy] at HCALL HETK
      have hRD : wr.drew.ownsRow w.heap.size 3 1 (.slice Av j cv) j (((zs.take j).map (imgZ vs is)).map I64) := own_fr HROW.out ((Ext.refl wr).drew.fr (fun _ => False)) (fun _ _ h => h)
      have HRD := Lib.hid hRD
      have HBD := Lib.hid (hJ.bk.ext (Ext.refl wr).drew)
      have hwd : w.heap.size ≤ wr.drew.heap.size := hxd.size
      clear hx etk hJ hHa hxd hy hRD
      go_upto_region 5 with fail
      go_region_law (first
        | (refine step_append_at (by rfl) _ _ _ (by rfl) w.heap.size 3 i0 (.int .i64 0) 1 8 Tryd.underlying38 HI0.out.1 HI0.out.2.1 HI0.out.2.2.1 HI0.out.2.2.2 rfl (by omega) (.slice Av j cv) j (((zs.take j).map (imgZ vs is)).map I64) (by rfl) (by exact HRD.out.alloc _) ⟨wr.drew.heap.size, 0, none⟩ 1 1 [I64 y] (by rfl) (by rfl) (by exact laid_news wr.drew _ _) (by simp [Value.oneCell']) (by simp only [maxLen]; omega) (by omega) (by simp; omega) ?_; intro v9 w9 hrow9 hgr9 hland9; obtain ⟨A9, c9, rfl⟩ := own_slice hrow9; have hb9 : Bk w9 (w.heap.size + 1 + 1) 58 [.string rl, .slice Av j cv] := Bk.fr (by exact HBD.out.alloc _) (grown_fr hgr9) (fun e => own_bk HRD.out HBD.out (by decide) e rfl); have q9 := hb9.cell (i := 1) (by simp); have f9 := hb9.free 1; simp only [List.getElem_cons_zero, List.getElem_cons_succ] at q9; have HR9 := Lib.hid hrow9; have HG9 := Lib.hid hgr9; clear hrow9 hgr9 hland9 hb9; go_wp2_with fail)
        | (go_simp; refine HCALL.out.mono ?_; rintro e wa ⟨rfl, rfl⟩; go_wp2_with fail))
      all_goals
        clear q9 f9
        go_wp2_with fail
        go_roundw
        case rel =>
          obtain ⟨s1, s2⟩ := ApI.step HJ.out (by omega) ((Ext.refl wr).drew.alloc _) HLEN.out.symm HR9.out (by exact HG9.out)
          refine ⟨j + 1, .slice A9 (j + 1) c9, by omega, by go_num, by rw [HETK.out]; exact s1, s2 _ _ (by omega) HP0.out, s2 _ _ (by omega) HP1.out⟩
        case measure => simp [intOf]; omega
    · obtain rfl : j = nt := by omega
      have hdn : ¬ (j : Int) < (j : Int) := by omega
      have u0 := hJ.bk.cell (i := 0) (by simp)
      have v0 := HP1.out.cell (i := 0) (by simp)
      have v1 := HP1.out.cell (i := 1) (by simp)
      have f0 := HP1.out.free 0
      have f1 := HP1.out.free 1
      simp only [List.getElem_cons_zero, List.getElem_cons_succ] at u0 v0 v1
      clear hJ
      go_wp2_with fail
      have kz := (HP1.out.set 0 (.string rl)).set 1 (.slice Av j cv)
      have hfz : Fr (fun k => k = w.heap.size + 1) wr ((wr.setCell ⟨w.heap.size + 1, 0, none⟩ (.string rl)).setCell ⟨w.heap.size + 1, 1, none⟩ (.slice Av j cv)) := ((Fr.refl (fun k => k = w.heap.size + 1) wr).setCell (p := ⟨w.heap.size + 1, 0, none⟩) (.inl rfl) _).setCell (p := ⟨w.heap.size + 1, 1, none⟩) (.inl rfl) _
      have r0 := kz.cell (i := 0) (by simp)
      have r1 := kz.cell (i := 1) (by simp)
      simp only [List.set_cons_zero, List.set_cons_succ, List.getElem_cons_zero, List.getElem_cons_succ] at r0 r1
      have hrz := own_fr HROW.out hfz (fun k hk e => own_bk HROW.out HP1.out (by decide) hk e)
      have hez := hfz.new HJ.out.ext (fun k hk => by omega)
      generalize ((wr.setCell ⟨w.heap.size + 1, 0, none⟩ (.string rl)).setCell ⟨w.heap.size + 1, 1, none⟩ (.slice Av j cv)) = wz at *
      refine bodyPost_ret (v := .agg #[.string rl, .slice Av j cv]) ?_ rfl ⟨hez, .slice Av j cv, rfl, ?_⟩
      · simp [results, Tryd.results19, go_sem, r0, r1]
      · have et : zs.take j = zs := by rw [HNT.out]; exact List.take_length
        rw [et, List.map_map] at hrz
        exact hrz
end Go.Proofs.YtiahaofjmcjdiaaDoor
