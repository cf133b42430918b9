/- Contract: ordinallaw24.atom. -/
import Derived.Test.YtiahaofjmcjdiaaDoorHn
namespace Go.Proofs.YtiahaofjmcjdiaaDoor
open Go.RowKit Go.Maps

set_option maxRecDepth 20000 in
set_option maxHeartbeats 1600000 in
theorem atom_any {F : Nat → Prop} {w : World} {rl : ByteArray} {B : Option Addr} {d : Nat} {vs : List ByteArray} (hcl : Cl F w B (vs.map Sv)) (hd : vs.length ≤ d) (hl : vs.length ≤ 1048576) :
    Calls Tryd.prog 21 #[.string rl, .slice B vs.length d] w (fun e w' => Ext w w' ∧ ∃ v, e = .returned (.agg #[.bool false, .string rl, v]) ∧ w'.ownsRow w.heap.size 47 4 v vs.length (tcells (vs.map varT))) := by
  obtain ⟨nt, hnt⟩ : ∃ nt, nt = vs.length := ⟨_, rfl⟩
  rw [← hnt] at hd hl ⊢
  have HNT := Lib.hid hnt; have HCL := Lib.hid hcl
  clear hnt hcl
  obtain ⟨i0, hi0, hz0, hz1, hz2⟩ := info_parts info_term
  have HI0 := Lib.hid (And.intro hi0 (And.intro hz0 (And.intro hz1 hz2))); clear hi0 hz0 hz1 hz2
  go_enter Tryd.func21, Tryd.ntmps21
  go_wp2_with fail
  have k0 : Bk ((w.alloc (.cells #[.bool false, .string ⟨#[]⟩, .slice none 0 0] 61)).alloc (.cells #[.bool false, .string rl, .slice none 0 0] 61)) w.heap.size 61 [.bool false, .string ⟨#[]⟩, .slice none 0 0] := (Bk.new w _ [.bool false, .string ⟨#[]⟩, .slice none 0 0]).alloc _
  have k1 : Bk ((w.alloc (.cells #[.bool false, .string ⟨#[]⟩, .slice none 0 0] 61)).alloc (.cells #[.bool false, .string rl, .slice none 0 0] 61)) (w.heap.size + 1) 61 [.bool false, .string rl, .slice none 0 0] := by
    have h := Bk.new (w.alloc (.cells #[.bool false, .string ⟨#[]⟩, .slice none 0 0] 61)) 61 [.bool false, .string rl, .slice none 0 0]
    rw [show (w.alloc (.cells #[.bool false, .string ⟨#[]⟩, .slice none 0 0] 61)).heap.size = w.heap.size + 1 by simp] at h
    exact h
  have hx1 : Ext w ((w.alloc (.cells #[.bool false, .string ⟨#[]⟩, .slice none 0 0] 61)).alloc (.cells #[.bool false, .string rl, .slice none 0 0] 61)) := ((Ext.refl w).alloc _).alloc _
  generalize ((w.alloc (.cells #[.bool false, .string ⟨#[]⟩, .slice none 0 0] 61)).alloc (.cells #[.bool false, .string rl, .slice none 0 0] 61)) = w1 at *
  have HK0 := Lib.hid k0; have HK1 := Lib.hid k1; have HX1 := Lib.hid hx1
  clear k0 k1 hx1
  go_loopw [12] (fun q wr => ∃ (j : Nat) (v : Value), j ≤ nt ∧ q = .int .i64 (j : Int) ∧ ReI w wr (w.heap.size + 1) false rl ((vs.take j).map varT) v j ∧ Bk wr w.heap.size 61 [.bool false, .string ⟨#[]⟩, .slice none 0 0]) (fun q _ => nt - (intOf q).toNat)
  case atStart => exact ⟨0, .slice none 0 0, Nat.zero_le _, rfl, ⟨HK1.out, World.ownsRow_nil _ _ _ _, HX1.out⟩, HK0.out⟩
  case round =>
    obtain ⟨j, v, hj, rfl, hJ, hz⟩ := hrel
    obtain ⟨Av, cv, rfl⟩ := own_slice hJ.row
    by_cases hlt : j < nt
    · have j1 : (0 : Int) ≤ (j : Int) := by omega
      have j2 : (j : Int) < (nt : Int) := by omega
      have hjt : j < vs.length := by have := HNT.out; omega
      obtain ⟨ad, rfl, hHa, d0⟩ := HCL.out.at' (j := j) (x := .string vs[j]) (by simp [hjt, Sv])
      replace d0 := hJ.ext.cell d0
      obtain ⟨x, hx⟩ : ∃ x, x = vs[j] := ⟨_, rfl⟩
      rw [← hx] at d0
      have etk : (vs.take (j + 1)).map varT = (vs.take j).map varT ++ [varT x] := by rw [List.take_succ_eq_append_getElem hjt, List.map_append, hx]; rfl
      have HETK := Lib.hid etk; have HJ := Lib.hid hJ; have HZ := Lib.hid hz
      have hww : w.heap.size ≤ wr.heap.size := hJ.ext.size
      have g2 := hJ.bk.cell (i := 2) (by simp)
      have hg2 := hJ.bk.lt
      simp only [List.getElem_cons_zero, List.getElem_cons_succ] at g2
      have hln := laid_news wr 47 [.string x, .int .i64 0, .int .i64 0, .string ⟨#[]⟩]
      have HLN := Lib.hid hln
      clear hx etk hJ hz hln hHa
      go_wp2_with (first
        | (at_builtin; refine wpList_append_at rfl _ _ 33 rfl w.heap.size 47 i0 (.agg #[.string ⟨#[]⟩, .int .i64 0, .int .i64 0, .string ⟨#[]⟩]) 4 48 Tryd.underlying33 HI0.out.1 HI0.out.2.1 HI0.out.2.2.1 HI0.out.2.2.2 rfl (by omega) _ j (tcells ((vs.take j).map varT)) rfl (HJ.out.row.alloc _) ⟨wr.heap.size, 0, none⟩ 1 1 [.string x, .int .i64 0, .int .i64 0, .string ⟨#[]⟩] rfl rfl HLN.out (by simp [Value.oneCell']) (by simp only [maxLen]; omega) (by omega) (by simp; omega) ?_; intro v9 w9 hr9 hg9 hl9; obtain ⟨A9, c9, rfl⟩ := own_slice hr9; have hb9 : Bk w9 (w.heap.size + 1) 61 [.bool false, .string rl, .slice Av j cv] := Bk.fr (HJ.out.bk.alloc _) (grown_fr hg9) (fun e => own_bk HJ.out.row HJ.out.bk (by decide) e rfl); have b9 := hb9.cell (i := 2) (by simp); have f9 := hb9.free 2; simp only [List.getElem_cons_zero, List.getElem_cons_succ] at b9; have HZ9 := Lib.hid ((HZ.out.alloc _).fr (grown_fr hg9) (fun e => own_bk HJ.out.row HZ.out (by decide) e rfl)); have HS9 := Lib.hid (ReI.step (x := varT x) HJ.out (by omega) ((Ext.refl _).alloc _) hr9 hg9); clear hr9 hg9 hl9 hb9))
      go_roundw
      case rel => exact ⟨j + 1, .slice A9 (j + 1) c9, by omega, by go_num, by rw [HETK.out]; exact HS9.out, HZ9.out.far (by simp) _⟩
      case measure => simp [intOf]; omega
    · obtain rfl : j = nt := by omega
      have hdn : ¬ (j : Int) < (j : Int) := by omega
      have HJ := Lib.hid hJ; have HZ := Lib.hid hz
      have u0 := hJ.bk.cell (i := 0) (by simp)
      have u1 := hJ.bk.cell (i := 1) (by simp)
      have u2 := hJ.bk.cell (i := 2) (by simp)
      have v0 := hz.cell (i := 0) (by simp)
      have v1 := hz.cell (i := 1) (by simp)
      have v2 := hz.cell (i := 2) (by simp)
      have f0 := hz.free 0
      have f1 := hz.free 1
      have f2 := hz.free 2
      simp only [List.getElem_cons_zero, List.getElem_cons_succ] at u0 u1 u2 v0 v1 v2
      clear hJ hz
      go_wp2_with fail
      have kz := ((HZ.out.set 0 (.bool false)).set 1 (.string rl)).set 2 (.slice Av j cv)
      have hfz : Fr (fun k => k = w.heap.size) wr (((wr.setCell ⟨w.heap.size, 0, none⟩ (.bool false)).setCell ⟨w.heap.size, 1, none⟩ (.string rl)).setCell ⟨w.heap.size, 2, none⟩ (.slice Av j cv)) := (((Fr.refl (fun k => k = w.heap.size) wr).setCell (p := ⟨w.heap.size, 0, none⟩) (.inl rfl) _).setCell (p := ⟨w.heap.size, 1, none⟩) (.inl rfl) _).setCell (p := ⟨w.heap.size, 2, none⟩) (.inl rfl) _
      have hJz := HJ.out.far hfz (by omega) (by omega) (fun e => own_bk HJ.out.row HZ.out (by decide) e rfl)
      have r0 := kz.cell (i := 0) (by simp)
      have r1 := kz.cell (i := 1) (by simp)
      have r2 := kz.cell (i := 2) (by simp)
      simp only [List.set_cons_zero, List.set_cons_succ, List.getElem_cons_zero, List.getElem_cons_succ] at r0 r1 r2
      generalize (((wr.setCell ⟨w.heap.size, 0, none⟩ (.bool false)).setCell ⟨w.heap.size, 1, none⟩ (.string rl)).setCell ⟨w.heap.size, 2, none⟩ (.slice Av j cv)) = wz at *
      refine bodyPost_ret (v := .agg #[.bool false, .string rl, .slice Av j cv]) ?_ rfl ⟨hJz.ext, .slice Av j cv, rfl, ?_⟩
      · simp [results, Tryd.results21, go_sem, r0, r1, r2]
      · have et : vs.take j = vs := by rw [HNT.out]; exact List.take_length
        have h := hJz.row
        rwa [et] at h
end Go.Proofs.YtiahaofjmcjdiaaDoor
