/- Contract: sample.Row. -/
import Derived.Test.YtjpkaljndfgkjaaGl
namespace Go.Proofs.Ytjpkaljndfgkjaa
open Go.RowKit

theorem len_o {F : Nat → Prop} {w : World} {v : Value} {rs : List (List R.Vl)} (h : R.ArV F w v rs) (hn : rs.length ≤ 1048576) :
    Calls Try.prog 10 #[v] w (Ret (fun x w' => Nz w' x rs.length) w) := R.alen_any h hn
theorem meth_len (v : Value) (w : World) : (method 252 32 v "Len").run Try.prog w = .ok (10, v) w := by kernel_rfl
theorem meth_at (v : Value) (w : World) : (method 252 32 v "At").run Try.prog w = .ok (11, v) w := by kernel_rfl
theorem ahead_at (v : Value) (w : World) : (nilAhead 252 32 v "At").run Try.prog w = .ok (some false) w := by kernel_rfl
/-- A copy of a row that At finds. -/
theorem at_yes {F : Nat → Prop} {w : World} {v u : Value} {k : Nat} {rs : List (List R.Vl)} (h : R.ArV F w v rs) (hn : rs.length ≤ 1048576) (hr : ∀ x ∈ rs, x.length ≤ 1048576) (hu : Nv w u k) (hk : k < rs.length) :
    Calls Try.prog 11 #[v, u] w (fun e w' => ∃ A c, e = .returned (.tuple #[.slice A rs[k].length c, .int .i64 1, .int .i64 0]) ∧ R.Sl R.rdVl (fun q => w.heap.size ≤ q) w' (.slice A rs[k].length c) rs[k] ∧ Ext w w') := by
  refine (R.at_any h hn hr hu (by omega)).mono ?_
  rintro e w' ⟨he, ⟨h1, -⟩ | ⟨x, A, c, hx, rfl, hs⟩⟩
  · omega
  · rw [List.getElem?_eq_getElem hk] at hx
    injection hx with hx
    subst hx
    exact ⟨A, c, rfl, hs, he⟩
theorem at_no {F : Nat → Prop} {w : World} {v u : Value} {k : Nat} {rs : List (List R.Vl)} (h : R.ArV F w v rs) (hn : rs.length ≤ 1048576) (hr : ∀ x ∈ rs, x.length ≤ 1048576) (hu : Nv w u k) (hk : rs.length ≤ k) (hk2 : k < 18446744073709551616) :
    Calls Try.prog 11 #[v, u] w (fun e w' => e = .returned (.tuple #[.slice none 0 0, .int .i64 0, .int .i64 3]) ∧ Ext w w') := by
  refine (R.at_any h hn hr hu hk2).mono ?_
  rintro e w' ⟨he, ⟨h1, rfl⟩ | ⟨x, A, c, hx, rfl, hs⟩⟩
  · exact ⟨rfl, he⟩
  · rw [List.getElem?_eq_none hk] at hx
    cases hx
theorem unif_cases (bs : List Nat) (n pos : Nat) : (n = 0 ∧ unifOut bs n pos = (0, [], 0, 18)) ∨ (0 < n ∧ unifOut bs n pos = (0, [], 0, 36)) ∨ ∃ x p, x < n ∧ p ≤ 8 * bs.length ∧ unifOut bs n pos = (x, bs, p, 0) := by
  unfold unifOut
  by_cases h : n = 0
  · rw [if_pos h]
    exact .inl ⟨h, rfl⟩
  · rw [if_neg h]
    rcases hu : uni (bitAt bs) (8 * bs.length) n (blen (n - 1)) (8 * bs.length + 1) pos with _ | ⟨x, p⟩
    · exact .inr (.inl ⟨by omega, rfl⟩)
    · have h1 := uni_some hu
      exact .inr (.inr ⟨x, p, h1.1, h1.2.2.1, rfl⟩)
/-- The error of Row, by that of Uniform. -/
def rowErr (e : Nat) : Int := if e = 18 then 10 else e
/-- What Row leaves: the row at the position drawn, the rest of the tape, the error. -/
def SrPost (rs : List (List R.Vl)) (o : Nat × List Nat × Nat × Nat) (w : World) (e : Ending) (w' : World) : Prop :=
  Ext w w' ∧ ∃ A c A' c' y, e = .returned (.tuple #[.slice A y.length c, .agg #[.slice A' o.2.1.length c', .int .i64 (o.2.2.1 : Int)], .int .i64 (rowErr o.2.2.2)]) ∧ By w' (.slice A' o.2.1.length c') o.2.1 ∧ R.Sl R.rdVl (fun q => w.heap.size ≤ q) w' (.slice A y.length c) y ∧ ((o.2.2.2 = 0 ∧ rs[o.1]? = some y) ∨ (o.2.2.2 ≠ 0 ∧ y = []))
set_option maxRecDepth 20000 in
set_option maxHeartbeats 3200000 in
theorem srow_any {F : Nat → Prop} {w : World} {v t : Value} {rs : List (List R.Vl)} {pos : Nat} {bs : List Nat} (hA : R.ArV F w v rs) (hn : rs.length ≤ 1000) (hr : ∀ x ∈ rs, x.length ≤ 1048576) (ht : Tp w t bs (pos : Int)) (hp : pos ≤ 8 * bs.length) :
    Calls Try.prog 8 #[.iface 32 v, t] w (SrPost rs (unifOut bs rs.length pos) w) := by
  obtain ⟨s, rfl, hs⟩ := ht
  obtain ⟨A, c, rfl, -⟩ := hs.parts
  obtain ⟨AR, cR, rfl, hsl⟩ := hA
  have k0 := Bk.new w 25 [.slice A bs.length c, .int .i64 (pos : Int)]
  have k1 := Bk.new (w.alloc (.cells #[.slice A bs.length c, .int .i64 (pos : Int)] 25)) 25 [.slice none 0 0, .int .i64 0]
  have hx : Ext w ((w.alloc (.cells #[.slice A bs.length c, .int .i64 (pos : Int)] 25)).alloc (.cells #[.slice none 0 0, .int .i64 0] 25)) := ((Ext.refl w).alloc _).alloc _
  replace k0 := k0.alloc (.cells #[.slice none 0 0, .int .i64 0] 25)
  change Bk ((w.alloc (.cells #[.slice A bs.length c, .int .i64 (pos : Int)] 25)).alloc (.cells #[.slice none 0 0, .int .i64 0] 25)) _ _ _ at k1
  change Bk ((w.alloc (.cells #[.slice A bs.length c, .int .i64 (pos : Int)] 25)).alloc (.cells #[.slice none 0 0, .int .i64 0] 25)) _ _ _ at k0
  rw [World.size_alloc] at k1
  obtain ⟨n, hnq⟩ : ∃ n, n = rs.length := ⟨_, rfl⟩
  rw [← hnq] at hn hsl ⊢
  obtain ⟨uo, huo⟩ : ∃ uo, uo = unifOut bs n pos := ⟨_, rfl⟩
  have hcs := unif_cases bs n pos
  have HSL := Lib.hid hsl; have HNQ := Lib.hid hnq; have HR := Lib.hid hr; have HS := Lib.hid hs
  rw [← huo] at hcs ⊢
  have HU := Lib.hid (fun (V : World) (u t : Value) (h1 : Nz V u n) (h2 : Tp V t bs (pos : Nat)) => (Uniform_out h1.nv (dig_small (by omega)) h2 hp))
  rw [← huo] at HU
  have HAR : Hid (∀ V : World, Ext w V → R.ArV F V (.agg #[.slice AR n cR, .slice none 0 0]) rs) := Lib.hid (fun V hV => ⟨AR, cR, by rw [hnq], by rw [← hnq]; exact hsl.ext hV⟩)
  have HLN := Lib.hid (fun (V : World) (hV : Ext w V) => len_o (HAR.out V hV) (by omega))
  rw [← hnq] at HLN
  clear hsl hnq hr huo hs
  have HCS := Lib.hid hcs
  clear hcs
  have hm1 := meth_len; have hm2 := meth_at
  go_enter Try.func8, Try.ntmps8
  go_upto_region 3 with fail
  generalize ((w.alloc (.cells #[.slice A bs.length c, .int .i64 (pos : Int)] 25)).alloc (.cells #[.slice none 0 0, .int .i64 0] 25)) = w1 at *
  have hlt1 := k1.lt
  have d0 := k0.cell (i := 0) (by simp)
  have d1 := k0.cell (i := 1) (by simp)
  simp only [List.getElem_cons_zero, List.getElem_cons_succ] at d0 d1
  have HX := Lib.hid hx; have HK1 := Lib.hid k1
  have HSW : Hid (∀ V : World, Ext w1 V → By V (.slice A bs.length c) bs) := Lib.hid (fun V hV => HS.out.ext (hx.trans hV))
  clear k0 k1 hx
  go_cut [7, 8, 9] (fun sa sb sc wx => ∃ (g : Nat) (A' : Option Addr) (c' : Nat), w1.heap.size ≤ g ∧ sb = .pointer (some ⟨g, 0, none⟩) ∧ sc = .int .i64 (uo.2.2.2 : Int) ∧ Bk wx g 25 [.slice A' uo.2.1.length c', .int .i64 (uo.2.2.1 : Int)] ∧ By wx (.slice A' uo.2.1.length c') uo.2.1 ∧ Nz wx sa uo.1 ∧ Ext w1 wx)
  case first =>
    go_region_held3 (fun V => Ext w1 V ∧ V.cell? ⟨w.heap.size, 0, none⟩ = some (.slice A bs.length c) ∧ V.cell? ⟨w.heap.size, 1, none⟩ = some (.int .i64 (pos : Int)))
      ((refine (fun he => ⟨he, Ext.cell he d0, Ext.cell he d1⟩) ?_; repeat (first | exact Ext.refl _ | exact (Ext.refl _).drew | refine Ext.alloc ?_ _ | refine Ext.drew ?_ | refine Ext.setCell ?_ (by first | exact Nat.le_refl _ | (have := Ext.size hea; simp at this ⊢; omega)) _ | refine Ext.trans ?_ (by assumption))))
      (first
        | (go_at_call 10; refine (HLN.out _ (HX.out.trans (And.left (by assumption)))).mono ?_; rintro e wa ⟨o, rfl, hea, hoa⟩)
        | (go_at_call 9; refine (HU.out _ _ _ ?_ ?_).mono ?_; (first | exact hoa | exact hoa.ext ((Ext.refl _).alloc _)); exact ⟨_, rfl, HSW.out _ (And.left (by assumption))⟩; rintro e wb ⟨heb, v, A', c', rfl, hv, hs'⟩
           first
             | (have nb : Bk wb w1.heap.size 25 [.slice none 0 0, .int .i64 0] := (Bk.new w1.drew 25 [.slice none 0 0, .int .i64 0]).ext (Ext.trans hea heb); have g0 := nb.cell (i := 0) (by simp); have g1 := nb.cell (i := 1) (by simp); have f0 := nb.free 0; have f1 := nb.free 1)
             | (have nb : Bk wb wa.heap.size 25 [.slice none 0 0, .int .i64 0] := (Bk.new wa 25 [.slice none 0 0, .int .i64 0]).ext heb; have g0 := nb.cell (i := 0) (by simp); have g1 := nb.cell (i := 1) (by simp); have f0 := nb.free 0; have f1 := nb.free 1)
             | skip))
    all_goals
      have hfin := And.left (b := _ ∧ _) (by assumption)
      go_wp2_with fail
      go_meet
      first
        | exact ⟨wb.heap.size, A', c', Ext.size (Ext.trans ((Ext.refl _).drew.trans hea) heb), rfl, rfl, Bk.new wb _ [_, _], hs'.ext ((Ext.refl _).alloc _), hv.ext ((Ext.refl _).alloc _), hfin⟩
        | exact ⟨_, A', c', Nat.le_refl _, rfl, rfl, (nb.set 0 _).set 1 _, hs'.mod nb (by simp [U8]) (stored2 _ _ _ _), Dg.mod hv nb (by simp [U32]) (stored2 _ _ _ _), hfin⟩
        | exact ⟨_, A', c', Ext.size ((Ext.refl _).drew.trans hea), rfl, rfl, (nb.set 0 _).set 1 _, hs'.mod nb (by simp [U8]) (stored2 _ _ _ _), Dg.mod hv nb (by simp [U32]) (stored2 _ _ _ _), hfin⟩
  case rest =>
    obtain ⟨g, A', c', hg, rfl, rfl, hb, hby, hz, he⟩ := hcut
    have hk1 := HK1.out.ext he
    have HX2 := Lib.hid (HX.out.trans he)
    have HXE := Lib.hid he
    have e0 := hk1.cell (i := 0) (by simp); have e1 := hk1.cell (i := 1) (by simp)
    have f0 := hk1.free 0; have f1 := hk1.free 1
    simp only [List.getElem_cons_zero, List.getElem_cons_succ] at e0 e1
    have HK2 := Lib.hid hk1
    clear d0 d1 hk1 he
    rcases HCS.out with ⟨hn0, huo⟩ | ⟨hn0, huo⟩ | ⟨x, p, hxn, hpp, huo⟩
    · subst huo
      have HK3 := Lib.hid ((HK2.out.set 0 (.slice none 0 0)).set 1 (.int .i64 0))
      have HF : Hid (Ext w ((wc.setCell ⟨w.heap.size + 1, 0, none⟩ (.slice none 0 0)).setCell ⟨w.heap.size + 1, 1, none⟩ (.int .i64 0))) := Lib.hid ((HX2.out.setCell (p := ⟨w.heap.size + 1, 0, none⟩) (by simp) _).setCell (p := ⟨w.heap.size + 1, 1, none⟩) (by simp) _)
      clear hb hby hz hn0
      simp only [List.length_nil] at *
      go_wp2_with fail
      have r0 := HK3.out.cell (i := 0) (by simp); have r1 := HK3.out.cell (i := 1) (by simp)
      simp only [List.set_cons_zero, List.set_cons_succ, List.getElem_cons_zero, List.getElem_cons_succ] at r0 r1
      refine bodyPost_ret (v := .tuple #[.slice none 0 0, .agg #[.slice none 0 0, .int .i64 0], .int .i64 10]) ?_ rfl ⟨HF.out, none, 0, none, 0, [], rfl, By.nil _, R.Sl.nil _ _ _, .inr ⟨by decide, rfl⟩⟩
      simp [results, Try.results8, go_sem, r0, r1]
    · subst huo
      have HK3 := Lib.hid ((HK2.out.set 0 (.slice none 0 0)).set 1 (.int .i64 0))
      have HF : Hid (Ext w ((wc.setCell ⟨w.heap.size + 1, 0, none⟩ (.slice none 0 0)).setCell ⟨w.heap.size + 1, 1, none⟩ (.int .i64 0))) := Lib.hid ((HX2.out.setCell (p := ⟨w.heap.size + 1, 0, none⟩) (by simp) _).setCell (p := ⟨w.heap.size + 1, 1, none⟩) (by simp) _)
      clear hb hby hz hn0
      simp only [List.length_nil] at *
      go_wp2_with fail
      have r0 := HK3.out.cell (i := 0) (by simp); have r1 := HK3.out.cell (i := 1) (by simp)
      simp only [List.set_cons_zero, List.set_cons_succ, List.getElem_cons_zero, List.getElem_cons_succ] at r0 r1
      refine bodyPost_ret (v := .tuple #[.slice none 0 0, .agg #[.slice none 0 0, .int .i64 0], .int .i64 36]) ?_ rfl ⟨HF.out, none, 0, none, 0, [], rfl, By.nil _, R.Sl.nil _ _ _, .inr ⟨by decide, rfl⟩⟩
      simp [results, Try.results8, go_sem, r0, r1]
    · subst huo
      simp only at hb hby hz
      have HBB := Lib.hid hb; have HBY := Lib.hid hby; have HZ := Lib.hid hz
      have hxr : x < rs.length := by have := HNQ.out; omega
      have HAT := Lib.hid (at_yes (HAR.out _ HX2.out) (by have := HNQ.out; omega) HR.out HZ.out.nv hxr)
      have HRX : Hid (rs[x]? = some (rs[x]'hxr)) := Lib.hid (List.getElem?_eq_getElem hxr)
      have HRL := Lib.hid (HR.out _ (List.getElem_mem hxr))
      obtain ⟨y, hy⟩ : ∃ y, y = rs[x]'hxr := ⟨_, rfl⟩
      rw [← hy] at HAT HRX HRL
      obtain ⟨ny, hny⟩ : ∃ q, q = y.length := ⟨_, rfl⟩
      rw [← hny] at HAT HRL
      have HNY := Lib.hid hny
      clear hb hby hz hy hny
      go_wp2_with fail
      refine HAT.out.mono ?_
      rintro e w3 ⟨A3, c3, rfl, hs3, he3⟩
      have HS3 := Lib.hid hs3; have HE3 := Lib.hid he3
      have hb3 := HBB.out.ext he3; have hk3 := HK2.out.ext he3
      have HB3 := Lib.hid hb3; have HK3 := Lib.hid hk3
      have b0 := hb3.cell (i := 0) (by simp); have b1 := hb3.cell (i := 1) (by simp)
      simp only [List.getElem_cons_zero, List.getElem_cons_succ] at b0 b1
      have HCL := Lib.hid (fun (V : World) (hV : Ext w3 V) => R.clone_row (w := V) (R.Sl.ext HS3.out hV) HRL.out)
      have hg3 : g ≠ w.heap.size + 1 := by omega
      have HG3 := Lib.hid hg3
      clear hb3 hk3 hs3 he3 e0 e1 f0 f1 hg3
      have hne : w.heap.size + 1 ≠ g := by omega
      go_upto_region 11 with fail
      go_region_held3 (fun V => V.cell? ⟨g, 0, none⟩ = some (.slice A' bs.length c') ∧ V.cell? ⟨g, 1, none⟩ = some (.int .i64 (p : Int)))
        (first
          | exact ⟨b0, b1⟩
          | exact ⟨Ext.cell (Ext.refl _).drew b0, Ext.cell (Ext.refl _).drew b1⟩
          | exact ⟨Ext.cell heb b0, Ext.cell heb b1⟩
          | exact ⟨Ext.cell (Ext.drew heb) b0, Ext.cell (Ext.drew heb) b1⟩
          | exact ⟨cell_far (cell_far (Ext.cell heb b0) (by exact hne)) (by exact hne), cell_far (cell_far (Ext.cell heb b1) (by exact hne)) (by exact hne)⟩)
        (first
          | (go_at_call 32; refine (HCL.out _ (by first | exact Ext.refl _ | exact (Ext.refl _).drew)).mono ?_; rintro e wb ⟨y5, rfl, he5, A5, c5, rfl, hs5⟩; have heb : Ext w3 wb := ((Ext.refl w3).drew).trans he5; have nb := HK3.out.ext heb; have e0 := nb.cell (i := 0) (by simp); have e1 := nb.cell (i := 1) (by simp); have f0 := nb.free 0; have f1 := nb.free 1; simp only [List.getElem_cons_zero, List.getElem_cons_succ] at e0 e1))
      have HK5 := Lib.hid ((nb.set 0 (.slice A' bs.length c')).set 1 (.int .i64 (p : Int)))
      have hst : R.Fr (fun k => k = w.heap.size + 1) wb ((wb.setCell ⟨w.heap.size + 1, 0, none⟩ (.slice A' bs.length c')).setCell ⟨w.heap.size + 1, 1, none⟩ (.int .i64 (p : Int))) := ((R.Fr.refl (fun k => k = w.heap.size + 1) wb).setCell (p := ⟨w.heap.size + 1, 0, none⟩) (.inl rfl) _).setCell (p := ⟨w.heap.size + 1, 1, none⟩) (.inl rfl) _
      have hs5' := hs5.mono (G := fun q => w3.heap.size ≤ q) (by decide) (fun k _ hk => by have := Ext.size ((Ext.refl w3).drew); omega)
      have HS5 := Lib.hid (hs5'.fr hst (fun k hk e => by have := HE3.out.size; have := HXE.out.size; omega))
      have HF : Hid (Ext w ((wb.setCell ⟨w.heap.size + 1, 0, none⟩ (.slice A' bs.length c')).setCell ⟨w.heap.size + 1, 1, none⟩ (.int .i64 (p : Int)))) := Lib.hid (((((HX2.out.trans HE3.out).trans heb)).setCell (p := ⟨w.heap.size + 1, 0, none⟩) (by simp) _).setCell (p := ⟨w.heap.size + 1, 1, none⟩) (by simp) _)
      have HB5 : Hid (By ((wb.setCell ⟨w.heap.size + 1, 0, none⟩ (.slice A' bs.length c')).setCell ⟨w.heap.size + 1, 1, none⟩ (.int .i64 (p : Int))) (.slice A' bs.length c') bs) := Lib.hid ((HBY.out.ext (HE3.out.trans heb)).mod nb (by simp [U8]) (stored2 _ _ _ _))
      clear hst hs5 hs5' nb e0 e1 f0 f1 he5 heb
      go_wp2_with fail
      have r0 := HK5.out.cell (i := 0) (by simp); have r1 := HK5.out.cell (i := 1) (by simp)
      simp only [List.set_cons_zero, List.set_cons_succ, List.getElem_cons_zero, List.getElem_cons_succ] at r0 r1
      refine bodyPost_ret (v := .tuple #[.slice A5 ny c5, .agg #[.slice A' bs.length c', .int .i64 (p : Int)], .int .i64 0]) ?_ rfl ⟨HF.out, A5, c5, A', c', y, by rw [HNY.out]; rfl, HB5.out, by rw [← HNY.out]; exact HS5.out.mono (by decide) (fun k _ hk => by have := HE3.out.size; have := HX2.out.size; omega), .inl ⟨rfl, HRX.out⟩⟩
      simp [results, Try.results8, go_sem, r0, r1]
theorem srow_nil {w : World} {t : Value} {pos : Int} {bs : List Nat} (ht : Tp w t bs pos) :
    Calls Try.prog 8 #[.nilIface, t] w (fun e w' => e = .returned (.tuple #[.slice none 0 0, .agg #[.slice none 0 0, .int .i64 0], .int .i64 1]) ∧ Ext w w') := by
  obtain ⟨s, rfl, hs⟩ := ht
  obtain ⟨A, c, rfl, -⟩ := hs.parts
  clear hs
  go_enter Try.func8, Try.ntmps8
  go_wp2_with fail
  refine bodyPost_ret (v := .tuple #[.slice none 0 0, .agg #[.slice none 0 0, .int .i64 0], .int .i64 1]) ?_ rfl ⟨rfl, ?_⟩
  · simp [results, Try.results8, go_sem]
  · exact ((Ext.refl w).alloc _).alloc _
end Go.Proofs.Ytjpkaljndfgkjaa
