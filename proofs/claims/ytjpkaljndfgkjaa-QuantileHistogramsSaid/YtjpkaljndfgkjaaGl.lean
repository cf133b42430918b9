/- Contracts: array.OfRows with no directions; Len and At of such an array. -/
import Derived.Test.YtjpkaljndfgkjaaGk
namespace Go.Proofs.Ytjpkaljndfgkjaa.R
open Go.RowKit Go.Maps

/-- An array of rows. -/
def ArV (F : Nat → Prop) (w : World) (v : Value) (rs : List (List Vl)) : Prop := ∃ A c, v = .agg #[.slice A rs.length c, .slice none 0 0] ∧ Sl rdRow F w (.slice A rs.length c) rs
theorem ArV.ext {F : Nat → Prop} {w w' : World} {v : Value} {rs : List (List Vl)} (h : ArV F w v rs) (he : Ext w w') : ArV F w' v rs := let ⟨A, c, e, h1⟩ := h; ⟨A, c, e, h1.ext he⟩
/-- What OfRows leaves. -/
def OfPost (n : Nat) (rows : List (List Vl)) (w : World) (e : Ending) (w' : World) : Prop := Ext w w' ∧ ∃ v rs, e = .returned v ∧ ArV (fun q => w.heap.size ≤ q) w' v rs ∧ rs.length ≤ n ∧ (0 < n → 0 < rs.length) ∧ ∀ x ∈ rs, x ∈ rows
set_option maxRecDepth 20000 in
theorem cloneb_nil (w : World) : Calls Try.prog 31 #[.slice none 0 0] w (fun e w' => e = .returned (.slice none 0 0) ∧ w = w') := by
  have q22 : ∀ (w : World) (n c n' c' : Nat), (binOp .eql 30 (.slice none n c) (.slice none n' c')).run Try.prog w = .ok (.bool true) w := fun w n c n' c' => Lib.run_eql_slice_nil w _ _ none n c n' c' Try.underlying30
  go_enter Try.func31, Try.ntmps31
  go_wp2_with fail
  go_ret
  exact ⟨rfl, rfl⟩
set_option maxRecDepth 20000 in
set_option maxHeartbeats 1600000 in
theorem ofrows_any {F : Nat → Prop} {w : World} {A : Option Addr} {n c : Nat} {rows : List (List Vl)} (hA : Sl rdRow F w (.slice A n c) rows) (hr : ∀ x ∈ rows, x.length ≤ 1048576) (hn : n ≤ 1048576) :
    Calls Try.prog 7 #[.slice A n c, .slice none 0 0] w (OfPost n rows w) := by
  have kb := Bk.new w 32 [.slice none 0 0, .slice none 0 0]
  have hx : Ext w (w.alloc (.cells #[.slice none 0 0, .slice none 0 0] 32)) := (Ext.refl w).alloc _
  change Bk (w.alloc (.cells #[.slice none 0 0, .slice none 0 0] 32)) _ _ _ at kb
  have HS := Lib.hid (sort_any (hA.ext hx) hr hn)
  have HR := Lib.hid hr
  go_enter Try.func7, Try.ntmps7
  go_wp2_with fail
  generalize (w.alloc (.cells #[.slice none 0 0, .slice none 0 0] 32)) = w1 at *
  have HKB := Lib.hid kb; have HX := Lib.hid hx
  have hw1 : w.heap.size < w1.heap.size := kb.lt
  clear kb hx hA hr
  refine HS.out.mono ?_
  rintro e w2 ⟨he2, g, us, rows', hg, rfl, hp, how⟩
  have hsl := how.sl (G := fun _ => True) (fun _ _ => trivial) (fun _ _ => trivial)
  have hrl : ∀ x ∈ rows', x.length ≤ 1048576 := fun x hx => HR.out x (hp.mem_iff.1 hx)
  have HD := Lib.hid (dedup_any hsl hrl hn)
  have HP := Lib.hid hp; have HE2 := Lib.hid he2
  clear hsl how hrl hp he2
  go_wp2_with fail
  refine HD.out.mono ?_
  rintro e w3 ⟨he3, A3, k3, c3, rs, rfl, hs3, hk3, hk0, hm3⟩
  have hk := hs3.cap.1
  subst hk
  have hx3 := HE2.out.trans he3
  have kb3 := HKB.out.ext hx3
  have hbg : w.heap.size = w.heap.size := rfl
  have HQ : Hid (ArV (fun q => w.heap.size ≤ q) w3 (.agg #[.slice A3 rs.length c3, .slice none 0 0]) rs) := Lib.hid ⟨A3, c3, rfl, hs3.mono (by decide) (fun q _ hq => by have := HE2.out.size; omega)⟩
  have HN : Hid (w.heap.size < w2.heap.size) := Lib.hid (by have := HE2.out.size; omega)
  have HSL := Lib.hid hs3; have HX3 := Lib.hid (HX.out.trans hx3); have HM : Hid (∀ x ∈ rs, x ∈ rows) := Lib.hid (fun x hx => HP.out.mem_iff.1 (hm3 x hx))
  have HK0 := Lib.hid hk0
  have b0 := kb3.cell (i := 0) (by simp); have b1 := kb3.cell (i := 1) (by simp)
  have f0 := kb3.free 0; have f1 := kb3.free 1
  simp only [List.getElem_cons_zero, List.getElem_cons_succ] at b0 b1
  clear hbg hx3 he3 hs3 hm3 hk0
  go_wp2_with fail
  refine (cloneb_nil _).mono ?_
  rintro e w4 ⟨rfl, rfl⟩
  have hst : Fr (fun k => k = w.heap.size) w3 ((w3.setCell ⟨w.heap.size, 0, none⟩ (.slice A3 rs.length c3)).setCell ⟨w.heap.size, 1, none⟩ (.slice none 0 0)) := ((Fr.refl (fun k => k = w.heap.size) w3).setCell (p := ⟨w.heap.size, 0, none⟩) (.inl rfl) _).setCell (p := ⟨w.heap.size, 1, none⟩) (.inl rfl) _
  have hk4 := (kb3.set 0 (.slice A3 rs.length c3)).set 1 (.slice none 0 0)
  have HZ : Hid (OfPost n rows w (.returned (.agg #[.slice A3 rs.length c3, .slice none 0 0])) ((w3.setCell ⟨w.heap.size, 0, none⟩ (.slice A3 rs.length c3)).setCell ⟨w.heap.size, 1, none⟩ (.slice none 0 0))) := Lib.hid ⟨Fr.new HX3.out hst (fun b hb => by omega), _, rs, rfl, ⟨A3, c3, rfl, (HSL.out.fr hst (fun k hk e => by have := HN.out; omega)).mono (by decide) (fun k _ hk => by have := HN.out; omega)⟩, hk3, HK0.out, HM.out⟩
  have r0 := hk4.cell (i := 0) (by simp); have r1 := hk4.cell (i := 1) (by simp)
  simp only [List.set_cons_zero, List.set_cons_succ, List.getElem_cons_zero, List.getElem_cons_succ] at r0 r1
  have HR0 := Lib.hid r0; have HR1 := Lib.hid r1
  clear hst hk4 r0 r1 kb3
  go_wp2_with fail
  refine bodyPost_ret (v := .agg #[.slice A3 rs.length c3, .slice none 0 0]) ?_ rfl HZ.out
  have r0 := HR0.out; have r1 := HR1.out
  simp [results, Try.results7, go_sem, r0, r1]
theorem alen_any {F : Nat → Prop} {w : World} {v : Value} {rs : List (List Vl)} (h : ArV F w v rs) (hn : rs.length ≤ 1048576) :
    Calls Try.prog 10 #[v] w (Go.Proofs.Ytjpkaljndfgkjaa.Ret (fun x w' => Nz w' x rs.length) w) := by
  obtain ⟨A, c, rfl, hs⟩ := h
  obtain ⟨n, hnq⟩ : ∃ n, n = rs.length := ⟨_, rfl⟩
  rw [← hnq] at hn ⊢
  clear hs hnq
  have hx : Ext w (w.alloc (.cells #[.slice A n c, .slice none 0 0] 32)) := (Ext.refl w).alloc _
  have HO := Lib.hid (of_nz n (by omega) (w.alloc (.cells #[.slice A n c, .slice none 0 0] 32)))
  have HX := Lib.hid hx
  clear hx
  go_enter Try.func10, Try.ntmps10
  go_wp2_with fail
  refine HO.out.mono ?_
  rintro e w2 ⟨x, rfl, he, hv⟩
  have HV := Lib.hid hv; have HX2 := Lib.hid (HX.out.trans he)
  clear hv he
  go_wp2_with fail
  go_ret
  exact ⟨x, rfl, HX2.out, HV.out⟩
/-- What At answers: a copy of the row, or ErrRange. -/
def AtPost (rs : List (List Vl)) (k : Nat) (w : World) (e : Ending) (w' : World) : Prop :=
  Ext w w' ∧ ((rs.length ≤ k ∧ e = .returned (.tuple #[.slice none 0 0, .int .i64 0, .int .i64 3])) ∨ ∃ x A c, rs[k]? = some x ∧ e = .returned (.tuple #[.slice A x.length c, .int .i64 1, .int .i64 0]) ∧ Sl rdVl (fun q => w.heap.size ≤ q) w' (.slice A x.length c) x)
set_option maxRecDepth 20000 in
set_option maxHeartbeats 1600000 in
theorem at_any {F : Nat → Prop} {w : World} {v u : Value} {k : Nat} {rs : List (List Vl)} (h : ArV F w v rs) (hn : rs.length ≤ 1048576) (hr : ∀ x ∈ rs, x.length ≤ 1048576) (hu : Nv w u k) (hk : k < 18446744073709551616) :
    Calls Try.prog 11 #[v, u] w (AtPost rs k w) := by
  obtain ⟨A, c, rfl, hs⟩ := h
  have hx : Ext w (w.alloc (.cells #[.slice A rs.length c, .slice none 0 0] 32)) := (Ext.refl w).alloc _
  have kb := Bk.new w 32 [.slice A rs.length c, .slice none 0 0]
  have HUI := Lib.hid (uint64_nv (hu.ext hx) hk)
  obtain ⟨n, hnq⟩ : ∃ n, n = rs.length := ⟨_, rfl⟩
  rw [← hnq] at hn hs hx kb HUI ⊢
  change Bk (w.alloc (.cells #[.slice A n c, .slice none 0 0] 32)) _ _ _ at kb
  generalize hW : (w.alloc (.cells #[.slice A n c, .slice none 0 0] 32)) = w1 at hx kb HUI
  have HX := Lib.hid hx; have HS := Lib.hid hs; have HNQ := Lib.hid hnq; have HR := Lib.hid hr
  have b0 := kb.cell (i := 0) (by simp)
  simp only [List.getElem_cons_zero] at b0
  have HW := Lib.hid hW
  clear hx kb hs hnq hr hu hW
  by_cases hlt : k < n
  · have hkr : k < rs.length := by have := HNQ.out; omega
    obtain ⟨ad, B, d, rfl, -, c0, hrow⟩ := HS.out.row hkr
    have hlen := HR.out _ (List.getElem_mem hkr)
    have HG : Hid (rs[k]? = some (rs[k]'hkr)) := Lib.hid (List.getElem?_eq_getElem hkr)
    obtain ⟨x, hxq⟩ : ∃ x, x = rs[k]'hkr := ⟨_, rfl⟩
    rw [← hxq] at c0 hrow hlen HG
    have HCL := Lib.hid (fun (V : World) (hV : Ext w V) => clone_row (w := V) (hrow.ext hV) hlen)
    obtain ⟨nx, hnx⟩ : ∃ q, q = x.length := ⟨_, rfl⟩
    rw [← hnx] at c0 HCL
    have HNX := Lib.hid hnx
    replace c0 := HX.out.cell c0
    have hd : decide ((n : Int) ≤ (k : Int)) = false := by simp; omega
    have hd2 : ¬ (n : Int) ≤ (k : Int) := by omega
    have i1 : (0 : Int) ≤ (k : Int) := by omega
    have i2 : (k : Int) < (n : Int) := by omega
    clear hrow hlen hxq hnx
    go_enter Try.func11, Try.ntmps11
    go_wp2_with fail
    rw [HW.out]
    refine HUI.out.mono ?_
    rintro e w2 ⟨rfl, rfl⟩
    go_wp2_with fail
    refine (HCL.out _ HX.out).mono ?_
    rintro e w5 ⟨y, rfl, he5, A5, c5, rfl, hy⟩
    have HZ : Hid (AtPost rs k w (.returned (.tuple #[.slice A5 nx c5, .int .i64 1, .int .i64 0])) w5) := Lib.hid ⟨HX.out.trans he5, .inr ⟨x, A5, c5, HG.out, by rw [HNX.out], by rw [← HNX.out]; exact hy.mono (by decide) (fun q _ hq => by have := HX.out.size; omega)⟩⟩
    clear he5 hy
    go_wp2_with fail
    go_ret3
    exact HZ.out
  · have hd : decide ((n : Int) ≤ (k : Int)) = true := by simp; omega
    have hd2 : (n : Int) ≤ (k : Int) := by omega
    go_enter Try.func11, Try.ntmps11
    go_wp2_with fail
    rw [HW.out]
    refine HUI.out.mono ?_
    rintro e w2 ⟨rfl, rfl⟩
    go_wp2_with fail
    go_ret3
    exact ⟨HX.out, .inl ⟨by have := HNQ.out; omega, rfl⟩⟩
end Go.Proofs.Ytjpkaljndfgkjaa.R
