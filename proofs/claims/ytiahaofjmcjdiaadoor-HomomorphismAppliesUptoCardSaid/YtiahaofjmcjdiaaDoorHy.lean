/- Contracts: homomorphism.mentions, slices.Index and Contains at terms, homomorphism.terms. -/
import Derived.Test.YtiahaofjmcjdiaaDoorHx
namespace Go.Proofs.YtiahaofjmcjdiaaDoor
open Go.RowKit Go.Maps

theorem Tm.ne4 {x t : Tm} (h : x ≠ t) : ¬ t.var.toList = x.var.toList ∨ (t.var.toList = x.var.toList ∧ (¬ t.kind = x.kind ∨ (t.kind = x.kind ∧ (¬ t.int = x.int ∨ (t.int = x.int ∧ ¬ t.str.toList = x.str.toList))))) := by
  by_cases h1 : t.var.toList = x.var.toList
  · by_cases h2 : t.kind = x.kind
    · by_cases h3 : t.int = x.int
      · by_cases h4 : t.str.toList = x.str.toList
        · exact absurd (Tm.ext4 h1.symm h2.symm h3.symm h4.symm) h
        · exact .inr ⟨h1, .inr ⟨h2, .inr ⟨h3, h4⟩⟩⟩
      · exact .inr ⟨h1, .inr ⟨h2, .inl h3⟩⟩
    · exact .inr ⟨h1, .inl h2⟩
  · exact .inl h1
theorem anyB_list {α : Type} (l : List α) (f : α → Bool) : anyB l.length (fun i => (l[i]?.map f).getD false) = l.any f := by
  unfold anyB
  rw [Bool.eq_iff_iff, List.any_eq_true, List.any_eq_true]
  constructor
  · rintro ⟨i, hi, h⟩
    have hi' := List.mem_range.1 hi
    rw [List.getElem?_eq_getElem hi'] at h
    exact ⟨l[i], List.getElem_mem hi', by simpa using h⟩
  · rintro ⟨x, hx, h⟩
    obtain ⟨i, hi, rfl⟩ := List.getElem_of_mem hx
    exact ⟨i, List.mem_range.2 hi, by rw [List.getElem?_eq_getElem hi]; simpa using h⟩

set_option maxRecDepth 20000 in
theorem mentions1 {w : World} {t : Tm} {g : Nat} {v : ByteArray} (hg : Bk w g 9 [.string v]) :
    Calls Tryd.prog 43 #[t.val, .pointer (some ⟨g, 0, none⟩)] w (Ret (fun x _ => x = .bool (decide (t.var = v))) w) := by
  have d0 := hg.cell (i := 0) (by simp)
  have hlt := hg.lt
  simp only [List.getElem_cons_zero] at d0
  have hd : decide (t.var = v) = decide (t.var.toList = v.toList) := decide_eq_decide.2 ⟨fun h => by rw [h], toList_inj⟩
  have HD := Lib.hid hd
  clear hg hd
  by_cases h : t.var = v
  · have HH := Lib.hid h
    have h2 : t.var.toList = v.toList := by rw [h]
    clear h
    go_enter Tryd.func43, Tryd.ntmps43
    go_wp2_with fail
    go_ret
    exact Ret.mk ((Ext.refl w).alloc _) (by rw [decide_eq_true HH.out]; rfl)
  · have HH := Lib.hid h
    have h2 : (t.var.toList == v.toList) = false := beq_false_of_ne (fun e => h (toList_inj e))
    have h3 : ¬ t.var.toList = v.toList := fun e => h (toList_inj e)
    clear h
    go_enter Tryd.func43, Tryd.ntmps43
    go_wp2_with fail
    go_ret
    exact Ret.mk ((Ext.refl w).alloc _) (by rw [decide_eq_false HH.out]; first | rfl | simp [h3])

/-- A variable occurs among terms. -/
def mentB (ts : List Tm) (v : ByteArray) : Bool := ts.any (fun t => decide (t.var = v))

set_option maxRecDepth 20000 in
set_option maxHeartbeats 800000 in
theorem mentions_any {F : Nat → Prop} {w : World} {ng : Bool} {rl v : ByteArray} {sv : Value} {ts : List Tm} (h : Ts F w sv ts) (hl : ts.length ≤ 1048576) :
    Calls Tryd.prog 27 #[.agg #[.bool ng, .string rl, sv], .string v] w (Ret (fun x _ => x = .bool (mentB ts v)) w) := by
  have HH := Lib.hid h; have HL := Lib.hid hl
  obtain ⟨A, c, n, hv⟩ : ∃ A c n, sv = .slice A n c := by obtain ⟨A, c, hv, _⟩ := h; exact ⟨A, c, _, hv⟩
  subst hv
  clear h hl
  go_enter Tryd.func27, Tryd.ntmps27
  go_wp2_with fail
  have hx : Ext w ((w.alloc (.cells #[.bool ng, .string rl, .slice A n c] 61)).alloc (.cells #[.string v] 9)) := ((Ext.refl w).alloc _).alloc _
  have kb : Bk ((w.alloc (.cells #[.bool ng, .string rl, .slice A n c] 61)).alloc (.cells #[.string v] 9)) (w.heap.size + 1) 9 [.string v] := by
    have h := Bk.new (w.alloc (.cells #[.bool ng, .string rl, .slice A n c] 61)) 9 [.string v]
    rw [show (w.alloc (.cells #[.bool ng, .string rl, .slice A n c] 61)).heap.size = w.heap.size + 1 by simp] at h
    exact h
  generalize ((w.alloc (.cells #[.bool ng, .string rl, .slice A n c] 61)).alloc (.cells #[.string v] 9)) = w1 at *
  refine (contains_mention (p := fun i => (ts[i]?.map (fun t => decide (t.var = v))).getD false) (HH.out.ext hx) (by have := HL.out; omega) (fun i hi W hE => ?_)).mono ?_
  · rw [List.getElem?_eq_getElem hi]
    exact mentions1 (kb.ext hE)
  rintro e w2 ⟨x, rfl, he2, rfl⟩
  rw [show anyB ts.length (fun i => (ts[i]?.map (fun t => decide (t.var = v))).getD false) = mentB ts v from anyB_list ts _]
  have HE := Lib.hid (hx.trans he2)
  clear hx he2 kb
  go_wp2_with fail
  go_ret
  exact Ret.mk HE.out rfl

set_option maxRecDepth 20000 in
set_option maxHeartbeats 800000 in
theorem index_term {F : Nat → Prop} {w : World} {v : Value} {ts : List Tm} {t : Tm} (h : Ts F w v ts) (hl : ts.length ≤ 1048577) :
    Calls Tryd.prog 48 #[v, t.val] w (Ret (fun x _ => IdxOut ts.length (fun i => (ts[i]?.map (fun u => decide (u = t))).getD false) x) w) := by
  obtain ⟨A, c, rfl, hc, hcl⟩ := h
  obtain ⟨n, hn⟩ : ∃ n, n = ts.length := ⟨_, rfl⟩
  rw [← hn] at hc hl ⊢
  have HN := Lib.hid hn; have HCL := Lib.hid hcl
  clear hn hcl
  go_enter Tryd.func48, Tryd.ntmps48
  go_wp2_with fail
  have hx1 : Ext w (w.alloc (.cells #[.string t.var, .int .i64 t.kind, .int .i64 t.int, .string t.str] 47)) := (Ext.refl w).alloc _
  have k1 := Bk.new w 47 [.string t.var, .int .i64 t.kind, .int .i64 t.int, .string t.str]
  change Bk (w.alloc (.cells #[.string t.var, .int .i64 t.kind, .int .i64 t.int, .string t.str] 47)) _ _ _ at k1
  generalize (w.alloc (.cells #[.string t.var, .int .i64 t.kind, .int .i64 t.int, .string t.str] 47)) = w1 at *
  have e0 := k1.cell (i := 0) (by simp)
  have e1 := k1.cell (i := 1) (by simp)
  have e2 := k1.cell (i := 2) (by simp)
  have e3 := k1.cell (i := 3) (by simp)
  simp only [List.getElem_cons_zero, List.getElem_cons_succ] at e0 e1 e2 e3
  have HE0 := Lib.hid (And.intro e0 (And.intro e1 (And.intro e2 e3)))
  have HX1 := Lib.hid hx1
  clear hx1 k1 e0 e1 e2 e3
  go_loopw [8] (fun q wr => ∃ i : Nat, i ≤ n ∧ q = .int .i64 (i : Int) ∧ (∀ j (h : j < ts.length), j < i → ts[j] ≠ t) ∧ Ext w1 wr) (fun q _ => n - (intOf q).toNat)
  case atStart => exact ⟨0, Nat.zero_le _, rfl, fun _ _ h => absurd h (by omega), Ext.refl _⟩
  case round =>
    obtain ⟨i, hi, rfl, hne, hE1⟩ := hrel
    have HNE := Lib.hid hne
    clear hne
    obtain ⟨e0, e1, e2, e3⟩ := HE0.out
    replace e0 := hE1.cell e0
    replace e1 := hE1.cell e1
    replace e2 := hE1.cell e2
    replace e3 := hE1.cell e3
    have HXD := Lib.hid (HX1.out.trans hE1); have HED := Lib.hid hE1
    clear hE1
    by_cases hlt : i < n
    · have hit : i < ts.length := by have := HN.out; omega
      obtain ⟨ad, rfl, -, c0, c1, c2, c3⟩ := HCL.out.term (i := i) hit
      replace c0 := HXD.out.cell c0
      replace c1 := HXD.out.cell c1
      replace c2 := HXD.out.cell c2
      replace c3 := HXD.out.cell c3
      obtain ⟨x, hx⟩ : ∃ x, x = ts[i] := ⟨_, rfl⟩
      rw [← hx] at c0 c1 c2 c3
      have HX := Lib.hid hx
      clear hx
      have i1 : (0 : Int) ≤ (i : Int) := by omega
      have i2 : (i : Int) < (n : Int) := by omega
      by_cases hxu : x = t
      · subst hxu
        go_wp2_with fail
        go_quiet (fail)
        go_wp2_with fail
        go_ret
        refine Ret.mk (HXD.out.drewN _) ⟨_, rfl, .inr ⟨i, rfl, hlt, ?_⟩⟩
        show (Option.map (fun u => decide (u = x)) ts[i]?).getD false = true
        rw [List.getElem?_eq_getElem hit, ← HX.out]
        simp
      · have HXU := Lib.hid hxu
        rcases Tm.ne4 hxu with h1 | ⟨h1, h2 | ⟨h2, h3 | ⟨h3, h4⟩⟩⟩
        all_goals
          clear hxu
          go_wp2_with fail
          go_quiet (fail)
          go_wp2_with fail
          go_roundw
          case rel =>
            refine ⟨i + 1, by omega, by go_num, fun j hj hji => ?_, HED.out.drewN _⟩
            rcases Nat.lt_or_ge j i with h | h
            · exact HNE.out j hj h
            · obtain rfl : j = i := by omega
              rw [← HX.out]; exact HXU.out
          case measure => simp [intOf]; omega
    · obtain rfl : i = n := by omega
      have hdn : ¬ (i : Int) < (i : Int) := by omega
      go_wp2_with fail
      go_ret
      refine Ret.mk HXD.out ⟨_, rfl, .inl ⟨rfl, fun j hj => ?_⟩⟩
      have hjt : j < ts.length := by have := HN.out; omega
      show (Option.map (fun u => decide (u = t)) ts[j]?).getD false = false
      rw [List.getElem?_eq_getElem hjt]
      simp [HNE.out j hjt hj]
end Go.Proofs.YtiahaofjmcjdiaaDoor
