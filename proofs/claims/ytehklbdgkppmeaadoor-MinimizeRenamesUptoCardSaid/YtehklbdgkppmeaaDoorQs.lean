/- Contracts: ordinalref25.same, image. -/
import Derived.Test.YtehklbdgkppmeaaDoorQr
import Derived.Test.YtehklbdgkppmeaaDoorQc
namespace Go.Proofs.YtehklbdgkppmeaaDoor
open Go.RowKit Go.Maps

theorem two_boxes (w : World) (t1 t2 : TypeId) (xs ys : List Value) :
    Bk ((w.alloc (.cells xs.toArray t1)).alloc (.cells ys.toArray t2)) w.heap.size t1 xs ∧ Bk ((w.alloc (.cells xs.toArray t1)).alloc (.cells ys.toArray t2)) (w.heap.size + 1) t2 ys ∧ Ext w ((w.alloc (.cells xs.toArray t1)).alloc (.cells ys.toArray t2)) := by
  refine ⟨(Bk.new w t1 xs).alloc _, ?_, ((Ext.refl w).alloc _).alloc _⟩
  have h := Bk.new (w.alloc (.cells xs.toArray t1)) t2 ys
  rw [show (w.alloc (.cells xs.toArray t1)).heap.size = w.heap.size + 1 by simp] at h
  exact h

theorem store4 {W : World} {g : Nat} {t : TypeId} {a b c d a0 b0 c0 d0 : Value} (h : Bk W g t [a0, b0, c0, d0]) :
    Bk ((((W.setCell ⟨g, 0, none⟩ a).setCell ⟨g, 1, none⟩ b).setCell ⟨g, 2, none⟩ c).setCell ⟨g, 3, none⟩ d) g t [a, b, c, d] ∧ Fr (fun k => k = g) W ((((W.setCell ⟨g, 0, none⟩ a).setCell ⟨g, 1, none⟩ b).setCell ⟨g, 2, none⟩ c).setCell ⟨g, 3, none⟩ d) :=
  ⟨(((h.set 0 a).set 1 b).set 2 c).set 3 d, ((((Fr.refl (fun k => k = g) W).setCell (p := ⟨g, 0, none⟩) (.inl rfl) _).setCell (p := ⟨g, 1, none⟩) (.inl rfl) _).setCell (p := ⟨g, 2, none⟩) (.inl rfl) _).setCell (p := ⟨g, 3, none⟩) (.inl rfl) _⟩

set_option maxRecDepth 20000 in
set_option maxHeartbeats 1600000 in
theorem same25 {F G : Nat → Prop} {w : World} {na nb : Bool} {ra rb : ByteArray} {A B : Option Addr} {c d : Nat} {ta tb : List Tm} (ha : Cl F w A (tcells ta)) (hb : Cl G w B (tcells tb)) (hc : ta.length ≤ c) (hd : tb.length ≤ d) (hl : ta.length ≤ 1048576) :
    Calls Tryd.prog 36 #[.agg #[.bool na, .string ra, .slice A ta.length c], .agg #[.bool nb, .string rb, .slice B tb.length d]] w (Ret (fun x _ => x = .bool (decide (ra = rb ∧ ta = tb))) w) := by
  obtain ⟨n, hn⟩ : ∃ n, n = ta.length := ⟨_, rfl⟩
  obtain ⟨m, hm⟩ : ∃ m, m = tb.length := ⟨_, rfl⟩
  rw [← hn] at hc hl ⊢
  rw [← hm] at hd ⊢
  have HN := Lib.hid hn; have HA := Lib.hid ha; have HM := Lib.hid hm; have HB := Lib.hid hb
  clear hn ha hm hb
  by_cases hrel : ra = rb
  · subst hrel
    by_cases hlen : n = m
    · subst hlen
      go_enter Tryd.func36, Tryd.ntmps36
      go_wp2_with fail
      have h2 := two_boxes w 39 39 [.bool na, .string ra, .slice A n c] [.bool nb, .string ra, .slice B n d]
      change Bk ((w.alloc (.cells #[.bool na, .string ra, .slice A n c] 39)).alloc (.cells #[.bool nb, .string ra, .slice B n d] 39)) _ _ _ ∧ Bk ((w.alloc (.cells #[.bool na, .string ra, .slice A n c] 39)).alloc (.cells #[.bool nb, .string ra, .slice B n d] 39)) _ _ _ ∧ Ext _ ((w.alloc (.cells #[.bool na, .string ra, .slice A n c] 39)).alloc (.cells #[.bool nb, .string ra, .slice B n d] 39)) at h2
      generalize ((w.alloc (.cells #[.bool na, .string ra, .slice A n c] 39)).alloc (.cells #[.bool nb, .string ra, .slice B n d] 39)) = w1 at *
      obtain ⟨k1, k2, hx1⟩ := h2
      have HX1 := Lib.hid hx1; have HK1 := Lib.hid k1; have HK2 := Lib.hid k2
      clear hx1 k1 k2
      go_loopw [5] (fun q wr => ∃ i : Nat, i ≤ n ∧ q = .int .i64 (i : Int) ∧ (∀ j (h : j < ta.length) (h' : j < tb.length), j < i → ta[j] = tb[j]) ∧ Ext w1 wr) (fun q _ => n - (intOf q).toNat)
      case atStart => exact ⟨0, Nat.zero_le _, rfl, fun _ _ _ h => absurd h (by omega), Ext.refl _⟩
      case round =>
        obtain ⟨i, hi, rfl, hok, hext⟩ := hrel
        have HOK := Lib.hid hok; have HE := Lib.hid hext
        clear hok
        have g1 := (HK1.out.ext hext).cell (i := 2) (by simp)
        have g2 := (HK2.out.ext hext).cell (i := 2) (by simp)
        simp only [List.getElem_cons_zero, List.getElem_cons_succ] at g1 g2
        by_cases hlt : i < n
        · have i1 : (0 : Int) ≤ (i : Int) := by omega
          have i2 : (i : Int) < (n : Int) := by omega
          have hia : i < ta.length := by have := HN.out; omega
          have hib : i < tb.length := by have := HM.out; omega
          obtain ⟨ada, rfl, -, c0, c1, c2, c3⟩ := HA.out.term (i := i) hia
          obtain ⟨adb, rfl, -, d0, d1, d2, d3⟩ := HB.out.term (i := i) hib
          have hxr := HX1.out.trans hext
          replace c0 := hxr.cell c0
          replace c1 := hxr.cell c1
          replace c2 := hxr.cell c2
          replace c3 := hxr.cell c3
          replace d0 := hxr.cell d0
          replace d1 := hxr.cell d1
          replace d2 := hxr.cell d2
          replace d3 := hxr.cell d3
          obtain ⟨y, hy⟩ : ∃ y, y = ta[i] := ⟨_, rfl⟩
          rw [← hy] at c0 c1 c2 c3
          obtain ⟨z, hz⟩ : ∃ z, z = tb[i] := ⟨_, rfl⟩
          rw [← hz] at d0 d1 d2 d3
          have HY := Lib.hid hy; have HZ := Lib.hid hz
          clear hy hz hext hxr
          by_cases hyz : y = z
          · have HYZ := Lib.hid hyz
            subst hyz
            go_upto_region 6 with fail
            go_quiet (fail)
            go_wp2_with fail
            go_roundw
            case rel =>
              refine ⟨i + 1, by omega, by go_num, fun j hj hj2 hji => ?_, HE.out.drewN _⟩
              rcases Nat.lt_or_ge j i with h | h
              · exact HOK.out j hj hj2 h
              · obtain rfl : j = i := by omega
                rw [← HY.out, ← HZ.out]
            case measure => simp [intOf]; omega
          · have HYZ := Lib.hid hyz
            rcases Tm.ne4 (x := z) (t := y) (fun e => hyz e.symm) with h1 | ⟨h1, h2 | ⟨h2, h3 | ⟨h3, h4⟩⟩⟩
            all_goals
              clear hyz
              go_upto_region 6 with fail
              go_quiet (fail)
              go_wp2_with fail
              go_ret
              refine Ret.mk (HX1.out.trans (HE.out.drewN _)) ?_
              have hne : ¬ ta = tb := fun e2 => HYZ.out (by
                rw [HY.out, HZ.out]
                simp only [e2])
              first
                | (rw [decide_eq_false hne]; rfl)
                | (rw [decide_eq_false (fun e => hne e.2)]; rfl)
        · obtain rfl : i = n := by omega
          have hdn : ¬ (i : Int) < (i : Int) := by omega
          clear hext
          go_wp2_with fail
          go_ret
          refine Ret.mk (HX1.out.trans HE.out) ?_
          have e : ta = tb := List.ext_getElem (by rw [← HN.out, ← HM.out]) (fun j h1 h2 => HOK.out j h1 h2 (by have := HN.out; omega))
          rw [decide_eq_true e]
          rfl
    · have hlen2 : ¬ (n : Int) = (m : Int) := by omega
      have HNL : Hid (ta ≠ tb) := Lib.hid (fun e => hlen (by rw [HN.out, HM.out, e]))
      clear hlen
      go_enter Tryd.func36, Tryd.ntmps36
      go_wp2_with fail
      all_goals first
        | contradiction
        | (go_ret
           refine Ret.mk (((Ext.refl w).alloc _).alloc _) ?_
           rw [decide_eq_false (fun e => HNL.out e.2)]
           rfl)
  · have hrel2 : ¬ ra.toList = rb.toList := fun e => hrel (toList_inj e)
    have HNR := Lib.hid hrel
    clear hrel
    go_enter Tryd.func36, Tryd.ntmps36
    go_wp2_with fail
    all_goals first
      | contradiction
      | (go_ret
         refine Ret.mk (((Ext.refl w).alloc _).alloc _) ?_
         rw [decide_eq_false (fun e => HNR.out e.1)]
         rfl)

theorem firstP_at : ∀ {l : List (ByteArray × Tm)} {i : Nat} (h : i < l.length) {s : ByteArray}, (∀ j (hj : j < l.length), j < i → l[j].1 ≠ s) → l[i].1 = s → firstP l s = some l[i].2
  | [], i, h, _, _, _ => by simp at h
  | p :: l, 0, h, s, _, e => by
    rw [firstP_cons, if_pos (by simpa using e.symm)]; rfl
  | p :: l, i + 1, h, s, hn, e => by
    have h0 := hn 0 (by simp) (by omega)
    rw [firstP_cons, if_neg (fun e2 => h0 (by simpa using e2.symm))]
    have hi : i < l.length := by simpa using h
    rw [firstP_at hi (fun j hj hji => by have := hn (j + 1) (by simpa using hj) (by omega); simpa using this) (by simpa using e)]
    rfl
theorem firstP_off : ∀ {l : List (ByteArray × Tm)} {s : ByteArray}, (∀ j (hj : j < l.length), l[j].1 ≠ s) → firstP l s = none
  | [], s, _ => rfl
  | p :: l, s, h => by
    have h0 := h 0 (by simp)
    rw [firstP_cons, if_neg (fun e2 => h0 (by simpa using e2.symm))]
    exact firstP_off (fun j hj => by have := h (j + 1) (by simpa using hj); simpa using this)

set_option maxRecDepth 20000 in
set_option maxHeartbeats 1600000 in
theorem image25 {F G : Nat → Prop} {w : World} {t : Tm} {vf vt : Value} {fr : List ByteArray} {tg : List Tm} (hf : Strs F w vf fr) (ht : Ts G w vt tg) (hle : tg.length ≤ fr.length) (hl : fr.length ≤ 1048576) :
    Calls Tryd.prog 70 #[t.val, vf, vt] w (Ret (fun x _ => x = (repT (firstP (fr.zip tg)) t).val) w) := by
  obtain ⟨A, c, rfl, hc, hcl⟩ := hf
  obtain ⟨B, d, rfl, hd, hcd⟩ := ht
  obtain ⟨n, hn⟩ : ∃ n, n = fr.length := ⟨_, rfl⟩
  obtain ⟨m, hm⟩ : ∃ m, m = tg.length := ⟨_, rfl⟩
  rw [← hn] at hc hl hle ⊢
  rw [← hm] at hd hle ⊢
  have HN := Lib.hid hn; have HA := Lib.hid hcl; have HM := Lib.hid hm; have HB := Lib.hid hcd
  clear hn hcl hm hcd
  go_enter Tryd.func70, Tryd.ntmps70
  go_wp2_with fail
  have h2 := two_boxes w 66 66 [.string t.var, .int .i64 t.kind, .int .i64 t.int, .string t.str] [.string ⟨#[]⟩, .int .i64 0, .int .i64 0, .string ⟨#[]⟩]
  change Bk ((w.alloc (.cells #[.string t.var, .int .i64 t.kind, .int .i64 t.int, .string t.str] 66)).alloc (.cells #[.string ⟨#[]⟩, .int .i64 0, .int .i64 0, .string ⟨#[]⟩] 66)) _ _ _ ∧ Bk ((w.alloc (.cells #[.string t.var, .int .i64 t.kind, .int .i64 t.int, .string t.str] 66)).alloc (.cells #[.string ⟨#[]⟩, .int .i64 0, .int .i64 0, .string ⟨#[]⟩] 66)) _ _ _ ∧ Ext _ ((w.alloc (.cells #[.string t.var, .int .i64 t.kind, .int .i64 t.int, .string t.str] 66)).alloc (.cells #[.string ⟨#[]⟩, .int .i64 0, .int .i64 0, .string ⟨#[]⟩] 66)) at h2
  generalize ((w.alloc (.cells #[.string t.var, .int .i64 t.kind, .int .i64 t.int, .string t.str] 66)).alloc (.cells #[.string ⟨#[]⟩, .int .i64 0, .int .i64 0, .string ⟨#[]⟩] 66)) = w1 at *
  obtain ⟨k1, k2, hx1⟩ := h2
  have HX1 := Lib.hid hx1; have HK1 := Lib.hid k1; have HK2 := Lib.hid k2
  clear hx1 k1 k2
  go_loopw [7] (fun q wr => ∃ i : Nat, i ≤ m ∧ q = .int .i64 (i : Int) ∧ (t.var ≠ ⟨#[]⟩ → ∀ j (h : j < fr.length), j < i → fr[j] ≠ t.var) ∧ Ext w1 wr) (fun q _ => m - (intOf q).toNat)
  case atStart => exact ⟨0, Nat.zero_le _, rfl, fun _ _ _ h => absurd h (by omega), Ext.refl _⟩
  case round =>
    obtain ⟨i, hi, rfl, hok, hext⟩ := hrel
    have HOK := Lib.hid hok; have HE := Lib.hid hext
    have hb1 := HK1.out.ext hext
    have hb2 := HK2.out.ext hext
    have t0 := hb1.cell (i := 0) (by simp)
    simp only [List.getElem_cons_zero, List.getElem_cons_succ] at t0
    have HT1 := Lib.hid hb1; have HT2 := Lib.hid hb2
    clear hok hb1 hb2
    by_cases hlt : i < m
    · have i1 : (0 : Int) ≤ (i : Int) := by omega
      have i2 : (i : Int) < (m : Int) := by omega
      have i3 : (i : Int) < (n : Int) := by omega
      have hif : i < fr.length := by have := HN.out; omega
      have hit : i < tg.length := by have := HM.out; omega
      obtain ⟨ad, rfl, -, c0⟩ := HA.out.at' (j := i) (x := .string fr[i]) (by simp [hif])
      obtain ⟨ad2, rfl, -, d0, d1, d2, d3⟩ := HB.out.term (i := i) hit
      have hxr := HX1.out.trans hext
      replace c0 := hxr.cell c0
      replace d0 := hxr.cell d0
      replace d1 := hxr.cell d1
      replace d2 := hxr.cell d2
      replace d3 := hxr.cell d3
      obtain ⟨s, hs⟩ : ∃ s, s = fr[i] := ⟨_, rfl⟩
      rw [← hs] at c0
      obtain ⟨u, hu⟩ : ∃ u, u = tg[i] := ⟨_, rfl⟩
      rw [← hu] at d0 d1 d2 d3
      obtain ⟨v, hv⟩ : ∃ v, v = t.var := ⟨_, rfl⟩
      rw [← hv] at t0
      have HS := Lib.hid hs; have HU := Lib.hid hu; have HV := Lib.hid hv; have HXR := Lib.hid hxr
      clear hs hu hv hext hxr
      by_cases he : v = ⟨#[]⟩
      · have HEV := Lib.hid he
        have he2 := var_eq he
        clear he
        go_upto_region 4 with fail
        go_quiet (fail)
        go_wp2_with fail
        go_roundw
        case rel => exact ⟨i + 1, by omega, by go_num, fun hne => absurd (by rw [← HV.out]; exact HEV.out) hne, HE.out.drewN _⟩
        case measure => simp [intOf]; omega
      · have HEV := Lib.hid he
        have he2 := var_ne he
        clear he
        by_cases hvs : v = s
        · have HVS := Lib.hid hvs
          subst hvs
          go_upto_region 4 with fail
          go_quiet (fail)
          replace d0 := ((Ext.refl wr).drewN nq).cell d0
          replace d1 := ((Ext.refl wr).drewN nq).cell d1
          replace d2 := ((Ext.refl wr).drewN nq).cell d2
          replace d3 := ((Ext.refl wr).drewN nq).cell d3
          have kz := HT2.out.ext ((Ext.refl wr).drewN nq)
          have hez := HXR.out.drewN nq
          have f0 := kz.free 0
          have f1 := kz.free 1
          have f2 := kz.free 2
          have f3 := kz.free 3
          have z0 := HT2.out.cell (i := 0) (by simp)
          have z1 := HT2.out.cell (i := 1) (by simp)
          have z2 := HT2.out.cell (i := 2) (by simp)
          have z3 := HT2.out.cell (i := 3) (by simp)
          simp only [List.getElem_cons_zero, List.getElem_cons_succ] at z0 z1 z2 z3
          clear c0 t0
          go_wp2_with fail
          have s4 := store4 (a := .string u.var) (b := .int .i64 u.kind) (c := .int .i64 u.int) (d := .string u.str) kz
          generalize (((((wr.drewN nq).setCell ⟨w.heap.size + 1, 0, none⟩ (.string u.var)).setCell ⟨w.heap.size + 1, 1, none⟩ (.int .i64 u.kind)).setCell ⟨w.heap.size + 1, 2, none⟩ (.int .i64 u.int)).setCell ⟨w.heap.size + 1, 3, none⟩ (.string u.str)) = wz at *
          obtain ⟨kw, hfw⟩ := s4
          have r0 := kw.cell (i := 0) (by simp)
          have r1 := kw.cell (i := 1) (by simp)
          have r2 := kw.cell (i := 2) (by simp)
          have r3 := kw.cell (i := 3) (by simp)
          simp only [List.getElem_cons_zero, List.getElem_cons_succ] at r0 r1 r2 r3
          have hez2 := hfw.new hez (fun k hk => by omega)
          refine bodyPost_ret (v := u.val) ?_ rfl (Ret.mk hez2 ?_)
          · simp [results, Tryd.results70, go_sem, r0, r1, r2, r3]
          · have hlz : i < (fr.zip tg).length := by simp; omega
            have hf := firstP_at (l := fr.zip tg) hlz (s := t.var) (fun j hj hji => by
              rw [List.getElem_zip]
              exact HOK.out (by rw [← HV.out]; exact HEV.out) j (by simp at hj; omega) hji) (by rw [List.getElem_zip, ← HV.out]; exact HS.out.symm)
            have hne : ¬ t.var = ⟨#[]⟩ := by rw [← HV.out]; exact HEV.out
            unfold repT
            rw [if_neg hne, hf, List.getElem_zip]
            simp only [Option.getD_some]
            rw [HU.out]
        · have HVS := Lib.hid hvs
          have hvs1 : ¬ v.toList = s.toList := fun e => hvs (toList_inj e)
          have hvs2 : (v.toList == s.toList) = false := by simp [hvs1]
          clear hvs hvs1
          go_upto_region 4 with fail
          go_quiet (fail)
          go_wp2_with fail
          go_roundw
          case rel =>
            refine ⟨i + 1, by omega, by go_num, fun hne j hj hji => ?_, HE.out.drewN _⟩
            rcases Nat.lt_or_ge j i with h | h
            · exact HOK.out hne j hj h
            · obtain rfl : j = i := by omega
              rw [← HS.out, ← HV.out]
              exact fun e => HVS.out e.symm
          case measure => simp [intOf]; omega
    · obtain rfl : i = m := by omega
      have hdn : ¬ (i : Int) < (i : Int) := by omega
      have t1 := HT1.out.cell (i := 1) (by simp)
      have t2 := HT1.out.cell (i := 2) (by simp)
      have t3 := HT1.out.cell (i := 3) (by simp)
      simp only [List.getElem_cons_zero, List.getElem_cons_succ] at t1 t2 t3
      have f0 := HT2.out.free 0
      have f1 := HT2.out.free 1
      have f2 := HT2.out.free 2
      have f3 := HT2.out.free 3
      have z0 := HT2.out.cell (i := 0) (by simp)
      have z1 := HT2.out.cell (i := 1) (by simp)
      have z2 := HT2.out.cell (i := 2) (by simp)
      have z3 := HT2.out.cell (i := 3) (by simp)
      simp only [List.getElem_cons_zero, List.getElem_cons_succ] at z0 z1 z2 z3
      clear hext
      go_wp2_with fail
      have s4 := store4 (a := .string t.var) (b := .int .i64 t.kind) (c := .int .i64 t.int) (d := .string t.str) HT2.out
      generalize ((((wr.setCell ⟨w.heap.size + 1, 0, none⟩ (.string t.var)).setCell ⟨w.heap.size + 1, 1, none⟩ (.int .i64 t.kind)).setCell ⟨w.heap.size + 1, 2, none⟩ (.int .i64 t.int)).setCell ⟨w.heap.size + 1, 3, none⟩ (.string t.str)) = wz at *
      obtain ⟨kw, hfw⟩ := s4
      have r0 := kw.cell (i := 0) (by simp)
      have r1 := kw.cell (i := 1) (by simp)
      have r2 := kw.cell (i := 2) (by simp)
      have r3 := kw.cell (i := 3) (by simp)
      simp only [List.getElem_cons_zero, List.getElem_cons_succ] at r0 r1 r2 r3
      have hez2 := hfw.new (HX1.out.trans HE.out) (fun k hk => by omega)
      refine bodyPost_ret (v := t.val) ?_ rfl (Ret.mk hez2 ?_)
      · simp [results, Tryd.results70, go_sem, r0, r1, r2, r3]
      · have e : repT (firstP (fr.zip tg)) t = t := by
          unfold repT
          split
          · rfl
          · rename_i hne
            rw [firstP_off (l := fr.zip tg) (fun j hj => by
              rw [List.getElem_zip]
              simp at hj
              exact HOK.out hne j (by omega) (by have := HM.out; omega))]
            rfl
        rw [e]
end Go.Proofs.YtehklbdgkppmeaaDoor
