/- Contracts: homomorphism.agrees, and the closure of Find that calls it. -/
import Derived.Test.YtiahaofjmcjdiaaDoorHz
namespace Go.Proofs.YtiahaofjmcjdiaaDoor
open Go.RowKit Go.Maps

/-- The images so far, as the map holds them. -/
def imF (im : ByteArray → Option Tm) : ByteArray → Option Value := fun s => (im s).map Tm.val
def imgT (im : ByteArray → Option Tm) (t : Tm) : Option Tm := if t.var = ⟨#[]⟩ then some t else im t.var
def okB (im : ByteArray → Option Tm) (t u : Tm) : Bool := match imgT im t with | some v => decide (v = u) | none => true
def agB (im : ByteArray → Option Tm) (ra : ByteArray) (ta : List Tm) (rb : ByteArray) (tb : List Tm) : Bool := decide (ra = rb) && decide (ta.length = tb.length) && (ta.zip tb).all (fun p => okB im p.1 p.2)
theorem agB_rel {im : ByteArray → Option Tm} {ra rb : ByteArray} {ta tb : List Tm} (h : ra ≠ rb) : agB im ra ta rb tb = false := by simp [agB, h]
theorem agB_len {im : ByteArray → Option Tm} {ra rb : ByteArray} {ta tb : List Tm} (h : ta.length ≠ tb.length) : agB im ra ta rb tb = false := by simp [agB, h]
theorem agB_at {im : ByteArray → Option Tm} {ra rb : ByteArray} {ta tb : List Tm} {i : Nat} (hi : i < ta.length) (hj : i < tb.length) (h : okB im ta[i] tb[i] = false) : agB im ra ta rb tb = false := by
  have hz : i < (ta.zip tb).length := by simp; omega
  have : (ta.zip tb).all (fun p => okB im p.1 p.2) = false := List.all_eq_false.2 ⟨(ta.zip tb)[i], List.getElem_mem hz, by rw [List.getElem_zip]; simp [h]⟩
  simp [agB, this]
theorem agB_all {im : ByteArray → Option Tm} {ra : ByteArray} {ta tb : List Tm} (hl : ta.length = tb.length) (h : ∀ i (hi : i < ta.length) (hj : i < tb.length), okB im ta[i] tb[i] = true) : agB im ra ta ra tb = true := by
  have : (ta.zip tb).all (fun p => okB im p.1 p.2) = true := List.all_eq_true.2 (fun p hp => by
    obtain ⟨i, hi, rfl⟩ := List.getElem_of_mem hp
    rw [List.getElem_zip]
    simp at hi
    exact h i (by omega) (by omega))
  simp [agB, hl, this]

set_option maxRecDepth 20000 in
set_option maxHeartbeats 1600000 in
theorem agrees_any {F G : Nat → Prop} {w : World} {na nb : Bool} {ra rb : ByteArray} {Ba Bb : Option Addr} {da db bm n : Nat} {ta tb : List Tm} {im : ByteArray → Option Tm} (ha : Cl F w Ba (tcells ta)) (hb : Cl G w Bb (tcells tb)) (hda : ta.length ≤ da) (hdb : tb.length ≤ db) (hl : ta.length ≤ 1048576) (hs : ∀ t ∈ ta, t.var.size ≤ maxLen) (hm : MapV w bm n (imF im)) :
    Calls Tryd.prog 30 #[.agg #[.bool na, .string ra, .slice Ba ta.length da], .agg #[.bool nb, .string rb, .slice Bb tb.length db], .map (some bm)] w (Ret (fun x _ => x = .bool (agB im ra ta rb tb)) w) := by
  obtain ⟨nt, hnt⟩ : ∃ nt, nt = ta.length := ⟨_, rfl⟩
  obtain ⟨nu, hnu⟩ : ∃ nu, nu = tb.length := ⟨_, rfl⟩
  rw [← hnt, ← hnu]
  rw [← hnt] at hda hl
  rw [← hnu] at hdb
  have HNT := Lib.hid hnt; have HNU := Lib.hid hnu; have HA := Lib.hid ha; have HB := Lib.hid hb; have HS := Lib.hid hs; have HM := Lib.hid hm
  clear hnt hnu ha hb hs hm
  by_cases hrel : ra = rb
  · subst hrel
    by_cases hlen : nt = nu
    · subst hlen
      go_enter Tryd.func30, Tryd.ntmps30
      go_wp2_with fail
      have hx1 : Ext w ((w.alloc (.cells #[.bool na, .string ra, .slice Ba nt da] 61)).alloc (.cells #[.bool nb, .string ra, .slice Bb nt db] 61)) := ((Ext.refl w).alloc _).alloc _
      have k2 : Bk ((w.alloc (.cells #[.bool na, .string ra, .slice Ba nt da] 61)).alloc (.cells #[.bool nb, .string ra, .slice Bb nt db] 61)) (w.heap.size + 1) 61 [.bool nb, .string ra, .slice Bb nt db] := by
        have h := Bk.new (w.alloc (.cells #[.bool na, .string ra, .slice Ba nt da] 61)) 61 [.bool nb, .string ra, .slice Bb nt db]
        rw [show (w.alloc (.cells #[.bool na, .string ra, .slice Ba nt da] 61)).heap.size = w.heap.size + 1 by simp] at h
        exact h
      generalize ((w.alloc (.cells #[.bool na, .string ra, .slice Ba nt da] 61)).alloc (.cells #[.bool nb, .string ra, .slice Bb nt db] 61)) = w1 at *
      have HX1 := Lib.hid hx1; have HK2 := Lib.hid k2
      clear hx1 k2
      go_loopw [28] (fun q wr => ∃ i : Nat, i ≤ nt ∧ q = .int .i64 (i : Int) ∧ (∀ j (h : j < ta.length) (h' : j < tb.length), j < i → okB im ta[j] tb[j] = true) ∧ Ext w1 wr) (fun q _ => nt - (intOf q).toNat)
      case atStart => exact ⟨0, Nat.zero_le _, rfl, fun _ _ _ h => absurd h (by omega), Ext.refl _⟩
      case round =>
        obtain ⟨i, hi, rfl, hok, hext⟩ := hrel
        have HOK := Lib.hid hok; have HE := Lib.hid hext
        clear hok
        by_cases hlt : i < nt
        · have i1 : (0 : Int) ≤ (i : Int) := by omega
          have i2 : (i : Int) < (nt : Int) := by omega
          have hia : i < ta.length := by have := HNT.out; omega
          have hib : i < tb.length := by have := HNU.out; omega
          obtain ⟨ada, rfl, -, c0, c1, c2, c3⟩ := HA.out.term (i := i) hia
          obtain ⟨adb, rfl, -, d0, d1, d2, d3⟩ := HB.out.term (i := i) hib
          have hxr := HX1.out.trans hext
          replace c0 := hxr.cell c0
          replace c1 := hxr.cell c1
          replace c2 := hxr.cell c2
          replace c3 := hxr.cell c3
          have hsv := HS.out _ (List.getElem_mem hia)
          obtain ⟨x, hx⟩ : ∃ x, x = ta[i] := ⟨_, rfl⟩
          obtain ⟨u, hu⟩ : ∃ u, u = tb[i] := ⟨_, rfl⟩
          rw [← hx] at c0 c1 c2 c3 hsv
          rw [← hu] at d0 d1 d2 d3
          have HXU := Lib.hid (And.intro hx hu)
          have HD := Lib.hid (And.intro d0 (And.intro d1 (And.intro d2 d3)))
          have HXR := Lib.hid hxr
          clear hx hu hext hxr d0 d1 d2 d3
          go_upto_region 6 with fail
          have hx2 : Ext wr (wr.alloc (.cells #[.string x.var, .int .i64 x.kind, .int .i64 x.int, .string x.str] 47)) := (Ext.refl wr).alloc _
          have k8 := Bk.new wr 47 [.string x.var, .int .i64 x.kind, .int .i64 x.int, .string x.str]
          change Bk (wr.alloc (.cells #[.string x.var, .int .i64 x.kind, .int .i64 x.int, .string x.str] 47)) _ _ _ at k8
          have hsz2 : (wr.alloc (.cells #[.string x.var, .int .i64 x.kind, .int .i64 x.int, .string x.str] 47)).heap.size = wr.heap.size + 1 := by simp
          generalize (wr.alloc (.cells #[.string x.var, .int .i64 x.kind, .int .i64 x.int, .string x.str] 47)) = w2 at *
          have s0 := k8.cell (i := 0) (by simp)
          have s1 := k8.cell (i := 1) (by simp)
          have s2 := k8.cell (i := 2) (by simp)
          have s3 := k8.cell (i := 3) (by simp)
          simp only [List.getElem_cons_zero, List.getElem_cons_succ] at s0 s1 s2 s3
          have HX2 := Lib.hid (HE.out.trans hx2); have HXW := Lib.hid (HXR.out.trans hx2); have HK8 := Lib.hid k8
          clear hx2 k8 c0 c1 c2 c3
          obtain ⟨kn, hkn⟩ : ∃ kn, kn = x.var.toList.isEmpty := ⟨_, rfl⟩
          have hkn2 : x.var.toList.isEmpty = kn := hkn.symm
          have HKN := Lib.hid hkn
          clear hkn
          go_cut [9, 10] (fun s9 s10 wx => s9 = .pointer (some ⟨wr.heap.size + 1, 0, none⟩) ∧ s10 = .bool kn ∧ Bk wx (wr.heap.size + 1) 47 [.string x.var, .int .i64 x.kind, .int .i64 x.int, .string x.str] ∧ Ext w2 wx)
          case first =>
            go_region
            go_wp2_with fail
            go_meet
            exact ⟨rfl, rfl, by rw [← hsz2]; exact Bk.new w2.drew _ [_, _, _, _], (Ext.refl w2).drew.alloc _⟩
          case rest =>
            obtain ⟨rfl, rfl, k9, he9⟩ := hcut
            obtain ⟨U, rfl⟩ : ∃ U : World, U = wc := ⟨_, rfl⟩
            have HU := Lib.hid (HXW.out.trans he9); have HUE := Lib.hid (HX2.out.trans he9)
            have k8 := HK8.out.ext he9
            have hlt9 : wr.heap.size + 1 < U.heap.size := k9.lt
            clear he9 s0 s1 s2 s3 hsz2
            go_upto_if 38 with fail
            go_cut [10, 37, 38] (fun s10 s37 s38 wx => ∃ (kb : Bool) (y : Tm), s10 = .bool kb ∧ Bk wx (wr.heap.size + 1) 47 [.string y.var, .int .i64 y.kind, .int .i64 y.int, .string y.str] ∧ Fr (fun k => k = wr.heap.size + 1) U wx ∧ imgT im x = (if kb = true then some y else none))
            case first =>
              rcases kn with _ | _
              · have hv : ¬ x.var = ⟨#[]⟩ := fun h => by have := HKN.out; rw [var_eq h] at this; cases this
                have f8 := k8.cell (i := 0) (by simp)
                have f9 := k9.cell (i := 0) (by simp)
                have f91 := k9.cell (i := 1) (by simp)
                have f92 := k9.cell (i := 2) (by simp)
                have f93 := k9.cell (i := 3) (by simp)
                simp only [List.getElem_cons_zero, List.getElem_cons_succ] at f8 f9 f91 f92 f93
                have r0 := k9.free 0
                have r1 := k9.free 1
                have r2 := k9.free 2
                have r3 := k9.free 3
                have HK9 := Lib.hid k9
                have himg : imgT im x = im x.var := by rw [imgT, if_neg hv]
                have HIM := Lib.hid himg
                clear himg hv
                rcases him : im x.var with _ | y
                · have HY := Lib.hid him
                  clear him
                  go_wp2_with (first | (at_lookup; refine wpList_lookup_okV rfl _ _ 68 47 rfl Tryd.underlying68 (.agg #[.string ⟨#[]⟩, .int .i64 0, .int .i64 0, .string ⟨#[]⟩]) (zero_term _) bm n (imF im) rfl (HM.out.ext HU.out) x.var rfl hsv (.agg #[.string ⟨#[]⟩, .int .i64 0, .int .i64 0, .string ⟨#[]⟩]) (by rw [imF, HY.out]; rfl) false (by rw [imF, HY.out]; rfl) ?_))
                  go_meet
                  exact ⟨false, ⟨⟨#[]⟩, 0, 0, ⟨#[]⟩⟩, rfl, (((HK9.out.set 0 _).set 1 _).set 2 _).set 3 _, (((Fr.refl (fun k => k = wr.heap.size + 1) U).setCell (.inl rfl) _).setCell (.inl rfl) _).setCell (.inl rfl) _ |>.setCell (.inl rfl) _, by rw [HIM.out, HY.out]; rfl⟩
                · have HY := Lib.hid him
                  clear him
                  go_wp2_with (first | (at_lookup; refine wpList_lookup_okV rfl _ _ 68 47 rfl Tryd.underlying68 (.agg #[.string ⟨#[]⟩, .int .i64 0, .int .i64 0, .string ⟨#[]⟩]) (zero_term _) bm n (imF im) rfl (HM.out.ext HU.out) x.var rfl hsv (.agg #[.string y.var, .int .i64 y.kind, .int .i64 y.int, .string y.str]) (by rw [imF, HY.out]; rfl) true (by rw [imF, HY.out]; rfl) ?_))
                  go_meet
                  exact ⟨true, y, rfl, (((HK9.out.set 0 _).set 1 _).set 2 _).set 3 _, (((Fr.refl (fun k => k = wr.heap.size + 1) U).setCell (.inl rfl) _).setCell (.inl rfl) _).setCell (.inl rfl) _ |>.setCell (.inl rfl) _, by rw [HIM.out, HY.out]; rfl⟩
              · have hv : x.var = ⟨#[]⟩ := by
                  have := HKN.out
                  rw [var_empty] at this
                  exact of_decide_eq_true this.symm
                have HV := Lib.hid hv; have HK9 := Lib.hid k9
                clear hv k9 k8
                go_wp2_with fail
                go_meet
                exact ⟨true, x, rfl, HK9.out, Fr.refl _ _, by rw [imgT, if_pos HV.out]; rfl⟩
            case rest =>
              obtain ⟨kb, y, rfl, k9', hf9, himg⟩ := hcut
              obtain ⟨V, rfl⟩ : ∃ V : World, V = wc := ⟨_, rfl⟩
              have hwr : w.heap.size + 1 < wr.heap.size := (HK2.out.ext HE.out).lt
              have hnew : ∀ k, k < wr.heap.size → ¬ (k = wr.heap.size + 1) := fun k hk e => by omega
              have hVw : Ext w V := hf9.new HU.out (fun k hk => by omega)
              have hVE : Ext w1 V := hf9.new HUE.out (fun k hk => by have := HE.out.size; omega)
              obtain ⟨d0, d1, d2, d3⟩ := HD.out
              replace d0 := hVw.cell d0
              replace d1 := hVw.cell d1
              replace d2 := hVw.cell d2
              replace d3 := hVw.cell d3
              have kbx := HK2.out.ext hVE
              have b2 := kbx.cell (i := 2) (by simp)
              have y0 := k9'.cell (i := 0) (by simp)
              have y1 := k9'.cell (i := 1) (by simp)
              have y2 := k9'.cell (i := 2) (by simp)
              have y3 := k9'.cell (i := 3) (by simp)
              simp only [List.getElem_cons_zero, List.getElem_cons_succ] at b2 y0 y1 y2 y3
              have HVW := Lib.hid hVw; have HVE := Lib.hid hVE; have HIMG := Lib.hid himg
              have hnext : okB im x u = true → ∀ j (h : j < ta.length) (h' : j < tb.length), j < i + 1 → okB im ta[j] tb[j] = true := fun hxo j h h' hji => by
                rcases Nat.lt_or_ge j i with h2 | h2
                · exact HOK.out j h h' h2
                · obtain rfl : j = i := by omega
                  rw [← HXU.out.1, ← HXU.out.2]; exact hxo
              have HNX := Lib.hid hnext
              clear hnext k9 k8 k9' hf9 himg hVw hVE kbx hnew HU HUE HK8 HX2 HXW HKN hkn2
              rcases kb with _ | _
              · have HO : Hid (okB im x u = true) := Lib.hid (by rw [okB, HIMG.out]; rfl)
                go_wp2_with fail
                go_quiet (fail)
                go_wp2_with fail
                go_roundw
                case rel => exact ⟨i + 1, by omega, by go_num, HNX.out HO.out, HVE.out.drewN _⟩
                case measure => simp [intOf]; omega
              · by_cases hyu : y = u
                · have HO : Hid (okB im x u = true) := Lib.hid (by rw [okB, HIMG.out]; simp [hyu])
                  subst hyu
                  go_wp2_with fail
                  go_quiet (fail)
                  go_wp2_with fail
                  go_roundw
                  case rel => exact ⟨i + 1, by omega, by go_num, HNX.out HO.out, HVE.out.drewN _⟩
                  case measure => simp [intOf]; omega
                · have HO : Hid (okB im x u = false) := Lib.hid (by rw [okB, HIMG.out]; simp [hyu])
                  rcases Tm.ne4 (x := u) (t := y) (fun e => hyu e.symm) with h1 | ⟨h1, h2 | ⟨h2, h3 | ⟨h3, h4⟩⟩⟩
                  all_goals
                    clear hyu
                    go_wp2_with fail
                    go_quiet (fail)
                    go_wp2_with fail
                    go_ret
                    refine Ret.mk (HVW.out.drewN _) ?_
                    rw [agB_at hia hib (by rw [← HXU.out.1, ← HXU.out.2]; exact HO.out)]
                    rfl
        · obtain rfl : i = nt := by omega
          have hdn : ¬ (i : Int) < (i : Int) := by omega
          go_wp2_with fail
          go_ret
          refine Ret.mk (HX1.out.trans HE.out) ?_
          rw [agB_all (by rw [← HNT.out, ← HNU.out]) (fun j h h' => HOK.out j h h' (by have := HNT.out; omega))]
          rfl
    · have hlen2 : ¬ (nt : Int) = (nu : Int) := by omega
      have HNL : Hid (ta.length ≠ tb.length) := Lib.hid (by rw [← HNT.out, ← HNU.out]; exact hlen)
      clear hlen
      go_enter Tryd.func30, Tryd.ntmps30
      go_wp2_with fail
      all_goals first
        | contradiction
        | (go_ret
           refine Ret.mk (((Ext.refl w).alloc _).alloc _) ?_
           rw [agB_len HNL.out]
           rfl)
  · have hrel2 : ¬ ra.toList = rb.toList := fun e => hrel (toList_inj e)
    have HNR := Lib.hid hrel
    clear hrel
    go_enter Tryd.func30, Tryd.ntmps30
    go_wp2_with fail
    all_goals first
      | contradiction
      | (go_ret
         refine Ret.mk (((Ext.refl w).alloc _).alloc _) ?_
         rw [agB_rel HNR.out]
         rfl)

end Go.Proofs.YtiahaofjmcjdiaaDoor
