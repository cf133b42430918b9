/- Contracts: minimize.pureRule, ordinalref25.Pure. -/
import Derived.Test.YtehklbdgkppmeaaDoorQx
namespace Go.Proofs.YtehklbdgkppmeaaDoor
open Go.RowKit Go.Maps

def At.Pu (a : At) : Prop := a.Good ∧ a.terms.length ≤ 6
instance (a : At) : Decidable a.Pu := by unfold At.Pu; infer_instance
def pureL (xs : List At) (nc : Nat) : Bool := decide ((∀ a ∈ xs, a.Pu) ∧ nc = 0 ∧ 1 ≤ xs.length ∧ xs.length ≤ 8 ∧ (varsT (allT xs)).length ≤ 8)
theorem pureL_no {xs : List At} {nc : Nat} (h : ¬ ((∀ a ∈ xs, a.Pu) ∧ nc = 0 ∧ 1 ≤ xs.length ∧ xs.length ≤ 8 ∧ (varsT (allT xs)).length ≤ 8)) : pureL xs nc = false := decide_eq_false h
theorem pureL_yes {xs : List At} {nc : Nat} (h : (∀ a ∈ xs, a.Pu) ∧ nc = 0 ∧ 1 ≤ xs.length ∧ xs.length ≤ 8 ∧ (varsT (allT xs)).length ≤ 8) : pureL xs nc = true := decide_eq_true h
theorem pu_step {xs : List At} {i : Nat} (h : ∀ j (h : j < xs.length), j < i → xs[j].Pu) (hi : i < xs.length) (h1 : xs[i].Pu) : ∀ j (h : j < xs.length), j < i + 1 → xs[j].Pu := fun j hj hji => by
  rcases Nat.lt_or_ge j i with h2 | h2
  · exact h j hj h2
  · obtain rfl : j = i := by omega
    exact h1

set_option maxRecDepth 20000 in
set_option maxHeartbeats 3200000 in
theorem purerule_any {F : Nat → Prop} {w : World} {sv : Value} {Ac : Option Addr} {nc cc : Nat} {xs : List At} (h : Ats F w sv xs) (hbd : Bd xs) :
    Calls Tryd.prog 28 #[.agg #[sv, .slice Ac nc cc]] w (Ret (fun x _ => x = .bool (pureL xs nc)) w) := by
  obtain ⟨A, c, rfl, hc, hat⟩ := h.at'
  obtain ⟨n, hn⟩ : ∃ n, n = xs.length := ⟨_, rfl⟩
  rw [← hn] at hc ⊢
  have HA := Lib.hid h
  rw [← hn] at HA
  have HN := Lib.hid hn; have HAT := Lib.hid hat; have HBD := Lib.hid hbd
  have hl : n ≤ 1048576 := by rw [hn]; exact hbd.len
  clear hn hat h hbd
  by_cases h0 : ¬ nc = 0
  · have h1 : (0 : Int) < (nc : Int) := by omega
    have HNO : Hid (pureL xs nc = false) := Lib.hid (pureL_no (fun h => h0 h.2.1))
    rw [HNO.out]
    clear h0
    go_enter Tryd.func28, Tryd.ntmps28
    go_wp2_with fail
    go_ret
    exact Ret.mk ((Ext.refl w).alloc _) rfl
  obtain rfl : nc = 0 := by omega
  clear h0
  by_cases hz : n = 0
  · have HNO : Hid (pureL xs 0 = false) := Lib.hid (pureL_no (fun h => by have := HN.out; omega))
    rw [HNO.out]
    subst hz
    go_enter Tryd.func28, Tryd.ntmps28
    go_wp2_with fail
    go_ret
    exact Ret.mk ((Ext.refl w).alloc _) rfl
  have hz1 : ((n : Int) == 0) = false := by have : ¬ (n : Int) = 0 := by omega
                                            exact beq_false_of_ne this
  have hz3 : 0 < n := by omega
  have hz4 : ¬ (n : Int) = 0 := by omega
  clear hz
  by_cases h8 : ¬ n ≤ 8
  · have h9 : (8 : Int) < (n : Int) := by omega
    have HNO : Hid (pureL xs 0 = false) := Lib.hid (pureL_no (fun h => by have := HN.out; omega))
    rw [HNO.out]
    clear h8
    go_enter Tryd.func28, Tryd.ntmps28
    go_wp2_with fail
    go_ret
    exact Ret.mk ((Ext.refl w).alloc _) rfl
  replace h8 : n ≤ 8 := by omega
  have h9 : ¬ (8 : Int) < (n : Int) := by omega
  go_enter Tryd.func28, Tryd.ntmps28
  go_wp2_with fail
  have hx1 : Ext w (w.alloc (.cells #[.slice A n c, .slice Ac 0 cc] 25)) := (Ext.refl w).alloc _
  have k1 := Bk.new w 25 [.slice A n c, .slice Ac 0 cc]
  change Bk (w.alloc (.cells #[.slice A n c, .slice Ac 0 cc] 25)) _ _ _ at k1
  generalize (w.alloc (.cells #[.slice A n c, .slice Ac 0 cc] 25)) = w1 at *
  have HX1 := Lib.hid hx1; have HK1 := Lib.hid k1
  clear hx1 k1
  go_loopw [26] (fun q wr => ∃ i : Nat, i ≤ n ∧ q = .int .i64 (i : Int) ∧ (∀ j (h : j < xs.length), j < i → xs[j].Pu) ∧ Ext w1 wr) (fun q _ => n - (intOf q).toNat)
  case atStart => exact ⟨0, Nat.zero_le _, rfl, fun _ _ h => absurd h (by omega), Ext.refl _⟩
  case round =>
    obtain ⟨i, hi, rfl, hgo, hext⟩ := hrel
    have HGO := Lib.hid hgo
    have HE := Lib.hid hext
    clear hgo
    obtain ⟨wo, rfl⟩ : ∃ wo : World, wo = wr := ⟨_, rfl⟩
    by_cases hlt : i < n
    · have i1 : (0 : Int) ≤ (i : Int) := by omega
      have i2 : (i : Int) < (n : Int) := by omega
      have hix : i < xs.length := by have := HN.out; omega
      obtain ⟨ad, B, d, rfl, -, c0, c1, c2, hd, htc⟩ := HAT.out i hix
      have hxr := HX1.out.trans hext
      replace c0 := hxr.cell c0
      replace c1 := hxr.cell c1
      replace c2 := hxr.cell c2
      have htn := terms_le hix
      obtain ⟨a, ha⟩ : ∃ a, a = xs[i] := ⟨_, rfl⟩
      rw [← ha] at c0 c1 c2 hd htc htn
      obtain ⟨nt, hnt⟩ : ∃ nt, nt = a.terms.length := ⟨_, rfl⟩
      rw [← hnt] at c2 hd htn
      have HXR := Lib.hid hxr; have HAE := Lib.hid ha; have HNT := Lib.hid hnt; have HTC := Lib.hid htc
      have HBAD : Hid (¬ a.Pu → pureL xs 0 = false) := Lib.hid (fun hb => pureL_no (fun h => hb (by rw [ha]; exact h.1 _ (List.getElem_mem hix))))
      clear hnt hext hxr ha htc htn
      rcases hneg : a.neg with _ | _
      · rw [hneg] at c0
        have HNEG := Lib.hid hneg
        clear hneg
        by_cases h6 : nt ≤ 6
        · have h66 : ¬ (6 : Int) < (nt : Int) := by omega
          go_wp2_with fail
          have hx2 : Ext wo (wo.alloc (.cells #[.bool false, .string a.rel, .slice B nt d] 39)) := (Ext.refl wo).alloc _
          generalize (wo.alloc (.cells #[.bool false, .string a.rel, .slice B nt d] 39)) = w2 at *
          have HX2 := Lib.hid hx2
          clear hx2 c0 c1 c2
          go_loopw [41] (fun q wr => ∃ j : Nat, j ≤ nt ∧ q = .int .i64 (j : Int) ∧ (∀ k (h : k < a.terms.length), k < j → a.terms[k].Ok) ∧ Ext w2 wr) (fun q _ => nt - (intOf q).toNat)
          case atStart => exact ⟨0, Nat.zero_le _, rfl, fun _ _ h => absurd h (by omega), Ext.refl _⟩
          case round =>
            obtain ⟨j, hj, rfl, hok, hext2⟩ := hrel
            have HOK := Lib.hid hok; have HE2 := Lib.hid hext2
            clear hok
            by_cases hjt : j < nt
            · have j1 : (0 : Int) ≤ (j : Int) := by omega
              have j2 : (j : Int) < (nt : Int) := by omega
              have hjl : j < a.terms.length := by have := HNT.out; omega
              obtain ⟨ad2, rfl, -, d0, d1, d2, d3⟩ := HTC.out.term (i := j) hjl
              have hxw := (HXR.out.trans HX2.out).trans hext2
              replace d0 := hxw.cell d0
              replace d1 := hxw.cell d1
              replace d2 := hxw.cell d2
              replace d3 := hxw.cell d3
              obtain ⟨x, hx⟩ : ∃ x, x = a.terms[j] := ⟨_, rfl⟩
              rw [← hx] at d0 d1 d2 d3
              have HX := Lib.hid hx; have HXW := Lib.hid hxw
              clear hx hxw hext2
              have hnext : x.Ok → ∀ k (h : k < a.terms.length), k < j + 1 → a.terms[k].Ok := fun hxo k hk hkj => by
                rcases Nat.lt_or_ge k j with h | h
                · exact HOK.out k hk h
                · obtain rfl : k = j := by omega
                  rw [← HX.out]; exact hxo
              have HNX := Lib.hid hnext
              clear hnext
              by_cases hv : x.var = ⟨#[]⟩
              · have hve := var_eq hv
                have HV := Lib.hid hv
                clear hv
                go_wp2_with fail
                go_roundw
                case rel => exact ⟨j + 1, by omega, by go_num, HNX.out (.inl HV.out), HE2.out.alloc _⟩
                case measure => simp [intOf]; omega
              · have hve := var_ne hv
                by_cases hz : x.kind = 0 ∧ x.int = 0 ∧ x.str = ⟨#[]⟩
                · have HZ := Lib.hid hz
                  rw [hz.1] at d1
                  rw [hz.2.1] at d2
                  rw [hz.2.2] at d3
                  clear hz hv
                  go_wp2_with fail
                  go_roundw
                  case rel => exact ⟨j + 1, by omega, by go_num, HNX.out (.inr HZ.out), HE2.out.alloc _⟩
                  case measure => simp [intOf]; omega
                · have HZ := Lib.hid hz; have HV := Lib.hid hv
                  clear hz hv
                  go_wp2_with fail
                  all_goals first
                    | (exfalso; exact HZ.out ⟨by assumption, by assumption, str_nil (by assumption)⟩)
                    | (go_ret
                       rw [HBAD.out (fun h => by
                         have h1 := h.1.2 x (by rw [HX.out]; exact List.getElem_mem _)
                         rcases h1 with h1 | h1
                         · exact HV.out h1
                         · exact HZ.out h1)]
                       exact Ret.mk (HXW.out.alloc _) rfl)
            · obtain rfl : j = nt := by omega
              have hdn : ¬ (j : Int) < (j : Int) := by omega
              go_wp2_with fail
              go_roundw
              case rel =>
                refine ⟨i + 1, by omega, by go_num, pu_step HGO.out hix ?_, (HE.out.trans HX2.out).trans HE2.out⟩
                rw [← HAE.out]
                refine ⟨⟨HNEG.out, fun t ht => ?_⟩, by rw [← HNT.out]; exact h6⟩
                obtain ⟨m, hm, rfl⟩ := List.getElem_of_mem ht
                exact HOK.out m hm (by have := HNT.out; omega)
              case measure => simp [intOf]; omega
        · have h66 : (6 : Int) < (nt : Int) := by omega
          go_wp2_with fail
          go_ret
          rw [HBAD.out (fun h => by have h1 := h.2; have := HNT.out; omega)]
          exact Ret.mk (HXR.out.alloc _) rfl
      · rw [hneg] at c0
        have HNEG := Lib.hid hneg
        clear hneg
        go_wp2_with fail
        go_ret
        rw [HBAD.out (fun h => by have := h.1.1; rw [HNEG.out] at this; cases this)]
        exact Ret.mk (HXR.out.alloc _) rfl
    · obtain rfl : i = n := by omega
      have hdn : ¬ (i : Int) < (i : Int) := by omega
      have e0 := (HK1.out.ext hext).cell (i := 0) (by simp)
      have e1 := (HK1.out.ext hext).cell (i := 1) (by simp)
      simp only [List.getElem_cons_zero, List.getElem_cons_succ] at e0 e1
      have hall : ∀ a ∈ xs, a.Pu := fun a ha => by
        obtain ⟨j, hj, rfl⟩ := List.getElem_of_mem ha
        exact HGO.out j hj (by have := HN.out; omega)
      have HALL := Lib.hid hall
      have hx := HX1.out.trans hext
      have HXX := Lib.hid hx
      have HCALL := Lib.hid (vars_any (Ac := Ac) (cc := cc) (HA.out.ext hx) HBD.out)
      obtain ⟨nv, hnv⟩ : ∃ k, k = (varsT (allT xs)).length := ⟨_, rfl⟩
      rw [← hnv] at HCALL
      have HNV := Lib.hid hnv
      clear hall hx hnv hext
      go_wp2_with fail
      refine HCALL.out.mono ?_
      rintro e w3 ⟨vv, rfl, he3, hrv⟩
      obtain ⟨Av, cv, rfl⟩ := own_slice hrv
      have HX3 := Lib.hid (HXX.out.trans he3)
      clear he3 hrv
      by_cases hv8 : nv ≤ 8
      · have hv9 : (nv : Int) ≤ 8 := by omega
        have HYES : Hid (pureL xs 0 = true) := Lib.hid (pureL_yes ⟨HALL.out, rfl, by have := HN.out; omega, by have := HN.out; omega, by have := HNV.out; omega⟩)
        go_wp2_with fail
        go_ret
        rw [HYES.out]
        exact Ret.mk HX3.out rfl
      · have hv9 : decide ((nv : Int) ≤ 8) = false := decide_eq_false (by omega)
        have HNO : Hid (pureL xs 0 = false) := Lib.hid (pureL_no (fun h => by have := HNV.out; omega))
        go_wp2_with fail
        go_ret
        rw [HNO.out]
        exact Ret.mk HX3.out rfl

set_option maxRecDepth 20000 in
set_option maxHeartbeats 3200000 in
theorem pure25 {F : Nat → Prop} {w : World} {sv : Value} {Ac : Option Addr} {nc cc : Nat} {xs : List At} (h : Ats F w sv xs) (hbd : Bd xs) :
    Calls Tryd.prog 12 #[.agg #[sv, .slice Ac nc cc]] w (Ret (fun x _ => x = .bool (pureL xs nc)) w) := by
  obtain ⟨A, c, rfl, hc, hat⟩ := h.at'
  obtain ⟨n, hn⟩ : ∃ n, n = xs.length := ⟨_, rfl⟩
  rw [← hn] at hc ⊢
  have HA := Lib.hid h
  rw [← hn] at HA
  have HN := Lib.hid hn; have HAT := Lib.hid hat; have HBD := Lib.hid hbd
  have hl : n ≤ 1048576 := by rw [hn]; exact hbd.len
  clear hn hat h hbd
  go_enter Tryd.func12, Tryd.ntmps12
  go_wp2_with fail
  have hx1 : Ext w (w.alloc (.cells #[.slice A n c, .slice Ac nc cc] 25)) := (Ext.refl w).alloc _
  have k1 := Bk.new w 25 [.slice A n c, .slice Ac nc cc]
  change Bk (w.alloc (.cells #[.slice A n c, .slice Ac nc cc] 25)) _ _ _ at k1
  generalize (w.alloc (.cells #[.slice A n c, .slice Ac nc cc] 25)) = w1 at *
  have HX1 := Lib.hid hx1; have HK1 := Lib.hid k1
  clear hx1 k1
  go_loopw [3] (fun q wr => ∃ i : Nat, i ≤ n ∧ q = .int .i64 (i : Int) ∧ (∀ j (h : j < xs.length), j < i → xs[j].Pu) ∧ Ext w1 wr) (fun q _ => n - (intOf q).toNat)
  case atStart => exact ⟨0, Nat.zero_le _, rfl, fun _ _ h => absurd h (by omega), Ext.refl _⟩
  case round =>
    obtain ⟨i, hi, rfl, hgo, hext⟩ := hrel
    have HGO := Lib.hid hgo
    have HE := Lib.hid hext
    clear hgo
    obtain ⟨wo, rfl⟩ : ∃ wo : World, wo = wr := ⟨_, rfl⟩
    have b0 := (HK1.out.ext hext).cell (i := 0) (by simp)
    have b1 := (HK1.out.ext hext).cell (i := 1) (by simp)
    simp only [List.getElem_cons_zero, List.getElem_cons_succ] at b0 b1
    by_cases hlt : i < n
    · have i1 : (0 : Int) ≤ (i : Int) := by omega
      have i2 : (i : Int) < (n : Int) := by omega
      have hix : i < xs.length := by have := HN.out; omega
      obtain ⟨ad, B, d, rfl, -, c0, c1, c2, hd, htc⟩ := HAT.out i hix
      have hxr := HX1.out.trans hext
      replace c0 := hxr.cell c0
      replace c1 := hxr.cell c1
      replace c2 := hxr.cell c2
      have htn := terms_le hix
      obtain ⟨a, ha⟩ : ∃ a, a = xs[i] := ⟨_, rfl⟩
      rw [← ha] at c0 c1 c2 hd htc htn
      obtain ⟨nt, hnt⟩ : ∃ nt, nt = a.terms.length := ⟨_, rfl⟩
      rw [← hnt] at c2 hd htn
      have HXR := Lib.hid hxr; have HAE := Lib.hid ha; have HNT := Lib.hid hnt; have HTC := Lib.hid htc
      have HBAD : Hid (¬ a.Pu → pureL xs nc = false) := Lib.hid (fun hb => pureL_no (fun h => hb (by rw [ha]; exact h.1 _ (List.getElem_mem hix))))
      clear hnt hext hxr ha htc htn
      rcases hneg : a.neg with _ | _
      · rw [hneg] at c0
        have HNEG := Lib.hid hneg
        clear hneg
        by_cases h6 : nt ≤ 6
        · have h66 : ¬ (6 : Int) < (nt : Int) := by omega
          have HCC := Lib.hid (And.intro b0 c2)
          go_wp2_with fail
          clear b0 b1 c0 c1 c2
          go_loopw [4] (fun q wr => ∃ j : Nat, j ≤ nt ∧ q = .int .i64 (j : Int) ∧ (∀ k (h : k < a.terms.length), k < j → a.terms[k].Ok) ∧ Ext wo wr) (fun q _ => nt - (intOf q).toNat)
          case atStart => exact ⟨0, Nat.zero_le _, rfl, fun _ _ h => absurd h (by omega), Ext.refl _⟩
          case round =>
            obtain ⟨j, hj, rfl, hok, hext2⟩ := hrel
            have HOK := Lib.hid hok; have HE2 := Lib.hid hext2
            obtain ⟨b0, c2⟩ := HCC.out
            replace b0 := hext2.cell b0
            replace c2 := hext2.cell c2
            clear hok
            by_cases hjt : j < nt
            · have j1 : (0 : Int) ≤ (j : Int) := by omega
              have j2 : (j : Int) < (nt : Int) := by omega
              have hjl : j < a.terms.length := by have := HNT.out; omega
              obtain ⟨ad2, rfl, -, d0, d1, d2, d3⟩ := HTC.out.term (i := j) hjl
              have hxw := HXR.out.trans hext2
              replace d0 := hxw.cell d0
              replace d1 := hxw.cell d1
              replace d2 := hxw.cell d2
              replace d3 := hxw.cell d3
              obtain ⟨x, hx⟩ : ∃ x, x = a.terms[j] := ⟨_, rfl⟩
              rw [← hx] at d0 d1 d2 d3
              have HX := Lib.hid hx; have HXW := Lib.hid hxw
              clear hx hxw hext2
              have hnext : x.Ok → ∀ k (h : k < a.terms.length), k < j + 1 → a.terms[k].Ok := fun hxo k hk hkj => by
                rcases Nat.lt_or_ge k j with h | h
                · exact HOK.out k hk h
                · obtain rfl : k = j := by omega
                  rw [← HX.out]; exact hxo
              have HNX := Lib.hid hnext
              clear hnext
              by_cases hv : x.var = ⟨#[]⟩
              · have hve := var_eq hv
                have HV := Lib.hid hv
                clear hv
                go_wp2_with fail
                go_roundw
                case rel => exact ⟨j + 1, by omega, by go_num, HNX.out (.inl HV.out), HE2.out⟩
                case measure => simp [intOf]; omega
              · have hve := var_ne hv
                by_cases hz : x.kind = 0 ∧ x.int = 0 ∧ x.str = ⟨#[]⟩
                · have HZ := Lib.hid hz
                  rw [hz.1] at d1
                  rw [hz.2.1] at d2
                  rw [hz.2.2] at d3
                  clear hz hv
                  go_wp2_with fail
                  go_roundw
                  case rel => exact ⟨j + 1, by omega, by go_num, HNX.out (.inr HZ.out), HE2.out⟩
                  case measure => simp [intOf]; omega
                · have HZ := Lib.hid hz; have HV := Lib.hid hv
                  clear hz hv
                  go_wp2_with fail
                  all_goals first
                    | (exfalso; exact HZ.out ⟨by assumption, by assumption, str_nil (by assumption)⟩)
                    | (go_ret
                       rw [HBAD.out (fun h => by
                         have h1 := h.1.2 x (by rw [HX.out]; exact List.getElem_mem _)
                         rcases h1 with h1 | h1
                         · exact HV.out h1
                         · exact HZ.out h1)]
                       exact Ret.mk HXW.out rfl)
            · obtain rfl : j = nt := by omega
              have hdn : ¬ (j : Int) < (j : Int) := by omega
              go_wp2_with fail
              go_roundw
              case rel =>
                refine ⟨i + 1, by omega, by go_num, pu_step HGO.out hix ?_, HE.out.trans HE2.out⟩
                rw [← HAE.out]
                refine ⟨⟨HNEG.out, fun t ht => ?_⟩, by rw [← HNT.out]; exact h6⟩
                obtain ⟨m, hm, rfl⟩ := List.getElem_of_mem ht
                exact HOK.out m hm (by have := HNT.out; omega)
              case measure => simp [intOf]; omega
        · have h66 : (6 : Int) < (nt : Int) := by omega
          go_wp2_with fail
          go_ret
          rw [HBAD.out (fun h => by have h1 := h.2; have := HNT.out; omega)]
          exact Ret.mk HXR.out rfl
      · rw [hneg] at c0
        have HNEG := Lib.hid hneg
        clear hneg
        go_wp2_with fail
        go_ret
        rw [HBAD.out (fun h => by have := h.1.1; rw [HNEG.out] at this; cases this)]
        exact Ret.mk HXR.out rfl
    · obtain rfl : i = n := by omega
      have hdn : ¬ (i : Int) < (i : Int) := by omega
      have hall : ∀ a ∈ xs, a.Pu := fun a ha => by
        obtain ⟨j, hj, rfl⟩ := List.getElem_of_mem ha
        exact HGO.out j hj (by have := HN.out; omega)
      have HALL := Lib.hid hall
      have hx := HX1.out.trans hext
      have HXX := Lib.hid hx
      have HCALL := Lib.hid (vars25 (HA.out.ext hx) HBD.out.len HBD.out.all)
      obtain ⟨nv, hnv⟩ : ∃ k, k = (varsT (allT xs)).length := ⟨_, rfl⟩
      rw [← hnv] at HCALL
      have HNV := Lib.hid hnv
      clear hall hx hnv hext
      by_cases h0 : ¬ nc = 0
      · have h1 : ((nc : Int) == 0) = false := by have : ¬ (nc : Int) = 0 := by omega
                                                  exact beq_false_of_ne this
        have HNO : Hid (pureL xs nc = false) := Lib.hid (pureL_no (fun h => h0 h.2.1))
        clear h0
        go_wp2_with fail
        go_ret
        rw [HNO.out]
        exact Ret.mk HXX.out rfl
      obtain rfl : nc = 0 := by omega
      clear h0
      by_cases hz : ¬ 1 ≤ i
      · have hz1 : ¬ (1 : Int) ≤ (i : Int) := by omega
        have HNO : Hid (pureL xs 0 = false) := Lib.hid (pureL_no (fun h => by have := HN.out; omega))
        clear hz
        go_wp2_with fail
        go_ret
        rw [HNO.out]
        exact Ret.mk HXX.out rfl
      have hz1 : (1 : Int) ≤ (i : Int) := by omega
      by_cases h8 : ¬ i ≤ 8
      · have h9 : ¬ (i : Int) ≤ 8 := by omega
        have HNO : Hid (pureL xs 0 = false) := Lib.hid (pureL_no (fun h => by have := HN.out; omega))
        clear h8
        go_wp2_with fail
        go_ret
        rw [HNO.out]
        exact Ret.mk HXX.out rfl
      have h9 : (i : Int) ≤ 8 := by omega
      go_wp2_with fail
      refine HCALL.out.mono ?_
      rintro e w3 ⟨vv, rfl, he3, hrv⟩
      obtain ⟨Av, cv, rfl⟩ := own_slice hrv
      have HX3 := Lib.hid (HXX.out.trans he3)
      clear he3 hrv
      by_cases hv8 : nv ≤ 8
      · have hv9 : (nv : Int) ≤ 8 := by omega
        have HYES : Hid (pureL xs 0 = true) := Lib.hid (pureL_yes ⟨HALL.out, rfl, by have := HN.out; omega, by have := HN.out; omega, by have := HNV.out; omega⟩)
        go_wp2_with fail
        go_ret
        rw [HYES.out]
        exact Ret.mk HX3.out rfl
      · have hv9 : decide ((nv : Int) ≤ 8) = false := decide_eq_false (by omega)
        have HNO : Hid (pureL xs 0 = false) := Lib.hid (pureL_no (fun h => by have := HNV.out; omega))
        go_wp2_with fail
        go_ret
        rw [HNO.out]
        exact Ret.mk HX3.out rfl
end Go.Proofs.YtehklbdgkppmeaaDoor
