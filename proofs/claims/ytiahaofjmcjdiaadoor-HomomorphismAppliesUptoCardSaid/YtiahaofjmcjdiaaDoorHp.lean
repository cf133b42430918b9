/- Contracts: ordinallaw24.pure, homomorphism.pure. -/
import Derived.Test.YtiahaofjmcjdiaaDoorHt
namespace Go.Proofs.YtiahaofjmcjdiaaDoor
open Go.RowKit

/-- Atom i, with the slice of its terms. -/
theorem Ats.at' {F : Nat → Prop} {w : World} {v : Value} {xs : List At} (h : Ats F w v xs) : ∃ A c, v = .slice A xs.length c ∧ xs.length ≤ c ∧ ∀ i (hi : i < xs.length), ∃ ad B d, A = some ad ∧ F ad.block ∧
    w.cell? (ad.add (i * 3)) = some (.bool xs[i].neg) ∧ w.cell? ⟨(ad.add (i * 3)).block, (ad.add (i * 3)).off + 1, none⟩ = some (.string xs[i].rel) ∧ w.cell? ⟨(ad.add (i * 3)).block, (ad.add (i * 3)).off + 2, none⟩ = some (.slice B xs[i].terms.length d) ∧ xs[i].terms.length ≤ d ∧ Cl F w B (tcells xs[i].terms) := by
  obtain ⟨A, c, vs, rfl, hc, hvs, hcl, hts⟩ := h
  refine ⟨A, c, rfl, hc, fun i hi => ?_⟩
  obtain ⟨ad, h1, h2, c0, c1, c2⟩ := hcl.atom (i := i) hi (by omega)
  obtain ⟨B, d, e, hd, hc2⟩ := hts i hi (by omega)
  rw [e] at c2
  exact ⟨ad, B, d, h1, h2, c0, c1, c2, hd, hc2⟩
theorem terms_le {xs : List At} {i : Nat} (hi : i < xs.length) : xs[i].terms.length ≤ (allT xs).length := by
  have h1 := allT_le (xs := xs) (i + 1)
  rw [allT_take hi, List.length_append] at h1
  omega

/-- A term that is not both a variable and a constant. -/
def Tm.Ok (t : Tm) : Prop := t.var = ⟨#[]⟩ ∨ (t.kind = 0 ∧ t.int = 0 ∧ t.str = ⟨#[]⟩)
instance (t : Tm) : Decidable t.Ok := by unfold Tm.Ok; infer_instance
def At.Good (a : At) : Prop := a.neg = false ∧ ∀ t ∈ a.terms, t.Ok
instance (a : At) : Decidable a.Good := by unfold At.Good; infer_instance

def lpureB (xs : List At) (nc : Nat) : Bool := decide ((∀ a ∈ xs, a.neg = false) ∧ nc = 0)

set_option maxRecDepth 20000 in
set_option maxHeartbeats 800000 in
theorem lpure_any {F : Nat → Prop} {w : World} {sv : Value} {Ac : Option Addr} {nc cc : Nat} {xs : List At} (h : Ats F w sv xs) (hl : xs.length ≤ 1048576) :
    Calls Tryd.prog 10 #[.agg #[sv, .slice Ac nc cc]] w (Ret (fun x _ => x = .bool (lpureB xs nc)) w) := by
  obtain ⟨A, c, rfl, hc, hat⟩ := h.at'
  obtain ⟨n, hn⟩ : ∃ n, n = xs.length := ⟨_, rfl⟩
  rw [← hn] at hc hl ⊢
  have HN := Lib.hid hn; have HAT := Lib.hid hat
  clear hn hat h
  go_enter Tryd.func10, Tryd.ntmps10
  go_wp2_with fail
  have hx1 : Ext w (w.alloc (.cells #[.slice A n c, .slice Ac nc cc] 25)) := (Ext.refl w).alloc _
  have k1 := Bk.new w 25 [.slice A n c, .slice Ac nc cc]
  change Bk (w.alloc (.cells #[.slice A n c, .slice Ac nc cc] 25)) _ _ _ at k1
  generalize (w.alloc (.cells #[.slice A n c, .slice Ac nc cc] 25)) = w1 at *
  have HX1 := Lib.hid hx1
  clear hx1
  go_loopw [8] (fun q wr => ∃ i : Nat, i ≤ n ∧ q = .int .i64 (i : Int) ∧ (∀ j (h : j < xs.length), j < i → xs[j].neg = false) ∧ Ext w1 wr) (fun q _ => n - (intOf q).toNat)
  case atStart => exact ⟨0, Nat.zero_le _, rfl, fun _ _ h => absurd h (by omega), Ext.refl _⟩
  case round =>
    obtain ⟨i, hi, rfl, hgo, hext⟩ := hrel
    have HGO := Lib.hid hgo
    have HE := Lib.hid hext
    clear hgo
    by_cases hlt : i < n
    · have i1 : (0 : Int) ≤ (i : Int) := by omega
      have i2 : (i : Int) < (n : Int) := by omega
      have hix : i < xs.length := by have := HN.out; omega
      obtain ⟨ad, B, d, rfl, -, c0, c1, c2, -, -⟩ := HAT.out i hix
      have hxr := HX1.out.trans hext
      replace c0 := hxr.cell c0
      replace c1 := hxr.cell c1
      replace c2 := hxr.cell c2
      obtain ⟨nt, hnt⟩ : ∃ nt, nt = xs[i].terms.length := ⟨_, rfl⟩
      rw [← hnt] at c2
      have HXR := Lib.hid hxr
      clear hnt hext hxr
      rcases hneg : xs[i].neg with _ | _
      · rw [hneg] at c0
        have HNEG := Lib.hid hneg
        clear hneg
        generalize xs[i].rel = rl at *
        go_wp2_with fail
        go_roundw
        case rel =>
          refine ⟨i + 1, by omega, by go_num, fun j hj hji => ?_, HE.out.alloc _⟩
          rcases Nat.lt_or_ge j i with h | h
          · exact HGO.out j hj h
          · obtain rfl : j = i := by omega
            exact HNEG.out
        case measure => simp [intOf]; omega
      · rw [hneg] at c0
        have HNEG := Lib.hid hneg
        clear hneg
        generalize xs[i].rel = rl at *
        go_wp2_with fail
        go_ret
        rw [lpureB, decide_eq_false (fun h => by have := h.1 _ (List.getElem_mem hix); rw [HNEG.out] at this; cases this)]
        exact Ret.mk (HXR.out.alloc _) rfl
    · obtain rfl : i = n := by omega
      have hdn : ¬ (i : Int) < (i : Int) := by omega
      have e1 := (k1.ext hext).cell (i := 1) (by simp)
      simp only [List.getElem_cons_zero, List.getElem_cons_succ] at e1
      have hall : ∀ a ∈ xs, a.neg = false := fun a ha => by
        obtain ⟨j, hj, rfl⟩ := List.getElem_of_mem ha
        exact HGO.out j hj (by have := HN.out; omega)
      have HALL := Lib.hid hall
      clear hall
      have hb : ∀ nc, lpureB xs nc = decide (nc = 0) := fun nc => decide_eq_decide.2 ⟨fun h => h.2, fun h => ⟨HALL.out, h⟩⟩
      have HB := Lib.hid hb
      clear hb
      by_cases h0 : nc = 0
      · subst h0
        go_wp2_with fail
        go_ret
        rw [HB.out 0]
        exact Ret.mk (HX1.out.trans HE.out) rfl
      · have h0' : ((nc : Int) == 0) = false := by have : ¬ (nc : Int) = 0 := by omega
                                                   exact beq_false_of_ne this
        have H0 := Lib.hid h0
        clear h0
        go_wp2_with fail
        go_ret
        rw [HB.out nc, decide_eq_false H0.out]
        exact Ret.mk (HX1.out.trans HE.out) rfl
def hpureB (xs : List At) (nc : Nat) : Bool := decide ((∀ a ∈ xs, a.Good) ∧ nc = 0)
theorem ok_of_empty {t : Tm} (h : t.var = ⟨#[]⟩) : t.Ok := .inl h
theorem var_ne {s : ByteArray} (h : ¬ s = ⟨#[]⟩) : s.toList.isEmpty = false := by rw [var_empty, decide_eq_false h]
theorem var_eq {s : ByteArray} (h : s = ⟨#[]⟩) : s.toList.isEmpty = true := by rw [var_empty, decide_eq_true h]
theorem str_nil {s : ByteArray} (h : s.toList = []) : s = ⟨#[]⟩ := toList_inj (by rw [h, nil_toList])

set_option maxRecDepth 20000 in
set_option maxHeartbeats 1600000 in
theorem hpure_any {F : Nat → Prop} {w : World} {sv : Value} {Ac : Option Addr} {nc cc : Nat} {xs : List At} (h : Ats F w sv xs) (hl : xs.length ≤ 1048576) (hal : (allT xs).length ≤ 1048576) :
    Calls Tryd.prog 22 #[.agg #[sv, .slice Ac nc cc]] w (Ret (fun x _ => x = .bool (hpureB xs nc)) w) := by
  obtain ⟨A, c, rfl, hc, hat⟩ := h.at'
  obtain ⟨n, hn⟩ : ∃ n, n = xs.length := ⟨_, rfl⟩
  rw [← hn] at hc hl ⊢
  have HN := Lib.hid hn; have HAT := Lib.hid hat; have HAL := Lib.hid hal
  clear hn hat h hal
  go_enter Tryd.func22, Tryd.ntmps22
  go_wp2_with fail
  have hx1 : Ext w (w.alloc (.cells #[.slice A n c, .slice Ac nc cc] 25)) := (Ext.refl w).alloc _
  have k1 := Bk.new w 25 [.slice A n c, .slice Ac nc cc]
  change Bk (w.alloc (.cells #[.slice A n c, .slice Ac nc cc] 25)) _ _ _ at k1
  generalize (w.alloc (.cells #[.slice A n c, .slice Ac nc cc] 25)) = w1 at *
  have HX1 := Lib.hid hx1
  clear hx1
  go_loopw [10] (fun q wr => ∃ i : Nat, i ≤ n ∧ q = .int .i64 (i : Int) ∧ (∀ j (h : j < xs.length), j < i → xs[j].Good) ∧ Ext w1 wr) (fun q _ => n - (intOf q).toNat)
  case atStart => exact ⟨0, Nat.zero_le _, rfl, fun _ _ h => absurd h (by omega), Ext.refl _⟩
  case round =>
    obtain ⟨i, hi, rfl, hgo, hext⟩ := hrel
    have HGO := Lib.hid hgo
    have HE := Lib.hid hext
    clear hgo
    obtain ⟨wo, rfl⟩ : ∃ wo : World, wo = wr := ⟨_, rfl⟩
    by_cases hlt : i < n
    · have i1 : (0 : Int) ≤ (i : Int) := by omega
      have i2 : (i : Int) < (n : Int) := by omega
      have hix : i < xs.length := by have := HN.out; omega
      obtain ⟨ad, B, d, rfl, -, c0, c1, c2, hd, htc⟩ := HAT.out i hix
      have hxr := HX1.out.trans hext
      replace c0 := hxr.cell c0
      replace c1 := hxr.cell c1
      replace c2 := hxr.cell c2
      have htn := terms_le hix
      obtain ⟨a, ha⟩ : ∃ a, a = xs[i] := ⟨_, rfl⟩
      rw [← ha] at c0 c1 c2 hd htc htn
      obtain ⟨nt, hnt⟩ : ∃ nt, nt = a.terms.length := ⟨_, rfl⟩
      rw [← hnt] at c2 hd htn
      have hnt2 : nt ≤ 1048576 := by have := HAL.out; omega
      have HXR := Lib.hid hxr; have HA := Lib.hid ha; have HNT := Lib.hid hnt; have HTC := Lib.hid htc
      clear hnt hext hxr ha htc htn
      rcases hneg : a.neg with _ | _
      · rw [hneg] at c0
        have HNEG := Lib.hid hneg
        clear hneg
        go_wp2_with fail
        have hx2 : Ext wo (wo.alloc (.cells #[.bool false, .string a.rel, .slice B nt d] 61)) := (Ext.refl wo).alloc _
        generalize (wo.alloc (.cells #[.bool false, .string a.rel, .slice B nt d] 61)) = w2 at *
        have HX2 := Lib.hid hx2
        clear hx2 c0 c1 c2
        go_loopw [19] (fun q wr => ∃ j : Nat, j ≤ nt ∧ q = .int .i64 (j : Int) ∧ (∀ k (h : k < a.terms.length), k < j → a.terms[k].Ok) ∧ Ext w2 wr) (fun q _ => nt - (intOf q).toNat)
        case atStart => exact ⟨0, Nat.zero_le _, rfl, fun _ _ h => absurd h (by omega), Ext.refl _⟩
        case round =>
          obtain ⟨j, hj, rfl, hok, hext2⟩ := hrel
          have HOK := Lib.hid hok; have HE2 := Lib.hid hext2
          clear hok
          by_cases hjt : j < nt
          · have j1 : (0 : Int) ≤ (j : Int) := by omega
            have j2 : (j : Int) < (nt : Int) := by omega
            have hjl : j < a.terms.length := by have := HNT.out; omega
            obtain ⟨ad2, rfl, -, d0, d1, d2, d3⟩ := HTC.out.term (i := j) hjl
            have hxw := (HXR.out.trans HX2.out).trans hext2
            replace d0 := hxw.cell d0
            replace d1 := hxw.cell d1
            replace d2 := hxw.cell d2
            replace d3 := hxw.cell d3
            obtain ⟨x, hx⟩ : ∃ x, x = a.terms[j] := ⟨_, rfl⟩
            rw [← hx] at d0 d1 d2 d3
            have HX := Lib.hid hx; have HXW := Lib.hid hxw
            clear hx hxw hext2
            have hnext : x.Ok → ∀ k (h : k < a.terms.length), k < j + 1 → a.terms[k].Ok := fun hxo k hk hkj => by
              rcases Nat.lt_or_ge k j with h | h
              · exact HOK.out k hk h
              · obtain rfl : k = j := by omega
                rw [← HX.out]; exact hxo
            have HNX := Lib.hid hnext
            clear hnext
            by_cases hv : x.var = ⟨#[]⟩
            · have hve := var_eq hv
              have HV := Lib.hid hv
              clear hv
              go_wp2_with fail
              go_roundw
              case rel => exact ⟨j + 1, by omega, by go_num, HNX.out (.inl HV.out), HE2.out.alloc _⟩
              case measure => simp [intOf]; omega
            · have hve := var_ne hv
              by_cases hz : x.kind = 0 ∧ x.int = 0 ∧ x.str = ⟨#[]⟩
              · have HZ := Lib.hid hz
                rw [hz.1] at d1
                rw [hz.2.1] at d2
                rw [hz.2.2] at d3
                clear hz hv
                go_wp2_with fail
                go_roundw
                case rel => exact ⟨j + 1, by omega, by go_num, HNX.out (.inr HZ.out), HE2.out.alloc _⟩
                case measure => simp [intOf]; omega
              · have HZ := Lib.hid hz; have HV := Lib.hid hv
                clear hz hv
                go_wp2_with fail
                all_goals first
                  | (exfalso; exact HZ.out ⟨by assumption, by assumption, str_nil (by assumption)⟩)
                  | (go_ret
                     rw [hpureB, decide_eq_false (fun h => by
                       have h1 := (h.1 _ (List.getElem_mem hix)).2 x (by rw [← HA.out, HX.out]; exact List.getElem_mem _)
                       rcases h1 with h1 | h1
                       · exact HV.out h1
                       · exact HZ.out h1)]
                     exact Ret.mk (HXW.out.alloc _) rfl)
          · obtain rfl : j = nt := by omega
            have hdn : ¬ (j : Int) < (j : Int) := by omega
            go_wp2_with fail
            go_roundw
            case rel =>
              refine ⟨i + 1, by omega, by go_num, fun k hk hki => ?_, (HE.out.trans HX2.out).trans HE2.out⟩
              rcases Nat.lt_or_ge k i with h | h
              · exact HGO.out k hk h
              · obtain rfl : k = i := by omega
                rw [← HA.out]
                refine ⟨HNEG.out, fun t ht => ?_⟩
                obtain ⟨m, hm, rfl⟩ := List.getElem_of_mem ht
                exact HOK.out m hm (by have := HNT.out; omega)
            case measure => simp [intOf]; omega
      · rw [hneg] at c0
        have HNEG := Lib.hid hneg
        clear hneg
        go_wp2_with fail
        go_ret
        rw [hpureB, decide_eq_false (fun h => by have := (h.1 _ (List.getElem_mem hix)).1; rw [← HA.out, HNEG.out] at this; cases this)]
        exact Ret.mk (HXR.out.alloc _) rfl
    · obtain rfl : i = n := by omega
      have hdn : ¬ (i : Int) < (i : Int) := by omega
      have e1 := (k1.ext hext).cell (i := 1) (by simp)
      simp only [List.getElem_cons_zero, List.getElem_cons_succ] at e1
      have hall : ∀ a ∈ xs, a.Good := fun a ha => by
        obtain ⟨j, hj, rfl⟩ := List.getElem_of_mem ha
        exact HGO.out j hj (by have := HN.out; omega)
      have HALL := Lib.hid hall
      clear hall
      have hb : ∀ nc, hpureB xs nc = decide (nc = 0) := fun nc => decide_eq_decide.2 ⟨fun h => h.2, fun h => ⟨HALL.out, h⟩⟩
      have HB := Lib.hid hb
      clear hb
      by_cases h0 : nc = 0
      · subst h0
        go_wp2_with fail
        go_ret
        rw [HB.out 0]
        exact Ret.mk (HX1.out.trans HE.out) rfl
      · have h0' : ((nc : Int) == 0) = false := by have : ¬ (nc : Int) = 0 := by omega
                                                   exact beq_false_of_ne this
        have H0 := Lib.hid h0
        clear h0
        go_wp2_with fail
        go_ret
        rw [HB.out nc, decide_eq_false H0.out]
        exact Ret.mk (HX1.out.trans HE.out) rfl
end Go.Proofs.YtiahaofjmcjdiaaDoor
