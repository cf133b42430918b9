/- Contract: ordinallaw24.great. -/
import Derived.Test.YtiahaofjmcjdiaaDoorHp
namespace Go.Proofs.YtiahaofjmcjdiaaDoor
open Go.RowKit

theorem Ats.mono {F G : Nat → Prop} {w : World} {v : Value} {xs : List At} (h : Ats F w v xs) (hs : ∀ k, k < w.heap.size → F k → G k) : Ats G w v xs :=
  let ⟨A, c, vs, h1, h2, h3, h4, h5⟩ := h; ⟨A, c, vs, h1, h2, h3, h4.mono hs, fun i h h' => (h5 i h h').mono hs⟩
/-- Bounds that every input of the second form meets. -/
structure Bd (xs : List At) : Prop where
  len : xs.length ≤ 1048576
  all : (allT xs).length ≤ 1048576
  rel : ∀ a ∈ xs, a.rel.size ≤ 1048576
  str : ∀ a ∈ xs, ∀ t ∈ a.terms, t.var.size ≤ 1048576 ∧ t.str.size ≤ 1048576
/-- The numbers' atoms of a rule by itself. -/
def rats (xs : List At) : List RAt := xs.map (rat (tabT [] (allT xs)))
structure Small (xs : List At) (nc : Nat) : Prop where
  len : xs.length ≤ 5
  terms : ∀ a ∈ xs, a.terms.length ≤ 6 ∧ a.rel.size ≤ 60
  str : ∀ a ∈ xs, ∀ t ∈ a.terms, t.var.size + t.str.size ≤ 60 ∧ t.Ok
  conds : nc ≤ 5
  vars : (termsL true (allR (rats xs))).length ≤ 4
  all : (termsL false (allR (rats xs))).length ≤ 6
theorem allR_rats (xs : List At) (ts : List Tm) : allR (xs.map (rat ts)) = (allT xs).map (numT ts) := by
  induction xs with
  | nil => rfl
  | cons a xs ih => simp only [allR, allT, List.map_cons, List.flatMap_cons, List.map_append] at ih ⊢; rw [ih]; rfl
def GreatOut (xs : List At) (nc : Nat) (x : Value) : Prop := ∃ b, x = .bool b ∧ (b = false → Small xs nc)
theorem int_gt {a b : Nat} (h : b < a) : decide ((b : Int) < (a : Int)) = true := decide_eq_true (by omega)
theorem int_le {a b : Nat} (h : ¬ b < a) : decide ((b : Int) < (a : Int)) = false := decide_eq_false (by omega)

set_option maxRecDepth 20000 in
set_option maxHeartbeats 1600000 in
theorem great_any {F : Nat → Prop} {w : World} {sv : Value} {Ac : Option Addr} {nc cc : Nat} {xs : List At} (h : Ats F w sv xs) (hbd : Bd xs) :
    Calls Tryd.prog 7 #[.agg #[sv, .slice Ac nc cc]] w (Ret (fun x _ => GreatOut xs nc x) w) := by
  have h0 := h.mono (G := fun k => F k ∧ k < w.heap.size) (fun k hk hF => ⟨hF, hk⟩)
  obtain ⟨A, c, rfl, hc, hat⟩ := h.at'
  obtain ⟨n, hn⟩ : ∃ n, n = xs.length := ⟨_, rfl⟩
  rw [← hn] at hc h0 ⊢
  have hl : n ≤ 1048576 := by rw [hn]; exact hbd.len
  have HN := Lib.hid hn; have HAT := Lib.hid hat; have HBD := Lib.hid hbd; have H0 := Lib.hid h0
  clear hn hat h h0 hbd
  go_enter Tryd.func7, Tryd.ntmps7
  go_wp2_with fail
  have hx1 : Ext w ((w.alloc (.cells #[.slice A n c, .slice Ac nc cc] 25)).alloc (.cells #[.slice none 0 0] 35)) := ((Ext.refl w).alloc _).alloc _
  have k1 : Bk ((w.alloc (.cells #[.slice A n c, .slice Ac nc cc] 25)).alloc (.cells #[.slice none 0 0] 35)) w.heap.size 25 [.slice A n c, .slice Ac nc cc] := (Bk.new w 25 [.slice A n c, .slice Ac nc cc]).alloc _
  have k2 : Bk ((w.alloc (.cells #[.slice A n c, .slice Ac nc cc] 25)).alloc (.cells #[.slice none 0 0] 35)) (w.heap.size + 1) 35 [.slice none 0 0] := by
    have h := Bk.new (w.alloc (.cells #[.slice A n c, .slice Ac nc cc] 25)) 35 [.slice none 0 0]
    rw [show (w.alloc (.cells #[.slice A n c, .slice Ac nc cc] 25)).heap.size = w.heap.size + 1 by simp] at h
    exact h
  generalize ((w.alloc (.cells #[.slice A n c, .slice Ac nc cc] 25)).alloc (.cells #[.slice none 0 0] 35)) = w1 at *
  refine (atoms_any (ts := []) (v := .slice none 0 0) (base := w1.heap.size) ⟨k2, World.ownsRow_nil _ _ _ _⟩ (H0.out.ext hx1) (fun k hk => ⟨by have := hk.2; omega, by simp [Value.ownBlock]⟩) (by have := HBD.out.all; simpa using this) HBD.out.len (Nat.le_refl _) (fun k hk => by have := hk.2; have := hx1.size; omega)).mono ?_
  rintro e w2 ⟨va, vn, rfl, -, hf2, -, hra⟩
  have hx2 : Ext w w2 := hf2.new hx1 (fun k hk => by rcases hk with hk | hk; omega; simp [Value.ownBlock] at hk)
  have k3 := k1.fr hf2 (fun hk => by rcases hk with hk | hk; omega; simp [Value.ownBlock] at hk)
  have HRA := Lib.hid hra; have HX2 := Lib.hid hx2; have HK3 := Lib.hid k3
  obtain ⟨Ar, cr, hva⟩ : ∃ Ar cr, va = .slice Ar n cr := by obtain ⟨A', c', vs, h, _⟩ := hra; exact ⟨A', c', by rw [h]; simp [HN.out]⟩
  subst hva
  have e0 := k3.cell (i := 0) (by simp)
  simp only [List.getElem_cons_zero, List.getElem_cons_succ] at e0
  clear hra hf2 hx1 k1 k2 hx2 k3
  go_wp2_with fail
  clear e0
  go_loopw [14] (fun q wr => ∃ i : Nat, i ≤ n ∧ q = .int .i64 (i : Int) ∧ (∀ j (h : j < xs.length), j < i → xs[j].terms.length ≤ 6 ∧ xs[j].rel.size ≤ 60 ∧ ∀ t ∈ xs[j].terms, t.var.size + t.str.size ≤ 60 ∧ t.Ok) ∧ Ext w2 wr) (fun q _ => n - (intOf q).toNat)
  case atStart => exact ⟨0, Nat.zero_le _, rfl, fun _ _ h => absurd h (by omega), Ext.refl _⟩
  case round =>
    obtain ⟨i, hi, rfl, hgo, hext⟩ := hrel
    have HGO := Lib.hid hgo
    have HE := Lib.hid hext
    clear hgo
    obtain ⟨wo, rfl⟩ : ∃ wo : World, wo = wr := ⟨_, rfl⟩
    by_cases hlt : i < n
    · have i1 : (0 : Int) ≤ (i : Int) := by omega
      have i2 : (i : Int) < (n : Int) := by omega
      have hix : i < xs.length := by have := HN.out; omega
      obtain ⟨ad, B, d, rfl, -, c0, c1, c2, hd, htc⟩ := HAT.out i hix
      have hxr := HX2.out.trans hext
      replace c0 := hxr.cell c0
      replace c1 := hxr.cell c1
      replace c2 := hxr.cell c2
      have htn := terms_le hix
      have hrl := HBD.out.rel _ (List.getElem_mem hix)
      obtain ⟨a, ha⟩ : ∃ a, a = xs[i] := ⟨_, rfl⟩
      rw [← ha] at c0 c1 c2 hd htc htn hrl
      obtain ⟨nt, hnt⟩ : ∃ nt, nt = a.terms.length := ⟨_, rfl⟩
      rw [← hnt] at c2 hd htn
      have hnt2 : nt ≤ 1048576 := by have := HBD.out.all; omega
      have HXR := Lib.hid hxr; have HA := Lib.hid ha; have HNT := Lib.hid hnt; have HTC := Lib.hid htc
      clear hnt hext hxr ha htc htn
      obtain ⟨rn, hrn⟩ : ∃ rn, rn = a.rel.size := ⟨_, rfl⟩
      have HRN := Lib.hid hrn
      rw [← hrn] at hrl
      by_cases h6 : 6 < nt
      · have h6' : decide ((6 : Int) < (nt : Int)) = true := decide_eq_true (by omega)
        go_wp2_with fail
        go_ret
        exact Ret.mk (HXR.out.alloc _) ⟨true, rfl, fun h => by cases h⟩
      · have h6' : decide ((6 : Int) < (nt : Int)) = false := decide_eq_false (by omega)
        have hrI : (a.rel.size : Int) = (rn : Int) := by rw [hrn]
        clear hrn
        by_cases h60 : 60 < rn
        · have h60' : decide ((60 : Int) < (rn : Int)) = true := decide_eq_true (by omega)
          go_wp2_with fail
          go_ret
          exact Ret.mk (HXR.out.alloc _) ⟨true, rfl, fun h => by cases h⟩
        · have h60' : decide ((60 : Int) < (rn : Int)) = false := decide_eq_false (by omega)
          go_wp2_with fail
          have hx3 : Ext wo (wo.alloc (.cells #[.bool a.neg, .string a.rel, .slice B nt d] 61)) := (Ext.refl wo).alloc _
          generalize (wo.alloc (.cells #[.bool a.neg, .string a.rel, .slice B nt d] 61)) = w3 at *
          have HX3 := Lib.hid hx3
          clear hx3 c0 c1 c2 hrI
          go_loopw [31] (fun q wr => ∃ j : Nat, j ≤ nt ∧ q = .int .i64 (j : Int) ∧ (∀ k (h : k < a.terms.length), k < j → a.terms[k].var.size + a.terms[k].str.size ≤ 60 ∧ a.terms[k].Ok) ∧ Ext w3 wr) (fun q _ => nt - (intOf q).toNat)
          case atStart => exact ⟨0, Nat.zero_le _, rfl, fun _ _ h => absurd h (by omega), Ext.refl _⟩
          case round =>
            obtain ⟨j, hj, rfl, hok, hext2⟩ := hrel
            have HOK := Lib.hid hok; have HE2 := Lib.hid hext2
            clear hok
            by_cases hjt : j < nt
            · have j1 : (0 : Int) ≤ (j : Int) := by omega
              have j2 : (j : Int) < (nt : Int) := by omega
              have hjl : j < a.terms.length := by have := HNT.out; omega
              obtain ⟨ad2, rfl, -, d0, d1, d2, d3⟩ := HTC.out.term (i := j) hjl
              have hxw := (HXR.out.trans HX3.out).trans hext2
              replace d0 := hxw.cell d0
              replace d1 := hxw.cell d1
              replace d2 := hxw.cell d2
              replace d3 := hxw.cell d3
              have hsb := HBD.out.str _ (List.getElem_mem hix) (a.terms[j]) (by rw [← HA.out]; exact List.getElem_mem _)
              obtain ⟨x, hx⟩ : ∃ x, x = a.terms[j] := ⟨_, rfl⟩
              rw [← hx] at d0 d1 d2 d3 hsb
              have HX := Lib.hid hx; have HXW := Lib.hid hxw
              clear hx hxw hext2
              have hnext : x.var.size + x.str.size ≤ 60 ∧ x.Ok → ∀ k (h : k < a.terms.length), k < j + 1 → a.terms[k].var.size + a.terms[k].str.size ≤ 60 ∧ a.terms[k].Ok := fun hxo k hk hkj => by
                rcases Nat.lt_or_ge k j with h | h
                · exact HOK.out k hk h
                · obtain rfl : k = j := by omega
                  rw [← HX.out]; exact hxo
              have HNX := Lib.hid hnext
              clear hnext
              obtain ⟨p1, hp1⟩ : ∃ p1, p1 = x.var.size := ⟨_, rfl⟩
              obtain ⟨p2, hp2⟩ : ∃ p2, p2 = x.str.size := ⟨_, rfl⟩
              have HP := Lib.hid (And.intro hp1 hp2)
              rw [← hp1, ← hp2] at hsb
              have hI1 : (x.var.size : Int) = (p1 : Int) := by rw [hp1]
              have hI2 : (x.str.size : Int) = (p2 : Int) := by rw [hp2]
              obtain ⟨p3, hp3⟩ : ∃ p3, p3 = p1 + p2 := ⟨_, rfl⟩
              have hI3 : (p1 : Int) + (p2 : Int) = (p3 : Int) := by omega
              have HP3 := Lib.hid hp3
              have hp4 : p3 ≤ 2097152 := by omega
              clear hp1 hp2 hp3
              obtain ⟨hsb1, hsb2⟩ := hsb
              by_cases h60b : 60 < p3
              · have h60c : decide ((60 : Int) < (p3 : Int)) = true := decide_eq_true (by omega)
                go_wp2_with fail
                go_ret
                exact Ret.mk (HXW.out.alloc _) ⟨true, rfl, fun h => by cases h⟩
              · have h60c : decide ((60 : Int) < (p3 : Int)) = false := decide_eq_false (by omega)
                have H60 : Hid (x.var.size + x.str.size ≤ 60) := Lib.hid (by have := HP.out; have := HP3.out; omega)
                by_cases hv : x.var = ⟨#[]⟩
                · have hve := var_eq hv
                  have HV := Lib.hid hv
                  clear hv
                  go_wp2_with fail
                  go_roundw
                  case rel => exact ⟨j + 1, by omega, by go_num, HNX.out ⟨H60.out, .inl HV.out⟩, HE2.out.alloc _⟩
                  case measure => simp [intOf]; omega
                · have hve := var_ne hv
                  clear hv
                  by_cases hz : x.kind = 0 ∧ x.int = 0 ∧ x.str = ⟨#[]⟩
                  · have HZ := Lib.hid hz
                    have hz3 : x.str.toList = [] := by rw [hz.2.2, nil_toList]
                    obtain ⟨hz1, hz2, -⟩ := hz
                    go_wp2_with fail
                    all_goals first
                      | contradiction
                      | (go_roundw
                         case rel => exact ⟨j + 1, by omega, by go_num, HNX.out ⟨H60.out, .inr HZ.out⟩, HE2.out.alloc _⟩
                         case measure => simp [intOf]; omega)
                  · have HZ := Lib.hid hz
                    clear hz
                    go_wp2_with fail
                    all_goals first
                      | (exfalso; exact HZ.out ⟨by assumption, by assumption, str_nil (by assumption)⟩)
                      | (go_ret
                         exact Ret.mk (HXW.out.alloc _) ⟨true, rfl, fun h => by cases h⟩)
            · obtain rfl : j = nt := by omega
              have hdn : ¬ (j : Int) < (j : Int) := by omega
              go_wp2_with fail
              go_roundw
              case rel =>
                refine ⟨i + 1, by omega, by go_num, fun k hk hki => ?_, (HE.out.trans HX3.out).trans HE2.out⟩
                rcases Nat.lt_or_ge k i with h | h
                · exact HGO.out k hk h
                · obtain rfl : k = i := by omega
                  rw [← HA.out]
                  refine ⟨by have := HNT.out; omega, by have := HRN.out; omega, fun t ht => ?_⟩
                  obtain ⟨m, hm, rfl⟩ := List.getElem_of_mem ht
                  exact HOK.out m hm (by have := HNT.out; omega)
              case measure => simp [intOf]; omega
    · obtain rfl : i = n := by omega
      have hdn : ¬ (i : Int) < (i : Int) := by omega
      have e1 := (HK3.out.ext hext).cell (i := 1) (by simp)
      simp only [List.getElem_cons_zero, List.getElem_cons_succ] at e1
      have hall : ∀ a ∈ xs, a.terms.length ≤ 6 ∧ a.rel.size ≤ 60 ∧ ∀ t ∈ a.terms, t.var.size + t.str.size ≤ 60 ∧ t.Ok := fun a ha => by
        obtain ⟨j, hj, rfl⟩ := List.getElem_of_mem ha
        exact HGO.out j hj (by have := HN.out; omega)
      have HALL := Lib.hid hall
      clear hall
      have HXE := Lib.hid (HX2.out.trans hext)
      have HRE := Lib.hid (HRA.out.ext hext)
      clear hext
      have hal : (allR (xs.map (rat (tabT [] (allT xs))))).length ≤ 1048576 := by rw [allR_rats, List.length_map]; exact HBD.out.all
      have hrl : (xs.map (rat (tabT [] (allT xs)))).length ≤ 1048576 := by rw [List.length_map]; exact HBD.out.len
      by_cases h5 : 5 < i
      · have h5' : decide ((5 : Int) < (i : Int)) = true := decide_eq_true (by omega)
        clear hal hrl
        go_wp2_with fail
        go_ret
        exact Ret.mk HXE.out ⟨true, rfl, fun h => by cases h⟩
      · have h5' : decide ((5 : Int) < (i : Int)) = false := decide_eq_false (by omega)
        by_cases hc5 : 5 < nc
        · have hc5' : decide ((5 : Int) < (nc : Int)) = true := decide_eq_true (by omega)
          clear hal hrl
          go_wp2_with fail
          go_ret
          exact Ret.mk HXE.out ⟨true, rfl, fun h => by cases h⟩
        · have hc5' : decide ((5 : Int) < (nc : Int)) = false := decide_eq_false (by omega)
          have HL := Lib.hid (And.intro hal hrl)
          clear hal hrl
          go_wp2_with fail
          refine (terms_ref (only := true) HRE.out HL.out.2 HL.out.1).mono ?_
          rintro e w5 ⟨x5, rfl, he5, hr5⟩
          obtain ⟨A5, c5, rfl⟩ := own_slice hr5
          obtain ⟨m5, hm5⟩ : ∃ m5, m5 = (termsL true (allR (xs.map (rat (tabT [] (allT xs)))))).length := ⟨_, rfl⟩
          rw [← hm5]
          have HM5 := Lib.hid hm5
          have hm5b : m5 ≤ 1048576 := by rw [hm5]; exact Nat.le_trans (termsL_length _ _) HL.out.1
          clear hr5 hm5
          have HXE5 := Lib.hid (HXE.out.trans he5); have HRE5 := Lib.hid (HRE.out.ext he5)
          clear he5 e1
          by_cases h4 : 4 < m5
          · have h4' : decide ((4 : Int) < (m5 : Int)) = true := decide_eq_true (by omega)
            go_wp2_with fail
            go_ret
            exact Ret.mk HXE5.out ⟨true, rfl, fun h => by cases h⟩
          · have h4' : decide ((4 : Int) < (m5 : Int)) = false := decide_eq_false (by omega)
            go_wp2_with fail
            refine (terms_ref (only := false) HRE5.out HL.out.2 HL.out.1).mono ?_
            rintro e w6 ⟨x6, rfl, he6, hr6⟩
            obtain ⟨A6, c6, rfl⟩ := own_slice hr6
            obtain ⟨m6, hm6⟩ : ∃ m6, m6 = (termsL false (allR (xs.map (rat (tabT [] (allT xs)))))).length := ⟨_, rfl⟩
            rw [← hm6]
            have HM6 := Lib.hid hm6
            have hm6b : m6 ≤ 1048576 := by rw [hm6]; exact Nat.le_trans (termsL_length _ _) HL.out.1
            clear hr6 hm6
            have HXE6 := Lib.hid (HXE5.out.trans he6)
            clear he6
            by_cases h7 : 6 < m6
            · have h7' : decide ((6 : Int) < (m6 : Int)) = true := decide_eq_true (by omega)
              go_wp2_with fail
              go_ret
              exact Ret.mk HXE6.out ⟨true, rfl, fun h => by cases h⟩
            · have h7' : decide ((6 : Int) < (m6 : Int)) = false := decide_eq_false (by omega)
              go_wp2_with fail
              go_ret
              refine Ret.mk HXE6.out ⟨false, rfl, fun _ => ⟨by have := HN.out; omega, fun a ha => ⟨(HALL.out a ha).1, (HALL.out a ha).2.1⟩, fun a ha => (HALL.out a ha).2.2, by omega, ?_, ?_⟩⟩
              · rw [rats, ← HM5.out]; omega
              · rw [rats, ← HM6.out]; omega
end Go.Proofs.YtiahaofjmcjdiaaDoor
