/- The walk of MinimizeCores. -/
import Derived.Test.YtehklbdgkppmeaaDoorJh
namespace Go.Proofs.YtehklbdgkppmeaaDoor
open Go.RowKit Go.Maps

theorem Rg.aok {xs : List At} (h : Rg xs) (ht : ∀ a ∈ xs, a.terms.length ≤ 1000) : AOk xs :=
  ⟨h.bd, ht, fun a ha t hta => let ⟨h1, h2, h3, h4⟩ := h.rng a ha t hta; ⟨(h.bd.str a ha t hta).1, (h.bd.str a ha t hta).2, h1, h2, h3, h4⟩⟩
theorem core_eq {xs : List At} {fx : List ByteArray} (hne : xs ≠ []) : coreP xs fx = coreRef xs fx := by
  unfold coreP coreRef
  refine core_same _ _ (fun v hv => hv) (fun e => ?_)
  cases xs with
  | nil => exact hne rfl
  | cons a xs =>
    obtain ⟨b, hb, -⟩ := dedR_has (xs := a :: xs) (a := a) (by simp)
    rw [e] at hb
    simp at hb
theorem sameL_refl (xs : List At) : sameL xs xs = true := sameL_iff.2 rfl

section
variable {F G H : Nat → Prop} {w : World} {svA vc vf : Value} {nc : Nat} {xs : List At} {fx : List ByteArray}

set_option maxRecDepth 100000 in
set_option maxHeartbeats 6400000 in
theorem cores_any (hX : Ats F w svA xs) (hC : Cns G w vc nc) (hF : Strs H w vf fx) (rg : Rg xs) (hfl : fx.length ≤ 1048576) (hfs : ∀ v ∈ fx, v.size ≤ 1048576) (htab : TabE w) :
    Calls Tryd.prog 3 #[.agg #[svA, vc], vf] w (Ret (fun x _ => x = .bool true) w) := by
  obtain ⟨A, c, rfl⟩ := hX.sl
  obtain ⟨Ac, cc, hvc⟩ : ∃ A c, vc = .slice A nc c := by obtain ⟨A, c, _, e, _⟩ := hC; exact ⟨A, c, e⟩
  subst hvc
  obtain ⟨C, cC, hvf⟩ : ∃ A c, vf = .slice A fx.length c := by obtain ⟨A, c, e, _⟩ := hF; exact ⟨A, c, e⟩
  subst hvf
  have HX := Lib.hid hX; have HC := Lib.hid hC; have HF := Lib.hid hF; have RG := Lib.hid rg; have HFS := Lib.hid hfs; have HTAB := Lib.hid htab
  obtain ⟨n, hn⟩ : ∃ k, k = xs.length := ⟨_, rfl⟩
  obtain ⟨nf, hnf⟩ : ∃ k, k = fx.length := ⟨_, rfl⟩
  rw [← hn] at HX ⊢
  rw [← hnf] at HF hfl ⊢
  have HN := Lib.hid hn; have HNF := Lib.hid hnf
  clear hX hC hF rg hfs htab hn hnf
  go_enter Tryd.func3, Tryd.ntmps3
  go_wp2_with fail
  have kr := Bk.new w 25 [.slice A n c, .slice Ac nc cc]
  change Bk (w.alloc (.cells #[.slice A n c, .slice Ac nc cc] 25)) _ _ _ at kr
  have hx : Ext w (w.alloc (.cells #[.slice A n c, .slice Ac nc cc] 25)) := (Ext.refl w).alloc _
  generalize (w.alloc (.cells #[.slice A n c, .slice Ac nc cc] 25)) = w1 at *
  refine (awake_any (HTAB.out.fore hx)).mono ?_
  rintro e w2 ⟨y, rfl, he2, rfl⟩
  replace hx := hx.trans he2
  replace kr := kr.ext he2
  clear he2
  have r0 := kr.cell (i := 0) (by simp); have r1 := kr.cell (i := 1) (by simp)
  simp only [List.getElem_cons_zero, List.getElem_cons_succ] at r0 r1
  go_wp2_with fail
  refine (few_any (HX.out.ext hx) RG.out.bd.len RG.out.bd.all).mono ?_
  rintro e w3 ⟨y, rfl, he3, rfl⟩
  replace hx := hx.trans he3
  replace kr := kr.ext he3
  clear he3 r0 r1
  obtain ⟨b, hb⟩ : ∃ b, b = fewL xs nc := ⟨_, rfl⟩
  rw [← hb]
  rcases b with _ | _
  · have HXX := Lib.hid hx
    clear hx kr hb
    go_wp2_with fail
    go_ret
    exact Ret.mk HXX.out rfl
  by_cases hf5 : (5 : Int) < (nf : Int)
  · have HXX := Lib.hid hx
    clear hx kr hb
    go_wp2_with fail
    go_ret
    exact Ret.mk HXX.out rfl
  have r0 := kr.cell (i := 0) (by simp); have r1 := kr.cell (i := 1) (by simp)
  simp only [List.getElem_cons_zero, List.getElem_cons_succ] at r0 r1
  have hterms := fewL.terms hb.symm
  have hax := RG.out.aok (fun a ha => by have := hterms a ha; omega)
  have hl10 := (fewL_iff.1 hb.symm).1
  have HAX := Lib.hid hax; have HTR := Lib.hid hterms; have HL := Lib.hid hl10
  have HXX := Lib.hid hx; have HKR := Lib.hid kr
  clear hx kr hb hterms hax hl10
  rcases hp : pureL xs nc with _ | _
  · have HP := Lib.hid hp
    clear hp
    go_wp2_with fail
    refine (mcore_no (Ac := Ac) (nc := nc) (cc := cc) (vf := .slice C nf cC) (HX.out.ext HXX.out) HAX.out.bd HP.out).mono ?_
    rintro e w4 ⟨rfl, he4⟩
    have HX4 := Lib.hid (HXX.out.trans he4); have HKR4 := Lib.hid (HKR.out.ext he4)
    clear he4 r0 r1
    go_upto_region 6 with fail
    have kc := Bk.new w4 25 [.slice none 0 0, .slice none 0 0]
    change Bk (w4.alloc (.cells #[.slice none 0 0, .slice none 0 0] 25)) _ _ _ at kc
    have hx5 : Ext w4 (w4.alloc (.cells #[.slice none 0 0, .slice none 0 0] 25)) := (Ext.refl w4).alloc _
    generalize (w4.alloc (.cells #[.slice none 0 0, .slice none 0 0] 25)) = w5 at *
    have HX5 := Lib.hid (HX4.out.trans hx5)
    have kr5 := HKR4.out.ext hx5
    have r0 := kr5.cell (i := 0) (by simp); have r1 := kr5.cell (i := 1) (by simp)
    simp only [List.getElem_cons_zero, List.getElem_cons_succ] at r0 r1
    have hcall := pure25 (Ac := Ac) (nc := nc) (cc := cc) (HX.out.ext HX5.out) HAX.out.bd
    rw [HP.out] at hcall
    have HCALL := Lib.hid hcall; have HKC := Lib.hid kc
    clear kc hx5 kr5 hcall
    go_wp2_with fail
    refine HCALL.out.mono ?_
    rintro e w6 ⟨y, rfl, he6, rfl⟩
    have HX6 := Lib.hid (HX5.out.trans he6)
    have c0 := (HKC.out.ext he6).cell (i := 0) (by simp)
    simp only [List.getElem_cons_zero] at c0
    clear he6 r0 r1
    go_wp2_with fail
    go_ret
    exact Ret.mk HX6.out rfl
  · have hpl := pureL_iff.1 hp
    obtain rfl : nc = 0 := hpl.2.1
    have hne : xs ≠ [] := fun e => by rw [e] at hpl; simp at hpl
    have HEQ := Lib.hid (core_eq (fx := fx) hne)
    have HP := Lib.hid hp
    have hcall := mcore_yes (HX.out.ext HXX.out) (HC.out.ext HXX.out) (HF.out.ext HXX.out) HAX.out HP.out (HTAB.out.fore HXX.out) (by have := HNF.out; omega) HFS.out
    have HCALL := Lib.hid hcall
    clear hp hpl hne hcall
    go_wp2_with fail
    refine HCALL.out.mono ?_
    rintro e w4 ⟨A4, n4, c4, B4, d4, rfl, he4, hA4, -⟩
    have HX4 := Lib.hid (HXX.out.trans he4); have HKR4 := Lib.hid (HKR.out.ext he4); have HA4 := Lib.hid hA4
    clear he4 r0 r1 hA4
    go_upto_region 6 with fail
    have kc := Bk.new w4 25 [.slice A4 n4 c4, .slice B4 0 d4]
    change Bk (w4.alloc (.cells #[.slice A4 n4 c4, .slice B4 0 d4] 25)) _ _ _ at kc
    have hx5 : Ext w4 (w4.alloc (.cells #[.slice A4 n4 c4, .slice B4 0 d4] 25)) := (Ext.refl w4).alloc _
    generalize (w4.alloc (.cells #[.slice A4 n4 c4, .slice B4 0 d4] 25)) = w5 at *
    have HX5 := Lib.hid (HX4.out.trans hx5); have HA5 := Lib.hid (HA4.out.ext hx5)
    have HKR5 := Lib.hid (HKR4.out.ext hx5)
    have r0 := HKR5.out.cell (i := 0) (by simp); have r1 := HKR5.out.cell (i := 1) (by simp)
    simp only [List.getElem_cons_zero, List.getElem_cons_succ] at r0 r1
    have hcall := pure25 (Ac := Ac) (nc := 0) (cc := cc) (HX.out.ext HX5.out) HAX.out.bd
    rw [HP.out] at hcall
    have HCALL2 := Lib.hid hcall; have HKC := Lib.hid kc
    clear kc hx5 hcall
    go_wp2_with fail
    refine HCALL2.out.mono ?_
    rintro e w6 ⟨y, rfl, he6, rfl⟩
    have HX6 := Lib.hid (HX5.out.trans he6); have HA6 := Lib.hid (HA5.out.ext he6)
    have c0 := (HKC.out.ext he6).cell (i := 0) (by simp); have c1 := (HKC.out.ext he6).cell (i := 1) (by simp)
    replace r0 := (HKR5.out.ext he6).cell (i := 0) (by simp)
    simp only [List.getElem_cons_zero, List.getElem_cons_succ] at c0 c1 r0
    clear he6 r1
    have HREF : Hid (∀ V, Ext w6 V → Calls Tryd.prog 14 #[.slice A n c, .slice C nf cC] V (Ret (fun x w' => ∃ A' n' c', x = .slice A' n' c' ∧ Ats T1 w' (.slice A' n' c') (coreRef xs fx)) V)) := Lib.hid (fun V hV => by
      refine (core25 (HX.out.ext (HX6.out.trans hV)) (HF.out.ext (HX6.out.trans hV)) (by have := HL.out; omega) (fun a ha => by have := HTR.out a ha; omega) (by have := HNF.out; omega)).mono ?_
      rintro e w' ⟨x, rfl, he, hx⟩
      obtain ⟨A', c', rfl⟩ := hx.sl
      exact Ret.mk he ⟨A', _, c', rfl, hx⟩)
    have HSAME : Hid (∀ V v, Ext w6 V → Ats T1 V v (coreRef xs fx) → Calls Tryd.prog 13 #[.slice A4 n4 c4, v] V (Ret (fun x _ => x = .bool true) V)) := Lib.hid (fun V v hV hv => by
      have hls : (coreP xs fx).Sublist xs := (core_sub _ _).trans (dedR_sub xs)
      have h1 := hls.length_le
      have h2 := (allT_sub hls).length_le
      have h := sames25 (HA6.out.ext hV) hv (by have := HL.out; omega) (by have := HAX.out.bd.all; omega)
      rw [HEQ.out, sameL_refl] at h
      exact h)
    go_upto_region 8 with fail
    go_region_held3 (fun V => Ext w6 V ∧ V.cell? ⟨w4.heap.size, 0, none⟩ = some (.slice A4 n4 c4) ∧ V.cell? ⟨w4.heap.size, 1, none⟩ = some (.slice B4 0 d4) ∧ V.cell? ⟨w.heap.size, 0, none⟩ = some (.slice A n c))
      ((refine (fun he => ⟨he, Ext.cell he c0, Ext.cell he c1, Ext.cell he r0⟩) ?_; repeat (first | exact Ext.refl _ | exact (Ext.refl _).drew | refine Ext.drew ?_ | refine Ext.trans ?_ (by assumption))))
      (first
        | (go_at_call 14; (with_reducible refine (HREF.out _ (And.left (by assumption))).mono ?_); rintro e wi ⟨yv, rfl, hei, A', n', c', rfl, hats⟩)
        | (go_at_call 13; (with_reducible refine (HSAME.out _ _ (And.left (by assumption)) (by assumption)).mono ?_); rintro e wi ⟨yv, rfl, hei, rfl⟩))
    have HFIN := Lib.hid (And.left (b := _ ∧ _) (by assumption))
    clear c0 c1 r0
    go_wp2_with fail
    go_ret
    exact Ret.mk (HX6.out.trans HFIN.out) rfl
end
end Go.Proofs.YtehklbdgkppmeaaDoor
