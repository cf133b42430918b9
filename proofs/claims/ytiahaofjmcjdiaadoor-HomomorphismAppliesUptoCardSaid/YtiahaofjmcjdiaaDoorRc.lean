/- Contract: ordinalref24.Is. -/
import Derived.Test.YtiahaofjmcjdiaaDoorRb
import Derived.Deep.RegionHeld3
namespace Go.Proofs.YtiahaofjmcjdiaaDoor
open Go.RowKit

/-- The image of an atom, in numbers. -/
def apR (vs is : List Int) (a : RAt) : RAt := ⟨a.rel, a.terms.map (imgZ vs is)⟩
theorem apR_eq (vs is : List Int) (a b : RAt) : decide (apR vs is a = b) = (decide (a.rel = b.rel) && decide (a.terms.map (imgZ vs is) = b.terms)) := by
  cases b
  simp [apR]
def hitR (vs is : List Int) (a : RAt) (ts : List RAt) : Bool := ts.any (fun b => decide (apR vs is a = b))
def fixR (vs is fx : List Int) : Prop := ∀ k (h : k < vs.length) (h' : k < is.length), vs[k] ∈ fx → is[k] = vs[k]
noncomputable instance (vs is fx : List Int) : Decidable (fixR vs is fx) := Classical.propDecidable _
noncomputable def isR (fs ts : List RAt) (vs is fx : List Int) : Bool := decide (fixR vs is fx) && fs.all (fun a => hitR vs is a ts)
theorem hitR_snoc (vs is : List Int) (a : RAt) (ts : List RAt) {k : Nat} (h : k < ts.length) : hitR vs is a (ts.take (k + 1)) = (hitR vs is a (ts.take k) || decide (apR vs is a = ts[k])) := by
  unfold hitR
  rw [List.take_succ_eq_append_getElem h, List.any_append]
  simp
theorem all_take {α : Type} {p : α → Bool} {l : List α} {i : Nat} (h : i < l.length) (h1 : (l.take i).all p = true) (h2 : p l[i] = true) : (l.take (i + 1)).all p = true := by
  rw [List.take_succ_eq_append_getElem h, List.all_append, h1]
  simp [h2]

theorem has_same {F : Nat → Prop} {w : World} {v : Value} {zs : List Int} {x : Int} (h : Ins F w v zs) (hl : zs.length ≤ 1048577) :
    Calls Tryd.prog 32 #[v, .int .i64 x] w (fun e w' => e = .returned (.bool (decide (x ∈ zs))) ∧ w' = w) := (has_any h hl).mono (fun _ _ h => ⟨h.1, h.2.symm⟩)

set_option maxRecDepth 20000 in
set_option maxHeartbeats 3200000 in
theorem is_any {F G I J K : Nat → Prop} {w : World} {vf vt vv vi vx : Value} {fs ts : List RAt} {vs is fx : List Int} (hf : Ras F w vf fs) (ht : Ras G w vt ts) (hv : Ins I w vv vs) (hi : Ins J w vi is) (hx : Ins K w vx fx)
    (hlf : fs.length ≤ 1048576) (hlt : ts.length ≤ 1048576) (hlv : vs.length ≤ 1048576) (hle : vs.length ≤ is.length) (hlx : fx.length ≤ 1048576) (hta : ∀ a ∈ fs, a.terms.length ≤ 1048576) :
    Calls Tryd.prog 17 #[vf, vt, vv, vi, vx] w (Ret (fun x _ => x = .bool (isR fs ts vs is fx)) w) := by
  have HV := Lib.hid hv; have HIS := Lib.hid hi; have HXF := Lib.hid hx; have HTA := Lib.hid hta; have HLX := Lib.hid hlx
  obtain ⟨Af, cf, us, rfl, hcf, hus, hclf, hif⟩ := hf
  obtain ⟨At, ct, ut, rfl, hct, hut, hclt, hit⟩ := ht
  obtain ⟨A1, c1, rfl, hc1, hcl1⟩ := hv
  obtain ⟨A2, c2, rfl, hc2, hcl2⟩ := hi
  obtain ⟨A3, c3, n3, e3⟩ : ∃ A c n, vx = .slice A n c := by obtain ⟨A, c, e, _⟩ := hx; exact ⟨A, c, _, e⟩
  subst e3
  obtain ⟨nf, hnf⟩ : ∃ n, n = fs.length := ⟨_, rfl⟩
  obtain ⟨nt, hnt⟩ : ∃ n, n = ts.length := ⟨_, rfl⟩
  obtain ⟨nv, hnv⟩ : ∃ n, n = vs.length := ⟨_, rfl⟩
  obtain ⟨ni, hni⟩ : ∃ n, n = is.length := ⟨_, rfl⟩
  rw [← hnf] at hcf hlf ⊢
  rw [← hnt] at hct hlt ⊢
  rw [← hnv] at hlv hle hc1 HV ⊢
  rw [← hni] at hle hc2 HIS ⊢
  have HNF := Lib.hid hnf; have HNT := Lib.hid hnt; have HNV := Lib.hid hnv; have HNI := Lib.hid hni; have HCF := Lib.hid hclf; have HCT := Lib.hid hclt; have HC1 := Lib.hid hcl1; have HC2 := Lib.hid hcl2; have HIF := Lib.hid hif; have HIT := Lib.hid hit; have HUS := Lib.hid hus; have HUT := Lib.hid hut
  clear hnf hnt hnv hni hclf hclt hcl1 hcl2 hif hit hus hut hx hta hlx
  go_enter Tryd.func17, Tryd.ntmps17
  go_wp2_with fail
  go_loopw [11] (fun q wr => ∃ k : Nat, k ≤ nv ∧ q = .int .i64 (k : Int) ∧ (∀ j (h : j < vs.length) (h' : j < is.length), j < k → vs[j] ∈ fx → is[j] = vs[j]) ∧ Ext w wr) (fun q _ => nv - (intOf q).toNat)
  case atStart => exact ⟨0, Nat.zero_le _, rfl, fun _ _ _ h => absurd h (by omega), Ext.refl _⟩
  case round =>
    obtain ⟨k, hk, rfl, hok, hext⟩ := hrel
    have HOK := Lib.hid hok; have HE := Lib.hid hext
    clear hok
    by_cases hkv : k < nv
    · have k1 : (0 : Int) ≤ (k : Int) := by omega
      have k2 : (k : Int) < (nv : Int) := by omega
      have k3 : (k : Int) < (ni : Int) := by omega
      have hkl : k < vs.length := by have := HNV.out; omega
      have hki : k < is.length := by have := HNI.out; omega
      obtain ⟨ad1, rfl, -, d0⟩ := HC1.out.int (i := k) hkl
      obtain ⟨ad2, rfl, -, d1⟩ := HC2.out.int (i := k) hki
      replace d0 := hext.cell d0
      replace d1 := hext.cell d1
      obtain ⟨x, hx⟩ : ∃ x, x = vs[k] := ⟨_, rfl⟩
      rw [← hx] at d0
      obtain ⟨y, hy⟩ : ∃ y, y = is[k] := ⟨_, rfl⟩
      rw [← hy] at d1
      have HX := Lib.hid hx; have HY := Lib.hid hy
      have HHAS := Lib.hid (fun nq : Nat => has_same (x := x) (w := wr.drewN nq) (HXF.out.ext (hext.drewN nq)) (by have := HLX.out; omega))
      clear hx hy hext
      by_cases hm : x ∈ fx
      · have HM := Lib.hid hm
        rw [decide_eq_true hm] at HHAS
        clear hm
        by_cases hxy : y = x
        · have HXY := Lib.hid hxy
          subst hxy
          go_upto_region 4 with fail
          go_quiet ((go_at_call 32; exact Calls.quiet_of_same (HHAS.out _)))
          all_goals
            go_wp2_with fail
            go_roundw
            case rel =>
              refine ⟨k + 1, by omega, by go_num, fun j hj hj2 hjk hmem => ?_, HE.out.drewN _⟩
              rcases Nat.lt_or_ge j k with h | h
              · exact HOK.out j hj hj2 h hmem
              · obtain rfl : j = k := by omega
                rw [← HX.out, ← HY.out]
            case measure => simp [intOf]; omega
        · have HXY := Lib.hid hxy
          have hxy2 : (y == x) = false := by simp [hxy]
          have hxy3 : (y != x) = true := by simp [hxy]
          go_upto_region 4 with fail
          go_quiet ((go_at_call 32; exact Calls.quiet_of_same (HHAS.out _)))
          all_goals
            go_wp2_with fail
            go_ret
            refine Ret.mk (HE.out.drewN _) ?_
            rw [isR, decide_eq_false (fun h => HXY.out (by have := h k hkl hki (by rw [← HX.out]; exact HM.out); rw [← HX.out, ← HY.out] at this; exact this))]
            rfl
      · have HM := Lib.hid hm
        rw [decide_eq_false hm] at HHAS
        clear hm
        go_upto_region 4 with fail
        go_quiet ((go_at_call 32; exact Calls.quiet_of_same (HHAS.out _)))
        all_goals
          go_wp2_with fail
          go_roundw
          case rel =>
            refine ⟨k + 1, by omega, by go_num, fun j hj hj2 hjk hmem => ?_, HE.out.drewN _⟩
            rcases Nat.lt_or_ge j k with h | h
            · exact HOK.out j hj hj2 h hmem
            · obtain rfl : j = k := by omega
              exact absurd (by rw [HX.out]; exact hmem) HM.out
          case measure => simp [intOf]; omega
    · obtain rfl : k = nv := by omega
      have hdn : ¬ (k : Int) < (k : Int) := by omega
      have HFIX : Hid (fixR vs is fx) := Lib.hid (fun j h h' hm => HOK.out j h h' (by have := HNV.out; omega) hm)
      obtain ⟨w1, rfl⟩ : ∃ w1 : World, w1 = wr := ⟨_, rfl⟩
      clear hext HOK
      go_wp2_with fail
      go_loopw [12] (fun q wr => ∃ i : Nat, i ≤ nf ∧ q = .int .i64 (i : Int) ∧ (fs.take i).all (fun a => hitR vs is a ts) = true ∧ Ext w wr) (fun q _ => nf - (intOf q).toNat)
      case atStart => exact ⟨0, Nat.zero_le _, rfl, by simp, HE.out⟩
      case round =>
        obtain ⟨i, hi, rfl, hall, hext⟩ := hrel
        obtain ⟨wo, rfl⟩ : ∃ wo : World, wo = wr := ⟨_, rfl⟩
        have HALL := Lib.hid hall; have HEO := Lib.hid hext
        clear hall
        by_cases hif : i < nf
        · have i1 : (0 : Int) ≤ (i : Int) := by omega
          have i2 : (i : Int) < (nf : Int) := by omega
          have hifl : i < fs.length := by have := HNF.out; omega
          have hiu : i < us.length := by have := HUS.out; omega
          obtain ⟨adf, rfl, -, c0, c1'⟩ := HCF.out.ratom (i := i) hifl hiu
          obtain ⟨Bq, dq, eq, hdq, hcq⟩ := HIF.out i hifl hiu
          rw [eq] at c1'
          have hal := HTA.out _ (List.getElem_mem hifl)
          obtain ⟨a, ha⟩ : ∃ a, a = fs[i] := ⟨_, rfl⟩
          rw [← ha] at c0 c1' hdq hcq hal
          obtain ⟨na, hna⟩ : ∃ na, na = a.terms.length := ⟨_, rfl⟩
          rw [← hna] at c1' hdq hal
          have HA := Lib.hid ha; have HNA := Lib.hid hna; have HCQ := Lib.hid hcq; have HC0 := Lib.hid (And.intro c0 c1')
          clear ha hna hcq eq hext c0 c1'
          go_wp2_with fail
          go_loopw [13, 14] (fun t q wx => ∃ k : Nat, k ≤ nt ∧ q = .int .i64 (k : Int) ∧ t = .bool (hitR vs is a (ts.take k)) ∧ Ext wo wx) (fun _ q _ => nt - (intOf q).toNat)
          case atStart => exact ⟨0, Nat.zero_le _, rfl, rfl, Ext.refl _⟩
          case round =>
            obtain ⟨k', hk', rfl, rfl, hext⟩ := hrel
            have HEX := Lib.hid hext
            by_cases hkt : k' < nt
            · have k1 : (0 : Int) ≤ (k' : Int) := by omega
              have k2 : (k' : Int) < (nt : Int) := by omega
              have hkl : k' < ts.length := by have := HNT.out; omega
              have hku : k' < ut.length := by have := HUT.out; omega
              have hsn := hitR_snoc vs is a ts hkl
              have HSN := Lib.hid hsn
              clear hsn
              rcases hb : hitR vs is a (ts.take k') with _ | _
              · obtain ⟨adt, rfl, -, e0, e1⟩ := HCT.out.ratom (i := k') hkl hku
                obtain ⟨Br, dr, er, hdr, hcr⟩ := HIT.out k' hkl hku
                rw [er] at e1
                rw [hb] at HSN
                obtain ⟨b, hbb⟩ : ∃ b, b = ts[k'] := ⟨_, rfl⟩
                rw [← hbb] at e0 e1 hdr hcr HSN
                obtain ⟨nb, hnb⟩ : ∃ nb, nb = b.terms.length := ⟨_, rfl⟩
                rw [← hnb] at e1 hdr
                have hwx := HEO.out.trans hext
                have HWX := Lib.hid hwx
                replace e0 := hwx.cell e0
                replace e1 := hwx.cell e1
                have c0 := hwx.cell HC0.out.1
                have c1' := hwx.cell HC0.out.2
                have HAP := Lib.hid (fun (V : World) (hV : Ext wr V) => apply_any (rl := a.rel) (HV.out.ext (hwx.trans hV)) (HIS.out.ext (hwx.trans hV)) (HCQ.out.ext (hwx.trans hV)) (by rw [← HNA.out]; exact hdq) (by rw [← HNA.out]; exact hal) (by have := HNV.out; omega))
                rw [← HNA.out] at HAP
                have HSA := Lib.hid (fun (V : World) (u : Value) (G : Nat → Prop) (hV : Ext wr V) (hu : Ins G V u (a.terms.map (imgZ vs is))) => same_any (ra := a.rel) (rb := b.rel) (zb := b.terms) hu (u := .slice Br nb dr) (⟨Br, dr, by rw [← hnb], by rw [← hnb]; exact hdr, hcr.ext (hwx.trans hV)⟩) (by have := HNA.out; simp; omega))
                have HNB := Lib.hid hnb; have HCR := Lib.hid hcr
                clear hwx hbb hnb hcr er hb hext
                go_upto_region 13 with fail
                go_region_held3 (fun V => Ext wr V ∧ V.cell? (adf.add (i * 2)) = some (.string a.rel) ∧ V.cell? ⟨(adf.add (i * 2)).block, (adf.add (i * 2)).off + 1, none⟩ = some (.slice Bq na dq) ∧ V.cell? (adt.add (k' * 2)) = some (.string b.rel) ∧ V.cell? ⟨(adt.add (k' * 2)).block, (adt.add (k' * 2)).off + 1, none⟩ = some (.slice Br nb dr))
                  ((refine (fun he => ⟨he, Ext.cell he c0, Ext.cell he c1', Ext.cell he e0, Ext.cell he e1⟩) ?_; repeat (first | exact Ext.refl _ | exact (Ext.refl _).drew | refine Ext.drew ?_ | refine Ext.trans ?_ (by assumption))))
                  (first
                    | (go_at_call 19; refine (HAP.out _ (And.left (by assumption))).mono ?_; rintro e wa ⟨hea, v9, rfl, hr9⟩; obtain ⟨A9, c9, rfl⟩ := own_slice hr9)
                    | (go_at_call 33; refine (HSA.out _ _ _ (And.left (by assumption)) (Ins.of_own (by assumption))).mono ?_; rintro e wb ⟨y, rfl, heb, rfl⟩))
                have HFIN := Lib.hid (And.left (b := _ ∧ _) (by assumption))
                clear c0 c1' e0 e1
                go_wp2_with fail
                go_roundw
                case rel => exact ⟨k' + 1, by omega, by go_num, by rw [HSN.out]; simp [apR_eq], HEX.out.trans HFIN.out⟩
                case measure => simp [intOf]; omega
              · have HB := Lib.hid hb
                rw [hb] at HSN
                clear hb
                go_upto_region 13 with fail
                go_region
                go_wp2_with fail
                go_roundw
                case rel => exact ⟨k' + 1, by omega, by go_num, by rw [HSN.out]; rfl, HEX.out.drew⟩
                case measure => simp [intOf]; omega
            · obtain rfl : k' = nt := by omega
              have hdn2 : ¬ (k' : Int) < (k' : Int) := by omega
              have htk : ts.take k' = ts := by rw [HNT.out]; exact List.take_length
              rw [htk]
              clear hext htk
              rcases hb : hitR vs is a ts with _ | _
              · have HB := Lib.hid hb
                clear hb
                go_wp2_with fail
                go_ret
                refine Ret.mk (HEO.out.trans HEX.out) ?_
                have hall : fs.all (fun a => hitR vs is a ts) = false := List.all_eq_false.2 ⟨a, by rw [HA.out]; exact List.getElem_mem _, by rw [HB.out]; simp⟩
                rw [isR, hall, Bool.and_false]
                rfl
              · have HB := Lib.hid hb
                clear hb
                go_wp2_with fail
                go_roundw
                case rel => exact ⟨i + 1, by omega, by go_num, all_take hifl HALL.out (by rw [← HA.out]; exact HB.out), HEO.out.trans HEX.out⟩
                case measure => simp [intOf]; omega
        · obtain rfl : i = nf := by omega
          have hdn2 : ¬ (i : Int) < (i : Int) := by omega
          clear hext
          go_wp2_with fail
          go_ret
          refine Ret.mk HEO.out ?_
          have h := HALL.out
          rw [HNF.out, List.take_length] at h
          rw [isR, decide_eq_true HFIX.out, h]
          rfl
end Go.Proofs.YtiahaofjmcjdiaaDoor
