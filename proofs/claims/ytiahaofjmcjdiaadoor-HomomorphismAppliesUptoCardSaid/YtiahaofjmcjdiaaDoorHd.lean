/- Contracts: Find's closures that ask whether an assignment is possible. -/
import Derived.Test.YtiahaofjmcjdiaaDoorHc
namespace Go.Proofs.YtiahaofjmcjdiaaDoor
open Go.RowKit Go.Maps

set_option maxRecDepth 20000 in
set_option maxHeartbeats 800000 in
theorem find11 {F G : Nat → Prop} {w : World} {ga gi bm n : Nat} {na nb : Bool} {ra rb : ByteArray} {Ba Bb : Option Addr} {da db : Nat} {ta tb : List Tm} {im : ByteArray → Option Tm} (ha : Cl F w Ba (tcells ta)) (hb : Cl G w Bb (tcells tb)) (hda : ta.length ≤ da) (hdb : tb.length ≤ db) (hl : ta.length ≤ 1048576) (hs : ∀ t ∈ ta, t.var.size ≤ maxLen)
    (ka : Bk w ga 61 [.bool na, .string ra, .slice Ba ta.length da]) (ki : Bk w gi 68 [.map (some bm)]) (hm : MapV w bm n (imF im)) :
    Calls Tryd.prog 29 #[.agg #[.bool nb, .string rb, .slice Bb tb.length db], .pointer (some ⟨ga, 0, none⟩), .pointer (some ⟨gi, 0, none⟩)] w (Ret (fun x _ => x = .bool (agB im ra ta rb tb)) w) := by
  have a0 := ka.cell (i := 0) (by simp)
  have a1 := ka.cell (i := 1) (by simp)
  have a2 := ka.cell (i := 2) (by simp)
  have b0 := ki.cell (i := 0) (by simp)
  simp only [List.getElem_cons_zero, List.getElem_cons_succ] at a0 a1 a2 b0
  have l1 := ka.lt
  have l2 := ki.lt
  have hx : Ext w (w.alloc (.cells #[.bool nb, .string rb, .slice Bb tb.length db] 61)) := (Ext.refl w).alloc _
  have HC := Lib.hid (agrees_any (na := na) (nb := nb) (ra := ra) (rb := rb) (ha.ext hx) (hb.ext hx) hda hdb hl hs (hm.ext hx))
  have HX := Lib.hid hx
  clear ha hb hda hdb hl hs ka ki hm hx
  generalize ta.length = nt at *
  generalize tb.length = nu at *
  go_enter Tryd.func29, Tryd.ntmps29
  go_wp2_with fail
  refine HC.out.mono ?_
  rintro e w2 ⟨x, rfl, he2, rfl⟩
  have HE := Lib.hid (HX.out.trans he2)
  clear he2
  go_wp2_with fail
  go_ret
  exact Ret.mk HE.out rfl

/-- Whether each atom that matters still has an image. -/
def anyAg (im : ByteArray → Option Tm) (a : At) (ys : List At) : Bool := ys.any (fun b => agB im a.rel a.terms b.rel b.terms)
def matters (v : ByteArray) (a : At) : Bool := decide (v = ⟨#[]⟩) || mentB a.terms v
def possB (im : ByteArray → Option Tm) (xs ys : List At) (v : ByteArray) : Bool := xs.all (fun a => !(matters v a && !(anyAg im a ys)))

set_option maxRecDepth 20000 in
set_option maxHeartbeats 1600000 in
theorem find1 {F G : Nat → Prop} {w : World} {gf gt gi bm n : Nat} {svF svT scF scT : Value} {xs ys : List At} {im : ByteArray → Option Tm} {v : ByteArray} (hF : Ats F w svF xs) (hG : Ats G w svT ys) (hbx : Bd xs) (hby : Bd ys)
    (kf : Bk w gf 25 [svF, scF]) (kt : Bk w gt 25 [svT, scT]) (ki : Bk w gi 68 [.map (some bm)]) (hm : MapV w bm n (imF im)) :
    Calls Tryd.prog 26 #[.string v, .pointer (some ⟨gf, 0, none⟩), .pointer (some ⟨gt, 0, none⟩), .pointer (some ⟨gi, 0, none⟩)] w (Ret (fun x _ => x = .bool (possB im xs ys v)) w) := by
  have HG := Lib.hid hG
  obtain ⟨A, c, rfl, hc, hat⟩ := hF.at'
  obtain ⟨A2, c2, n2, hv2⟩ : ∃ A c n, svT = .slice A n c := by obtain ⟨A, c, vs, hv, _⟩ := hG; exact ⟨A, c, _, hv⟩
  subst hv2
  obtain ⟨nx, hn⟩ : ∃ nx, nx = xs.length := ⟨_, rfl⟩
  rw [← hn] at hc kf
  have hl : nx ≤ 1048576 := by rw [hn]; exact hbx.len
  have HN := Lib.hid hn; have HAT := Lib.hid hat; have HBX := Lib.hid hbx; have HBY := Lib.hid hby
  have HK := Lib.hid (And.intro kf (And.intro kt (And.intro ki hm)))
  have f0 := kf.cell (i := 0) (by simp)
  simp only [List.getElem_cons_zero, List.getElem_cons_succ] at f0
  clear hn hat hbx hby hF hG kf kt ki hm
  go_enter Tryd.func26, Tryd.ntmps26
  go_wp2_with fail
  clear f0
  go_loopw [11] (fun q wr => ∃ i : Nat, i ≤ nx ∧ q = .int .i64 (i : Int) ∧ (∀ j (h : j < xs.length), j < i → (!(matters v xs[j] && !(anyAg im xs[j] ys))) = true) ∧ Ext w wr) (fun q _ => nx - (intOf q).toNat)
  case atStart => exact ⟨0, Nat.zero_le _, rfl, fun _ _ h => absurd h (by omega), Ext.refl _⟩
  case round =>
    obtain ⟨i, hi, rfl, hok, hext⟩ := hrel
    have HOK := Lib.hid hok; have HE := Lib.hid hext
    clear hok
    by_cases hlt : i < nx
    · have i1 : (0 : Int) ≤ (i : Int) := by omega
      have i2 : (i : Int) < (nx : Int) := by omega
      have hix : i < xs.length := by have := HN.out; omega
      obtain ⟨ad, B, d, rfl, -, c0, c1, c2', hd, htc⟩ := HAT.out i hix
      replace c0 := hext.cell c0
      replace c1 := hext.cell c1
      replace c2' := hext.cell c2'
      have htn := terms_le hix
      have hst := HBX.out.str _ (List.getElem_mem hix)
      obtain ⟨a, ha⟩ : ∃ a, a = xs[i] := ⟨_, rfl⟩
      rw [← ha] at c0 c1 c2' hd htc htn hst
      have hnt2 : a.terms.length ≤ 1048576 := by have := HBX.out.all; omega
      have HA := Lib.hid ha
      obtain ⟨kf, kt, ki, hm⟩ := HK.out
      have hx2 : Ext wr (wr.alloc (.cells #[.bool a.neg, .string a.rel, .slice B a.terms.length d] 61)) := (Ext.refl wr).alloc _
      have k7 := Bk.new wr 61 [.bool a.neg, .string a.rel, .slice B a.terms.length d]
      change Bk (wr.alloc (.cells #[.bool a.neg, .string a.rel, .slice B a.terms.length d] 61)) _ _ _ at k7
      have hwx := hext.trans hx2
      have HTC := Lib.hid htc; have HST := Lib.hid hst; have HD := Lib.hid hd; have HN2 := Lib.hid hnt2
      have HCON := Lib.hid (fun (W : World) (hW : Ext w W) (hk : Bk W wr.heap.size 61 [.bool a.neg, .string a.rel, .slice B a.terms.length d]) => contains_agrees (g1 := wr.heap.size) (g2 := gi) (p := fun j => (ys[j]?.map (fun b => agB im a.rel a.terms b.rel b.terms)).getD false) (HG.out.ext hW) (Nat.le_succ_of_le HBY.out.len) (fun j hj B2 d2 X hd2 hc2 hE => by
        rw [List.getElem?_eq_getElem hj]
        exact find11 (HTC.out.ext (hW.trans hE)) (hc2.ext hE) HD.out hd2 HN2.out (fun t ht => by have := (HST.out t ht).1; simp only [maxLen]; omega) (hk.ext hE) ((HK.out.2.2.1.ext hW).ext hE) ((HK.out.2.2.2.ext hW).ext hE)))
      have HMEN := Lib.hid (fun (W : World) (hW : Ext w W) => mentions_any (ng := a.neg) (rl := a.rel) (v := v) (sv := .slice B a.terms.length d) (ts := a.terms) ⟨B, d, rfl, HD.out, HTC.out.ext hW⟩ HN2.out)
      have HKT := Lib.hid kt
      clear ha htc htn hst hd hext kf kt ki hm
      obtain ⟨nt, hnt⟩ : ∃ nt, nt = a.terms.length := ⟨_, rfl⟩
      rw [← hnt] at c2' hnt2 k7 hx2 hwx HCON HMEN
      clear hnt HD HN2 HTC
      by_cases hv : v = ⟨#[]⟩
      · have hve : v.toList.isEmpty = true := var_eq hv
        have HV := Lib.hid hv
        clear hv
        have t0 := (HKT.out.ext hwx).cell (i := 0) (by simp)
        simp only [List.getElem_cons_zero, List.getElem_cons_succ] at t0
        have HMAT : Hid (matters v a = true) := Lib.hid (by simp [matters, HV.out])
        go_wp2_with fail
        have W4 := hwx
        have K4 := k7
        refine (HCON.out _ W4 K4).mono ?_
        rintro e w5 ⟨x5, rfl, he5, rfl⟩
        rw [show anyB ys.length (fun j => (ys[j]?.map (fun b => agB im a.rel a.terms b.rel b.terms)).getD false) = anyAg im a ys from anyB_list ys _]
        have HE5 := Lib.hid (W4.trans he5)
        clear he5 W4 K4 t0
        rcases hag : anyAg im a ys with _ | _
        · have HAG := Lib.hid hag
          clear hag
          go_wp2_with fail
          go_ret
          refine Ret.mk HE5.out ?_
          rw [show possB im xs ys v = false from List.all_eq_false.2 ⟨xs[i], List.getElem_mem hix, by rw [← HA.out, HAG.out, HMAT.out]; simp⟩]
          rfl
        · have HAG := Lib.hid hag
          clear hag
          go_wp2_with fail
          go_roundw
          case rel =>
            refine ⟨i + 1, by omega, by go_num, fun j hj hji => ?_, HE5.out⟩
            rcases Nat.lt_or_ge j i with h | h
            · exact HOK.out j hj h
            · obtain rfl : j = i := by omega
              rw [← HA.out, HAG.out]; simp
          case measure => simp [intOf]; omega
      · have hve : v.toList.isEmpty = false := var_ne hv
        have HV := Lib.hid hv
        clear hv
        go_wp2_with fail
        refine (HMEN.out _ hwx).mono ?_
        rintro e w4 ⟨x4, rfl, he4, rfl⟩
        have W4 := hwx.trans he4
        have K4 := k7.ext he4
        have t0 := (HKT.out.ext W4).cell (i := 0) (by simp)
        simp only [List.getElem_cons_zero, List.getElem_cons_succ] at t0
        clear hwx hx2 k7 he4 c0 c1 c2'
        rcases hmen : mentB a.terms v with _ | _
        · have HMAT : Hid (matters v a = false) := Lib.hid (by simp [matters, HV.out, hmen])
          have HW4 := Lib.hid W4
          clear hmen W4 K4 t0
          go_wp2_with fail
          go_roundw
          case rel =>
            refine ⟨i + 1, by omega, by go_num, fun j hj hji => ?_, HW4.out⟩
            rcases Nat.lt_or_ge j i with h | h
            · exact HOK.out j hj h
            · obtain rfl : j = i := by omega
              rw [← HA.out, HMAT.out]; simp
          case measure => simp [intOf]; omega
        · have HMAT : Hid (matters v a = true) := Lib.hid (by simp [matters, hmen])
          clear hmen
          go_wp2_with fail
          refine (HCON.out _ W4 K4).mono ?_
          rintro e w5 ⟨x5, rfl, he5, rfl⟩
          rw [show anyB ys.length (fun j => (ys[j]?.map (fun b => agB im a.rel a.terms b.rel b.terms)).getD false) = anyAg im a ys from anyB_list ys _]
          have HE5 := Lib.hid (W4.trans he5)
          clear he5 W4 K4 t0
          rcases hag : anyAg im a ys with _ | _
          · have HAG := Lib.hid hag
            clear hag
            go_wp2_with fail
            go_ret
            refine Ret.mk HE5.out ?_
            rw [show possB im xs ys v = false from List.all_eq_false.2 ⟨xs[i], List.getElem_mem hix, by rw [← HA.out, HAG.out, HMAT.out]; simp⟩]
            rfl
          · have HAG := Lib.hid hag
            clear hag
            go_wp2_with fail
            go_roundw
            case rel =>
              refine ⟨i + 1, by omega, by go_num, fun j hj hji => ?_, HE5.out⟩
              rcases Nat.lt_or_ge j i with h | h
              · exact HOK.out j hj h
              · obtain rfl : j = i := by omega
                rw [← HA.out, HAG.out]; simp
            case measure => simp [intOf]; omega
    · obtain rfl : i = nx := by omega
      have hdn : ¬ (i : Int) < (i : Int) := by omega
      go_wp2_with fail
      go_ret
      refine Ret.mk HE.out ?_
      rw [show possB im xs ys v = true from List.all_eq_true.2 (fun a ha => by
        obtain ⟨j, hj, rfl⟩ := List.getElem_of_mem ha
        exact HOK.out j hj (by have := HN.out; omega))]
      rfl
end Go.Proofs.YtiahaofjmcjdiaaDoor
