/- Contracts: the law's Brief and Few with updates. -/
import Derived.Test.YtmmmdinncmbjkaaGreatMf15
import Derived.Test.YtmmmdinncmbjkaaGreatMf34
namespace Go.Proofs.YtmmmdinncmbjkaaGreat
open Go.RowKit Go.Maps
def BoolV (x : Value) (_ : World) : Prop := ∃ b, x = .bool b
set_option maxRecDepth 20000 in
set_option maxHeartbeats 3200000 in
theorem brief_any {F G : Nat → Prop} {w : World} {A B O U : Option Addr} {ca cb co nh nr no nU cU : Nat} {ag : Int} {av : ByteArray} {rs : List Rl} {us : List Up} (h : Sl rdRl F w (.slice B nr cb) rs) (hU : Sl rdUp G w (.slice U nU cU) us) (hla : ∀ r ∈ rs, r.ats.length ≤ maxLen) (hlu : nU ≤ maxLen) :
    Calls Tryz.prog 33 #[.slice U nU cU, .agg #[.slice A nh ca, .int .i64 ag, .string av, .slice B nr cb, .slice O no co]] w (Ret BoolV w) := by
  have hnr := h.cap.1; have hnu := hU.cap.1
  have HR := Lib.hid h; have HN := Lib.hid hnr; have HLA := Lib.hid hla; have HU := Lib.hid hU; have HNU := Lib.hid hnu
  simp only [maxLen] at hlu
  clear h hnr hla hU hnu
  go_enter Tryz.func33, Tryz.ntmps33
  go_upto_region 1 with fail
  have kq := Bk.new w 61 [.slice A nh ca, .int .i64 ag, .string av, .slice B nr cb, .slice O no co]
  change Bk (w.alloc (.cells #[.slice A nh ca, .int .i64 ag, .string av, .slice B nr cb, .slice O no co] 61)) _ _ _ at kq
  have hx1 : Ext w (w.alloc (.cells #[.slice A nh ca, .int .i64 ag, .string av, .slice B nr cb, .slice O no co] 61)) := (Ext.refl w).alloc _
  generalize (w.alloc (.cells #[.slice A nh ca, .int .i64 ag, .string av, .slice B nr cb, .slice O no co] 61)) = w1 at *
  have HKQ := Lib.hid kq; have HX1 := Lib.hid hx1
  clear kq hx1
  go_wp2_with fail
  go_loopw [5] (fun t wr => ∃ i : Nat, t = .int .i64 (i : Int) ∧ i ≤ 5 ∧ Ext w1 wr) (fun t _ => 5 - (intOf t).toNat)
  case atStart => exact ⟨0, rfl, by omega, Ext.refl _⟩
  case round =>
    obtain ⟨i, rfl, hi5, hx⟩ := hrel
    obtain ⟨W, rfl⟩ : ∃ W : World, W = wr := ⟨_, rfl⟩
    have HX := Lib.hid hx
    have q3 := (HKQ.out.ext hx).cell (i := 3) (by simp)
    simp only [List.getElem_cons_zero, List.getElem_cons_succ] at q3
    by_cases hlt : i < nr ∧ i < 5
    · have i1 : (0 : Int) ≤ (i : Int) := by omega
      have i2 : (i : Int) < (nr : Int) := by omega
      have i3 : (i : Int) < 5 := by omega
      have hil : i < rs.length := by have := HN.out; omega
      obtain ⟨ad, Ba, da, Bc, dc, rfl, -, c0, -, hat, -⟩ := HR.out.rl hil
      have HAT := Lib.hid hat.at2
      replace c0 := hx.cell (HX1.out.cell c0)
      have hlen := HLA.out _ (List.getElem_mem hil)
      obtain ⟨na, hna⟩ : ∃ n, n = rs[i].ats.length := ⟨_, rfl⟩
      rw [← hna] at c0 hlen
      simp only [maxLen] at hlen
      have HC0 := Lib.hid c0; have HNA := Lib.hid hna
      clear hna hx hat
      go_wp2_with fail
      clear q3 c0
      go_loopw [6, 7, 8, 9] (fun u t _ _ wr => ∃ (k : Nat) (z : Int), k ≤ na ∧ t = .int .i64 (k : Int) ∧ u = .int .i64 z ∧ Ext W wr) (fun _ t _ _ _ => na - (intOf t).toNat)
      case atStart => exact ⟨0, _, Nat.zero_le _, rfl, rfl, Ext.refl _⟩
      case round =>
        obtain ⟨k, z, hk, rfl, rfl, hxk⟩ := hrel
        obtain ⟨W2, rfl⟩ : ∃ W : World, W = wr := ⟨_, rfl⟩
        have HXK := Lib.hid hxk
        have q3 := (HKQ.out.ext (HX.out.trans hxk)).cell (i := 3) (by simp)
        simp only [List.getElem_cons_zero, List.getElem_cons_succ] at q3
        have c0 := hxk.cell HC0.out
        by_cases hkl : k < na ∧ z ≤ 5000
        · have k1 : (0 : Int) ≤ (k : Int) := by omega
          have k2 : (k : Int) < (na : Int) := by omega
          have k3 : z ≤ 5000 := hkl.2
          have hka : k < rs[i].ats.length := by have := HNA.out; omega
          obtain ⟨adt, Bt, dt, rfl, -, -, e1, -, -⟩ := HAT.out k hka
          have he1 := hxk.cell (HX.out.cell (HX1.out.cell e1))
          obtain ⟨ar, har⟩ : ∃ n, n = rs[i].ats[k].rel := ⟨_, rfl⟩
          rw [← har] at he1
          have HE1 := Lib.hid he1
          clear hxk har e1 he1
          go_wp2_with fail
          clear q3 c0
          go_loopw [8, 9] (fun u t wr => ∃ (j : Nat) (y : Int), j ≤ nU ∧ u = .int .i64 y ∧ t = .int .i64 (j : Int) ∧ Ext W2 wr) (fun _ t _ => nU - (intOf t).toNat)
          case atStart => exact ⟨0, _, Nat.zero_le _, rfl, rfl, Ext.refl _⟩
          case round =>
            obtain ⟨j, y, hj, rfl, rfl, hx3⟩ := hrel
            have HX3 := Lib.hid (HXK.out.trans hx3); have HX23 := Lib.hid hx3
            by_cases hjl : j < nU
            · have j1 : (0 : Int) ≤ (j : Int) := by omega
              have j2 : (j : Int) < (nU : Int) := by omega
              have hju : j < us.length := by have := HNU.out; omega
              obtain ⟨adu, Bu, du, rfl, -, f1, -, -⟩ := HU.out.up hju
              replace f1 := (HX.out.trans HX3.out).cell (HX1.out.cell f1)
              obtain ⟨ur, hur⟩ : ∃ n, n = us[j].rel := ⟨_, rfl⟩
              rw [← hur] at f1
              have q3 := (HKQ.out.ext (HX.out.trans HX3.out)).cell (i := 3) (by simp)
              simp only [List.getElem_cons_zero, List.getElem_cons_succ] at q3
              have c0 := HX3.out.cell HC0.out
              have e1 := hx3.cell HE1.out
              clear hx3 hur
              go_upto_region 12 with fail
              go_quiet (fail)
              have HXQ := Lib.hid (HX23.out.drewN nq)
              generalize (wr.drewN nq) = W4 at *
              clear q3 c0 e1 f1
              go_wp2_with fail
              all_goals
                go_roundw
                case rel => exact ⟨j + 1, _, by omega, rfl, by go_num, HXQ.out⟩
                case measure => simp [intOf]; omega
            · obtain rfl : j = nU := by omega
              have hdj : ¬ (j : Int) < (j : Int) := by omega
              clear hx3
              go_wp2_with fail
              go_roundw
              case rel => exact ⟨k + 1, _, by omega, by go_num, rfl, HX3.out⟩
              case measure => simp [intOf]; omega
        · have HX9 := Lib.hid (HX.out.trans HXK.out)
          have HXB := Lib.hid (HX1.out.trans HX9.out)
          by_cases hz : z ≤ 5000
          · obtain rfl : k = na := by omega
            have hdk : ¬ (k : Int) < (k : Int) := by omega
            have hz2 : ¬ 5000 < z := by omega
            clear hxk hkl
            go_wp2_with fail
            go_roundw
            case rel => exact ⟨i + 1, by go_num, by omega, HX9.out⟩
            case measure => simp [intOf]; omega
          · have hz2 : 5000 < z := by omega
            clear hxk hkl
            by_cases hkn : k < na
            · have k2 : (k : Int) < (na : Int) := by omega
              go_wp2_with fail
              go_ret
              exact Ret.mk HXB.out ⟨false, rfl⟩
            · have k2 : ¬ (k : Int) < (na : Int) := by omega
              go_wp2_with fail
              go_ret
              exact Ret.mk HXB.out ⟨false, rfl⟩
    · have HX9 := Lib.hid (HX1.out.trans hx)
      clear hx
      by_cases h1 : i < nr
      · have i2 : (i : Int) < (nr : Int) := by omega
        have i3 : ¬ (i : Int) < 5 := by omega
        clear hlt
        go_wp2_with fail
        go_ret
        exact Ret.mk HX9.out ⟨true, rfl⟩
      · have i2 : ¬ (i : Int) < (nr : Int) := by omega
        clear hlt
        go_wp2_with fail
        go_ret
        exact Ret.mk HX9.out ⟨true, rfl⟩
/-- What Few's answer says, with updates. -/
def FewUOk (b : Bool) (nS nU : Nat) (nh nr no : Nat) : Prop := b = true → nS ≤ 6 ∧ nU ≤ 40 ∧ nh ≤ 20 ∧ nr ≤ 4 ∧ no ≤ 20
def FewURet (nS nU nh nr no : Nat) (x : Value) (_ : World) : Prop := ∃ b, x = .bool b ∧ FewUOk b nS nU nh nr no
set_option maxRecDepth 20000 in
set_option maxHeartbeats 1600000 in
theorem few_any {F G : Nat → Prop} {w : World} {S A B O U : Option Addr} {nU cU : Nat} {us : List Up} {nS cs ca cb co nh nr no : Nat} {ag : Int} {av : ByteArray} {rs : List Rl} (h : Sl rdRl F w (.slice B nr cb) rs) (hU : Sl rdUp G w (.slice U nU cU) us) (hlu : nU ≤ maxLen) (hla : ∀ r ∈ rs, r.ats.length ≤ maxLen) :
    Calls Tryz.prog 12 #[.slice S nS cs, .slice U nU cU, .agg #[.slice A nh ca, .int .i64 ag, .string av, .slice B nr cb, .slice O no co]] w (Ret (FewURet nS nU nh nr no) w) := by
  have hnr := h.cap.1
  have HBR := Lib.hid (fun (V : World) (hV : Ext w V) => brief_any (A := A) (ca := ca) (nh := nh) (ag := ag) (av := av) (O := O) (no := no) (co := co) (h.ext hV) (hU.ext hV) hla hlu)
  have HR := Lib.hid h; have HN := Lib.hid hnr
  clear h hnr hU
  go_enter Tryz.func12, Tryz.ntmps12
  go_upto_region 1 with fail
  have kq := Bk.new w 61 [.slice A nh ca, .int .i64 ag, .string av, .slice B nr cb, .slice O no co]
  change Bk (w.alloc (.cells #[.slice A nh ca, .int .i64 ag, .string av, .slice B nr cb, .slice O no co] 61)) _ _ _ at kq
  have hx1 : Ext w (w.alloc (.cells #[.slice A nh ca, .int .i64 ag, .string av, .slice B nr cb, .slice O no co] 61)) := (Ext.refl w).alloc _
  generalize (w.alloc (.cells #[.slice A nh ca, .int .i64 ag, .string av, .slice B nr cb, .slice O no co] 61)) = w1 at *
  have q0 := kq.cell (i := 0) (by simp); have q1 := kq.cell (i := 1) (by simp); have q2 := kq.cell (i := 2) (by simp); have q3 := kq.cell (i := 3) (by simp); have q4 := kq.cell (i := 4) (by simp)
  simp only [List.getElem_cons_zero, List.getElem_cons_succ] at q0 q1 q2 q3 q4
  have HKQ := Lib.hid kq; have HX1 := Lib.hid hx1
  clear kq hx1
  go_wp2_with fail
  refine (HBR.out _ HX1.out).mono ?_
  rintro e w2 ⟨x, rfl, he, b, rfl⟩
  rcases b with _ | _
  · have HX2 := Lib.hid (HX1.out.trans he)
    clear he q0 q1 q2 q3 q4
    go_wp2_with fail
    go_ret
    exact Ret.mk HX2.out ⟨false, rfl, fun h => by cases h⟩
  replace HKQ := Lib.hid (HKQ.out.ext he); replace HX1 := Lib.hid (HX1.out.trans he)
  clear he q0 q1 q2 q3 q4
  go_wp2_with fail
  go_loopw [7, 8, 9] (fun u t _ wr => ∃ (i : Nat) (z : Int), u = .int .i64 z ∧ t = .int .i64 (i : Int) ∧ i ≤ 5 ∧ Ext w2 wr) (fun _ t _ _ => 5 - (intOf t).toNat)
  case atStart => exact ⟨0, 0, rfl, rfl, by omega, Ext.refl _⟩
  case round =>
    obtain ⟨i, z, rfl, rfl, hi5, hx⟩ := hrel
    obtain ⟨W, rfl⟩ : ∃ W : World, W = wr := ⟨_, rfl⟩
    have HX := Lib.hid hx
    have q0 := (HKQ.out.ext hx).cell (i := 0) (by simp); have q3 := (HKQ.out.ext hx).cell (i := 3) (by simp); have q4 := (HKQ.out.ext hx).cell (i := 4) (by simp)
    simp only [List.getElem_cons_zero, List.getElem_cons_succ] at q0 q3 q4
    by_cases hlt : i < nr ∧ i < 5
    · have i1 : (0 : Int) ≤ (i : Int) := by omega
      have i2 : (i : Int) < (nr : Int) := by omega
      have i3 : (i : Int) < 5 := by omega
      have hil : i < rs.length := by have := HN.out; omega
      obtain ⟨ad, Ba, da, Bc, dc, rfl, -, c0, c1, hat, -⟩ := HR.out.rl hil
      replace c0 := hx.cell (HX1.out.cell c0); replace c1 := hx.cell (HX1.out.cell c1)
      have HAT := Lib.hid hat.at2
      obtain ⟨na, hna⟩ : ∃ n, n = rs[i].ats.length := ⟨_, rfl⟩
      rw [← hna] at c0
      have HNA := Lib.hid hna
      obtain ⟨nc, hnc⟩ : ∃ n, n = rs[i].cds.length := ⟨_, rfl⟩
      rw [← hnc] at c1
      have HC0 := Lib.hid c0
      clear hna hnc hx hat
      go_upto_region 7 with fail
      go_quiet (fail)
      have HXQ := Lib.hid (HX.out.drewN nq)
      have c0q := (Ext.refl W).drewN nq |>.cell c0
      have q3q := (Ext.refl W).drewN nq |>.cell q3
      generalize (W.drewN nq) = W1 at *
      obtain ⟨z1, hz1⟩ : ∃ z1, z1 = wrap64 (z + wrap64 ((na : Int) + (nc : Int))) := ⟨_, rfl⟩
      rw [← hz1]
      have HC0Q := Lib.hid c0q
      clear hz1 q0 q4 c0 c1 q3
      go_wp2_with fail
      clear c0q q3q
      go_loopw [7, 9] (fun u t wr => ∃ (k : Nat) (z : Int), u = .int .i64 z ∧ t = .int .i64 (k : Int) ∧ k ≤ 20 ∧ Ext W1 wr) (fun _ t _ => 20 - (intOf t).toNat)
      case atStart => exact ⟨0, _, rfl, rfl, by omega, Ext.refl _⟩
      case round =>
        obtain ⟨k, z2, rfl, rfl, hk20, hxk⟩ := hrel
        obtain ⟨W2, rfl⟩ : ∃ W : World, W = wr := ⟨_, rfl⟩
        have HXK := Lib.hid (HXQ.out.trans hxk)
        have q3 := (HKQ.out.ext (HXQ.out.trans hxk)).cell (i := 3) (by simp)
        simp only [List.getElem_cons_zero, List.getElem_cons_succ] at q3
        have c0 := hxk.cell HC0Q.out
        by_cases hkl : k < na ∧ k < 20
        · have HXK1 := Lib.hid hxk
          have k1 : (0 : Int) ≤ (k : Int) := by omega
          have k2 : (k : Int) < (na : Int) := by omega
          have k3 : (k : Int) < 20 := by omega
          have hka : k < rs[i].ats.length := by have := HNA.out; omega
          obtain ⟨adt, Bt, dt, rfl, -, -, -, c2, -⟩ := HAT.out k hka
          replace c2 := HXK.out.cell (HX1.out.cell c2)
          obtain ⟨nt, hnt⟩ : ∃ n, n = rs[i].ats[k].terms.length := ⟨_, rfl⟩
          rw [← hnt] at c2
          clear hxk hnt
          go_wp2_with fail
          go_roundw
          case rel => exact ⟨k + 1, _, rfl, by go_num, by omega, HXK1.out⟩
          case measure => simp [intOf]; omega
        · clear hxk
          by_cases h1 : k < na
          · have k2 : (k : Int) < (na : Int) := by omega
            have k3 : ¬ (k : Int) < 20 := by omega
            clear hkl
            go_wp2_with fail
            go_roundw
            case rel => exact ⟨i + 1, _, rfl, by go_num, by omega, HXK.out⟩
            case measure => simp [intOf]; omega
          · have k2 : ¬ (k : Int) < (na : Int) := by omega
            clear hkl
            go_wp2_with fail
            go_roundw
            case rel => exact ⟨i + 1, _, rfl, by go_num, by omega, HXK.out⟩
            case measure => simp [intOf]; omega
    · have HX9 := Lib.hid (HX1.out.trans hx)
      have h60 : ∀ b : Bool, b = true → True := fun _ _ => trivial
      clear hx
      have hstop : i < nr → ¬ (i : Int) < 5 := fun h => by omega
      by_cases h1 : i < nr
      · have i2 : (i : Int) < (nr : Int) := by omega
        have i3 := hstop h1
        clear hlt hstop h60
        by_cases s1 : (nS : Int) ≤ 6
        rotate_left 1
        · go_wp2_with fail
          go_ret
          exact Ret.mk HX9.out ⟨false, rfl, fun h => by cases h⟩
        by_cases su : (nU : Int) ≤ 40
        rotate_left 1
        · go_wp2_with fail
          go_ret
          exact Ret.mk HX9.out ⟨false, rfl, fun h => by cases h⟩
        by_cases s2 : (nr : Int) ≤ 4
        rotate_left 1
        · go_wp2_with fail
          go_ret
          exact Ret.mk HX9.out ⟨false, rfl, fun h => by cases h⟩
        exfalso
        omega
      · have i2 : ¬ (i : Int) < (nr : Int) := by omega
        clear hlt hstop h60
        by_cases s1 : (nS : Int) ≤ 6
        rotate_left 1
        · go_wp2_with fail
          go_ret
          exact Ret.mk HX9.out ⟨false, rfl, fun h => by cases h⟩
        by_cases su : (nU : Int) ≤ 40
        rotate_left 1
        · go_wp2_with fail
          go_ret
          exact Ret.mk HX9.out ⟨false, rfl, fun h => by cases h⟩
        by_cases s2 : (nr : Int) ≤ 4
        rotate_left 1
        · go_wp2_with fail
          go_ret
          exact Ret.mk HX9.out ⟨false, rfl, fun h => by cases h⟩
        by_cases s3 : z ≤ 60
        rotate_left 1
        · go_wp2_with fail
          go_ret
          exact Ret.mk HX9.out ⟨false, rfl, fun h => by cases h⟩
        by_cases s4 : (nh : Int) ≤ 20
        rotate_left 1
        · go_wp2_with fail
          go_ret
          exact Ret.mk HX9.out ⟨false, rfl, fun h => by cases h⟩
        by_cases s5 : (no : Int) ≤ 20
        rotate_left 1
        · go_wp2_with fail
          go_ret
          exact Ret.mk HX9.out ⟨false, rfl, fun h => by cases h⟩
        go_wp2_with fail
        go_ret
        exact Ret.mk HX9.out ⟨true, rfl, fun _ => ⟨by omega, by omega, by omega, by omega, by omega⟩⟩
end Go.Proofs.YtmmmdinncmbjkaaGreat
