/- Contracts: the law's ints, Brief and Few (no updates). -/
import Derived.Test.YtmmmdinncmbjkaaOa
namespace Go.Proofs.Ytmmmdinncmbjkaa
open Go.RowKit Go.Maps

theorem ret_bv {a b : Bool} (h : a = b) : Value.bool b = .bool a := by rw [h]
set_option maxRecDepth 20000 in
set_option maxHeartbeats 1600000 in
theorem ints_any {F G : Nat → Prop} {w : World} {A B : Option Addr} {n c m d : Nat} {xs ys : List Int} (h : Ins F w (.slice A n c) xs) (k : Ins G w (.slice B m d) ys) (hn : n ≤ 1048576) :
    Calls Try.prog 14 #[.slice A n c, .slice B m d] w (Ret (fun x _ => x = .bool (decide (xs = ys))) w) := by
  obtain ⟨A', c', e, -, hcl⟩ := h
  injection e with e1 e2 e3
  subst e1 e3
  obtain ⟨B', d', f, -, kcl⟩ := k
  injection f with f1 f2 f3
  subst f1 f3
  by_cases hnm : n = m
  · subst hnm
    have HC := Lib.hid hcl; have HD := Lib.hid kcl; have HN := Lib.hid e2; have HM := Lib.hid f2
    clear hcl kcl e2 f2
    go_enter Try.func14, Try.ntmps14
    go_wp2_with fail
    go_loopw [5] (fun t wr => ∃ i : Nat, i ≤ n ∧ t = .int .i64 (i : Int) ∧ Hid (∀ j (_ : j < i) (h : j < xs.length) (h' : j < ys.length), xs[j] = ys[j]) ∧ Ext w wr) (fun t _ => n - (intOf t).toNat)
    case atStart => exact ⟨0, Nat.zero_le _, rfl, Lib.hid (fun j hj => by omega), Ext.refl _⟩
    case round =>
      obtain ⟨i, hi, rfl, HJ, hx⟩ := hrel
      have HX := Lib.hid hx
      by_cases hlt : i < n
      · have i1 : (0 : Int) ≤ (i : Int) := by omega
        have i2 : (i : Int) < (n : Int) := by omega
        have hil : i < xs.length := by have := HN.out; omega
        have hiy : i < ys.length := by have := HM.out; omega
        obtain ⟨ad, rfl, -, c0⟩ := HC.out.int hil
        obtain ⟨bd, rfl, -, d0⟩ := HD.out.int hiy
        replace c0 := hx.cell c0; replace d0 := hx.cell d0
        have h1 : xs[i] = ys[i] → Hid (∀ j (_ : j < i + 1) (h : j < xs.length) (h' : j < ys.length), xs[j] = ys[j]) := fun h => Lib.hid (fun j hj hl hl' => by
          rcases Nat.lt_or_ge j i with h3 | h3
          · exact HJ.out j h3 hl hl'
          · have : j = i := by omega
            subst this; exact h)
        have h2 : xs[i] ≠ ys[i] → Hid (decide (xs = ys) = false) := fun h => Lib.hid (decide_eq_false (fun e => h (by subst e; rfl)))
        obtain ⟨x, hxx⟩ : ∃ x, x = xs[i] := ⟨_, rfl⟩
        obtain ⟨y, hyy⟩ : ∃ y, y = ys[i] := ⟨_, rfl⟩
        rw [← hxx] at c0 h1 h2
        rw [← hyy] at d0 h1 h2
        have H1 := Lib.hid h1; have H2 := Lib.hid h2
        clear hxx hyy h1 h2 hx
        by_cases he : x = y
        · have HJ2 := H1.out he
          have hb : (x != y) = false := by rw [he]; simp
          clear he
          go_upto_region 6 with fail
          go_quiet (fail)
          have HXQ := Lib.hid (HX.out.drewN nq)
          generalize (wr.drewN nq) = w2 at *
          go_wp2_with fail
          go_roundw
          case rel => exact ⟨i + 1, by omega, by go_num, HJ2, HXQ.out⟩
          case measure => simp [intOf]; omega
        · have HQ := H2.out he
          have hb : (x != y) = true := by rw [bne_iff_ne]; exact he
          clear he
          go_upto_region 6 with fail
          go_quiet (fail)
          have HXQ := Lib.hid (HX.out.drewN nq)
          generalize (wr.drewN nq) = w2 at *
          go_wp2_with fail
          go_ret
          exact Ret.mk HXQ.out (ret_bv HQ.out)
      · obtain rfl : i = n := by omega
        have hdi : ¬ (i : Int) < (i : Int) := by omega
        have HQ : Hid (decide (xs = ys) = true) := Lib.hid (decide_eq_true (List.ext_getElem (by rw [← HN.out, ← HM.out]) (fun j hj hj' => HJ.out j (by have := HN.out; omega) hj hj')))
        clear hx
        go_wp2_with fail
        go_ret
        exact Ret.mk HX.out (ret_bv HQ.out)
  · have HQ : Hid (decide (xs = ys) = false) := Lib.hid (decide_eq_false (fun e => hnm (by rw [e2, f2, e])))
    have hb : ((n : Int) != (m : Int)) = true := by rw [bne_iff_ne]; omega
    clear hcl kcl e2 f2 hnm
    go_enter Try.func14, Try.ntmps14
    go_wp2_with fail
    go_ret
    exact Ret.mk (Ext.refl _) (ret_bv HQ.out)
set_option maxRecDepth 20000 in
set_option maxHeartbeats 1600000 in
theorem brief_nil {F : Nat → Prop} {w : World} {A B O : Option Addr} {ca cb co nh nr no : Nat} {ag : Int} {av : ByteArray} {rs : List Rl} (h : Sl rdRl F w (.slice B nr cb) rs) (hla : ∀ r ∈ rs, r.ats.length ≤ maxLen) :
    Calls Try.prog 17 #[.slice none 0 0, .agg #[.slice A nh ca, .int .i64 ag, .string av, .slice B nr cb, .slice O no co]] w (Ret (fun x _ => x = .bool true) w) := by
  have hnr := h.cap.1
  have HR := Lib.hid h; have HN := Lib.hid hnr; have HLA := Lib.hid hla
  clear h hnr hla
  go_enter Try.func17, Try.ntmps17
  go_upto_region 1 with fail
  have kq := Bk.new w 27 [.slice A nh ca, .int .i64 ag, .string av, .slice B nr cb, .slice O no co]
  change Bk (w.alloc (.cells #[.slice A nh ca, .int .i64 ag, .string av, .slice B nr cb, .slice O no co] 27)) _ _ _ at kq
  have hx1 : Ext w (w.alloc (.cells #[.slice A nh ca, .int .i64 ag, .string av, .slice B nr cb, .slice O no co] 27)) := (Ext.refl w).alloc _
  generalize (w.alloc (.cells #[.slice A nh ca, .int .i64 ag, .string av, .slice B nr cb, .slice O no co] 27)) = w1 at *
  have HKQ := Lib.hid kq; have HX1 := Lib.hid hx1
  clear kq hx1
  go_wp2_with fail
  go_loopw [5] (fun t wr => ∃ i : Nat, t = .int .i64 (i : Int) ∧ i ≤ 5 ∧ Ext w1 wr) (fun t _ => 5 - (intOf t).toNat)
  case atStart => exact ⟨0, rfl, by omega, Ext.refl _⟩
  case round =>
    obtain ⟨i, rfl, hi5, hx⟩ := hrel
    obtain ⟨W, rfl⟩ : ∃ W : World, W = wr := ⟨_, rfl⟩
    have HX := Lib.hid hx
    have q3 := (HKQ.out.ext hx).cell (i := 3) (by simp)
    simp only [List.getElem_cons_zero, List.getElem_cons_succ] at q3
    by_cases hlt : i < nr ∧ i < 5
    · have i1 : (0 : Int) ≤ (i : Int) := by omega
      have i2 : (i : Int) < (nr : Int) := by omega
      have i3 : (i : Int) < 5 := by omega
      have hil : i < rs.length := by have := HN.out; omega
      obtain ⟨ad, Ba, da, Bc, dc, rfl, -, c0, -, -, -⟩ := HR.out.rl hil
      replace c0 := hx.cell (HX1.out.cell c0)
      have hlen := HLA.out _ (List.getElem_mem hil)
      obtain ⟨na, hna⟩ : ∃ n, n = rs[i].ats.length := ⟨_, rfl⟩
      rw [← hna] at c0 hlen
      simp only [maxLen] at hlen
      have HC0 := Lib.hid c0
      clear hna hx
      go_wp2_with fail
      clear q3 c0
      go_loopw [6, 7, 8, 9] (fun u t _ _ wr => ∃ k : Nat, k ≤ na ∧ t = .int .i64 (k : Int) ∧ u = .int .i64 1 ∧ Ext W wr) (fun _ t _ _ _ => na - (intOf t).toNat)
      case atStart => exact ⟨0, Nat.zero_le _, rfl, rfl, Ext.refl _⟩
      case round =>
        obtain ⟨k, hk, rfl, rfl, hxk⟩ := hrel
        obtain ⟨W2, rfl⟩ : ∃ W : World, W = wr := ⟨_, rfl⟩
        have HXK := Lib.hid hxk
        have q3 := (HKQ.out.ext (HX.out.trans hxk)).cell (i := 3) (by simp)
        simp only [List.getElem_cons_zero, List.getElem_cons_succ] at q3
        have c0 := hxk.cell HC0.out
        clear hxk
        by_cases hkl : k < na
        · have k1 : (0 : Int) ≤ (k : Int) := by omega
          have k2 : (k : Int) < (na : Int) := by omega
          go_wp2_with fail
          clear q3 c0
          go_loopw [8, 9] (fun u t wr => u = .int .i64 1 ∧ t = .int .i64 0 ∧ Ext W2 wr) (fun _ _ _ => 0)
          case atStart => exact ⟨rfl, rfl, Ext.refl _⟩
          case round =>
            obtain ⟨rfl, rfl, hx3⟩ := hrel
            have HX3 := Lib.hid (HXK.out.trans hx3)
            clear hx3
            go_wp2_with fail
            go_roundw
            case rel => exact ⟨k + 1, by omega, by go_num, rfl, HX3.out⟩
            case measure => simp [intOf]; omega
        · obtain rfl : k = na := by omega
          have hdk : ¬ (k : Int) < (k : Int) := by omega
          have HX9 := Lib.hid (HX.out.trans HXK.out)
          go_wp2_with fail
          go_roundw
          case rel => exact ⟨i + 1, by go_num, by omega, HX9.out⟩
          case measure => simp [intOf]; omega
    · have HX9 := Lib.hid (HX1.out.trans hx)
      clear hx
      by_cases h1 : i < nr
      · have i2 : (i : Int) < (nr : Int) := by omega
        have i3 : ¬ (i : Int) < 5 := by omega
        clear hlt
        go_wp2_with fail
        go_ret
        exact Ret.mk HX9.out rfl
      · have i2 : ¬ (i : Int) < (nr : Int) := by omega
        clear hlt
        go_wp2_with fail
        go_ret
        exact Ret.mk HX9.out rfl
/-- What Few's answer says. -/
def FewOk (b : Bool) (nS : Nat) (nh nr no : Nat) : Prop := b = true → nS ≤ 6 ∧ nh ≤ 20 ∧ nr ≤ 4 ∧ no ≤ 20
def FewRet (nS nh nr no : Nat) (x : Value) (_ : World) : Prop := ∃ b, x = .bool b ∧ FewOk b nS nh nr no
set_option maxRecDepth 20000 in
set_option maxHeartbeats 1600000 in
theorem few_nil {F : Nat → Prop} {w : World} {S A B O : Option Addr} {nS cs ca cb co nh nr no : Nat} {ag : Int} {av : ByteArray} {rs : List Rl} (h : Sl rdRl F w (.slice B nr cb) rs) (hla : ∀ r ∈ rs, r.ats.length ≤ maxLen) :
    Calls Try.prog 7 #[.slice S nS cs, .slice none 0 0, .agg #[.slice A nh ca, .int .i64 ag, .string av, .slice B nr cb, .slice O no co]] w (Ret (FewRet nS nh nr no) w) := by
  have hnr := h.cap.1
  have HBR := Lib.hid (fun (V : World) (hV : Ext w V) => brief_nil (A := A) (ca := ca) (nh := nh) (ag := ag) (av := av) (O := O) (no := no) (co := co) (h.ext hV) hla)
  have HR := Lib.hid h; have HN := Lib.hid hnr
  clear h hnr
  go_enter Try.func7, Try.ntmps7
  go_upto_region 1 with fail
  have kq := Bk.new w 27 [.slice A nh ca, .int .i64 ag, .string av, .slice B nr cb, .slice O no co]
  change Bk (w.alloc (.cells #[.slice A nh ca, .int .i64 ag, .string av, .slice B nr cb, .slice O no co] 27)) _ _ _ at kq
  have hx1 : Ext w (w.alloc (.cells #[.slice A nh ca, .int .i64 ag, .string av, .slice B nr cb, .slice O no co] 27)) := (Ext.refl w).alloc _
  generalize (w.alloc (.cells #[.slice A nh ca, .int .i64 ag, .string av, .slice B nr cb, .slice O no co] 27)) = w1 at *
  have q0 := kq.cell (i := 0) (by simp); have q1 := kq.cell (i := 1) (by simp); have q2 := kq.cell (i := 2) (by simp); have q3 := kq.cell (i := 3) (by simp); have q4 := kq.cell (i := 4) (by simp)
  simp only [List.getElem_cons_zero, List.getElem_cons_succ] at q0 q1 q2 q3 q4
  have HKQ := Lib.hid kq; have HX1 := Lib.hid hx1
  clear kq hx1
  go_wp2_with fail
  refine (HBR.out _ HX1.out).mono ?_
  rintro e w2 ⟨x, rfl, he, rfl⟩
  replace HKQ := Lib.hid (HKQ.out.ext he); replace HX1 := Lib.hid (HX1.out.trans he)
  clear he q0 q1 q2 q3 q4
  go_wp2_with fail
  go_loopw [7, 8, 9] (fun u t _ wr => ∃ (i : Nat) (z : Int), u = .int .i64 z ∧ t = .int .i64 (i : Int) ∧ i ≤ 5 ∧ Ext w2 wr) (fun _ t _ _ => 5 - (intOf t).toNat)
  case atStart => exact ⟨0, 0, rfl, rfl, by omega, Ext.refl _⟩
  case round =>
    obtain ⟨i, z, rfl, rfl, hi5, hx⟩ := hrel
    obtain ⟨W, rfl⟩ : ∃ W : World, W = wr := ⟨_, rfl⟩
    have HX := Lib.hid hx
    have q0 := (HKQ.out.ext hx).cell (i := 0) (by simp); have q3 := (HKQ.out.ext hx).cell (i := 3) (by simp); have q4 := (HKQ.out.ext hx).cell (i := 4) (by simp)
    simp only [List.getElem_cons_zero, List.getElem_cons_succ] at q0 q3 q4
    by_cases hlt : i < nr ∧ i < 5
    · have i1 : (0 : Int) ≤ (i : Int) := by omega
      have i2 : (i : Int) < (nr : Int) := by omega
      have i3 : (i : Int) < 5 := by omega
      have hil : i < rs.length := by have := HN.out; omega
      obtain ⟨ad, Ba, da, Bc, dc, rfl, -, c0, c1, hat, -⟩ := HR.out.rl hil
      replace c0 := hx.cell (HX1.out.cell c0); replace c1 := hx.cell (HX1.out.cell c1)
      have HAT := Lib.hid hat.at2
      obtain ⟨na, hna⟩ : ∃ n, n = rs[i].ats.length := ⟨_, rfl⟩
      rw [← hna] at c0
      have HNA := Lib.hid hna
      obtain ⟨nc, hnc⟩ : ∃ n, n = rs[i].cds.length := ⟨_, rfl⟩
      rw [← hnc] at c1
      have HC0 := Lib.hid c0
      clear hna hnc hx hat
      go_upto_region 7 with fail
      go_quiet (fail)
      have HXQ := Lib.hid (HX.out.drewN nq)
      have c0q := (Ext.refl W).drewN nq |>.cell c0
      have q3q := (Ext.refl W).drewN nq |>.cell q3
      generalize (W.drewN nq) = W1 at *
      obtain ⟨z1, hz1⟩ : ∃ z1, z1 = wrap64 (z + wrap64 ((na : Int) + (nc : Int))) := ⟨_, rfl⟩
      rw [← hz1]
      have HC0Q := Lib.hid c0q
      clear hz1 q0 q4 c0 c1 q3
      go_wp2_with fail
      clear c0q q3q
      go_loopw [7, 9] (fun u t wr => ∃ (k : Nat) (z : Int), u = .int .i64 z ∧ t = .int .i64 (k : Int) ∧ k ≤ 20 ∧ Ext W1 wr) (fun _ t _ => 20 - (intOf t).toNat)
      case atStart => exact ⟨0, _, rfl, rfl, by omega, Ext.refl _⟩
      case round =>
        obtain ⟨k, z2, rfl, rfl, hk20, hxk⟩ := hrel
        obtain ⟨W2, rfl⟩ : ∃ W : World, W = wr := ⟨_, rfl⟩
        have HXK := Lib.hid (HXQ.out.trans hxk)
        have q3 := (HKQ.out.ext (HXQ.out.trans hxk)).cell (i := 3) (by simp)
        simp only [List.getElem_cons_zero, List.getElem_cons_succ] at q3
        have c0 := hxk.cell HC0Q.out
        by_cases hkl : k < na ∧ k < 20
        · have HXK1 := Lib.hid hxk
          have k1 : (0 : Int) ≤ (k : Int) := by omega
          have k2 : (k : Int) < (na : Int) := by omega
          have k3 : (k : Int) < 20 := by omega
          have hka : k < rs[i].ats.length := by have := HNA.out; omega
          obtain ⟨adt, Bt, dt, rfl, -, -, -, c2, -⟩ := HAT.out k hka
          replace c2 := HXK.out.cell (HX1.out.cell c2)
          obtain ⟨nt, hnt⟩ : ∃ n, n = rs[i].ats[k].terms.length := ⟨_, rfl⟩
          rw [← hnt] at c2
          clear hxk hnt
          go_wp2_with fail
          go_roundw
          case rel => exact ⟨k + 1, _, rfl, by go_num, by omega, HXK1.out⟩
          case measure => simp [intOf]; omega
        · clear hxk
          by_cases h1 : k < na
          · have k2 : (k : Int) < (na : Int) := by omega
            have k3 : ¬ (k : Int) < 20 := by omega
            clear hkl
            go_wp2_with fail
            go_roundw
            case rel => exact ⟨i + 1, _, rfl, by go_num, by omega, HXK.out⟩
            case measure => simp [intOf]; omega
          · have k2 : ¬ (k : Int) < (na : Int) := by omega
            clear hkl
            go_wp2_with fail
            go_roundw
            case rel => exact ⟨i + 1, _, rfl, by go_num, by omega, HXK.out⟩
            case measure => simp [intOf]; omega
    · have HX9 := Lib.hid (HX1.out.trans hx)
      have h60 : ∀ b : Bool, b = true → True := fun _ _ => trivial
      clear hx
      have hstop : i < nr → ¬ (i : Int) < 5 := fun h => by omega
      by_cases h1 : i < nr
      · have i2 : (i : Int) < (nr : Int) := by omega
        have i3 := hstop h1
        clear hlt hstop h60
        by_cases s1 : (nS : Int) ≤ 6
        rotate_left 1
        · go_wp2_with fail
          go_ret
          exact Ret.mk HX9.out ⟨false, rfl, fun h => by cases h⟩
        by_cases s2 : (nr : Int) ≤ 4
        rotate_left 1
        · go_wp2_with fail
          go_ret
          exact Ret.mk HX9.out ⟨false, rfl, fun h => by cases h⟩
        exfalso
        omega
      · have i2 : ¬ (i : Int) < (nr : Int) := by omega
        clear hlt hstop h60
        by_cases s1 : (nS : Int) ≤ 6
        rotate_left 1
        · go_wp2_with fail
          go_ret
          exact Ret.mk HX9.out ⟨false, rfl, fun h => by cases h⟩
        by_cases s2 : (nr : Int) ≤ 4
        rotate_left 1
        · go_wp2_with fail
          go_ret
          exact Ret.mk HX9.out ⟨false, rfl, fun h => by cases h⟩
        by_cases s3 : z ≤ 60
        rotate_left 1
        · go_wp2_with fail
          go_ret
          exact Ret.mk HX9.out ⟨false, rfl, fun h => by cases h⟩
        by_cases s4 : (nh : Int) ≤ 20
        rotate_left 1
        · go_wp2_with fail
          go_ret
          exact Ret.mk HX9.out ⟨false, rfl, fun h => by cases h⟩
        by_cases s5 : (no : Int) ≤ 20
        rotate_left 1
        · go_wp2_with fail
          go_ret
          exact Ret.mk HX9.out ⟨false, rfl, fun h => by cases h⟩
        go_wp2_with fail
        go_ret
        exact Ret.mk HX9.out ⟨true, rfl, fun _ => ⟨by omega, by omega, by omega, by omega⟩⟩
end Go.Proofs.Ytmmmdinncmbjkaa
