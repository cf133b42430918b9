/- The walk of QuantileCuts. -/
import Derived.Test.YtamkbboijblooaaRefQ
namespace Go.Proofs.Ytamkbboijblooaa
open Go.RowKit

set_option maxRecDepth 20000 in
set_option maxHeartbeats 1600000 in
theorem law_cuts_err {w : World} {n : Nat} {p : Int} (hn : n < 65536) (hp : Hid (p < 1 ∨ 1024 < p)) :
    Calls Try.prog 9 #[.int .u16 (n : Int), .int .i64 p] w (Ret (fun x _ => x = .bool true) w) := by
  by_cases h1 : p < 1
  all_goals
    first
      | (have h2 : decide (p < 1) = true := by simp; omega)
      | (have h2 : decide (p < 1) = false := by simp; omega)
    go_enter Try.func9, Try.ntmps9
    go_wp2_with fail
    refine (awake45 _).mono ?_
    rintro e w1 ⟨_, rfl, he1, rfl⟩
    go_wp2_with fail
    refine (of45 n (by omega) _).mono ?_
    rintro e w2 ⟨_, rfl, he2, h10⟩
    go_wp2_with fail
    refine (cuts_err hp.out).mono ?_
    rintro e w3 ⟨rfl, rfl⟩
    first
      | skip; (have h3 : decide ((1024 : Int) < p) = true := by have := hp.out; simp; omega)
      | skip
    go_wp2_with fail
    go_ret
    exact Ret.mk (he1.trans he2) rfl

set_option maxRecDepth 20000 in
set_option maxHeartbeats 1600000 in
theorem law_cuts_ok {w : World} {n p : Nat} (hn : n < 65536) (h0 : 0 < p) (hp : p ≤ 1024) :
    Calls Try.prog 9 #[.int .u16 (n : Int), .int .i64 (p : Int)] w (Ret (fun x _ => x = .bool true) w) := by
  have hd1 : decide ((p : Int) < 1) = false := by simp; omega
  have hd2 : decide ((1024 : Int) < p) = false := by simp; omega
  go_enter Try.func9, Try.ntmps9
  go_wp2_with fail
  refine (awake45 _).mono ?_
  rintro e w1 ⟨_, rfl, he1, rfl⟩
  go_wp2_with fail
  refine (of45 n (by omega) _).mono ?_
  rintro e w2 ⟨_, rfl, he2, h10⟩
  go_wp2_with fail
  refine (cuts_any (p := p) h10.nv h0 hp (dl (by omega))).mono ?_
  rintro e w3 ⟨A, m, c, rfl, hm, hns, he3⟩
  go_wp2_with fail
  refine (refCuts (n := n) (p := p) hn h0 hp).mono ?_
  rintro e w4 ⟨x, rfl, he4, hin⟩
  obtain ⟨B, d, rfl, hd, hcell⟩ := hin.parts
  rw [cuts_length] at hcell hd ⊢
  rw [← hm] at hcell hd ⊢
  have hmb : m ≤ 1025 := by omega
  have HM := Lib.hid hm
  clear hm hin
  have HNS := Lib.hid (hns.ext he4); have HCE := Lib.hid hcell
  have hx := ((he1.trans he2).trans he3).trans he4
  clear hns hcell h10 he1 he2 he3 he4 hd1 hd2
  go_wp2_with fail
  obtain ⟨w0, rfl⟩ : ∃ w0 : World, w0 = w4 := ⟨_, rfl⟩
  go_loopw [8] (fun q wr => ∃ (i : Nat), i ≤ m ∧ q = .int .i64 i ∧ Ext w0 wr) (fun q _ => m - (intOf q).toNat)
  case atStart => exact ⟨0, Nat.zero_le _, rfl, Ext.refl _⟩
  case round =>
    obtain ⟨i, hi, rfl, hext⟩ := hrel
    by_cases hlt : i < m
    · obtain ⟨ad, C, k, f, rfl, hc1, hz⟩ := HNS.out i hlt
      obtain ⟨bd, rfl, hc2⟩ := HCE.out i hlt
      rw [cuts_get (by have := HM.out; omega)] at hc2
      have hcl := cutAt_le (n := n) h0 (show i ≤ p by have := HM.out; omega)
      generalize cutAt n p i = cc at *
      replace hc1 := hext.cell hc1
      replace hc2 := hext.cell hc2
      replace hz := hz.ext hext
      have i1 : (0 : Int) ≤ (i : Int) := by omega
      have i2 : (i : Int) < (m : Int) := by omega
      go_upto_region 12 with fail
      go_region_held3 (fun V => Ext wr V ∧ V.cell? (ad.add i) = some (.slice C k f) ∧ V.cell? (bd.add i) = some (.int .i64 (cc : Int)))
        ((refine (fun he => ⟨he, Ext.cell he hc1, Ext.cell he hc2⟩) ?_; repeat (first | exact Ext.refl _ | exact (Ext.refl _).drew | refine Ext.drew ?_ | refine Ext.trans ?_ (by assumption))))
        ((go_at_call 39; refine (is45_yes (n := cc) (hz.ext (And.left (by assumption))).nv (by omega)).mono ?_; rintro e wa ⟨_, rfl, hea, rfl⟩))
      have hfin := And.left (b := _ ∧ _) (by assumption)
      have hext2 := hext.trans hfin
      clear hc1 hc2 i1 i2 hfin
      go_wp2_with fail
      go_roundw
      case rel => exact ⟨i + 1, by omega, by go_num, hext2⟩
      case measure => simp [intOf]; omega
    · obtain rfl : i = m := by omega
      go_wp2_with fail
      go_ret
      exact Ret.mk (hx.trans hext) rfl

theorem law_cuts {w : World} {n : Nat} {p : Int} (hn : n < 65536) :
    Calls Try.prog 9 #[.int .u16 (n : Int), .int .i64 p] w (Ret (fun x _ => x = .bool true) w) := by
  by_cases h : p < 1 ∨ 1024 < p
  · exact law_cuts_err hn (Lib.hid h)
  · obtain ⟨q, rfl⟩ := Int.eq_ofNat_of_zero_le (show 0 ≤ p by omega)
    exact law_cuts_ok hn (by omega) (by omega)
end Go.Proofs.Ytamkbboijblooaa
