/- Contract: nat.guessDigit. -/
import Derived.Test.YtjpkaljndfgkjaaDivC
namespace Go.Proofs.Ytjpkaljndfgkjaa
open Go.RowKit

/-- Three digits against two: the facts that the loop of guessDigit keeps. -/
structure G3 (top u2 v1 v2 q : Nat) : Prop where
  low : q * v1 ≤ top
  two : q * (v1 * 4294967296 + v2) ≤ top * 4294967296 + u2
  upp : ∀ g, g * (v1 * 4294967296 + v2) ≤ top * 4294967296 + u2 → g < 4294967296 → g ≤ q + 1
  qB : q < 4294967296
  topB : top < 4294967296 * (v1 + 1)

theorem g3_of (pu pv : List Nat) (n : Nat) (hn : 2 ≤ n) (hnu : pu.length = n + 1) (hnv : pv.length = n) (hlu : Low pu) (hlv : Low pv) (hv1 : 2147483648 ≤ pv.getD (n - 1) 0) (hlt : val pu < 4294967296 * val pv) :
    G3 (pu.getD n 0 * 4294967296 + pu.getD (n - 1) 0) (pu.getD (n - 2) 0) (pv.getD (n - 1) 0) (pv.getD (n - 2) 0) (val pu / val pv) := by
  have a1 := val_top1 pu n hnu
  have a2 := val_top1 (pu.take n) (n - 1) (by simp; omega)
  have a3 := val_top1 ((pu.take n).take (n - 1)) (n - 2) (by simp; omega)
  have b1 := val_top1 pv (n - 1) (by omega)
  have b2 := val_top1 (pv.take (n - 1)) (n - 2) (by simp; omega)
  have g1 : (pu.take n).getD (n - 1) 0 = pu.getD (n - 1) 0 := by simp [List.getD, show n - 1 < n by omega]
  have g2 : ((pu.take n).take (n - 1)).getD (n - 2) 0 = pu.getD (n - 2) 0 := by simp [List.getD, show n - 2 < n - 1 by omega, show n - 2 < n by omega]
  have g3 : (pv.take (n - 1)).getD (n - 2) 0 = pv.getD (n - 2) 0 := by simp [List.getD, show n - 2 < n - 1 by omega]
  rw [g1] at a2; rw [g2] at a3; rw [g3] at b2
  have l2 := val_lt (((hlu.take n).take (n - 1)).take (n - 2))
  have m2 := val_lt ((hlv.take (n - 1)).take (n - 2))
  rw [List.length_take, Nat.min_eq_left (by simp; omega)] at l2 m2
  have l1 := val_lt ((hlu.take n).take (n - 1))
  rw [List.length_take, Nat.min_eq_left (by simp; omega)] at l1
  have m1 := val_lt (hlv.take (n - 1))
  rw [List.length_take, Nat.min_eq_left (by omega)] at m1
  have p1 : 4294967296 ^ (n - 1) = 4294967296 ^ (n - 2) * 4294967296 := by have := Nat.pow_succ 4294967296 (n - 2); rwa [show (n - 2).succ = n - 1 by omega] at this
  have p0 : 4294967296 ^ n = 4294967296 ^ (n - 1) * 4294967296 := by have := Nat.pow_succ 4294967296 (n - 1); rwa [show (n - 1).succ = n by omega] at this
  generalize pu.getD n 0 = u0 at *
  generalize pu.getD (n - 1) 0 = u1 at *
  generalize pu.getD (n - 2) 0 = u2 at *
  generalize pv.getD (n - 1) 0 = v1 at *
  generalize pv.getD (n - 2) 0 = v2 at *
  generalize 4294967296 ^ (n - 2) = P at *
  rw [p1] at p0 a2 b1 l1 m1
  rw [p0] at a1
  generalize val ((List.take (n - 2) (List.take (n - 1) (List.take n pu)))) = lo2 at *
  generalize val (List.take (n - 2) (List.take (n - 1) pv)) = vlo2 at *
  generalize val (List.take (n - 1) (List.take n pu)) = lo1 at *
  generalize val (List.take (n - 1) pv) = vlo1 at *
  generalize val (List.take n pu) = lo0 at *
  have hV : val pv = (v1 * 4294967296 + v2) * P + vlo2 := by
    rw [b1, b2, Nat.add_mul, Nat.mul_comm P v2, Nat.mul_comm (P * 4294967296) v1, Nat.mul_comm P 4294967296, ← Nat.mul_assoc v1]; omega
  have hV1 : val pv = v1 * (P * 4294967296) + vlo1 := by rw [b1, Nat.mul_comm]; omega
  have hU1 : val pu = (u0 * 4294967296 + u1) * (P * 4294967296) + lo1 := by
    rw [a1, a2, Nat.add_mul, Nat.mul_comm (P * 4294967296) u1, Nat.mul_comm (P * 4294967296 * 4294967296) u0, Nat.mul_comm (P * 4294967296) 4294967296, ← Nat.mul_assoc u0]; omega
  have hU : val pu = ((u0 * 4294967296 + u1) * 4294967296 + u2) * P + lo2 := by
    rw [hU1, a3, Nat.add_mul ((u0 * 4294967296 + u1) * 4294967296) u2, Nat.mul_comm P u2, Nat.mul_comm P 4294967296, ← Nat.mul_assoc (u0 * 4294967296 + u1)]; omega
  have hpos : 0 < val pv := by
    rcases Nat.eq_zero_or_pos (val pv) with e | e
    · rw [e] at hlt; omega
    · exact e
  have hq := Nat.div_mul_le_self (val pu) (val pv)
  have hq2 : val pu < (val pu / val pv + 1) * val pv := by
    have := Nat.lt_mul_div_succ (val pu) hpos
    rwa [Nat.mul_comm] at this
  have hqB : val pu / val pv < 4294967296 := by rw [Nat.div_lt_iff_lt_mul hpos]; omega
  generalize val pu / val pv = q at *
  refine ⟨guess_lower q v1 (val pv) (P * 4294967296) _ (val pu) lo1 hq (by omega) hU1 l1, guess_lower q _ (val pv) P _ (val pu) lo2 hq (by omega) hU l2, fun g hg hgB => ?_, hqB, ?_⟩
  · have h1 : 1 * (P * 4294967296) ≤ v1 * (P * 4294967296) := Nat.mul_le_mul_right _ (by omega)
    have hbig : 4294967296 * P ≤ val pv := by rw [hV1]; omega
    have hgB' : g ≤ 4294967296 := Nat.le_of_lt hgB
    exact guess_upper g (v1 * 4294967296 + v2) (val pv) P ((u0 * 4294967296 + u1) * 4294967296 + u2) (val pu) lo2 vlo2 q hg hU hV m2 hgB' hbig hq2
  · obtain ⟨top, htop⟩ : ∃ top, top = u0 * 4294967296 + u1 := ⟨_, rfl⟩
    rw [← htop] at hU1 ⊢
    have hPpos : 0 < P * 4294967296 := by omega
    have h1 : top * (P * 4294967296) < (4294967296 * (v1 + 1)) * (P * 4294967296) := by
      have : val pv < (v1 + 1) * (P * 4294967296) := by rw [hV1, Nat.add_mul]; omega
      have h2 : 4294967296 * val pv < 4294967296 * ((v1 + 1) * (P * 4294967296)) := Nat.mul_lt_mul_of_pos_left this (by omega)
      rw [Nat.mul_assoc]; omega
    exact Nat.lt_of_mul_lt_mul_right h1

/-- What guessDigit returns. -/
def GuessPost (q : Nat) (w : World) (e : Ending) (w' : World) : Prop := ∃ g : Nat, e = .returned (.int .u64 (g : Int)) ∧ q ≤ g ∧ g ≤ q + 1 ∧ g < 4294967296 ∧ Qt w w'

theorem g3_down (top u2 v1 v2 q g r : Nat) (h : G3 top u2 v1 v2 q) (hr : g * v1 + r = top) (hg : 4294967295 < g ∨ r * 4294967296 + u2 < g * v2) : q < g := by
  rcases hg with hg | hg
  · have := h.qB; omega
  · rcases Nat.lt_or_ge q g with h1 | h1
    · exact h1
    · have h2 : g * (v1 * 4294967296 + v2) ≤ q * (v1 * 4294967296 + v2) := Nat.mul_le_mul_right _ h1
      have h3 := h.two
      have h4 : g * (v1 * 4294967296 + v2) = (g * v1) * 4294967296 + g * v2 := by rw [Nat.mul_add, ← Nat.mul_assoc]
      have h5 : top * 4294967296 = (g * v1) * 4294967296 + r * 4294967296 := by rw [← hr, Nat.add_mul]
      omega
theorem g3_end (top u2 v1 v2 q g r : Nat) (h : G3 top u2 v1 v2 q) (hr : g * v1 + r = top) (hg : g < 4294967296) (hx : g * v2 ≤ r * 4294967296 + u2) : g ≤ q + 1 := by
  refine h.upp g ?_ hg
  have h4 : g * (v1 * 4294967296 + v2) = (g * v1) * 4294967296 + g * v2 := by rw [Nat.mul_add, ← Nat.mul_assoc]
  have h5 : top * 4294967296 = (g * v1) * 4294967296 + r * 4294967296 := by rw [← hr, Nat.add_mul]
  omega
theorem g3_break (top u2 v1 v2 q g r : Nat) (h : G3 top u2 v1 v2 q) (hr : g * v1 + r = top) (hv2 : v2 < 4294967296) (hb : 4294967296 ≤ r) : g < 4294967296 ∧ g ≤ q + 1 := by
  have hg : g < 4294967296 := by
    rcases Nat.lt_or_ge g 4294967296 with h1 | h1
    · exact h1
    · have h2 : 4294967296 * v1 ≤ g * v1 := Nat.mul_le_mul_right _ h1
      have h3 := h.topB
      rw [Nat.mul_add] at h3
      omega
  refine ⟨hg, g3_end top u2 v1 v2 q g r h hr hg ?_⟩
  have h1 : g * v2 ≤ 4294967295 * 4294967295 := Nat.mul_le_mul (by omega) (by omega)
  omega

theorem ret_u64 {a b : Int} (h : a = b) : Ending.returned (.int .u64 a) = .returned (.int .u64 b) := by rw [h]

set_option maxRecDepth 20000 in
set_option maxHeartbeats 1000000 in
theorem guessDigit_any {w : World} {g gv n j c d : Nat} {pu pv : List Nat} (hn : 2 ≤ n) (hnb : n ≤ 1000000) (hnu : pu.length = n + 1) (hnv : pv.length = n) (hlu : Low pu) (hlv : Low pv) (hv1 : 2147483648 ≤ pv.getD (n - 1) 0) (hlt : val pu < 4294967296 * val pv)
    (hu : ∀ i, i < n + 1 → w.cell? ⟨g, j + i, none⟩ = some (.int .u32 ((pu.getD i 0 : Nat) : Int))) (hv : ∀ i, i < n → w.cell? ⟨gv, i, none⟩ = some (.int .u32 ((pv.getD i 0 : Nat) : Int))) :
    Calls Try.prog 83 #[.slice (some ⟨g, j, none⟩) (n + 1) c, .slice (some ⟨gv, 0, none⟩) n d] w (GuessPost (val pu / val pv) w) := by
  have hG := g3_of pu pv n hn hnu hnv hlu hlv hv1 hlt
  have c0 := hu n (by omega)
  have c1 := hu (n - 1) (by omega)
  have c2 := hu (n - 2) (by omega)
  have e1 := hv (n - 1) (by omega)
  have e2 := hv (n - 2) (by omega)
  have b0 := hlu.getD n
  have b1 := hlu.getD (n - 1)
  have b2 := hlu.getD (n - 2)
  have b3 := hlv.getD (n - 1)
  have b4 := hlv.getD (n - 2)
  clear hu hv hnu hnv hlu hlv hlt
  generalize val pu / val pv = q at *
  generalize pu.getD n 0 = u0 at *
  generalize pu.getD (n - 1) 0 = u1 at *
  generalize pu.getD (n - 2) 0 = u2 at *
  generalize pv.getD (n - 1) 0 = v1 at *
  generalize pv.getD (n - 2) 0 = v2 at *
  have HG := Lib.hid hG; clear hG
  have o1 := or_low u0 u1 b0 b1
  have i1 : (0 : Int) ≤ (n : Int) - 1 := by omega
  have i2 : (n : Int) - 1 < (n : Int) := by omega
  have i3 : ((n : Int) - 1).toNat = n - 1 := by omega
  have i4 : (n : Int) < (n : Int) + 1 := by omega
  have i5 : (n : Int) - 1 < (n : Int) + 1 := by omega
  have i6 : IntKind.i64.wrap ((n : Int) - 1) = (n : Int) - 1 := IntWalk.i64_in _ (by omega)
  have i7 : IntKind.u64.wrap ((u0 : Int) * 4294967296) = (u0 : Int) * 4294967296 := by rw [IntKind.wrap_u64]; omega
  go_enter Try.func83, Try.ntmps83
  go_wp2_with fail
  go_quiet (fail)
  clear o1 i7
  go_wp2_with fail
  have htop := HG.out.topB
  have hlow := HG.out.low
  have HT := Lib.hid htop; have HLW := Lib.hid hlow; clear htop hlow
  go_loopw [7, 8] (fun t s wr => ∃ a r : Nat, t = .int .u64 a ∧ s = .int .u64 r ∧ a * v1 + r = u0 * 4294967296 + u1 ∧ r < 4294967296 ∧ q ≤ a ∧ a ≤ 4294967297 ∧ Qt w wr) (fun t _ _ => (intOf t).toNat)
  case atStart =>
    have hpos : 0 < v1 := by omega
    have hd := Nat.div_add_mod (u0 * 4294967296 + u1) v1
    have hm := Nat.mod_lt (u0 * 4294967296 + u1) hpos
    refine ⟨(u0 * 4294967296 + u1) / v1, (u0 * 4294967296 + u1) % v1, by go_num, by go_num, by rw [Nat.mul_comm]; exact hd, by omega, (Nat.le_div_iff_mul_le hpos).2 HLW.out, ?_, (Qt.refl w).drewN _⟩
    have h1 : (u0 * 4294967296 + u1) / v1 < 4294967298 := by
      rw [Nat.div_lt_iff_lt_mul hpos]
      have := HT.out
      rw [Nat.mul_add] at this
      omega
    omega
  case round =>
    obtain ⟨a, r, rfl, rfl, har, hr, hqa, haB, hq⟩ := hrel
    obtain ⟨m, rfl⟩ := hq
    have HAR := Lib.hid har; clear har
    have o2 := or_low r u2 hr b2
    have i8 : IntKind.u64.wrap ((r : Int) * 4294967296) = (r : Int) * 4294967296 := by rw [IntKind.wrap_u64]; omega
    have i9 : (0 : Int) ≤ (n : Int) - 2 := by omega
    have i10 : (n : Int) - 2 < (n : Int) := by omega
    have i11 : ((n : Int) - 2).toNat = n - 2 := by omega
    have i12 : (n : Int) - 2 < (n : Int) + 1 := by omega
    have i13 : IntKind.i64.wrap ((n : Int) - 2) = (n : Int) - 2 := IntWalk.i64_in _ (by omega)
    by_cases hbig : 4294967295 < a
    · have t1 : decide ((4294967295 : Int) < (a : Int)) = true := by simp; omega
      have hdown := g3_down _ u2 v1 v2 q a r HG.out HAR.out (.inl hbig)
      have hstep : (a - 1) * v1 + (r + v1) = u0 * 4294967296 + u1 := by
        have h1 := HAR.out
        have h2 : a * v1 = (a - 1) * v1 + v1 := by conv => lhs; rw [show a = (a - 1) + 1 by omega, Nat.add_mul, Nat.one_mul]
        omega
      have HST := Lib.hid hstep; clear hstep
      by_cases hbr : 4294967295 < r + v1
      · go_wp2_with fail
        go_quiet (fail)
        clear o2 i8
        go_wp2_with fail
        go_ret
        have hb := g3_break _ u2 v1 v2 q (a - 1) (r + v1) HG.out HST.out b4 (by omega)
        exact ⟨a - 1, ret_u64 (by omega), by omega, hb.2, hb.1, (Qt.refl w).drewN _⟩
      · go_wp2_with fail
        go_quiet (fail)
        clear o2 i8
        go_wp2_with fail
        go_roundw
        case rel => exact ⟨a - 1, r + v1, by go_num, by go_num, HST.out, by omega, by omega, by omega, (Qt.refl w).drewN _⟩
        case measure => simp [intOf]; omega
    · have t1 : decide ((4294967295 : Int) < (a : Int)) = false := by simp; omega
      have hprod := mul_room a v2 0 0 (by omega) b4 (by omega) (by omega)
      have i14 : IntKind.u64.wrap ((a : Int) * v2) = (a : Int) * v2 := by have h := u64_id (n := a * v2) (by omega); simpa using h
      by_cases hcmp : r * 4294967296 + u2 < a * v2
      · have t2 : decide ((r : Int) * 4294967296 + u2 < (a : Int) * v2) = true := by
          have : ((r * 4294967296 + u2 : Nat) : Int) < ((a * v2 : Nat) : Int) := Int.ofNat_lt.2 hcmp
          simpa using this
        have hdown := g3_down _ u2 v1 v2 q a r HG.out HAR.out (.inr hcmp)
        have hstep : (a - 1) * v1 + (r + v1) = u0 * 4294967296 + u1 := by
          have h1 := HAR.out
          have h2 : a * v1 = (a - 1) * v1 + v1 := by conv => lhs; rw [show a = (a - 1) + 1 by omega, Nat.add_mul, Nat.one_mul]
          omega
        have HST := Lib.hid hstep; clear hstep
        by_cases hbr : 4294967295 < r + v1
        · go_wp2_with fail
          go_quiet (fail)
          clear o2 i8 i14
          go_wp2_with fail
          go_ret
          have hb := g3_break _ u2 v1 v2 q (a - 1) (r + v1) HG.out HST.out b4 (by omega)
          exact ⟨a - 1, ret_u64 (by omega), by omega, hb.2, hb.1, (Qt.refl w).drewN _⟩
        · go_wp2_with fail
          go_quiet (fail)
          clear o2 i8 i14
          go_wp2_with fail
          go_roundw
          case rel => exact ⟨a - 1, r + v1, by go_num, by go_num, HST.out, by omega, by omega, by omega, (Qt.refl w).drewN _⟩
          case measure => simp [intOf]; omega
      · have t2 : decide ((r : Int) * 4294967296 + u2 < (a : Int) * v2) = false := by
          have : ¬ ((r * 4294967296 + u2 : Nat) : Int) < ((a * v2 : Nat) : Int) := fun h => hcmp (Int.ofNat_lt.1 h)
          simpa using this
        have HCM := Lib.hid hcmp; clear hcmp hprod
        go_wp2_with fail
        go_quiet (fail)
        clear o2 i8 i14
        go_wp2_with fail
        go_ret
        have hcmp := HCM.out
        have hg1 : a < 4294967296 := by omega
        have hg2 : a * v2 ≤ r * 4294967296 + u2 := by omega
        exact ⟨a, rfl, hqa, g3_end _ u2 v1 v2 q a r HG.out HAR.out hg1 hg2, hg1, ((Qt.refl w).drewN _).drewN _⟩
end Go.Proofs.Ytjpkaljndfgkjaa
