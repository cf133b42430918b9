/- Contracts: nat.trim, cmp.Compare, nat.Cmp. -/
import Derived.Test.YtjpkaljndfgkjaaBase
namespace Go.Proofs.Ytjpkaljndfgkjaa
open Go.RowKit

/-- The call returns a value of which S holds, in a world that only grew. -/
def Ret (S : Value → World → Prop) (w : World) (e : Ending) (w' : World) : Prop := ∃ v, e = .returned v ∧ Ext w w' ∧ S v w'
theorem Ret.mk {S : Value → World → Prop} {w w' : World} {v : Value} (he : Ext w w') (hs : S v w') : Ret S w (.returned v) w' := ⟨v, rfl, he, hs⟩

set_option maxHeartbeats 400000 in
theorem trim_parts (A : Option Addr) (n cap : Nat) (ds : List Nat) (w : World) (hc1 : n ≤ cap) (hc2 : n ≤ 35184372088832)
    (hx : ∀ i, i < n → ∃ ad, A = some ad ∧ w.cell? (ad.add i) = some (.int .u32 ((ds.getD i 0 : Nat) : Int))) :
    Calls Try.prog 48 #[.slice A n cap] w fun e w' => e = .returned (.slice A (tlen ds n) (tlen ds n)) ∧ w = w' := by
  have HC := Lib.hid hx; clear hx
  go_enter Try.func48, Try.ntmps48
  go_wp2
  go_loop [3] (fun t => ∃ k : Nat, k ≤ n ∧ t = .int .i64 k ∧ tlen ds k = tlen ds n) (fun t => (intOf t).toNat)
  case atStart => exact ⟨n, Nat.le_refl _, rfl, rfl⟩
  case round =>
    obtain ⟨k, hk, rfl, ht⟩ := hrel
    have HT := Lib.hid ht
    clear ht
    by_cases h0 : 0 < k
    · obtain ⟨ad, rfl, hcell⟩ := HC.out (k - 1) (by omega)
      have HT2 := Lib.hid (tlen_pos ds k h0)
      generalize hD : ds.getD (k - 1) 0 = D at *
      have HD := Lib.hid hD; clear hD
      by_cases hz : D = 0
      · subst hz
        go_wp2
        all_goals go_round
        case rel => exact ⟨k - 1, by omega, by go_num, by have := HT2.out; have := HT.out; simp_all⟩
        case measure => simp [intOf]; omega
      · have hz' : ((D : Int) == 0) = false := by simp [hz]
        go_wp2
        go_ret
        have := HT2.out
        rw [if_neg hz] at this
        simp [← HT.out, this]
    · have : k = 0 := by omega
      subst this
      go_wp2
      go_ret
      have h2 : tlen ds n = 0 := HT.out.symm
      simp [h2]

theorem trim_dg {w : World} {v : Value} {ds : List Nat} (h : Dg w v ds) :
    Calls Try.prog 48 #[v] w fun e w' => ∃ A, e = .returned (.slice A (dig (val ds)).length (dig (val ds)).length) ∧ Dg w (.slice A (dig (val ds)).length (dig (val ds)).length) (dig (val ds)) ∧ w = w' := by
  obtain ⟨A, n, cap, rfl, hn, hc, hb, hl, hx⟩ := h.parts
  refine (trim_parts A n cap ds w hc hb hx).mono ?_
  rintro e w' ⟨rfl, rfl⟩
  subst hn
  have ht : (dig (val ds)).length = tlen ds ds.length := by rw [← tr_eq_dig hl, length_tr]
  have hle := tlen_le ds ds.length
  refine ⟨A, by rw [ht], Dg.of_parts rfl (Nat.le_refl _) (by rw [ht]; omega) (low_dig _) fun i hi => ?_, rfl⟩
  obtain ⟨ad, rfl, hcell⟩ := hx i (by omega)
  refine ⟨ad, rfl, ?_⟩
  rw [hcell, ← tr_eq_dig hl]
  unfold tr
  have h1 : i < tlen ds ds.length := by omega
  simp [List.getD, h1]

/-- nat.trim, by numbers. -/
theorem trim_nv {w : World} {v : Value} {n : Nat} (h : Nv w v n) :
    Calls Try.prog 48 #[v] w fun e w' => ∃ A, e = .returned (.slice A (dig n).length (dig n).length) ∧ Nz w (.slice A (dig n).length (dig n).length) n ∧ w = w' := by
  obtain ⟨ds, hd, rfl⟩ := h
  exact trim_dg hd

theorem compare_int (a b : Int) (w : World) :
    Calls Try.prog 49 #[.int .i64 a, .int .i64 b] w fun e w' => e = .returned (.int .i64 (cmpZ a b)) ∧ w = w' := by
  by_cases h : a < b
  · go_enter Try.func49, Try.ntmps49
    go_wp2
    go_ret
    rw [cmpZ_lt h]; exact ⟨rfl, rfl⟩
  · by_cases h2 : b < a
    · go_enter Try.func49, Try.ntmps49
      go_wp2
      go_ret
      rw [cmpZ_gt h2]; exact ⟨rfl, rfl⟩
    · go_enter Try.func49, Try.ntmps49
      go_wp2
      go_ret
      rw [cmpZ_eq (by omega)]; exact ⟨rfl, rfl⟩

theorem compare_u32 (a b : Int) (w : World) :
    Calls Try.prog 50 #[.int .u32 a, .int .u32 b] w fun e w' => e = .returned (.int .i64 (cmpZ a b)) ∧ w = w' := by
  by_cases h : a < b
  · go_enter Try.func50, Try.ntmps50
    go_wp2
    go_ret
    rw [cmpZ_lt h]; exact ⟨rfl, rfl⟩
  · by_cases h2 : b < a
    · go_enter Try.func50, Try.ntmps50
      go_wp2
      go_ret
      rw [cmpZ_gt h2]; exact ⟨rfl, rfl⟩
    · go_enter Try.func50, Try.ntmps50
      go_wp2
      go_ret
      rw [cmpZ_eq (by omega)]; exact ⟨rfl, rfl⟩

theorem cmpI_top {x y : List Nat} (hx : Low x) (hy : Low y) (tx : Top x) (ty : Top y) (h : ¬ x.length = y.length) :
    cmpZ (x.length : Int) y.length = cmpI (val x) (val y) := by
  rcases Nat.lt_or_ge x.length y.length with hl | hl
  · rw [cmpZ_lt (by omega), cmpI_lt (val_lt_of_len hx ty hl)]
  · rw [cmpZ_gt (by omega), cmpI_gt (val_lt_of_len hy tx (by omega))]

theorem cmpI_digit {x y : List Nat} (hx : Low x) (hy : Low y) {i : Nat} (hix : i < x.length) (hiy : i < y.length) (he : x.drop (i + 1) = y.drop (i + 1)) (hd : ¬ x[i] = y[i]) :
    cmpZ (x[i] : Int) (y[i] : Int) = cmpI (val x) (val y) := by
  rw [cmpZ_cast]
  rcases Nat.lt_or_ge x[i] y[i] with hl | hl
  · rw [cmpI_lt hl, cmpI_lt (val_lt_of_digit hx hix hiy he hl)]
  · rw [cmpI_gt (by omega), cmpI_gt (val_lt_of_digit hy hiy hix he.symm (by omega))]

/-- A contract of a callee that only reads, inside a second region that draws. -/
theorem read_again {P : Program} {f : FuncId} {args : Array Value} {w : World} {a n : Nat} {v : Value} (h : Calls P f args (w.drewN (a + n)) fun e w' => e = .returned v ∧ w.drewN (a + n) = w') :
    Calls P f args (w.drewN (a + n)) fun e w'' => e = .returned v ∧ ∃ m, w'' = w.drewN (a + m) := by
  refine h.mono ?_
  rintro e w' ⟨rfl, rfl⟩
  exact ⟨rfl, n, rfl⟩

set_option maxHeartbeats 400000 in
theorem cmp_nv {w : World} {u v : Value} {a b : Nat} (ha : Nv w u a) (hb : Nv w v b) :
    Calls Try.prog 22 #[u, v] w fun e w' => e = .returned (.int .i64 (cmpI a b)) ∧ Qt w w' := by
  go_enter Try.func22, Try.ntmps22
  go_wp2_with fail
  refine (trim_nv ha).mono ?_
  rintro e w' ⟨A, rfl, hA, rfl⟩
  go_wp2_with fail
  refine (trim_nv hb).mono ?_
  rintro e w' ⟨B, rfl, hB, rfl⟩
  clear ha hb
  obtain ⟨A, n, c, eA, hn, -, hnb, -, hA⟩ := Dg.parts hA
  injection eA with e1 e2 e3
  subst e1; subst e3
  clear e2
  obtain ⟨B, m, c, eB, hm, -, hmb, -, hB⟩ := Dg.parts hB
  injection eB with e1 e2 e3
  subst e1; subst e3
  have HN := Lib.hid hn; have HM := Lib.hid hm
  rw [← hn, ← hm]
  clear hn hm e2
  have HA := Lib.hid hA; have HB := Lib.hid hB; clear hA hB
  by_cases hnm : n = m
  · subst hnm
    have hlast : Hid (n = (dig a).length ∧ n = (dig b).length) := ⟨HN.out, HM.out⟩
    go_wp2_with fail
    go_loopw [5] (fun t wr => ∃ k j : Nat, k ≤ n ∧ t = .int .i64 ((k : Int) - 1) ∧ (dig a).drop k = (dig b).drop k ∧ wr = w.drewN j) (fun t _ => (intOf t + 1).toNat)
    case atStart => exact ⟨n, 0, Nat.le_refl _, rfl, by rw [List.drop_of_length_le (by have := HN.out; omega), List.drop_of_length_le (by have := HM.out; omega)], rfl⟩
    case round =>
      obtain ⟨k, j, hk, rfl, hdr, rfl⟩ := hrel
      have HD := Lib.hid hdr; clear hdr
      by_cases h0 : 0 < k
      · obtain ⟨ad, rfl, hca⟩ := HA.out (k - 1) (by omega)
        obtain ⟨bd, rfl, hcb⟩ := HB.out (k - 1) (by omega)
        have hi0 : (0 : Int) ≤ (k : Int) - 1 := by omega
        have hi1 : (k : Int) - 1 < (n : Int) := by omega
        have hi2 : ((k : Int) - 1).toNat = k - 1 := by omega
        generalize hx : (dig a).getD (k - 1) 0 = x at *
        generalize hy : (dig b).getD (k - 1) 0 = y at *
        have HX := Lib.hid hx; have HY := Lib.hid hy; clear hx hy
        by_cases hxy : x = y
        · subst hxy
          go_wp2_with fail
          go_quiet (fail)
          go_wp2_with fail
          go_roundw
          case rel => exact ⟨k - 1, j + nq, by omega, by go_num, by
            have e1 : k - 1 < (dig a).length := by have := HN.out; omega
            have e2 : k - 1 < (dig b).length := by have := HM.out; omega
            rw [List.drop_eq_getElem_cons e1, List.drop_eq_getElem_cons e2, show k - 1 + 1 = k by omega, HD.out]
            have h1 := HX.out; have h2 := HY.out
            simp [List.getD, e1] at h1; simp [List.getD, e2] at h2
            rw [h1, h2], by simp⟩
          case measure => simp [intOf]; omega
        · have hb1 : ((x : Int) != (y : Int)) = true := by simp; omega
          have hb2 : (x != y) = true := by simp; omega
          go_wp2_with fail
          go_quiet (fail)
          go_wp2_with fail
          go_quiet ((go_at_call 50; exact read_again (compare_u32 _ _ _)))
          go_wp2_with fail
          go_ret
          refine ⟨?_, (((Qt.refl w).drewN _).drewN _).drewN _⟩
          have e1 : k - 1 < (dig a).length := by have := HN.out; omega
          have e2 : k - 1 < (dig b).length := by have := HM.out; omega
          have h1 := HX.out; have h2 := HY.out
          simp [List.getD, e1] at h1; simp [List.getD, e2] at h2
          subst h1; subst h2
          rw [cmpI_digit (low_dig a) (low_dig b) e1 e2 (by rw [show k - 1 + 1 = k by omega]; exact HD.out) hxy, val_dig, val_dig]; rfl
      · have hi : ¬ (1 : Int) ≤ (k : Int) := by omega
        go_wp2_with fail
        go_ret
        refine ⟨?_, (Qt.refl w).drewN _⟩
        obtain rfl : k = 0 := by omega
        have : dig a = dig b := HD.out
        have e : a = b := by rw [← val_dig a, ← val_dig b, this]
        rw [cmpI_eq e]; rfl
  · have hne : (n != m) = true := by simp; omega
    have hne2 : (n == m) = false := by simp; omega
    have hne3 : ((n : Int) == (m : Int)) = false := by simp; omega
    have hne4 : ((n : Int) != (m : Int)) = true := by simp; omega
    go_wp2_with fail
    refine (compare_int _ _ _).mono ?_
    rintro e w' ⟨rfl, rfl⟩
    go_wp2_with fail
    go_ret
    refine ⟨?_, Qt.refl _⟩
    have h1 := HN.out; have h2 := HM.out
    subst h1; subst h2
    rw [cmpI_top (low_dig a) (low_dig b) (top_dig a) (top_dig b) hnm, val_dig, val_dig]; rfl
end Go.Proofs.Ytjpkaljndfgkjaa
