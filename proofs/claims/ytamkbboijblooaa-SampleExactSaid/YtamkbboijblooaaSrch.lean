/- Contract: slices.BinarySearchFunc of a number in an ascending row of numbers. -/
import Derived.Test.YtamkbboijblooaaInsB
import Derived.Test.YtamkbboijblooaaDistM
import Derived.Test.YtamkbboijblooaaLawQLarge
namespace Go.Proofs.Ytamkbboijblooaa
open Go.RowKit

/-- Where the search ends. -/
def Found (m y : Nat) (f : Nat → Nat) (k : Nat) : Prop := k ≤ m ∧ (∀ i, i < k → f i < y) ∧ (∀ i, k ≤ i → i < m → y ≤ f i)
/-- What the search returns. -/
def SrchPost (m y : Nat) (f : Nat → Nat) (w : World) (e : Ending) (w' : World) : Prop :=
  ∃ k, e = .returned (.tuple #[.int .i64 ((k : Nat) : Int), .bool (decide (k < m ∧ f k = y))]) ∧ Found m y f k ∧ Qt w w'

set_option maxRecDepth 20000 in
set_option maxHeartbeats 1600000 in
theorem search_ns {w : World} {A : Option Addr} {m c y : Nat} {u : Value} {f : Nat → Nat} (hns : Ns w A m f) (hm : m ≤ 1000) (hu : Nv w u y) (hmono : ∀ i j, i < j → j < m → f i < f j) :
    Calls Try.prog 65 #[.slice A m c, u, .func (.func 21) #[] #[]] w (SrchPost m y f w) := by
  have HNS := Lib.hid hns; have HMO := Lib.hid hmono; have HU := Lib.hid hu
  clear hns hmono hu
  go_enter Try.func65, Try.ntmps65
  go_wp2_with fail
  go_loopw [9, 10] (fun s t wr => ∃ (a b : Nat), a ≤ b ∧ b ≤ m ∧ s = .int .i64 (a : Int) ∧ t = .int .i64 (b : Int) ∧ Hid ((∀ i, i < a → f i < y) ∧ (∀ i, b ≤ i → i < m → y ≤ f i)) ∧ Qt w wr) (fun s t _ => (intOf t).toNat - (intOf s).toNat)
  case atStart => exact ⟨0, m, Nat.zero_le _, Nat.le_refl _, rfl, rfl, Lib.hid ⟨fun i hi => by omega, fun i h1 h2 => by omega⟩, Qt.refl _⟩
  case round =>
    obtain ⟨a, b, hab, hbm, rfl, rfl, HF, hq⟩ := hrel
    by_cases hlt : a < b
    · obtain ⟨h, hh⟩ : ∃ h, h = (a + b) / 2 := ⟨_, rfl⟩
      obtain ⟨s, hs⟩ : ∃ s, s = a + b := ⟨_, rfl⟩
      have hsI : (a : Int) + (b : Int) = (s : Int) := by omega
      have hhI : (s : Int) / 2 = (h : Int) := by omega
      have h1 : a ≤ h := by omega
      have h2 : h < b := by omega
      have hs2 : s ≤ 2000 := by omega
      obtain ⟨ad, B, k, d, rfl, hc, hz⟩ := HNS.out h (by omega)
      replace hc := hq.ext.cell hc
      replace hz := hz.ext hq.ext
      have hu := HU.out.ext hq.ext
      have i1 : (0 : Int) ≤ (h : Int) := by omega
      have i2 : (h : Int) < (m : Int) := by omega
      have i3 : h < m := by omega
      clear hh hs
      by_cases hfy : f h < y
      · go_wp2_with fail
        refine (cmp_lt hz.nv hu hfy).mono ?_
        rintro e w2 ⟨rfl, hq2⟩
        clear hc hz hu hsI hhI
        go_wp2_with fail
        go_roundw
        case rel =>
          refine ⟨h + 1, b, by omega, hbm, by go_num, rfl, Lib.hid ⟨fun i hi => ?_, HF.out.2⟩, hq.trans hq2⟩
          rcases Nat.lt_or_ge i h with hl | hl
          · have := HMO.out i h hl i3; omega
          · obtain rfl : i = h := by omega
            exact hfy
        case measure => simp [intOf]; omega
      · go_wp2_with fail
        refine (cmp_ge hz.nv hu (by omega)).mono ?_
        rintro e w2 ⟨ce, rfl, hce, hq2⟩
        have hce' : ¬ ce < 0 := by omega
        clear hc hz hu hsI hhI hce
        go_wp2_with fail
        go_roundw
        case rel =>
          refine ⟨a, h, h1, by omega, rfl, rfl, Lib.hid ⟨HF.out.1, fun i hi him => ?_⟩, hq.trans hq2⟩
          rcases Nat.lt_or_ge h i with hl | hl
          · have := HMO.out h i hl him; omega
          · obtain rfl : i = h := by omega
            omega
        case measure => simp [intOf]; omega
    · obtain rfl : a = b := by omega
      by_cases ham : a < m
      · obtain ⟨ad, B, k, d, rfl, hc, hz⟩ := HNS.out a ham
        replace hc := hq.ext.cell hc
        replace hz := hz.ext hq.ext
        have hu := HU.out.ext hq.ext
        have i1 : (0 : Int) ≤ (a : Int) := by omega
        have i2 : (a : Int) < (m : Int) := by omega
        have hd : decide (a < m) = true := by simpa using ham
        go_wp2_with fail
        refine (cmp_nv hz.nv hu).mono ?_
        rintro e w2 ⟨rfl, hq2⟩
        have hfy := HF.out.2 a (Nat.le_refl _) ham
        by_cases he : f a = y
        · rw [cmpI_eq he]
          have HE := Lib.hid he
          clear he hfy hc
          go_wp2_with fail
          go_ret2
          exact ⟨a, by rw [decide_eq_true (show a < m ∧ f a = y from ⟨ham, HE.out⟩)]; rfl, ⟨hbm, HF.out.1, HF.out.2⟩, hq.trans hq2⟩
        · rw [cmpI_gt (by omega)]
          have HE := Lib.hid he
          clear he hfy hc
          go_wp2_with fail
          go_ret2
          exact ⟨a, by rw [decide_eq_false (show ¬ (a < m ∧ f a = y) from fun h => HE.out h.2)]; rfl, ⟨hbm, HF.out.1, HF.out.2⟩, hq.trans hq2⟩
      · have hd : decide (a < m) = false := by simpa using ham
        go_wp2_with fail
        go_ret2
        exact ⟨a, by rw [decide_eq_false (show ¬ (a < m ∧ f a = y) from fun h => ham h.1)]; rfl, ⟨hbm, HF.out.1, HF.out.2⟩, hq⟩
end Go.Proofs.Ytamkbboijblooaa
