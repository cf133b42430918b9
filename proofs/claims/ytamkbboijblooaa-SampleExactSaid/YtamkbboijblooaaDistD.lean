/- Contract: the reference's Distinct. -/
import Derived.Test.YtamkbboijblooaaDistC
namespace Go.Proofs.Ytamkbboijblooaa
open Go.RowKit

/-- What the reference's Distinct leaves. -/
def RDistPost (w : World) (R : Option (List Nat × Nat)) (e : Ending) (w' : World) : Prop :=
  Ext w w' ∧ match R with
    | none => e = .returned (.tuple #[.slice none 0 0, .int .i64 (-1)])
    | some (l, p) => ∃ x, e = .returned (.tuple #[x, .int .i64 (p : Int)]) ∧ In0 w' x l

set_option maxRecDepth 20000 in
set_option maxHeartbeats 1600000 in
theorem refDistinct {w : World} {v : Value} {bs : List Nat} {n m L pos : Nat} (h : In w v (bitsOf bs L)) (hm : m ≤ n) (hn : n ≤ 255) (hp : pos ≤ L) :
    Calls Try.prog 46 #[.int .i64 (n : Int), .int .i64 (m : Int), v, .int .i64 (pos : Int)] w (RDistPost w (dist (bitAt bs) L m (n - m) [] pos)) := by
  obtain ⟨R, hR⟩ : ∃ R, dist (bitAt bs) L m (n - m) [] pos = R := ⟨_, rfl⟩
  rw [hR]
  obtain ⟨j0, hj0⟩ : ∃ j0, j0 = n - m := ⟨_, rfl⟩
  have hjI : (n : Int) - (m : Int) = (j0 : Int) := by omega
  rw [← hj0] at hR
  have HR := Lib.hid hR; have HJ0 := Lib.hid hj0; have HH := Lib.hid h
  clear hR hj0 h
  go_enter Try.func46, Try.ntmps46
  go_wp2_with fail
  go_loopw [3, 10, 11] (fun s t q wr => ∃ (k j : Nat) (l : List Nat) (p : Nat), Hid (j = j0 + k) ∧ k ≤ m ∧ q = .int .i64 (j : Int) ∧ s = .int .i64 (p : Int) ∧ Hid (dist (bitAt bs) L (m - k) j l p = R) ∧ SetOk l j k ∧ p ≤ L ∧ In0 wr t l ∧ Ext w wr) (fun _ _ q _ => n - (intOf q).toNat)
  case atStart => exact ⟨0, j0, [], pos, Lib.hid rfl, Nat.zero_le _, rfl, rfl, HR, ⟨List.Pairwise.nil, fun _ h => (by simp at h), rfl⟩, hp, .inl ⟨rfl, rfl⟩, Ext.refl _⟩
  case round =>
    obtain ⟨k, j, l, p, HJ, hk, rfl, rfl, HD, hok, hp', hin, hext⟩ := hrel
    have HOK := Lib.hid hok
    clear hok HR hjI
    have hjn : j < n ↔ k < m := by have := HJ.out; have := HJ0.out; omega
    have HJN := Lib.hid hjn
    clear hjn
    by_cases hlt : j < n
    · have hkm := HJN.out.1 hlt
      have hlt' : decide (j < n) = true := by simpa using hlt
      have hj255 : j ≤ 255 := by omega
      have hll : l.length ≤ 1000 := by have := HOK.out.len; omega
      go_wp2_with fail
      rw [show ((j : Int) + 1) = ((j + 1 : Nat) : Int) by omega]
      have hdd := HD.out
      rw [show m - k = (m - (k + 1)) + 1 by omega] at hdd
      refine (refUniform_out (n := j + 1) (HH.out.ext hext) (by omega) (by omega) hp').mono ?_
      rintro e w2 ⟨rfl, rfl⟩
      rw [show j + 1 - 1 = j by omega]
      rcases hu : uni (bitAt bs) L (j + 1) (blen j) (L + 1) p with _ | ⟨r, q⟩
      · rw [dist_none hu] at hdd
        subst hdd
        clear hu
        simp only [rX, rP]
        go_wp2_with fail
        go_ret2
        exact ⟨hext, rfl⟩
      · rw [dist_some hu] at hdd
        have hrj := (uni_some hu).1
        have hq := (uni_some hu).2.2.1
        have hok2 := HOK.out.put hrj
        clear hu HD
        simp only [rX, rP]
        have hq0 : ¬ (q : Int) < 0 := by omega
        go_wp2_with fail
        refine (refHas hin hll).mono ?_
        rintro e w3 ⟨rfl, rfl⟩
        have HAS : Hid (∀ a b, a < b → b < l.length → l.getD a 0 < l.getD b 0) := Lib.hid (fun a b hab hb => asc_get HOK.out.asc hab hb)
        by_cases hmem : r ∈ l
        · rw [decide_eq_true hmem]
          have hpk : pick l r j = j := by simp [pick, hmem]
          rw [hpk] at hdd hok2
          have HDD := Lib.hid hdd; have HOK2 := Lib.hid hok2
          clear hdd hok2 hpk hmem
          go_wp2_with fail
          refine (refPut (x := j) hin hll HAS).mono ?_
          rintro e w4 ⟨y, rfl, he4, hy⟩
          have hext2 := hext.trans he4
          clear hin hext he4
          go_wp2_with fail
          go_roundw
          case rel => exact ⟨k + 1, j + 1, putL l j, q, Lib.hid (by have := HJ.out; omega), by omega, by go_num, rfl, HDD, HOK2.out, hq, hy, hext2⟩
          case measure => simp [intOf]; omega
        · rw [decide_eq_false hmem]
          have hpk : pick l r j = r := by simp [pick, hmem]
          rw [hpk] at hdd hok2
          have HDD := Lib.hid hdd; have HOK2 := Lib.hid hok2
          clear hdd hok2 hpk hmem
          go_wp2_with fail
          refine (refPut (x := r) hin hll HAS).mono ?_
          rintro e w4 ⟨y, rfl, he4, hy⟩
          have hext2 := hext.trans he4
          clear hin hext he4
          go_wp2_with fail
          go_roundw
          case rel => exact ⟨k + 1, j + 1, putL l r, q, Lib.hid (by have := HJ.out; omega), by omega, by go_num, rfl, HDD, HOK2.out, hq, hy, hext2⟩
          case measure => simp [intOf]; omega
    · have hlt' : decide (j < n) = false := by simpa using hlt
      have hkm : k = m := by
        have h1 := HJN.out
        rcases Nat.lt_or_ge k m with h | h
        · exact absurd (h1.2 h) hlt
        · omega
      have hdd := HD.out
      rw [hkm, Nat.sub_self] at hdd
      simp only [dist] at hdd
      subst hdd
      clear hkm HD
      go_wp2_with fail
      go_ret2
      exact ⟨hext, _, rfl, hin⟩
end Go.Proofs.Ytamkbboijblooaa
