/- Contract: slices.rotateCmpFunc at rows. -/
import Derived.Test.YtjpkaljndfgkjaaGb
namespace Go.Proofs.Ytjpkaljndfgkjaa.R
open Go.RowKit Go.Maps Go.Sort Go.Shelf Go.Lib
open Go.Proofs (Row1 SW CmpLays1 OneCell)

section
variable {α : Type} [Inhabited α] {enc : α → Value} {w0 : World} {blk off : Nat} {d0 : Array α}
set_option maxRecDepth 20000 in
set_option maxHeartbeats 1600000 in
theorem rotate_any {w : World} {cap a m b : Nat} {fv : Value} (R : Row1 enc w0 blk off d0) (hS : SP enc w0 blk off d0 w) (ha : a < m) (hm : m < b) (hb : b ≤ d0.size) (hsz : d0.size ≤ 1048576) :
    Calls Try.prog 87 #[.slice (some ⟨blk, off, none⟩) d0.size cap, .int .i64 (a : Int), .int .i64 (m : Int), .int .i64 (b : Int), fv] w (fun e w' => e = .returned (.tuple #[]) ∧ SP enc w0 blk off d0 w') := by
  have HSW := Lib.hid (fun (V : World) (hV : SP enc w0 blk off d0 V) (x y n : Nat) (h1 : x + n ≤ d0.size) (h2 : y + n ≤ d0.size) => swapRange_any (cap := cap) (fv := fv) R hV h1 h2 hsz)
  obtain ⟨sz, hszq⟩ : ∃ q, q = d0.size := ⟨_, rfl⟩
  rw [← hszq] at hb hsz HSW ⊢
  have HS := Lib.hid hS
  clear hS hszq R
  go_enter Try.func87, Try.ntmps87
  go_wp2_with fail
  go_loopw [10, 11] (fun s t wr => ∃ i j : Nat, 1 ≤ i ∧ 1 ≤ j ∧ a + i ≤ m ∧ m + j ≤ b ∧ s = .int .i64 (i : Int) ∧ t = .int .i64 (j : Int) ∧ Hid (SP enc w0 blk off d0 wr)) (fun s t _ => (intOf s).toNat + (intOf t).toNat)
  case atStart => exact ⟨m - a, b - m, by omega, by omega, by omega, by omega, by congr 1; omega, by congr 1; omega, HS⟩
  case round =>
    obtain ⟨i, j, hi, hj, hia, hjb, rfl, rfl, HP⟩ := hrel
    obtain ⟨W, rfl⟩ : ∃ W : World, W = wr := ⟨_, rfl⟩
    clear HS
    by_cases hne : i = j
    · subst hne
      have hb1 : ((i : Int) != (i : Int)) = false := by simp
      have e1 : (m : Int) - (i : Int) = ((m - i : Nat) : Int) := by omega
      have E1 := Lib.hid e1
      clear e1
      go_wp2_with fail
      rw [E1.out]
      refine (HSW.out _ HP.out (m - i) m i (by omega) (by omega)).mono ?_
      rintro e w1 ⟨rfl, hq⟩
      have HQ := Lib.hid hq
      clear hq
      go_wp2_with fail
      go_end0
      exact ⟨rfl, HQ.out⟩
    · have hb1 : ((i : Int) != (j : Int)) = true := by rw [bne_iff_ne]; omega
      have e1 : (m : Int) - (i : Int) = ((m - i : Nat) : Int) := by omega
      have e2 : (m : Int) + (j : Int) - (i : Int) = ((m + j - i : Nat) : Int) := by omega
      have E1 := Lib.hid e1; have E2 := Lib.hid e2
      clear e1 e2
      by_cases hij : j < i
      · have hd : (j : Int) < (i : Int) := by omega
        go_wp2_with fail
        rw [E1.out]
        refine (HSW.out _ HP.out (m - i) m j (by omega) (by omega)).mono ?_
        rintro e w1 ⟨rfl, hq⟩
        have HQ := Lib.hid hq
        clear hq
        go_wp2_with fail
        go_roundw
        case rel => exact ⟨i - j, j, by omega, by omega, by omega, by omega, by congr 1; omega, rfl, HQ⟩
        case measure => simp [intOf]; omega
      · have hd : ¬ (j : Int) < (i : Int) := by omega
        go_wp2_with fail
        rw [E1.out, E2.out]
        refine (HSW.out _ HP.out (m - i) (m + j - i) i (by omega) (by omega)).mono ?_
        rintro e w1 ⟨rfl, hq⟩
        have HQ := Lib.hid hq
        clear hq
        go_wp2_with fail
        go_roundw
        case rel => exact ⟨i, j - i, by omega, by omega, by omega, by omega, rfl, by congr 1; omega, HQ⟩
        case measure => simp [intOf]; omega
end
end Go.Proofs.Ytjpkaljndfgkjaa.R
