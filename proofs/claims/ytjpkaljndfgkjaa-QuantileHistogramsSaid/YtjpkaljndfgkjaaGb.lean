/- Contracts: slices.swapRangeCmpFunc, rotateCmpFunc at rows. -/
import Derived.Test.YtjpkaljndfgkjaaGa
import Derived.Sort.WalkA
import Derived.Sort.WalkB2
import Derived.Sort.WalkB12
import Derived.Deep.LoopGhost
import Derived.Sort.Lot0
namespace Go.Proofs.Ytjpkaljndfgkjaa.R
open Go.RowKit Go.Maps Go.Sort Go.Shelf Go.Lib
open Go.Proofs (Row1 SW CmpLays1 OneCell)

section
variable {α : Type} [Inhabited α] {enc : α → Value} {w0 : World} {blk off : Nat} {d0 : Array α}
/-- A world in which the row holds a permutation of what it held. -/
def SP (enc : α → Value) (w0 : World) (blk off : Nat) (d0 : Array α) (W : World) : Prop := ∃ dk : Array α, dk.size = d0.size ∧ PermIn 0 d0.size d0 dk ∧ SW enc w0 blk off dk W
theorem SP.swap {dk : Array α} {W : World} (R : Row1 enc w0 blk off d0) (hs : dk.size = d0.size) (hp : PermIn 0 d0.size d0 dk) (S : SW enc w0 blk off dk W) {i j : Nat} (hi : i < d0.size) (hj : j < d0.size) : SP enc w0 blk off d0 ((W.setCell ⟨blk, off + i, none⟩ (enc dk[j]!)).setCell ⟨blk, off + j, none⟩ (enc dk[i]!)).drew :=
  ⟨Go.Sort.swp dk i j, by rw [size_swp, hs], permIn_trans _ _ _ _ _ hp (Go.Sort.swp_permIn dk 0 d0.size i j (Nat.zero_le _) hi (Nat.zero_le _) hj (by omega)), S.swapped R i j (by omega) (by omega)⟩
set_option maxRecDepth 20000 in
set_option maxHeartbeats 1600000 in
theorem swapRange_any {w : World} {cap a b n : Nat} {fv : Value} (R : Row1 enc w0 blk off d0) (hS : SP enc w0 blk off d0 w) (ha : a + n ≤ d0.size) (hb : b + n ≤ d0.size) (hsz : d0.size ≤ 1048576) :
    Calls Try.prog 90 #[.slice (some ⟨blk, off, none⟩) d0.size cap, .int .i64 (a : Int), .int .i64 (b : Int), .int .i64 (n : Int), fv] w (fun e w' => e = .returned (.tuple #[]) ∧ SP enc w0 blk off d0 w') := by
  obtain ⟨sz, hszq⟩ : ∃ q, q = d0.size := ⟨_, rfl⟩
  rw [← hszq] at ha hb hsz ⊢
  have HS := Lib.hid hS; have HQ := Lib.hid hszq; have HR := Lib.hid R
  have hcl0 := R.hO.cells
  simp only [Value.cells] at hcl0
  have hst := R.hO.store Try.prog
  have mixed : Try.prog.follows .mixedOrders = true := by kernel_rfl
  clear hS hszq
  go_enter Try.func90, Try.ntmps90
  go_wp2_with fail
  go_loopw [10] (fun t wr => ∃ i : Nat, i ≤ n ∧ t = .int .i64 (i : Int) ∧ Hid (SP enc w0 blk off d0 wr)) (fun t _ => n - (intOf t).toNat)
  case atStart => exact ⟨0, Nat.zero_le _, rfl, HS⟩
  case round =>
    obtain ⟨i, hi, rfl, HP⟩ := hrel
    obtain ⟨W, rfl⟩ : ∃ W : World, W = wr := ⟨_, rfl⟩
    clear HS
    by_cases hlt : i < n
    · obtain ⟨dk, hs, hp, S⟩ := HP.out
      obtain ⟨iN, hiN⟩ : ∃ q, q = a + i := ⟨_, rfl⟩
      obtain ⟨jN, hjN⟩ : ∃ q, q = b + i := ⟨_, rfl⟩
      have hsq := HQ.out
      have pi : iN < d0.size := by omega
      have pj : jN < d0.size := by omega
      have S3 : Hid (SP enc w0 blk off d0 ((W.setCell ⟨blk, off + iN, none⟩ (enc dk[jN]!)).setCell ⟨blk, off + jN, none⟩ (enc dk[iN]!)).drew) := Lib.hid (SP.swap R hs hp S pi pj)
      have ca := S.c1 R (by omega) iN (by omega)
      have cb := S.c1 R (by omega) jN (by omega)
      have fa := S.f1 R (by omega) iN (by omega)
      have fb := S.f1 R (by omega) jN (by omega)
      obtain ⟨x, hx⟩ : ∃ x, x = dk[iN]! := ⟨_, rfl⟩
      obtain ⟨y, hy⟩ : ∃ x, x = dk[jN]! := ⟨_, rfl⟩
      obtain ⟨u, cc⟩ := S.c2 R (by omega) iN jN (by omega) (by omega) (enc y)
      rw [← hx] at ca S3
      rw [← hy] at cb S3
      have ea : ((a : Int) + (i : Int)).toNat = iN := by omega
      have pa : (0 : Int) ≤ (a : Int) + (i : Int) := by omega
      have ba : (a : Int) + (i : Int) < (sz : Int) := by omega
      have ra : IntKind.i64.wrap ((a : Int) + (i : Int)) = (a : Int) + (i : Int) := by rw [IntKind.wrap_i64]; omega
      have eb : ((b : Int) + (i : Int)).toNat = jN := by omega
      have pb : (0 : Int) ≤ (b : Int) + (i : Int) := by omega
      have bb : (b : Int) + (i : Int) < (sz : Int) := by omega
      have rb : IntKind.i64.wrap ((b : Int) + (i : Int)) = (b : Int) + (i : Int) := by rw [IntKind.wrap_i64]; omega
      clear S hs hp hx hy hiN hjN hsq pi pj HP
      go_upto_region 3 with fail
      go_big_region_o
      clear ca cb cc fa fb
      generalize ((W.setCell ⟨blk, off + iN, none⟩ (enc y)).setCell ⟨blk, off + jN, none⟩ (enc x)).drew = w3 at S3 ⊢
      clear ea eb
      go_wp2_with fail
      go_roundw
      case rel => exact ⟨i + 1, by omega, by go_num, S3⟩
      case measure => simp [intOf]; omega
    · obtain rfl : i = n := by omega
      go_wp2_with fail
      go_end0
      exact ⟨rfl, HP.out⟩
end
end Go.Proofs.Ytjpkaljndfgkjaa.R
