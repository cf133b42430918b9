/- Contract: reader.bit. -/
import Derived.Test.YtjpkaljndfgkjaaSamB
namespace Go.Proofs.Ytjpkaljndfgkjaa
open Go.RowKit

/-- Bit i of bytes. -/
def bitAt (bs : List Nat) (i : Nat) : Nat := bs.getD (i / 8) 0 / 2 ^ (i % 8) % 2
theorem bitAt_le (bs : List Nat) (i : Nat) : bitAt bs i ≤ 1 := by unfold bitAt; omega

/-- A reader at block g: its bytes' slice and its position. -/
def Rd (w : World) (g : Nat) (v : Value) (pos : Int) : Prop := Bk w g 84 [v, .int .i64 pos]

theorem byte_cell {w : World} {A : Option Addr} {n c : Nat} {bs : List Nat} (h : By w (.slice A n c) bs) {i : Nat} (hi : i < bs.length) : ∃ ad, A = some ad ∧ w.cell? (ad.add i) = some (.int .u8 ((bs.getD i 0 : Nat) : Int)) := by
  rcases A with _ | ad
  · have : bs = [] := by simpa using Sl.none h.2.2
    subst this; simp at hi
  · exact ⟨ad, rfl, (Sl.cells h.2.2 i (U8 bs[i]) (by simp [hi])).trans (by simp [List.getD, hi])⟩

set_option maxHeartbeats 400000 in
theorem bit_end {w : World} {g : Nat} {v : Value} {bs : List Nat} {pos : Int} (hr : Rd w g v pos) (hb : By w v bs) (hp : pos < 0 ∨ 8 * (bs.length : Int) ≤ pos) (hp2 : pos < 9223372036854775808) :
    Calls Try.prog 56 #[.pointer (some ⟨g, 0, none⟩)] w fun e w' => e = .returned (.tuple #[.int .i64 0, .int .i64 36]) ∧ Qt w w' := by
  have hn := hb.2.1
  obtain ⟨A, c, rfl, -⟩ := hb.parts
  have h0 := hr.cell (i := 0) (by simp)
  have h1 := hr.cell (i := 1) (by simp)
  simp at h0 h1
  clear hr hb
  generalize bs.length = n at *
  rcases hp with hp | hp
  · go_enter Try.func56, Try.ntmps56
    go_wp2_with fail
    go_quiet (fail)
    go_wp2_with fail
    go_ret2
    exact ⟨rfl, (Qt.refl w).drewN _⟩
  · have hp0 : ¬ pos < 0 := by omega
    have hd : decide (pos < 0) = false := by simp; omega
    have hq : pos.tdiv 8 = pos / 8 := Int.tdiv_eq_ediv_of_nonneg (by omega)
    have hq2 : (n : Int) ≤ pos / 8 := by omega
    go_enter Try.func56, Try.ntmps56
    go_wp2_with fail
    go_quiet (fail)
    go_wp2_with fail
    go_ret2
    exact ⟨rfl, (Qt.refl w).drewN _⟩

theorem and_one : ∀ x : Fin 256, wrap64 (bits BinOp.and IntKind.u8 (x.val : Int) 1) = ((x.val % 2 : Nat) : Int) := by decide +kernel

set_option maxHeartbeats 400000 in
theorem bit_next {w : World} {g : Nat} {v : Value} {bs : List Nat} {pos : Nat} (hr : Rd w g v pos) (hb : By w v bs) (hp : pos < 8 * bs.length) :
    Calls Try.prog 56 #[.pointer (some ⟨g, 0, none⟩)] w fun e w' => e = .returned (.tuple #[.int .i64 (bitAt bs pos : Nat), .int .i64 0]) ∧ Rd w' g v ((pos + 1 : Nat) : Int) ∧ Mod g w w' := by
  have hn := hb.2.1
  obtain ⟨A, c, rfl, -⟩ := hb.parts
  have h0 := hr.cell (i := 0) (by simp)
  have h1 := hr.cell (i := 1) (by simp)
  have f1 := hr.free 1
  simp at h0 h1
  obtain ⟨ad, rfl, hcell⟩ := byte_cell hb (i := pos / 8) (by omega)
  have hbd : bs.getD (pos / 8) 0 < 256 := by
    have : pos / 8 < bs.length := by omega
    simp [List.getD, this]; exact hb.1 _ (List.getElem_mem this)
  have HR := Lib.hid hr
  have HB : Hid (bitAt bs pos = bs.getD (pos / 8) 0 / 2 ^ (pos % 8) % 2) := rfl
  clear hr hb
  generalize bs.getD (pos / 8) 0 = by_ at *
  generalize bs.length = n at *
  have hd : decide ((pos : Int) < 0) = false := by simp
  have hq : (pos : Int).tdiv 8 = (pos : Int) / 8 := Int.tdiv_eq_ediv_of_nonneg (by omega)
  have hm : (pos : Int).tmod 8 = (pos : Int) % 8 := Int.tmod_eq_emod_of_nonneg (by omega)
  have hq2 : ¬ (n : Int) ≤ (pos : Int) / 8 := by omega
  have hq3 : (pos : Int) / 8 < (n : Int) := by omega
  have hq4 : (0 : Int) ≤ (pos : Int) / 8 := by omega
  have hq5 : ((pos : Int) / 8).toNat = pos / 8 := by omega
  have hq6 : decide ((n : Int) ≤ (pos : Int) / 8) = false := by simp; omega
  go_enter Try.func56, Try.ntmps56
  go_wp2_with fail
  go_quiet (fail)
  go_wp2_with fail
  go_quiet (fail)
  go_wp2_with fail
  go_ret2
  refine ⟨?_, ?_, ?_⟩
  · have e := and_one ⟨by_ / 2 ^ (pos % 8), Nat.lt_of_le_of_lt (Nat.div_le_self _ _) hbd⟩
    simp only [Int.natCast_ediv, Int.natCast_pow] at e
    rw [HB.out, ← e]
    rfl
  · exact Bk.set (HR.out.drewN _) 1 _
  · exact Mod.setCell (p := ⟨g, 1, none⟩) ((Mod.refl g w).drewN _) (.inl rfl) _
end Go.Proofs.Ytjpkaljndfgkjaa
