/- Contract: normalize.fits. -/
import Derived.Test.YtmmmdinncmbjkaaGreatTc
namespace Go.Proofs.YtmmmdinncmbjkaaGreat
open Go.RowKit Go.Maps

def missB (a x : Int) : Bool := decide (x < 0) || decide (a ≤ x)
set_option maxRecDepth 20000 in
theorem miss_any {w : World} {x a : Int} {g : Nat} (hg : Bk w g 3 [.int .i64 a]) :
    Calls Tryz.prog 71 #[.int .i64 x, .pointer (some ⟨g, 0, none⟩)] w (fun e w' => e = .returned (.bool (missB a x)) ∧ w = w') := by
  have b0 := hg.cell (i := 0) (by simp)
  simp only [List.getElem_cons_zero] at b0
  clear hg
  rcases hm : missB a x with _ | _
  · have h0 : ¬ x < 0 := fun h => by simp [missB, h] at hm
    have h1 : ¬ a ≤ x := fun h => by simp [missB, h] at hm
    clear hm
    go_enter Tryz.func71, Tryz.ntmps71
    go_wp2_with fail
    go_ret
    exact ⟨rfl, rfl⟩
  · by_cases h0 : x < 0
    · clear hm
      go_enter Tryz.func71, Tryz.ntmps71
      go_wp2_with fail
      go_ret
      exact ⟨rfl, rfl⟩
    · have h1 : a ≤ x := by
        by_cases h : x < a
        · simp [missB, h0] at hm; omega
        · omega
      clear hm
      go_enter Tryz.func71, Tryz.ntmps71
      go_wp2_with fail
      go_ret
      exact ⟨rfl, rfl⟩
/-- An index where p holds, or -1. -/
def IdxO (n : Nat) (p : Nat → Bool) (x : Value) : Prop := ∃ r : Int, x = .int .i64 r ∧ ((r = -1 ∧ ∀ i, i < n → p i = false) ∨ ∃ i : Nat, r = (i : Int) ∧ i < n ∧ p i = true)
set_option maxRecDepth 20000 in
set_option maxHeartbeats 800000 in
theorem index_miss {F : Nat → Prop} {w : World} {A : Option Addr} {n c : Nat} {xs : List Int} {a : Int} {g : Nat} (hg : Bk w g 3 [.int .i64 a]) (h : Ins F w (.slice A n c) xs) (hl : n ≤ 1048576) :
    Calls Tryz.prog 99 #[.slice A n c, .func (.func 71) #[] #[.pointer (some ⟨g, 0, none⟩)]] w (Ret (fun x _ => IdxO n (fun i => missB a (xs.getD i 0)) x) w) := by
  obtain ⟨A', c', e, hc, hcl⟩ := h
  injection e with e1 e2 e3
  subst e1
  have HN := Lib.hid e2; have HCL := Lib.hid hcl; have HG := Lib.hid hg
  clear hcl e2 e3 hg
  go_enter Tryz.func99, Tryz.ntmps99
  go_wp2_with fail
  go_loopw [8] (fun q wr => ∃ i : Nat, i ≤ n ∧ q = .int .i64 (i : Int) ∧ Hid (∀ j, j < i → missB a (xs.getD j 0) = false) ∧ Ext w wr) (fun q _ => n - (intOf q).toNat)
  case atStart => exact ⟨0, Nat.zero_le _, rfl, Lib.hid (fun _ h => absurd h (by omega)), Ext.refl _⟩
  case round =>
    obtain ⟨i, hi, rfl, HGO, hext⟩ := hrel
    obtain ⟨W, rfl⟩ : ∃ W : World, W = wr := ⟨_, rfl⟩
    have HE := Lib.hid hext
    by_cases hlt : i < n
    · have i1 : (0 : Int) ≤ (i : Int) := by omega
      have i2 : (i : Int) < (n : Int) := by omega
      have hix : i < xs.length := by have := HN.out; omega
      obtain ⟨ad, rfl, -, c0⟩ := HCL.out.int hix
      replace c0 := hext.cell c0
      have hgd : xs.getD i 0 = xs[i] := by simp [List.getD, List.getElem?_eq_getElem hix]
      have HC := Lib.hid (miss_any (x := xs[i]) (HG.out.ext hext))
      obtain ⟨x, hx⟩ : ∃ x, x = xs[i] := ⟨_, rfl⟩
      rw [← hx] at c0 HC hgd
      have HGD := Lib.hid hgd
      clear hext hx hgd
      go_wp2_with fail
      refine HC.out.mono ?_
      rintro e w2 ⟨rfl, rfl⟩
      rcases hpi : missB a x with _ | _
      · have HPI := Lib.hid hpi
        clear hpi
        go_wp2_with fail
        go_roundw
        case rel =>
          refine ⟨i + 1, by omega, by go_num, Lib.hid (fun j hji => ?_), HE.out⟩
          rcases Nat.lt_or_ge j i with h | h
          · exact HGO.out j h
          · obtain rfl : j = i := by omega
            rw [HGD.out]; exact HPI.out
        case measure => simp [intOf]; omega
      · have HPI := Lib.hid hpi
        clear hpi
        go_wp2_with fail
        go_ret
        exact Ret.mk HE.out ⟨_, rfl, .inr ⟨i, rfl, hlt, by show missB a (xs.getD i 0) = true; rw [HGD.out]; exact HPI.out⟩⟩
    · obtain rfl : i = n := by omega
      have hdn : ¬ (i : Int) < (i : Int) := by omega
      go_wp2_with fail
      go_ret
      exact Ret.mk HE.out ⟨_, rfl, .inl ⟨rfl, HGO.out⟩⟩
theorem any_getD {p : Int → Bool} {xs : List Int} : xs.any p = (List.range xs.length).any (fun i => p (xs.getD i 0)) := by
  apply bool_iff
  rw [List.any_eq_true, List.any_eq_true]
  constructor
  · rintro ⟨x, hx, hp⟩
    obtain ⟨i, hi, rfl⟩ := List.getElem_of_mem hx
    exact ⟨i, List.mem_range.2 hi, by simpa [List.getD, List.getElem?_eq_getElem hi] using hp⟩
  · rintro ⟨i, hi, hp⟩
    rw [List.mem_range] at hi
    exact ⟨xs[i], List.getElem_mem hi, by simpa [List.getD, List.getElem?_eq_getElem hi] using hp⟩
set_option maxRecDepth 20000 in
set_option maxHeartbeats 800000 in
theorem contains_miss {F : Nat → Prop} {w : World} {A : Option Addr} {n c : Nat} {xs : List Int} {a : Int} {g : Nat} (hg : Bk w g 3 [.int .i64 a]) (h : Ins F w (.slice A n c) xs) (hl : n ≤ 1048576) :
    Calls Tryz.prog 72 #[.slice A n c, .func (.func 71) #[] #[.pointer (some ⟨g, 0, none⟩)]] w (Ret (fun x _ => x = .bool (xs.any (missB a))) w) := by
  have HI := Lib.hid (index_miss hg h hl)
  have hn : n = xs.length := by
    obtain ⟨A', c', e, -⟩ := h
    injection e
  have HN := Lib.hid hn
  clear hn hg h
  go_enter Tryz.func72, Tryz.ntmps72
  go_wp2_with fail
  refine HI.out.mono ?_
  rintro e w2 ⟨x, rfl, he2, r, rfl, hr⟩
  have HE2 := Lib.hid he2
  rcases hr with ⟨rfl, hr⟩ | ⟨i, rfl, hi, hr⟩
  · have HR : Hid (xs.any (missB a) = false) := Lib.hid (by
      rw [any_getD, List.any_eq_false]
      intro i hi
      have h0 : missB a (xs.getD i 0) = false := hr i (by have := HN.out; have := List.mem_range.1 hi; omega)
      rw [h0]
      simp)
    clear hr he2
    go_wp2_with fail
    go_ret
    exact Ret.mk HE2.out (by rw [HR.out]; rfl)
  · have HR : Hid (xs.any (missB a) = true) := Lib.hid (by
      rw [any_getD, List.any_eq_true]
      exact ⟨i, List.mem_range.2 (by have := HN.out; omega), hr⟩)
    have hle : decide ((0 : Int) ≤ (i : Int)) = true := decide_eq_true (by omega)
    clear hr he2
    go_wp2_with fail
    go_ret
    exact Ret.mk HE2.out (by rw [HR.out]; rfl)
end Go.Proofs.YtmmmdinncmbjkaaGreat
