/- Contracts: great, zero, is, bytes.Equal. -/
import Derived.Test.YtjpkaljndfgkjaaSamA
namespace Go.Proofs.Ytjpkaljndfgkjaa
open Go.RowKit

/-- A tape beyond the limit of the statements, or with an invalid position. -/
def greatB (n : Nat) (pos : Int) : Bool := decide (60 < n) || decide (pos < 0) || decide (8 * (n : Int) < pos)

set_option maxHeartbeats 400000 in
theorem great_tp {w : World} {v : Value} {bs : List Nat} {pos : Int} (h : Tp w v bs pos) :
    Calls Try.prog 5 #[v] w (Ret (fun x _ => x = .bool (greatB bs.length pos)) w) := by
  obtain ⟨s, rfl, hs⟩ := h
  have hn := hs.2.1
  obtain ⟨A, c, rfl, -⟩ := hs.parts
  clear hs
  generalize bs.length = n at *
  by_cases h1 : 60 < n
  · go_enter Try.func5, Try.ntmps5
    go_wp2_with fail
    go_ret
    exact Ret.mk ((Ext.refl w).alloc _) (by simp [greatB, h1])
  · have h1' : n ≤ 60 := by omega
    by_cases h2 : pos < 0
    · go_enter Try.func5, Try.ntmps5
      go_wp2_with fail
      go_ret
      exact Ret.mk ((Ext.refl w).alloc _) (by simp [greatB, h2])
    · by_cases h3 : 8 * (n : Int) < pos
      all_goals
        go_enter Try.func5, Try.ntmps5
        go_wp2_with fail
        go_ret
        exact Ret.mk ((Ext.refl w).alloc _) (by
          have h60 : ¬ (60 : Int) < n := by omega
          have hp : ¬ pos < 0 := by omega
          have h4 : decide (8 * (n : Int) < pos) = decide (8 * (n : Int) < pos) := rfl
          simp [greatB, h1, hp]; omega)

/-- The zero tape. -/
def zeroB (n : Nat) (pos : Int) : Bool := decide (n = 0) && decide (pos = 0)
set_option maxHeartbeats 400000 in
theorem zero_tp {w : World} {v : Value} {bs : List Nat} {pos : Int} (h : Tp w v bs pos) :
    Calls Try.prog 12 #[v] w (Ret (fun x _ => x = .bool (zeroB bs.length pos)) w) := by
  obtain ⟨s, rfl, hs⟩ := h
  have hn := hs.2.1
  obtain ⟨A, c, rfl, -⟩ := hs.parts
  clear hs
  generalize bs.length = n at *
  by_cases h1 : n = 0
  · subst h1
    by_cases h2 : pos = 0
    · have e2 : (pos == 0) = true := by simp [h2]
      clear h2
      go_enter Try.func12, Try.ntmps12
      go_wp2_with fail
      go_ret
      exact Ret.mk ((Ext.refl w).alloc _) (by simp [zeroB]; simpa using e2)
    · have e2 : (pos == 0) = false := by simp [h2]
      go_enter Try.func12, Try.ntmps12
      go_wp2_with fail
      go_ret
      exact Ret.mk ((Ext.refl w).alloc _) (by simp [zeroB, h2])
  · have e1 : ((n : Int) == 0) = false := by simp; omega
    go_enter Try.func12, Try.ntmps12
    go_wp2_with fail
    go_ret
    exact Ret.mk ((Ext.refl w).alloc _) (by simp [zeroB, h1])

theorem By.bytesIn {w : World} {A : Option Addr} {n c : Nat} {bs : List Nat} (h : By w (.slice A n c) bs) : n = bs.length ∧ Lib.BytesIn w A n (bs.map (fun b : Nat => (b : Int))) := by
  obtain ⟨A', c', e, _⟩ := h.parts
  injection e with e1 e2 e3
  subst e2
  refine ⟨rfl, ?_⟩
  rcases A with _ | ad
  · have : bs = [] := by simpa using Sl.none h.2.2
    subst this
    exact Lib.BytesIn.nil _ _ _
  · refine Lib.BytesIn.of_cells fun i hi => ?_
    refine (Sl.cells h.2.2 i (U8 bs[i]) (by simp [hi])).trans ?_
    simp [List.getD, hi]

theorem bytesOf_inj {a b : List Nat} (ha : ∀ x ∈ a, x < 256) (hb : ∀ x ∈ b, x < 256) : (Lib.bytesOf (a.map (fun b : Nat => (b : Int))) == Lib.bytesOf (b.map (fun b : Nat => (b : Int)))) = decide (a = b) := by
  have key : ∀ {a b : List Nat}, (∀ x ∈ a, x < 256) → (∀ x ∈ b, x < 256) → Lib.bytesOf (a.map (fun b : Nat => (b : Int))) = Lib.bytesOf (b.map (fun b : Nat => (b : Int))) → a = b := by
    intro a
    induction a with
    | nil => intro b _ _ h; cases b with
      | nil => rfl
      | cons y b => simp [Lib.bytesOf] at h
    | cons x a ih => intro b ha hb h; cases b with
      | nil => simp [Lib.bytesOf] at h
      | cons y b =>
        simp only [Lib.bytesOf, List.map_cons, List.cons.injEq, Int.toNat_natCast] at h
        have hx : x < 256 := ha x (by simp)
        have hy : y < 256 := hb y (by simp)
        have e : x = y := by
          have := congrArg UInt8.toNat h.1
          simpa [UInt8.toNat_ofNat', Nat.mod_eq_of_lt hx, Nat.mod_eq_of_lt hy] using this
        rw [e, ih (fun z hz => ha z (by simp [hz])) (fun z hz => hb z (by simp [hz])) h.2]
  rw [Bool.eq_iff_iff]
  simp only [beq_iff_eq, decide_eq_true_eq]
  exact ⟨key ha hb, fun e => by rw [e]⟩

theorem equal8 {w : World} {u v : Value} {a b : List Nat} (ha : By w u a) (hb : By w v b) :
    Calls Try.prog 36 #[u, v] w fun e w' => e = .returned (.bool (decide (a = b))) ∧ w = w' := by
  obtain ⟨A, c, rfl, _⟩ := ha.parts
  obtain ⟨B, d, rfl, _⟩ := hb.parts
  refine (Try.bytes_Equal_all A B a.length c b.length d _ _ w (by simp) (by simp) ha.bytesIn.2 hb.bytesIn.2).mono ?_
  rintro e w' ⟨rfl, rfl⟩
  exact ⟨by rw [bytesOf_inj ha.1 hb.1], rfl⟩

set_option maxHeartbeats 400000 in
theorem is_tp {w : World} {u v : Value} {a b : List Nat} {p q r : Int} (hu : Tp w u a p) (hv : Tp w v b q) :
    Calls Try.prog 14 #[u, v, .int .i64 r] w (Ret (fun x _ => x = .bool (decide (a = b) && decide (p = r))) w) := by
  obtain ⟨s, rfl, hs⟩ := hu
  obtain ⟨t, rfl, ht⟩ := hv
  have he : Ext w ((w.alloc (.cells #[s, .int .i64 p] 25)).alloc (.cells #[t, .int .i64 q] 25)) := ((Ext.refl w).alloc _).alloc _
  have HE := Lib.hid he; clear he
  go_enter Try.func14, Try.ntmps14
  go_wp2_with fail
  refine (equal8 (hs.ext HE.out) (ht.ext HE.out)).mono ?_
  rintro e w' ⟨rfl, rfl⟩
  by_cases h1 : a = b
  · have e1 : decide (a = b) = true := by simp [h1]
    rw [e1]
    have H1 := Lib.hid h1
    clear h1 e1
    by_cases h2 : p = r
    · have e2 : (p == r) = true := by simp [h2]
      have E := Lib.hid h2; clear h2
      go_wp2_with fail
      go_ret
      exact Ret.mk HE.out (by simp [E.out, H1.out])
    · have e2 : (p == r) = false := by simp [h2]
      go_wp2_with fail
      go_ret
      exact Ret.mk HE.out (by simp [h2])
  · have e1 : decide (a = b) = false := by simp [h1]
    rw [e1]
    go_wp2_with fail
    go_ret
    exact Ret.mk HE.out (by simp [h1])
end Go.Proofs.Ytjpkaljndfgkjaa
