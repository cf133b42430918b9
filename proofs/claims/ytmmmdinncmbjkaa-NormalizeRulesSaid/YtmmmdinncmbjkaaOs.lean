/- Equality of values, run; the reference's Same. -/
import Derived.Test.YtmmmdinncmbjkaaOi
import Derived.Laws.StructEq
namespace Go.Proofs.Ytmmmdinncmbjkaa
open Go.RowKit Go.Maps

theorem eqn_val (d' : Nat) (w : World) (a c : Int) (b d : Int) (s t : ByteArray) : (Op.equalIn (d' + 2) 73 (.agg #[.int .i64 a, .int .i64 b, .string s]) (.agg #[.int .i64 c, .int .i64 d, .string t])).run Try.prog w = .ok ((a == c) && ((b == d) && (s == t))) w := by
  have hu := Try.underlying73
  rw [run_equalIn_struct w (d' + 1) _ _ _ (by simp [Program.fieldsOf, hu]) (by kernel_rfl)]
  simp only [Program.fieldsOf, hu]
  have e1 : ∀ (x y : Int), (Op.equalIn (d' + 1) 3 (.int .i64 x) (.int .i64 y)).run Try.prog w = .ok (x == y) w := fun x y => eqn_int d' w x y
  have e2 : ∀ (x y : Int), (Op.equalIn (d' + 1) 2 (.int .i64 x) (.int .i64 y)).run Try.prog w = .ok (x == y) w := fun x y => by
    simp [Op.equalIn, run_underlying Try.underlying2]
  have e3 : ∀ (x y : ByteArray), (Op.equalIn (d' + 1) 9 (.string x) (.string y)).run Try.prog w = .ok (x == y) w := fun x y => eqn_str d' w x y
  rcases h : (a == c) with _ | _ <;> rcases h2 : (b == d) with _ | _ <;> rcases h3 : (s == t) with _ | _ <;>
    simp [Op.eqFields, part, isAgg, run_underlying Try.underlying3, run_underlying Try.underlying2, run_underlying Try.underlying9, e1, e2, e3, h, h2, h3]
theorem eq_val (w : World) (a c : Int) (b d : Int) (s t : ByteArray) : (Op.equalIn 10000 73 (.agg #[.int .i64 a, .int .i64 b, .string s]) (.agg #[.int .i64 c, .int .i64 d, .string t])).run Try.prog w = .ok ((a == c) && ((b == d) && (s == t))) w := eqn_val 9998 w a c b d s t
theorem eq_val_self (w : World) (a : Int) (b : Int) (s : ByteArray) : (Op.equalIn 10000 73 (.agg #[.int .i64 a, .int .i64 b, .string s]) (.agg #[.int .i64 a, .int .i64 b, .string s])).run Try.prog w = .ok true w := by
  have h := eq_val w a a b b s s
  rw [beq_toListBytes] at h
  simpa using h
theorem Sl.vl {F : Nat → Prop} {w : World} {A : Option Addr} {n c : Nat} {xs : List Vl} (h : Sl rdVl F w (.slice A n c) xs) {i : Nat} (hi : i < xs.length) : ∃ ad, A = some ad ∧ F ad.block ∧ w.cell? (ad.add (i * 3)) = some (.int .i64 xs[i].kind) ∧ w.cell? ⟨(ad.add (i * 3)).block, (ad.add (i * 3)).off + 1, none⟩ = some (.int .i64 xs[i].int) ∧ w.cell? ⟨(ad.add (i * 3)).block, (ad.add (i * 3)).off + 2, none⟩ = some (.string xs[i].str) := by
  obtain ⟨ad, cs, h1, h2, h3, h4, h5⟩ := h.at hi
  have e : cs = Vl.cells xs[i] := h3
  subst e
  exact ⟨ad, h1, h2, h4 (by simp [Vl.cells]), h5 0 (by simp [Vl.cells]), h5 1 (by simp [Vl.cells])⟩
set_option maxRecDepth 20000 in
set_option maxHeartbeats 1600000 in
theorem same_row {F G : Nat → Prop} {w : World} {A B : Option Addr} {n c d : Nat} {xs : List Vl} (h : Sl rdVl F w (.slice A n c) xs) (k : Sl rdVl G w (.slice B n d) xs) (hn : n ≤ 1048576) :
    Calls Try.prog 28 #[.slice A n c, .slice B n d] w (Ret (fun x _ => x = .bool true) w) := by
  have hnx := h.cap.1
  have HA := Lib.hid h; have HB := Lib.hid k; have HN := Lib.hid hnx
  clear h k hnx
  go_enter Try.func28, Try.ntmps28
  go_wp2_with fail
  go_loopw [5] (fun t wr => ∃ i : Nat, i ≤ n ∧ t = .int .i64 (i : Int) ∧ Ext w wr) (fun t _ => n - (intOf t).toNat)
  case atStart => exact ⟨0, Nat.zero_le _, rfl, Ext.refl _⟩
  case round =>
    obtain ⟨i, hi, rfl, hx⟩ := hrel
    have HX := Lib.hid hx
    by_cases hlt : i < n
    · have i1 : (0 : Int) ≤ (i : Int) := by omega
      have i2 : (i : Int) < (n : Int) := by omega
      have hil : i < xs.length := by have := HN.out; omega
      obtain ⟨ad, rfl, -, c0, c1, c2⟩ := HA.out.vl hil
      obtain ⟨bd, rfl, -, d0, d1, d2⟩ := HB.out.vl hil
      replace c0 := hx.cell c0; replace c1 := hx.cell c1; replace c2 := hx.cell c2; replace d0 := hx.cell d0; replace d1 := hx.cell d1; replace d2 := hx.cell d2
      obtain ⟨x, hxx⟩ : ∃ x, x = xs[i] := ⟨_, rfl⟩
      rw [← hxx] at c0 c1 c2 d0 d1 d2
      obtain ⟨kd, it, st⟩ := x
      simp only at c0 c1 c2 d0 d1 d2
      have heq := fun W => eq_val_self W kd it st
      clear hxx hx
      go_upto_region 6 with fail
      go_quiet (fail)
      have HXQ := Lib.hid (HX.out.drewN nq)
      generalize (wr.drewN nq) = w2 at *
      clear heq
      go_wp2_with fail
      go_roundw
      case rel => exact ⟨i + 1, by omega, by go_num, HXQ.out⟩
      case measure => simp [intOf]; omega
    · obtain rfl : i = n := by omega
      have hdi : ¬ (i : Int) < (i : Int) := by omega
      clear hx
      go_wp2_with fail
      go_ret
      exact Ret.mk HX.out rfl
end Go.Proofs.Ytmmmdinncmbjkaa
