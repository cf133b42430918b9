/- Equality of pairs and of values, run. -/
import Derived.Test.YtmmmdinncmbjkaaOa
import Derived.DeepKeys
namespace Go.Proofs.Ytmmmdinncmbjkaa
open Go.RowKit Go.Maps

theorem eqn_int (d : Nat) (w : World) (a b : Int) : (Op.equalIn (d + 1) 3 (.int .i64 a) (.int .i64 b)).run Try.prog w = .ok (a == b) w := by
  simp [Op.equalIn, run_underlying Try.underlying3]
theorem eqn_str (d : Nat) (w : World) (a b : ByteArray) : (Op.equalIn (d + 1) 9 (.string a) (.string b)).run Try.prog w = .ok (a == b) w := by
  simp [Op.equalIn, run_underlying Try.underlying9]
theorem eqn_pi (d' : Nat) (w : World) (a b c d : Int) : (Op.equalIn (d' + 2) 71 (.agg #[.int .i64 a, .int .i64 b]) (.agg #[.int .i64 c, .int .i64 d])).run Try.prog w = .ok ((a == c) && (b == d)) w := by
  obtain ⟨i0, hi0, hz0, hz1, hz2⟩ := info_parts info_int
  have hc : Try.prog.cellsOf 3 = 1 := by simp [Program.cellsOf, hi0, hz1]
  rw [run_equalIn_array w (d' + 1) (n := 2) (e := 3) _ _ Try.underlying71 hi0, hc]
  have e1 : ∀ (x y : Int), (Op.equalIn (d' + 1) 3 (.int .i64 x) (.int .i64 y)).run Try.prog w = .ok (x == y) w := fun x y => eqn_int d' w x y
  rcases h : (a == c) with _ | _
  · simp [List.range, List.range.loop, Op.eqItems, part, isAgg, run_underlying Try.underlying3, e1, h]
  · rcases h2 : (b == d) with _ | _ <;> simp [List.range, List.range.loop, Op.eqItems, part, isAgg, run_underlying Try.underlying3, e1, h, h2]
theorem eq_pi (w : World) (a b c d : Int) : (Op.equalIn 10000 71 (.agg #[.int .i64 a, .int .i64 b]) (.agg #[.int .i64 c, .int .i64 d])).run Try.prog w = .ok ((a == c) && (b == d)) w := eqn_pi 9998 w a b c d
end Go.Proofs.Ytmmmdinncmbjkaa
