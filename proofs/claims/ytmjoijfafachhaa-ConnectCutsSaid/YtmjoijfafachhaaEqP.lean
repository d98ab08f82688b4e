/- Two pairs of numbers compared: what '==' gives. -/
import Derived.Test.YtmjoijfafachhaaConM
namespace Go.Proofs.Ytmjoijfafachhaa
open Go Go.RowKit
theorem und45 : Try.prog.underlying 45 = some (.array 2 3) := by kernel_rfl
theorem part0 (W : World) (x y : Int) : (part 3 #[.int .i64 x, .int .i64 y] 0).run Try.prog W = .ok (.int .i64 x) W := by kernel_rfl
theorem part1 (W : World) (x y : Int) : (part 3 #[.int .i64 x, .int .i64 y] 1).run Try.prog W = .ok (.int .i64 y) W := by kernel_rfl
theorem size3 (W : World) : (sizeOf 3).run Try.prog W = .ok 1 W := by kernel_rfl
theorem run_eqPair' (d : Nat) (x y x' y' : Int) (W : World) : (Op.equalIn (d + 2) 45 (.agg #[.int .i64 x, .int .i64 y]) (.agg #[.int .i64 x', .int .i64 y'])).run Try.prog W = .ok (x == x' && y == y') W := by
  have e1 := run_equalIn_int (P := Try.prog) W d 3 .i64 .i64 x x' Try.underlying3
  have e2 := run_equalIn_int (P := Try.prog) W d 3 .i64 .i64 y y' Try.underlying3
  rw [Op.equalIn]
  simp only [Sem.run_bind, run_underlying und45, Result.andThen_ok, size3, Std.Legacy.Range.forIn_eq_forIn_range']
  rw [show List.range' 0 (Std.Legacy.Range.size [:2]) = [0, 1] from rfl]
  simp only [List.forIn_cons, List.forIn_nil, Sem.run_bind, Nat.zero_mul, Nat.one_mul, part0, Result.andThen_ok, e1]
  cases (x == x')
  · simp
  · simp only [Bool.not_true, Bool.false_eq_true, if_false, Sem.run_pure, Result.andThen_ok, part1, e2, Sem.run_bind]
    cases (y == y') <;> simp
theorem run_eqPair (x y x' y' : Int) (W : World) : (Op.equalIn 10000 45 (.agg #[.int .i64 x, .int .i64 y]) (.agg #[.int .i64 x', .int .i64 y'])).run Try.prog W = .ok (x == x' && y == y') W := run_eqPair' 9998 x y x' y' W
end Go.Proofs.Ytmjoijfafachhaa
