/-
  Equality of arrays.
-/
import Derived.Test.YthnognjcbjgkbaaTab8
namespace Go.Proofs.Ythnognjcbjgkbaa
set_option linter.unusedVariables false
open Go.RowKit Go.Shelf

theorem part7 (cs : Array Value) (j : Nat) (n : Int) (hj : cs[j]? = some (.int .i64 n)) (w : World) : (part 3 cs j).run Try.prog w = .ok (.int .i64 n) w := by
  simp [part, go_sem, hj]
theorem size_int (w : World) : (sizeOf 3).run Try.prog w = .ok 1 w := rfl
theorem eq7 (d : Nat) (a : Nat → Int) (w : World) : (Op.equalIn (d + 1 + 1) 23 (.agg (cntA a)) (.agg (cntA a))).run Try.prog w = .ok true w := by
  rw [Op.equalIn]
  simp only [Sem.run_bind, run_underlying Try.underlying23, Result.andThen_ok, size_int]
  have p0 := part7 (cntA a) 0 (a 0) rfl
  have p1 := part7 (cntA a) 1 (a 1) rfl
  have p2 := part7 (cntA a) 2 (a 2) rfl
  have p3 := part7 (cntA a) 3 (a 3) rfl
  have p4 := part7 (cntA a) 4 (a 4) rfl
  have p5 := part7 (cntA a) 5 (a 5) rfl
  have p6 := part7 (cntA a) 6 (a 6) rfl
  have he : ∀ (m : Int) (w : World), (Op.equalIn (d + 1) 3 (.int .i64 m) (.int .i64 m)).run Try.prog w = .ok true w := fun m w => by
    rw [run_equalIn_int (P := Try.prog) w d 3 .i64 .i64 m m Try.underlying3]
    simp
  simp [List.range', p0, p1, p2, p3, p4, p5, p6, he]
theorem eq7_lit (a0 a1 a2 a3 a4 a5 a6 : Int) (w : World) : (Op.equalIn 9999 23 (.agg #[.int .i64 a0, .int .i64 a1, .int .i64 a2, .int .i64 a3, .int .i64 a4, .int .i64 a5, .int .i64 a6]) (.agg #[.int .i64 a0, .int .i64 a1, .int .i64 a2, .int .i64 a3, .int .i64 a4, .int .i64 a5, .int .i64 a6])).run Try.prog w = .ok true w :=
  eq7 9997 (cntF a0 a1 a2 a3 a4 a5 a6) w
end Go.Proofs.Ythnognjcbjgkbaa
