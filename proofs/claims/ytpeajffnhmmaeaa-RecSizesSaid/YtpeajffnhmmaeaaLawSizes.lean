/-
  What the law RecSizes computes: true.
-/
import Derived.Test.YtpeajffnhmmaeaaAlive09
namespace Go.Proofs.Ytpeajffnhmmaeaa
set_option linter.unusedVariables false
open Go.RowKit

theorem sizeV_mod (s : Int) : (sizeV s).tmod 8 = 0 := by
  unfold sizeV
  repeat' split
  all_goals decide
theorem sizeV_range (s : Int) : 0 ≤ sizeV s ∧ sizeV s ≤ 56 ∧ sizeV s % 8 = 0 := by
  unfold sizeV
  repeat' split
  all_goals decide

set_option maxRecDepth 20000 in
set_option maxHeartbeats 800000 in
theorem RecSizes_any (s : Int) (w : World) : Calls Try.prog 5 #[.int .i64 s] w (AliveOK w) := by
  have H := Lib.hid (fun w1 => Size_any s w1)
  have H2 := Lib.hid (fun w1 => refSize_any s w1)
  have hm := sizeV_mod s
  obtain ⟨h0, h1, h2⟩ := sizeV_range s
  generalize sizeV s = z at *
  go_enter Try.func5, Try.ntmps5
  go_wp2_with fail
  refine (alive09 w).mono ?_
  rintro e w1 ⟨rfl, hb1⟩
  go_wp2_with (first
    | (go_at_call 22; refine (H.out _).mono ?_; rintro e w' ⟨rfl, rfl⟩)
    | (go_at_call 23; refine (H2.out _).mono ?_; rintro e w' ⟨rfl, rfl⟩))
  go_ret
  exact ⟨rfl, hb1⟩
end Go.Proofs.Ytpeajffnhmmaeaa
