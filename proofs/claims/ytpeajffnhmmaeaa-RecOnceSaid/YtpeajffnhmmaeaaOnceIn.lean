/-
  The law RecOnce for every parameter.
-/
import Derived.Test.YtpeajffnhmmaeaaLawOnceR
namespace Go.Proofs.Ytpeajffnhmmaeaa
set_option linter.unusedVariables false
open Go.RowKit

set_option maxRecDepth 100000 in
set_option maxHeartbeats 800000 in
theorem RecOnce_any (A : Option Addr) (c : Nat) (xs : List UInt8) (w : World) (hR : Rd w w.heap.size A xs) (hc : xs.length ≤ c) (hn : c ≤ 9223372036854775807) :
    Calls Try.prog 4 #[.slice A xs.length c] w (AliveOK w) := by
  by_cases hl : xs.length ≤ 500
  · exact RecOnce_main A c xs w hR hc hn hl
  · have hd1 : decide ((500 : Int) < (xs.length : Int)) = true := decide_eq_true (by omega)
    clear hR
    go_enter Try.func4, Try.ntmps4
    go_wp2_with fail
    refine (alive09 _).mono ?_
    rintro e w2 ⟨rfl, hb2⟩
    go_wp2
    go_ret
    exact ⟨rfl, hb2⟩
end Go.Proofs.Ytpeajffnhmmaeaa
