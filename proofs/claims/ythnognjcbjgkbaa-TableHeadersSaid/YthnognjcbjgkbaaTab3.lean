/-
  Contracts of package table: sections and its iterator, limits, align, end.
-/
import Derived.RangeFuncNested
import Derived.RangeFuncBound
import Derived.RangeFuncCalls
import Derived.RangeFuncLeaves
import Derived.Shelf.Abstract
import Derived.Shelf.RegionOpen
import Derived.OwnWalkIn
import Derived.TacticsInMore
import Derived.LoopNIn
import Derived.LoopIn
import Derived.Test.YthnognjcbjgkbaaTab2
import Derived.Test.YthnognjcbjgkbaaProg
import Derived.Lib.Hide
namespace Go.Proofs.Ythnognjcbjgkbaa
set_option linter.unusedVariables false
open Go.RowKit Go.Shelf
attribute [local go_sem] Oper.semAt_some

theorem sections_any (w : World) : Calls Try.prog 28 #[] w fun e w' => e = .returned (.func (.func 45) #[] #[]) ∧ w = w' := by
  go_enter Try.func28, Try.ntmps28
  go_wp2
  go_ret
  exact ⟨rfl, rfl⟩

/-- what the iterator hands to a round: the section's number, its place in the table -/
abbrev encT (k : Fin 6) : Array Value := #[.int .i64 ((k.val : Int) + 1), .int .i64 (32 + 8 * (k.val : Int))]
/-- the first k rounds -/
def upT (k : Nat) : List (Fin 6) := (List.finRange 6).take k

theorem upT_succ {k : Nat} (h : k < 6) : upT (k + 1) = upT k ++ [⟨k, h⟩] := by
  unfold upT
  rw [List.take_succ_eq_append_getElem (by simpa using h)]
  simp

set_option maxRecDepth 100000 in
set_option maxHeartbeats 2000000 in
theorem sections_stops (m n0 : Nat) (hn : 1 ≤ m) (w : World) :
    SeqStopsK Fence.wide m Try.prog 45 #[] encT (Below n0) (fun xs => xs = upT 6) (fun pre => ∃ k, 1 ≤ k ∧ k ≤ 6 ∧ pre = upT k) 6 w := fun l J Jx W hW hJ hJx hY h0 => by
  refine callsIn_of_wp Try.func45 rfl trivial ?_ rfl
  simp only [Try.ntmps45, List.size_toArray, List.length_cons, List.length_nil, Nat.reduceAdd, Nat.reduceSub, Array.replicate_succ, Array.replicate_zero, List.push_toArray, List.append_toArray, List.nil_append, List.cons_append]
  gi_wp2
  gi_loopw [2] (fun i wr => ∃ k : Nat, k ≤ 6 ∧ i = .int .i64 ((k : Int) + 1) ∧ J (upT k) wr) (fun i _ => 8 - (intOf i).toNat)
  case atStart => exact ⟨0, Nat.zero_le _, rfl, h0⟩
  case round =>
    obtain ⟨k, hk, rfl, hJs⟩ := hrel
    by_cases hlt : k < 6
    · obtain ⟨fn, tmps, assign, body, hy, hR⟩ := hY _ ⟨k, hlt⟩ wr hJs (by simp [upT]; omega)
      dsimp only [encT] at hy
      gi_wp2
      refine hR.mono ?_
      rintro e W3 (⟨rfl, hJ3, hk3⟩ | ⟨rfl, hJx3⟩)
      · gi_wp2
        go_roundw
        case rel => exact ⟨k + 1, by omega, by simp, by rw [upT_succ hlt]; exact hJ3⟩
        case measure => simp [intOf]; omega
      · gi_wp2
        refine bodyPost_ret (results_none rfl _ _ _) rfl ?_
        exact ⟨⟨_, rfl⟩, .inr ⟨_, ⟨k + 1, by omega, by omega, rfl⟩, by rw [upT_succ hlt]; exact hJx3⟩⟩
    · obtain rfl : k = 6 := by omega
      gi_wp2
      go_end0
      exact ⟨⟨_, rfl⟩, .inl ⟨_, rfl, hJs⟩⟩
end Go.Proofs.Ythnognjcbjgkbaa
