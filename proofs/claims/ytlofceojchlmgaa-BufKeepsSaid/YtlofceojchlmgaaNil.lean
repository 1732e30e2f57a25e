/-
  The methods of a nil builder have no effect.
-/
import Derived.Test.YtlofceojchlmgaaBuf5
namespace Go.Proofs.Ytlofceojchlmgaa
set_option linter.unusedVariables false
open Go.RowKit

theorem Add_nil (v : Value) (w : World) : Calls Try.prog 20 #[.pointer none, v] w fun e w' => e = .returned (.tuple #[]) ∧ w = w' := by
  go_enter Try.func20, Try.ntmps20
  go_wp2_with fail
  go_end0
  exact ⟨rfl, rfl⟩

set_option maxHeartbeats 400000 in
theorem put_nil_u8 (x n : Nat) (w : World) (hx : x < 18446744073709551616) (hn : n ≤ 8) :
    Calls Try.prog 40 #[.pointer none, .int .u8 (x : Int), .int .i64 (n : Int), .func (.func 20) #[] #[]] w fun e w' => e = .returned (.tuple #[]) ∧ Below w.heap.size w w' := by
  go_enter Try.func40, Try.ntmps40
  go_wp2_with fail
  go_loopw [10] (fun i wr => ∃ k : Nat, k ≤ n ∧ i = .int .i64 (k : Int) ∧ Below w.heap.size w wr) (fun i _ => n - (intOf i).toNat)
  case atStart => exact ⟨0, Nat.zero_le _, rfl, Below.refl _ _⟩
  case round =>
    obtain ⟨k, hk, rfl, hB⟩ := hrel
    have HB := Lib.hid hB
    clear hB
    by_cases hlt : k < n
    · go_wp2_with fail
      refine (Add_nil _ _).mono ?_
      rintro e w2 ⟨rfl, rfl⟩
      go_wp2_with fail
      go_roundw
      case rel => exact ⟨k + 1, by omega, by go_num, HB.out.alloc HB.out.size _⟩
      case measure => simp [intOf]; omega
    · have ek : k = n := by omega
      subst ek
      go_wp2_with fail
      go_end0
      exact ⟨rfl, HB.out⟩
theorem putU8_nil (x : Nat) (w : World) (hx : x < 18446744073709551616) :
    Calls Try.prog 19 #[.pointer none, .int .u8 (x : Int)] w fun e w' => e = .returned (.tuple #[]) ∧ Below w.heap.size w w' := by
  have H := Lib.hid (put_nil_u8 x 1 w hx (by omega))
  clear hx
  go_enter Try.func19, Try.ntmps19
  go_wp2_with fail
  refine H.out.mono ?_
  rintro e w1 ⟨rfl, hG⟩
  go_wp2_with fail
  go_end0
  exact ⟨rfl, hG⟩
set_option maxHeartbeats 400000 in
theorem put_nil_u64 (x n : Nat) (w : World) (hx : x < 18446744073709551616) (hn : n ≤ 8) :
    Calls Try.prog 37 #[.pointer none, .int .u64 (x : Int), .int .i64 (n : Int), .func (.func 20) #[] #[]] w fun e w' => e = .returned (.tuple #[]) ∧ Below w.heap.size w w' := by
  go_enter Try.func37, Try.ntmps37
  go_wp2_with fail
  go_loopw [10] (fun i wr => ∃ k : Nat, k ≤ n ∧ i = .int .i64 (k : Int) ∧ Below w.heap.size w wr) (fun i _ => n - (intOf i).toNat)
  case atStart => exact ⟨0, Nat.zero_le _, rfl, Below.refl _ _⟩
  case round =>
    obtain ⟨k, hk, rfl, hB⟩ := hrel
    have HB := Lib.hid hB
    clear hB
    by_cases hlt : k < n
    · go_wp2_with fail
      refine (Add_nil _ _).mono ?_
      rintro e w2 ⟨rfl, rfl⟩
      go_wp2_with fail
      go_roundw
      case rel => exact ⟨k + 1, by omega, by go_num, HB.out.alloc HB.out.size _⟩
      case measure => simp [intOf]; omega
    · have ek : k = n := by omega
      subst ek
      go_wp2_with fail
      go_end0
      exact ⟨rfl, HB.out⟩
theorem putU64_nil (x : Nat) (w : World) (hx : x < 18446744073709551616) :
    Calls Try.prog 16 #[.pointer none, .int .u64 (x : Int)] w fun e w' => e = .returned (.tuple #[]) ∧ Below w.heap.size w w' := by
  have H := Lib.hid (put_nil_u64 x 8 w hx (by omega))
  clear hx
  go_enter Try.func16, Try.ntmps16
  go_wp2_with fail
  refine H.out.mono ?_
  rintro e w1 ⟨rfl, hG⟩
  go_wp2_with fail
  go_end0
  exact ⟨rfl, hG⟩
theorem Len_nil (w : World) : Calls Try.prog 15 #[.pointer none] w fun e w' => e = .returned (.int .i64 0) ∧ w = w' := by
  go_enter Try.func15, Try.ntmps15
  go_wp2_with fail
  go_ret
  exact ⟨rfl, rfl⟩
theorem Bytes_nil (w : World) : Calls Try.prog 21 #[.pointer none] w fun e w' => e = .returned (.slice none 0 0) ∧ w = w' := by
  go_enter Try.func21, Try.ntmps21
  go_wp2_with fail
  go_ret
  exact ⟨rfl, rfl⟩
theorem Zeros_nil (n : Int) (w : World) : Calls Try.prog 27 #[.pointer none, .int .i64 n] w fun e w' => e = .returned (.bool false) ∧ w = w' := by
  go_enter Try.func27, Try.ntmps27
  go_wp2_with fail
  go_ret
  exact ⟨rfl, rfl⟩
theorem Align_nil (n : Int) (w : World) : Calls Try.prog 28 #[.pointer none, .int .i64 n] w fun e w' => e = .returned (.bool false) ∧ w = w' := by
  go_enter Try.func28, Try.ntmps28
  go_wp2_with fail
  go_ret
  exact ⟨rfl, rfl⟩
theorem Set32_nil (n x : Int) (w : World) : Calls Try.prog 29 #[.pointer none, .int .i64 n, .int .u32 x] w fun e w' => e = .returned (.bool false) ∧ w = w' := by
  go_enter Try.func29, Try.ntmps29
  go_wp2_with fail
  go_ret
  exact ⟨rfl, rfl⟩
end Go.Proofs.Ytlofceojchlmgaa
