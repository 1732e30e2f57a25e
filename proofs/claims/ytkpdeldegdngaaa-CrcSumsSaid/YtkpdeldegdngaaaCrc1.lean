/-
  Contracts of package crc and of its reference: the steps of the register.
-/
import Derived.Test.YtkpdeldegdngaaaChecked
import Derived.Test.YtkpdeldegdngaaaCrcB
import Derived.Test.YtkpdeldegdngaaaOwn
import Derived.Lib.Hide
import Derived.WalkLawsBesides
namespace Go.Proofs.Ytkpdeldegdngaaa
set_option linter.unusedVariables false
open Go.RowKit


/-- a register as an integer -/
def u32 (r : BitVec 32) : Int := (r.toNat : Int)
theorem u32_open (r : BitVec 32) : ∃ n : Nat, u32 r = (n : Int) ∧ n < 4294967296 ∧ Hid (n = r.toNat) := ⟨r.toNat, rfl, r.isLt, rfl⟩
theorem u32_of (r : BitVec 32) (n : Nat) (h : r.toNat = n) : u32 r = (n : Int) := by unfold u32; rw [h]

theorem step_toNat (r : BitVec 32) : (CrcP.step r).toNat = if r.toNat % 2 = 1 then (r.toNat / 2) ^^^ 3988292384 else r.toNat / 2 := by
  unfold CrcP.step
  have h0 : r.getLsbD 0 = decide (r.toNat % 2 = 1) := by rw [BitVec.getLsbD, Nat.testBit_zero]
  rw [h0]
  by_cases h : r.toNat % 2 = 1
  · simp [h, BitVec.toNat_xor, BitVec.toNat_ushiftRight, Nat.shiftRight_eq_div_pow, CrcP.poly]
  · simp [h, BitVec.toNat_ushiftRight, Nat.shiftRight_eq_div_pow]

set_option maxHeartbeats 400000 in
theorem refStep_any (r : BitVec 32) (w : World) : Calls Try.prog 25 #[.int .u32 (u32 r)] w fun e w' => e = .returned (.int .u32 (u32 (CrcP.step r))) ∧ w = w' := by
  obtain ⟨n, hn, hlt, HN⟩ := u32_open r
  rw [hn]
  obtain ⟨z, hz⟩ : ∃ z, z = u32 (CrcP.step r) := ⟨_, rfl⟩
  rw [← hz]
  have HZ := Lib.hid hz
  clear hn hz
  have hs := step_toNat r
  rw [← HN.out] at hs
  by_cases h : n % 2 = 1
  · have ht : ((n : Int) % 2 == 1) = true := by simp; omega
    rw [if_pos h] at hs
    have HS := Lib.hid hs
    clear hs h
    go_enter Try.func25, Try.ntmps25
    go_wp2
    go_ret
    refine ⟨?_, rfl⟩
    rw [HZ.out, u32_of _ _ HS.out, ← u32_xor_nat _ _ (by omega) (by omega)]
    rfl
  · have ht : ((n : Int) % 2 == 1) = false := by simp; omega
    rw [if_neg h] at hs
    have HS := Lib.hid hs
    clear hs h
    go_enter Try.func25, Try.ntmps25
    go_wp2
    go_ret
    refine ⟨?_, rfl⟩
    rw [HZ.out, u32_of _ _ HS.out]
    rfl

set_option maxHeartbeats 400000 in
theorem shift_any (r : BitVec 32) (w : World) : Calls Try.prog 22 #[.int .u32 (u32 r)] w fun e w' => e = .returned (.int .u32 (u32 (CrcP.step r))) ∧ w = w' := by
  obtain ⟨n, hn, hlt, HN⟩ := u32_open r
  rw [hn]
  obtain ⟨z, hz⟩ : ∃ z, z = u32 (CrcP.step r) := ⟨_, rfl⟩
  rw [← hz]
  have HZ := Lib.hid hz
  clear hn hz
  have hs := step_toNat r
  rw [← HN.out] at hs
  have hb : bits .and .u32 (n : Int) 1 = ((n % 2 : Nat) : Int) := by
    have := u32_and_nat n 1 hlt (by omega)
    rw [nat_mask1] at this
    exact this
  by_cases h : n % 2 = 1
  · rw [if_pos h] at hs
    have HS := Lib.hid hs
    rw [h] at hb
    clear hs h
    go_enter Try.func22, Try.ntmps22
    go_wp2
    go_ret
    refine ⟨?_, rfl⟩
    rw [HZ.out, u32_of _ _ HS.out, ← u32_xor_nat _ _ (by omega) (by omega)]
    rfl
  · rw [if_neg h] at hs
    have HS := Lib.hid hs
    have h0 : n % 2 = 0 := by omega
    rw [h0] at hb
    clear hs h h0
    go_enter Try.func22, Try.ntmps22
    go_wp2
    go_ret
    refine ⟨?_, rfl⟩
    show Ending.returned (.int .u32 (bits .xor .u32 ((n / 2 : Nat) : Int) ((bits .and .u32 3988292384 0)))) = _
    rw [HZ.out, u32_of _ _ HS.out, show bits .and .u32 3988292384 0 = ((0 : Nat) : Int) from by decide, u32_xor_nat _ _ (by omega) (by omega), Nat.xor_zero]

theorem unstep_toNat (r : BitVec 32) : (CrcP.unstep r).toNat = if r.toNat / 2147483648 = 1 then (((r.toNat ^^^ 3988292384) * 2 % 4294967296) ||| 1) else r.toNat * 2 % 4294967296 := by
  unfold CrcP.unstep
  have h0 : r.getLsbD 31 = decide (r.toNat / 2147483648 = 1) := by
    rw [BitVec.getLsbD, Nat.testBit_eq_decide_div_mod_eq]
    have := r.isLt
    congr 1
    simp
    omega
  rw [h0]
  by_cases h : r.toNat / 2147483648 = 1
  · simp [h, BitVec.toNat_xor, BitVec.toNat_or, BitVec.toNat_shiftLeft, Nat.shiftLeft_eq, CrcP.poly]
  · simp [h, BitVec.toNat_shiftLeft, Nat.shiftLeft_eq]

set_option maxHeartbeats 400000 in
theorem unshift_any (r : BitVec 32) (w : World) : Calls Try.prog 30 #[.int .u32 (u32 r)] w fun e w' => e = .returned (.int .u32 (u32 (CrcP.unstep r))) ∧ w = w' := by
  obtain ⟨n, hn, hlt, HN⟩ := u32_open r
  rw [hn]
  obtain ⟨z, hz⟩ : ∃ z, z = u32 (CrcP.unstep r) := ⟨_, rfl⟩
  rw [← hz]
  have HZ := Lib.hid hz
  clear hn hz
  have hs := unstep_toNat r
  rw [← HN.out] at hs
  by_cases h : n / 2147483648 = 1
  · have ht : ((n : Int) / 2147483648 == 1) = true := by simp; omega
    rw [if_pos h] at hs
    have HS := Lib.hid hs
    clear hs h
    have hx : n ^^^ 3988292384 < 4294967296 := Nat.xor_lt_two_pow (n := 32) (by omega) (by omega)
    have hx1 := Lib.hid hx
    go_enter Try.func30, Try.ntmps30
    go_wp2
    go_ret
    refine ⟨?_, rfl⟩
    have e1 : bits .xor .u32 (n : Int) 3988292384 = ((n ^^^ 3988292384 : Nat) : Int) := u32_xor_nat n 3988292384 hlt (by omega)
    have e2 : ((n ^^^ 3988292384 : Nat) : Int) * 2 % 4294967296 = (((n ^^^ 3988292384) * 2 % 4294967296 : Nat) : Int) := by simp
    show Ending.returned (.int .u32 (bits .or .u32 (bits .xor .u32 (n : Int) 3988292384 * 2 % 4294967296) 1)) = _
    rw [HZ.out, u32_of _ _ HS.out, e1, e2, ← u32_or_nat _ _ (Nat.mod_lt _ (by omega)) (by omega)]
    rfl
  · have ht : ((n : Int) / 2147483648 == 1) = false := by simp; omega
    rw [if_neg h] at hs
    have HS := Lib.hid hs
    clear hs h
    go_enter Try.func30, Try.ntmps30
    go_wp2
    go_ret
    refine ⟨?_, rfl⟩
    rw [HZ.out, u32_of _ _ HS.out]
    rfl

/-! ### times: a function value that answers a plain function -/
def iter (F : BitVec 32 → BitVec 32) : Nat → BitVec 32 → BitVec 32
  | 0, r => r
  | n + 1, r => F (iter F n r)
theorem iter_step (n : Nat) (r : BitVec 32) : iter CrcP.step n r = CrcP.stepN n r := by
  induction n with
  | zero => rfl
  | succ n ih => rw [iter, ih, CrcP.stepN_succ']
theorem iter_unstep (n : Nat) (r : BitVec 32) : iter CrcP.unstep n r = CrcP.unstepN n r := by
  induction n with
  | zero => rfl
  | succ n ih => rw [iter, ih, CrcP.unstepN_succ']

set_option maxHeartbeats 400000 in
theorem times_shift (r : BitVec 32) (n : Nat) (w : World) (hn : n ≤ 1000000) : Calls Try.prog 21 #[.int .u32 (u32 r), .int .i64 (n : Int), .func (.func 22) #[] #[]] w fun e w' => e = .returned (.int .u32 (u32 (CrcP.stepN n r))) ∧ w = w' := by
  rw [← iter_step]
  go_enter Try.func21, Try.ntmps21
  go_wp2_with fail
  go_loop [0, 8] (fun x i => ∃ k : Nat, k ≤ n ∧ i = .int .i64 (k : Int) ∧ x = .int .u32 (u32 (iter CrcP.step k r))) (fun _ i => n - (intOf i).toNat)
  case atStart => exact ⟨0, Nat.zero_le _, rfl, rfl⟩
  case round =>
    obtain ⟨k, hk, rfl, rfl⟩ := hrel
    by_cases hlt : k < n
    · have HC := Lib.hid (shift_any (iter CrcP.step k r))
      generalize hq : iter CrcP.step k r = q at *
      have HQ := Lib.hid hq
      clear hq
      go_wp2_with fail
      refine (HC.out _).mono ?_
      rintro e w' ⟨rfl, rfl⟩
      go_wp2_with fail
      go_round
      case rel => exact ⟨k + 1, by omega, by go_num, by rw [iter, HQ.out]⟩
      case measure => simp [intOf]; omega
    · have ek : k = n := by omega
      subst ek
      go_wp2_with fail
      go_ret
      exact ⟨rfl, rfl⟩
set_option maxHeartbeats 400000 in
theorem times_unshift (r : BitVec 32) (n : Nat) (w : World) (hn : n ≤ 1000000) : Calls Try.prog 21 #[.int .u32 (u32 r), .int .i64 (n : Int), .func (.func 30) #[] #[]] w fun e w' => e = .returned (.int .u32 (u32 (CrcP.unstepN n r))) ∧ w = w' := by
  rw [← iter_unstep]
  go_enter Try.func21, Try.ntmps21
  go_wp2_with fail
  go_loop [0, 8] (fun x i => ∃ k : Nat, k ≤ n ∧ i = .int .i64 (k : Int) ∧ x = .int .u32 (u32 (iter CrcP.unstep k r))) (fun _ i => n - (intOf i).toNat)
  case atStart => exact ⟨0, Nat.zero_le _, rfl, rfl⟩
  case round =>
    obtain ⟨k, hk, rfl, rfl⟩ := hrel
    by_cases hlt : k < n
    · have HC := Lib.hid (unshift_any (iter CrcP.unstep k r))
      generalize hq : iter CrcP.unstep k r = q at *
      have HQ := Lib.hid hq
      clear hq
      go_wp2_with fail
      refine (HC.out _).mono ?_
      rintro e w' ⟨rfl, rfl⟩
      go_wp2_with fail
      go_round
      case rel => exact ⟨k + 1, by omega, by go_num, by rw [iter, HQ.out]⟩
      case measure => simp [intOf]; omega
    · have ek : k = n := by omega
      subst ek
      go_wp2_with fail
      go_ret
      exact ⟨rfl, rfl⟩
end Go.Proofs.Ytkpdeldegdngaaa
