/-
  Contracts of package crc: multiply, Join.
-/
import Derived.Test.YtkpdeldegdngaaaCrc2
namespace Go.Proofs.Ytkpdeldegdngaaa
set_option linter.unusedVariables false
open Go.RowKit

/-- the bit above the k lowest ones, alone; 0 where k is 0 -/
def bitN : Nat → Nat
  | 0 => 0
  | k + 1 => 2 ^ k
theorem bitN_half (k : Nat) : bitN (k + 1) / 2 = bitN k := by
  cases k with
  | zero => rfl
  | succ k => simp only [bitN, Nat.pow_succ]; omega
theorem and_bit (a : BitVec 32) (k : Nat) (hk : k < 32) : bits .and .u32 (u32 a) ((2 ^ k : Nat) : Int) = if a.getLsbD k = true then ((2 ^ k : Nat) : Int) else 0 := by
  have hp : (2 : Nat) ^ k < 4294967296 := Nat.pow_lt_pow_right (a := 2) (m := k) (n := 32) (by omega) hk
  unfold u32
  rw [u32_and_nat _ _ a.isLt hp, nat_bit]
  rw [BitVec.getLsbD, Nat.testBit_eq_decide_div_mod_eq]
  by_cases h : a.toNat / 2 ^ k % 2 = 1
  · simp [h]
  · have h0 : a.toNat / 2 ^ k % 2 = 0 := by omega
    simp [h0]

set_option maxHeartbeats 800000 in
theorem multiply_any (a b : BitVec 32) (w : World) : Calls Try.prog 28 #[.int .u32 (u32 a), .int .u32 (u32 b)] w fun e w' => e = .returned (.int .u32 (u32 (CrcP.mul a b))) ∧ w = w' := by
  have H0 : Hid (u32 0#32 = 0) := by show _ = _; decide
  go_enter Try.func28, Try.ntmps28
  go_wp2_with fail
  go_loop [1, 5, 6] (fun vb vo vt => ∃ (k : Nat) (bb oo : BitVec 32), k ≤ 32 ∧ vt = .int .u32 (bitN k : Int) ∧ vb = .int .u32 (u32 bb) ∧ vo = .int .u32 (u32 oo) ∧ Hid (CrcP.mulFrom a k bb oo = CrcP.mul a b)) (fun _ _ t => (intOf t).toNat)
  case atStart => exact ⟨32, b, 0#32, Nat.le_refl _, by rfl, rfl, by rw [H0.out], rfl⟩
  case round =>
    obtain ⟨k, bb, oo, hk, rfl, rfl, rfl, HM⟩ := hrel
    cases k with
    | zero =>
      rw [show ((bitN 0 : Nat) : Int) = 0 from rfl]
      go_wp2
      go_ret
      exact ⟨by rw [← HM.out]; rfl, rfl⟩
    | succ k =>
      have hb : bits .and .u32 (u32 a) ((2 ^ k : Nat) : Int) = if a.getLsbD k = true then ((2 ^ k : Nat) : Int) else 0 := and_bit a k (by omega)
      have hh := Lib.hid (bitN_half k)
      rw [show bitN (k + 1) = 2 ^ k from rfl]
      have hp : (2 : Nat) ^ k < 4294967296 := Nat.pow_lt_pow_right (a := 2) (m := k) (n := 32) (by omega) (by omega)
      have hp0 : 0 < (2 : Nat) ^ k := Nat.pow_pos (by omega)
      obtain ⟨p, hpe⟩ : ∃ p, p = (2 : Nat) ^ k := ⟨_, rfl⟩
      have HPE := Lib.hid hpe
      have HH : Hid (p / 2 = bitN k) := by show _ = _; rw [hpe]; exact hh.out
      rw [← hpe] at hb hp hp0 ⊢
      have hne : ((p : Int) != 0) = true := by simp; omega
      clear hpe hh
      by_cases hbit : a.getLsbD k = true
      · rw [if_pos hbit] at hb
        have HN : Hid (CrcP.mulFrom a k (CrcP.step bb) (oo ^^^ bb) = CrcP.mul a b) := by
          show _ = _
          rw [← HM.out, CrcP.mulFrom, if_pos hbit]
        have HX := Lib.hid (u32_xor_bv oo bb)
        clear hbit
        go_wp2_with fail
        refine (shift_any bb _).mono ?_
        rintro e w' ⟨rfl, rfl⟩
        go_wp2_with fail
        go_round
        case rel => exact ⟨k, _, _, by omega, by rw [← HH.out]; rfl, rfl, by rw [HX.out], HN.out⟩
        case measure => simp [intOf]; omega
      · rw [if_neg hbit] at hb
        have HN : Hid (CrcP.mulFrom a k (CrcP.step bb) oo = CrcP.mul a b) := by
          show _ = _
          rw [← HM.out, CrcP.mulFrom, if_neg hbit]
        clear hbit
        go_wp2_with fail
        refine (shift_any bb _).mono ?_
        rintro e w' ⟨rfl, rfl⟩
        go_wp2_with fail
        go_round
        case rel => exact ⟨k, _, _, by omega, by rw [← HH.out]; rfl, rfl, rfl, HN.out⟩
        case measure => simp [intOf]; omega

theorem and_one_i64 (m : Nat) (hm : m < 9223372036854775808) : bits .and .i64 (m : Int) 1 = ((m % 2 : Nat) : Int) := by
  show IntKind.i64.wrap ((BitVec.ofInt 64 (m : Int) &&& BitVec.ofInt 64 1).toNat : Int) = _
  rw [BitVec.toNat_and, show (BitVec.ofInt 64 1).toNat = 1 from rfl, BitVec.ofInt_natCast, BitVec.toNat_ofNat, Nat.mod_eq_of_lt (by omega), nat_mask1, IntKind.wrap_i64]
  omega

set_option maxHeartbeats 800000 in
theorem Join_any (a b : BitVec 32) (n : Nat) (w : World) (hn : n ≤ 1000000) : Calls Try.prog 19 #[.int .u32 (u32 a), .int .u32 (u32 b), .int .i64 (n : Int)] w fun e w' => e = .returned (.int .u32 (u32 (CrcP.stepN (8 * n) a ^^^ b))) ∧ w = w' := by
  have hU : u32 CrcP.unit = 2147483648 := by decide
  have HT := times_shift CrcP.unit 8
  rw [hU] at HT
  have HT2 := Lib.hid HT
  have HU := Lib.hid hU
  clear HT hU
  go_enter Try.func19, Try.ntmps19
  go_wp2_with fail
  refine (HT2.out w (by omega)).mono ?_
  rintro e w' ⟨rfl, rfl⟩
  go_wp2_with fail
  go_loop [2, 7, 8] (fun vn vp vs => ∃ (m p s : Nat), m ≤ n ∧ vn = .int .i64 (m : Int) ∧ vp = .int .u32 (u32 (CrcP.stepN (8 * p) CrcP.unit)) ∧ vs = .int .u32 (u32 (CrcP.stepN (8 * s) CrcP.unit)) ∧ Hid (p + s * m = n)) (fun v _ _ => (intOf v).toNat)
  case atStart => exact ⟨n, 0, 1, Nat.le_refl _, rfl, by rw [Nat.mul_zero]; show _ = Value.int .u32 (u32 CrcP.unit); rw [HU.out], rfl, by show _ = _; omega⟩
  case round =>
    obtain ⟨m, p, s, hm, rfl, rfl, rfl, HP⟩ := hrel
    by_cases h0 : m = 0
    · subst h0
      have HF : Hid (p = n) := by have := HP.out; show _ = _; omega
      have HR : Hid (u32 (CrcP.stepN (8 * n) a ^^^ b) = bits .xor .u32 (u32 (CrcP.mul a (CrcP.stepN (8 * p) CrcP.unit))) (u32 b)) := by
        show _ = _
        rw [HF.out, CrcP.mul_stepN, u32_xor_bv]
      go_wp2_with fail
      refine (multiply_any a (CrcP.stepN (8 * p) CrcP.unit) _).mono ?_
      rintro e w' ⟨rfl, rfl⟩
      go_wp2_with fail
      go_ret
      exact ⟨by rw [HR.out]; rfl, rfl⟩
    · have hpos : (0 : Int) < (m : Int) := by omega
      have hb := and_one_i64 m (by omega)
      have HS : Hid (CrcP.mul (CrcP.stepN (8 * s) CrcP.unit) (CrcP.stepN (8 * s) CrcP.unit) = CrcP.stepN (8 * (2 * s)) CrcP.unit) := by
        show _ = _; rw [CrcP.mul_pows]; congr 1; omega
      by_cases hodd : m % 2 = 1
      · rw [hodd] at hb
        have HN : Hid ((p + s) + (2 * s) * (m / 2) = n) := by
          show _ = _
          rw [← HP.out]
          obtain ⟨q, rfl⟩ : ∃ q, m = 2 * q + 1 := ⟨m / 2, by omega⟩
          rw [show (2 * q + 1) / 2 = q by omega, Nat.mul_add, Nat.mul_one, Nat.mul_comm 2 s, Nat.mul_assoc]
          omega
        have HQ : Hid (CrcP.mul (CrcP.stepN (8 * p) CrcP.unit) (CrcP.stepN (8 * s) CrcP.unit) = CrcP.stepN (8 * (p + s)) CrcP.unit) := by
          show _ = _; rw [CrcP.mul_pows]; congr 1; omega
        clear hodd h0
        go_wp2_with fail
        refine (multiply_any (CrcP.stepN (8 * p) CrcP.unit) (CrcP.stepN (8 * s) CrcP.unit) _).mono ?_
        rintro e w' ⟨rfl, rfl⟩
        go_wp2_with fail
        refine (multiply_any (CrcP.stepN (8 * s) CrcP.unit) (CrcP.stepN (8 * s) CrcP.unit) _).mono ?_
        rintro e w' ⟨rfl, rfl⟩
        go_wp2_with fail
        go_round
        case rel => exact ⟨m / 2, p + s, 2 * s, by omega, by first | rfl | go_num, by rw [HQ.out], by rw [HS.out], HN.out⟩
        case measure => simp [intOf]; omega
      · have he : m % 2 = 0 := by omega
        rw [he] at hb
        have HN : Hid (p + (2 * s) * (m / 2) = n) := by
          show _ = _
          rw [← HP.out]
          obtain ⟨q, rfl⟩ : ∃ q, m = 2 * q := ⟨m / 2, by omega⟩
          rw [show (2 * q) / 2 = q by omega, Nat.mul_comm 2 s, Nat.mul_assoc]
        clear hodd h0 he
        go_wp2_with fail
        refine (multiply_any (CrcP.stepN (8 * s) CrcP.unit) (CrcP.stepN (8 * s) CrcP.unit) _).mono ?_
        rintro e w' ⟨rfl, rfl⟩
        go_wp2_with fail
        go_round
        case rel => exact ⟨m / 2, p, 2 * s, by omega, by first | rfl | go_num, rfl, by rw [HS.out], HN.out⟩
        case measure => simp [intOf]; omega

theorem Join_neg (a b n : Int) (w : World) (hn : n < 0) : Calls Try.prog 19 #[.int .u32 a, .int .u32 b, .int .i64 n] w fun e w' => e = .returned (.int .u32 0) ∧ w = w' := by
  go_enter Try.func19, Try.ntmps19
  go_wp2_with fail
  go_ret
  exact ⟨rfl, rfl⟩
end Go.Proofs.Ytkpdeldegdngaaa
