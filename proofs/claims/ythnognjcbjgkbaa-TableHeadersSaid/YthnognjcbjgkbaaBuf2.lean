/-
  Contracts of package buf (U8 to U64) and of its reference (Exists, Number).
-/
import Derived.Test.YthnognjcbjgkbaaBuf1
namespace Go.Proofs.Ythnognjcbjgkbaa
set_option linter.unusedVariables false
open Go.RowKit

/-- the number of m bytes at 'a', 0 where there is none -/
def numV (xs : List UInt8) (a m : Int) : Nat := if exB a m xs.length = true then le (part xs a.toNat m.toNat) else 0
theorem numV_no {xs : List UInt8} {a m : Int} (h : exB a m xs.length = false) : numV xs a m = 0 := by unfold numV; rw [if_neg (by simp [h])]
theorem numV_yes {xs : List UInt8} {a m : Int} (h : exB a m xs.length = true) : numV xs a m = le (part xs a.toNat m.toNat) := by unfold numV; rw [if_pos h]
theorem numV_lt (xs : List UInt8) (a m : Int) : numV xs a m < 256 ^ m.toNat := by
  unfold numV
  split
  · have h := le_lt (part xs a.toNat m.toNat)
    have h2 : (256 : Nat) ^ (part xs a.toNat m.toNat).length ≤ 256 ^ m.toNat := Nat.pow_le_pow_right (by omega) (by unfold part; simp; omega)
    omega
  · exact Nat.pow_pos (by omega)

set_option maxRecDepth 20000 in
set_option maxHeartbeats 400000 in
theorem number_u16_any (B : Nat) (A : Option Addr) (c : Nat) (xs : List UInt8) (a m : Int) (w : World) (hR : Rd w B A xs) (hc : xs.length ≤ c) (hn : c ≤ 9223372036854775807)
    (ha : -9223372036854775808 ≤ a ∧ a ≤ 9223372036854775807) (hm : 0 ≤ m ∧ m ≤ 8) :
    Calls Try.prog 55 #[.slice A xs.length c, .int .i64 a, .int .i64 m] w fun e w' =>
      e = .returned (.tuple #[.int .u16 ((numV xs a m % 65536 : Nat) : Int), .bool (exB a m xs.length)]) ∧ w = w' := by
  obtain ⟨n, hn2⟩ : ∃ n, n = numV xs a m % 65536 := ⟨_, rfl⟩
  rw [← hn2]
  cases hx : exB a m xs.length with
  | true =>
    obtain ⟨h1, h2, h3, h4⟩ := exB_iff.1 hx
    obtain ⟨a, rfl⟩ := Int.eq_ofNat_of_zero_le h1
    obtain ⟨m, rfl⟩ := Int.eq_ofNat_of_zero_le h2
    refine number_u16_nat B A c xs a m w hR hc hn (by omega) (by omega) n ?_
    show n = _
    rw [hn2, numV_yes hx]
    rfl
  | false =>
    rw [numV_no hx] at hn2
    subst hn2
    have HX := Lib.hid hx
    clear hx
    obtain ⟨ha1, ha2⟩ := ha
    go_enter Try.func55, Try.ntmps55
    go_wp2_with (first
      | (go_at_call 57; refine (exists_any _ _ _ _ _ _ (by omega) (by omega) (by omega)).mono ?_; rintro e w' ⟨rfl, rfl⟩; rw [HX.out]))
    go_ret2
    exact ⟨rfl, rfl⟩
set_option maxRecDepth 20000 in
set_option maxHeartbeats 400000 in
theorem number_u32_any (B : Nat) (A : Option Addr) (c : Nat) (xs : List UInt8) (a m : Int) (w : World) (hR : Rd w B A xs) (hc : xs.length ≤ c) (hn : c ≤ 9223372036854775807)
    (ha : -9223372036854775808 ≤ a ∧ a ≤ 9223372036854775807) (hm : 0 ≤ m ∧ m ≤ 8) :
    Calls Try.prog 50 #[.slice A xs.length c, .int .i64 a, .int .i64 m] w fun e w' =>
      e = .returned (.tuple #[.int .u32 ((numV xs a m % 4294967296 : Nat) : Int), .bool (exB a m xs.length)]) ∧ w = w' := by
  obtain ⟨n, hn2⟩ : ∃ n, n = numV xs a m % 4294967296 := ⟨_, rfl⟩
  rw [← hn2]
  cases hx : exB a m xs.length with
  | true =>
    obtain ⟨h1, h2, h3, h4⟩ := exB_iff.1 hx
    obtain ⟨a, rfl⟩ := Int.eq_ofNat_of_zero_le h1
    obtain ⟨m, rfl⟩ := Int.eq_ofNat_of_zero_le h2
    refine number_u32_nat B A c xs a m w hR hc hn (by omega) (by omega) n ?_
    show n = _
    rw [hn2, numV_yes hx]
    rfl
  | false =>
    rw [numV_no hx] at hn2
    subst hn2
    have HX := Lib.hid hx
    clear hx
    obtain ⟨ha1, ha2⟩ := ha
    go_enter Try.func50, Try.ntmps50
    go_wp2_with (first
      | (go_at_call 57; refine (exists_any _ _ _ _ _ _ (by omega) (by omega) (by omega)).mono ?_; rintro e w' ⟨rfl, rfl⟩; rw [HX.out]))
    go_ret2
    exact ⟨rfl, rfl⟩
set_option maxRecDepth 20000 in
set_option maxHeartbeats 400000 in
theorem number_u64_any (B : Nat) (A : Option Addr) (c : Nat) (xs : List UInt8) (a m : Int) (w : World) (hR : Rd w B A xs) (hc : xs.length ≤ c) (hn : c ≤ 9223372036854775807)
    (ha : -9223372036854775808 ≤ a ∧ a ≤ 9223372036854775807) (hm : 0 ≤ m ∧ m ≤ 8) :
    Calls Try.prog 49 #[.slice A xs.length c, .int .i64 a, .int .i64 m] w fun e w' =>
      e = .returned (.tuple #[.int .u64 ((numV xs a m % 18446744073709551616 : Nat) : Int), .bool (exB a m xs.length)]) ∧ w = w' := by
  obtain ⟨n, hn2⟩ : ∃ n, n = numV xs a m % 18446744073709551616 := ⟨_, rfl⟩
  rw [← hn2]
  cases hx : exB a m xs.length with
  | true =>
    obtain ⟨h1, h2, h3, h4⟩ := exB_iff.1 hx
    obtain ⟨a, rfl⟩ := Int.eq_ofNat_of_zero_le h1
    obtain ⟨m, rfl⟩ := Int.eq_ofNat_of_zero_le h2
    refine number_u64_nat B A c xs a m w hR hc hn (by omega) (by omega) n ?_
    show n = _
    rw [hn2, numV_yes hx]
    rfl
  | false =>
    rw [numV_no hx] at hn2
    subst hn2
    have HX := Lib.hid hx
    clear hx
    obtain ⟨ha1, ha2⟩ := ha
    go_enter Try.func49, Try.ntmps49
    go_wp2_with (first
      | (go_at_call 57; refine (exists_any _ _ _ _ _ _ (by omega) (by omega) (by omega)).mono ?_; rintro e w' ⟨rfl, rfl⟩; rw [HX.out]))
    go_ret2
    exact ⟨rfl, rfl⟩

theorem U16_any (B : Nat) (A : Option Addr) (c : Nat) (xs : List UInt8) (a : Int) (w : World) (hR : Rd w B A xs) (hc : xs.length ≤ c) (hn : c ≤ 9223372036854775807)
    (ha : -9223372036854775808 ≤ a ∧ a ≤ 9223372036854775807) :
    Calls Try.prog 46 #[.slice A xs.length c, .int .i64 a] w fun e w' =>
      e = .returned (.tuple #[.int .u16 ((numV xs a 2 : Nat) : Int), .bool (exB a 2 xs.length)]) ∧ w = w' := by
  have hl := numV_lt xs a 2
  have hl2 : numV xs a 2 < 256 ^ 2 := hl
  have hv : numV xs a 2 % 65536 = numV xs a 2 := Nat.mod_eq_of_lt (by omega)
  have h0 := number_u16_any B A c xs a 2 w hR hc hn ha (by omega)
  rw [hv] at h0
  have H := Lib.hid h0
  clear h0 hv hl hl2 hR
  go_enter Try.func46, Try.ntmps46
  go_wp2_with fail
  refine H.out.mono ?_
  rintro e w' ⟨rfl, rfl⟩
  go_wp2_with fail
  go_ret2
  exact ⟨rfl, rfl⟩
theorem U32_any (B : Nat) (A : Option Addr) (c : Nat) (xs : List UInt8) (a : Int) (w : World) (hR : Rd w B A xs) (hc : xs.length ≤ c) (hn : c ≤ 9223372036854775807)
    (ha : -9223372036854775808 ≤ a ∧ a ≤ 9223372036854775807) :
    Calls Try.prog 36 #[.slice A xs.length c, .int .i64 a] w fun e w' =>
      e = .returned (.tuple #[.int .u32 ((numV xs a 4 : Nat) : Int), .bool (exB a 4 xs.length)]) ∧ w = w' := by
  have hl := numV_lt xs a 4
  have hl2 : numV xs a 4 < 256 ^ 4 := hl
  have hv : numV xs a 4 % 4294967296 = numV xs a 4 := Nat.mod_eq_of_lt (by omega)
  have h0 := number_u32_any B A c xs a 4 w hR hc hn ha (by omega)
  rw [hv] at h0
  have H := Lib.hid h0
  clear h0 hv hl hl2 hR
  go_enter Try.func36, Try.ntmps36
  go_wp2_with fail
  refine H.out.mono ?_
  rintro e w' ⟨rfl, rfl⟩
  go_wp2_with fail
  go_ret2
  exact ⟨rfl, rfl⟩
theorem U64_any (B : Nat) (A : Option Addr) (c : Nat) (xs : List UInt8) (a : Int) (w : World) (hR : Rd w B A xs) (hc : xs.length ≤ c) (hn : c ≤ 9223372036854775807)
    (ha : -9223372036854775808 ≤ a ∧ a ≤ 9223372036854775807) :
    Calls Try.prog 35 #[.slice A xs.length c, .int .i64 a] w fun e w' =>
      e = .returned (.tuple #[.int .u64 ((numV xs a 8 : Nat) : Int), .bool (exB a 8 xs.length)]) ∧ w = w' := by
  have hl := numV_lt xs a 8
  have hl2 : numV xs a 8 < 256 ^ 8 := hl
  have hv : numV xs a 8 % 18446744073709551616 = numV xs a 8 := Nat.mod_eq_of_lt (by omega)
  have h0 := number_u64_any B A c xs a 8 w hR hc hn ha (by omega)
  rw [hv] at h0
  have H := Lib.hid h0
  clear h0 hv hl hl2 hR
  go_enter Try.func35, Try.ntmps35
  go_wp2_with fail
  refine H.out.mono ?_
  rintro e w' ⟨rfl, rfl⟩
  go_wp2_with fail
  go_ret2
  exact ⟨rfl, rfl⟩

set_option maxRecDepth 20000 in
set_option maxHeartbeats 400000 in
theorem refExists_any (A : Option Addr) (n c : Nat) (a m : Int) (w : World) (hn : n ≤ 9223372036854775807)
    (ha : -9223372036854775808 ≤ a ∧ a ≤ 9223372036854775807) (hm : -9223372036854775808 ≤ m ∧ m ≤ 9223372036854775807) :
    Calls Try.prog 60 #[.slice A n c, .int .i64 a, .int .i64 m] w fun e w' => e = .returned (.bool (exB a m n)) ∧ w = w' := by
  obtain ⟨ha1, ha2⟩ := ha
  obtain ⟨hm1, hm2⟩ := hm
  have E : Hid (∀ b : Bool, (b = true ↔ (0 ≤ a ∧ 0 ≤ m ∧ a ≤ n ∧ m ≤ n - a)) → Ending.returned (.bool b) = .returned (.bool (exB a m n))) := by
    intro b hb
    congr 2
    rw [Bool.eq_iff_iff, hb, exB_iff]
  go_enter Try.func60, Try.ntmps60
  go_wp2
  all_goals
    go_ret
    refine ⟨E.out _ ?_, rfl⟩
    simp only [decide_eq_true_eq, Bool.false_eq_true, false_iff]
    omega

theorem drop_getD (l : List UInt8) (k : Nat) (h : k < l.length) : l.drop k = l.getD k 0 :: l.drop (k + 1) := by
  rw [List.drop_eq_getElem_cons h]
  congr 1
  simp [List.getD, h]

set_option maxRecDepth 20000 in
set_option maxHeartbeats 400000 in
theorem refNumber_nat (B : Nat) (A : Option Addr) (c : Nat) (xs : List UInt8) (a m : Nat) (w : World) (hR : Rd w B A xs) (hc : xs.length ≤ c) (hn : c ≤ 9223372036854775807)
    (hm : m ≤ 8) (hx : a + m ≤ xs.length) (n : Nat) (hn2 : Hid (n = le (part xs a m))) :
    Calls Try.prog 51 #[.slice A xs.length c, .int .i64 (a : Int), .int .i64 (m : Int)] w fun e w' =>
      e = .returned (.tuple #[.int .u64 (n : Int), .bool true]) ∧ w = w' := by
  have HX := Lib.hid (exB_true (a := a) (n := m) (len := xs.length) (by omega))
  have hpl := Lib.hid (part_length (m := m) hx)
  obtain ⟨p, hp⟩ : ∃ p, p = part xs a m := ⟨_, rfl⟩
  rw [← hp] at hpl hn2
  have HP := Lib.hid hp
  clear hp
  go_enter Try.func51, Try.ntmps51
  go_wp2_with (first
    | (go_at_call 60; refine (refExists_any _ _ _ _ _ _ (by omega) (by omega) (by omega)).mono ?_; rintro e w' ⟨rfl, rfl⟩; rw [HX.out]))
  go_loop [8, 9] (fun x i => ∃ j : Nat, j ≤ m ∧ i = .int .i64 ((j : Int) - 1) ∧ x = .int .u64 (le (p.drop j) : Int)) (fun _ i => (intOf i + 1).toNat)
  case atStart => exact ⟨m, Nat.le_refl _, rfl, by rw [List.drop_of_length_le (by rw [hpl.out]; exact Nat.le_refl _)]; rfl⟩
  case round =>
    obtain ⟨j, hj, rfl, rfl⟩ := hrel
    cases j with
    | zero =>
      rw [show ((0 : Nat) : Int) - 1 = -1 from rfl]
      go_wp2
      go_ret2
      exact ⟨by rw [hn2.out]; rfl, rfl⟩
    | succ j =>
      rw [show ((j + 1 : Nat) : Int) - 1 = (j : Int) from by omega]
      obtain ⟨b, off, cn, rfl, hb, hcell, hcn, HC⟩ := hR.byte (k := a + j) (by omega)
      clear hR
      have h1 := le_lt (p.drop (j + 1))
      have hpj : j < p.length := by rw [hpl.out]; omega
      have h2 := Lib.hid (drop_getD p j hpj)
      have h3 : (256 : Nat) ^ (p.drop (j + 1)).length ≤ 256 ^ 7 := Nat.pow_le_pow_right (by omega) (by rw [List.length_drop, hpl.out]; omega)
      clear hpj
      have h4 : le (p.drop (j + 1)) < 72057594037927936 := by omega
      clear h1 h3
      have HE : Hid (cn = (p.getD j 0).toNat) := by
        show _ = _
        rw [HC.out, HP.out]
        unfold part
        rw [getD_take _ _ _ (by omega), getD_drop]
      go_wp2
      go_round
      case rel =>
        refine ⟨j, by omega, by first | rfl | go_num, ?_⟩
        rw [h2.out, le, ← HE.out]
        first | (congr 1; omega) | skip
      case measure => first | (simp [intOf]; done) | (simp [intOf]; omega)

set_option maxRecDepth 20000 in
set_option maxHeartbeats 400000 in
theorem refNumber_any (B : Nat) (A : Option Addr) (c : Nat) (xs : List UInt8) (a m : Int) (w : World) (hR : Rd w B A xs) (hc : xs.length ≤ c) (hn : c ≤ 9223372036854775807)
    (ha : -9223372036854775808 ≤ a ∧ a ≤ 9223372036854775807) (hm : 0 ≤ m ∧ m ≤ 8) :
    Calls Try.prog 51 #[.slice A xs.length c, .int .i64 a, .int .i64 m] w fun e w' =>
      e = .returned (.tuple #[.int .u64 ((numV xs a m : Nat) : Int), .bool (exB a m xs.length)]) ∧ w = w' := by
  obtain ⟨n, hn2⟩ : ∃ n, n = numV xs a m := ⟨_, rfl⟩
  rw [← hn2]
  cases hx : exB a m xs.length with
  | true =>
    obtain ⟨h1, h2, h3, h4⟩ := exB_iff.1 hx
    obtain ⟨a, rfl⟩ := Int.eq_ofNat_of_zero_le h1
    obtain ⟨m, rfl⟩ := Int.eq_ofNat_of_zero_le h2
    refine refNumber_nat B A c xs a m w hR hc hn (by omega) (by omega) n ?_
    show n = _
    rw [hn2, numV_yes hx]
    rfl
  | false =>
    rw [numV_no hx] at hn2
    subst hn2
    have HX := Lib.hid hx
    clear hx
    obtain ⟨ha1, ha2⟩ := ha
    go_enter Try.func51, Try.ntmps51
    go_wp2_with (first
      | (go_at_call 60; refine (refExists_any _ _ _ _ _ _ (by omega) (by omega) (by omega)).mono ?_; rintro e w' ⟨rfl, rfl⟩; rw [HX.out]))
    go_ret2
    exact ⟨rfl, rfl⟩
end Go.Proofs.Ythnognjcbjgkbaa
