/-
  Contracts of package buf: exists, number, U8 to U64.
-/
import Derived.Test.YthnognjcbjgkbaaChecked
import Derived.Test.YthnognjcbjgkbaaMem
import Derived.WalkLawsBesides
import Derived.Lib.Hide
namespace Go.Proofs.Ythnognjcbjgkbaa
set_option linter.unusedVariables false
open Go.RowKit

/-- a part of n bytes at 'at' exists among len bytes -/
def exB (at_ n : Int) (len : Nat) : Bool := decide (0 ≤ at_ ∧ 0 ≤ n ∧ at_ ≤ len ∧ n ≤ len - at_)
theorem exB_true {a n : Int} {len : Nat} (h : 0 ≤ a ∧ 0 ≤ n ∧ a ≤ len ∧ n ≤ len - a) : exB a n len = true := by unfold exB; simp [h]
theorem exB_false {a n : Int} {len : Nat} (h : ¬ (0 ≤ a ∧ 0 ≤ n ∧ a ≤ len ∧ n ≤ len - a)) : exB a n len = false := by unfold exB; simp only [h, decide_false]
theorem exB_iff {a n : Int} {len : Nat} : exB a n len = true ↔ (0 ≤ a ∧ 0 ≤ n ∧ a ≤ len ∧ n ≤ len - a) := by unfold exB; simp

set_option maxRecDepth 20000 in
set_option maxHeartbeats 400000 in
theorem exists_any (A : Option Addr) (n c : Nat) (a m : Int) (w : World) (hn : n ≤ 9223372036854775807)
    (ha : -9223372036854775808 ≤ a ∧ a ≤ 9223372036854775807) (hm : -9223372036854775808 ≤ m ∧ m ≤ 9223372036854775807) :
    Calls Try.prog 57 #[.slice A n c, .int .i64 a, .int .i64 m] w fun e w' => e = .returned (.bool (exB a m n)) ∧ w = w' := by
  obtain ⟨ha1, ha2⟩ := ha
  obtain ⟨hm1, hm2⟩ := hm
  have E : Hid (∀ b : Bool, (b = true ↔ (0 ≤ a ∧ 0 ≤ m ∧ a ≤ n ∧ m ≤ n - a)) → Ending.returned (.bool b) = .returned (.bool (exB a m n))) := by
    intro b hb
    congr 2
    rw [Bool.eq_iff_iff, hb, exB_iff]
  go_enter Try.func57, Try.ntmps57
  go_wp2
  all_goals
    go_ret
    refine ⟨E.out _ ?_, rfl⟩
    simp only [decide_eq_true_eq, Bool.false_eq_true, false_iff]
    omega

/-- the number in little-endian bytes -/
def le : List UInt8 → Nat
  | [] => 0
  | c :: l => c.toNat + 256 * le l
theorem le_lt (l : List UInt8) : le l < 256 ^ l.length := by
  induction l with
  | nil => simp [le]
  | cons c l ih =>
    rw [le, List.length_cons, Nat.pow_succ]
    have := UInt8.toNat_lt c
    omega
theorem le_append (l : List UInt8) (c : UInt8) : le (l ++ [c]) = le l + c.toNat * 256 ^ l.length := by
  induction l with
  | nil => simp [le]
  | cons d l ih =>
    rw [List.cons_append, le, ih, le, List.length_cons, Nat.pow_succ, Nat.mul_add, Nat.add_assoc]
    congr 2
    rw [Nat.mul_comm 256 (c.toNat * _), Nat.mul_assoc]
theorem take_succ_getD (l : List UInt8) (k : Nat) (h : k < l.length) : l.take (k + 1) = l.take k ++ [l.getD k 0] := by
  rw [List.take_succ_eq_append_getElem h]
  congr 2
  simp [List.getD, h]
/-- the part of m bytes at 'a' -/
def part (xs : List UInt8) (a m : Nat) : List UInt8 := (xs.drop a).take m
theorem part_length {xs : List UInt8} {a m : Nat} (h : a + m ≤ xs.length) : (part xs a m).length = m := by unfold part; simp; omega

theorem or_step (X cn k : Nat) (hX : X < 256 ^ k) (hc : cn < 256) (hk : k < 8) :
    bits .or .u64 (X : Int) (IntKind.u64.wrap ((cn : Int) * 2 ^ (8 * k))) = ((X + cn * 256 ^ k : Nat) : Int) := by
  have e : (256 : Nat) ^ k = 2 ^ (8 * k) := by rw [Nat.pow_mul]
  have h8 : (256 : Nat) ^ (k + 1) ≤ 256 ^ 8 := Nat.pow_le_pow_right (by omega) (by omega)
  have h9 : cn * 256 ^ k < 256 ^ (k + 1) := by rw [Nat.pow_succ, Nat.mul_comm]; exact (Nat.mul_lt_mul_left (Nat.pow_pos (by omega))).2 hc
  have h10 : (256 : Nat) ^ k < 256 ^ (k + 1) := Nat.pow_lt_pow_right (by omega) (by omega)
  have ec : ((cn : Int) * 2 ^ (8 * k)) = ((cn * 2 ^ (8 * k) : Nat) : Int) := by simp
  rw [e] at hX h9 h10 ⊢
  have hw : IntKind.u64.wrap ((cn * 2 ^ (8 * k) : Nat) : Int) = ((cn * 2 ^ (8 * k) : Nat) : Int) := by
    rw [show IntKind.u64.wrap ((cn * 2 ^ (8 * k) : Nat) : Int) = ((cn * 2 ^ (8 * k) : Nat) : Int) % 18446744073709551616 from by simp [IntKind.wrap, IntKind.bits, IntKind.signed]]
    exact Int.emod_eq_of_lt (by omega) (by omega)
  rw [ec, hw, u64_or_nat _ _ (by omega) (by omega), Nat.or_comm, nat_join (8 * k) _ _ (Nat.mul_mod_left _ _) hX, Nat.add_comm]

set_option maxRecDepth 20000 in
set_option maxHeartbeats 400000 in
theorem number_u16_nat (B : Nat) (A : Option Addr) (c : Nat) (xs : List UInt8) (a m : Nat) (w : World) (hR : Rd w B A xs) (hc : xs.length ≤ c) (hn : c ≤ 9223372036854775807)
    (hm : m ≤ 8) (hx : a + m ≤ xs.length) (n : Nat) (hn2 : Hid (n = le (part xs a m) % 65536)) :
    Calls Try.prog 55 #[.slice A xs.length c, .int .i64 (a : Int), .int .i64 (m : Int)] w fun e w' =>
      e = .returned (.tuple #[.int .u16 (n : Int), .bool true]) ∧ w = w' := by
  have HX := Lib.hid (exB_true (a := a) (n := m) (len := xs.length) (by omega))
  have hpl := Lib.hid (part_length (m := m) hx)
  obtain ⟨p, hp⟩ : ∃ p, p = part xs a m := ⟨_, rfl⟩
  rw [← hp] at hpl hn2
  have HP := Lib.hid hp
  clear hp
  go_enter Try.func55, Try.ntmps55
  go_wp2_with (first
    | (go_at_call 57; refine (exists_any _ _ _ _ _ _ (by omega) (by omega) (by omega)).mono ?_; rintro e w' ⟨rfl, rfl⟩; rw [HX.out])
    | (refine wpList_cut rfl (.tmp 16) (.tmp 17) (.tmp 20) 50 rfl rfl (by kernel_rfl) A xs.length c a (a + m) rfl rfl rfl (by omega) hx hc B xs rfl hR ?_; intro A' hA'))
  have hA2 : Rd w B A' p := by
    rw [HP.out]; unfold part; rw [show a + m - a = m by omega] at hA'; exact hA'
  clear hA' hR
  go_loop [8, 23] (fun x i => ∃ k : Nat, k ≤ m ∧ i = .int .i64 (k : Int) ∧ x = .int .u64 (le (p.take k) : Int)) (fun _ i => m - (intOf i).toNat)
  case atStart => exact ⟨0, Nat.zero_le _, rfl, rfl⟩
  case round =>
    obtain ⟨k, hk, rfl, rfl⟩ := hrel
    by_cases hlt : k < m
    · obtain ⟨b, off, cn, rfl, hb, hcell, hcn, HC⟩ := hA2.byte (k := k) (by rw [hpl.out]; exact hlt)
      clear hA2
      go_wp2
      go_round
      case rel =>
        refine ⟨k + 1, by omega, by go_num, ?_⟩
        have hkl : k < p.length := by rw [hpl.out]; exact hlt
        have h1 := le_lt (p.take k)
        have h2 := le_append (p.take k) (p.getD k 0)
        rw [← take_succ_getD p k hkl] at h2
        rw [show (p.take k).length = k by simp; omega] at h1 h2
        rw [or_step _ _ _ h1 hcn (by omega), h2, HC.out]
      case measure => simp [intOf]; omega
    · have ek : k = m := by omega
      have EK := Lib.hid ek
      clear ek
      go_wp2
      go_ret2
      refine ⟨?_, rfl⟩
      have hlt2 : le p < 18446744073709551616 := by
        have h1 := le_lt p
        have h2 : (256 : Nat) ^ p.length ≤ 256 ^ 8 := Nat.pow_le_pow_right (by omega) (by rw [hpl.out]; exact hm)
        omega
      rw [EK.out, List.take_of_length_le (by rw [hpl.out]; exact Nat.le_refl _), hn2.out]
      first | rfl | (rw [Nat.mod_eq_of_lt hlt2]; rfl)
set_option maxRecDepth 20000 in
set_option maxHeartbeats 400000 in
theorem number_u32_nat (B : Nat) (A : Option Addr) (c : Nat) (xs : List UInt8) (a m : Nat) (w : World) (hR : Rd w B A xs) (hc : xs.length ≤ c) (hn : c ≤ 9223372036854775807)
    (hm : m ≤ 8) (hx : a + m ≤ xs.length) (n : Nat) (hn2 : Hid (n = le (part xs a m) % 4294967296)) :
    Calls Try.prog 50 #[.slice A xs.length c, .int .i64 (a : Int), .int .i64 (m : Int)] w fun e w' =>
      e = .returned (.tuple #[.int .u32 (n : Int), .bool true]) ∧ w = w' := by
  have HX := Lib.hid (exB_true (a := a) (n := m) (len := xs.length) (by omega))
  have hpl := Lib.hid (part_length (m := m) hx)
  obtain ⟨p, hp⟩ : ∃ p, p = part xs a m := ⟨_, rfl⟩
  rw [← hp] at hpl hn2
  have HP := Lib.hid hp
  clear hp
  go_enter Try.func50, Try.ntmps50
  go_wp2_with (first
    | (go_at_call 57; refine (exists_any _ _ _ _ _ _ (by omega) (by omega) (by omega)).mono ?_; rintro e w' ⟨rfl, rfl⟩; rw [HX.out])
    | (refine wpList_cut rfl (.tmp 16) (.tmp 17) (.tmp 20) 50 rfl rfl (by kernel_rfl) A xs.length c a (a + m) rfl rfl rfl (by omega) hx hc B xs rfl hR ?_; intro A' hA'))
  have hA2 : Rd w B A' p := by
    rw [HP.out]; unfold part; rw [show a + m - a = m by omega] at hA'; exact hA'
  clear hA' hR
  go_loop [8, 23] (fun x i => ∃ k : Nat, k ≤ m ∧ i = .int .i64 (k : Int) ∧ x = .int .u64 (le (p.take k) : Int)) (fun _ i => m - (intOf i).toNat)
  case atStart => exact ⟨0, Nat.zero_le _, rfl, rfl⟩
  case round =>
    obtain ⟨k, hk, rfl, rfl⟩ := hrel
    by_cases hlt : k < m
    · obtain ⟨b, off, cn, rfl, hb, hcell, hcn, HC⟩ := hA2.byte (k := k) (by rw [hpl.out]; exact hlt)
      clear hA2
      go_wp2
      go_round
      case rel =>
        refine ⟨k + 1, by omega, by go_num, ?_⟩
        have hkl : k < p.length := by rw [hpl.out]; exact hlt
        have h1 := le_lt (p.take k)
        have h2 := le_append (p.take k) (p.getD k 0)
        rw [← take_succ_getD p k hkl] at h2
        rw [show (p.take k).length = k by simp; omega] at h1 h2
        rw [or_step _ _ _ h1 hcn (by omega), h2, HC.out]
      case measure => simp [intOf]; omega
    · have ek : k = m := by omega
      have EK := Lib.hid ek
      clear ek
      go_wp2
      go_ret2
      refine ⟨?_, rfl⟩
      have hlt2 : le p < 18446744073709551616 := by
        have h1 := le_lt p
        have h2 : (256 : Nat) ^ p.length ≤ 256 ^ 8 := Nat.pow_le_pow_right (by omega) (by rw [hpl.out]; exact hm)
        omega
      rw [EK.out, List.take_of_length_le (by rw [hpl.out]; exact Nat.le_refl _), hn2.out]
      first | rfl | (rw [Nat.mod_eq_of_lt hlt2]; rfl)
set_option maxRecDepth 20000 in
set_option maxHeartbeats 400000 in
theorem number_u64_nat (B : Nat) (A : Option Addr) (c : Nat) (xs : List UInt8) (a m : Nat) (w : World) (hR : Rd w B A xs) (hc : xs.length ≤ c) (hn : c ≤ 9223372036854775807)
    (hm : m ≤ 8) (hx : a + m ≤ xs.length) (n : Nat) (hn2 : Hid (n = le (part xs a m) % 18446744073709551616)) :
    Calls Try.prog 49 #[.slice A xs.length c, .int .i64 (a : Int), .int .i64 (m : Int)] w fun e w' =>
      e = .returned (.tuple #[.int .u64 (n : Int), .bool true]) ∧ w = w' := by
  have HX := Lib.hid (exB_true (a := a) (n := m) (len := xs.length) (by omega))
  have hpl := Lib.hid (part_length (m := m) hx)
  obtain ⟨p, hp⟩ : ∃ p, p = part xs a m := ⟨_, rfl⟩
  rw [← hp] at hpl hn2
  have HP := Lib.hid hp
  clear hp
  go_enter Try.func49, Try.ntmps49
  go_wp2_with (first
    | (go_at_call 57; refine (exists_any _ _ _ _ _ _ (by omega) (by omega) (by omega)).mono ?_; rintro e w' ⟨rfl, rfl⟩; rw [HX.out])
    | (refine wpList_cut rfl (.tmp 16) (.tmp 17) (.tmp 20) 50 rfl rfl (by kernel_rfl) A xs.length c a (a + m) rfl rfl rfl (by omega) hx hc B xs rfl hR ?_; intro A' hA'))
  have hA2 : Rd w B A' p := by
    rw [HP.out]; unfold part; rw [show a + m - a = m by omega] at hA'; exact hA'
  clear hA' hR
  go_loop [8, 23] (fun x i => ∃ k : Nat, k ≤ m ∧ i = .int .i64 (k : Int) ∧ x = .int .u64 (le (p.take k) : Int)) (fun _ i => m - (intOf i).toNat)
  case atStart => exact ⟨0, Nat.zero_le _, rfl, rfl⟩
  case round =>
    obtain ⟨k, hk, rfl, rfl⟩ := hrel
    by_cases hlt : k < m
    · obtain ⟨b, off, cn, rfl, hb, hcell, hcn, HC⟩ := hA2.byte (k := k) (by rw [hpl.out]; exact hlt)
      clear hA2
      go_wp2
      go_round
      case rel =>
        refine ⟨k + 1, by omega, by go_num, ?_⟩
        have hkl : k < p.length := by rw [hpl.out]; exact hlt
        have h1 := le_lt (p.take k)
        have h2 := le_append (p.take k) (p.getD k 0)
        rw [← take_succ_getD p k hkl] at h2
        rw [show (p.take k).length = k by simp; omega] at h1 h2
        rw [or_step _ _ _ h1 hcn (by omega), h2, HC.out]
      case measure => simp [intOf]; omega
    · have ek : k = m := by omega
      have EK := Lib.hid ek
      clear ek
      go_wp2
      go_ret2
      refine ⟨?_, rfl⟩
      have hlt2 : le p < 18446744073709551616 := by
        have h1 := le_lt p
        have h2 : (256 : Nat) ^ p.length ≤ 256 ^ 8 := Nat.pow_le_pow_right (by omega) (by rw [hpl.out]; exact hm)
        omega
      rw [EK.out, List.take_of_length_le (by rw [hpl.out]; exact Nat.le_refl _), hn2.out]
      first | rfl | (rw [Nat.mod_eq_of_lt hlt2]; rfl)
end Go.Proofs.Ythnognjcbjgkbaa
