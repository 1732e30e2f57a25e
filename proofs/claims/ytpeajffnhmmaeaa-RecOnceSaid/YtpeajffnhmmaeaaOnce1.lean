/-
  Plain law: a record that reads without fault is written back to its bytes.
-/
import Derived.Test.YtpeajffnhmmaeaaRecK
import Derived.Test.YtpeajffnhmmaeaaName9
namespace Go.Proofs.Ytpeajffnhmmaeaa
set_option linter.unusedVariables false
open Go.RowKit

theorem leB_cons (x n : Nat) : leB x (n + 1) = UInt8.ofNat x :: leB (x / 256) n := by
  induction n generalizing x with
  | zero => simp [leB]
  | succ n ih =>
    rw [leB_succ, ih, leB_succ]
    have : x / 2 ^ (8 * (n + 1)) = x / 256 / 2 ^ (8 * n) := by
      rw [show 8 * (n + 1) = 8 + 8 * n by omega, Nat.pow_add, Nat.div_div_eq_div_mul]
    rw [this]
    rfl
theorem leB_le (l : List UInt8) : leB (le l) l.length = l := by
  induction l with
  | nil => rfl
  | cons c l ih =>
    rw [List.length_cons, leB_cons]
    have e : le (c :: l) = c.toNat + 256 * le l := rfl
    have hc : c.toNat < 256 := c.toNat_lt
    rw [e, show (c.toNat + 256 * le l) / 256 = le l by omega, ih]
    congr 1
    apply UInt8.toNat_inj.1
    rw [UInt8.toNat_ofNat']
    omega
theorem partO_length (xs : List UInt8) (a n : Nat) (h : a + n ≤ xs.length) : (part xs a n).length = n := by unfold part; simp; omega
theorem leB_num (xs : List UInt8) (a n : Nat) (p m : Int) (hp : p = a) (hm : m = n) (h : a + n ≤ xs.length) : leB (numV xs p m) n = part xs a n := by
  subst hp; subst hm
  have e : exB (a : Int) (n : Int) xs.length = true := exB_true (by omega)
  rw [numV_yes e, Int.toNat_natCast, Int.toNat_natCast]
  have := leB_le (part xs a n)
  rwa [partO_length xs a n h] at this
theorem nz_zero (p : List UInt8) (h : nzV p < 0) : p = List.replicate p.length 0 := by
  induction p with
  | nil => rfl
  | cons c l ih =>
    unfold nzV at h
    by_cases hc : c = 0
    · rw [if_pos hc] at h
      by_cases hl : nzV l < 0
      · rw [List.length_cons, List.replicate_succ, ← ih hl, hc]
      · rw [if_neg hl] at h; omega
    · rw [if_neg hc] at h; omega
theorem dirty_part (xs : List UInt8) (a n : Nat) (p m : Int) (hp : p = a) (hm : m = n) (h : a + n ≤ xs.length) (hd : ¬ 0 ≤ dirtyV xs p m) : List.replicate n 0 = part xs a n := by
  subst hp; subst hm
  have e : exB (a : Int) (n : Int) xs.length = true := exB_true (by omega)
  unfold dirtyV at hd
  rw [if_pos e, Int.toNat_natCast, Int.toNat_natCast] at hd
  have hn : nzV (part xs a n) < 0 := by
    by_cases hh : nzV (part xs a n) < 0
    · exact hh
    · rw [if_neg hh] at hd; omega
  have := nz_zero _ hn
  rw [partO_length xs a n h] at this
  exact this.symm
theorem part_app (xs : List UInt8) (a n m b : Nat) (hb : a + n = b) : part xs a n ++ part xs b m = part xs a (n + m) := by
  subst hb
  unfold part
  rw [← List.drop_drop, List.take_add]
theorem zero14 {dc z : Int} (h : zeroC dc z = 0) : dc = 0 ∧ ¬ 0 ≤ z := by
  unfold zeroC at h
  split at h
  · omega
  · exact ⟨h, fun hz => by simp_all⟩
theorem mst0 {fc x lim : Int} (h : mstC fc x lim = 0) : fc = 0 ∧ x ≤ lim := by
  unfold mstC wrC at h
  split at h
  · split at h <;> omega
  · exact ⟨h, by omega⟩
theorem nm0 {b : Bool} (h : nmC 0 b = 0) : b = true := by
  cases b
  · simp [nmC, wrC] at h
  · rfl
theorem flt0 {fc dc : Int} (h : fltC fc dc = 0) : fc = 0 ∧ dc = 0 := by
  unfold fltC at h
  split at h
  · rename_i h1; exact ⟨h1, h⟩
  · rename_i h1; exact absurd h h1
theorem name_back (xs : List UInt8) (p q : Int) (a c : Nat) (hp : p = a) (hq : q = c) (ha : a + 1 ≤ xs.length) (hc : c + 30 ≤ xs.length) (h : nameB xs p q = true) :
    vldP (nameS xs p q) ∧ leB (nameS xs p q).size 1 = part xs a 1 ∧ padL (nameS xs p q) = part xs c 30 := by
  have hl : (part xs q.toNat 30).length = 30 := by rw [hq, Int.toNat_natCast]; exact partO_length xs c 30 hc
  have e1 := leB_num xs a 1 p 1 hp rfl ha
  unfold nameB at h
  unfold nameS
  generalize numV xs p 1 = n at *
  have hu : 0 ≤ (n : Int) ∧ (n : Int) ≤ 30 ∧ unpP (part xs q.toNat 30) (n : Int).toNat := by
    by_cases hu : 0 ≤ (n : Int) ∧ (n : Int) ≤ 30 ∧ unpP (part xs q.toNat 30) (n : Int).toNat
    · exact hu
    · rw [(unp_no hu).1] at h; cases h
  rw [(unp_yes hu).2, Int.toNat_natCast]
  rw [Int.toNat_natCast] at hu
  have hpd := (padL_iff hl (by omega)).2 hu.2.2
  refine ⟨hpd.2, ?_, ?_⟩
  · rw [strB_size, List.length_take, hl, Nat.min_eq_left (by omega)]
    exact e1
  · rw [hpd.1, hq, Int.toNat_natCast]
theorem part_take (xs : List UInt8) (n : Nat) : part xs 0 n = xs.take n := by unfold part; simp

theorem back_part (xs : List UInt8) (h : 56 ≤ xs.length) (hc : codePartition xs 0 = 0) :
    ∃ (x : Nat) (s : ByteArray) (p d : Nat), resPartition xs 0 = #[.int .u16 (x : Int), .string s, .int .u64 (p : Int), .int .u64 (d : Int)] ∧ x < 65536 ∧ vldP s ∧ p < 18446744073709551616 ∧ d < 18446744073709551616 ∧ partB x s p d = xs.take 56 := by
  obtain ⟨hF, hD⟩ := flt0 (show fltC _ _ = 0 from hc)
  obtain ⟨hD1, hd2⟩ := zero14 (show zeroC _ _ = 0 from hD)
  obtain ⟨_, hd1⟩ := zero14 (show zeroC _ _ = 0 from hD1)
  have hn := nm0 (show nmC 0 _ = 0 from hF)
  obtain ⟨n1, n2, n3⟩ := name_back xs _ _ 2 4 (by omega) (by omega) (by omega) (by omega) hn
  refine ⟨numV xs ((0 : Nat) : Int) 2, nameS xs (((0 : Nat) : Int) + 2) (((0 : Nat) : Int) + 4), numV xs (((0 : Nat) : Int) + 40) 8, numV xs (((0 : Nat) : Int) + 48) 8, ?_, numV_lt xs _ 2, n1, numV_lt xs _ 8, numV_lt xs _ 8, ?_⟩
  · unfold resPartition
    rw [if_pos ⟨hF, hD⟩]
    rfl
  · unfold partB
    rw [n2, n3, leB_num xs 0 2 _ 2 (by omega) rfl (by omega), leB_num xs 40 8 _ 8 (by omega) rfl (by omega), leB_num xs 48 8 _ 8 (by omega) rfl (by omega), dirty_part xs 3 1 _ _ (by omega) rfl (by omega) hd1, dirty_part xs 34 6 _ _ (by omega) rfl (by omega) hd2]
    rw [part_app xs 0 2 1 2 rfl, part_app xs 0 _ 1 3 rfl, part_app xs 0 _ 30 4 rfl, part_app xs 0 _ 6 34 rfl, part_app xs 0 _ 8 40 rfl, part_app xs 0 _ 8 48 rfl, part_take]
theorem fl_back (n : Nat) (h : n ≤ 3) : flB (bits .and .u8 (n : Int) 1 != 0) (bits .and .u8 (n : Int) 2 != 0) = n := by
  have : n = 0 ∨ n = 1 ∨ n = 2 ∨ n = 3 := by omega
  rcases this with rfl | rfl | rfl | rfl <;> first | rfl | decide | (show (_ : Nat) = _; kernel_rfl)
theorem back_port (xs : List UInt8) (h : 48 ≤ xs.length) (hc : codePort xs 0 = 0) :
    ∃ (x y : Nat) (s : ByteArray) (o q : Bool) (z : Nat), resPort xs 0 = #[.int .u16 (x : Int), .int .u16 (y : Int), .string s, .bool o, .bool q, .int .u32 (z : Int)] ∧ x < 65536 ∧ y < 65536 ∧ vldP s ∧ z < 4294967296 ∧ portB x y s o q z = xs.take 48 := by
  obtain ⟨hF, hD⟩ := flt0 (show fltC _ _ = 0 from hc)
  obtain ⟨hD1, hd2⟩ := zero14 (show zeroC _ _ = 0 from hD)
  obtain ⟨_, hd1⟩ := zero14 (show zeroC _ _ = 0 from hD1)
  obtain ⟨hF1, hm⟩ := mst0 (show mstC _ _ _ = 0 from hF)
  have hn := nm0 (show nmC 0 _ = 0 from hF1)
  obtain ⟨n1, n2, n3⟩ := name_back xs _ _ 4 12 (by omega) (by omega) (by omega) (by omega) hn
  refine ⟨numV xs ((0 : Nat) : Int) 2, numV xs (((0 : Nat) : Int) + 2) 2, nameS xs (((0 : Nat) : Int) + 4) (((0 : Nat) : Int) + 12), bits .and .u8 ((numV xs (((0 : Nat) : Int) + 5) 1 : Nat) : Int) 1 != 0, bits .and .u8 ((numV xs (((0 : Nat) : Int) + 5) 1 : Nat) : Int) 2 != 0, numV xs (((0 : Nat) : Int) + 8) 4, ?_, numV_lt xs _ 2, numV_lt xs _ 2, n1, numV_lt xs _ 4, ?_⟩
  · unfold resPort
    rw [if_pos ⟨hF, hD⟩]
    rfl
  · unfold portB
    rw [fl_back _ (by omega), n2, n3, leB_num xs 0 2 _ 2 (by omega) rfl (by omega), leB_num xs 2 2 _ 2 (by omega) rfl (by omega), leB_num xs 5 1 _ 1 (by omega) rfl (by omega), leB_num xs 8 4 _ 4 (by omega) rfl (by omega), dirty_part xs 6 2 _ _ (by omega) rfl (by omega) hd1, dirty_part xs 42 6 _ _ (by omega) rfl (by omega) hd2]
    rw [part_app xs 0 2 2 2 rfl, part_app xs 0 _ 1 4 rfl, part_app xs 0 _ 1 5 rfl, part_app xs 0 _ 2 6 rfl, part_app xs 0 _ 4 8 rfl, part_app xs 0 _ 30 12 rfl, part_app xs 0 _ 6 42 rfl, part_take]
theorem bit_back (n : Nat) (h : n ≤ 1) : (if ((n : Int) == 1) then 1 else 0) = n := by
  have : n = 0 ∨ n = 1 := by omega
  rcases this with rfl | rfl <;> rfl
theorem back_reg (xs : List UInt8) (h : 24 ≤ xs.length) (hc : codeRegion xs 0 = 0) :
    ∃ (x y z t : Nat) (b : Bool), resRegion xs 0 = #[.int .u64 (x : Int), .int .u64 (y : Int), .int .u16 (z : Int), .int .u8 (t : Int), .bool b] ∧ x < 18446744073709551616 ∧ y < 18446744073709551616 ∧ z < 65536 ∧ t < 256 ∧ regB x y z t b = xs.take 24 := by
  obtain ⟨hF, hD⟩ := flt0 (show fltC _ _ = 0 from hc)
  obtain ⟨_, hd1⟩ := zero14 (show zeroC _ _ = 0 from hD)
  obtain ⟨hF1, hm2⟩ := mst0 (show mstC _ _ _ = 0 from hF)
  refine ⟨numV xs ((0 : Nat) : Int) 8, numV xs (((0 : Nat) : Int) + 8) 8, numV xs (((0 : Nat) : Int) + 16) 2, numV xs (((0 : Nat) : Int) + 18) 1, ((numV xs (((0 : Nat) : Int) + 19) 1 : Nat) : Int) == 1, ?_, numV_lt xs _ 8, numV_lt xs _ 8, numV_lt xs _ 2, numV_lt xs _ 1, ?_⟩
  · unfold resRegion
    rw [if_pos ⟨hF, hD⟩]
    rfl
  · unfold regB
    rw [bit_back _ (by omega), leB_num xs 0 8 _ 8 (by omega) rfl (by omega), leB_num xs 8 8 _ 8 (by omega) rfl (by omega), leB_num xs 16 2 _ 2 (by omega) rfl (by omega), leB_num xs 18 1 _ 1 (by omega) rfl (by omega), leB_num xs 19 1 _ 1 (by omega) rfl (by omega), dirty_part xs 20 4 _ _ (by omega) rfl (by omega) hd1]
    rw [part_app xs 0 8 8 8 rfl, part_app xs 0 _ 2 16 rfl, part_app xs 0 _ 1 18 rfl, part_app xs 0 _ 1 19 rfl, part_app xs 0 _ 4 20 rfl, part_take]
end Go.Proofs.Ytpeajffnhmmaeaa
