/-
  The plain layout of an image.
-/
import Derived.Test.YthnognjcbjgkbaaMem
namespace Go.Proofs.Ythnognjcbjgkbaa
set_option linter.unusedVariables false
open Go.RowKit

/-- the next multiple of 16 -/
def al (n : Int) : Int := (n + 15) / 16 * 16
/-- the size of a record -/
def szT : Nat → Int
  | 1 => 56
  | 2 => 24
  | 3 => 24
  | 4 => 48
  | 5 => 8
  | 6 => 8
  | _ => 0
/-- the greatest number of records -/
def limT : Nat → Int
  | 0 => 0
  | 1 => 64
  | 5 => 512
  | _ => 1024
/-- the offset behind k sections -/
def offT (c : Nat → Int) : Nat → Int
  | 0 => 80
  | k + 1 => al (offT c k + c (k + 1) * szT (k + 1))
/-- the first k counts are no greater than the limits -/
def okT (c : Nat → Int) (k : Nat) : Prop := ∀ s, 1 ≤ s → s ≤ k → 0 ≤ c s ∧ c s ≤ limT s

theorem szT_range (s : Nat) : 0 ≤ szT s ∧ szT s ≤ 56 := by
  unfold szT
  split <;> decide
theorem limT_range (s : Nat) : 0 ≤ limT s ∧ limT s ≤ 1024 := by
  unfold limT
  split <;> decide
theorem al_range (n : Int) : n ≤ al n ∧ al n < n + 16 ∧ al n % 16 = 0 := by
  unfold al
  omega
theorem okT.less {c : Nat → Int} {k j : Nat} (h : okT c k) (hj : j ≤ k) : okT c j := fun s h1 h2 => h s h1 (by omega)
theorem okT.zero (c : Nat → Int) : okT c 0 := fun s h1 h2 => by omega
theorem okT.succ {c : Nat → Int} {k : Nat} (h : okT c k) (h0 : 0 ≤ c (k + 1)) (h1 : c (k + 1) ≤ limT (k + 1)) : okT c (k + 1) := by
  intro s a b
  by_cases e : s = k + 1
  · subst e; exact ⟨h0, h1⟩
  · exact h s a (by omega)

theorem prod_range {x y m n : Int} (h0 : 0 ≤ x) (h1 : x ≤ m) (h2 : 0 ≤ y) (h3 : y ≤ n) : 0 ≤ x * y ∧ x * y ≤ m * n :=
  ⟨Int.mul_nonneg h0 h2, Int.mul_le_mul h1 h3 h2 (by omega)⟩

theorem offT_range (c : Nat → Int) : ∀ (k : Nat), okT c k → 80 ≤ offT c k ∧ offT c k ≤ 80 + 57360 * k ∧ offT c k % 16 = 0
  | 0, _ => by simp [offT]
  | k + 1, h => by
    obtain ⟨a, b, d⟩ := offT_range c k (h.less (by omega))
    obtain ⟨h0, h1⟩ := h (k + 1) (by omega) (by omega)
    obtain ⟨z0, z1⟩ := szT_range (k + 1)
    obtain ⟨l0, l1⟩ := limT_range (k + 1)
    obtain ⟨p0, p1⟩ := prod_range h0 (Int.le_trans h1 l1) z0 z1
    obtain ⟨q0, q1, q2⟩ := al_range (offT c k + c (k + 1) * szT (k + 1))
    simp only [offT]
    omega

theorem clear4 (x : BitVec 64) : x &&& ~~~(15#64) = (x >>> 4) <<< 4 := by
  apply BitVec.eq_of_getLsbD_eq
  intro i hi
  have h15 : ∀ j < 64, (15#64).getLsbD j = decide (j < 4) := by decide
  rw [BitVec.getLsbD_and, BitVec.getLsbD_not, BitVec.getLsbD_shiftLeft, BitVec.getLsbD_ushiftRight, h15 i hi]
  by_cases h : i < 4
  · simp [h]
  · simp only [h, hi, decide_true, decide_false, Bool.not_false, Bool.and_true, Bool.true_and]
    congr 1
    omega

/-- the program's way to the next multiple -/
theorem al_bits (n : Int) (h0 : 0 ≤ n) (h1 : n < 9000000000000000000) : bits .andNot .i64 (n + 15) 15 = al n := by
  obtain ⟨m, rfl⟩ : ∃ m : Nat, n = (m : Int) := ⟨n.toNat, by omega⟩
  have e : BitVec.ofInt 64 ((m : Int) + 15) = BitVec.ofNat 64 (m + 15) := by
    rw [show ((m : Int) + 15) = ((m + 15 : Nat) : Int) from by omega, BitVec.ofInt_natCast]
  show IntKind.i64.wrap ((BitVec.ofInt 64 ((m : Int) + 15) &&& ~~~(BitVec.ofInt 64 15)).toNat : Int) = _
  rw [e, show BitVec.ofInt 64 15 = 15#64 from by decide, clear4, BitVec.toNat_shiftLeft, BitVec.toNat_ushiftRight, BitVec.toNat_ofNat, Nat.shiftRight_eq_div_pow, Nat.shiftLeft_eq, Nat.mod_eq_of_lt (a := m + 15) (by omega), Nat.mod_eq_of_lt (by omega)]
  unfold al
  rw [show IntKind.i64.wrap (((m + 15) / 2 ^ 4 * 2 ^ 4 : Nat) : Int) = (((m + 15) / 2 ^ 4 * 2 ^ 4 : Nat) : Int) from by simp [IntKind.wrap, IntKind.bits, IntKind.signed]; omega]
  omega
end Go.Proofs.Ythnognjcbjgkbaa
