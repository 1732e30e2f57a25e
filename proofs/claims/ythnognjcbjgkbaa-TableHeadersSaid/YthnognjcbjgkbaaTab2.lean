/-
  The plain search for the record that has a byte of an image.
-/
import Derived.Test.YthnognjcbjgkbaaTab1
namespace Go.Proofs.Ythnognjcbjgkbaa
set_option linter.unusedVariables false
open Go.RowKit

/-- section s has byte p -/
def inT (c : Nat → Int) (p : Int) (s : Nat) : Prop := offT c (s - 1) ≤ p ∧ p < offT c (s - 1) + c s * szT s
instance (c : Nat → Int) (p : Int) (s : Nat) : Decidable (inT c p s) := by unfold inT; infer_instance
/-- the first section of a list that has byte p -/
def secGo (c : Nat → Int) (p : Int) : List Nat → Int × Int
  | [] => (-1, -1)
  | s :: r => if inT c p s then ((s : Int), (p - offT c (s - 1)).tdiv (szT s)) else secGo c p r
/-- the sections behind the first k ones -/
def secsFrom (k : Nat) : List Nat := List.range' (k + 1) (6 - k)
def totT (c : Nat → Int) : Int := offT c 6 + 4
def secT (c : Nat → Int) (p : Int) : Int × Int :=
  if p < 0 ∨ totT c ≤ p then (-2, -2) else if p < 80 then (0, 0) else if totT c - 4 ≤ p then (7, 0) else secGo c p (secsFrom 0)
def recT (c : Nat → Int) (s i : Int) : Int := if s < 1 ∨ 6 < s ∨ i < 0 ∨ c s.toNat ≤ i then -1 else offT c (s.toNat - 1) + i * szT s.toNat

theorem szT_pos {s : Nat} (h1 : 1 ≤ s) (h6 : s ≤ 6) : 8 ≤ szT s := by
  have : s = 1 ∨ s = 2 ∨ s = 3 ∨ s = 4 ∨ s = 5 ∨ s = 6 := by omega
  rcases this with rfl | rfl | rfl | rfl | rfl | rfl <;> decide
theorem secsFrom_cons {k : Nat} (h : k < 6) : secsFrom k = (k + 1) :: secsFrom (k + 1) := by
  unfold secsFrom
  rw [show 6 - k = (6 - (k + 1)) + 1 from by omega, List.range'_succ]
theorem secsFrom_end : secsFrom 6 = [] := rfl
theorem offT_next {c : Nat → Int} {k : Nat} : offT c k + c (k + 1) * szT (k + 1) ≤ offT c (k + 1) := (al_range _).1
theorem offT_mono {c : Nat → Int} {n : Nat} (h : okT c n) : ∀ {k j : Nat}, k ≤ j → j ≤ n → offT c k ≤ offT c j
  | k, 0, h1, _ => by rw [show k = 0 from by omega]; exact Int.le_refl _
  | k, j + 1, h1, h2 => by
    by_cases e : k = j + 1
    · rw [e]; exact Int.le_refl _
    · have a := offT_mono h (k := k) (j := j) (by omega) (by omega)
      have b := offT_next (c := c) (k := j)
      obtain ⟨h0, _⟩ := h (j + 1) (by omega) h2
      have d := Int.mul_nonneg h0 (szT_range (j + 1)).1
      omega
/-- a byte of a record is found there -/
theorem secGo_rec {c : Nat → Int} (h : okT c 6) {s : Nat} (h1 : 1 ≤ s) (h6 : s ≤ 6) {i p : Int} (hi : 0 ≤ i) (hc : i < c s) (hp0 : offT c (s - 1) + i * szT s ≤ p) (hp1 : p < offT c (s - 1) + i * szT s + szT s) :
    ∀ k, k < s → secGo c p (secsFrom k) = ((s : Int), i) := by
  have hz := szT_pos h1 h6
  have hin : inT c p s := by
    have a := Int.mul_nonneg hi (show 0 ≤ szT s by omega)
    have b : (i + 1) * szT s ≤ c s * szT s := Int.mul_le_mul_of_nonneg_right (by omega) (by omega)
    rw [Int.add_mul] at b
    exact ⟨by omega, by omega⟩
  have hd : (p - offT c (s - 1)).tdiv (szT s) = i := by
    have a := Int.mul_nonneg hi (show 0 ≤ szT s by omega)
    rw [Int.tdiv_eq_ediv_of_nonneg (by omega)]
    refine Int.le_antisymm ?_ ?_
    · have : (p - offT c (s - 1)) / szT s < i + 1 := Int.ediv_lt_of_lt_mul (by omega) (by rw [Int.add_mul]; omega)
      omega
    · exact (Int.le_ediv_iff_mul_le (by omega)).2 (by omega)
  intro k hk
  generalize hj : s - 1 - k = j
  induction j generalizing k with
  | zero =>
    rw [secsFrom_cons (by omega), show k + 1 = s from by omega]
    unfold secGo
    rw [if_pos hin, hd]
  | succ j ih =>
    rw [secsFrom_cons (by omega)]
    unfold secGo
    rw [if_neg ?_, ih (k + 1) (by omega) (by omega)]
    rintro ⟨_, hb⟩
    have a := offT_next (c := c) (k := k)
    have b := offT_mono h (k := k + 1) (j := s - 1) (by omega) (by omega)
    have d := hin.1
    simp only [Nat.add_sub_cancel] at hb
    omega
theorem secT_rec {c : Nat → Int} (h : okT c 6) {s : Nat} (h1 : 1 ≤ s) (h6 : s ≤ 6) {i p : Int} (hi : 0 ≤ i) (hc : i < c s) (hp0 : offT c (s - 1) + i * szT s ≤ p) (hp1 : p < offT c (s - 1) + i * szT s + szT s) :
    secT c p = ((s : Int), i) := by
  have hz := szT_pos h1 h6
  have a := Int.mul_nonneg hi (show 0 ≤ szT s by omega)
  have b : (i + 1) * szT s ≤ c s * szT s := Int.mul_le_mul_of_nonneg_right (by omega) (by omega)
  rw [Int.add_mul] at b
  have e := (offT_range c (s - 1) (h.less (by omega))).1
  have f := offT_next (c := c) (k := s - 1)
  rw [show s - 1 + 1 = s from by omega] at f
  have g := offT_mono h (k := s) (j := 6) h6 (Nat.le_refl _)
  unfold secT totT
  rw [if_neg (by omega), if_neg (by omega), if_neg (by omega)]
  exact secGo_rec h h1 h6 hi hc hp0 hp1 0 (by omega)
end Go.Proofs.Ythnognjcbjgkbaa
