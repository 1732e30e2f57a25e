/-
  What the law TableLimits leans on, in plain words.
-/
import Derived.Test.YthnognjcbjgkbaaTab20
import Derived.Test.YthnognjcbjgkbaaTab19
import Derived.Test.YthnognjcbjgkbaaOwn2
namespace Go.Proofs.Ythnognjcbjgkbaa
set_option linter.unusedVariables false
open Go.RowKit Go.Shelf

def zeroF : Nat → Int := fun _ => 0
/-- a header of a table without records, its checksum's place empty, one count named -/
def limB (s : Nat) (n : Nat) : List UInt8 := (((hdrB 84 5 (offO zeroF) (cntO zeroF)) ++ [0, 0, 0, 0]).set (28 + 8 * s) (UInt8.ofNat (n % 256))).set (29 + 8 * s) (UInt8.ofNat (n / 256))
def limN (s : Nat) : Nat := if s = 1 then 64 else if s = 5 then 512 else 1024
theorem limB_get (s : Nat) (h1 : 1 ≤ s) (h6 : s ≤ 6) : getV (limB s (limN s + 1)) = (7, 28 + 8 * (s : Int)) := by
  have : s = 1 ∨ s = 2 ∨ s = 3 ∨ s = 4 ∨ s = 5 ∨ s = 6 := by omega
  rcases this with rfl | rfl | rfl | rfl | rfl | rfl <;> decide +kernel
theorem limN_limT (s : Nat) (h1 : 1 ≤ s) (h6 : s ≤ 6) : (limN s : Int) = limT s := by
  have : s = 1 ∨ s = 2 ∨ s = 3 ∨ s = 4 ∨ s = 5 ∨ s = 6 := by omega
  rcases this with rfl | rfl | rfl | rfl | rfl | rfl <;> rfl
theorem limN_limV (s : Nat) : limV (s : Int) = (limN s : Int) := by
  unfold limV limN
  by_cases h1 : s = 1
  · subst h1; rfl
  · by_cases h5 : s = 5
    · subst h5; rfl
    · rw [if_neg (by omega), if_neg (by omega), if_neg h1, if_neg h5]; rfl
theorem okT_lim {s : Nat} (h1 : 1 ≤ s) (h6 : s ≤ 6) : okT (upd zeroF s (limN s : Int)) 6 := by
  intro k a b
  by_cases e : k = s
  · subst e
    rw [upd_same, limN_limT k h1 h6]
    exact ⟨(limT_range k).1, Int.le_refl _⟩
  · unfold upd; rw [if_neg e]; exact ⟨Int.le_refl _, (limT_range k).1⟩
theorem not_okT_lim {s : Nat} (h1 : 1 ≤ s) (h6 : s ≤ 6) (c : Nat → Int) : ¬ okT (upd c s ((limN s : Int) + 1)) 6 := by
  intro h
  have := (h s h1 h6).2
  rw [upd_same, limN_limT s h1 h6] at this
  omega
theorem limN_le (s : Nat) : 1 ≤ limN s ∧ limN s ≤ 1024 := by
  unfold limN
  split
  · omega
  · split <;> omega
theorem offO_zero : ∀ s, s < 7 → 0 ≤ offO zeroF s ∧ offO zeroF s < 4294967296 := by
  intro s hs
  have : s = 0 ∨ s = 1 ∨ s = 2 ∨ s = 3 ∨ s = 4 ∨ s = 5 ∨ s = 6 := by omega
  rcases this with rfl | rfl | rfl | rfl | rfl | rfl | rfl <;> decide +kernel
theorem cntO_zero : ∀ s, s < 7 → 0 ≤ cntO zeroF s ∧ cntO zeroF s < 4294967296 := by
  intro s hs
  have : s = 0 ∨ s = 1 ∨ s = 2 ∨ s = 3 ∨ s = 4 ∨ s = 5 ∨ s = 6 := by omega
  rcases this with rfl | rfl | rfl | rfl | rfl | rfl | rfl <;> decide +kernel
theorem totT_zero : totT zeroF = 84 := by decide +kernel
end Go.Proofs.Ythnognjcbjgkbaa
