/-
  The plain padding between sections: with the records, the header and the checksum it has each byte once.
-/
import Derived.Test.YthnognjcbjgkbaaTab2
namespace Go.Proofs.Ythnognjcbjgkbaa
set_option linter.unusedVariables false
open Go.RowKit

/-- the end of the records of section k + 1 -/
def endT (c : Nat → Int) (k : Nat) : Int := offT c k + c (k + 1) * szT (k + 1)
/-- the padding behind section k + 1, if there is one -/
def gapT (c : Nat → Int) (k : Nat) : List (Int × Int) := if endT c k < al (endT c k) then [(endT c k, al (endT c k) - endT c k)] else []
/-- the paddings behind the sections k + 1 .. k + n -/
def gapsN (c : Nat → Int) : Nat → Nat → List (Int × Int)
  | _, 0 => []
  | k, n + 1 => gapT c k ++ gapsN c (k + 1) n
/-- what the law asks of the paddings, one after the other -/
def Chain (c : Nat → Int) : Int → List (Int × Int) → Prop
  | _, [] => True
  | lo, g :: r => lo ≤ g.1 ∧ 1 ≤ g.2 ∧ g.2 ≤ 15 ∧ g.1 + g.2 ≤ totT c - 4 ∧ (g.1 + g.2) % 16 = 0 ∧ 80 ≤ g.1 ∧ (∀ p, g.1 ≤ p → p < g.1 + g.2 → secT c p = (-1, -1)) ∧ Chain c (g.1 + g.2) r
def sumG : List (Int × Int) → Int
  | [] => 0
  | g :: r => g.2 + sumG r
/-- the bytes of the records of the sections k + 1 .. k + n -/
def sumR (c : Nat → Int) : Nat → Nat → Int
  | _, 0 => 0
  | k, n + 1 => c (k + 1) * szT (k + 1) + sumR c (k + 1) n

theorem Chain.less {c : Nat → Int} {a b : Int} (h : b ≤ a) : ∀ {l : List (Int × Int)}, Chain c a l → Chain c b l
  | [], _ => trivial
  | g :: r, ⟨h1, h2⟩ => ⟨Int.le_trans h h1, h2⟩

theorem al_off (c : Nat → Int) (k : Nat) : al (endT c k) = offT c (k + 1) := rfl
theorem secGo_out {c : Nat → Int} {p : Int} : ∀ (n k : Nat), k + n = 6 → (∀ s, k < s → s ≤ 6 → ¬ inT c p s) → secGo c p (secsFrom k) = (-1, -1)
  | 0, k, hk, _ => by rw [show k = 6 from by omega]; rfl
  | n + 1, k, hk, h => by
    rw [secsFrom_cons (by omega)]
    unfold secGo
    rw [if_neg (h (k + 1) (by omega) (by omega))]
    exact secGo_out n (k + 1) (by omega) fun s h1 h2 => h s (by omega) h2
/-- a byte of a padding belongs to no record -/
theorem secT_gap {c : Nat → Int} (h : okT c 6) {k : Nat} (hk : k < 6) {p : Int} (h1 : endT c k ≤ p) (h2 : p < offT c (k + 1)) : secT c p = (-1, -1) := by
  have e0 : ∀ s, 1 ≤ s → s ≤ 6 → 0 ≤ c s * szT s := fun s a b => Int.mul_nonneg (h s a b).1 (szT_range s).1
  have a := (offT_range c k (h.less (by omega))).1
  have b := offT_mono h (k := k + 1) (j := 6) (by omega) (Nat.le_refl _)
  have d := e0 (k + 1) (by omega) (by omega)
  have e : endT c k = offT c k + c (k + 1) * szT (k + 1) := rfl
  unfold secT totT
  rw [if_neg (by omega), if_neg (by omega), if_neg (by omega)]
  refine secGo_out 6 0 rfl fun s hs hs6 hin => ?_
  obtain ⟨g1, g2⟩ := hin
  by_cases hle : s ≤ k + 1
  · by_cases he : s = k + 1
    · subst he
      simp only [Nat.add_sub_cancel] at g1 g2
      omega
    · have x := offT_next (c := c) (k := s - 1)
      rw [show s - 1 + 1 = s from by omega] at x
      have y := offT_mono h (k := s) (j := k) (by omega) (by omega)
      omega
  · have y := offT_mono h (k := k + 1) (j := s - 1) (by omega) (by omega)
    omega

theorem chain_gaps {c : Nat → Int} (h : okT c 6) : ∀ (n k : Nat), k + n = 6 → Chain c (offT c k) (gapsN c k n)
  | 0, _, _ => trivial
  | n + 1, k, hk => by
    have ih := chain_gaps h n (k + 1) (by omega)
    obtain ⟨q0, q1, q2⟩ := al_range (endT c k)
    have hc := h (k + 1) (by omega) (by omega)
    have hm := Int.mul_nonneg hc.1 (szT_range (k + 1)).1
    have e : endT c k = offT c k + c (k + 1) * szT (k + 1) := rfl
    have hr := (offT_range c k (h.less (by omega))).1
    have hm2 := offT_mono h (k := k + 1) (j := 6) (by omega) (Nat.le_refl _)
    unfold gapsN gapT
    rw [al_off] at q0 q1 q2 ⊢
    split
    · rename_i hlt
      refine ⟨by show _ ≤ endT c k; omega, by show 1 ≤ offT c (k + 1) - endT c k; omega, by show offT c (k + 1) - endT c k ≤ 15; omega, ?_, ?_, by show 80 ≤ endT c k; omega, ?_, ?_⟩
      · show endT c k + (offT c (k + 1) - endT c k) ≤ totT c - 4
        unfold totT
        omega
      · show (endT c k + (offT c (k + 1) - endT c k)) % 16 = 0
        omega
      · intro p h1 h2
        exact secT_gap h (by omega) h1 (by simp only at h2; omega)
      · show Chain c (endT c k + (offT c (k + 1) - endT c k)) (gapsN c (k + 1) n)
        rw [show endT c k + (offT c (k + 1) - endT c k) = offT c (k + 1) from by omega]
        exact ih
    · exact ih.less (by omega)
theorem sum_append (a b : List (Int × Int)) : sumG (a ++ b) = sumG a + sumG b := by
  induction a with
  | nil => simp [sumG]
  | cons g r ih => simp only [List.cons_append, sumG, ih]; omega
theorem sum_gaps (c : Nat → Int) : ∀ (n k : Nat), sumR c k n + sumG (gapsN c k n) = offT c (k + n) - offT c k
  | 0, k => by simp [sumR, sumG, gapsN]
  | n + 1, k => by
    have ih := sum_gaps c n (k + 1)
    have e : endT c k = offT c k + c (k + 1) * szT (k + 1) := rfl
    have q := (al_range (endT c k)).1
    rw [al_off] at q
    unfold gapsN sumR
    rw [sum_append, show k + (n + 1) = k + 1 + n from by omega]
    have g : sumG (gapT c k) = offT c (k + 1) - endT c k := by
      unfold gapT
      rw [al_off]
      split
      · simp [sumG]
      · simp only [sumG]; omega
    omega
theorem sum_all (c : Nat → Int) : 84 + sumR c 0 6 + sumG (gapsN c 0 6) = totT c := by
  have h := sum_gaps c 6 0
  have e : offT c 0 = 80 := rfl
  unfold totT
  simp only [Nat.zero_add] at h
  omega
/-- the paddings of the first sections, the last one behind -/
theorem gaps_snoc (c : Nat → Int) : ∀ (n k : Nat), gapsN c k (n + 1) = gapsN c k n ++ gapT c (k + n)
  | 0, k => by simp [gapsN]
  | n + 1, k => by
    show gapT c k ++ gapsN c (k + 1) (n + 1) = (gapT c k ++ gapsN c (k + 1) n) ++ _
    rw [gaps_snoc c n (k + 1), List.append_assoc, show k + 1 + n = k + (n + 1) from by omega]
theorem sumR_snoc (c : Nat → Int) : ∀ (n k : Nat), sumR c k (n + 1) = sumR c k n + c (k + n + 1) * szT (k + n + 1)
  | 0, k => by simp [sumR]
  | n + 1, k => by
    show c (k + 1) * szT (k + 1) + sumR c (k + 1) (n + 1) = c (k + 1) * szT (k + 1) + sumR c (k + 1) n + _
    rw [sumR_snoc c n (k + 1), show k + 1 + n + 1 = k + (n + 1) + 1 from by omega]
    omega
theorem gaps_range {c : Nat → Int} (h : okT c 6) (n : Nat) (hn : n ≤ 6) : (gapsN c 0 n).length ≤ n := by
  induction n with
  | zero => simp [gapsN]
  | succ n ih =>
    have := ih (by omega)
    rw [gaps_snoc, List.length_append]
    have : (gapT c (0 + n)).length ≤ 1 := by unfold gapT; split <;> simp
    omega
end Go.Proofs.Ythnognjcbjgkbaa
