/-
  The contract of slices.Equal at slices of bytes.
-/
import Derived.Test.YthnognjcbjgkbaaChecked
import Derived.Test.YthnognjcbjgkbaaOwn
import Derived.Lib.Hide
import Derived.WalkLawsBesides
import Derived.Deep.QuietTactic
import Derived.BigQuiet
namespace Go.Proofs.Ythnognjcbjgkbaa
set_option linter.unusedVariables false
open Go.RowKit

theorem take_eq_succ {xs ys : List UInt8} {k : Nat} (hx : k < xs.length) (hy : k < ys.length) (h : xs.take k = ys.take k) (he : xs.getD k 0 = ys.getD k 0) : xs.take (k + 1) = ys.take (k + 1) := by
  rw [List.take_succ_eq_append_getElem hx, List.take_succ_eq_append_getElem hy, h]
  congr 2
  simpa [List.getD, hx, hy] using he
theorem ne_at {xs ys : List UInt8} {k : Nat} (he : xs.getD k 0 ≠ ys.getD k 0) : xs ≠ ys := by
  intro h; subst h; exact he rfl

set_option maxRecDepth 20000 in
set_option maxHeartbeats 800000 in
theorem Equal_any (B : Nat) (A : Option Addr) (c : Nat) (xs : List UInt8) (B' : Nat) (A' : Option Addr) (c' : Nat) (ys : List UInt8) (n m : Nat) (w : World) (hn : xs.length = n) (hm : ys.length = m) (hR : Rd w B A xs) (hS : Rd w B' A' ys)
    (hl : n ≤ 9223372036854775807) (hl' : m ≤ 9223372036854775807) :
    Calls Try.prog 25 #[.slice A n c, .slice A' m c'] w fun e w' => e = .returned (.bool (decide (xs = ys))) ∧ ∃ d, w' = w.drewN d := by
  by_cases hlen : n = m
  · subst hlen
    have HN := Lib.hid hn
    have HM := Lib.hid hm
    clear hn hm
    go_enter Try.func25, Try.ntmps25
    go_wp2_with fail
    go_loopw [13] (fun i wr => ∃ k d : Nat, k ≤ n ∧ i = .int .i64 (k : Int) ∧ wr = w.drewN d ∧ xs.take k = ys.take k) (fun i _ => n - (intOf i).toNat)
    case atStart => exact ⟨0, 0, Nat.zero_le _, rfl, rfl, by simp⟩
    case round =>
      obtain ⟨k, d, hk, rfl, rfl, ht⟩ := hrel
      have HT := Lib.hid ht
      clear ht
      by_cases hlt : k < n
      · obtain ⟨b, off, cn, rfl, hb, hcell, hcn, HC⟩ := hR.byte (k := k) (by rw [HN.out]; exact hlt)
        obtain ⟨b', off', cm, rfl, hb', hcell', hcm, HC'⟩ := hS.byte (k := k) (by rw [HM.out]; exact hlt)
        clear hR hS
        by_cases he : cn = cm
        · have hne : ((cn : Int) != (cm : Int)) = false := by simp [he]
          have HE := Lib.hid he
          clear he
          go_wp2_with fail
          go_quiet (fail)
          go_wp2
          go_roundw
          case rel =>
            refine ⟨k + 1, _, by omega, by go_num, rfl, take_eq_succ (by rw [HN.out]; exact hlt) (by rw [HM.out]; exact hlt) HT.out ?_⟩
            apply UInt8.toNat_inj.1
            rw [← HC.out, ← HC'.out, HE.out]
          case measure => simp [intOf]; omega
        · have hne : ((cn : Int) != (cm : Int)) = true := by simp; omega
          have HE := Lib.hid he
          clear he
          go_wp2_with fail
          go_quiet (fail)
          go_wp2
          go_ret
          refine ⟨?_, d + nq, World.drewN_drewN ..⟩
          have : xs ≠ ys := ne_at (k := k) (fun h => HE.out (by rw [HC.out, HC'.out, h]))
          rw [decide_eq_false this]
          rfl
      · have ek : k = n := by omega
        have EK := Lib.hid ek
        clear ek
        go_wp2_with fail
        go_ret
        refine ⟨?_, _, rfl⟩
        have h := HT.out
        rw [EK.out, List.take_of_length_le (by rw [HN.out]; exact Nat.le_refl _), List.take_of_length_le (by rw [HM.out]; exact Nat.le_refl _)] at h
        rw [decide_eq_true h]
        rfl
  · have hne : ((n : Int) != (m : Int)) = true := by simp; omega
    have HNE : Hid (xs ≠ ys) := by intro h; subst h; omega
    clear hlen hn hm
    go_enter Try.func25, Try.ntmps25
    go_wp2_with fail
    go_ret
    refine ⟨?_, 0, rfl⟩
    rw [decide_eq_false HNE.out]
    rfl
end Go.Proofs.Ythnognjcbjgkbaa
