/-
  Contracts of Sealed and of its reference.
-/
import Derived.Test.YtkpdeldegdngaaaCrc5
import Derived.Deep.QuietTactic
import Derived.BigQuiet
namespace Go.Proofs.Ytkpdeldegdngaaa
set_option linter.unusedVariables false
open Go.RowKit

theorem isSealed_yes (xs : List UInt8) (h : 4 ≤ xs.length) : CrcP.isSealed xs = decide (CrcP.little (CrcP.sum (xs.take (xs.length - 4))) = xs.drop (xs.length - 4)) := by
  unfold CrcP.isSealed CrcP.sealOf
  simp only [h, decide_true, Bool.true_and]
  congr 1
  apply propext
  constructor
  · intro e
    have e2 : xs.take (xs.length - 4) ++ CrcP.little (CrcP.sum (xs.take (xs.length - 4))) = xs.take (xs.length - 4) ++ xs.drop (xs.length - 4) := by rw [e, List.take_append_drop]
    exact List.append_cancel_left e2
  · intro e; rw [e, List.take_append_drop]

theorem below_drewN' {B : Nat} {a w : World} (h : Below B a w) (n : Nat) : Below B a (w.drewN n) := ⟨h.os, h.tape, h.output, h.size, h.block⟩
/-- what a test leaves -/
def TestOK (w : World) (b : Bool) (e : Ending) (w' : World) : Prop := e = .returned (.bool b) ∧ Below w.heap.size w w'

set_option maxRecDepth 100000 in
set_option maxHeartbeats 1600000 in
theorem Sealed_yes (A : Option Addr) (c n : Nat) (xs : List UInt8) (w : World) (hn : xs.length = n + 4) (hR : Rd w w.heap.size A xs) (hc : n + 4 ≤ c) (hl : n + 4 ≤ 100000) :
    Calls Try.prog 17 #[.slice A (n + 4) c] w (TestOK w (CrcP.isSealed xs)) := by
  have hi1 : (n : Int) ≤ (c : Int) := by omega
  have hcn : ¬ c = n := by omega
  have hRt : Rd w w.heap.size A (xs.take n) := hR.take n
  have hRd : Rd w w.heap.size (A.map (·.add n)) (xs.drop n) := by
    have := hR.part n xs.length c (by omega)
    rw [if_neg hcn, List.take_of_length_le (by simp)] at this
    exact this
  have hlt : (xs.take n).length = n := by simp; omega
  have hld : (xs.drop n).length = 4 := by simp; omega
  have HS := Lib.hid (Sum_any (some ⟨w.heap.size, 0, none⟩) 1 1 [⟨A, c, xs.take n⟩] (w.alloc (.cells #[.slice A (xs.take n).length c] 24)).drew rfl (RdS.one (c := c) 24 hRt (Nat.le_refl _)) (by omega) (by intro s hs; simp at hs; subst hs; show (xs.take n).length ≤ _; omega))
  rw [catS_one, hlt] at HS
  have HW : Hid (Below w.heap.size w (w.alloc (.cells #[.slice A n c] 24)).drew) := ((Below.refl _ w).alloc (Nat.le_refl _) _).drew
  have HWS : Hid (w.heap.size ≤ (w.alloc (.cells #[.slice A n c] 24)).drew.heap.size) := by show _ ≤ _; simp
  have HE : Hid (CrcP.isSealed xs = decide (CrcP.little (CrcP.sum (xs.take n)) = xs.drop n)) := by
    show _ = _
    rw [isSealed_yes xs (by omega), show xs.length - 4 = n by omega]
  have HD := Lib.hid hRd
  have HLD := Lib.hid hld
  clear hR hRt hRd hlt hld hn
  have hs2 : ∀ w, (Instr.slice 24 (.slice A (n + 4) c) (some (.int .i64 (n : Int))) none none).run Try.prog w = .ok (.slice (A.map (·.add n)) 4 (c - n)) w := by
    intro w
    have hsz := size_of_info (P := Try.prog) (e := Try.prog.elem 24) (by kernel_rfl) w
    rw [run_slice_l (P := Try.prog) (w := w) 24 A (n + 4) c rfl .i64 (n : Int) (by omega) (by omega), hsz]
    simp only [Result.andThen, sliced, Int.toNat_natCast, Nat.mul_one, if_neg hcn, Nat.add_sub_cancel_left]
  go_enter Try.func17, Try.ntmps17
  go_wp2_with fail
  go_region_held3 (fun _ => True) (first | trivial) (first
    | (go_at_call 11; refine HS.out.mono ?_; rintro e w1 ⟨rfl, hb1⟩)
    | (go_at_call 27; refine (little_any _ _).mono ?_; rintro e w2 ⟨A2, c2, rfl, ho2, hf2, hb2⟩)
    | (go_at_call 15; refine (Equal_any _ A2 c2 (CrcP.little (CrcP.sum (xs.take n))) _ _ _ (xs.drop n) 4 4 w2 rfl HLD.out ho2.rd (HD.out.below (HW.out.trans (hb1.trans (hb2.mono hb1.size) |>.mono HWS.out))) (by omega) (by omega)).mono ?_; rintro e w3 ⟨rfl, d, rfl⟩))
  go_wp2
  go_ret
  exact ⟨by rw [HE.out]; rfl, below_drewN' (HW.out.trans (hb1.trans (hb2.mono hb1.size) |>.mono HWS.out)) d⟩

theorem isSealed_no (xs : List UInt8) (h : xs.length < 4) : CrcP.isSealed xs = false := by
  unfold CrcP.isSealed
  simp only [show ¬ 4 ≤ xs.length by omega, decide_false, Bool.false_and]

set_option maxHeartbeats 800000 in
theorem Sealed_no (A : Option Addr) (c n : Nat) (xs : List UInt8) (w : World) (hn : xs.length = n) (hl : n < 4) :
    Calls Try.prog 17 #[.slice A n c] w (TestOK w (CrcP.isSealed xs)) := by
  rw [isSealed_no xs (by omega)]
  obtain rfl | rfl | rfl | rfl : n = 0 ∨ n = 1 ∨ n = 2 ∨ n = 3 := by omega
  all_goals
    clear hn hl
    go_enter Try.func17, Try.ntmps17
    go_wp2_with fail
    go_quiet (fail)
    go_wp2
    go_ret
    exact ⟨rfl, below_drewN' (Below.refl _ _) _⟩
end Go.Proofs.Ytkpdeldegdngaaa
