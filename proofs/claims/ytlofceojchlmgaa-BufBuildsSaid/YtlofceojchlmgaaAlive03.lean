/-
  The example of chapter 3 holds.
-/
import Derived.Test.YtlofceojchlmgaaBuf5
namespace Go.Proofs.Ytlofceojchlmgaa
set_option linter.unusedVariables false
open Go.RowKit

/-- what the example leaves -/
def AliveOK (w : World) (e : Ending) (w' : World) : Prop := e = .returned (.bool true) ∧ Below w.heap.size w w'

set_option maxHeartbeats 800000 in
theorem alive03 (w : World) : Calls Try.prog 8 #[] w (AliveOK w) := by
  go_enter Try.func8, Try.ntmps8
  go_wp2_with fail
  refine (New_any (w.heap.size + 1) _ 1 1 [9] _ rfl (Rd.one w 9 9 rfl) (by simp) (by simp)).mono ?_
  rintro e w1 ⟨g, A, c, rfl, hb1, hg1, hf1, hbl1⟩
  have B1 : Below w.heap.size w w1 := ((Below.refl _ w).alloc (Nat.le_refl _) _).trans (hbl1.mono (by simp))
  simp only [World.size_alloc] at hg1
  have HB1 := Lib.hid hb1
  clear hb1 hbl1
  go_wp2_with fail
  refine (putU16 g c A [9] 258 w1 HB1.out (by omega) (by simp)).mono ?_
  rintro e w2 ⟨rfl, A2, c2, hb2, hc2, hr2⟩
  have B2 : Below w.heap.size w w2 := B1.trans (hc2.below (fun k hk => by
    rcases hk with hk | hk
    · omega
    · have := hf1 k hk; simp at this; omega) B1.size)
  rw [show ([9] ++ leB 258 2 : List UInt8) = [9, 2, 1] by decide] at hb2
  have HB2 := Lib.hid hb2
  clear hb2 hc2 hr2 HB1
  go_wp2_with fail
  refine (Bytes_any g c2 A2 _ w2 HB2.out (by simp)).mono ?_
  rintro e w3 ⟨A3, c3, rfl, ho3, hf3, hbl3⟩
  have B3 : Below w.heap.size w w3 := B2.trans (hbl3.mono B2.size)
  have HB3 := Lib.hid (HB2.out.keep (S := fun _ => False) (Chg.of_below hbl3) (fun h => h) (fun _ _ h => h))
  have hle3 := ho3.le
  have HO3 := Lib.hid ho3
  clear ho3 HB2 hbl3 hf3
  go_wp2_with fail
  refine (U16_any w3.heap.size A3 c3 [9, 2, 1] 1 w3 HO3.out.rd hle3.1 hle3.2 (by omega)).mono ?_
  rintro e w4 ⟨rfl, rfl⟩
  rw [show numV [9, 2, 1] 1 2 = 258 by decide, show exB 1 2 (List.length ([9, 2, 1] : List UInt8)) = true by decide]
  go_wp2_with fail
  refine (Bytes_any g c2 A2 _ w3 HB3.out (by simp)).mono ?_
  rintro e w5 ⟨A5, c5, rfl, ho5, hf5, hbl5⟩
  have B5 : Below w.heap.size w w5 := B3.trans (hbl5.mono B3.size)
  have HB5 := Lib.hid (HB3.out.keep (S := fun _ => False) (Chg.of_below hbl5) (fun h => h) (fun _ _ h => h))
  have HO5 := Lib.hid ho5
  clear ho5 HB3 hbl5 hf5 HO3
  go_wp2_with fail
  refine (Equal_any w5.heap.size A5 c5 [9, 2, 1] (w5.heap.size + 1) _ 3 [9, 2, 1] 3 3 _ rfl rfl (HO5.out.rd.alloc (Nat.le_refl _) _) (Rd.lit w5 _ [9, 2, 1] rfl) (by omega) (by omega)).mono ?_
  rintro e w6 ⟨rfl, d, rfl⟩
  rw [show decide (([9, 2, 1] : List UInt8) = [9, 2, 1]) = true by decide]
  have HB6 := Lib.hid ((HB5.out.alloc (.cells #[.int .u8 9, .int .u8 2, .int .u8 1] U8t)).drewN d)
  have B6 : Below w.heap.size w ((w5.alloc (.cells #[.int .u8 9, .int .u8 2, .int .u8 1] U8t)).drewN d) := (Chg.of_below (S := fun _ => False) ((B5.alloc B5.size _))).drewN d |>.below (fun _ h => h.elim) (Nat.le_refl _)
  clear HB5 HO5 B5 B3 B2 B1
  go_wp2_with fail
  refine (Len_any g c2 A2 [9, 2, 1] _ HB6.out).mono ?_
  rintro e w7 ⟨rfl, rfl⟩
  go_wp2
  go_ret
  exact ⟨rfl, B6⟩
end Go.Proofs.Ytlofceojchlmgaa
