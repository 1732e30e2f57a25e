/-
  The example of the chapter: true.
-/
import Derived.Test.YtpeajffnhmmaeaaRec6
namespace Go.Proofs.Ytpeajffnhmmaeaa
set_option linter.unusedVariables false
open Go.RowKit

/-- true, and what was there is as it was -/
def AliveOK (w : World) (e : Ending) (w' : World) : Prop := e = .returned (.bool true) ∧ Below w.heap.size w w'

set_option maxRecDepth 20000 in
set_option maxHeartbeats 800000 in
theorem alive09 (w : World) : Calls Try.prog 10 #[] w (AliveOK w) := by
  go_enter Try.func10, Try.ntmps10
  go_wp2_with fail
  refine (New_ok w.heap.size none 0 0 [] w rfl Rd.nil (Nat.le_refl _) (by simp)).mono ?_
  rintro e w1 ⟨g, rfl, hB1⟩
  have HB1 := Lib.hid hB1
  clear hB1
  go_wp2_with fail
  refine (PutLink_ok w w1 g [] HB1.out 258 3 (by omega) (by omega) (by simp)).mono ?_
  rintro e w2 ⟨rfl, hB2⟩
  rw [show ([] ++ leB 258 2 ++ leB 3 2 ++ List.replicate 4 0 : List UInt8) = [2, 1, 3, 0, 0, 0, 0, 0] from by decide] at hB2
  have HB2 := Lib.hid hB2
  clear hB2
  go_wp2_with fail
  refine (Bytes_ok w w2 g _ HB2.out (by simp)).mono ?_
  rintro e w3 ⟨A3, c3, rfl, ho3, hf3, hB3⟩
  have HB3 := Lib.hid hB3
  have HO3 := Lib.hid ho3
  clear hB3 ho3 hf3
  go_wp2_with fail
  refine (GetLink_ok w3.heap.size A3 c3 [2, 1, 3, 0, 0, 0, 0, 0] 0 w3 HO3.out.rd (Nat.le_refl _) HO3.out.le.1 HO3.out.le.2 (by simp) (by simp) (by decide)).mono ?_
  rintro e w4 ⟨he, hb4⟩
  have he2 : e = .returned (.tuple #[.agg #[.int .u16 258, .int .u16 3], .agg #[.int .i64 0, .int .i64 0, .int .i64 0]]) := by
    rw [he, show numV [2, 1, 3, 0, 0, 0, 0, 0] ((0 : Nat) : Int) 2 = 258 from by decide, show numV [2, 1, 3, 0, 0, 0, 0, 0] (((0 : Nat) : Int) + 2) 2 = 3 from by decide]
    rfl
  clear he
  subst he2
  have hBO := HB3.out.next hb4
  obtain ⟨A4, c4, h1, h2, h3, h4⟩ := hBO
  have HB4 := Lib.hid h1
  have HW4 := Lib.hid h2
  clear hb4 h1 h2 h3 h4 HB1 HB2 HB3 HO3
  go_wp2_with fail
  refine (Bytes_any g c4 A4 _ _ ((HB4.out.alloc _).alloc _) (by simp)).mono ?_
  rintro e w5 ⟨A5, c5, rfl, ho5, hf5, hb5⟩
  have hs5 := hb5.size
  simp at hs5
  have Q1 := Lib.hid ((hb5.block w4.heap.size (by simp; omega)).trans (two_new w4 _ _).1)
  have Q2 := Lib.hid ((hb5.block (w4.heap.size + 1) (by simp)).trans (two_new w4 _ _).2)
  have B5 := Lib.hid (((HW4.out.alloc HW4.out.size _).alloc (Nat.le_trans HW4.out.size (by simp)) _).trans (hb5.mono (Nat.le_trans HW4.out.size (by simp; omega))))
  have HO5 := Lib.hid ho5
  clear ho5 hf5 hb5
  go_wp2_with fail
  refine (Equal_any w5.heap.size A5 c5 [2, 1, 3, 0, 0, 0, 0, 0] (w5.heap.size + 1) _ 8 [2, 1, 3, 0, 0, 0, 0, 0] 8 8 _ rfl rfl (HO5.out.rd.alloc (Nat.le_refl _) _) (Rd.lit w5 _ [2, 1, 3, 0, 0, 0, 0, 0] rfl) (by omega) (by omega)).mono ?_
  rintro e w6 ⟨rfl, d, rfl⟩
  rw [show decide (([2, 1, 3, 0, 0, 0, 0, 0] : List UInt8) = [2, 1, 3, 0, 0, 0, 0, 0]) = true by decide]
  have R1 := Lib.hid ((Below.heap_alloc w5 (.cells #[.int .u8 2, .int .u8 1, .int .u8 3, .int .u8 0, .int .u8 0, .int .u8 0, .int .u8 0, .int .u8 0] U8t) w4.heap.size (by omega)).trans Q1.out)
  have R2 := Lib.hid ((Below.heap_alloc w5 (.cells #[.int .u8 2, .int .u8 1, .int .u8 3, .int .u8 0, .int .u8 0, .int .u8 0, .int .u8 0, .int .u8 0] U8t) (w4.heap.size + 1) (by omega)).trans Q2.out)
  have B6 := Lib.hid ((Chg.of_below (S := fun _ => False) (B5.out.alloc B5.out.size (.cells #[.int .u8 2, .int .u8 1, .int .u8 3, .int .u8 0, .int .u8 0, .int .u8 0, .int .u8 0, .int .u8 0] U8t))).drewN d |>.below (B := w.heap.size) (fun _ h => h.elim) (Nat.le_refl _))
  generalize w5.alloc (.cells #[.int .u8 2, .int .u8 1, .int .u8 3, .int .u8 0, .int .u8 0, .int .u8 0, .int .u8 0, .int .u8 0] U8t) = w7 at *
  have r1 : (w7.drewN d).heap[w4.heap.size]? = _ := R1.out
  have r2 : (w7.drewN d).heap[w4.heap.size + 1]? = _ := R2.out
  generalize w7.drewN d = w8 at *
  obtain ⟨x1, x2⟩ := two_cells r1
  obtain ⟨y1, y2, y3⟩ := three_cells r2
  clear r1 r2 R1 R2 Q1 Q2 HO5 B5
  go_wp2_with fail
  refine (Size_any 6 _).mono ?_
  rintro e w9 ⟨rfl, rfl⟩
  rw [show sizeV 6 = 8 from rfl]
  go_wp2
  go_ret
  exact ⟨rfl, B6.out⟩
end Go.Proofs.Ytpeajffnhmmaeaa
