/-
  Contract of rec.PutHead.
-/
import Derived.Test.YtpeajffnhmmaeaaRecR
namespace Go.Proofs.Ytpeajffnhmmaeaa
set_option linter.unusedVariables false
open Go.RowKit

set_option maxRecDepth 20000 in
set_option maxHeartbeats 400000 in
theorem PutHead_any (g c : Nat) (A : Option Addr) (zs : List UInt8) (x y z : Nat) (w : World) (hb : Bld w g A c zs) (hx : x < 65536) (hy : y < 65536) (hz : z < 65536) (hlen : zs.length + 8 ≤ 16777216) :
    Calls Try.prog 25 #[.pointer (some ⟨g, 0, none⟩), .agg #[.int .u16 (x : Int), .int .u16 (y : Int), .int .u16 (z : Int)]] w fun e w' => e = .returned (.tuple #[]) ∧ Grew w g A (zs ++ leB x 2 ++ leB y 2 ++ leB z 2 ++ List.replicate 2 0) w' := by
  -- the box, then the slice's row: the Put's box is the row of three numbers
  have B1 := hb.alloc (.cells #[.int .u16 (x : Int), .int .u16 (y : Int), .int .u16 (z : Int)] 67)
  have P0 := Lib.hid (Put.start B1 (.cells #[.int .u16 (x : Int), .int .u16 (y : Int), .int .u16 (z : Int)] 23))
  clear hb B1
  go_enter Try.func25, Try.ntmps25
  go_wp2_with fail
  go_loopw [5, 14] (fun v i wr => ∃ k : Nat, k ≤ 3 ∧ i = .int .i64 (k : Int) ∧ Put (w.alloc (.cells #[.int .u16 (x : Int), .int .u16 (y : Int), .int .u16 (z : Int)] 67)) g A (.cells #[.int .u16 (x : Int), .int .u16 (y : Int), .int .u16 (z : Int)] 23) (zs ++ (([x, y, z].take k).map (fun n => leB n 2)).flatten) wr) (fun _ i _ => 3 - (intOf i).toNat)
  case atStart => exact ⟨0, Nat.zero_le _, rfl, by simpa using P0.out⟩
  case round =>
    obtain ⟨k, hk, rfl, hP⟩ := hrel
    have HP := Lib.hid hP
    obtain ⟨k1, k2, k3⟩ := three_cells hP.box
    clear hP P0
    rw [show ((w.alloc (.cells #[.int .u16 (x : Int), .int .u16 (y : Int), .int .u16 (z : Int)] 67)).heap.size) = w.heap.size + 1 from by simp] at k1 k2 k3
    have hk4 : k = 0 ∨ k = 1 ∨ k = 2 ∨ k = 3 := by omega
    rcases hk4 with rfl | rfl | rfl | rfl
    · go_wp2_with fail
      refine (HP.out.U16 x (by omega) (by simp; omega)).mono ?_
      rintro e w2 ⟨rfl, h2⟩
      have H2 := Lib.hid h2
      clear h2 HP
      go_wp2_with fail
      go_roundw
      case rel => exact ⟨1, by omega, by go_num, by have := H2.out; simpa using this⟩
      case measure => simp [intOf]
    · go_wp2_with fail
      refine (HP.out.U16 y (by omega) (by simp [leB_length]; omega)).mono ?_
      rintro e w2 ⟨rfl, h2⟩
      have H2 := Lib.hid h2
      clear h2 HP
      go_wp2_with fail
      go_roundw
      case rel => exact ⟨2, by omega, by go_num, by have := H2.out; simpa using this⟩
      case measure => simp [intOf]
    · go_wp2_with fail
      refine (HP.out.U16 z (by omega) (by simp [leB_length]; omega)).mono ?_
      rintro e w2 ⟨rfl, h2⟩
      have H2 := Lib.hid h2
      clear h2 HP
      go_wp2_with fail
      go_roundw
      case rel => exact ⟨3, by omega, by go_num, by have := H2.out; simpa using this⟩
      case measure => simp [intOf]
    · go_wp2_with fail
      refine (HP.out.zeros 2 (by simp [leB_length]; omega)).mono ?_
      rintro e w2 ⟨rfl, h2⟩
      have H2 := Lib.hid (Grew.of_alloc h2.grew)
      clear h2 HP
      go_wp2_with fail
      go_end0
      exact ⟨rfl, by have := H2.out; simpa using this⟩
end Go.Proofs.Ytpeajffnhmmaeaa
