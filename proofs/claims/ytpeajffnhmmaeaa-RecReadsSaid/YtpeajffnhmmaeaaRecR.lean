/-
  Contracts of rec.flag, rec.PutRegion.
-/
import Derived.Test.YtpeajffnhmmaeaaRecQ
namespace Go.Proofs.Ytpeajffnhmmaeaa
set_option linter.unusedVariables false
open Go.RowKit

theorem flag_any (b : Bool) (x : Int) (w : World) : Calls Try.prog 46 #[.bool b, .int .u8 x] w fun e w' => e = .returned (.int .u8 (if b then x else 0)) ∧ w = w' := by
  cases b
  · go_enter Try.func46, Try.ntmps46
    go_wp2
    go_ret
    exact ⟨rfl, rfl⟩
  · go_enter Try.func46, Try.ntmps46
    go_wp2
    go_ret
    exact ⟨rfl, rfl⟩
theorem five_cells {w : World} {q ty : Nat} {x y z u v : Value} (hq : w.heap[q]? = some (.cells #[x, y, z, u, v] ty (0, 0))) :
    w.cell? ⟨q, 0, none⟩ = some x ∧ w.cell? ⟨q, 1, none⟩ = some y ∧ w.cell? ⟨q, 2, none⟩ = some z ∧ w.cell? ⟨q, 3, none⟩ = some u ∧ w.cell? ⟨q, 4, none⟩ = some v := by
  refine ⟨?_, ?_, ?_, ?_, ?_⟩ <;> (rw [cell_of_row w q _ _ _ (0, 0) hq]; rfl)

set_option maxRecDepth 20000 in
set_option maxHeartbeats 400000 in
theorem PutRegion_any (g c : Nat) (A : Option Addr) (zs : List UInt8) (x y z t : Nat) (b : Bool) (w : World) (hb : Bld w g A c zs) (hx : x < 18446744073709551616) (hy : y < 18446744073709551616) (hz : z < 65536) (ht : t < 256) (hlen : zs.length + 24 ≤ 16777216) :
    Calls Try.prog 21 #[.pointer (some ⟨g, 0, none⟩), .agg #[.int .u64 (x : Int), .int .u64 (y : Int), .int .u16 (z : Int), .int .u8 (t : Int), .bool b]] w fun e w' =>
      e = .returned (.tuple #[]) ∧ Grew w g A (zs ++ leB x 8 ++ leB y 8 ++ leB z 2 ++ leB t 1 ++ leB (if b then 1 else 0) 1 ++ List.replicate 4 0) w' := by
  have P0 := Lib.hid (Put.start hb (.cells #[.int .u64 (x : Int), .int .u64 (y : Int), .int .u16 (z : Int), .int .u8 (t : Int), .bool b] 50))
  have HF : Hid ((if b then (1 : Int) else 0) = ((if b then 1 else 0 : Nat) : Int)) := by show _ = _; cases b <;> rfl
  have hbit : (if b then 1 else 0) < 256 := by cases b <;> simp
  generalize (if b then 1 else 0 : Nat) = q at *
  clear hb
  go_enter Try.func21, Try.ntmps21
  go_wp2_with fail
  refine (P0.out.U64 x hx (by omega)).mono ?_
  rintro e w1 ⟨rfl, h1⟩
  obtain ⟨k1, k2, k3, k4, k5⟩ := five_cells h1.box
  have P1 := Lib.hid h1
  clear h1 P0
  go_wp2_with fail
  refine (P1.out.U64 y hy (by simp [leB_length]; omega)).mono ?_
  rintro e w2 ⟨rfl, h2⟩
  obtain ⟨k1, k2, k3, k4, k5⟩ := five_cells h2.box
  have P2 := Lib.hid h2
  clear h2 P1
  go_wp2_with fail
  refine (P2.out.U16 z (by omega) (by simp [leB_length]; omega)).mono ?_
  rintro e w3 ⟨rfl, h3⟩
  obtain ⟨k1, k2, k3, k4, k5⟩ := five_cells h3.box
  have P3 := Lib.hid h3
  clear h3 P2
  go_wp2_with fail
  refine (P3.out.U8 t (by omega) (by simp [leB_length]; omega)).mono ?_
  rintro e w4 ⟨rfl, h4⟩
  obtain ⟨k1, k2, k3, k4, k5⟩ := five_cells h4.box
  have P4 := Lib.hid h4
  clear h4 P3
  go_wp2_with fail
  refine (flag_any b 1 _).mono ?_
  rintro e w5 ⟨rfl, rfl⟩
  rw [HF.out]
  go_wp2_with fail
  refine (P4.out.U8 q (by omega) (by simp [leB_length]; omega)).mono ?_
  rintro e w6 ⟨rfl, h6⟩
  have P6 := Lib.hid h6
  clear h6 P4
  go_wp2_with fail
  refine (P6.out.zeros 4 (by simp [leB_length]; omega)).mono ?_
  rintro e w7 ⟨rfl, h7⟩
  have P7 := Lib.hid h7.grew
  clear h7 P6
  go_wp2_with fail
  go_end0
  exact ⟨rfl, P7.out⟩
end Go.Proofs.Ytpeajffnhmmaeaa
