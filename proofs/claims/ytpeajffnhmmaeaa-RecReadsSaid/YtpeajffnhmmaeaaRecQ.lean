/-
  Contracts of rec.PutWindow, rec.flag.
-/
import Derived.Test.YtpeajffnhmmaeaaRecP
namespace Go.Proofs.Ytpeajffnhmmaeaa
set_option linter.unusedVariables false
open Go.RowKit

set_option maxRecDepth 20000 in
set_option maxHeartbeats 400000 in
theorem PutWindow_any (g c : Nat) (A : Option Addr) (zs : List UInt8) (x y z : Nat) (w : World) (hb : Bld w g A c zs) (hx : x < 18446744073709551616) (hy : y < 18446744073709551616) (hz : z < 65536) (hlen : zs.length + 24 ≤ 16777216) :
    Calls Try.prog 24 #[.pointer (some ⟨g, 0, none⟩), .agg #[.int .u64 (x : Int), .int .u64 (y : Int), .int .u16 (z : Int)]] w fun e w' => e = .returned (.tuple #[]) ∧ Grew w g A (zs ++ leB x 8 ++ leB y 8 ++ leB z 2 ++ List.replicate 6 0) w' := by
  have P0 := Lib.hid (Put.start hb (.cells #[.int .u64 (x : Int), .int .u64 (y : Int), .int .u16 (z : Int)] 58))
  clear hb
  go_enter Try.func24, Try.ntmps24
  go_wp2_with fail
  refine (P0.out.U64 x hx (by omega)).mono ?_
  rintro e w1 ⟨rfl, h1⟩
  obtain ⟨k1, k2, k3⟩ := three_cells h1.box
  have P1 := Lib.hid h1
  clear h1 P0
  go_wp2_with fail
  refine (P1.out.U64 y hy (by simp [leB_length]; omega)).mono ?_
  rintro e w2 ⟨rfl, h2⟩
  obtain ⟨m1, m2, m3⟩ := three_cells h2.box
  have P2 := Lib.hid h2
  clear h2 P1 k1 k2 k3
  go_wp2_with fail
  refine (P2.out.U16 z (by omega) (by simp [leB_length]; omega)).mono ?_
  rintro e w3 ⟨rfl, h3⟩
  have P3 := Lib.hid h3
  clear h3 P2 m1 m2 m3
  go_wp2_with fail
  refine (P3.out.zeros 6 (by simp [leB_length]; omega)).mono ?_
  rintro e w4 ⟨rfl, h4⟩
  have P4 := Lib.hid h4.grew
  clear h4 P3
  go_wp2_with fail
  go_end0
  exact ⟨rfl, P4.out⟩
end Go.Proofs.Ytpeajffnhmmaeaa
