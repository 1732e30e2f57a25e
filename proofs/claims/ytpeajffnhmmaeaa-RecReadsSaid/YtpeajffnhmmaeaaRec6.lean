/-
  Contract of rec.PutLink.
-/
import Derived.Test.YtpeajffnhmmaeaaBZeros
import Derived.Test.YtpeajffnhmmaeaaRec5
namespace Go.Proofs.Ytpeajffnhmmaeaa
set_option linter.unusedVariables false
open Go.RowKit

theorem Bld.blk_lt {w : World} {g c : Nat} {A : Option Addr} {xs : List UInt8} (h : Bld w g A c xs) {k : Nat} (e : blk A = some k) : k < w.heap.size := by
  obtain ⟨cur, hc⟩ := h.own.type k e
  exact (Array.getElem?_eq_some_iff.1 hc).1

set_option maxRecDepth 20000 in
set_option maxHeartbeats 400000 in
theorem PutLink_any (g c : Nat) (A : Option Addr) (zs : List UInt8) (x y : Nat) (w : World) (hb : Bld w g A c zs) (hx : x < 65536) (hy : y < 65536) (hlen : zs.length + 8 ≤ 16777216) :
    Calls Try.prog 26 #[.pointer (some ⟨g, 0, none⟩), .agg #[.int .u16 (x : Int), .int .u16 (y : Int)]] w fun e w' => e = .returned (.tuple #[]) ∧ Grew w g A (zs ++ leB x 2 ++ leB y 2 ++ List.replicate 4 0) w' := by
  have HB := Lib.hid hb
  have HG := Lib.hid hb.lt
  clear hb
  go_enter Try.func26, Try.ntmps26
  go_wp2_with fail
  refine (putU16 g c A zs x _ (HB.out.alloc _) (by omega) (by omega)).mono ?_
  rintro e w1 ⟨rfl, A1, c1, hb1, hc1, hr1⟩
  have hq1 := hc1.obj (heap_alloc_new w _) (fun h => by
    rcases h with h | h
    · have := HG.out; omega
    · have := HB.out.blk_lt h; omega)
  obtain ⟨k1, k2⟩ := two_cells hq1
  have HB1 := Lib.hid hb1
  have HC1 := Lib.hid hc1
  have HR1 := Lib.hid hr1
  clear hb1 hc1 hr1 hq1
  go_wp2_with fail
  refine (putU16 g c1 A1 _ y _ HB1.out (by omega) (by simp [leB_length]; omega)).mono ?_
  rintro e w2 ⟨rfl, A2, c2, hb2, hc2, hr2⟩
  have HB2 := Lib.hid hb2
  have HC2 := Lib.hid hc2
  have HR2 := Lib.hid hr2
  clear hb2 hc2 hr2 k1 k2
  go_wp2_with fail
  refine (Zeros_any g c2 A2 _ 4 _ HB2.out (by simp [leB_length]; omega)).mono ?_
  rintro e w3 ⟨rfl, hG⟩
  have HG3 := Lib.hid hG
  clear hG
  go_wp2_with fail
  go_end0
  exact ⟨rfl, Grew.of_alloc (Grew.next HC1.out HR1.out (Grew.next HC2.out HR2.out HG3.out))⟩
theorem PutLink_ok (w wi : World) (g : Nat) (zs : List UInt8) (h : BOk w wi g zs) (x y : Nat) (hx : x < 65536) (hy : y < 65536) (hlen : zs.length + 8 ≤ 16777216) :
    Calls Try.prog 26 #[.pointer (some ⟨g, 0, none⟩), .agg #[.int .u16 (x : Int), .int .u16 (y : Int)]] wi fun e w' => e = .returned (.tuple #[]) ∧ BOk w w' g (zs ++ leB x 2 ++ leB y 2 ++ List.replicate 4 0) := by
  obtain ⟨A, c, h1, h2, h3, h4⟩ := h
  exact (PutLink_any g c A zs x y wi h1 hx hy hlen).mono fun _ _ ⟨he, hG⟩ => ⟨he, BOk.grew h2 h3 h4 hG⟩
end Go.Proofs.Ytpeajffnhmmaeaa
