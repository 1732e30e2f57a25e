/-
  What the law BufReads computes: true.
-/
import Derived.Test.YtlofceojchlmgaaAlive03
namespace Go.Proofs.Ytlofceojchlmgaa
open Go.RowKit

set_option maxHeartbeats 1600000 in
theorem BufReads_any (A : Option Addr) (c : Nat) (xs : List UInt8) (a : Int) (w : World) (hR : Rd w w.heap.size A xs) (hc : xs.length ≤ c) (hn : c ≤ 9223372036854775807)
    (ha : -9223372036854775808 ≤ a ∧ a ≤ 9223372036854775807) :
    Calls Try.prog 3 #[.slice A xs.length c, .int .i64 a] w (AliveOK w) := by
  by_cases hbig : 1000 < xs.length
  · have hb : (1000 : Int) < (xs.length : Int) := by omega
    clear hR
    go_enter Try.func3, Try.ntmps3
    go_wp2_with (go_at_call 8; refine (alive03 _).mono ?_; rintro e w1 ⟨rfl, hb1⟩)
    go_ret
    exact ⟨rfl, hb1⟩
  · have hb : ¬ (1000 : Int) < (xs.length : Int) := by omega
    have HR := Lib.hid hR
    have H1 := Lib.hid (U8_any _ A c xs a w hR hc hn ha)
    have H2 := Lib.hid (U16_any _ A c xs a w hR hc hn ha)
    have H3 := Lib.hid (U32_any _ A c xs a w hR hc hn ha)
    have H4 := Lib.hid (U64_any _ A c xs a w hR hc hn ha)
    have N1 := Lib.hid (refNumber_any _ A c xs a 1 w hR hc hn ha (by omega))
    have N2 := Lib.hid (refNumber_any _ A c xs a 2 w hR hc hn ha (by omega))
    have N4 := Lib.hid (refNumber_any _ A c xs a 4 w hR hc hn ha (by omega))
    have N8 := Lib.hid (refNumber_any _ A c xs a 8 w hR hc hn ha (by omega))
    have l1 : numV xs a 1 < 256 := numV_lt xs a 1
    have l2 : numV xs a 2 < 65536 := numV_lt xs a 2
    have l4 : numV xs a 4 < 4294967296 := numV_lt xs a 4
    have l8 : numV xs a 8 < 18446744073709551616 := numV_lt xs a 8
    generalize numV xs a 1 = n1 at *
    generalize numV xs a 2 = n2 at *
    generalize numV xs a 4 = n4 at *
    generalize numV xs a 8 = n8 at *
    generalize exB a 1 xs.length = e1 at *
    generalize exB a 2 xs.length = e2 at *
    generalize exB a 4 xs.length = e4 at *
    generalize exB a 8 xs.length = e8 at *
    clear hR
    go_enter Try.func3, Try.ntmps3
    go_wp2_with fail
    refine H1.out.mono ?_
    rintro e w' ⟨rfl, rfl⟩
    go_wp2_with fail
    refine H2.out.mono ?_
    rintro e w' ⟨rfl, rfl⟩
    go_wp2_with fail
    refine H3.out.mono ?_
    rintro e w' ⟨rfl, rfl⟩
    go_wp2_with fail
    refine H4.out.mono ?_
    rintro e w' ⟨rfl, rfl⟩
    go_wp2_with fail
    refine N1.out.mono ?_
    rintro e w' ⟨rfl, rfl⟩
    go_wp2_with fail
    refine N2.out.mono ?_
    rintro e w' ⟨rfl, rfl⟩
    go_wp2_with fail
    refine N4.out.mono ?_
    rintro e w' ⟨rfl, rfl⟩
    go_wp2_with fail
    refine N8.out.mono ?_
    rintro e w' ⟨rfl, rfl⟩
    go_wp2_with fail
    refine (alive03 _).mono ?_
    rintro e w1 ⟨rfl, hb1⟩
    go_wp2
    go_ret
    exact ⟨rfl, hb1⟩
end Go.Proofs.Ytlofceojchlmgaa
