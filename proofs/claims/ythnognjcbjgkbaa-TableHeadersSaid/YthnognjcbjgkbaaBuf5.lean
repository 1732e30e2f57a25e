/-
  Contracts of package buf: (*Builder).U8 to U64.
-/
import Derived.Test.YthnognjcbjgkbaaBuf2
import Derived.Test.YthnognjcbjgkbaaBuf4
import Derived.Test.YthnognjcbjgkbaaEqual
namespace Go.Proofs.Ythnognjcbjgkbaa
set_option linter.unusedVariables false
open Go.RowKit

theorem putU16 (g c : Nat) (A : Option Addr) (xs : List UInt8) (x : Nat) (w : World) (hb : Bld w g A c xs) (hx : x < 18446744073709551616) (hlen : xs.length + 2 ≤ 140737488355328) :
    Calls Try.prog 41 #[.pointer (some ⟨g, 0, none⟩), .int .u16 (x : Int)] w fun e w' => e = .returned (.tuple #[]) ∧ Grew w g A (xs ++ leB x 2) w' := by
  have H := Lib.hid (put_u16 g c A xs x 2 w hb (by omega) hx hlen)
  clear hb hx hlen
  go_enter Try.func41, Try.ntmps41
  go_wp2_with fail
  refine H.out.mono ?_
  rintro e w1 ⟨rfl, hG⟩
  go_wp2_with fail
  go_end0
  exact ⟨rfl, hG⟩
theorem putU32 (g c : Nat) (A : Option Addr) (xs : List UInt8) (x : Nat) (w : World) (hb : Bld w g A c xs) (hx : x < 18446744073709551616) (hlen : xs.length + 4 ≤ 140737488355328) :
    Calls Try.prog 42 #[.pointer (some ⟨g, 0, none⟩), .int .u32 (x : Int)] w fun e w' => e = .returned (.tuple #[]) ∧ Grew w g A (xs ++ leB x 4) w' := by
  have H := Lib.hid (put_u32 g c A xs x 4 w hb (by omega) hx hlen)
  clear hb hx hlen
  go_enter Try.func42, Try.ntmps42
  go_wp2_with fail
  refine H.out.mono ?_
  rintro e w1 ⟨rfl, hG⟩
  go_wp2_with fail
  go_end0
  exact ⟨rfl, hG⟩
theorem putU64 (g c : Nat) (A : Option Addr) (xs : List UInt8) (x : Nat) (w : World) (hb : Bld w g A c xs) (hx : x < 18446744073709551616) (hlen : xs.length + 8 ≤ 140737488355328) :
    Calls Try.prog 43 #[.pointer (some ⟨g, 0, none⟩), .int .u64 (x : Int)] w fun e w' => e = .returned (.tuple #[]) ∧ Grew w g A (xs ++ leB x 8) w' := by
  have H := Lib.hid (put_u64 g c A xs x 8 w hb (by omega) hx hlen)
  clear hb hx hlen
  go_enter Try.func43, Try.ntmps43
  go_wp2_with fail
  refine H.out.mono ?_
  rintro e w1 ⟨rfl, hG⟩
  go_wp2_with fail
  go_end0
  exact ⟨rfl, hG⟩

end Go.Proofs.Ythnognjcbjgkbaa
