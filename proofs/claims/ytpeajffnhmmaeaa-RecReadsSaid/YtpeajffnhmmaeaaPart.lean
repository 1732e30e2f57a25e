/-
  The contract of (View).Part.
-/
import Derived.Test.YtpeajffnhmmaeaaBuf1
import Derived.Test.YtpeajffnhmmaeaaBuf3
namespace Go.Proofs.Ytpeajffnhmmaeaa
set_option linter.unusedVariables false
open Go.RowKit

/-- what Part leaves where the part exists -/
def PartYes (w : World) (p : List UInt8) (e : Ending) (w' : World) : Prop :=
  ∃ A c, e = .returned (.tuple #[.slice A p.length c, .bool true]) ∧ Own w' A c p ∧ Fresh w A ∧ Below w.heap.size w w'

set_option maxRecDepth 20000 in
set_option maxHeartbeats 400000 in
theorem Part_no (A : Option Addr) (n c : Nat) (a m : Int) (w : World) (hn : n ≤ 9223372036854775807)
    (ha : -9223372036854775808 ≤ a ∧ a ≤ 9223372036854775807) (hm : -9223372036854775808 ≤ m ∧ m ≤ 9223372036854775807) (hx : exB a m n = false) :
    Calls Try.prog 77 #[.slice A n c, .int .i64 a, .int .i64 m] w fun e w' => e = .returned (.tuple #[.slice none 0 0, .bool false]) ∧ w = w' := by
  have H := Lib.hid (exists_any A n c a m w hn ha hm)
  have HX := Lib.hid hx
  clear hx
  go_enter Try.func77, Try.ntmps77
  go_wp2_with fail
  refine H.out.mono ?_
  rintro e w' ⟨rfl, rfl⟩
  rw [HX.out]
  go_wp2_with fail
  go_ret2
  exact ⟨rfl, rfl⟩

set_option maxRecDepth 20000 in
set_option maxHeartbeats 400000 in
theorem Part_nat (B : Nat) (A : Option Addr) (c : Nat) (xs : List UInt8) (a m : Nat) (w : World) (hR : Rd w B A xs) (hB : B ≤ w.heap.size) (hc : xs.length ≤ c) (hn : c ≤ 9223372036854775807) (hl : xs.length ≤ 140737488355328)
    (hx : a + m ≤ xs.length) :
    Calls Try.prog 77 #[.slice A xs.length c, .int .i64 (a : Int), .int .i64 (m : Int)] w (PartYes w (part xs a m)) := by
  have HX := Lib.hid (exB_true (a := a) (n := m) (len := xs.length) (by omega))
  have hpl := Lib.hid (part_length (m := m) hx)
  have H := Lib.hid (exists_any A xs.length c a m w (by omega) (by omega) (by omega))
  have HP : Hid (part xs a m = List.take (a + m - a) (List.drop a xs)) := by show _ = _; unfold part; rw [show a + m - a = m by omega]
  go_enter Try.func77, Try.ntmps77
  go_wp2_with (first
    | (go_at_call 96; refine H.out.mono ?_; rintro e w' ⟨rfl, rfl⟩; rw [HX.out])
    | (refine wpList_cut rfl (.tmp 13) (.tmp 14) (.tmp 17) 37 rfl rfl (by kernel_rfl) A xs.length c a (a + m) rfl rfl rfl (by omega) hx hc B xs rfl hR ?_; intro A' hA'))
  rw [← HP.out] at hA'
  refine (CloneV_any B A' m (c - a) (part xs a m) w hpl.out hA' hB (by rw [hpl.out]; omega)).mono ?_
  rintro e w1 ⟨A1, c1, rfl, ho, hf, hb⟩
  have HO := Lib.hid ho
  clear ho
  go_wp2_with fail
  go_ret2
  exact ⟨A1, c1, rfl, HO.out, hf, hb⟩
end Go.Proofs.Ytpeajffnhmmaeaa
