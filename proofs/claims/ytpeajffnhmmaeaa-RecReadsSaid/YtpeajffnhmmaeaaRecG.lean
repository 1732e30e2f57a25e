/-
  Contract of rec.open where the record does not exist; picks.
-/
import Derived.Test.YtpeajffnhmmaeaaRecF
namespace Go.Proofs.Ytpeajffnhmmaeaa
set_option linter.unusedVariables false
open Go.RowKit

set_option maxRecDepth 20000 in
set_option maxHeartbeats 400000 in
theorem open1_no (A : Option Addr) (n c : Nat) (a : Int) (w : World) (hn : n ≤ 9223372036854775807) (ha : -9223372036854775808 ≤ a ∧ a ≤ 9223372036854775807) (hX : exB a 56 n = false) :
    Calls Try.prog 50 #[.slice A n c, .int .i64 a, .int .i64 1] w fun e w' => e = .returned (.tuple #[.pointer none, .agg #[.int .i64 8, .int .i64 0, .int .i64 a]]) ∧ Below w.heap.size w w' := by
  have H := Lib.hid (fun (w1 : World) => Part_no A n c a 56 w1 hn ha (by omega) hX)
  clear hX
  go_enter Try.func50, Try.ntmps50
  go_wp2_with (first | (go_at_call 22; refine (Size_any _ _).mono ?_; rintro e w1 ⟨rfl, rfl⟩; rw [show sizeV 1 = 56 from rfl]) | fail)
  refine (H.out _).mono ?_
  rintro e w2 ⟨rfl, rfl⟩
  go_wp2
  refine bodyPost_ret (v := .tuple #[.pointer none, .agg #[.int .i64 8, .int .i64 0, .int .i64 a]]) (by simp [results, Try.results50, go_sem]) rfl ⟨rfl, ?_⟩
  exact (Below.refl _ w).alloc (Nat.le_refl _) _
set_option maxRecDepth 20000 in
set_option maxHeartbeats 400000 in
theorem open2_no (A : Option Addr) (n c : Nat) (a : Int) (w : World) (hn : n ≤ 9223372036854775807) (ha : -9223372036854775808 ≤ a ∧ a ≤ 9223372036854775807) (hX : exB a 24 n = false) :
    Calls Try.prog 50 #[.slice A n c, .int .i64 a, .int .i64 2] w fun e w' => e = .returned (.tuple #[.pointer none, .agg #[.int .i64 8, .int .i64 0, .int .i64 a]]) ∧ Below w.heap.size w w' := by
  have H := Lib.hid (fun (w1 : World) => Part_no A n c a 24 w1 hn ha (by omega) hX)
  clear hX
  go_enter Try.func50, Try.ntmps50
  go_wp2_with (first | (go_at_call 22; refine (Size_any _ _).mono ?_; rintro e w1 ⟨rfl, rfl⟩; rw [show sizeV 2 = 24 from rfl]) | fail)
  refine (H.out _).mono ?_
  rintro e w2 ⟨rfl, rfl⟩
  go_wp2
  refine bodyPost_ret (v := .tuple #[.pointer none, .agg #[.int .i64 8, .int .i64 0, .int .i64 a]]) (by simp [results, Try.results50, go_sem]) rfl ⟨rfl, ?_⟩
  exact (Below.refl _ w).alloc (Nat.le_refl _) _
set_option maxRecDepth 20000 in
set_option maxHeartbeats 400000 in
theorem open3_no (A : Option Addr) (n c : Nat) (a : Int) (w : World) (hn : n ≤ 9223372036854775807) (ha : -9223372036854775808 ≤ a ∧ a ≤ 9223372036854775807) (hX : exB a 24 n = false) :
    Calls Try.prog 50 #[.slice A n c, .int .i64 a, .int .i64 3] w fun e w' => e = .returned (.tuple #[.pointer none, .agg #[.int .i64 8, .int .i64 0, .int .i64 a]]) ∧ Below w.heap.size w w' := by
  have H := Lib.hid (fun (w1 : World) => Part_no A n c a 24 w1 hn ha (by omega) hX)
  clear hX
  go_enter Try.func50, Try.ntmps50
  go_wp2_with (first | (go_at_call 22; refine (Size_any _ _).mono ?_; rintro e w1 ⟨rfl, rfl⟩; rw [show sizeV 3 = 24 from rfl]) | fail)
  refine (H.out _).mono ?_
  rintro e w2 ⟨rfl, rfl⟩
  go_wp2
  refine bodyPost_ret (v := .tuple #[.pointer none, .agg #[.int .i64 8, .int .i64 0, .int .i64 a]]) (by simp [results, Try.results50, go_sem]) rfl ⟨rfl, ?_⟩
  exact (Below.refl _ w).alloc (Nat.le_refl _) _
set_option maxRecDepth 20000 in
set_option maxHeartbeats 400000 in
theorem open4_no (A : Option Addr) (n c : Nat) (a : Int) (w : World) (hn : n ≤ 9223372036854775807) (ha : -9223372036854775808 ≤ a ∧ a ≤ 9223372036854775807) (hX : exB a 48 n = false) :
    Calls Try.prog 50 #[.slice A n c, .int .i64 a, .int .i64 4] w fun e w' => e = .returned (.tuple #[.pointer none, .agg #[.int .i64 8, .int .i64 0, .int .i64 a]]) ∧ Below w.heap.size w w' := by
  have H := Lib.hid (fun (w1 : World) => Part_no A n c a 48 w1 hn ha (by omega) hX)
  clear hX
  go_enter Try.func50, Try.ntmps50
  go_wp2_with (first | (go_at_call 22; refine (Size_any _ _).mono ?_; rintro e w1 ⟨rfl, rfl⟩; rw [show sizeV 4 = 48 from rfl]) | fail)
  refine (H.out _).mono ?_
  rintro e w2 ⟨rfl, rfl⟩
  go_wp2
  refine bodyPost_ret (v := .tuple #[.pointer none, .agg #[.int .i64 8, .int .i64 0, .int .i64 a]]) (by simp [results, Try.results50, go_sem]) rfl ⟨rfl, ?_⟩
  exact (Below.refl _ w).alloc (Nat.le_refl _) _
set_option maxRecDepth 20000 in
set_option maxHeartbeats 400000 in
theorem open5_no (A : Option Addr) (n c : Nat) (a : Int) (w : World) (hn : n ≤ 9223372036854775807) (ha : -9223372036854775808 ≤ a ∧ a ≤ 9223372036854775807) (hX : exB a 8 n = false) :
    Calls Try.prog 50 #[.slice A n c, .int .i64 a, .int .i64 5] w fun e w' => e = .returned (.tuple #[.pointer none, .agg #[.int .i64 8, .int .i64 0, .int .i64 a]]) ∧ Below w.heap.size w w' := by
  have H := Lib.hid (fun (w1 : World) => Part_no A n c a 8 w1 hn ha (by omega) hX)
  clear hX
  go_enter Try.func50, Try.ntmps50
  go_wp2_with (first | (go_at_call 22; refine (Size_any _ _).mono ?_; rintro e w1 ⟨rfl, rfl⟩; rw [show sizeV 5 = 8 from rfl]) | fail)
  refine (H.out _).mono ?_
  rintro e w2 ⟨rfl, rfl⟩
  go_wp2
  refine bodyPost_ret (v := .tuple #[.pointer none, .agg #[.int .i64 8, .int .i64 0, .int .i64 a]]) (by simp [results, Try.results50, go_sem]) rfl ⟨rfl, ?_⟩
  exact (Below.refl _ w).alloc (Nat.le_refl _) _
set_option maxRecDepth 20000 in
set_option maxHeartbeats 400000 in
theorem open6_no (A : Option Addr) (n c : Nat) (a : Int) (w : World) (hn : n ≤ 9223372036854775807) (ha : -9223372036854775808 ≤ a ∧ a ≤ 9223372036854775807) (hX : exB a 8 n = false) :
    Calls Try.prog 50 #[.slice A n c, .int .i64 a, .int .i64 6] w fun e w' => e = .returned (.tuple #[.pointer none, .agg #[.int .i64 8, .int .i64 0, .int .i64 a]]) ∧ Below w.heap.size w w' := by
  have H := Lib.hid (fun (w1 : World) => Part_no A n c a 8 w1 hn ha (by omega) hX)
  clear hX
  go_enter Try.func50, Try.ntmps50
  go_wp2_with (first | (go_at_call 22; refine (Size_any _ _).mono ?_; rintro e w1 ⟨rfl, rfl⟩; rw [show sizeV 6 = 8 from rfl]) | fail)
  refine (H.out _).mono ?_
  rintro e w2 ⟨rfl, rfl⟩
  go_wp2
  refine bodyPost_ret (v := .tuple #[.pointer none, .agg #[.int .i64 8, .int .i64 0, .int .i64 a]]) (by simp [results, Try.results50, go_sem]) rfl ⟨rfl, ?_⟩
  exact (Below.refl _ w).alloc (Nat.le_refl _) _
theorem pickLink (P : Prop) [Decidable P] (x0 : Int) (x1 : Int) : ∃ (y0 : Int) (y1 : Int), (if P then #[.int .u16 x0, .int .u16 x1] else #[.int .u16 0, .int .u16 0] : Array Value) = #[.int .u16 y0, .int .u16 y1] := by
  by_cases h : P
  · exact ⟨x0, x1, if_pos h⟩
  · exact ⟨0, 0, if_neg h⟩
theorem pickHead (P : Prop) [Decidable P] (x0 : Int) (x1 : Int) (x2 : Int) : ∃ (y0 : Int) (y1 : Int) (y2 : Int), (if P then #[.int .u16 x0, .int .u16 x1, .int .u16 x2] else #[.int .u16 0, .int .u16 0, .int .u16 0] : Array Value) = #[.int .u16 y0, .int .u16 y1, .int .u16 y2] := by
  by_cases h : P
  · exact ⟨x0, x1, x2, if_pos h⟩
  · exact ⟨0, 0, 0, if_neg h⟩
theorem pickWindow (P : Prop) [Decidable P] (x0 : Int) (x1 : Int) (x2 : Int) : ∃ (y0 : Int) (y1 : Int) (y2 : Int), (if P then #[.int .u64 x0, .int .u64 x1, .int .u16 x2] else #[.int .u64 0, .int .u64 0, .int .u16 0] : Array Value) = #[.int .u64 y0, .int .u64 y1, .int .u16 y2] := by
  by_cases h : P
  · exact ⟨x0, x1, x2, if_pos h⟩
  · exact ⟨0, 0, 0, if_neg h⟩
theorem pickRegion (P : Prop) [Decidable P] (x0 : Int) (x1 : Int) (x2 : Int) (x3 : Int) (x4 : Bool) : ∃ (y0 : Int) (y1 : Int) (y2 : Int) (y3 : Int) (y4 : Bool), (if P then #[.int .u64 x0, .int .u64 x1, .int .u16 x2, .int .u8 x3, .bool x4] else #[.int .u64 0, .int .u64 0, .int .u16 0, .int .u8 0, .bool false] : Array Value) = #[.int .u64 y0, .int .u64 y1, .int .u16 y2, .int .u8 y3, .bool y4] := by
  by_cases h : P
  · exact ⟨x0, x1, x2, x3, x4, if_pos h⟩
  · exact ⟨0, 0, 0, 0, false, if_neg h⟩
theorem pickPartition (P : Prop) [Decidable P] (x0 : Int) (x1 : ByteArray) (x2 : Int) (x3 : Int) : ∃ (y0 : Int) (y1 : ByteArray) (y2 : Int) (y3 : Int), (if P then #[.int .u16 x0, .string x1, .int .u64 x2, .int .u64 x3] else #[.int .u16 0, .string ⟨#[]⟩, .int .u64 0, .int .u64 0] : Array Value) = #[.int .u16 y0, .string y1, .int .u64 y2, .int .u64 y3] := by
  by_cases h : P
  · exact ⟨x0, x1, x2, x3, if_pos h⟩
  · exact ⟨0, ⟨#[]⟩, 0, 0, if_neg h⟩
theorem pickPort (P : Prop) [Decidable P] (x0 : Int) (x1 : Int) (x2 : ByteArray) (x3 : Bool) (x4 : Bool) (x5 : Int) : ∃ (y0 : Int) (y1 : Int) (y2 : ByteArray) (y3 : Bool) (y4 : Bool) (y5 : Int), (if P then #[.int .u16 x0, .int .u16 x1, .string x2, .bool x3, .bool x4, .int .u32 x5] else #[.int .u16 0, .int .u16 0, .string ⟨#[]⟩, .bool false, .bool false, .int .u32 0] : Array Value) = #[.int .u16 y0, .int .u16 y1, .string y2, .bool y3, .bool y4, .int .u32 y5] := by
  by_cases h : P
  · exact ⟨x0, x1, x2, x3, x4, x5, if_pos h⟩
  · exact ⟨0, 0, ⟨#[]⟩, false, false, 0, if_neg h⟩
/-- what a Get function leaves -/
def GetOK (R : Array Value) (fc fa : Int) (w : World) (e : Ending) (w' : World) : Prop := e = .returned (.tuple #[.agg R, .agg #[.int .i64 fc, .int .i64 0, .int .i64 fa]]) ∧ Below w.heap.size w w'
end Go.Proofs.Ytpeajffnhmmaeaa
