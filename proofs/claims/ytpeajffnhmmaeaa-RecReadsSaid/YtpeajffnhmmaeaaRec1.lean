/-
  The reader of package rec, and what it reads.
-/
import Derived.Test.YtpeajffnhmmaeaaBuf2
import Derived.Test.YtpeajffnhmmaeaaPart
import Derived.Test.YtpeajffnhmmaeaaDirty
import Derived.IntWalk
import Derived.Deep.QuietTactic
import Derived.BigQuiet
namespace Go.Proofs.Ytpeajffnhmmaeaa
set_option linter.unusedVariables false
open Go.RowKit

/-- the reader in block r: of the bytes at A, at the offset a; its two faults -/
structure Rdr (w : World) (r : Nat) (A : Option Addr) (n c : Nat) (a fc fa dc da : Int) : Prop where
  obj : w.heap[r]? = some (.cells #[.slice A n c, .int .i64 a, .int .i64 fc, .int .i64 0, .int .i64 fa, .int .i64 dc, .int .i64 0, .int .i64 da] 138 (0, 0))
section
variable {w w' : World} {r n c : Nat} {A : Option Addr} {a fc fa dc da : Int}
theorem Rdr.cells (h : Rdr w r A n c a fc fa dc da) : w.cell? ⟨r, 0, none⟩ = some (.slice A n c) ∧ w.cell? ⟨r, 1, none⟩ = some (.int .i64 a) ∧ w.cell? ⟨r, 2, none⟩ = some (.int .i64 fc) ∧ w.cell? ⟨r, 3, none⟩ = some (.int .i64 0) ∧ w.cell? ⟨r, 4, none⟩ = some (.int .i64 fa) ∧ w.cell? ⟨r, 5, none⟩ = some (.int .i64 dc) ∧ w.cell? ⟨r, 6, none⟩ = some (.int .i64 0) ∧ w.cell? ⟨r, 7, none⟩ = some (.int .i64 da) := by
  refine ⟨?_, ?_, ?_, ?_, ?_, ?_, ?_, ?_⟩ <;> (rw [cell_of_row w r _ _ _ (0, 0) h.obj]; rfl)
theorem Rdr.frozen (h : Rdr w r A n c a fc fa dc da) (k : Nat) : w.frozen? ⟨r, k, none⟩ = false := by simp [World.frozen?, h.obj]
theorem Rdr.lt (h : Rdr w r A n c a fc fa dc da) : r < w.heap.size := (Array.getElem?_eq_some_iff.1 h.obj).1
theorem Rdr.drewN (h : Rdr w r A n c a fc fa dc da) (k : Nat) : Rdr (w.drewN k) r A n c a fc fa dc da := ⟨h.obj⟩
theorem Rdr.below (h : Rdr w r A n c a fc fa dc da) (hb : Below w.heap.size w w') : Rdr w' r A n c a fc fa dc da := ⟨(hb.block r h.lt).trans h.obj⟩
end

set_option maxRecDepth 20000 in
set_option maxHeartbeats 400000 in
theorem get_u8 (B : Nat) (A : Option Addr) (c : Nat) (xs : List UInt8) (a off fc fa dc da : Int) (r : Nat) (w : World) (hr : Rdr w r A xs.length c a fc fa dc da) (hR : Rd w B A xs) (hc : xs.length ≤ c) (hn : c ≤ 9223372036854775807)
    (ha : -9223372036854775808 ≤ a + off ∧ a + off ≤ 9223372036854775807) :
    Calls Try.prog 101 #[.pointer (some ⟨r, 0, none⟩), .int .i64 off, .func (.func 102) #[] #[]] w fun e w' =>
      e = .returned (.int .u8 ((numV xs (a + off) 1 : Nat) : Int)) ∧ ∃ d, w' = w.drewN d := by
  obtain ⟨h0, h1, _⟩ := hr.cells
  have H := Lib.hid (fun d => U8_any B A c xs (a + off) (w.drewN d) hR hc hn ha)
  have hw : IntKind.i64.wrap (a + off) = a + off := IntWalk.i64_in _ (by omega)
  clear hR hr
  go_enter Try.func101, Try.ntmps101
  go_wp2_with fail
  go_quiet (exact (H.out _).mono (fun e w'' ⟨he, hw⟩ => ⟨he, _, hw.symm⟩))
  go_wp2
  go_ret
  exact ⟨rfl, _, rfl⟩
theorem rd_u8 (B : Nat) (A : Option Addr) (c : Nat) (xs : List UInt8) (a off fc fa dc da : Int) (r : Nat) (w : World) (hr : Rdr w r A xs.length c a fc fa dc da) (hR : Rd w B A xs) (hc : xs.length ≤ c) (hn : c ≤ 9223372036854775807)
    (ha : -9223372036854775808 ≤ a + off ∧ a + off ≤ 9223372036854775807) :
    Calls Try.prog 82 #[.pointer (some ⟨r, 0, none⟩), .int .i64 off] w fun e w' =>
      e = .returned (.int .u8 ((numV xs (a + off) 1 : Nat) : Int)) ∧ ∃ d, w' = w.drewN d := by
  have H := Lib.hid (get_u8 B A c xs a off fc fa dc da r w hr hR hc hn ha)
  clear hr hR
  go_enter Try.func82, Try.ntmps82
  go_wp2_with fail
  refine H.out.mono ?_
  rintro e w1 ⟨rfl, d, rfl⟩
  go_wp2_with fail
  go_ret
  exact ⟨rfl, _, rfl⟩
set_option maxRecDepth 20000 in
set_option maxHeartbeats 400000 in
theorem get_u16 (B : Nat) (A : Option Addr) (c : Nat) (xs : List UInt8) (a off fc fa dc da : Int) (r : Nat) (w : World) (hr : Rdr w r A xs.length c a fc fa dc da) (hR : Rd w B A xs) (hc : xs.length ≤ c) (hn : c ≤ 9223372036854775807)
    (ha : -9223372036854775808 ≤ a + off ∧ a + off ≤ 9223372036854775807) :
    Calls Try.prog 79 #[.pointer (some ⟨r, 0, none⟩), .int .i64 off, .func (.func 80) #[] #[]] w fun e w' =>
      e = .returned (.int .u16 ((numV xs (a + off) 2 : Nat) : Int)) ∧ ∃ d, w' = w.drewN d := by
  obtain ⟨h0, h1, _⟩ := hr.cells
  have H := Lib.hid (fun d => U16_any B A c xs (a + off) (w.drewN d) hR hc hn ha)
  have hw : IntKind.i64.wrap (a + off) = a + off := IntWalk.i64_in _ (by omega)
  clear hR hr
  go_enter Try.func79, Try.ntmps79
  go_wp2_with fail
  go_quiet (exact (H.out _).mono (fun e w'' ⟨he, hw⟩ => ⟨he, _, hw.symm⟩))
  go_wp2
  go_ret
  exact ⟨rfl, _, rfl⟩
theorem rd_u16 (B : Nat) (A : Option Addr) (c : Nat) (xs : List UInt8) (a off fc fa dc da : Int) (r : Nat) (w : World) (hr : Rdr w r A xs.length c a fc fa dc da) (hR : Rd w B A xs) (hc : xs.length ≤ c) (hn : c ≤ 9223372036854775807)
    (ha : -9223372036854775808 ≤ a + off ∧ a + off ≤ 9223372036854775807) :
    Calls Try.prog 52 #[.pointer (some ⟨r, 0, none⟩), .int .i64 off] w fun e w' =>
      e = .returned (.int .u16 ((numV xs (a + off) 2 : Nat) : Int)) ∧ ∃ d, w' = w.drewN d := by
  have H := Lib.hid (get_u16 B A c xs a off fc fa dc da r w hr hR hc hn ha)
  clear hr hR
  go_enter Try.func52, Try.ntmps52
  go_wp2_with fail
  refine H.out.mono ?_
  rintro e w1 ⟨rfl, d, rfl⟩
  go_wp2_with fail
  go_ret
  exact ⟨rfl, _, rfl⟩
set_option maxRecDepth 20000 in
set_option maxHeartbeats 400000 in
theorem get_u32 (B : Nat) (A : Option Addr) (c : Nat) (xs : List UInt8) (a off fc fa dc da : Int) (r : Nat) (w : World) (hr : Rdr w r A xs.length c a fc fa dc da) (hR : Rd w B A xs) (hc : xs.length ≤ c) (hn : c ≤ 9223372036854775807)
    (ha : -9223372036854775808 ≤ a + off ∧ a + off ≤ 9223372036854775807) :
    Calls Try.prog 84 #[.pointer (some ⟨r, 0, none⟩), .int .i64 off, .func (.func 85) #[] #[]] w fun e w' =>
      e = .returned (.int .u32 ((numV xs (a + off) 4 : Nat) : Int)) ∧ ∃ d, w' = w.drewN d := by
  obtain ⟨h0, h1, _⟩ := hr.cells
  have H := Lib.hid (fun d => U32_any B A c xs (a + off) (w.drewN d) hR hc hn ha)
  have hw : IntKind.i64.wrap (a + off) = a + off := IntWalk.i64_in _ (by omega)
  clear hR hr
  go_enter Try.func84, Try.ntmps84
  go_wp2_with fail
  go_quiet (exact (H.out _).mono (fun e w'' ⟨he, hw⟩ => ⟨he, _, hw.symm⟩))
  go_wp2
  go_ret
  exact ⟨rfl, _, rfl⟩
theorem rd_u32 (B : Nat) (A : Option Addr) (c : Nat) (xs : List UInt8) (a off fc fa dc da : Int) (r : Nat) (w : World) (hr : Rdr w r A xs.length c a fc fa dc da) (hR : Rd w B A xs) (hc : xs.length ≤ c) (hn : c ≤ 9223372036854775807)
    (ha : -9223372036854775808 ≤ a + off ∧ a + off ≤ 9223372036854775807) :
    Calls Try.prog 54 #[.pointer (some ⟨r, 0, none⟩), .int .i64 off] w fun e w' =>
      e = .returned (.int .u32 ((numV xs (a + off) 4 : Nat) : Int)) ∧ ∃ d, w' = w.drewN d := by
  have H := Lib.hid (get_u32 B A c xs a off fc fa dc da r w hr hR hc hn ha)
  clear hr hR
  go_enter Try.func54, Try.ntmps54
  go_wp2_with fail
  refine H.out.mono ?_
  rintro e w1 ⟨rfl, d, rfl⟩
  go_wp2_with fail
  go_ret
  exact ⟨rfl, _, rfl⟩
set_option maxRecDepth 20000 in
set_option maxHeartbeats 400000 in
theorem get_u64 (B : Nat) (A : Option Addr) (c : Nat) (xs : List UInt8) (a off fc fa dc da : Int) (r : Nat) (w : World) (hr : Rdr w r A xs.length c a fc fa dc da) (hR : Rd w B A xs) (hc : xs.length ≤ c) (hn : c ≤ 9223372036854775807)
    (ha : -9223372036854775808 ≤ a + off ∧ a + off ≤ 9223372036854775807) :
    Calls Try.prog 87 #[.pointer (some ⟨r, 0, none⟩), .int .i64 off, .func (.func 88) #[] #[]] w fun e w' =>
      e = .returned (.int .u64 ((numV xs (a + off) 8 : Nat) : Int)) ∧ ∃ d, w' = w.drewN d := by
  obtain ⟨h0, h1, _⟩ := hr.cells
  have H := Lib.hid (fun d => U64_any B A c xs (a + off) (w.drewN d) hR hc hn ha)
  have hw : IntKind.i64.wrap (a + off) = a + off := IntWalk.i64_in _ (by omega)
  clear hR hr
  go_enter Try.func87, Try.ntmps87
  go_wp2_with fail
  go_quiet (exact (H.out _).mono (fun e w'' ⟨he, hw⟩ => ⟨he, _, hw.symm⟩))
  go_wp2
  go_ret
  exact ⟨rfl, _, rfl⟩
theorem rd_u64 (B : Nat) (A : Option Addr) (c : Nat) (xs : List UInt8) (a off fc fa dc da : Int) (r : Nat) (w : World) (hr : Rdr w r A xs.length c a fc fa dc da) (hR : Rd w B A xs) (hc : xs.length ≤ c) (hn : c ≤ 9223372036854775807)
    (ha : -9223372036854775808 ≤ a + off ∧ a + off ≤ 9223372036854775807) :
    Calls Try.prog 63 #[.pointer (some ⟨r, 0, none⟩), .int .i64 off] w fun e w' =>
      e = .returned (.int .u64 ((numV xs (a + off) 8 : Nat) : Int)) ∧ ∃ d, w' = w.drewN d := by
  have H := Lib.hid (get_u64 B A c xs a off fc fa dc da r w hr hR hc hn ha)
  clear hr hR
  go_enter Try.func63, Try.ntmps63
  go_wp2_with fail
  refine H.out.mono ?_
  rintro e w1 ⟨rfl, d, rfl⟩
  go_wp2_with fail
  go_ret
  exact ⟨rfl, _, rfl⟩
end Go.Proofs.Ytpeajffnhmmaeaa
