/-
  Contract of rec.open.
-/
import Derived.Test.YtpeajffnhmmaeaaRec2
namespace Go.Proofs.Ytpeajffnhmmaeaa
set_option linter.unusedVariables false
open Go.RowKit

/-- a result variable of three cells, after its stores -/
theorem three_after {w : World} {q ty : Nat} {a b c : Value} (hq : w.heap[q]? = some (.cells #[a, b, c] ty (0, 0))) (x y z : Value) :
    (((w.setCell ⟨q, 0, none⟩ x).setCell ⟨q, 1, none⟩ y).setCell ⟨q, 2, none⟩ z).heap[q]? = some (.cells #[x, y, z] ty (0, 0)) := by
  simp [World.setCell, Array.getElem?_modify, hq]
theorem three_cells {w : World} {q ty : Nat} {x y z : Value} (hq : w.heap[q]? = some (.cells #[x, y, z] ty (0, 0))) :
    w.cell? ⟨q, 0, none⟩ = some x ∧ w.cell? ⟨q, 1, none⟩ = some y ∧ w.cell? ⟨q, 2, none⟩ = some z := by
  refine ⟨?_, ?_, ?_⟩ <;> (rw [cell_of_row w q _ _ _ (0, 0) hq]; rfl)

/-- what open leaves where the record exists -/
def Opened (w : World) (A : Option Addr) (n c : Nat) (a : Int) (e : Ending) (w' : World) : Prop :=
  ∃ r, e = .returned (.tuple #[.pointer (some ⟨r, 0, none⟩), .agg #[.int .i64 0, .int .i64 0, .int .i64 0]]) ∧ Rdr w' r A n c a 0 0 0 0 ∧ w.heap.size ≤ r ∧ Below w.heap.size w w'

set_option maxRecDepth 20000 in
set_option maxHeartbeats 400000 in
theorem open6_yes (B : Nat) (A : Option Addr) (c : Nat) (xs : List UInt8) (a : Nat) (w : World) (hR : Rd w B A xs) (hB : B ≤ w.heap.size) (hc : xs.length ≤ c) (hn : c ≤ 9223372036854775807) (hl : xs.length ≤ 140737488355328)
    (hx : a + 8 ≤ xs.length) :
    Calls Try.prog 50 #[.slice A xs.length c, .int .i64 (a : Int), .int .i64 6] w (Opened w A xs.length c a) := by
  have H := Lib.hid (fun (w1 : World) (hR : Rd w1 B A xs) (hB : B ≤ w1.heap.size) => Part_nat B A c xs a 8 w1 hR hB hc hn hl hx)
  have HR := Lib.hid hR
  clear hR hx hc hn hl
  generalize part xs a 8 = p at *
  generalize xs.length = n at *
  go_enter Try.func50, Try.ntmps50
  go_wp2_with (first | (go_at_call 22; refine (Size_any _ _).mono ?_; rintro e w1 ⟨rfl, rfl⟩; rw [show sizeV 6 = 8 from rfl]) | fail)
  refine (H.out _ (HR.out.alloc hB _) (by simp; omega)).mono ?_
  rintro e w2 ⟨A2, c2, rfl, ho, hf, hb⟩
  have hq := Lib.hid ((hb.block w.heap.size (by simp)).trans (heap_alloc_new w _))
  have k0 : w2.cell? ⟨w.heap.size, 0, none⟩ = some (.int .i64 0) := by rw [cell_of_row w2 _ 0 _ _ (0, 0) hq.out]; rfl
  have k1 : w2.cell? ⟨w.heap.size, 1, none⟩ = some (.int .i64 0) := by rw [cell_of_row w2 _ 1 _ _ (0, 0) hq.out]; rfl
  have k2 : w2.cell? ⟨w.heap.size, 2, none⟩ = some (.int .i64 0) := by rw [cell_of_row w2 _ 2 _ _ (0, 0) hq.out]; rfl
  have kf : ∀ k, w2.frozen? ⟨w.heap.size, k, none⟩ = false := by intro k; simp [World.frozen?, hq.out]
  have hs : w.heap.size + 1 ≤ w2.heap.size := by have := hb.size; simpa using this
  have HB := Lib.hid (((Below.refl w.heap.size w).alloc (Nat.le_refl _) _).trans (hb.mono (by simp)))
  clear ho hf hb
  have hlt : w.heap.size < w2.heap.size := by omega
  go_wp2
  have hW := (Below.heap_alloc _ (Obj.cells #[.slice A n c, .int .i64 a, .int .i64 0, .int .i64 0, .int .i64 0, .int .i64 0, .int .i64 0, .int .i64 0] 138) w.heap.size (by simp; omega)).trans (three_after hq.out (.int .i64 0) (.int .i64 0) (.int .i64 0))
  obtain ⟨z0, z1, z2⟩ := three_cells hW
  refine bodyPost_ret (v := .tuple #[.pointer (some ⟨w2.heap.size, 0, none⟩), .agg #[.int .i64 0, .int .i64 0, .int .i64 0]]) (by simp [results, Try.results50, go_sem, z0, z1, z2]) rfl ?_
  clear z0 z1 z2 hW
  refine ⟨w2.heap.size, rfl, ⟨?_⟩, by omega, ?_⟩
  · have h := heap_alloc_new (((w2.setCell ⟨w.heap.size, 0, none⟩ (.int .i64 0)).setCell ⟨w.heap.size, 1, none⟩ (.int .i64 0)).setCell ⟨w.heap.size, 2, none⟩ (.int .i64 0)) (Obj.cells #[.slice A n c, .int .i64 a, .int .i64 0, .int .i64 0, .int .i64 0, .int .i64 0, .int .i64 0, .int .i64 0] 138)
    simpa using h
  · exact (((HB.out.setCell (Nat.le_refl _) _).setCell (Nat.le_refl _) _).setCell (Nat.le_refl _) _).alloc (by simp; omega) _
end Go.Proofs.Ytpeajffnhmmaeaa
