/-
  Contracts of rec.done, at a reader without a fault.
-/
import Derived.Test.YtpeajffnhmmaeaaRec3
namespace Go.Proofs.Ytpeajffnhmmaeaa
set_option linter.unusedVariables false
open Go.RowKit

theorem two_after {w : World} {q ty : Nat} {a b : Value} (hq : w.heap[q]? = some (.cells #[a, b] ty (0, 0))) (x y : Value) :
    ((w.setCell ⟨q, 0, none⟩ x).setCell ⟨q, 1, none⟩ y).heap[q]? = some (.cells #[x, y] ty (0, 0)) := by
  simp [World.setCell, Array.getElem?_modify, hq]

set_option maxRecDepth 20000 in
set_option maxHeartbeats 400000 in
theorem doneLink_ok (A : Option Addr) (n c : Nat) (a : Int) (r : Nat) (w : World) (hr : Rdr w r A n c a 0 0 0 0) (x y : Int) :
    Calls Try.prog 68 #[.pointer (some ⟨r, 0, none⟩), .agg #[.int .u16 x, .int .u16 y]] w fun e w' =>
      e = .returned (.tuple #[.agg #[.int .u16 x, .int .u16 y], .agg #[.int .i64 0, .int .i64 0, .int .i64 0]]) ∧ Below w.heap.size w w' := by
  obtain ⟨h0, h1, h2, h3, h4, h5, h6, h7⟩ := hr.cells
  have hlt := hr.lt
  have HR := Lib.hid hr
  clear hr h0 h1
  have up : ∀ k v, w.cell? ⟨r, k, none⟩ = some v → ∀ o1 o2 o3 o4, ((((w.alloc o1).alloc o2).alloc o3).alloc o4).cell? ⟨r, k, none⟩ = some v := by
    intro k v hk o1 o2 o3 o4
    rw [World.cell?_alloc_lt _ _ _ (by simp; omega), World.cell?_alloc_lt _ _ _ (by simp; omega), World.cell?_alloc_lt _ _ _ (by simp; omega), World.cell?_alloc_lt _ _ _ (by simpa using hlt), hk]
  have u2 := up _ _ h2
  have u3 := up _ _ h3
  have u4 := up _ _ h4
  have u5 := up _ _ h5
  have u6 := up _ _ h6
  have u7 := up _ _ h7
  clear h2 h3 h4 h5 h6 h7 up
  go_enter Try.func68, Try.ntmps68
  go_wp2
  refine bodyPost_ret (v := .tuple #[.agg #[.int .u16 x, .int .u16 y], .agg #[.int .i64 0, .int .i64 0, .int .i64 0]]) (by simp [results, Try.results68, go_sem]) rfl ⟨rfl, ?_⟩
  exact ((((Below.refl _ w).alloc (Nat.le_refl _) _).alloc (by simp) _).alloc (by simp; omega) _).alloc (by simp; omega) _
end Go.Proofs.Ytpeajffnhmmaeaa
