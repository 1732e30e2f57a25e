/-
  What the laws on named records keep between their steps.
-/
import Derived.Test.YtpeajffnhmmaeaaClr
import Derived.Test.YtpeajffnhmmaeaaBOk
import Derived.Test.YtpeajffnhmmaeaaRecE
namespace Go.Proofs.Ytpeajffnhmmaeaa
set_option linter.unusedVariables false
open Go.RowKit

/-- what the law keeps: its first parameter, the builder, variables made since -/
structure NmSt (w0 u : World) (A : Option Addr) (xs : List UInt8) (g : Nat) (S : List UInt8) (rows : List (Nat × Obj)) : Prop where
  rd : Rd u w0.heap.size A xs
  bld : BOk w0 u g S
  rows : ∀ p ∈ rows, u.heap[p.1]? = some p.2
section
variable {w0 u u' : World} {A : Option Addr} {xs S : List UInt8} {g : Nat} {rows : List (Nat × Obj)}
theorem NmSt.next (h : NmSt w0 u A xs g S rows) (hb : Below u.heap.size u u') : NmSt w0 u' A xs g S rows :=
  ⟨h.rd.below (hb.mono h.bld.bel.size), h.bld.next hb, fun p hp => row_later (h.rows p hp) hb⟩
theorem NmSt.two (h : NmSt w0 u A xs g S rows) (o1 o2 : Obj) : NmSt w0 ((u.alloc o1).alloc o2) A xs g S ((u.heap.size, o1) :: (u.heap.size + 1, o2) :: rows) := by
  have h1 := h.next (((Below.refl _ u).alloc (Nat.le_refl _) o1).alloc (by simp) o2)
  refine ⟨h1.rd, h1.bld, fun p hp => ?_⟩
  rcases List.mem_cons.1 hp with rfl | hp
  · exact (two_new u o1 o2).1
  rcases List.mem_cons.1 hp with rfl | hp
  · exact (two_new u o1 o2).2
  · exact h1.rows p hp
end

end Go.Proofs.Ytpeajffnhmmaeaa
