/-
  append to a row of the call's own, at an operation that is guarded and wanted.
-/
import Derived.Test.YtkpdeldegdngaaaOwn
namespace Go.Proofs.Ytkpdeldegdngaaa
set_option linter.unusedVariables false
open Go.RowKit

section
variable {P : Program} {w : World} {ops : Array Oper} {rest : List Oper} {o : Oper} {a : Act} {Q : Exit → Act → World → Prop}
theorem wpList_app_g (hw : Region.wanted o (yielded ops a.tmps) = true) (s x : Operand) (T : TypeId) (ho : o.op = .call { callee := .builtin .append, args := #[s, x], argTypes := #[T, T] })
    (ht : P.underlying T = some (.slice U8t)) (hinfo : (P.info? U8t).map (fun i => (i.zero, i.size, i.bytes)) = some (some (.int .u8 0), 1, 1))
    (A : Option Addr) (n c : Nat) (xs : List UInt8) (hn : xs.length = n) (hs : a.eval s = .slice A n c) (hown : Own w A c xs) (B : Nat) (X : Option Addr) (m cx : Nat) (ys : List UInt8) (hm : ys.length = m) (hx : a.eval x = .slice X m cx) (hR : Rd w B X ys) (hlen : xs.length + ys.length ≤ 140737488355328)
    (h : ∀ A' c' w', Own w' A' c' (xs ++ ys) → w.grownBy w' (blk A) → (blk A' = blk A ∨ blk A' = some w.heap.size) → (A' = none → A = none ∧ ys = []) → wpList P ops Q rest (a.put o.dst (.slice A' (xs ++ ys).length c')) w') : wpList P ops Q (o :: rest) a w := by
  subst hn
  refine wpList_step fun K hK => ?_
  rw [if_pos hw]
  obtain ⟨A', c', w', hr, h2, h3, h4, h5⟩ := run_app (P := P) (w := w) T o.type ht hinfo A c xs hown B X m cx ys hm hR hlen
  unfold Oper.wp execOp
  simp only [ho, resolve, invoke, builtin, Sem.run_bind, Sem.run_pure, Result.andThen_ok, List.map_toArray, List.map_cons, List.map_nil, hs, hx, hr]
  exact hK _ _ (h A' c' w' h2 h3 h4 h5)
end
end Go.Proofs.Ytkpdeldegdngaaa
