/-
  A region stepped by hand (HeldZ), where two operations may come up; stores of a whole row. No program is named.
-/
import Derived.Test.YthnognjcbjgkbaaHeldZ
import Derived.BigQuiet
import Derived.OwnWalkIn
namespace Go.Proofs.Ythnognjcbjgkbaa
set_option linter.unusedVariables false
open Go Go.RowKit

section
variable {P : Program} {ops : Array Oper} {Q : Exit → Act → World → Prop} {md : Region.Mode} {S : World → Prop} {z : Nat}
/-- two may come up -/
theorem anyZ_two (i j : Nat) {oi oj : Oper} {fuel : Nat} {L : Array Bool} {a : Act} {w : World} (hi : ops[i]? = some oi) (hj : ops[j]? = some oj) (hr : Region.ready md ops L = [i, j])
    (h1 : ∀ K : Act → World → Prop, (∀ a w, (i ≠ z → S w) → anyZ P md ops Q S z fuel (L.setIfInBounds i true) a w → K a w) → if Region.wanted oi (yielded ops a.tmps) = true then Oper.wp P oi a w K Q else K (a.put oi.dst undef) w)
    (h2 : ∀ K : Act → World → Prop, (∀ a w, (j ≠ z → S w) → anyZ P md ops Q S z fuel (L.setIfInBounds j true) a w → K a w) → if Region.wanted oj (yielded ops a.tmps) = true then Oper.wp P oj a w K Q else K (a.put oj.dst undef) w) : anyZ P md ops Q S z (fuel + 1) L a w := by
  refine ⟨fun h0 => (by rw [hr] at h0; cases h0), fun k hk => ?_⟩
  rw [hr] at hk
  rcases List.mem_cons.1 hk with rfl | hk
  · exact wpOp_step hi (fun K' hK => h1 K' (fun a w hS hW => hK a w ⟨hS, hW⟩))
  · obtain rfl := List.mem_singleton.1 hk
    exact wpOp_step hj (fun K' hK => h2 K' (fun a w hS hW => hK a w ⟨hS, hW⟩))
/-- three may come up -/
theorem anyZ_three (i j l : Nat) {oi oj ol : Oper} {fuel : Nat} {L : Array Bool} {a : Act} {w : World} (hi : ops[i]? = some oi) (hj : ops[j]? = some oj) (hl : ops[l]? = some ol) (hr : Region.ready md ops L = [i, j, l])
    (h1 : ∀ K : Act → World → Prop, (∀ a w, (i ≠ z → S w) → anyZ P md ops Q S z fuel (L.setIfInBounds i true) a w → K a w) → if Region.wanted oi (yielded ops a.tmps) = true then Oper.wp P oi a w K Q else K (a.put oi.dst undef) w)
    (h2 : ∀ K : Act → World → Prop, (∀ a w, (j ≠ z → S w) → anyZ P md ops Q S z fuel (L.setIfInBounds j true) a w → K a w) → if Region.wanted oj (yielded ops a.tmps) = true then Oper.wp P oj a w K Q else K (a.put oj.dst undef) w)
    (h3 : ∀ K : Act → World → Prop, (∀ a w, (l ≠ z → S w) → anyZ P md ops Q S z fuel (L.setIfInBounds l true) a w → K a w) → if Region.wanted ol (yielded ops a.tmps) = true then Oper.wp P ol a w K Q else K (a.put ol.dst undef) w) : anyZ P md ops Q S z (fuel + 1) L a w := by
  refine ⟨fun h0 => (by rw [hr] at h0; cases h0), fun k hk => ?_⟩
  rw [hr] at hk
  rcases List.mem_cons.1 hk with rfl | hk
  · exact wpOp_step hi (fun K' hK => h1 K' (fun a w hS hW => hK a w ⟨hS, hW⟩))
  · rcases List.mem_cons.1 hk with rfl | hk
    · exact wpOp_step hj (fun K' hK => h2 K' (fun a w hS hW => hK a w ⟨hS, hW⟩))
    · obtain rfl := List.mem_singleton.1 hk
      exact wpOp_step hl (fun K' hK => h3 K' (fun a w hS hW => hK a w ⟨hS, hW⟩))
end
section
variable {P : Program} {o : Oper} {a : Act} {w : World}
theorem exec_load_row (ty : TypeId) (x : Operand) (ho : o.op = .load ty x) (g : Nat) (hx : a.eval x = .pointer (some ⟨g, 0, none⟩)) (t : TypeId) (cs : Array Value) (fr : Nat × Nat) (d : TypeDesc)
    (hg : w.heap[g]? = some (.cells cs t fr)) (hu : P.underlying ty = some d) (hd : (match d with | .struct _ | .array _ _ => true | _ => false) = true) (hi : (P.info? ty).map (·.size) = some cs.size) :
    (execOp a.eval o).run P w = .ok (.value (.agg cs)) w := by
  unfold execOp
  simp only [ho, hx, Instr.loadAt, Instr.sureAddr, Sem.run_bind, Sem.run_pure, Result.andThen_ok, run_loadVar_row w g t ty cs fr d hg hu hd hi]
theorem exec_build (t : TypeId) (parts : Array (Nat × Operand)) (ho : o.op = .build t parts) (cells : Array Value) (hf : P.built t (parts.map fun (i, x) => (i, a.eval x)).toList = some cells) :
    (execOp a.eval o).run P w = .ok (.value (.agg cells)) w := by
  unfold execOp
  simp only [ho, Sem.run_bind, run_build w t _ cells hf, Result.andThen_ok]
  rfl
theorem operWp_store_row {K : Act → World → Prop} {Q : Exit → Act → World → Prop} (ty : TypeId) (x y : Operand) (ho : o.op = .store ty x y)
    (g : Nat) (cells : Array Value) (hx : a.eval x = .pointer (some ⟨g, 0, none⟩)) (hy : a.eval y = .agg cells)
    (t : TypeId) (old : Array Value) (hg : w.heap[g]? = some (.cells old t (0, 0))) (hi : (P.info? ty).map (·.size) = some cells.size)
    (hold : old.size = cells.size) (h1 : cells.all (·.oneCell') = true)
    (h : K (a.put o.dst undef) (w.setRow g cells)) : Oper.wp P o a w K Q := by
  unfold Oper.wp execOp
  simp only [ho, hx, hy, Instr.storeAt, Instr.sureAddr, Sem.run_bind, Sem.run_pure, Result.andThen_ok, run_storeVar_row w g t ty old cells hg hi hold h1]
  exact h
end
end Go.Proofs.Ythnognjcbjgkbaa
