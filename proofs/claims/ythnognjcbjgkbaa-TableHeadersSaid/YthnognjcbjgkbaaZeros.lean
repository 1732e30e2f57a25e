/-
  append(s, make([]byte, k)...): s the call's own.
-/
import Derived.Test.YthnognjcbjgkbaaOwn
import Derived.Lib.AppendZerosOnto
import Derived.Lib.Hide
namespace Go.Proofs.Ythnognjcbjgkbaa
set_option linter.unusedVariables false
open Go.RowKit

theorem toList_zeroCells (k : Nat) : (Builtin.zeroCells (Value.int .u8 0).cells k).toList = bvs (List.replicate k 0) := by
  unfold bvs
  rw [List.map_replicate]
  apply List.ext_getElem?
  intro j
  simp only [Builtin.zeroCells, Value.cells]
  by_cases h : j < k
  · simp [h, bv, Nat.mod_one]
  · simp [h]

section
variable {P : Program} {w : World} {ops : Array Oper} {rest : List Oper} {o : Oper} {a : Act} {Q : Exit → Act → World → Prop}
theorem run_app_zeros (T Tn ty : TypeId) (kn kq : IntKind) (ht : P.underlying T = some (.slice U8t)) (htn : P.underlying Tn = some (.int kn)) (hinfo : (P.info? U8t).map (fun i => (i.zero, i.size, i.bytes)) = some (some (.int .u8 0), 1, 1))
    (A : Option Addr) (c : Nat) (xs : List UInt8) (hown : Own w A c xs) (k : Nat) (hlen : xs.length + k ≤ 140737488355328) :
    ∃ A' c' w', (Builtin.append_ #[T, Tn] ty #[.slice A xs.length c, .int kq (k : Int)]).run P w = .ok (.slice A' (xs ++ List.replicate k 0).length c') w' ∧ Own w' A' c' (xs ++ List.replicate k 0) ∧ w.grownBy w' (blk A) ∧ (blk A' = blk A ∨ blk A' = some w.heap.size) := by
  obtain ⟨i, hi, hz, hs, hb⟩ := info_parts hinfo
  have hw : IntKind.i64.wrap (k : Int) = k := by rw [IntKind.wrap_i64]; omega
  have hneg : ¬ ((k : Int) < 0) := by omega
  have h48i : ¬ (281474976710656 < (k : Int) * (i.bytes : Int)) := by rw [hb]; omega
  have el : (xs ++ List.replicate k (0 : UInt8)).length = xs.length + k := by simp
  rw [el]
  by_cases hk : k = 0
  · subst hk
    have e0 : xs ++ List.replicate 0 (0 : UInt8) = xs := by simp
    rw [e0]
    refine ⟨A, c, w, ?_, hown, World.grownBy.refl w _, .inl rfl⟩
    rcases hown.form with ⟨rfl, rfl, rfl⟩ | ⟨g, cur, rfl, hg, h1, h2, _⟩
    · simp [Builtin.append_, run_underlying ht, run_underlying htn, sizeOf, typeInfo, hi, asInt, asIntOf, IntKind.wrap_i64]
    · simp [Builtin.append_, run_underlying ht, run_underlying htn, sizeOf, typeInfo, hi, asInt, asIntOf, IntKind.wrap_i64, h1, storeCells]
  · by_cases hroom : xs.length + k ≤ c
    · -- there is room
      rcases hown.form with ⟨rfl, rfl, rfl⟩ | ⟨g, cur, rfl, hg, h1, h2, hcs, ht2⟩
      · simp at hroom; omega
      · have hfit : xs.length + (bvs (List.replicate k 0)).length ≤ cur.size := by rw [bvs_length]; simp; omega
        have hst := run_storeCells_at P g xs.length U8t (bvs (List.replicate k 0)) 0 cur w hg (by simpa using hfit) (bvs_one _)
        simp only [Nat.add_zero] at hst
        refine ⟨some ⟨g, 0, none⟩, c, w.setRow g (cur.toList.take xs.length ++ bvs (List.replicate k 0) ++ cur.toList.drop (xs.length + (bvs (List.replicate k 0)).length)).toArray, ?_, ?_, ?_, .inl rfl⟩
        · have hadd : (⟨g, 0, none⟩ : Addr).add xs.length = ⟨g, xs.length, none⟩ := by rw [add_lit, Nat.zero_add]
          simp [Builtin.append_, run_underlying ht, run_underlying htn, sizeOf, typeInfo, zeroValue, hi, hz, hs, asInt, asIntOf, hw, hneg, h48i, hk, hroom, hadd, toList_zeroCells, hst]
        · refine ⟨by rw [bvs_length]; omega, .inr ⟨g, c, _, by rw [el], Nat.zero_le _, setRow_heap w g cur _ U8t _ hg, by rw [el]; exact hroom, h2, ?_, ?_⟩⟩
          · simp only [List.size_toArray, List.length_append, List.length_take, List.length_drop, Array.length_toList, bvs_length, List.length_replicate]
            omega
          · rw [bvs_append, ht2, el]
            have : xs.length + k = (bvs xs ++ bvs (List.replicate k 0)).length := by simp [bvs_length]
            rw [Nat.mul_one, this]
            exact List.take_left
        · exact ⟨rfl, rfl, rfl, by simp, fun j _ hj => setRow_other w g j _ (fun e => hj (by rw [e]; rfl))⟩
    · -- it grows
      have hg : c < xs.length + k := by omega
      have hold : (Builtin.firstCells i.size xs.length (.slice A xs.length c)).run P w.drew = .ok (bvs xs).toArray w.drew := by
        rcases hown.form with ⟨rfl, rfl, rfl⟩ | ⟨g, cur, rfl, hg', _⟩
        · simp [Builtin.firstCells, bvs]
        · have hcells : ∀ j u, (bvs xs)[j]? = some u → w.drew.cell? ((⟨g, 0, none⟩ : Addr).add j) = some u := by
            intro j u hu
            exact hown.cells (g := g) rfl j u hu
          exact run_firstCells_some (P := P) w.drew i.size xs.length ⟨g, 0, none⟩ xs.length c (bvs xs) (by rw [bvs_length, hs]; omega) hcells
      have hr := Lib.run_append_grow_zeros (P := P) w T Tn ty U8t i (.int .u8 0) kq kn ht htn hi hz A xs.length c (bvs xs) hold k (by omega) (by omega) hg (by omega) (by rw [hb]; omega) (by rw [hb]; exact growslice_fits hg (by omega))
      have hge := grownCap_ge w (xs.length + k) c U8t
      have hcm : grownCap w (xs.length + k) c U8t ≤ maxLen := grownCap_le_maxLen w (xs.length + k) c U8t (by unfold maxLen; omega)
      refine ⟨_, _, _, hr, ?_, ⟨rfl, rfl, rfl, by simp, fun k hk _ => Below.heap_alloc w.drew _ k hk⟩, .inr rfl⟩
      have key := Own.made w.drew ((bvs xs).toArray ++ Builtin.zeroCells (Value.int .u8 0).cells k ++ Builtin.zeroCells (Value.int .u8 0).cells (grownCap w (xs.length + k) c U8t - (xs.length + k))) (xs ++ List.replicate k 0) (grownCap w (xs.length + k) c U8t)
        (by simp [Builtin.zeroCells, Value.cells, bvs_length]; omega) hcm (by rw [el]; exact hge) (by
          rw [Array.toList_append, Array.toList_append, toList_zeroCells, ← bvs_append, el]
          have : xs.length + k = (bvs (xs ++ List.replicate k 0)).length := by rw [bvs_length, el]
          rw [this]
          exact List.take_left)
      exact key

theorem wpList_app_zeros (hgd : o.guard = none) (s x : Operand) (T Tn : TypeId) (ho : o.op = .call { callee := .builtin .append, args := #[s, x], argTypes := #[T, Tn] })
    (kn kq : IntKind) (ht : P.underlying T = some (.slice U8t)) (htn : P.underlying Tn = some (.int kn)) (hinfo : (P.info? U8t).map (fun i => (i.zero, i.size, i.bytes)) = some (some (.int .u8 0), 1, 1))
    (A : Option Addr) (n c : Nat) (xs : List UInt8) (hn : xs.length = n) (hs : a.eval s = .slice A n c) (hown : Own w A c xs) (k : Nat) (hx : a.eval x = .int kq (k : Int)) (hlen : xs.length + k ≤ 140737488355328)
    (h : ∀ A' c' w', Own w' A' c' (xs ++ List.replicate k 0) → w.grownBy w' (blk A) → (blk A' = blk A ∨ blk A' = some w.heap.size) → wpList P ops Q rest (a.put o.dst (.slice A' (xs ++ List.replicate k 0).length c')) w') : wpList P ops Q (o :: rest) a w := by
  subst hn
  refine wpList_plain hgd fun K hK => ?_
  obtain ⟨A', c', w', hr, h2, h3, h4⟩ := run_app_zeros (P := P) (w := w) T Tn o.type kn kq ht htn hinfo A c xs hown k hlen
  unfold Oper.wp execOp
  simp only [ho, resolve, invoke, builtin, Sem.run_bind, Sem.run_pure, Result.andThen_ok, List.map_toArray, List.map_cons, List.map_nil, hs, hx, hr]
  exact hK _ _ (h A' c' w' h2 h3 h4)
end
end Go.Proofs.Ythnognjcbjgkbaa
