/-
  An array of integers that comes in by value, opened. No program is named.
-/
import Derived.WalkKit
import Derived.ProofKit
import Derived.OpenShut
import Derived.ShutString
import Derived.ChangeOld
import Derived.Below
namespace Go.Proofs.Ythnognjcbjgkbaa
open Go.ChangeShapes Go.WideShapes Go.ChangeAt Go.RowKit
set_option linter.unusedVariables false

theorem open_int_arr {P : Program} {W : World} {H : Type} {enc : TypeId × Value → H} {b0 base : Nat} {sp : Nat → Bool} {held : Bool} {t e : TypeId} {k : IntKind} {n : Nat} {v : Value} {d : DataW H} {ps : List MemPlace}
    (ht : P.underlying t = some (.array n e)) (he : P.underlying e = some (.int k)) (hce : P.cellsOf e = 1) (hct : P.cellsOf t = n)
    (hval : Value.okWide P W .any b0 t v) (hd : DataW.Trod enc P W base sp held t v d ps) :
    ∃ zs : List Int, v = .agg (zs.map (Value.int k)).toArray ∧ zs.length = n ∧ ps = [] ∧ ∀ z ∈ zs, (Lit.int k z).wf = true := by
  obtain ⟨cs, rfl, hsz, _⟩ : ∃ cs, v = .agg cs ∧ cs.size = P.cellsOf t ∧ Row.okWide P W .any b0 t cs := by
    simpa [Value.okWide, ht] using hval
  obtain ⟨fuel, hf⟩ := hd
  obtain ⟨xs, m, _, hx, hl, hn, hall⟩ := DataW.trod_array ht hf
  rw [hce] at hall
  simp only [Value.cells, Nat.mul_one] at hall hl
  simp only [Prod.mk.injEq] at hx
  have hlen : cs.toList.length = n := by simp; omega
  have each : ∀ i (h : i < n), ∃ z, cs.toList[i]? = some (.int k z) ∧ xs[i]? = some (.lit (.int k z), []) ∧ (Lit.int k z).wf = true := by
    intro i hi
    have h := hall i hi
    rw [List.getElem?_eq_getElem (by omega)] at h
    obtain ⟨z, hz, hy, hw⟩ := DataW.trod_int he h
    refine ⟨z, ?_, ?_, hw⟩
    · have h1 : ((cs.toList.drop i).take 1)[0]? = some (.int k z) := by rw [hz]; rfl
      simpa using h1
    · rw [List.getElem?_eq_getElem (by omega), hy]
  refine ⟨cs.toList.map (fun v => match v with | .int _ z => z | _ => 0), ?_, by simpa using hlen, ?_, ?_⟩
  · congr 1
    apply Array.ext_getElem?
    intro i
    by_cases hi : i < n
    · obtain ⟨z, h1, _⟩ := each i hi
      have h1' : cs[i]? = some (.int k z) := by simpa using h1
      simp [h1']
    · rw [Array.getElem?_eq_none (by simp at hlen; omega), Array.getElem?_eq_none (by simp at hlen ⊢; omega)]
  · rw [hx.2]
    refine List.flatMap_eq_nil_iff.2 fun x hxm => ?_
    obtain ⟨i, hi, rfl⟩ := List.mem_iff_getElem.1 hxm
    obtain ⟨z, _, h2, _⟩ := each i (by omega)
    rw [List.getElem?_eq_getElem hi] at h2
    rw [Option.some.inj h2]
  · intro z hz
    obtain ⟨u, hu, rfl⟩ := List.mem_map.1 hz
    obtain ⟨i, hi, rfl⟩ := List.mem_iff_getElem.1 hu
    obtain ⟨z, h1, _, hw⟩ := each i (by omega)
    rw [List.getElem?_eq_getElem hi] at h1
    rw [Option.some.inj h1]
    exact hw
theorem list7 {α : Type} (l : List α) (h : l.length = 7) : ∃ a b c d e f g, l = [a, b, c, d, e, f, g] := by
  match l, h with
  | [a, b, c, d, e, f, g], _ => exact ⟨a, b, c, d, e, f, g, rfl⟩
theorem list2 {α : Type} (l : List α) (h : l.length = 2) : ∃ a b, l = [a, b] := by
  match l, h with
  | [a, b], _ => exact ⟨a, b, rfl⟩
end Go.Proofs.Ythnognjcbjgkbaa
