/-
  A slice of bytes that came in, as the shells of the proofs spell it, reads as bytes.
-/
import Derived.Test.YthnognjcbjgkbaaOwn
namespace Go.Proofs.Ythnognjcbjgkbaa
set_option linter.unusedVariables false
open Go.RowKit

theorem rd_of_row {w : World} {a : Option Addr} {len cap : Nat} {zs : List Int}
    (h : (a = none ∧ len = 0 ∧ cap = 0 ∧ zs = []) ∨
      ∃ x, a = some x ∧ len ≤ cap ∧ cap ≤ maxLen ∧ zs.length = cap ∧ (∀ i, i < zs.length → w.cell? (x.add i) = some (.int .u8 (zs.getD i 0))) ∧ ∀ n ∈ zs, (Lit.int .u8 n).wf = true) :
    ∃ xs : List UInt8, xs.length = len ∧ Rd w w.heap.size a xs ∧ len ≤ cap ∧ cap ≤ 9223372036854775807 := by
  rcases h with ⟨rfl, rfl, rfl, rfl⟩ | ⟨x, rfl, hl, hm, hz, hc, hwf⟩
  · exact ⟨[], rfl, Rd.nil, Nat.le_refl _, by omega⟩
  · obtain ⟨xs, rfl⟩ := bytes_of_ints zs hwf
    have hxl : xs.length = cap := by simpa using hz
    refine ⟨xs.take len, by simp; omega, ?_, hl, by unfold maxLen at hm; omega⟩
    by_cases h0 : len = 0
    · subst h0; exact .inl (by simp)
    · obtain ⟨b, off, spot⟩ := x
      have h1 := hc 0 (by simp; omega)
      have hspot : spot = none := by simpa [Addr.add] using World.cell?_spot h1
      subst hspot
      have hb : b < w.heap.size := World.block_lt_of_cell? w _ h1
      refine .inr ⟨b, off, rfl, hb, fun j hj => ?_⟩
      have hj' : j < len ∧ j < xs.length := by simp at hj; omega
      have h2 := hc j (by simp; omega)
      rw [add_lit] at h2
      rw [h2, getD_take _ _ _ hj'.1]
      simp [bv, List.getD, hj'.2]
end Go.Proofs.Ythnognjcbjgkbaa
