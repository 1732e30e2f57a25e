/-
  Bytes of a row of the call's own: read and written one by one.
-/
import Derived.Test.YthnognjcbjgkbaaOwn
namespace Go.Proofs.Ythnognjcbjgkbaa
set_option linter.unusedVariables false
open Go.RowKit

/-- a byte of a row of the call's own: it can be read and written -/
theorem Own.byteAt {w : World} {A : Option Addr} {c : Nat} {xs : List UInt8} (h : Own w A c xs) {k : Nat} (hk : k < xs.length) :
    ∃ g, ∃ n : Nat, A = some ⟨g, 0, none⟩ ∧ w.cell? ⟨g, k, none⟩ = some (.int .u8 (n : Int)) ∧ w.frozen? ⟨g, k, none⟩ = false ∧ n < 256 ∧ Hid (n = (xs.getD k 0).toNat) := by
  rcases h.form with ⟨_, _, rfl⟩ | ⟨g, cur, rfl, hg, h1, _, hcs, ht⟩
  · simp at hk
  · refine ⟨g, (xs.getD k 0).toNat, rfl, ?_, by simp [World.frozen?, hg], UInt8.toNat_lt _, rfl⟩
    rw [cell_of_row w g k cur U8t (0, 0) hg]
    have h2 := bvs_get xs k hk
    rw [← ht, List.getElem?_take, if_pos hk] at h2
    show cur[k]? = some (bv (xs.getD k 0))
    simpa using h2
theorem Own.set_ {w : World} {g c : Nat} {xs : List UInt8} (h : Own w (some ⟨g, 0, none⟩) c xs) (k : Nat) (x : UInt8) (z : Int) (hz : z = (x.toNat : Int)) :
    Own (w.setCell ⟨g, k, none⟩ (.int .u8 z)) (some ⟨g, 0, none⟩) c (xs.set k x) := by
  subst hz
  rcases h.form with ⟨e, _⟩ | ⟨g', cur, e, hg, h1, h2, hcs, ht⟩
  · cases e
  · injection e with e
    injection e with e _ _
    subst e
    refine ⟨by rw [bvs_length]; omega, .inr ⟨g, c, cur.setIfInBounds k (bv x), by simp, Nat.zero_le _, ?_, by simpa using h1, h2, by simpa using hcs, ?_⟩⟩
    · show (w.setCell ⟨g, k, none⟩ (bv x)).heap[g]? = _
      simp [World.setCell, Array.getElem?_modify, hg]
    · have e2 : bvs (xs.set k x) = (bvs xs).set k (bv x) := by unfold bvs; rw [List.map_set]
      rw [e2, ← ht]
      simp [List.take_set]
end Go.Proofs.Ythnognjcbjgkbaa
