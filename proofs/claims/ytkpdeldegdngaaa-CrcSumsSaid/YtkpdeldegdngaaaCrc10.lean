/-
  Contract of Forge, both ways; what it computes.
-/
import Derived.Test.YtkpdeldegdngaaaCrc9
namespace Go.Proofs.Ytkpdeldegdngaaa
set_option linter.unusedVariables false
open Go.RowKit Go.Shelf

theorem Forge_yes (A : Option Addr) (c n a : Nat) (xs : List UInt8) (s : BitVec 32) (w : World) (hn : xs.length = n) (hR : Rd w w.heap.size A xs) (hc : n ≤ c) (hl : n ≤ 100000) (ha : a + 4 ≤ n) :
    Calls Try.prog 20 #[.slice A n c, .int .i64 (a : Int), .int .u32 (u32 s)] w (ForgeOK w xs a s) := by
  by_cases e : c = a + 4
  · exact Forge_eq A c n a xs s w hn hR hc hl ha (by omega)
  · exact Forge_ne A c n a xs s w hn hR hc hl ha (a + 4) (by omega) e
theorem Forge_no (A : Option Addr) (c n : Nat) (a : Int) (v : Value) (w : World) (hl : n ≤ 100000) (ha : a < 0 ∨ (n : Int) - 4 < a) :
    Calls Try.prog 20 #[.slice A n c, .int .i64 a, v] w fun e w' => e = .returned (.tuple #[.slice none 0 0, .bool false]) ∧ w = w' := by
  by_cases h : a < 0
  · have d1 : decide (a < 0) = true := decide_eq_true h
    go_enter Try.func20, Try.ntmps20
    go_wp2_with fail
    go_ret2
    exact ⟨rfl, rfl⟩
  · have d1 : decide (a < 0) = false := decide_eq_false h
    have d2 : decide ((n : Int) - 4 < a) = true := decide_eq_true (by omega)
    go_enter Try.func20, Try.ntmps20
    go_wp2_with fail
    go_ret2
    exact ⟨rfl, rfl⟩

theorem forgeV_sum (xs : List UInt8) (a : Nat) (s : BitVec 32) : CrcP.sum (forgeV xs a s) = s := CrcP.forge_sum _ _ s
theorem forgeV_length (xs : List UInt8) (a : Nat) (s : BitVec 32) (h : a + 4 ≤ xs.length) : (forgeV xs a s).length = xs.length := by
  unfold forgeV CrcP.little; simp; omega
theorem forgeV_take (xs : List UInt8) (a : Nat) (s : BitVec 32) (h : a + 4 ≤ xs.length) : (forgeV xs a s).take a = xs.take a := by
  unfold forgeV
  rw [List.append_assoc]
  exact List.take_left' (by simp; omega)
theorem forgeV_drop (xs : List UInt8) (a : Nat) (s : BitVec 32) (h : a + 4 ≤ xs.length) : (forgeV xs a s).drop (a + 4) = xs.drop (a + 4) := by
  unfold forgeV
  exact List.drop_left' (by unfold CrcP.little; simp; omega)
theorem forgeV_same (xs : List UInt8) (a : Nat) (h : a + 4 ≤ xs.length) : forgeV xs a (CrcP.sum xs) = xs := by
  obtain ⟨c0, c1, c2, c3, h4⟩ := CrcP.four_of_length (l := (xs.drop a).take 4) (by simp; omega)
  have e : xs.take a ++ [c0, c1, c2, c3] ++ xs.drop (a + 4) = xs := by
    rw [← h4, List.append_assoc, ← List.drop_drop, List.take_append_drop, List.take_append_drop]
  have h2 := CrcP.forge_same (xs.take a) (xs.drop (a + 4)) c0 c1 c2 c3
  rw [e] at h2
  unfold forgeV
  rw [h2, e]
end Go.Proofs.Ytkpdeldegdngaaa
