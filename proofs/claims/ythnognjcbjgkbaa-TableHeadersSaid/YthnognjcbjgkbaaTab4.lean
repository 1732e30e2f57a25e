/-
  Contracts of package table and of its reference: limits, align, end, Size, Limit.
-/
import Derived.Test.YthnognjcbjgkbaaTab3
import Derived.BigQuiet
namespace Go.Proofs.Ythnognjcbjgkbaa
set_option linter.unusedVariables false
open Go.RowKit Go.Shelf

theorem row_set {w : World} {q ty : Nat} {arr : Array Value} {s : Nat × Nat} (hq : w.heap[q]? = some (.cells arr ty s)) (i : Nat) (v : Value) : (w.setCell ⟨q, i, none⟩ v).heap[q]? = some (.cells (arr.setIfInBounds i v) ty s) := by
  simp [World.setCell, Array.getElem?_modify, hq]
theorem set7 (a b c d e f g x0 x1 x2 x3 x4 x5 x6 : Value) : ((((((((#[a, b, c, d, e, f, g] : Array Value).setIfInBounds 0 x0).setIfInBounds 1 x1).setIfInBounds 2 x2).setIfInBounds 3 x3).setIfInBounds 4 x4).setIfInBounds 5 x5).setIfInBounds 6 x6) = #[x0, x1, x2, x3, x4, x5, x6] := by simp
theorem seven_after {w : World} {q ty : Nat} {a b c d e f g : Value} (hq : w.heap[q]? = some (.cells #[a, b, c, d, e, f, g] ty (0, 0))) (x0 x1 x2 x3 x4 x5 x6 : Value) :
    (((((((w.setCell ⟨q, 0, none⟩ x0).setCell ⟨q, 1, none⟩ x1).setCell ⟨q, 2, none⟩ x2).setCell ⟨q, 3, none⟩ x3).setCell ⟨q, 4, none⟩ x4).setCell ⟨q, 5, none⟩ x5).setCell ⟨q, 6, none⟩ x6).heap[q]? = some (.cells #[x0, x1, x2, x3, x4, x5, x6] ty (0, 0)) := by
  rw [← set7 a b c d e f g]
  exact row_set (row_set (row_set (row_set (row_set (row_set (row_set hq 0 x0) 1 x1) 2 x2) 3 x3) 4 x4) 5 x5) 6 x6
theorem seven_cells {w : World} {q ty : Nat} {x0 x1 x2 x3 x4 x5 x6 : Value} (hq : w.heap[q]? = some (.cells #[x0, x1, x2, x3, x4, x5, x6] ty (0, 0))) :
    w.cell? ⟨q, 0, none⟩ = some x0 ∧ w.cell? ⟨q, 1, none⟩ = some x1 ∧ w.cell? ⟨q, 2, none⟩ = some x2 ∧ w.cell? ⟨q, 3, none⟩ = some x3 ∧ w.cell? ⟨q, 4, none⟩ = some x4 ∧ w.cell? ⟨q, 5, none⟩ = some x5 ∧ w.cell? ⟨q, 6, none⟩ = some x6 := by
  refine ⟨?_, ?_, ?_, ?_, ?_, ?_, ?_⟩ <;> (rw [cell_of_row w q _ _ _ (0, 0) hq]; rfl)

def limA : Array Value := #[.int .i64 0, .int .i64 64, .int .i64 1024, .int .i64 1024, .int .i64 1024, .int .i64 512, .int .i64 1024]
theorem limits_any (w : World) : Calls Try.prog 29 #[] w fun e w' => e = .returned (.agg #[.int .i64 0, .int .i64 64, .int .i64 1024, .int .i64 1024, .int .i64 1024, .int .i64 512, .int .i64 1024]) ∧ w' = w.alloc (.cells #[.int .i64 0, .int .i64 64, .int .i64 1024, .int .i64 1024, .int .i64 1024, .int .i64 512, .int .i64 1024] 23) := by
  go_enter Try.func29, Try.ntmps29
  go_wp2
  obtain ⟨z0, z1, z2, z3, z4, z5, z6⟩ := seven_cells (heap_alloc_new w (.cells #[.int .i64 0, .int .i64 64, .int .i64 1024, .int .i64 1024, .int .i64 1024, .int .i64 512, .int .i64 1024] 23))
  exact bodyPost_ret (v := .agg #[.int .i64 0, .int .i64 64, .int .i64 1024, .int .i64 1024, .int .i64 1024, .int .i64 512, .int .i64 1024]) (by simp [results, Try.results29, go_sem, z0, z1, z2, z3, z4, z5, z6]) rfl ⟨rfl, rfl⟩

theorem align_any (n : Int) (w : World) (h0 : 0 ≤ n) (h1 : n < 9000000000000000000) : Calls Try.prog 30 #[.int .i64 n] w fun e w' => e = .returned (.int .i64 (al n)) ∧ w = w' := by
  have H := Lib.hid (al_bits n h0 h1)
  go_enter Try.func30, Try.ntmps30
  go_wp2
  go_ret
  refine ⟨?_, rfl⟩
  rw [show n + 16 - 1 = n + 15 from by omega, H.out]
  rfl

/-- the size of a section's record -/
def sizeV (s : Int) : Int := if s = 1 then 56 else if s = 2 then 24 else if s = 3 then 24 else if s = 4 then 48 else if s = 5 then 8 else if s = 6 then 8 else 0
set_option maxRecDepth 20000 in
set_option maxHeartbeats 400000 in
theorem Size_any (s : Int) (w : World) : Calls Try.prog 33 #[.int .i64 s] w fun e w' => e = .returned (.int .i64 (sizeV s)) ∧ w = w' := by
  by_cases h1 : s = 1
  · subst h1; go_enter Try.func33, Try.ntmps33; go_wp2; go_ret; exact ⟨rfl, rfl⟩
  by_cases h2 : s = 2
  · subst h2; go_enter Try.func33, Try.ntmps33; go_wp2; go_ret; exact ⟨rfl, rfl⟩
  by_cases h3 : s = 3
  · subst h3; go_enter Try.func33, Try.ntmps33; go_wp2; go_ret; exact ⟨rfl, rfl⟩
  by_cases h4 : s = 4
  · subst h4; go_enter Try.func33, Try.ntmps33; go_wp2; go_ret; exact ⟨rfl, rfl⟩
  by_cases h5 : s = 5
  · subst h5; go_enter Try.func33, Try.ntmps33; go_wp2; go_ret; exact ⟨rfl, rfl⟩
  by_cases h6 : s = 6
  · subst h6; go_enter Try.func33, Try.ntmps33; go_wp2; go_ret; exact ⟨rfl, rfl⟩
  have e0 : sizeV s = 0 := by unfold sizeV; simp [h1, h2, h3, h4, h5, h6]
  have E0 := Lib.hid e0
  have b1 : (s == 1) = false := by simpa using h1
  have b2 : (s == 2) = false := by simpa using h2
  have b3 : (s == 3) = false := by simpa using h3
  have b4 : (s == 4) = false := by simpa using h4
  have b5 : (s == 5) = false := by simpa using h5
  have b6 : (s == 6) = false := by simpa using h6
  clear e0 h1 h2 h3 h4 h5 h6
  rw [E0.out]
  go_enter Try.func33, Try.ntmps33; go_wp2; go_ret; exact ⟨rfl, rfl⟩
set_option maxRecDepth 20000 in
set_option maxHeartbeats 400000 in
theorem refSize_any (s : Int) (w : World) : Calls Try.prog 17 #[.int .i64 s] w fun e w' => e = .returned (.int .i64 (sizeV s)) ∧ w = w' := by
  by_cases h1 : s = 1
  · subst h1; go_enter Try.func17, Try.ntmps17; go_wp2; go_ret; exact ⟨rfl, rfl⟩
  by_cases h2 : s = 2
  · subst h2; go_enter Try.func17, Try.ntmps17; go_wp2; go_ret; exact ⟨rfl, rfl⟩
  by_cases h3 : s = 3
  · subst h3; go_enter Try.func17, Try.ntmps17; go_wp2; go_ret; exact ⟨rfl, rfl⟩
  by_cases h4 : s = 4
  · subst h4; go_enter Try.func17, Try.ntmps17; go_wp2; go_ret; exact ⟨rfl, rfl⟩
  by_cases h5 : s = 5
  · subst h5; go_enter Try.func17, Try.ntmps17; go_wp2; go_ret; exact ⟨rfl, rfl⟩
  by_cases h6 : s = 6
  · subst h6; go_enter Try.func17, Try.ntmps17; go_wp2; go_ret; exact ⟨rfl, rfl⟩
  have e0 : sizeV s = 0 := by unfold sizeV; simp [h1, h2, h3, h4, h5, h6]
  have E0 := Lib.hid e0
  have b1 : (s == 1) = false := by simpa using h1
  have b2 : (s == 2) = false := by simpa using h2
  have b3 : (s == 3) = false := by simpa using h3
  have b4 : (s == 4) = false := by simpa using h4
  have b5 : (s == 5) = false := by simpa using h5
  have b6 : (s == 6) = false := by simpa using h6
  clear e0 h1 h2 h3 h4 h5 h6
  rw [E0.out]
  go_enter Try.func17, Try.ntmps17; go_wp2; go_ret; exact ⟨rfl, rfl⟩
theorem sizeV_szT : ∀ s : Nat, sizeV (s : Int) = szT s
  | 0 => rfl
  | 1 => rfl
  | 2 => rfl
  | 3 => rfl
  | 4 => rfl
  | 5 => rfl
  | 6 => rfl
  | n + 7 => by
    unfold sizeV
    rw [if_neg (by omega), if_neg (by omega), if_neg (by omega), if_neg (by omega), if_neg (by omega), if_neg (by omega)]
    rfl

def limV (s : Int) : Int := if s = 1 then 64 else if s = 5 then 512 else 1024
theorem Limit_any (s : Int) (w : World) : Calls Try.prog 21 #[.int .i64 s] w fun e w' => e = .returned (.int .i64 (limV s)) ∧ w = w' := by
  by_cases h1 : s = 1
  · subst h1; go_enter Try.func21, Try.ntmps21; go_wp2; go_ret; exact ⟨rfl, rfl⟩
  by_cases h5 : s = 5
  · subst h5; go_enter Try.func21, Try.ntmps21; go_wp2; go_ret; exact ⟨rfl, rfl⟩
  have E0 := Lib.hid (show limV s = 1024 from by unfold limV; simp [h1, h5])
  have b1 : (s == 1) = false := by simpa using h1
  have b5 : (s == 5) = false := by simpa using h5
  clear h1 h5
  rw [E0.out]
  go_enter Try.func21, Try.ntmps21; go_wp2; go_ret; exact ⟨rfl, rfl⟩

set_option maxRecDepth 20000 in
set_option maxHeartbeats 400000 in
theorem refAlign_any (n : Int) (w : World) (h0 : 0 ≤ n) (h1 : n < 9000000000000000000) : Calls Try.prog 32 #[.int .i64 n] w fun e w' => e = .returned (.int .i64 (al n)) ∧ w = w' := by
  obtain ⟨a0, a1, a2⟩ := al_range n
  go_enter Try.func32, Try.ntmps32
  go_wp2
  go_loop [0] (fun x => ∃ m : Int, n ≤ m ∧ m ≤ al n ∧ x = .int .i64 m) (fun x => (al n - intOf x).toNat)
  case atStart => exact ⟨n, Int.le_refl _, a0, rfl⟩
  case round =>
    obtain ⟨m, hm0, hm1, rfl⟩ := hrel
    by_cases hlt : m = al n
    · have ht : m.tmod 16 = 0 := by rw [Int.tmod_eq_emod_of_nonneg (by omega)]; omega
      go_wp2
      go_ret
      exact ⟨rfl, rfl⟩
    · have ht : 0 < m.tmod 16 := by rw [Int.tmod_eq_emod_of_nonneg (by omega)]; unfold al at hm1 hlt; omega
      go_wp2
      go_round
      case rel => exact ⟨m + 1, by omega, by omega, rfl⟩
      case measure => simp [intOf]; omega
theorem lim_index (s : Nat) (hs : s < 7) (w : World) : (Instr.index 23 (.agg #[.int .i64 0, .int .i64 64, .int .i64 1024, .int .i64 1024, .int .i64 1024, .int .i64 512, .int .i64 1024]) (.int .i64 (s : Int))).run Try.prog w = .ok (.int .i64 (limT s)) w := by
  have : s = 0 ∨ s = 1 ∨ s = 2 ∨ s = 3 ∨ s = 4 ∨ s = 5 ∨ s = 6 := by omega
  rcases this with rfl | rfl | rfl | rfl | rfl | rfl | rfl <;> (show _ = _; rfl)
end Go.Proofs.Ythnognjcbjgkbaa
