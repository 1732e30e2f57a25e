/-
  Contracts of small, Record and the reference's Record.
-/
import Derived.Test.YthnognjcbjgkbaaTab9
import Derived.Deep.Cut
namespace Go.Proofs.Ythnognjcbjgkbaa
set_option linter.unusedVariables false
open Go.RowKit Go.Shelf

/-- counts are small -/
def smT (c : Nat → Int) (k : Nat) : Prop := ∀ s, 1 ≤ s → s ≤ k → 0 ≤ c s ∧ c s ≤ 12
theorem smT.succ {c : Nat → Int} {k : Nat} (h : smT c k) (h0 : 0 ≤ c (k + 1)) (h1 : c (k + 1) ≤ 12) : smT c (k + 1) := by
  intro s a b
  by_cases e : s = k + 1
  · subst e; exact ⟨h0, h1⟩
  · exact h s a (by omega)
theorem smT.ok {c : Nat → Int} (h : smT c 6) : okT c 6 := by
  intro s h1 h6
  obtain ⟨a, b⟩ := h s h1 h6
  refine ⟨a, Int.le_trans b ?_⟩
  have : s = 1 ∨ s = 2 ∨ s = 3 ∨ s = 4 ∨ s = 5 ∨ s = 6 := by omega
  rcases this with rfl | rfl | rfl | rfl | rfl | rfl <;> decide

open Classical in
noncomputable def smB (c : Nat → Int) : Bool := decide (smT c 6)
theorem smB_true {c : Nat → Int} (h : smT c 6) : smB c = true := by unfold smB; simp [h]
theorem smB_false {c : Nat → Int} (h : ¬ smT c 6) : smB c = false := by unfold smB; simp [h]
def SmOK (c : Nat → Int) (w : World) (e : Ending) (w' : World) : Prop := e = .returned (.bool (smB c)) ∧ Below w.heap.size w w'
set_option maxRecDepth 20000 in
set_option maxHeartbeats 1000000 in
theorem small_any (c : Nat → Int) (w : World) : Calls Try.prog 12 #[.agg (cntA c)] w (SmOK c w) := by
  have hB := (Below.refl w.heap.size w).alloc (Nat.le_refl _) (.cells (cntA c) 23)
  have hr := heap_alloc_new w (.cells (cntA c) 23)
  go_enter Try.func12, Try.ntmps12
  go_wp2
  generalize w.alloc (.cells (cntA c) 23) = w1 at *
  go_loop [3] (fun i => ∃ k : Nat, k ≤ 6 ∧ i = .int .i64 ((k : Int) + 1) ∧ smT c k) (fun i => 8 - (intOf i).toNat)
  case atStart => exact ⟨0, Nat.zero_le _, rfl, fun s h1 h2 => by omega⟩
  case round =>
    obtain ⟨k, hk, rfl, hs⟩ := hrel
    by_cases hlt : k < 6
    · obtain ⟨s, es⟩ : ∃ s : Nat, s = k + 1 := ⟨_, rfl⟩
      have e1 : ((k : Int) + 1) = (s : Int) := by omega
      rw [e1]
      have k0 := cnt_cell hr s (by omega)
      have hs7 : (s : Int) < 7 := by omega
      have hs6 : (s : Int) ≤ 6 := by omega
      have HS := Lib.hid hs
      have ES := Lib.hid es
      have h1s : 1 ≤ s := by omega
      have hs6n : s ≤ 6 := by omega
      clear hs es e1
      by_cases hneg : c s < 0
      · have hd : decide (c s < 0) = true := decide_eq_true hneg
        go_wp2
        go_ret
        refine ⟨?_, hB⟩
        rw [smB_false (fun h => by have := (h s h1s hs6n).1; omega)]
        rfl
      · have hd : decide (c s < 0) = false := decide_eq_false hneg
        by_cases hbig : 12 < c s
        · have hd2 : decide (12 < c s) = true := decide_eq_true hbig
          go_wp2
          go_ret
          refine ⟨?_, hB⟩
          rw [smB_false (fun h => by have := (h s h1s hs6n).2; omega)]
          rfl
        · have hd2 : decide (12 < c s) = false := decide_eq_false hbig
          go_wp2
          go_round
          case rel => exact ⟨s, hs6n, rfl, by rw [ES.out]; exact HS.out.succ (by rw [← ES.out]; omega) (by rw [← ES.out]; omega)⟩
          case measure => simp [intOf]; omega
    · obtain rfl : k = 6 := by omega
      go_wp2
      go_ret
      refine ⟨?_, hB⟩
      rw [smB_true hs]
      rfl

def recV (o c : Nat → Int) (s i : Int) : Int := if s < 1 ∨ 6 < s ∨ i < 0 ∨ c s.toNat ≤ i then -1 else o s.toNat + i * szT s.toNat

set_option maxRecDepth 20000 in
set_option maxHeartbeats 1000000 in
theorem Record_any (fr tot : Int) (o c : Nat → Int) (s i : Int) (w : World) (h0 : ∀ n : Nat, n < 7 → 0 ≤ o n ∧ o n ≤ 1000000) (h1 : ∀ n : Nat, n < 7 → c n ≤ 1024) :
    Calls Try.prog 15 #[.agg (tabA fr tot o c), .int .i64 s, .int .i64 i] w fun e w' => e = .returned (.int .i64 (recV o c s i)) ∧ Below w.heap.size w w' := by
  have hB := (Below.refl w.heap.size w).alloc (Nat.le_refl _) (.cells (tabA fr tot o c) 25)
  have hr := heap_alloc_new w (.cells (tabA fr tot o c) 25)
  by_cases a1 : s < 1
  · have e0 : recV o c s i = -1 := by unfold recV; rw [if_pos (by omega)]
    have E0 := Lib.hid e0
    have d1 : decide (s < 1) = true := decide_eq_true a1
    clear e0
    rw [E0.out]
    generalize tabA fr tot o c = A at *
    go_enter Try.func15, Try.ntmps15
    go_wp2
    go_ret
    exact ⟨rfl, hB⟩
  have d1 : decide (s < 1) = false := decide_eq_false a1
  by_cases a2 : 6 < s
  · have e0 : recV o c s i = -1 := by unfold recV; rw [if_pos (by omega)]
    have E0 := Lib.hid e0
    have d2 : decide (6 < s) = true := decide_eq_true a2
    clear e0
    rw [E0.out]
    generalize tabA fr tot o c = A at *
    go_enter Try.func15, Try.ntmps15
    go_wp2
    go_ret
    exact ⟨rfl, hB⟩
  have d2 : decide (6 < s) = false := decide_eq_false a2
  by_cases a3 : i < 0
  · have e0 : recV o c s i = -1 := by unfold recV; rw [if_pos (by omega)]
    have E0 := Lib.hid e0
    have d3 : decide (i < 0) = true := decide_eq_true a3
    clear e0
    rw [E0.out]
    generalize tabA fr tot o c = A at *
    go_enter Try.func15, Try.ntmps15
    go_wp2
    go_ret
    exact ⟨rfl, hB⟩
  have d3 : decide (i < 0) = false := decide_eq_false a3
  obtain ⟨n, rfl⟩ : ∃ n : Nat, s = (n : Int) := ⟨s.toNat, by omega⟩
  have hn7 : (n : Int) < 7 := by omega
  obtain ⟨k0, k1⟩ := tab_cell hr n (by omega)
  obtain ⟨o0, o1⟩ := h0 n (by omega)
  have c1 := h1 n (by omega)
  clear h0 h1
  by_cases a4 : c n ≤ i
  · have e0 : recV o c (n : Int) i = -1 := by unfold recV; rw [if_pos (by simp only [Int.toNat_natCast]; omega)]
    have E0 := Lib.hid e0
    have d4 : decide (c n ≤ i) = true := decide_eq_true a4
    clear e0
    rw [E0.out]
    generalize tabA fr tot o c = A at *
    go_enter Try.func15, Try.ntmps15
    go_wp2
    go_ret
    exact ⟨rfl, hB⟩
  have d4 : decide (c n ≤ i) = false := decide_eq_false a4
  have e0 : recV o c (n : Int) i = o n + i * szT n := by unfold recV; rw [if_neg (by simp only [Int.toNat_natCast]; omega), Int.toNat_natCast]
  have E0 := Lib.hid e0
  have H := Lib.hid (fun w1 => Size_any (n : Int) w1)
  rw [sizeV_szT] at H
  obtain ⟨z0, z1⟩ := szT_range n
  obtain ⟨p0, p1⟩ := prod_range (show 0 ≤ i by omega) (show i ≤ 1024 by omega) z0 z1
  have hm : IntKind.i64.wrap (i * szT n) = i * szT n := IntWalk.i64_in _ (by omega)
  have ha : IntKind.i64.wrap (o n + i * szT n) = o n + i * szT n := IntWalk.i64_in _ (by omega)
  clear e0
  rw [E0.out]
  generalize tabA fr tot o c = A at *
  go_enter Try.func15, Try.ntmps15
  go_wp2_with fail
  go_quiet (exact (H.out _).mono (fun e w'' ⟨he, hw⟩ => ⟨he, _, hw.symm⟩))
  go_wp2
  go_ret
  exact ⟨rfl, ⟨hB.os, hB.tape, hB.output, hB.size, hB.block⟩⟩
set_option maxRecDepth 20000 in
set_option maxHeartbeats 1000000 in
theorem refRecord_any (fr tot : Int) (o c : Nat → Int) (s i : Int) (w : World) (h0 : ∀ n : Nat, n < 7 → 0 ≤ o n ∧ o n ≤ 1000000) (h1 : ∀ n : Nat, n < 7 → c n ≤ 1024) :
    Calls Try.prog 16 #[.agg (tabA fr tot o c), .int .i64 s, .int .i64 i] w fun e w' => e = .returned (.int .i64 (recV o c s i)) ∧ Below w.heap.size w w' := by
  have hB := (Below.refl w.heap.size w).alloc (Nat.le_refl _) (.cells (tabA fr tot o c) 28)
  have hr := heap_alloc_new w (.cells (tabA fr tot o c) 28)
  by_cases a1 : s < 1
  · have e0 : recV o c s i = -1 := by unfold recV; rw [if_pos (by omega)]
    have E0 := Lib.hid e0
    have d1 : decide (s < 1) = true := decide_eq_true a1
    clear e0
    rw [E0.out]
    generalize tabA fr tot o c = A at *
    go_enter Try.func16, Try.ntmps16
    go_wp2
    go_ret
    exact ⟨rfl, hB⟩
  have d1 : decide (s < 1) = false := decide_eq_false a1
  by_cases a2 : 6 < s
  · have e0 : recV o c s i = -1 := by unfold recV; rw [if_pos (by omega)]
    have E0 := Lib.hid e0
    have d2 : decide (6 < s) = true := decide_eq_true a2
    clear e0
    rw [E0.out]
    generalize tabA fr tot o c = A at *
    go_enter Try.func16, Try.ntmps16
    go_wp2
    go_ret
    exact ⟨rfl, hB⟩
  have d2 : decide (6 < s) = false := decide_eq_false a2
  by_cases a3 : i < 0
  · have e0 : recV o c s i = -1 := by unfold recV; rw [if_pos (by omega)]
    have E0 := Lib.hid e0
    have d3 : decide (i < 0) = true := decide_eq_true a3
    clear e0
    rw [E0.out]
    generalize tabA fr tot o c = A at *
    go_enter Try.func16, Try.ntmps16
    go_wp2
    go_ret
    exact ⟨rfl, hB⟩
  have d3 : decide (i < 0) = false := decide_eq_false a3
  obtain ⟨n, rfl⟩ : ∃ n : Nat, s = (n : Int) := ⟨s.toNat, by omega⟩
  have hn7 : (n : Int) < 7 := by omega
  obtain ⟨k0, k1⟩ := tab_cell hr n (by omega)
  obtain ⟨o0, o1⟩ := h0 n (by omega)
  have c1 := h1 n (by omega)
  clear h0 h1
  by_cases a4 : c n ≤ i
  · have e0 : recV o c (n : Int) i = -1 := by unfold recV; rw [if_pos (by simp only [Int.toNat_natCast]; omega)]
    have E0 := Lib.hid e0
    have d4 : decide (c n ≤ i) = true := decide_eq_true a4
    clear e0
    rw [E0.out]
    generalize tabA fr tot o c = A at *
    go_enter Try.func16, Try.ntmps16
    go_wp2
    go_ret
    exact ⟨rfl, hB⟩
  have d4 : decide (c n ≤ i) = false := decide_eq_false a4
  have e0 : recV o c (n : Int) i = o n + i * szT n := by unfold recV; rw [if_neg (by simp only [Int.toNat_natCast]; omega), Int.toNat_natCast]
  have E0 := Lib.hid e0
  have H := Lib.hid (fun w1 => refSize_any (n : Int) w1)
  rw [sizeV_szT] at H
  obtain ⟨z0, z1⟩ := szT_range n
  obtain ⟨p0, p1⟩ := prod_range (show 0 ≤ i by omega) (show i ≤ 1024 by omega) z0 z1
  have hm : IntKind.i64.wrap (i * szT n) = i * szT n := IntWalk.i64_in _ (by omega)
  have ha : IntKind.i64.wrap (o n + i * szT n) = o n + i * szT n := IntWalk.i64_in _ (by omega)
  clear e0
  rw [E0.out]
  generalize tabA fr tot o c = A at *
  go_enter Try.func16, Try.ntmps16
  go_wp2_with fail
  go_quiet (exact (H.out _).mono (fun e w'' ⟨he, hw⟩ => ⟨he, _, hw.symm⟩))
  go_wp2
  go_ret
  exact ⟨rfl, ⟨hB.os, hB.tape, hB.output, hB.size, hB.block⟩⟩
end Go.Proofs.Ythnognjcbjgkbaa
