/-
  What the law TableLayouts computes: true.
-/
import Derived.Test.YthnognjcbjgkbaaTab9
namespace Go.Proofs.Ythnognjcbjgkbaa
set_option linter.unusedVariables false
open Go.RowKit Go.Shelf

set_option maxRecDepth 20000 in
set_option maxHeartbeats 2000000 in
theorem TableLayouts_any (fr : Int) (c : Nat → Int) (w : World) : Calls Try.prog 3 #[.int .u64 fr, .agg (cntA c)] w (AliveOK w) := by
  have H1 := Lib.hid (fun w1 => For_res fr c w1)
  have H2 := Lib.hid (fun w1 => refFor_res fr c w1)
  obtain ⟨fr', tot, o', c', hT⟩ := tabR_form fr c
  rw [hT] at H1 H2
  generalize okB c = b at *
  clear hT
  have s1 := store_new (tabA fr' tot o' c') rfl (tab_all _ _ _ _) 25
  have s2 := store_new (tabA fr' tot o' c') rfl (tab_all _ _ _ _) 28
  have k0 := seven_cells (heap_alloc_new w (.cells (cntA c) 23))
  obtain ⟨k0, k1, k2, k3, k4, k5, k6⟩ := k0
  have HB0 := Lib.hid ((Below.refl w.heap.size w).alloc (Nat.le_refl _) (.cells (cntA c) 23))
  go_enter Try.func3, Try.ntmps3
  go_wp2_with fail
  refine (H1.out _).mono ?_
  rintro e w1 ⟨rfl, hb1⟩
  have hs1 := hb1.size
  simp at hs1
  have B1 := Lib.hid (HB0.out.trans (hb1.mono (by simp)))
  have R0 := Lib.hid ((hb1.block w.heap.size (by simp)).trans (heap_alloc_new w (.cells (cntA c) 23)))
  clear hb1 k0 k1 k2 k3 k4 k5 k6
  have R01 := Lib.hid ((Below.heap_alloc w1 (.cells (tabA fr' tot o' c') 25) w.heap.size (by omega)).trans R0.out)
  obtain ⟨k0, k1, k2, k3, k4, k5, k6⟩ := seven_cells R01.out
  go_wp2_with fail
  refine (H2.out _).mono ?_
  rintro e w2 ⟨rfl, hb2⟩
  have hs2 := hb2.size
  simp at hs2
  have B2 := Lib.hid ((B1.out.alloc B1.out.size _).trans (hb2.mono (by have := B1.out.size; simp; omega)))
  have R1 := Lib.hid ((hb2.block w1.heap.size (by simp)).trans (heap_alloc_new w1 (.cells (tabA fr' tot o' c') 25)))
  clear hb2 k0 k1 k2 k3 k4 k5 k6
  go_wp2_with fail
  refine (alive10 _).mono ?_
  rintro e w3 ⟨rfl, hb3⟩
  have hs3 := hb3.size
  simp at hs3
  have B3 := Lib.hid ((B2.out.alloc B2.out.size _).trans (hb3.mono (by have := B2.out.size; simp; omega)))
  have q1 := (hb3.block w1.heap.size (by simp; omega)).trans ((Below.heap_alloc w2 (.cells (tabA fr' tot o' c') 28) w1.heap.size (by omega)).trans R1.out)
  have q2 := (hb3.block w2.heap.size (by simp)).trans (heap_alloc_new w2 (.cells (tabA fr' tot o' c') 28))
  obtain ⟨z0, z1, z2, z3, z4, z5, z6, z7, z8, z9, z10, z11, z12, z13, z14, z15⟩ := tab_cells q1
  obtain ⟨v0, v1, v2, v3, v4, v5, v6, v7, v8, v9, v10, v11, v12, v13, v14, v15⟩ := tab_cells q2
  clear q1 q2 R0 R01 R1 B1 B2 hb3 H1 H2 s1 s2
  have e1 := eq7_lit (o' 0) (o' 1) (o' 2) (o' 3) (o' 4) (o' 5) (o' 6)
  have e2 := eq7_lit (c' 0) (c' 1) (c' 2) (c' 3) (c' 4) (c' 5) (c' 6)
  go_wp2
  trace_state
  go_ret
  refine ⟨?_, B3.out⟩
  simp
end Go.Proofs.Ythnognjcbjgkbaa
