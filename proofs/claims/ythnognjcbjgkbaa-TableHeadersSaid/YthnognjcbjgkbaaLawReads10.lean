/-
  What the law TableReads computes: true.
-/
import Derived.Test.YthnognjcbjgkbaaTab16
import Derived.Test.YthnognjcbjgkbaaTab19
namespace Go.Proofs.Ythnognjcbjgkbaa
set_option linter.unusedVariables false
open Go.RowKit Go.Shelf

theorem getT_form (xs : List UInt8) : ∃ fr' tot o' c', getT xs = tabA fr' tot o' c' := by
  unfold getT
  split
  · exact ⟨_, _, _, _, rfl⟩
  · exact ⟨_, _, _, _, rfl⟩

set_option maxRecDepth 100000 in
set_option maxHeartbeats 4000000 in
theorem TableReads_any (B : Nat) (A : Option Addr) (c : Nat) (xs : List UInt8) (w : World) (hR : Rd w B A xs) (hB : B ≤ w.heap.size) (hc : xs.length ≤ c) (hn : c ≤ 9223372036854775807) :
    Calls Try.prog 6 #[.slice A xs.length c] w (AliveOK w) := by
  by_cases h3 : 3000 < xs.length
  · have d0 : decide (3000 < (xs.length : Int)) = true := decide_eq_true (by omega)
    clear hR
    go_enter Try.func6, Try.ntmps6
    go_wp2_with fail
    refine (alive10 _).mono ?_
    rintro e w1 ⟨rfl, hb1⟩
    go_wp2
    go_ret
    exact ⟨rfl, hb1⟩
  have d0 : decide (3000 < (xs.length : Int)) = false := decide_eq_false (by omega)
  go_enter Try.func6, Try.ntmps6
  go_wp2_with fail
  refine (Get_any B A c xs w hR hB hc hn).mono ?_
  rintro e w1 ⟨rfl, hb1⟩
  have HR := Lib.hid hR
  have HREF := Lib.hid (fun (w' : World) (h : Rd w' B A xs) (hB' : B ≤ w'.heap.size) => refGet_any B A c xs w' h hB' hc hn)
  have hROK : ∀ w', RGetOK xs w' = fun e w'' => e = .returned (.tuple #[.agg (getT xs), .int .i64 (getV xs).1, .int .i64 (getV xs).2]) ∧ Below w'.heap.size w' w'' := fun _ => rfl
  simp only [hROK] at HREF
  obtain ⟨fr', tot, o', c', hT⟩ := getT_form xs
  rw [hT] at HREF ⊢
  obtain ⟨x, z, hxz⟩ : ∃ x z, getV xs = (x, z) := ⟨_, _, rfl⟩
  rw [hxz] at HREF ⊢
  clear hT hxz hROK hR
  have hb2 := hb1.trans ((((Below.refl w1.heap.size w1).alloc (Nat.le_refl _) (.cells tabZ 25)).alloc (by simp) (.cells (fltA 0 0) 47)).mono hb1.size)
  have r1 := (Below.heap_alloc (w1.alloc (.cells tabZ 25)) (.cells (fltA 0 0) 47) w1.heap.size (by simp)).trans (heap_alloc_new w1 (.cells tabZ 25))
  have r2 := heap_alloc_new (w1.alloc (.cells tabZ 25)) (.cells (fltA 0 0) 47)
  rw [World.size_alloc] at r2
  have r2' := (setRow_other ((w1.alloc (.cells tabZ 25)).alloc (.cells (fltA 0 0) 47)) w1.heap.size (w1.heap.size + 1) (tabA fr' tot o' c') (by omega)).trans r2
  have R1 := Lib.hid ((setRow_other (((w1.alloc (.cells tabZ 25)).alloc (.cells (fltA 0 0) 47)).setRow w1.heap.size (tabA fr' tot o' c')) (w1.heap.size + 1) w1.heap.size (fltA x z) (by omega)).trans (setRow_heap _ w1.heap.size tabZ (tabA fr' tot o' c') 25 (0, 0) r1))
  have R2 := Lib.hid (setRow_heap _ (w1.heap.size + 1) (fltA 0 0) (fltA x z) 47 (0, 0) r2')
  have B2 := Lib.hid (setRow_below (setRow_below hb2 (show w.heap.size ≤ w1.heap.size from hb1.size) (tabA fr' tot o' c')) (show w.heap.size ≤ w1.heap.size + 1 from Nat.le_succ_of_le hb1.size) (fltA x z))
  have hs1 := hb1.size
  have RA := Lib.hid r1
  have RB := Lib.hid r2'
  clear hb1 hb2 r1 r2 r2'
  go_upto_region 3 with (first | (refine wpList_store_rowTo rfl 25 (.tmp 3) (.tmp 15) rfl rfl w1.heap.size (tabA fr' tot o' c') rfl rfl 25 tabZ RA.out infoT rfl (tab_all _ _ _ _) ?_) | (refine wpList_store_rowTo rfl 47 (.tmp 4) (.tmp 16) rfl rfl (w1.heap.size + 1) (fltA x z) rfl rfl 47 (fltA 0 0) RB.out infoF rfl (flt_all _ _) ?_))
  go_wp2_with (first | (refine wpList_store_rowTo rfl 25 (.tmp 3) (.tmp 15) rfl rfl w1.heap.size (tabA fr' tot o' c') rfl rfl 25 tabZ RA.out infoT rfl (tab_all _ _ _ _) ?_) | (refine wpList_store_rowTo rfl 47 (.tmp 4) (.tmp 16) rfl rfl (w1.heap.size + 1) (fltA x z) rfl rfl 47 (fltA 0 0) RB.out infoF rfl (flt_all _ _) ?_))
  rw [show (Obj.cells #[Value.int IntKind.u64 0, Value.int IntKind.i64 0, Value.int IntKind.i64 0, Value.int IntKind.i64 0, Value.int IntKind.i64 0, Value.int IntKind.i64 0, Value.int IntKind.i64 0, Value.int IntKind.i64 0, Value.int IntKind.i64 0, Value.int IntKind.i64 0, Value.int IntKind.i64 0, Value.int IntKind.i64 0, Value.int IntKind.i64 0, Value.int IntKind.i64 0, Value.int IntKind.i64 0, Value.int IntKind.i64 0] 25) = .cells tabZ 25 from rfl, show (Obj.cells #[Value.int IntKind.i64 0, Value.int IntKind.i64 0, Value.int IntKind.i64 0] 47) = .cells (fltA 0 0) 47 from rfl]
  generalize ((((w1.alloc (.cells tabZ 25)).alloc (.cells (fltA 0 0) 47)).setRow w1.heap.size (tabA fr' tot o' c')).setRow (w1.heap.size + 1) (fltA x z)) = w2 at *
  generalize w1.heap.size = q at *
  clear RA RB
  have hlt := (Array.getElem?_eq_some_iff.1 R2.out).1
  refine (HREF.out w2 (HR.out.below (B2.out.mono hB)) (by omega)).mono ?_
  rintro e w3 ⟨rfl, hb3⟩
  have s1 := store_new (tabA fr' tot o' c') rfl (tab_all _ _ _ _) 28
  have R3 := Lib.hid ((hb3.block q (by omega)).trans R1.out)
  have R4 := Lib.hid ((hb3.block (q + 1) hlt).trans R2.out)
  have B3 := Lib.hid (B2.out.trans (hb3.mono (by omega)))
  have hlt3 : q + 1 < w3.heap.size := Nat.lt_of_lt_of_le hlt hb3.size
  clear hb3 R1 R2 B2
  go_upto_region 5 with fail
  have R5 := Lib.hid ((Below.heap_alloc w3 (.cells (tabA fr' tot o' c') 28) q (by omega)).trans R3.out)
  have R6 := Lib.hid ((Below.heap_alloc w3 (.cells (tabA fr' tot o' c') 28) (q + 1) hlt3).trans R4.out)
  have R7 := Lib.hid (heap_alloc_new w3 (.cells (tabA fr' tot o' c') 28))
  have B5 := Lib.hid (B3.out.alloc (by omega) (.cells (tabA fr' tot o' c') 28))
  have hz5 : (w3.alloc (.cells (tabA fr' tot o' c') 28)).heap.size = w3.heap.size + 1 := by simp
  generalize w3.alloc (.cells (tabA fr' tot o' c') 28) = w5 at *
  generalize w3.heap.size = p at *
  clear R3 R4 B3 s1
  go_wp2_with fail
  refine (alive10 w5).mono ?_
  rintro e w6 ⟨rfl, hb6⟩
  have q1 := (hb6.block q (by omega)).trans R5.out
  have q2 := (hb6.block (q + 1) (by omega)).trans R6.out
  have q3 := (hb6.block p (by omega)).trans R7.out
  have B6 := Lib.hid (B5.out.trans (hb6.mono (by omega)))
  obtain ⟨z0, z1, z2, z3, z4, z5, z6, z7, z8, z9, z10, z11, z12, z13, z14, z15⟩ := tab_cells q1
  obtain ⟨v0, v1, v2, v3, v4, v5, v6, v7, v8, v9, v10, v11, v12, v13, v14, v15⟩ := tab_cells q3
  obtain ⟨f0, f1, f2⟩ := three_cells q2
  clear hb6 q1 q2 q3 R5 R6 R7 B5
  have e1 := eq7_lit (o' 0) (o' 1) (o' 2) (o' 3) (o' 4) (o' 5) (o' 6)
  have e2 := eq7_lit (c' 0) (c' 1) (c' 2) (c' 3) (c' 4) (c' 5) (c' 6)
  go_wp2
  go_ret
  exact ⟨by simp, B6.out⟩
end Go.Proofs.Ythnognjcbjgkbaa
