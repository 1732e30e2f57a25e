/-
  Both layouts, and the example of the chapter.
-/
import Derived.Test.YthnognjcbjgkbaaTab6
import Derived.Test.YthnognjcbjgkbaaTab7
namespace Go.Proofs.Ythnognjcbjgkbaa
set_option linter.unusedVariables false
open Go.RowKit Go.Shelf

open Classical in
noncomputable def okB (c : Nat → Int) : Bool := decide (okT c 6)
open Classical in
noncomputable def tabR (fr : Int) (c : Nat → Int) : Array Value := if okT c 6 then tabT fr c else tabZ
theorem okB_true {c : Nat → Int} (h : okT c 6) : okB c = true := by unfold okB; simp [h]
theorem okB_false {c : Nat → Int} (h : ¬ okT c 6) : okB c = false := by unfold okB; simp [h]
theorem tabR_true {c : Nat → Int} (h : okT c 6) (fr : Int) : tabR fr c = tabT fr c := by unfold tabR; rw [if_pos h]
theorem tabR_false {c : Nat → Int} (h : ¬ okT c 6) (fr : Int) : tabR fr c = tabZ := by unfold tabR; rw [if_neg h]
theorem tabR_form (fr : Int) (c : Nat → Int) : ∃ fr' tot o' c', tabR fr c = tabA fr' tot o' c' := by
  by_cases h : okT c 6
  · exact ⟨_, _, _, _, tabR_true h fr⟩
  · exact ⟨_, _, _, _, tabR_false h fr⟩

theorem For_res (fr : Int) (c : Nat → Int) (w : World) :
    Calls Try.prog 9 #[.int .u64 fr, .agg (cntA c)] w fun e w' => e = .returned (.tuple #[.agg (tabR fr c), .bool (okB c)]) ∧ Below w.heap.size w w' := by
  refine (For_any fr c w).mono ?_
  rintro e w' ⟨h1, h2, hb⟩
  refine ⟨?_, hb⟩
  by_cases h : okT c 6
  · rw [h1 h, tabR_true h, okB_true h]
  · rw [h2 h, tabR_false h, okB_false h]
theorem refFor_res (fr : Int) (c : Nat → Int) (w : World) :
    Calls Try.prog 10 #[.int .u64 fr, .agg (cntA c)] w fun e w' => e = .returned (.tuple #[.agg (tabR fr c), .bool (okB c)]) ∧ Below w.heap.size w w' := by
  refine (refFor_any fr c w).mono ?_
  rintro e w' ⟨h1, h2, hb⟩
  refine ⟨?_, hb⟩
  by_cases h : okT c 6
  · rw [h1 h, tabR_true h, okB_true h]
  · rw [h2 h, tabR_false h, okB_false h]
/-- the counts of an array -/
def cntF (c0 c1 c2 c3 c4 c5 c6 : Int) : Nat → Int
  | 0 => c0
  | 1 => c1
  | 2 => c2
  | 3 => c3
  | 4 => c4
  | 5 => c5
  | 6 => c6
  | _ => 0
theorem ok0 : okT (fun _ => 0) 6 := fun s h1 h6 => ⟨Int.le_refl _, (limT_range s).1⟩
theorem ok1 : okT (cntF 0 0 1 0 0 0 0) 6 := by
  intro s h1 h6
  have : s = 1 ∨ s = 2 ∨ s = 3 ∨ s = 4 ∨ s = 5 ∨ s = 6 := by omega
  rcases this with rfl | rfl | rfl | rfl | rfl | rfl <;> decide

/-- true, and what was there is as it was -/
def AliveOK (w : World) (e : Ending) (w' : World) : Prop := e = .returned (.bool true) ∧ Below w.heap.size w w'

theorem setRow_new (W : World) (old cs : Array Value) (t : Nat) : (W.alloc (.cells old t)).setRow W.heap.size cs = W.alloc (.cells cs t) := by
  have h : ((W.alloc (.cells old t)).setRow W.heap.size cs).heap = (W.alloc (.cells cs t)).heap := by
    apply Array.ext_getElem?
    intro k
    by_cases e : k = W.heap.size
    · subst e
      rw [setRow_heap _ _ old cs t (0, 0) (heap_alloc_new W _), heap_alloc_new]
    · rw [setRow_other _ _ _ _ e]
      by_cases hk : k < W.heap.size
      · rw [Below.heap_alloc _ _ _ hk, Below.heap_alloc _ _ _ hk]
      · rw [Array.getElem?_eq_none (by simp; omega), Array.getElem?_eq_none (by simp; omega)]
  have e : ∀ (x y : World), x.heap = y.heap → x.tape = y.tape → x.drawn = y.drawn → x.os = y.os → x.output = y.output → x = y := by
    rintro ⟨⟩ ⟨⟩ h1 h2 h3 h4 h5
    simp_all
  exact e _ _ h rfl rfl rfl rfl
/-- a layout is stored into a new variable -/
theorem store_new (T : Array Value) (hs : T.size = 16) (h1 : T.all (·.oneCell') = true) (t : Nat) (W : World) :
    (storeCells ⟨W.heap.size, 0, none⟩ T.toList).run Try.prog (W.alloc (.cells #[.int .u64 0, .int .i64 0, .int .i64 0, .int .i64 0, .int .i64 0, .int .i64 0, .int .i64 0, .int .i64 0, .int .i64 0, .int .i64 0, .int .i64 0, .int .i64 0, .int .i64 0, .int .i64 0, .int .i64 0, .int .i64 0] t)) = .ok () (W.alloc (.cells T t)) := by
  rw [run_storeCells_from (P := Try.prog) W.heap.size t T.toList 0 #[.int .u64 0, .int .i64 0, .int .i64 0, .int .i64 0, .int .i64 0, .int .i64 0, .int .i64 0, .int .i64 0, .int .i64 0, .int .i64 0, .int .i64 0, .int .i64 0, .int .i64 0, .int .i64 0, .int .i64 0, .int .i64 0] (W.alloc (.cells #[.int .u64 0, .int .i64 0, .int .i64 0, .int .i64 0, .int .i64 0, .int .i64 0, .int .i64 0, .int .i64 0, .int .i64 0, .int .i64 0, .int .i64 0, .int .i64 0, .int .i64 0, .int .i64 0, .int .i64 0, .int .i64 0] t)) (heap_alloc_new W _) (by simp [hs]) (fun v hv => (Array.all_eq_true_iff_forall_mem.1 h1) v (by simpa using hv))]
  congr 1
  rw [← setRow_new W #[.int .u64 0, .int .i64 0, .int .i64 0, .int .i64 0, .int .i64 0, .int .i64 0, .int .i64 0, .int .i64 0, .int .i64 0, .int .i64 0, .int .i64 0, .int .i64 0, .int .i64 0, .int .i64 0, .int .i64 0, .int .i64 0] T t]
  simp [hs]

set_option maxRecDepth 20000 in
set_option maxHeartbeats 2000000 in
theorem alive10 (w : World) : Calls Try.prog 11 #[] w (AliveOK w) := by
  have s1 := store_new (tabT 7 fun _ => 0) rfl (tab_all _ _ _ _) 25
  have s2 := store_new (tabT 7 (cntF 0 0 1 0 0 0 0)) rfl (tab_all _ _ _ _) 25
  go_enter Try.func11, Try.ntmps11
  go_wp2_with fail
  refine (For_res 7 (fun _ => 0) w).mono ?_
  rintro e w1 ⟨rfl, hb1⟩
  rw [okB_true ok0, tabR_true ok0]
  have HB1 := Lib.hid hb1
  clear hb1
  go_wp2_with fail
  refine (For_res 7 (cntF 0 0 1 0 0 0 0) _).mono ?_
  rintro e w2 ⟨rfl, hb2⟩
  rw [okB_true ok1, tabR_true ok1]
  have hlt := hb2.size
  simp at hlt
  have r1 : w2.heap[w1.heap.size]? = some (.cells (tabA 7 84 (offO fun _ => 0) (cntO fun _ => 0)) 25 (0, 0)) := (hb2.block _ (by simp)).trans (heap_alloc_new w1 _)
  have r2 := heap_alloc_new w2 (.cells (tabA 7 116 (offO (cntF 0 0 1 0 0 0 0)) (cntO (cntF 0 0 1 0 0 0 0))) 25)
  have B2 := Lib.hid (HB1.out.trans ((((Below.refl _ w1).alloc (Nat.le_refl _) _).mono HB1.out.size).trans (hb2.mono (by have := HB1.out.size; simp; omega))))
  have r1' := (Below.heap_alloc w2 (.cells (tabT 7 (cntF 0 0 1 0 0 0 0)) 25) w1.heap.size (by omega)).trans r1
  clear hb2
  obtain ⟨x0, _⟩ := tab_cells r1'
  have x1 := tab_one r1'
  have y1 : (w2.alloc (.cells (tabT 7 (cntF 0 0 1 0 0 0 0)) 25)).cell? ⟨w2.heap.size, 1, none⟩ = some (.int .i64 116) := tab_one r2
  have y2 : (w2.alloc (.cells (tabT 7 (cntF 0 0 1 0 0 0 0)) 25)).cell? ⟨w2.heap.size, 4, none⟩ = some (.int .i64 80) := (tab_cell r2 2 (by omega)).1
  have y3 : (w2.alloc (.cells (tabT 7 (cntF 0 0 1 0 0 0 0)) 25)).cell? ⟨w2.heap.size, 5, none⟩ = some (.int .i64 112) := (tab_cell r2 3 (by omega)).1
  clear r1 r1' r2
  go_wp2
  go_ret
  exact ⟨rfl, B2.out.alloc B2.out.size _⟩
end Go.Proofs.Ythnognjcbjgkbaa
