/-
  A layout in memory; contract of end.
-/
import Derived.Test.YthnognjcbjgkbaaTab4
import Derived.Test.YthnognjcbjgkbaaRow
namespace Go.Proofs.Ythnognjcbjgkbaa
set_option linter.unusedVariables false
open Go.RowKit Go.Shelf

/-- a layout's cells: the frame, the total, the offsets, the counts -/
def tabA (fr tot : Int) (o c : Nat → Int) : Array Value := #[.int .u64 fr, .int .i64 tot, .int .i64 (o 0), .int .i64 (o 1), .int .i64 (o 2), .int .i64 (o 3), .int .i64 (o 4), .int .i64 (o 5), .int .i64 (o 6), .int .i64 (c 0), .int .i64 (c 1), .int .i64 (c 2), .int .i64 (c 3), .int .i64 (c 4), .int .i64 (c 5), .int .i64 (c 6)]
theorem tab_cell {w : World} {q ty : Nat} {fr tot : Int} {o c : Nat → Int} (h : w.heap[q]? = some (.cells (tabA fr tot o c) ty (0, 0))) (s : Nat) (hs : s < 7) :
    w.cell? ⟨q, 2 + s, none⟩ = some (.int .i64 (o s)) ∧ w.cell? ⟨q, 9 + s, none⟩ = some (.int .i64 (c s)) := by
  have : s = 0 ∨ s = 1 ∨ s = 2 ∨ s = 3 ∨ s = 4 ∨ s = 5 ∨ s = 6 := by omega
  rcases this with rfl | rfl | rfl | rfl | rfl | rfl | rfl <;> (constructor <;> (rw [cell_of_row w q _ _ _ (0, 0) h]; rfl))

set_option maxRecDepth 20000 in
set_option maxHeartbeats 400000 in
theorem end_any (fr tot : Int) (o c : Nat → Int) (s : Nat) (w : World) (hs : s < 7) (h0 : 0 ≤ o s ∧ o s ≤ 1000000) (h1 : 0 ≤ c s ∧ c s ≤ 1024) :
    Calls Try.prog 31 #[.agg (tabA fr tot o c), .int .i64 (s : Int)] w fun e w' => e = .returned (.int .i64 (o s + c s * szT s)) ∧ Below w.heap.size w w' := by
  have H := Lib.hid (fun w1 => Size_any (s : Int) w1)
  rw [sizeV_szT] at H
  obtain ⟨z0, z1⟩ := szT_range s
  obtain ⟨p0, p1⟩ := prod_range h1.1 h1.2 z0 z1
  have hb := tab_cell (heap_alloc_new w (.cells (tabA fr tot o c) 25)) s hs
  obtain ⟨k0, k1⟩ := hb
  have hm : IntKind.i64.wrap (c s * szT s) = c s * szT s := IntWalk.i64_in _ (by omega)
  have ha : IntKind.i64.wrap (o s + c s * szT s) = o s + c s * szT s := IntWalk.i64_in _ (by omega)
  have hB := (Below.refl w.heap.size w).alloc (Nat.le_refl _) (.cells (tabA fr tot o c) 25)
  generalize hA : tabA fr tot o c = A at *
  go_enter Try.func31, Try.ntmps31
  go_wp2_with fail
  go_quiet (exact (H.out _).mono (fun e w'' ⟨he, hw⟩ => ⟨he, _, hw.symm⟩))
  go_wp2
  go_ret
  exact ⟨rfl, ⟨hB.os, hB.tape, hB.output, hB.size, hB.block⟩⟩

/-- a function, changed at one place -/
def upd (f : Nat → Int) (s : Nat) (v : Int) : Nat → Int := fun i => if i = s then v else f i
theorem upd_same (f : Nat → Int) (s : Nat) (v : Int) : upd f s v s = v := by simp [upd]
theorem tabA_off (fr tot : Int) (o c : Nat → Int) (s : Nat) (hs : s < 7) (v : Int) : (tabA fr tot o c).setIfInBounds (2 + s) (.int .i64 v) = tabA fr tot (upd o s v) c := by
  have : s = 0 ∨ s = 1 ∨ s = 2 ∨ s = 3 ∨ s = 4 ∨ s = 5 ∨ s = 6 := by omega
  rcases this with rfl | rfl | rfl | rfl | rfl | rfl | rfl <;> simp [tabA, upd]
theorem tabA_cnt (fr tot : Int) (o c : Nat → Int) (s : Nat) (hs : s < 7) (v : Int) : (tabA fr tot o c).setIfInBounds (9 + s) (.int .i64 v) = tabA fr tot o (upd c s v) := by
  have : s = 0 ∨ s = 1 ∨ s = 2 ∨ s = 3 ∨ s = 4 ∨ s = 5 ∨ s = 6 := by omega
  rcases this with rfl | rfl | rfl | rfl | rfl | rfl | rfl <;> simp [tabA, upd]
theorem tab_off {w : World} {q ty : Nat} {fr tot : Int} {o c : Nat → Int} (h : w.heap[q]? = some (.cells (tabA fr tot o c) ty (0, 0))) (s : Nat) (hs : s < 7) (v : Int) :
    (w.setCell ⟨q, 2 + s, none⟩ (.int .i64 v)).heap[q]? = some (.cells (tabA fr tot (upd o s v) c) ty (0, 0)) := by
  rw [row_set h, tabA_off _ _ _ _ s hs]
theorem tab_cnt {w : World} {q ty : Nat} {fr tot : Int} {o c : Nat → Int} (h : w.heap[q]? = some (.cells (tabA fr tot o c) ty (0, 0))) (s : Nat) (hs : s < 7) (v : Int) :
    (w.setCell ⟨q, 9 + s, none⟩ (.int .i64 v)).heap[q]? = some (.cells (tabA fr tot o (upd c s v)) ty (0, 0)) := by
  rw [row_set h, tabA_cnt _ _ _ _ s hs]

theorem tab_tot {w : World} {q ty : Nat} {fr tot : Int} {o c : Nat → Int} (h : w.heap[q]? = some (.cells (tabA fr tot o c) ty (0, 0))) (v : Int) :
    (w.setCell ⟨q, 1, none⟩ (.int .i64 v)).heap[q]? = some (.cells (tabA fr v o c) ty (0, 0)) := by
  rw [row_set h]
  simp [tabA]
theorem tab_one {w : World} {q ty : Nat} {fr tot : Int} {o c : Nat → Int} (h : w.heap[q]? = some (.cells (tabA fr tot o c) ty (0, 0))) : w.cell? ⟨q, 1, none⟩ = some (.int .i64 tot) := by
  rw [cell_of_row w q _ _ _ (0, 0) h]; rfl
theorem tab_all (fr tot : Int) (o c : Nat → Int) : (tabA fr tot o c).all (·.oneCell') = true := by simp [tabA, Value.oneCell']
theorem infoT : (Try.prog.info? 25).map (·.size) = some 16 := by kernel_rfl
theorem infoR : (Try.prog.info? 28).map (·.size) = some 16 := by kernel_rfl
/-- the layout under way: the offsets, the counts, the next offset -/
def stepT (c : Nat → Int) (st : (Nat → Int) × (Nat → Int) × Int) (k : Fin 6) : (Nat → Int) × (Nat → Int) × Int :=
  (upd st.1 (k.val + 1) st.2.2, upd st.2.1 (k.val + 1) (c (k.val + 1)), al (st.2.2 + c (k.val + 1) * szT (k.val + 1)))
def foldT (c : Nat → Int) (pre : List (Fin 6)) : (Nat → Int) × (Nat → Int) × Int := pre.foldl (stepT c) (fun _ => 0, fun _ => 0, 80)
def okL (c : Nat → Int) (pre : List (Fin 6)) : Prop := ∀ k ∈ pre, 0 ≤ c (k.val + 1) ∧ c (k.val + 1) ≤ limT (k.val + 1)
theorem foldT_snoc (c : Nat → Int) (pre : List (Fin 6)) (k : Fin 6) : foldT c (pre ++ [k]) = stepT c (foldT c pre) k := by simp [foldT]
theorem okL_snoc {c : Nat → Int} {pre : List (Fin 6)} {k : Fin 6} : okL c (pre ++ [k]) ↔ okL c pre ∧ 0 ≤ c (k.val + 1) ∧ c (k.val + 1) ≤ limT (k.val + 1) := by
  unfold okL
  constructor
  · intro h
    exact ⟨fun j hj => h j (by simp [hj]), h k (by simp)⟩
  · rintro ⟨h, hk⟩ j hj
    rcases List.mem_append.1 hj with hj | hj
    · exact h j hj
    · rw [List.mem_singleton.1 hj]; exact hk
theorem foldT_range {c : Nat → Int} : ∀ {n : Nat} {pre : List (Fin 6)}, pre.length = n → okL c pre → 80 ≤ (foldT c pre).2.2 ∧ (foldT c pre).2.2 ≤ 80 + 57360 * (n : Int)
  | 0, pre, hn, _ => by rw [List.length_eq_zero_iff.1 hn]; simp [foldT]
  | n + 1, pre, hn, h => by
    obtain ⟨q, k, rfl⟩ : ∃ q k, pre = q ++ [k] := ⟨pre.dropLast, pre.getLast (by intro e; simp [e] at hn), (List.dropLast_concat_getLast _).symm⟩
    obtain ⟨h1, h2⟩ := okL_snoc.1 h
    obtain ⟨a, b⟩ := foldT_range (n := n) (by simpa using hn) h1
    obtain ⟨z0, z1⟩ := szT_range (k.val + 1)
    obtain ⟨l0, l1⟩ := limT_range (k.val + 1)
    obtain ⟨p0, p1⟩ := prod_range h2.1 (Int.le_trans h2.2 l1) z0 z1
    obtain ⟨q0, q1, q2⟩ := al_range ((foldT c q).2.2 + c (k.val + 1) * szT (k.val + 1))
    rw [foldT_snoc]
    simp only [stepT]
    omega
theorem upT_all : upT 6 = [0, 1, 2, 3, 4, 5] := by decide
theorem okL_all {c : Nat → Int} (h : okL c (upT 6)) : okT c 6 := by
  rw [upT_all] at h
  intro s h1 h6
  have : s = 1 ∨ s = 2 ∨ s = 3 ∨ s = 4 ∨ s = 5 ∨ s = 6 := by omega
  rcases this with rfl | rfl | rfl | rfl | rfl | rfl
  · exact h 0 (by simp)
  · exact h 1 (by simp)
  · exact h 2 (by simp)
  · exact h 3 (by simp)
  · exact h 4 (by simp)
  · exact h 5 (by simp)

theorem okL_of {c : Nat → Int} (h : okT c 6) (pre : List (Fin 6)) : okL c pre := fun k _ => h (k.val + 1) (by omega) (by omega)
/-- the layout of counts -/
def offO (c : Nat → Int) (s : Nat) : Int := if s = 0 then 0 else offT c (s - 1)
def cntO (c : Nat → Int) (s : Nat) : Int := if s = 0 then 0 else c s
def tabT (fr : Int) (c : Nat → Int) : Array Value := tabA fr (totT c) (offO c) (cntO c)
def tabZ : Array Value := tabA 0 0 (fun _ => 0) (fun _ => 0)
theorem tabT_fold (fr : Int) (c : Nat → Int) : tabA fr ((foldT c (upT 6)).2.2 + 4) (foldT c (upT 6)).1 (foldT c (upT 6)).2.1 = tabT fr c := by
  rw [upT_all]
  rfl
def cntA (c : Nat → Int) : Array Value := #[.int .i64 (c 0), .int .i64 (c 1), .int .i64 (c 2), .int .i64 (c 3), .int .i64 (c 4), .int .i64 (c 5), .int .i64 (c 6)]
theorem cnt_cell {w : World} {q ty : Nat} {c : Nat → Int} (h : w.heap[q]? = some (.cells (cntA c) ty (0, 0))) (s : Nat) (hs : s < 7) : w.cell? ⟨q, s, none⟩ = some (.int .i64 (c s)) := by
  have : s = 0 ∨ s = 1 ∨ s = 2 ∨ s = 3 ∨ s = 4 ∨ s = 5 ∨ s = 6 := by omega
  rcases this with rfl | rfl | rfl | rfl | rfl | rfl | rfl <;> (rw [cell_of_row w q _ _ _ (0, 0) h]; rfl)
theorem tab_cells {w : World} {q ty : Nat} {fr tot : Int} {o c : Nat → Int} (h : w.heap[q]? = some (.cells (tabA fr tot o c) ty (0, 0))) :
    w.cell? ⟨q, 0, none⟩ = some (.int .u64 fr) ∧ w.cell? ⟨q, 1, none⟩ = some (.int .i64 tot) ∧ w.cell? ⟨q, 2, none⟩ = some (.int .i64 (o 0)) ∧ w.cell? ⟨q, 3, none⟩ = some (.int .i64 (o 1)) ∧ w.cell? ⟨q, 4, none⟩ = some (.int .i64 (o 2)) ∧ w.cell? ⟨q, 5, none⟩ = some (.int .i64 (o 3)) ∧ w.cell? ⟨q, 6, none⟩ = some (.int .i64 (o 4)) ∧ w.cell? ⟨q, 7, none⟩ = some (.int .i64 (o 5)) ∧ w.cell? ⟨q, 8, none⟩ = some (.int .i64 (o 6)) ∧ w.cell? ⟨q, 9, none⟩ = some (.int .i64 (c 0)) ∧ w.cell? ⟨q, 10, none⟩ = some (.int .i64 (c 1)) ∧ w.cell? ⟨q, 11, none⟩ = some (.int .i64 (c 2)) ∧ w.cell? ⟨q, 12, none⟩ = some (.int .i64 (c 3)) ∧ w.cell? ⟨q, 13, none⟩ = some (.int .i64 (c 4)) ∧ w.cell? ⟨q, 14, none⟩ = some (.int .i64 (c 5)) ∧ w.cell? ⟨q, 15, none⟩ = some (.int .i64 (c 6)) := by
  refine ⟨?_, ?_, ?_, ?_, ?_, ?_, ?_, ?_, ?_, ?_, ?_, ?_, ?_, ?_, ?_, ?_⟩ <;> (rw [cell_of_row w q _ _ _ (0, 0) h]; rfl)
theorem tab_free {w : World} {q ty : Nat} {cs : Array Value} (hq : w.heap[q]? = some (.cells cs ty (0, 0))) (k : Nat) : w.frozen? ⟨q, k, none⟩ = false := by simp [World.frozen?, hq]
theorem set16 (fr tot fr' tot' : Int) (o c o' c' : Nat → Int) : (((((((((((((((((tabA fr tot o c).setIfInBounds 0 (.int .u64 fr')).setIfInBounds 1 (.int .i64 tot')).setIfInBounds 2 (.int .i64 (o' 0))).setIfInBounds 3 (.int .i64 (o' 1))).setIfInBounds 4 (.int .i64 (o' 2))).setIfInBounds 5 (.int .i64 (o' 3))).setIfInBounds 6 (.int .i64 (o' 4))).setIfInBounds 7 (.int .i64 (o' 5))).setIfInBounds 8 (.int .i64 (o' 6))).setIfInBounds 9 (.int .i64 (c' 0))).setIfInBounds 10 (.int .i64 (c' 1))).setIfInBounds 11 (.int .i64 (c' 2))).setIfInBounds 12 (.int .i64 (c' 3))).setIfInBounds 13 (.int .i64 (c' 4))).setIfInBounds 14 (.int .i64 (c' 5))).setIfInBounds 15 (.int .i64 (c' 6))) = tabA fr' tot' o' c' := by
  simp [tabA]
theorem tab_after {w : World} {q ty : Nat} {fr tot : Int} {o c : Nat → Int} (h : w.heap[q]? = some (.cells (tabA fr tot o c) ty (0, 0))) (fr' tot' : Int) (o' c' : Nat → Int) :
    ((((((((((((((((w.setCell ⟨q, 0, none⟩ (.int .u64 fr')).setCell ⟨q, 1, none⟩ (.int .i64 tot')).setCell ⟨q, 2, none⟩ (.int .i64 (o' 0))).setCell ⟨q, 3, none⟩ (.int .i64 (o' 1))).setCell ⟨q, 4, none⟩ (.int .i64 (o' 2))).setCell ⟨q, 5, none⟩ (.int .i64 (o' 3))).setCell ⟨q, 6, none⟩ (.int .i64 (o' 4))).setCell ⟨q, 7, none⟩ (.int .i64 (o' 5))).setCell ⟨q, 8, none⟩ (.int .i64 (o' 6))).setCell ⟨q, 9, none⟩ (.int .i64 (c' 0))).setCell ⟨q, 10, none⟩ (.int .i64 (c' 1))).setCell ⟨q, 11, none⟩ (.int .i64 (c' 2))).setCell ⟨q, 12, none⟩ (.int .i64 (c' 3))).setCell ⟨q, 13, none⟩ (.int .i64 (c' 4))).setCell ⟨q, 14, none⟩ (.int .i64 (c' 5))).setCell ⟨q, 15, none⟩ (.int .i64 (c' 6))).heap[q]? = some (.cells (tabA fr' tot' o' c') ty (0, 0)) := by
  rw [← set16 fr tot fr' tot' o c o' c']
  exact (row_set (row_set (row_set (row_set (row_set (row_set (row_set (row_set (row_set (row_set (row_set (row_set (row_set (row_set (row_set (row_set h 0 _) 1 _) 2 _) 3 _) 4 _) 5 _) 6 _) 7 _) 8 _) 9 _) 10 _) 11 _) 12 _) 13 _) 14 _) 15 _)
theorem tab_below {B q : Nat} {w w1 : World} (h : Below B w w1) (hq : B ≤ q) (x0 x1 x2 x3 x4 x5 x6 x7 x8 x9 x10 x11 x12 x13 x14 x15 : Value) : Below B w ((((((((((((((((w1.setCell ⟨q, 0, none⟩ x0).setCell ⟨q, 1, none⟩ x1).setCell ⟨q, 2, none⟩ x2).setCell ⟨q, 3, none⟩ x3).setCell ⟨q, 4, none⟩ x4).setCell ⟨q, 5, none⟩ x5).setCell ⟨q, 6, none⟩ x6).setCell ⟨q, 7, none⟩ x7).setCell ⟨q, 8, none⟩ x8).setCell ⟨q, 9, none⟩ x9).setCell ⟨q, 10, none⟩ x10).setCell ⟨q, 11, none⟩ x11).setCell ⟨q, 12, none⟩ x12).setCell ⟨q, 13, none⟩ x13).setCell ⟨q, 14, none⟩ x14).setCell ⟨q, 15, none⟩ x15) := ((((((((((((((((h.setCell hq x0).setCell hq x1).setCell hq x2).setCell hq x3).setCell hq x4).setCell hq x5).setCell hq x6).setCell hq x7).setCell hq x8).setCell hq x9).setCell hq x10).setCell hq x11).setCell hq x12).setCell hq x13).setCell hq x14).setCell hq x15)
theorem tab_others {q : Nat} {w w1 : World} (h : KeepsOthers w w1) (x0 x1 x2 x3 x4 x5 x6 x7 x8 x9 x10 x11 x12 x13 x14 x15 : Value) : KeepsOthers w ((((((((((((((((w1.setCell ⟨q, 0, none⟩ x0).setCell ⟨q, 1, none⟩ x1).setCell ⟨q, 2, none⟩ x2).setCell ⟨q, 3, none⟩ x3).setCell ⟨q, 4, none⟩ x4).setCell ⟨q, 5, none⟩ x5).setCell ⟨q, 6, none⟩ x6).setCell ⟨q, 7, none⟩ x7).setCell ⟨q, 8, none⟩ x8).setCell ⟨q, 9, none⟩ x9).setCell ⟨q, 10, none⟩ x10).setCell ⟨q, 11, none⟩ x11).setCell ⟨q, 12, none⟩ x12).setCell ⟨q, 13, none⟩ x13).setCell ⟨q, 14, none⟩ x14).setCell ⟨q, 15, none⟩ x15) := ((((((((((((((((h.trans (KeepsOthers.setCell _ _ x0)).trans (KeepsOthers.setCell _ _ x1)).trans (KeepsOthers.setCell _ _ x2)).trans (KeepsOthers.setCell _ _ x3)).trans (KeepsOthers.setCell _ _ x4)).trans (KeepsOthers.setCell _ _ x5)).trans (KeepsOthers.setCell _ _ x6)).trans (KeepsOthers.setCell _ _ x7)).trans (KeepsOthers.setCell _ _ x8)).trans (KeepsOthers.setCell _ _ x9)).trans (KeepsOthers.setCell _ _ x10)).trans (KeepsOthers.setCell _ _ x11)).trans (KeepsOthers.setCell _ _ x12)).trans (KeepsOthers.setCell _ _ x13)).trans (KeepsOthers.setCell _ _ x14)).trans (KeepsOthers.setCell _ _ x15))
theorem tab_far {q k : Nat} {w1 : World} (h : k ≠ q) (x0 x1 x2 x3 x4 x5 x6 x7 x8 x9 x10 x11 x12 x13 x14 x15 : Value) : ((((((((((((((((w1.setCell ⟨q, 0, none⟩ x0).setCell ⟨q, 1, none⟩ x1).setCell ⟨q, 2, none⟩ x2).setCell ⟨q, 3, none⟩ x3).setCell ⟨q, 4, none⟩ x4).setCell ⟨q, 5, none⟩ x5).setCell ⟨q, 6, none⟩ x6).setCell ⟨q, 7, none⟩ x7).setCell ⟨q, 8, none⟩ x8).setCell ⟨q, 9, none⟩ x9).setCell ⟨q, 10, none⟩ x10).setCell ⟨q, 11, none⟩ x11).setCell ⟨q, 12, none⟩ x12).setCell ⟨q, 13, none⟩ x13).setCell ⟨q, 14, none⟩ x14).setCell ⟨q, 15, none⟩ x15).heap[k]? = w1.heap[k]? := by
  exact (((((((((((((((Below.heap_setCell _ _ _ _ h).trans (Below.heap_setCell _ _ _ _ h)).trans (Below.heap_setCell _ _ _ _ h)).trans (Below.heap_setCell _ _ _ _ h)).trans (Below.heap_setCell _ _ _ _ h)).trans (Below.heap_setCell _ _ _ _ h)).trans (Below.heap_setCell _ _ _ _ h)).trans (Below.heap_setCell _ _ _ _ h)).trans (Below.heap_setCell _ _ _ _ h)).trans (Below.heap_setCell _ _ _ _ h)).trans (Below.heap_setCell _ _ _ _ h)).trans (Below.heap_setCell _ _ _ _ h)).trans (Below.heap_setCell _ _ _ _ h)).trans (Below.heap_setCell _ _ _ _ h)).trans (Below.heap_setCell _ _ _ _ h)).trans (Below.heap_setCell _ _ _ _ h)
theorem one_cell {w : World} {q ty : Nat} {x : Value} (hq : w.heap[q]? = some (.cells #[x] ty (0, 0))) : w.cell? ⟨q, 0, none⟩ = some x ∧ w.frozen? ⟨q, 0, none⟩ = false := by
  refine ⟨?_, tab_free hq 0⟩
  rw [cell_of_row w q _ _ _ (0, 0) hq]; rfl
theorem keeps_of_below {W W' : World} (h : Below W.heap.size W W') : KeepsOthers W W' := ⟨h.size, fun k o hk _ => (h.block k (Array.getElem?_eq_some_iff.1 hk).1).trans hk⟩
end Go.Proofs.Ythnognjcbjgkbaa
