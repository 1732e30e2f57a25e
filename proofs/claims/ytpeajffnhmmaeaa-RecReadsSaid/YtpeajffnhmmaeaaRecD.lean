/-
  Contracts of rec.done: every reader.
-/
import Derived.Test.YtpeajffnhmmaeaaRecS
import Derived.RegionTactic
import Derived.ChangeAlike
namespace Go.Proofs.Ytpeajffnhmmaeaa
set_option linter.unusedVariables false
open Go.RowKit

theorem row2_cells {w : World} {q ty : Nat} {x0 x1 : Value} (hq : w.heap[q]? = some (.cells #[x0, x1] ty (0, 0))) :
    w.cell? ⟨q, 0, none⟩ = some x0 ∧ w.cell? ⟨q, 1, none⟩ = some x1 := by
  refine ⟨?_, ?_⟩ <;> (rw [cell_of_row w q _ _ _ (0, 0) hq]; rfl)
theorem both2_after {w : World} {q p ty tz : Nat} {x0 x1 a0 a1 a2 : Value} (hne : q ≠ p) (h1 : w.heap[q]? = some (.cells #[x0, x1] ty (0, 0))) (h2 : w.heap[p]? = some (.cells #[a0, a1, a2] tz (0, 0))) (y0 y1 c0 c1 c2 : Value) :
    (((((w.setCell ⟨q, 0, none⟩ y0).setCell ⟨q, 1, none⟩ y1).setCell ⟨p, 0, none⟩ c0).setCell ⟨p, 1, none⟩ c1).setCell ⟨p, 2, none⟩ c2).heap[q]? = some (.cells #[y0, y1] ty (0, 0)) ∧ (((((w.setCell ⟨q, 0, none⟩ y0).setCell ⟨q, 1, none⟩ y1).setCell ⟨p, 0, none⟩ c0).setCell ⟨p, 1, none⟩ c1).setCell ⟨p, 2, none⟩ c2).heap[p]? = some (.cells #[c0, c1, c2] tz (0, 0)) := by
  have hne' : p ≠ q := fun e => hne e.symm
  constructor <;> simp [World.setCell, Array.getElem?_modify, h1, h2, hne, hne']
theorem both2_below {B : Nat} {w0 w : World} {q p : Nat} (h : Below B w0 w) (hq : B ≤ q) (hp : B ≤ p) (y0 y1 c0 c1 c2 : Value) : Below B w0 (((((w.setCell ⟨q, 0, none⟩ y0).setCell ⟨q, 1, none⟩ y1).setCell ⟨p, 0, none⟩ c0).setCell ⟨p, 1, none⟩ c1).setCell ⟨p, 2, none⟩ c2) := (((((h.setCell (p := ⟨q, 0, none⟩) hq y0).setCell (p := ⟨q, 1, none⟩) hq y1).setCell (p := ⟨p, 0, none⟩) hp c0).setCell (p := ⟨p, 1, none⟩) hp c1).setCell (p := ⟨p, 2, none⟩) hp c2)
theorem row3_cells {w : World} {q ty : Nat} {x0 x1 x2 : Value} (hq : w.heap[q]? = some (.cells #[x0, x1, x2] ty (0, 0))) :
    w.cell? ⟨q, 0, none⟩ = some x0 ∧ w.cell? ⟨q, 1, none⟩ = some x1 ∧ w.cell? ⟨q, 2, none⟩ = some x2 := by
  refine ⟨?_, ?_, ?_⟩ <;> (rw [cell_of_row w q _ _ _ (0, 0) hq]; rfl)
theorem both3_after {w : World} {q p ty tz : Nat} {x0 x1 x2 a0 a1 a2 : Value} (hne : q ≠ p) (h1 : w.heap[q]? = some (.cells #[x0, x1, x2] ty (0, 0))) (h2 : w.heap[p]? = some (.cells #[a0, a1, a2] tz (0, 0))) (y0 y1 y2 c0 c1 c2 : Value) :
    ((((((w.setCell ⟨q, 0, none⟩ y0).setCell ⟨q, 1, none⟩ y1).setCell ⟨q, 2, none⟩ y2).setCell ⟨p, 0, none⟩ c0).setCell ⟨p, 1, none⟩ c1).setCell ⟨p, 2, none⟩ c2).heap[q]? = some (.cells #[y0, y1, y2] ty (0, 0)) ∧ ((((((w.setCell ⟨q, 0, none⟩ y0).setCell ⟨q, 1, none⟩ y1).setCell ⟨q, 2, none⟩ y2).setCell ⟨p, 0, none⟩ c0).setCell ⟨p, 1, none⟩ c1).setCell ⟨p, 2, none⟩ c2).heap[p]? = some (.cells #[c0, c1, c2] tz (0, 0)) := by
  have hne' : p ≠ q := fun e => hne e.symm
  constructor <;> simp [World.setCell, Array.getElem?_modify, h1, h2, hne, hne']
theorem both3_below {B : Nat} {w0 w : World} {q p : Nat} (h : Below B w0 w) (hq : B ≤ q) (hp : B ≤ p) (y0 y1 y2 c0 c1 c2 : Value) : Below B w0 ((((((w.setCell ⟨q, 0, none⟩ y0).setCell ⟨q, 1, none⟩ y1).setCell ⟨q, 2, none⟩ y2).setCell ⟨p, 0, none⟩ c0).setCell ⟨p, 1, none⟩ c1).setCell ⟨p, 2, none⟩ c2) := ((((((h.setCell (p := ⟨q, 0, none⟩) hq y0).setCell (p := ⟨q, 1, none⟩) hq y1).setCell (p := ⟨q, 2, none⟩) hq y2).setCell (p := ⟨p, 0, none⟩) hp c0).setCell (p := ⟨p, 1, none⟩) hp c1).setCell (p := ⟨p, 2, none⟩) hp c2)
theorem row4_cells {w : World} {q ty : Nat} {x0 x1 x2 x3 : Value} (hq : w.heap[q]? = some (.cells #[x0, x1, x2, x3] ty (0, 0))) :
    w.cell? ⟨q, 0, none⟩ = some x0 ∧ w.cell? ⟨q, 1, none⟩ = some x1 ∧ w.cell? ⟨q, 2, none⟩ = some x2 ∧ w.cell? ⟨q, 3, none⟩ = some x3 := by
  refine ⟨?_, ?_, ?_, ?_⟩ <;> (rw [cell_of_row w q _ _ _ (0, 0) hq]; rfl)
theorem both4_after {w : World} {q p ty tz : Nat} {x0 x1 x2 x3 a0 a1 a2 : Value} (hne : q ≠ p) (h1 : w.heap[q]? = some (.cells #[x0, x1, x2, x3] ty (0, 0))) (h2 : w.heap[p]? = some (.cells #[a0, a1, a2] tz (0, 0))) (y0 y1 y2 y3 c0 c1 c2 : Value) :
    (((((((w.setCell ⟨q, 0, none⟩ y0).setCell ⟨q, 1, none⟩ y1).setCell ⟨q, 2, none⟩ y2).setCell ⟨q, 3, none⟩ y3).setCell ⟨p, 0, none⟩ c0).setCell ⟨p, 1, none⟩ c1).setCell ⟨p, 2, none⟩ c2).heap[q]? = some (.cells #[y0, y1, y2, y3] ty (0, 0)) ∧ (((((((w.setCell ⟨q, 0, none⟩ y0).setCell ⟨q, 1, none⟩ y1).setCell ⟨q, 2, none⟩ y2).setCell ⟨q, 3, none⟩ y3).setCell ⟨p, 0, none⟩ c0).setCell ⟨p, 1, none⟩ c1).setCell ⟨p, 2, none⟩ c2).heap[p]? = some (.cells #[c0, c1, c2] tz (0, 0)) := by
  have hne' : p ≠ q := fun e => hne e.symm
  constructor <;> simp [World.setCell, Array.getElem?_modify, h1, h2, hne, hne']
theorem both4_below {B : Nat} {w0 w : World} {q p : Nat} (h : Below B w0 w) (hq : B ≤ q) (hp : B ≤ p) (y0 y1 y2 y3 c0 c1 c2 : Value) : Below B w0 (((((((w.setCell ⟨q, 0, none⟩ y0).setCell ⟨q, 1, none⟩ y1).setCell ⟨q, 2, none⟩ y2).setCell ⟨q, 3, none⟩ y3).setCell ⟨p, 0, none⟩ c0).setCell ⟨p, 1, none⟩ c1).setCell ⟨p, 2, none⟩ c2) := (((((((h.setCell (p := ⟨q, 0, none⟩) hq y0).setCell (p := ⟨q, 1, none⟩) hq y1).setCell (p := ⟨q, 2, none⟩) hq y2).setCell (p := ⟨q, 3, none⟩) hq y3).setCell (p := ⟨p, 0, none⟩) hp c0).setCell (p := ⟨p, 1, none⟩) hp c1).setCell (p := ⟨p, 2, none⟩) hp c2)
theorem row5_cells {w : World} {q ty : Nat} {x0 x1 x2 x3 x4 : Value} (hq : w.heap[q]? = some (.cells #[x0, x1, x2, x3, x4] ty (0, 0))) :
    w.cell? ⟨q, 0, none⟩ = some x0 ∧ w.cell? ⟨q, 1, none⟩ = some x1 ∧ w.cell? ⟨q, 2, none⟩ = some x2 ∧ w.cell? ⟨q, 3, none⟩ = some x3 ∧ w.cell? ⟨q, 4, none⟩ = some x4 := by
  refine ⟨?_, ?_, ?_, ?_, ?_⟩ <;> (rw [cell_of_row w q _ _ _ (0, 0) hq]; rfl)
theorem both5_after {w : World} {q p ty tz : Nat} {x0 x1 x2 x3 x4 a0 a1 a2 : Value} (hne : q ≠ p) (h1 : w.heap[q]? = some (.cells #[x0, x1, x2, x3, x4] ty (0, 0))) (h2 : w.heap[p]? = some (.cells #[a0, a1, a2] tz (0, 0))) (y0 y1 y2 y3 y4 c0 c1 c2 : Value) :
    ((((((((w.setCell ⟨q, 0, none⟩ y0).setCell ⟨q, 1, none⟩ y1).setCell ⟨q, 2, none⟩ y2).setCell ⟨q, 3, none⟩ y3).setCell ⟨q, 4, none⟩ y4).setCell ⟨p, 0, none⟩ c0).setCell ⟨p, 1, none⟩ c1).setCell ⟨p, 2, none⟩ c2).heap[q]? = some (.cells #[y0, y1, y2, y3, y4] ty (0, 0)) ∧ ((((((((w.setCell ⟨q, 0, none⟩ y0).setCell ⟨q, 1, none⟩ y1).setCell ⟨q, 2, none⟩ y2).setCell ⟨q, 3, none⟩ y3).setCell ⟨q, 4, none⟩ y4).setCell ⟨p, 0, none⟩ c0).setCell ⟨p, 1, none⟩ c1).setCell ⟨p, 2, none⟩ c2).heap[p]? = some (.cells #[c0, c1, c2] tz (0, 0)) := by
  have hne' : p ≠ q := fun e => hne e.symm
  constructor <;> simp [World.setCell, Array.getElem?_modify, h1, h2, hne, hne']
theorem both5_below {B : Nat} {w0 w : World} {q p : Nat} (h : Below B w0 w) (hq : B ≤ q) (hp : B ≤ p) (y0 y1 y2 y3 y4 c0 c1 c2 : Value) : Below B w0 ((((((((w.setCell ⟨q, 0, none⟩ y0).setCell ⟨q, 1, none⟩ y1).setCell ⟨q, 2, none⟩ y2).setCell ⟨q, 3, none⟩ y3).setCell ⟨q, 4, none⟩ y4).setCell ⟨p, 0, none⟩ c0).setCell ⟨p, 1, none⟩ c1).setCell ⟨p, 2, none⟩ c2) := ((((((((h.setCell (p := ⟨q, 0, none⟩) hq y0).setCell (p := ⟨q, 1, none⟩) hq y1).setCell (p := ⟨q, 2, none⟩) hq y2).setCell (p := ⟨q, 3, none⟩) hq y3).setCell (p := ⟨q, 4, none⟩) hq y4).setCell (p := ⟨p, 0, none⟩) hp c0).setCell (p := ⟨p, 1, none⟩) hp c1).setCell (p := ⟨p, 2, none⟩) hp c2)
theorem row6_cells {w : World} {q ty : Nat} {x0 x1 x2 x3 x4 x5 : Value} (hq : w.heap[q]? = some (.cells #[x0, x1, x2, x3, x4, x5] ty (0, 0))) :
    w.cell? ⟨q, 0, none⟩ = some x0 ∧ w.cell? ⟨q, 1, none⟩ = some x1 ∧ w.cell? ⟨q, 2, none⟩ = some x2 ∧ w.cell? ⟨q, 3, none⟩ = some x3 ∧ w.cell? ⟨q, 4, none⟩ = some x4 ∧ w.cell? ⟨q, 5, none⟩ = some x5 := by
  refine ⟨?_, ?_, ?_, ?_, ?_, ?_⟩ <;> (rw [cell_of_row w q _ _ _ (0, 0) hq]; rfl)
theorem both6_after {w : World} {q p ty tz : Nat} {x0 x1 x2 x3 x4 x5 a0 a1 a2 : Value} (hne : q ≠ p) (h1 : w.heap[q]? = some (.cells #[x0, x1, x2, x3, x4, x5] ty (0, 0))) (h2 : w.heap[p]? = some (.cells #[a0, a1, a2] tz (0, 0))) (y0 y1 y2 y3 y4 y5 c0 c1 c2 : Value) :
    (((((((((w.setCell ⟨q, 0, none⟩ y0).setCell ⟨q, 1, none⟩ y1).setCell ⟨q, 2, none⟩ y2).setCell ⟨q, 3, none⟩ y3).setCell ⟨q, 4, none⟩ y4).setCell ⟨q, 5, none⟩ y5).setCell ⟨p, 0, none⟩ c0).setCell ⟨p, 1, none⟩ c1).setCell ⟨p, 2, none⟩ c2).heap[q]? = some (.cells #[y0, y1, y2, y3, y4, y5] ty (0, 0)) ∧ (((((((((w.setCell ⟨q, 0, none⟩ y0).setCell ⟨q, 1, none⟩ y1).setCell ⟨q, 2, none⟩ y2).setCell ⟨q, 3, none⟩ y3).setCell ⟨q, 4, none⟩ y4).setCell ⟨q, 5, none⟩ y5).setCell ⟨p, 0, none⟩ c0).setCell ⟨p, 1, none⟩ c1).setCell ⟨p, 2, none⟩ c2).heap[p]? = some (.cells #[c0, c1, c2] tz (0, 0)) := by
  have hne' : p ≠ q := fun e => hne e.symm
  constructor <;> simp [World.setCell, Array.getElem?_modify, h1, h2, hne, hne']
theorem both6_below {B : Nat} {w0 w : World} {q p : Nat} (h : Below B w0 w) (hq : B ≤ q) (hp : B ≤ p) (y0 y1 y2 y3 y4 y5 c0 c1 c2 : Value) : Below B w0 (((((((((w.setCell ⟨q, 0, none⟩ y0).setCell ⟨q, 1, none⟩ y1).setCell ⟨q, 2, none⟩ y2).setCell ⟨q, 3, none⟩ y3).setCell ⟨q, 4, none⟩ y4).setCell ⟨q, 5, none⟩ y5).setCell ⟨p, 0, none⟩ c0).setCell ⟨p, 1, none⟩ c1).setCell ⟨p, 2, none⟩ c2) := (((((((((h.setCell (p := ⟨q, 0, none⟩) hq y0).setCell (p := ⟨q, 1, none⟩) hq y1).setCell (p := ⟨q, 2, none⟩) hq y2).setCell (p := ⟨q, 3, none⟩) hq y3).setCell (p := ⟨q, 4, none⟩) hq y4).setCell (p := ⟨q, 5, none⟩) hq y5).setCell (p := ⟨p, 0, none⟩) hp c0).setCell (p := ⟨p, 1, none⟩) hp c1).setCell (p := ⟨p, 2, none⟩) hp c2)
theorem four_new (w : World) (o1 o2 o3 o4 : Obj) : ((((w.alloc o1).alloc o2).alloc o3).alloc o4).heap[w.heap.size]? = some o1 ∧ ((((w.alloc o1).alloc o2).alloc o3).alloc o4).heap[w.heap.size + 1]? = some o2 ∧
    ((((w.alloc o1).alloc o2).alloc o3).alloc o4).heap[w.heap.size + 1 + 1]? = some o3 ∧ ((((w.alloc o1).alloc o2).alloc o3).alloc o4).heap[w.heap.size + 1 + 1 + 1]? = some o4 := by
  have a1 := heap_alloc_new w o1
  have a2 := heap_alloc_new (w.alloc o1) o2
  have a3 := heap_alloc_new ((w.alloc o1).alloc o2) o3
  have a4 := heap_alloc_new (((w.alloc o1).alloc o2).alloc o3) o4
  simp only [World.size_alloc] at a2 a3 a4
  have up : ∀ (W : World) (o o' : Obj) (k : Nat), W.heap[k]? = some o → (W.alloc o').heap[k]? = some o := fun W o o' k h => (Below.heap_alloc W o' k (Array.getElem?_eq_some_iff.1 h).1).trans h
  exact ⟨up _ _ _ _ (up _ _ _ _ (up _ _ _ _ a1)), up _ _ _ _ (up _ _ _ _ a2), up _ _ _ _ a3, a4⟩
theorem heap_drew (w : World) (k : Nat) : w.drew.heap[k]? = w.heap[k]? := rfl
theorem below_drew {B : Nat} {w w' : World} (h : Below B w w') : Below B w w'.drew := ⟨h.os, h.tape, h.output, h.size, h.block⟩
theorem bpost_at {P : Program} {fn : Func} {R : Ending → World → Prop} {e : Exit} {a : Act} {w : World} (h : ∀ Wf, Wf = w → bodyPost P fn R e a Wf) : bodyPost P fn R e a w := h w rfl
theorem four_below (w : World) (o1 o2 o3 o4 : Obj) : Below w.heap.size w ((((w.alloc o1).alloc o2).alloc o3).alloc o4) := ((((Below.refl _ w).alloc (Nat.le_refl _) _).alloc (by simp) _).alloc (by simp; omega) _).alloc (by simp; omega) _
/-- the fault of a record -/
def fltC (fc dc : Int) : Int := if fc = 0 then dc else fc
def fltA (fc fa da : Int) : Int := if fc = 0 then da else fa

set_option maxRecDepth 20000 in
set_option maxHeartbeats 1000000 in
theorem doneLink_f (A : Option Addr) (n c : Nat) (a : Int) (fa dc da : Int) (r : Nat) (w : World) (hr : Rdr w r A n c a 15 fa dc da) (x0 : Int) (x1 : Int) :
    Calls Try.prog 68 #[.pointer (some ⟨r, 0, none⟩), .agg #[.int .u16 x0, .int .u16 x1]] w fun e w' => e = .returned (.tuple #[.agg #[.int .u16 0, .int .u16 0], .agg #[.int .i64 15, .int .i64 0, .int .i64 fa]]) ∧ Below w.heap.size w w' := by
  have hlt := hr.lt
  have HF := Lib.hid (four_below w (.cells #[.int .u16 x0, .int .u16 x1] 69) (.cells #[.int .u16 0, .int .u16 0] 69) (.cells #[.int .i64 0, .int .i64 0, .int .i64 0] 34) (.cells #[.int .u16 0, .int .u16 0] 69))
  have hr4 := hr.below HF.out
  obtain ⟨n0, n1, n2, n3⟩ := four_new w (.cells #[.int .u16 x0, .int .u16 x1] 69) (.cells #[.int .u16 0, .int .u16 0] 69) (.cells #[.int .i64 0, .int .i64 0, .int .i64 0] 34) (.cells #[.int .u16 0, .int .u16 0] 69)
  have N1 := Lib.hid n1
  have N2 := Lib.hid n2
  have N3 := Lib.hid n3
  have HR := Lib.hid hr4
  clear hr n0 n1 n2 n3 hr4
  obtain ⟨wz, hwz⟩ : ∃ wz, wz = ((((w.alloc (.cells #[.int .u16 x0, .int .u16 x1] 69)).alloc (.cells #[.int .u16 0, .int .u16 0] 69)).alloc (.cells #[.int .i64 0, .int .i64 0, .int .i64 0] 34)).alloc (.cells #[.int .u16 0, .int .u16 0] 69)) := ⟨_, rfl⟩
  have HWZ := Lib.hid hwz
  rw [← hwz] at HF N1 N2 N3 HR
  clear hwz
  have up : ∀ k v, wz.cell? ⟨r, k, none⟩ = some v → w.cell? ⟨r, k, none⟩ = some v := by
    intro k v hk
    rw [← hk]
    exact (HF.out.cell (p := ⟨r, k, none⟩) hlt).symm
  obtain ⟨h0, h1, h2, h3, h4, h5, h6, h7⟩ := HR.out.cells
  have u2 := up _ _ h2
  have u3 := up _ _ h3
  have u4 := up _ _ h4
  have u5 := up _ _ h5
  have u6 := up _ _ h6
  have u7 := up _ _ h7
  have al : ∀ k v, w.cell? ⟨r, k, none⟩ = some v → ∀ o1 o2 o3 o4, ((((w.alloc o1).alloc o2).alloc o3).alloc o4).cell? ⟨r, k, none⟩ = some v := by
    intro k v hk o1 o2 o3 o4
    rw [World.cell?_alloc_lt _ _ _ (by simp; omega), World.cell?_alloc_lt _ _ _ (by simp; omega), World.cell?_alloc_lt _ _ _ (by simp; omega), World.cell?_alloc_lt _ _ _ (by simpa using hlt), hk]
  have l2 := al _ _ u2
  have l3 := al _ _ u3
  have l4 := al _ _ u4
  have l5 := al _ _ u5
  have l6 := al _ _ u6
  have l7 := al _ _ u7
  clear u2 u3 u4 u5 u6 u7 al up h0 h1
  obtain ⟨a0, a1⟩ := row2_cells N3.out
  obtain ⟨d0, d1⟩ := row2_cells N1.out
  obtain ⟨b0, b1, b2⟩ := row3_cells N2.out
  have f1 := row_free N1.out
  have f2 := row_free N2.out
  go_enter Try.func68, Try.ntmps68
  go_wp2
  rw [← HWZ.out]
  clear HWZ l2 l3 l4 l5 l6 l7
  go_region
  go_wp2
  refine bpost_at ?_
  intro Wf hWf
  obtain ⟨H1, H2⟩ := both2_after (show w.heap.size + 1 ≠ w.heap.size + 1 + 1 by omega) N1.out N2.out (.int .u16 0) (.int .u16 0) (.int .i64 15) (.int .i64 0) (.int .i64 fa)
  have hB := both2_below HF.out (Nat.le_succ _) (show w.heap.size ≤ w.heap.size + 1 + 1 by omega) (.int .u16 0) (.int .u16 0) (.int .i64 15) (.int .i64 0) (.int .i64 fa)
  have hB' : Below w.heap.size w Wf := by rw [hWf]; exact below_drew hB
  have G1 : Wf.heap[w.heap.size + 1]? = some (.cells #[.int .u16 0, .int .u16 0] 69 (0, 0)) := by rw [hWf, heap_drew]; exact H1
  have G2 : Wf.heap[w.heap.size + 1 + 1]? = some (.cells #[.int .i64 15, .int .i64 0, .int .i64 fa] 34 (0, 0)) := by rw [hWf, heap_drew]; exact H2
  clear hWf H1 H2 hB
  obtain ⟨y0, y1⟩ := row2_cells G1
  obtain ⟨z0, z1, z2⟩ := row3_cells G2
  refine bodyPost_ret (v := .tuple #[.agg #[.int .u16 0, .int .u16 0], .agg #[.int .i64 15, .int .i64 0, .int .i64 fa]]) (by simp [results, Try.results68, go_sem, y0, y1, z0, z1, z2]) rfl ⟨rfl, hB'⟩
set_option maxRecDepth 20000 in
set_option maxHeartbeats 1000000 in
theorem doneLink_d (A : Option Addr) (n c : Nat) (a : Int) (da : Int) (r : Nat) (w : World) (hr : Rdr w r A n c a 0 0 14 da) (x0 : Int) (x1 : Int) :
    Calls Try.prog 68 #[.pointer (some ⟨r, 0, none⟩), .agg #[.int .u16 x0, .int .u16 x1]] w fun e w' => e = .returned (.tuple #[.agg #[.int .u16 0, .int .u16 0], .agg #[.int .i64 14, .int .i64 0, .int .i64 da]]) ∧ Below w.heap.size w w' := by
  have hlt := hr.lt
  have HF := Lib.hid (four_below w (.cells #[.int .u16 x0, .int .u16 x1] 69) (.cells #[.int .u16 0, .int .u16 0] 69) (.cells #[.int .i64 0, .int .i64 0, .int .i64 0] 34) (.cells #[.int .u16 0, .int .u16 0] 69))
  have hr4 := hr.below HF.out
  obtain ⟨n0, n1, n2, n3⟩ := four_new w (.cells #[.int .u16 x0, .int .u16 x1] 69) (.cells #[.int .u16 0, .int .u16 0] 69) (.cells #[.int .i64 0, .int .i64 0, .int .i64 0] 34) (.cells #[.int .u16 0, .int .u16 0] 69)
  have N1 := Lib.hid n1
  have N2 := Lib.hid n2
  have N3 := Lib.hid n3
  have HR := Lib.hid hr4
  clear hr n0 n1 n2 n3 hr4
  obtain ⟨wz, hwz⟩ : ∃ wz, wz = ((((w.alloc (.cells #[.int .u16 x0, .int .u16 x1] 69)).alloc (.cells #[.int .u16 0, .int .u16 0] 69)).alloc (.cells #[.int .i64 0, .int .i64 0, .int .i64 0] 34)).alloc (.cells #[.int .u16 0, .int .u16 0] 69)) := ⟨_, rfl⟩
  have HWZ := Lib.hid hwz
  rw [← hwz] at HF N1 N2 N3 HR
  clear hwz
  have up : ∀ k v, wz.cell? ⟨r, k, none⟩ = some v → w.cell? ⟨r, k, none⟩ = some v := by
    intro k v hk
    rw [← hk]
    exact (HF.out.cell (p := ⟨r, k, none⟩) hlt).symm
  obtain ⟨h0, h1, h2, h3, h4, h5, h6, h7⟩ := HR.out.cells
  have u2 := up _ _ h2
  have u3 := up _ _ h3
  have u4 := up _ _ h4
  have u5 := up _ _ h5
  have u6 := up _ _ h6
  have u7 := up _ _ h7
  have al : ∀ k v, w.cell? ⟨r, k, none⟩ = some v → ∀ o1 o2 o3 o4, ((((w.alloc o1).alloc o2).alloc o3).alloc o4).cell? ⟨r, k, none⟩ = some v := by
    intro k v hk o1 o2 o3 o4
    rw [World.cell?_alloc_lt _ _ _ (by simp; omega), World.cell?_alloc_lt _ _ _ (by simp; omega), World.cell?_alloc_lt _ _ _ (by simp; omega), World.cell?_alloc_lt _ _ _ (by simpa using hlt), hk]
  have l2 := al _ _ u2
  have l3 := al _ _ u3
  have l4 := al _ _ u4
  have l5 := al _ _ u5
  have l6 := al _ _ u6
  have l7 := al _ _ u7
  clear u2 u3 u4 u5 u6 u7 al up h0 h1
  obtain ⟨a0, a1⟩ := row2_cells N3.out
  obtain ⟨d0, d1⟩ := row2_cells N1.out
  obtain ⟨b0, b1, b2⟩ := row3_cells N2.out
  have f1 := row_free N1.out
  have f2 := row_free N2.out
  go_enter Try.func68, Try.ntmps68
  go_wp2
  rw [← HWZ.out]
  clear HWZ l2 l3 l4 l5 l6 l7
  go_region
  go_wp2
  refine bpost_at ?_
  intro Wf hWf
  obtain ⟨H1, H2⟩ := both2_after (show w.heap.size + 1 ≠ w.heap.size + 1 + 1 by omega) N1.out N2.out (.int .u16 0) (.int .u16 0) (.int .i64 14) (.int .i64 0) (.int .i64 da)
  have hB := both2_below HF.out (Nat.le_succ _) (show w.heap.size ≤ w.heap.size + 1 + 1 by omega) (.int .u16 0) (.int .u16 0) (.int .i64 14) (.int .i64 0) (.int .i64 da)
  have hB' : Below w.heap.size w Wf := by rw [hWf]; exact below_drew hB
  have G1 : Wf.heap[w.heap.size + 1]? = some (.cells #[.int .u16 0, .int .u16 0] 69 (0, 0)) := by rw [hWf, heap_drew]; exact H1
  have G2 : Wf.heap[w.heap.size + 1 + 1]? = some (.cells #[.int .i64 14, .int .i64 0, .int .i64 da] 34 (0, 0)) := by rw [hWf, heap_drew]; exact H2
  clear hWf H1 H2 hB
  obtain ⟨y0, y1⟩ := row2_cells G1
  obtain ⟨z0, z1, z2⟩ := row3_cells G2
  refine bodyPost_ret (v := .tuple #[.agg #[.int .u16 0, .int .u16 0], .agg #[.int .i64 14, .int .i64 0, .int .i64 da]]) (by simp [results, Try.results68, go_sem, y0, y1, z0, z1, z2]) rfl ⟨rfl, hB'⟩
set_option maxRecDepth 20000 in
set_option maxHeartbeats 1000000 in
theorem doneHead_f (A : Option Addr) (n c : Nat) (a : Int) (fa dc da : Int) (r : Nat) (w : World) (hr : Rdr w r A n c a 15 fa dc da) (x0 : Int) (x1 : Int) (x2 : Int) :
    Calls Try.prog 67 #[.pointer (some ⟨r, 0, none⟩), .agg #[.int .u16 x0, .int .u16 x1, .int .u16 x2]] w fun e w' => e = .returned (.tuple #[.agg #[.int .u16 0, .int .u16 0, .int .u16 0], .agg #[.int .i64 15, .int .i64 0, .int .i64 fa]]) ∧ Below w.heap.size w w' := by
  have hlt := hr.lt
  have HF := Lib.hid (four_below w (.cells #[.int .u16 x0, .int .u16 x1, .int .u16 x2] 67) (.cells #[.int .u16 0, .int .u16 0, .int .u16 0] 67) (.cells #[.int .i64 0, .int .i64 0, .int .i64 0] 34) (.cells #[.int .u16 0, .int .u16 0, .int .u16 0] 67))
  have hr4 := hr.below HF.out
  obtain ⟨n0, n1, n2, n3⟩ := four_new w (.cells #[.int .u16 x0, .int .u16 x1, .int .u16 x2] 67) (.cells #[.int .u16 0, .int .u16 0, .int .u16 0] 67) (.cells #[.int .i64 0, .int .i64 0, .int .i64 0] 34) (.cells #[.int .u16 0, .int .u16 0, .int .u16 0] 67)
  have N1 := Lib.hid n1
  have N2 := Lib.hid n2
  have N3 := Lib.hid n3
  have HR := Lib.hid hr4
  clear hr n0 n1 n2 n3 hr4
  obtain ⟨wz, hwz⟩ : ∃ wz, wz = ((((w.alloc (.cells #[.int .u16 x0, .int .u16 x1, .int .u16 x2] 67)).alloc (.cells #[.int .u16 0, .int .u16 0, .int .u16 0] 67)).alloc (.cells #[.int .i64 0, .int .i64 0, .int .i64 0] 34)).alloc (.cells #[.int .u16 0, .int .u16 0, .int .u16 0] 67)) := ⟨_, rfl⟩
  have HWZ := Lib.hid hwz
  rw [← hwz] at HF N1 N2 N3 HR
  clear hwz
  have up : ∀ k v, wz.cell? ⟨r, k, none⟩ = some v → w.cell? ⟨r, k, none⟩ = some v := by
    intro k v hk
    rw [← hk]
    exact (HF.out.cell (p := ⟨r, k, none⟩) hlt).symm
  obtain ⟨h0, h1, h2, h3, h4, h5, h6, h7⟩ := HR.out.cells
  have u2 := up _ _ h2
  have u3 := up _ _ h3
  have u4 := up _ _ h4
  have u5 := up _ _ h5
  have u6 := up _ _ h6
  have u7 := up _ _ h7
  have al : ∀ k v, w.cell? ⟨r, k, none⟩ = some v → ∀ o1 o2 o3 o4, ((((w.alloc o1).alloc o2).alloc o3).alloc o4).cell? ⟨r, k, none⟩ = some v := by
    intro k v hk o1 o2 o3 o4
    rw [World.cell?_alloc_lt _ _ _ (by simp; omega), World.cell?_alloc_lt _ _ _ (by simp; omega), World.cell?_alloc_lt _ _ _ (by simp; omega), World.cell?_alloc_lt _ _ _ (by simpa using hlt), hk]
  have l2 := al _ _ u2
  have l3 := al _ _ u3
  have l4 := al _ _ u4
  have l5 := al _ _ u5
  have l6 := al _ _ u6
  have l7 := al _ _ u7
  clear u2 u3 u4 u5 u6 u7 al up h0 h1
  obtain ⟨a0, a1, a2⟩ := row3_cells N3.out
  obtain ⟨d0, d1, d2⟩ := row3_cells N1.out
  obtain ⟨b0, b1, b2⟩ := row3_cells N2.out
  have f1 := row_free N1.out
  have f2 := row_free N2.out
  go_enter Try.func67, Try.ntmps67
  go_wp2
  rw [← HWZ.out]
  clear HWZ l2 l3 l4 l5 l6 l7
  go_region
  go_wp2
  refine bpost_at ?_
  intro Wf hWf
  obtain ⟨H1, H2⟩ := both3_after (show w.heap.size + 1 ≠ w.heap.size + 1 + 1 by omega) N1.out N2.out (.int .u16 0) (.int .u16 0) (.int .u16 0) (.int .i64 15) (.int .i64 0) (.int .i64 fa)
  have hB := both3_below HF.out (Nat.le_succ _) (show w.heap.size ≤ w.heap.size + 1 + 1 by omega) (.int .u16 0) (.int .u16 0) (.int .u16 0) (.int .i64 15) (.int .i64 0) (.int .i64 fa)
  have hB' : Below w.heap.size w Wf := by rw [hWf]; exact below_drew hB
  have G1 : Wf.heap[w.heap.size + 1]? = some (.cells #[.int .u16 0, .int .u16 0, .int .u16 0] 67 (0, 0)) := by rw [hWf, heap_drew]; exact H1
  have G2 : Wf.heap[w.heap.size + 1 + 1]? = some (.cells #[.int .i64 15, .int .i64 0, .int .i64 fa] 34 (0, 0)) := by rw [hWf, heap_drew]; exact H2
  clear hWf H1 H2 hB
  obtain ⟨y0, y1, y2⟩ := row3_cells G1
  obtain ⟨z0, z1, z2⟩ := row3_cells G2
  refine bodyPost_ret (v := .tuple #[.agg #[.int .u16 0, .int .u16 0, .int .u16 0], .agg #[.int .i64 15, .int .i64 0, .int .i64 fa]]) (by simp [results, Try.results67, go_sem, y0, y1, y2, z0, z1, z2]) rfl ⟨rfl, hB'⟩
set_option maxRecDepth 20000 in
set_option maxHeartbeats 1000000 in
theorem doneHead_d (A : Option Addr) (n c : Nat) (a : Int) (da : Int) (r : Nat) (w : World) (hr : Rdr w r A n c a 0 0 14 da) (x0 : Int) (x1 : Int) (x2 : Int) :
    Calls Try.prog 67 #[.pointer (some ⟨r, 0, none⟩), .agg #[.int .u16 x0, .int .u16 x1, .int .u16 x2]] w fun e w' => e = .returned (.tuple #[.agg #[.int .u16 0, .int .u16 0, .int .u16 0], .agg #[.int .i64 14, .int .i64 0, .int .i64 da]]) ∧ Below w.heap.size w w' := by
  have hlt := hr.lt
  have HF := Lib.hid (four_below w (.cells #[.int .u16 x0, .int .u16 x1, .int .u16 x2] 67) (.cells #[.int .u16 0, .int .u16 0, .int .u16 0] 67) (.cells #[.int .i64 0, .int .i64 0, .int .i64 0] 34) (.cells #[.int .u16 0, .int .u16 0, .int .u16 0] 67))
  have hr4 := hr.below HF.out
  obtain ⟨n0, n1, n2, n3⟩ := four_new w (.cells #[.int .u16 x0, .int .u16 x1, .int .u16 x2] 67) (.cells #[.int .u16 0, .int .u16 0, .int .u16 0] 67) (.cells #[.int .i64 0, .int .i64 0, .int .i64 0] 34) (.cells #[.int .u16 0, .int .u16 0, .int .u16 0] 67)
  have N1 := Lib.hid n1
  have N2 := Lib.hid n2
  have N3 := Lib.hid n3
  have HR := Lib.hid hr4
  clear hr n0 n1 n2 n3 hr4
  obtain ⟨wz, hwz⟩ : ∃ wz, wz = ((((w.alloc (.cells #[.int .u16 x0, .int .u16 x1, .int .u16 x2] 67)).alloc (.cells #[.int .u16 0, .int .u16 0, .int .u16 0] 67)).alloc (.cells #[.int .i64 0, .int .i64 0, .int .i64 0] 34)).alloc (.cells #[.int .u16 0, .int .u16 0, .int .u16 0] 67)) := ⟨_, rfl⟩
  have HWZ := Lib.hid hwz
  rw [← hwz] at HF N1 N2 N3 HR
  clear hwz
  have up : ∀ k v, wz.cell? ⟨r, k, none⟩ = some v → w.cell? ⟨r, k, none⟩ = some v := by
    intro k v hk
    rw [← hk]
    exact (HF.out.cell (p := ⟨r, k, none⟩) hlt).symm
  obtain ⟨h0, h1, h2, h3, h4, h5, h6, h7⟩ := HR.out.cells
  have u2 := up _ _ h2
  have u3 := up _ _ h3
  have u4 := up _ _ h4
  have u5 := up _ _ h5
  have u6 := up _ _ h6
  have u7 := up _ _ h7
  have al : ∀ k v, w.cell? ⟨r, k, none⟩ = some v → ∀ o1 o2 o3 o4, ((((w.alloc o1).alloc o2).alloc o3).alloc o4).cell? ⟨r, k, none⟩ = some v := by
    intro k v hk o1 o2 o3 o4
    rw [World.cell?_alloc_lt _ _ _ (by simp; omega), World.cell?_alloc_lt _ _ _ (by simp; omega), World.cell?_alloc_lt _ _ _ (by simp; omega), World.cell?_alloc_lt _ _ _ (by simpa using hlt), hk]
  have l2 := al _ _ u2
  have l3 := al _ _ u3
  have l4 := al _ _ u4
  have l5 := al _ _ u5
  have l6 := al _ _ u6
  have l7 := al _ _ u7
  clear u2 u3 u4 u5 u6 u7 al up h0 h1
  obtain ⟨a0, a1, a2⟩ := row3_cells N3.out
  obtain ⟨d0, d1, d2⟩ := row3_cells N1.out
  obtain ⟨b0, b1, b2⟩ := row3_cells N2.out
  have f1 := row_free N1.out
  have f2 := row_free N2.out
  go_enter Try.func67, Try.ntmps67
  go_wp2
  rw [← HWZ.out]
  clear HWZ l2 l3 l4 l5 l6 l7
  go_region
  go_wp2
  refine bpost_at ?_
  intro Wf hWf
  obtain ⟨H1, H2⟩ := both3_after (show w.heap.size + 1 ≠ w.heap.size + 1 + 1 by omega) N1.out N2.out (.int .u16 0) (.int .u16 0) (.int .u16 0) (.int .i64 14) (.int .i64 0) (.int .i64 da)
  have hB := both3_below HF.out (Nat.le_succ _) (show w.heap.size ≤ w.heap.size + 1 + 1 by omega) (.int .u16 0) (.int .u16 0) (.int .u16 0) (.int .i64 14) (.int .i64 0) (.int .i64 da)
  have hB' : Below w.heap.size w Wf := by rw [hWf]; exact below_drew hB
  have G1 : Wf.heap[w.heap.size + 1]? = some (.cells #[.int .u16 0, .int .u16 0, .int .u16 0] 67 (0, 0)) := by rw [hWf, heap_drew]; exact H1
  have G2 : Wf.heap[w.heap.size + 1 + 1]? = some (.cells #[.int .i64 14, .int .i64 0, .int .i64 da] 34 (0, 0)) := by rw [hWf, heap_drew]; exact H2
  clear hWf H1 H2 hB
  obtain ⟨y0, y1, y2⟩ := row3_cells G1
  obtain ⟨z0, z1, z2⟩ := row3_cells G2
  refine bodyPost_ret (v := .tuple #[.agg #[.int .u16 0, .int .u16 0, .int .u16 0], .agg #[.int .i64 14, .int .i64 0, .int .i64 da]]) (by simp [results, Try.results67, go_sem, y0, y1, y2, z0, z1, z2]) rfl ⟨rfl, hB'⟩
set_option maxRecDepth 20000 in
set_option maxHeartbeats 1000000 in
theorem doneWindow_f (A : Option Addr) (n c : Nat) (a : Int) (fa dc da : Int) (r : Nat) (w : World) (hr : Rdr w r A n c a 15 fa dc da) (x0 : Int) (x1 : Int) (x2 : Int) :
    Calls Try.prog 66 #[.pointer (some ⟨r, 0, none⟩), .agg #[.int .u64 x0, .int .u64 x1, .int .u16 x2]] w fun e w' => e = .returned (.tuple #[.agg #[.int .u64 0, .int .u64 0, .int .u16 0], .agg #[.int .i64 15, .int .i64 0, .int .i64 fa]]) ∧ Below w.heap.size w w' := by
  have hlt := hr.lt
  have HF := Lib.hid (four_below w (.cells #[.int .u64 x0, .int .u64 x1, .int .u16 x2] 58) (.cells #[.int .u64 0, .int .u64 0, .int .u16 0] 58) (.cells #[.int .i64 0, .int .i64 0, .int .i64 0] 34) (.cells #[.int .u64 0, .int .u64 0, .int .u16 0] 58))
  have hr4 := hr.below HF.out
  obtain ⟨n0, n1, n2, n3⟩ := four_new w (.cells #[.int .u64 x0, .int .u64 x1, .int .u16 x2] 58) (.cells #[.int .u64 0, .int .u64 0, .int .u16 0] 58) (.cells #[.int .i64 0, .int .i64 0, .int .i64 0] 34) (.cells #[.int .u64 0, .int .u64 0, .int .u16 0] 58)
  have N1 := Lib.hid n1
  have N2 := Lib.hid n2
  have N3 := Lib.hid n3
  have HR := Lib.hid hr4
  clear hr n0 n1 n2 n3 hr4
  obtain ⟨wz, hwz⟩ : ∃ wz, wz = ((((w.alloc (.cells #[.int .u64 x0, .int .u64 x1, .int .u16 x2] 58)).alloc (.cells #[.int .u64 0, .int .u64 0, .int .u16 0] 58)).alloc (.cells #[.int .i64 0, .int .i64 0, .int .i64 0] 34)).alloc (.cells #[.int .u64 0, .int .u64 0, .int .u16 0] 58)) := ⟨_, rfl⟩
  have HWZ := Lib.hid hwz
  rw [← hwz] at HF N1 N2 N3 HR
  clear hwz
  have up : ∀ k v, wz.cell? ⟨r, k, none⟩ = some v → w.cell? ⟨r, k, none⟩ = some v := by
    intro k v hk
    rw [← hk]
    exact (HF.out.cell (p := ⟨r, k, none⟩) hlt).symm
  obtain ⟨h0, h1, h2, h3, h4, h5, h6, h7⟩ := HR.out.cells
  have u2 := up _ _ h2
  have u3 := up _ _ h3
  have u4 := up _ _ h4
  have u5 := up _ _ h5
  have u6 := up _ _ h6
  have u7 := up _ _ h7
  have al : ∀ k v, w.cell? ⟨r, k, none⟩ = some v → ∀ o1 o2 o3 o4, ((((w.alloc o1).alloc o2).alloc o3).alloc o4).cell? ⟨r, k, none⟩ = some v := by
    intro k v hk o1 o2 o3 o4
    rw [World.cell?_alloc_lt _ _ _ (by simp; omega), World.cell?_alloc_lt _ _ _ (by simp; omega), World.cell?_alloc_lt _ _ _ (by simp; omega), World.cell?_alloc_lt _ _ _ (by simpa using hlt), hk]
  have l2 := al _ _ u2
  have l3 := al _ _ u3
  have l4 := al _ _ u4
  have l5 := al _ _ u5
  have l6 := al _ _ u6
  have l7 := al _ _ u7
  clear u2 u3 u4 u5 u6 u7 al up h0 h1
  obtain ⟨a0, a1, a2⟩ := row3_cells N3.out
  obtain ⟨d0, d1, d2⟩ := row3_cells N1.out
  obtain ⟨b0, b1, b2⟩ := row3_cells N2.out
  have f1 := row_free N1.out
  have f2 := row_free N2.out
  go_enter Try.func66, Try.ntmps66
  go_wp2
  rw [← HWZ.out]
  clear HWZ l2 l3 l4 l5 l6 l7
  go_region
  go_wp2
  refine bpost_at ?_
  intro Wf hWf
  obtain ⟨H1, H2⟩ := both3_after (show w.heap.size + 1 ≠ w.heap.size + 1 + 1 by omega) N1.out N2.out (.int .u64 0) (.int .u64 0) (.int .u16 0) (.int .i64 15) (.int .i64 0) (.int .i64 fa)
  have hB := both3_below HF.out (Nat.le_succ _) (show w.heap.size ≤ w.heap.size + 1 + 1 by omega) (.int .u64 0) (.int .u64 0) (.int .u16 0) (.int .i64 15) (.int .i64 0) (.int .i64 fa)
  have hB' : Below w.heap.size w Wf := by rw [hWf]; exact below_drew hB
  have G1 : Wf.heap[w.heap.size + 1]? = some (.cells #[.int .u64 0, .int .u64 0, .int .u16 0] 58 (0, 0)) := by rw [hWf, heap_drew]; exact H1
  have G2 : Wf.heap[w.heap.size + 1 + 1]? = some (.cells #[.int .i64 15, .int .i64 0, .int .i64 fa] 34 (0, 0)) := by rw [hWf, heap_drew]; exact H2
  clear hWf H1 H2 hB
  obtain ⟨y0, y1, y2⟩ := row3_cells G1
  obtain ⟨z0, z1, z2⟩ := row3_cells G2
  refine bodyPost_ret (v := .tuple #[.agg #[.int .u64 0, .int .u64 0, .int .u16 0], .agg #[.int .i64 15, .int .i64 0, .int .i64 fa]]) (by simp [results, Try.results66, go_sem, y0, y1, y2, z0, z1, z2]) rfl ⟨rfl, hB'⟩
set_option maxRecDepth 20000 in
set_option maxHeartbeats 1000000 in
theorem doneWindow_d (A : Option Addr) (n c : Nat) (a : Int) (da : Int) (r : Nat) (w : World) (hr : Rdr w r A n c a 0 0 14 da) (x0 : Int) (x1 : Int) (x2 : Int) :
    Calls Try.prog 66 #[.pointer (some ⟨r, 0, none⟩), .agg #[.int .u64 x0, .int .u64 x1, .int .u16 x2]] w fun e w' => e = .returned (.tuple #[.agg #[.int .u64 0, .int .u64 0, .int .u16 0], .agg #[.int .i64 14, .int .i64 0, .int .i64 da]]) ∧ Below w.heap.size w w' := by
  have hlt := hr.lt
  have HF := Lib.hid (four_below w (.cells #[.int .u64 x0, .int .u64 x1, .int .u16 x2] 58) (.cells #[.int .u64 0, .int .u64 0, .int .u16 0] 58) (.cells #[.int .i64 0, .int .i64 0, .int .i64 0] 34) (.cells #[.int .u64 0, .int .u64 0, .int .u16 0] 58))
  have hr4 := hr.below HF.out
  obtain ⟨n0, n1, n2, n3⟩ := four_new w (.cells #[.int .u64 x0, .int .u64 x1, .int .u16 x2] 58) (.cells #[.int .u64 0, .int .u64 0, .int .u16 0] 58) (.cells #[.int .i64 0, .int .i64 0, .int .i64 0] 34) (.cells #[.int .u64 0, .int .u64 0, .int .u16 0] 58)
  have N1 := Lib.hid n1
  have N2 := Lib.hid n2
  have N3 := Lib.hid n3
  have HR := Lib.hid hr4
  clear hr n0 n1 n2 n3 hr4
  obtain ⟨wz, hwz⟩ : ∃ wz, wz = ((((w.alloc (.cells #[.int .u64 x0, .int .u64 x1, .int .u16 x2] 58)).alloc (.cells #[.int .u64 0, .int .u64 0, .int .u16 0] 58)).alloc (.cells #[.int .i64 0, .int .i64 0, .int .i64 0] 34)).alloc (.cells #[.int .u64 0, .int .u64 0, .int .u16 0] 58)) := ⟨_, rfl⟩
  have HWZ := Lib.hid hwz
  rw [← hwz] at HF N1 N2 N3 HR
  clear hwz
  have up : ∀ k v, wz.cell? ⟨r, k, none⟩ = some v → w.cell? ⟨r, k, none⟩ = some v := by
    intro k v hk
    rw [← hk]
    exact (HF.out.cell (p := ⟨r, k, none⟩) hlt).symm
  obtain ⟨h0, h1, h2, h3, h4, h5, h6, h7⟩ := HR.out.cells
  have u2 := up _ _ h2
  have u3 := up _ _ h3
  have u4 := up _ _ h4
  have u5 := up _ _ h5
  have u6 := up _ _ h6
  have u7 := up _ _ h7
  have al : ∀ k v, w.cell? ⟨r, k, none⟩ = some v → ∀ o1 o2 o3 o4, ((((w.alloc o1).alloc o2).alloc o3).alloc o4).cell? ⟨r, k, none⟩ = some v := by
    intro k v hk o1 o2 o3 o4
    rw [World.cell?_alloc_lt _ _ _ (by simp; omega), World.cell?_alloc_lt _ _ _ (by simp; omega), World.cell?_alloc_lt _ _ _ (by simp; omega), World.cell?_alloc_lt _ _ _ (by simpa using hlt), hk]
  have l2 := al _ _ u2
  have l3 := al _ _ u3
  have l4 := al _ _ u4
  have l5 := al _ _ u5
  have l6 := al _ _ u6
  have l7 := al _ _ u7
  clear u2 u3 u4 u5 u6 u7 al up h0 h1
  obtain ⟨a0, a1, a2⟩ := row3_cells N3.out
  obtain ⟨d0, d1, d2⟩ := row3_cells N1.out
  obtain ⟨b0, b1, b2⟩ := row3_cells N2.out
  have f1 := row_free N1.out
  have f2 := row_free N2.out
  go_enter Try.func66, Try.ntmps66
  go_wp2
  rw [← HWZ.out]
  clear HWZ l2 l3 l4 l5 l6 l7
  go_region
  go_wp2
  refine bpost_at ?_
  intro Wf hWf
  obtain ⟨H1, H2⟩ := both3_after (show w.heap.size + 1 ≠ w.heap.size + 1 + 1 by omega) N1.out N2.out (.int .u64 0) (.int .u64 0) (.int .u16 0) (.int .i64 14) (.int .i64 0) (.int .i64 da)
  have hB := both3_below HF.out (Nat.le_succ _) (show w.heap.size ≤ w.heap.size + 1 + 1 by omega) (.int .u64 0) (.int .u64 0) (.int .u16 0) (.int .i64 14) (.int .i64 0) (.int .i64 da)
  have hB' : Below w.heap.size w Wf := by rw [hWf]; exact below_drew hB
  have G1 : Wf.heap[w.heap.size + 1]? = some (.cells #[.int .u64 0, .int .u64 0, .int .u16 0] 58 (0, 0)) := by rw [hWf, heap_drew]; exact H1
  have G2 : Wf.heap[w.heap.size + 1 + 1]? = some (.cells #[.int .i64 14, .int .i64 0, .int .i64 da] 34 (0, 0)) := by rw [hWf, heap_drew]; exact H2
  clear hWf H1 H2 hB
  obtain ⟨y0, y1, y2⟩ := row3_cells G1
  obtain ⟨z0, z1, z2⟩ := row3_cells G2
  refine bodyPost_ret (v := .tuple #[.agg #[.int .u64 0, .int .u64 0, .int .u16 0], .agg #[.int .i64 14, .int .i64 0, .int .i64 da]]) (by simp [results, Try.results66, go_sem, y0, y1, y2, z0, z1, z2]) rfl ⟨rfl, hB'⟩
set_option maxRecDepth 20000 in
set_option maxHeartbeats 1000000 in
theorem doneRegion_f (A : Option Addr) (n c : Nat) (a : Int) (fa dc da : Int) (r : Nat) (w : World) (hr : Rdr w r A n c a 15 fa dc da) (x0 : Int) (x1 : Int) (x2 : Int) (x3 : Int) (x4 : Bool) :
    Calls Try.prog 65 #[.pointer (some ⟨r, 0, none⟩), .agg #[.int .u64 x0, .int .u64 x1, .int .u16 x2, .int .u8 x3, .bool x4]] w fun e w' => e = .returned (.tuple #[.agg #[.int .u64 0, .int .u64 0, .int .u16 0, .int .u8 0, .bool false], .agg #[.int .i64 15, .int .i64 0, .int .i64 fa]]) ∧ Below w.heap.size w w' := by
  have hlt := hr.lt
  have HF := Lib.hid (four_below w (.cells #[.int .u64 x0, .int .u64 x1, .int .u16 x2, .int .u8 x3, .bool x4] 50) (.cells #[.int .u64 0, .int .u64 0, .int .u16 0, .int .u8 0, .bool false] 50) (.cells #[.int .i64 0, .int .i64 0, .int .i64 0] 34) (.cells #[.int .u64 0, .int .u64 0, .int .u16 0, .int .u8 0, .bool false] 50))
  have hr4 := hr.below HF.out
  obtain ⟨n0, n1, n2, n3⟩ := four_new w (.cells #[.int .u64 x0, .int .u64 x1, .int .u16 x2, .int .u8 x3, .bool x4] 50) (.cells #[.int .u64 0, .int .u64 0, .int .u16 0, .int .u8 0, .bool false] 50) (.cells #[.int .i64 0, .int .i64 0, .int .i64 0] 34) (.cells #[.int .u64 0, .int .u64 0, .int .u16 0, .int .u8 0, .bool false] 50)
  have N1 := Lib.hid n1
  have N2 := Lib.hid n2
  have N3 := Lib.hid n3
  have HR := Lib.hid hr4
  clear hr n0 n1 n2 n3 hr4
  obtain ⟨wz, hwz⟩ : ∃ wz, wz = ((((w.alloc (.cells #[.int .u64 x0, .int .u64 x1, .int .u16 x2, .int .u8 x3, .bool x4] 50)).alloc (.cells #[.int .u64 0, .int .u64 0, .int .u16 0, .int .u8 0, .bool false] 50)).alloc (.cells #[.int .i64 0, .int .i64 0, .int .i64 0] 34)).alloc (.cells #[.int .u64 0, .int .u64 0, .int .u16 0, .int .u8 0, .bool false] 50)) := ⟨_, rfl⟩
  have HWZ := Lib.hid hwz
  rw [← hwz] at HF N1 N2 N3 HR
  clear hwz
  have up : ∀ k v, wz.cell? ⟨r, k, none⟩ = some v → w.cell? ⟨r, k, none⟩ = some v := by
    intro k v hk
    rw [← hk]
    exact (HF.out.cell (p := ⟨r, k, none⟩) hlt).symm
  obtain ⟨h0, h1, h2, h3, h4, h5, h6, h7⟩ := HR.out.cells
  have u2 := up _ _ h2
  have u3 := up _ _ h3
  have u4 := up _ _ h4
  have u5 := up _ _ h5
  have u6 := up _ _ h6
  have u7 := up _ _ h7
  have al : ∀ k v, w.cell? ⟨r, k, none⟩ = some v → ∀ o1 o2 o3 o4, ((((w.alloc o1).alloc o2).alloc o3).alloc o4).cell? ⟨r, k, none⟩ = some v := by
    intro k v hk o1 o2 o3 o4
    rw [World.cell?_alloc_lt _ _ _ (by simp; omega), World.cell?_alloc_lt _ _ _ (by simp; omega), World.cell?_alloc_lt _ _ _ (by simp; omega), World.cell?_alloc_lt _ _ _ (by simpa using hlt), hk]
  have l2 := al _ _ u2
  have l3 := al _ _ u3
  have l4 := al _ _ u4
  have l5 := al _ _ u5
  have l6 := al _ _ u6
  have l7 := al _ _ u7
  clear u2 u3 u4 u5 u6 u7 al up h0 h1
  obtain ⟨a0, a1, a2, a3, a4⟩ := row5_cells N3.out
  obtain ⟨d0, d1, d2, d3, d4⟩ := row5_cells N1.out
  obtain ⟨b0, b1, b2⟩ := row3_cells N2.out
  have f1 := row_free N1.out
  have f2 := row_free N2.out
  go_enter Try.func65, Try.ntmps65
  go_wp2
  rw [← HWZ.out]
  clear HWZ l2 l3 l4 l5 l6 l7
  go_region
  go_wp2
  refine bpost_at ?_
  intro Wf hWf
  obtain ⟨H1, H2⟩ := both5_after (show w.heap.size + 1 ≠ w.heap.size + 1 + 1 by omega) N1.out N2.out (.int .u64 0) (.int .u64 0) (.int .u16 0) (.int .u8 0) (.bool false) (.int .i64 15) (.int .i64 0) (.int .i64 fa)
  have hB := both5_below HF.out (Nat.le_succ _) (show w.heap.size ≤ w.heap.size + 1 + 1 by omega) (.int .u64 0) (.int .u64 0) (.int .u16 0) (.int .u8 0) (.bool false) (.int .i64 15) (.int .i64 0) (.int .i64 fa)
  have hB' : Below w.heap.size w Wf := by rw [hWf]; exact below_drew hB
  have G1 : Wf.heap[w.heap.size + 1]? = some (.cells #[.int .u64 0, .int .u64 0, .int .u16 0, .int .u8 0, .bool false] 50 (0, 0)) := by rw [hWf, heap_drew]; exact H1
  have G2 : Wf.heap[w.heap.size + 1 + 1]? = some (.cells #[.int .i64 15, .int .i64 0, .int .i64 fa] 34 (0, 0)) := by rw [hWf, heap_drew]; exact H2
  clear hWf H1 H2 hB
  obtain ⟨y0, y1, y2, y3, y4⟩ := row5_cells G1
  obtain ⟨z0, z1, z2⟩ := row3_cells G2
  refine bodyPost_ret (v := .tuple #[.agg #[.int .u64 0, .int .u64 0, .int .u16 0, .int .u8 0, .bool false], .agg #[.int .i64 15, .int .i64 0, .int .i64 fa]]) (by simp [results, Try.results65, go_sem, y0, y1, y2, y3, y4, z0, z1, z2]) rfl ⟨rfl, hB'⟩
set_option maxRecDepth 20000 in
set_option maxHeartbeats 1000000 in
theorem doneRegion_d (A : Option Addr) (n c : Nat) (a : Int) (da : Int) (r : Nat) (w : World) (hr : Rdr w r A n c a 0 0 14 da) (x0 : Int) (x1 : Int) (x2 : Int) (x3 : Int) (x4 : Bool) :
    Calls Try.prog 65 #[.pointer (some ⟨r, 0, none⟩), .agg #[.int .u64 x0, .int .u64 x1, .int .u16 x2, .int .u8 x3, .bool x4]] w fun e w' => e = .returned (.tuple #[.agg #[.int .u64 0, .int .u64 0, .int .u16 0, .int .u8 0, .bool false], .agg #[.int .i64 14, .int .i64 0, .int .i64 da]]) ∧ Below w.heap.size w w' := by
  have hlt := hr.lt
  have HF := Lib.hid (four_below w (.cells #[.int .u64 x0, .int .u64 x1, .int .u16 x2, .int .u8 x3, .bool x4] 50) (.cells #[.int .u64 0, .int .u64 0, .int .u16 0, .int .u8 0, .bool false] 50) (.cells #[.int .i64 0, .int .i64 0, .int .i64 0] 34) (.cells #[.int .u64 0, .int .u64 0, .int .u16 0, .int .u8 0, .bool false] 50))
  have hr4 := hr.below HF.out
  obtain ⟨n0, n1, n2, n3⟩ := four_new w (.cells #[.int .u64 x0, .int .u64 x1, .int .u16 x2, .int .u8 x3, .bool x4] 50) (.cells #[.int .u64 0, .int .u64 0, .int .u16 0, .int .u8 0, .bool false] 50) (.cells #[.int .i64 0, .int .i64 0, .int .i64 0] 34) (.cells #[.int .u64 0, .int .u64 0, .int .u16 0, .int .u8 0, .bool false] 50)
  have N1 := Lib.hid n1
  have N2 := Lib.hid n2
  have N3 := Lib.hid n3
  have HR := Lib.hid hr4
  clear hr n0 n1 n2 n3 hr4
  obtain ⟨wz, hwz⟩ : ∃ wz, wz = ((((w.alloc (.cells #[.int .u64 x0, .int .u64 x1, .int .u16 x2, .int .u8 x3, .bool x4] 50)).alloc (.cells #[.int .u64 0, .int .u64 0, .int .u16 0, .int .u8 0, .bool false] 50)).alloc (.cells #[.int .i64 0, .int .i64 0, .int .i64 0] 34)).alloc (.cells #[.int .u64 0, .int .u64 0, .int .u16 0, .int .u8 0, .bool false] 50)) := ⟨_, rfl⟩
  have HWZ := Lib.hid hwz
  rw [← hwz] at HF N1 N2 N3 HR
  clear hwz
  have up : ∀ k v, wz.cell? ⟨r, k, none⟩ = some v → w.cell? ⟨r, k, none⟩ = some v := by
    intro k v hk
    rw [← hk]
    exact (HF.out.cell (p := ⟨r, k, none⟩) hlt).symm
  obtain ⟨h0, h1, h2, h3, h4, h5, h6, h7⟩ := HR.out.cells
  have u2 := up _ _ h2
  have u3 := up _ _ h3
  have u4 := up _ _ h4
  have u5 := up _ _ h5
  have u6 := up _ _ h6
  have u7 := up _ _ h7
  have al : ∀ k v, w.cell? ⟨r, k, none⟩ = some v → ∀ o1 o2 o3 o4, ((((w.alloc o1).alloc o2).alloc o3).alloc o4).cell? ⟨r, k, none⟩ = some v := by
    intro k v hk o1 o2 o3 o4
    rw [World.cell?_alloc_lt _ _ _ (by simp; omega), World.cell?_alloc_lt _ _ _ (by simp; omega), World.cell?_alloc_lt _ _ _ (by simp; omega), World.cell?_alloc_lt _ _ _ (by simpa using hlt), hk]
  have l2 := al _ _ u2
  have l3 := al _ _ u3
  have l4 := al _ _ u4
  have l5 := al _ _ u5
  have l6 := al _ _ u6
  have l7 := al _ _ u7
  clear u2 u3 u4 u5 u6 u7 al up h0 h1
  obtain ⟨a0, a1, a2, a3, a4⟩ := row5_cells N3.out
  obtain ⟨d0, d1, d2, d3, d4⟩ := row5_cells N1.out
  obtain ⟨b0, b1, b2⟩ := row3_cells N2.out
  have f1 := row_free N1.out
  have f2 := row_free N2.out
  go_enter Try.func65, Try.ntmps65
  go_wp2
  rw [← HWZ.out]
  clear HWZ l2 l3 l4 l5 l6 l7
  go_region
  go_wp2
  refine bpost_at ?_
  intro Wf hWf
  obtain ⟨H1, H2⟩ := both5_after (show w.heap.size + 1 ≠ w.heap.size + 1 + 1 by omega) N1.out N2.out (.int .u64 0) (.int .u64 0) (.int .u16 0) (.int .u8 0) (.bool false) (.int .i64 14) (.int .i64 0) (.int .i64 da)
  have hB := both5_below HF.out (Nat.le_succ _) (show w.heap.size ≤ w.heap.size + 1 + 1 by omega) (.int .u64 0) (.int .u64 0) (.int .u16 0) (.int .u8 0) (.bool false) (.int .i64 14) (.int .i64 0) (.int .i64 da)
  have hB' : Below w.heap.size w Wf := by rw [hWf]; exact below_drew hB
  have G1 : Wf.heap[w.heap.size + 1]? = some (.cells #[.int .u64 0, .int .u64 0, .int .u16 0, .int .u8 0, .bool false] 50 (0, 0)) := by rw [hWf, heap_drew]; exact H1
  have G2 : Wf.heap[w.heap.size + 1 + 1]? = some (.cells #[.int .i64 14, .int .i64 0, .int .i64 da] 34 (0, 0)) := by rw [hWf, heap_drew]; exact H2
  clear hWf H1 H2 hB
  obtain ⟨y0, y1, y2, y3, y4⟩ := row5_cells G1
  obtain ⟨z0, z1, z2⟩ := row3_cells G2
  refine bodyPost_ret (v := .tuple #[.agg #[.int .u64 0, .int .u64 0, .int .u16 0, .int .u8 0, .bool false], .agg #[.int .i64 14, .int .i64 0, .int .i64 da]]) (by simp [results, Try.results65, go_sem, y0, y1, y2, y3, y4, z0, z1, z2]) rfl ⟨rfl, hB'⟩
set_option maxRecDepth 20000 in
set_option maxHeartbeats 1000000 in
theorem donePartition_f (A : Option Addr) (n c : Nat) (a : Int) (fa dc da : Int) (r : Nat) (w : World) (hr : Rdr w r A n c a 15 fa dc da) (x0 : Int) (x1 : ByteArray) (x2 : Int) (x3 : Int) :
    Calls Try.prog 62 #[.pointer (some ⟨r, 0, none⟩), .agg #[.int .u16 x0, .string x1, .int .u64 x2, .int .u64 x3]] w fun e w' => e = .returned (.tuple #[.agg #[.int .u16 0, .string ⟨#[]⟩, .int .u64 0, .int .u64 0], .agg #[.int .i64 15, .int .i64 0, .int .i64 fa]]) ∧ Below w.heap.size w w' := by
  have hlt := hr.lt
  have HF := Lib.hid (four_below w (.cells #[.int .u16 x0, .string x1, .int .u64 x2, .int .u64 x3] 45) (.cells #[.int .u16 0, .string ⟨#[]⟩, .int .u64 0, .int .u64 0] 45) (.cells #[.int .i64 0, .int .i64 0, .int .i64 0] 34) (.cells #[.int .u16 0, .string ⟨#[]⟩, .int .u64 0, .int .u64 0] 45))
  have hr4 := hr.below HF.out
  obtain ⟨n0, n1, n2, n3⟩ := four_new w (.cells #[.int .u16 x0, .string x1, .int .u64 x2, .int .u64 x3] 45) (.cells #[.int .u16 0, .string ⟨#[]⟩, .int .u64 0, .int .u64 0] 45) (.cells #[.int .i64 0, .int .i64 0, .int .i64 0] 34) (.cells #[.int .u16 0, .string ⟨#[]⟩, .int .u64 0, .int .u64 0] 45)
  have N1 := Lib.hid n1
  have N2 := Lib.hid n2
  have N3 := Lib.hid n3
  have HR := Lib.hid hr4
  clear hr n0 n1 n2 n3 hr4
  obtain ⟨wz, hwz⟩ : ∃ wz, wz = ((((w.alloc (.cells #[.int .u16 x0, .string x1, .int .u64 x2, .int .u64 x3] 45)).alloc (.cells #[.int .u16 0, .string ⟨#[]⟩, .int .u64 0, .int .u64 0] 45)).alloc (.cells #[.int .i64 0, .int .i64 0, .int .i64 0] 34)).alloc (.cells #[.int .u16 0, .string ⟨#[]⟩, .int .u64 0, .int .u64 0] 45)) := ⟨_, rfl⟩
  have HWZ := Lib.hid hwz
  rw [← hwz] at HF N1 N2 N3 HR
  clear hwz
  have up : ∀ k v, wz.cell? ⟨r, k, none⟩ = some v → w.cell? ⟨r, k, none⟩ = some v := by
    intro k v hk
    rw [← hk]
    exact (HF.out.cell (p := ⟨r, k, none⟩) hlt).symm
  obtain ⟨h0, h1, h2, h3, h4, h5, h6, h7⟩ := HR.out.cells
  have u2 := up _ _ h2
  have u3 := up _ _ h3
  have u4 := up _ _ h4
  have u5 := up _ _ h5
  have u6 := up _ _ h6
  have u7 := up _ _ h7
  have al : ∀ k v, w.cell? ⟨r, k, none⟩ = some v → ∀ o1 o2 o3 o4, ((((w.alloc o1).alloc o2).alloc o3).alloc o4).cell? ⟨r, k, none⟩ = some v := by
    intro k v hk o1 o2 o3 o4
    rw [World.cell?_alloc_lt _ _ _ (by simp; omega), World.cell?_alloc_lt _ _ _ (by simp; omega), World.cell?_alloc_lt _ _ _ (by simp; omega), World.cell?_alloc_lt _ _ _ (by simpa using hlt), hk]
  have l2 := al _ _ u2
  have l3 := al _ _ u3
  have l4 := al _ _ u4
  have l5 := al _ _ u5
  have l6 := al _ _ u6
  have l7 := al _ _ u7
  clear u2 u3 u4 u5 u6 u7 al up h0 h1
  obtain ⟨a0, a1, a2, a3⟩ := row4_cells N3.out
  obtain ⟨d0, d1, d2, d3⟩ := row4_cells N1.out
  obtain ⟨b0, b1, b2⟩ := row3_cells N2.out
  have f1 := row_free N1.out
  have f2 := row_free N2.out
  go_enter Try.func62, Try.ntmps62
  go_wp2
  rw [← HWZ.out]
  clear HWZ l2 l3 l4 l5 l6 l7
  go_region
  go_wp2
  refine bpost_at ?_
  intro Wf hWf
  obtain ⟨H1, H2⟩ := both4_after (show w.heap.size + 1 ≠ w.heap.size + 1 + 1 by omega) N1.out N2.out (.int .u16 0) (.string ⟨#[]⟩) (.int .u64 0) (.int .u64 0) (.int .i64 15) (.int .i64 0) (.int .i64 fa)
  have hB := both4_below HF.out (Nat.le_succ _) (show w.heap.size ≤ w.heap.size + 1 + 1 by omega) (.int .u16 0) (.string ⟨#[]⟩) (.int .u64 0) (.int .u64 0) (.int .i64 15) (.int .i64 0) (.int .i64 fa)
  have hB' : Below w.heap.size w Wf := by rw [hWf]; exact below_drew hB
  have G1 : Wf.heap[w.heap.size + 1]? = some (.cells #[.int .u16 0, .string ⟨#[]⟩, .int .u64 0, .int .u64 0] 45 (0, 0)) := by rw [hWf, heap_drew]; exact H1
  have G2 : Wf.heap[w.heap.size + 1 + 1]? = some (.cells #[.int .i64 15, .int .i64 0, .int .i64 fa] 34 (0, 0)) := by rw [hWf, heap_drew]; exact H2
  clear hWf H1 H2 hB
  obtain ⟨y0, y1, y2, y3⟩ := row4_cells G1
  obtain ⟨z0, z1, z2⟩ := row3_cells G2
  refine bodyPost_ret (v := .tuple #[.agg #[.int .u16 0, .string ⟨#[]⟩, .int .u64 0, .int .u64 0], .agg #[.int .i64 15, .int .i64 0, .int .i64 fa]]) (by simp [results, Try.results62, go_sem, y0, y1, y2, y3, z0, z1, z2]) rfl ⟨rfl, hB'⟩
set_option maxRecDepth 20000 in
set_option maxHeartbeats 1000000 in
theorem donePartition_d (A : Option Addr) (n c : Nat) (a : Int) (da : Int) (r : Nat) (w : World) (hr : Rdr w r A n c a 0 0 14 da) (x0 : Int) (x1 : ByteArray) (x2 : Int) (x3 : Int) :
    Calls Try.prog 62 #[.pointer (some ⟨r, 0, none⟩), .agg #[.int .u16 x0, .string x1, .int .u64 x2, .int .u64 x3]] w fun e w' => e = .returned (.tuple #[.agg #[.int .u16 0, .string ⟨#[]⟩, .int .u64 0, .int .u64 0], .agg #[.int .i64 14, .int .i64 0, .int .i64 da]]) ∧ Below w.heap.size w w' := by
  have hlt := hr.lt
  have HF := Lib.hid (four_below w (.cells #[.int .u16 x0, .string x1, .int .u64 x2, .int .u64 x3] 45) (.cells #[.int .u16 0, .string ⟨#[]⟩, .int .u64 0, .int .u64 0] 45) (.cells #[.int .i64 0, .int .i64 0, .int .i64 0] 34) (.cells #[.int .u16 0, .string ⟨#[]⟩, .int .u64 0, .int .u64 0] 45))
  have hr4 := hr.below HF.out
  obtain ⟨n0, n1, n2, n3⟩ := four_new w (.cells #[.int .u16 x0, .string x1, .int .u64 x2, .int .u64 x3] 45) (.cells #[.int .u16 0, .string ⟨#[]⟩, .int .u64 0, .int .u64 0] 45) (.cells #[.int .i64 0, .int .i64 0, .int .i64 0] 34) (.cells #[.int .u16 0, .string ⟨#[]⟩, .int .u64 0, .int .u64 0] 45)
  have N1 := Lib.hid n1
  have N2 := Lib.hid n2
  have N3 := Lib.hid n3
  have HR := Lib.hid hr4
  clear hr n0 n1 n2 n3 hr4
  obtain ⟨wz, hwz⟩ : ∃ wz, wz = ((((w.alloc (.cells #[.int .u16 x0, .string x1, .int .u64 x2, .int .u64 x3] 45)).alloc (.cells #[.int .u16 0, .string ⟨#[]⟩, .int .u64 0, .int .u64 0] 45)).alloc (.cells #[.int .i64 0, .int .i64 0, .int .i64 0] 34)).alloc (.cells #[.int .u16 0, .string ⟨#[]⟩, .int .u64 0, .int .u64 0] 45)) := ⟨_, rfl⟩
  have HWZ := Lib.hid hwz
  rw [← hwz] at HF N1 N2 N3 HR
  clear hwz
  have up : ∀ k v, wz.cell? ⟨r, k, none⟩ = some v → w.cell? ⟨r, k, none⟩ = some v := by
    intro k v hk
    rw [← hk]
    exact (HF.out.cell (p := ⟨r, k, none⟩) hlt).symm
  obtain ⟨h0, h1, h2, h3, h4, h5, h6, h7⟩ := HR.out.cells
  have u2 := up _ _ h2
  have u3 := up _ _ h3
  have u4 := up _ _ h4
  have u5 := up _ _ h5
  have u6 := up _ _ h6
  have u7 := up _ _ h7
  have al : ∀ k v, w.cell? ⟨r, k, none⟩ = some v → ∀ o1 o2 o3 o4, ((((w.alloc o1).alloc o2).alloc o3).alloc o4).cell? ⟨r, k, none⟩ = some v := by
    intro k v hk o1 o2 o3 o4
    rw [World.cell?_alloc_lt _ _ _ (by simp; omega), World.cell?_alloc_lt _ _ _ (by simp; omega), World.cell?_alloc_lt _ _ _ (by simp; omega), World.cell?_alloc_lt _ _ _ (by simpa using hlt), hk]
  have l2 := al _ _ u2
  have l3 := al _ _ u3
  have l4 := al _ _ u4
  have l5 := al _ _ u5
  have l6 := al _ _ u6
  have l7 := al _ _ u7
  clear u2 u3 u4 u5 u6 u7 al up h0 h1
  obtain ⟨a0, a1, a2, a3⟩ := row4_cells N3.out
  obtain ⟨d0, d1, d2, d3⟩ := row4_cells N1.out
  obtain ⟨b0, b1, b2⟩ := row3_cells N2.out
  have f1 := row_free N1.out
  have f2 := row_free N2.out
  go_enter Try.func62, Try.ntmps62
  go_wp2
  rw [← HWZ.out]
  clear HWZ l2 l3 l4 l5 l6 l7
  go_region
  go_wp2
  refine bpost_at ?_
  intro Wf hWf
  obtain ⟨H1, H2⟩ := both4_after (show w.heap.size + 1 ≠ w.heap.size + 1 + 1 by omega) N1.out N2.out (.int .u16 0) (.string ⟨#[]⟩) (.int .u64 0) (.int .u64 0) (.int .i64 14) (.int .i64 0) (.int .i64 da)
  have hB := both4_below HF.out (Nat.le_succ _) (show w.heap.size ≤ w.heap.size + 1 + 1 by omega) (.int .u16 0) (.string ⟨#[]⟩) (.int .u64 0) (.int .u64 0) (.int .i64 14) (.int .i64 0) (.int .i64 da)
  have hB' : Below w.heap.size w Wf := by rw [hWf]; exact below_drew hB
  have G1 : Wf.heap[w.heap.size + 1]? = some (.cells #[.int .u16 0, .string ⟨#[]⟩, .int .u64 0, .int .u64 0] 45 (0, 0)) := by rw [hWf, heap_drew]; exact H1
  have G2 : Wf.heap[w.heap.size + 1 + 1]? = some (.cells #[.int .i64 14, .int .i64 0, .int .i64 da] 34 (0, 0)) := by rw [hWf, heap_drew]; exact H2
  clear hWf H1 H2 hB
  obtain ⟨y0, y1, y2, y3⟩ := row4_cells G1
  obtain ⟨z0, z1, z2⟩ := row3_cells G2
  refine bodyPost_ret (v := .tuple #[.agg #[.int .u16 0, .string ⟨#[]⟩, .int .u64 0, .int .u64 0], .agg #[.int .i64 14, .int .i64 0, .int .i64 da]]) (by simp [results, Try.results62, go_sem, y0, y1, y2, y3, z0, z1, z2]) rfl ⟨rfl, hB'⟩
set_option maxRecDepth 20000 in
set_option maxHeartbeats 1000000 in
theorem donePort_f (A : Option Addr) (n c : Nat) (a : Int) (fa dc da : Int) (r : Nat) (w : World) (hr : Rdr w r A n c a 15 fa dc da) (x0 : Int) (x1 : Int) (x2 : ByteArray) (x3 : Bool) (x4 : Bool) (x5 : Int) :
    Calls Try.prog 56 #[.pointer (some ⟨r, 0, none⟩), .agg #[.int .u16 x0, .int .u16 x1, .string x2, .bool x3, .bool x4, .int .u32 x5]] w fun e w' => e = .returned (.tuple #[.agg #[.int .u16 0, .int .u16 0, .string ⟨#[]⟩, .bool false, .bool false, .int .u32 0], .agg #[.int .i64 15, .int .i64 0, .int .i64 fa]]) ∧ Below w.heap.size w w' := by
  have hlt := hr.lt
  have HF := Lib.hid (four_below w (.cells #[.int .u16 x0, .int .u16 x1, .string x2, .bool x3, .bool x4, .int .u32 x5] 26) (.cells #[.int .u16 0, .int .u16 0, .string ⟨#[]⟩, .bool false, .bool false, .int .u32 0] 26) (.cells #[.int .i64 0, .int .i64 0, .int .i64 0] 34) (.cells #[.int .u16 0, .int .u16 0, .string ⟨#[]⟩, .bool false, .bool false, .int .u32 0] 26))
  have hr4 := hr.below HF.out
  obtain ⟨n0, n1, n2, n3⟩ := four_new w (.cells #[.int .u16 x0, .int .u16 x1, .string x2, .bool x3, .bool x4, .int .u32 x5] 26) (.cells #[.int .u16 0, .int .u16 0, .string ⟨#[]⟩, .bool false, .bool false, .int .u32 0] 26) (.cells #[.int .i64 0, .int .i64 0, .int .i64 0] 34) (.cells #[.int .u16 0, .int .u16 0, .string ⟨#[]⟩, .bool false, .bool false, .int .u32 0] 26)
  have N1 := Lib.hid n1
  have N2 := Lib.hid n2
  have N3 := Lib.hid n3
  have HR := Lib.hid hr4
  clear hr n0 n1 n2 n3 hr4
  obtain ⟨wz, hwz⟩ : ∃ wz, wz = ((((w.alloc (.cells #[.int .u16 x0, .int .u16 x1, .string x2, .bool x3, .bool x4, .int .u32 x5] 26)).alloc (.cells #[.int .u16 0, .int .u16 0, .string ⟨#[]⟩, .bool false, .bool false, .int .u32 0] 26)).alloc (.cells #[.int .i64 0, .int .i64 0, .int .i64 0] 34)).alloc (.cells #[.int .u16 0, .int .u16 0, .string ⟨#[]⟩, .bool false, .bool false, .int .u32 0] 26)) := ⟨_, rfl⟩
  have HWZ := Lib.hid hwz
  rw [← hwz] at HF N1 N2 N3 HR
  clear hwz
  have up : ∀ k v, wz.cell? ⟨r, k, none⟩ = some v → w.cell? ⟨r, k, none⟩ = some v := by
    intro k v hk
    rw [← hk]
    exact (HF.out.cell (p := ⟨r, k, none⟩) hlt).symm
  obtain ⟨h0, h1, h2, h3, h4, h5, h6, h7⟩ := HR.out.cells
  have u2 := up _ _ h2
  have u3 := up _ _ h3
  have u4 := up _ _ h4
  have u5 := up _ _ h5
  have u6 := up _ _ h6
  have u7 := up _ _ h7
  have al : ∀ k v, w.cell? ⟨r, k, none⟩ = some v → ∀ o1 o2 o3 o4, ((((w.alloc o1).alloc o2).alloc o3).alloc o4).cell? ⟨r, k, none⟩ = some v := by
    intro k v hk o1 o2 o3 o4
    rw [World.cell?_alloc_lt _ _ _ (by simp; omega), World.cell?_alloc_lt _ _ _ (by simp; omega), World.cell?_alloc_lt _ _ _ (by simp; omega), World.cell?_alloc_lt _ _ _ (by simpa using hlt), hk]
  have l2 := al _ _ u2
  have l3 := al _ _ u3
  have l4 := al _ _ u4
  have l5 := al _ _ u5
  have l6 := al _ _ u6
  have l7 := al _ _ u7
  clear u2 u3 u4 u5 u6 u7 al up h0 h1
  obtain ⟨a0, a1, a2, a3, a4, a5⟩ := row6_cells N3.out
  obtain ⟨d0, d1, d2, d3, d4, d5⟩ := row6_cells N1.out
  obtain ⟨b0, b1, b2⟩ := row3_cells N2.out
  have f1 := row_free N1.out
  have f2 := row_free N2.out
  go_enter Try.func56, Try.ntmps56
  go_wp2
  rw [← HWZ.out]
  clear HWZ l2 l3 l4 l5 l6 l7
  go_region
  go_wp2
  refine bpost_at ?_
  intro Wf hWf
  obtain ⟨H1, H2⟩ := both6_after (show w.heap.size + 1 ≠ w.heap.size + 1 + 1 by omega) N1.out N2.out (.int .u16 0) (.int .u16 0) (.string ⟨#[]⟩) (.bool false) (.bool false) (.int .u32 0) (.int .i64 15) (.int .i64 0) (.int .i64 fa)
  have hB := both6_below HF.out (Nat.le_succ _) (show w.heap.size ≤ w.heap.size + 1 + 1 by omega) (.int .u16 0) (.int .u16 0) (.string ⟨#[]⟩) (.bool false) (.bool false) (.int .u32 0) (.int .i64 15) (.int .i64 0) (.int .i64 fa)
  have hB' : Below w.heap.size w Wf := by rw [hWf]; exact below_drew hB
  have G1 : Wf.heap[w.heap.size + 1]? = some (.cells #[.int .u16 0, .int .u16 0, .string ⟨#[]⟩, .bool false, .bool false, .int .u32 0] 26 (0, 0)) := by rw [hWf, heap_drew]; exact H1
  have G2 : Wf.heap[w.heap.size + 1 + 1]? = some (.cells #[.int .i64 15, .int .i64 0, .int .i64 fa] 34 (0, 0)) := by rw [hWf, heap_drew]; exact H2
  clear hWf H1 H2 hB
  obtain ⟨y0, y1, y2, y3, y4, y5⟩ := row6_cells G1
  obtain ⟨z0, z1, z2⟩ := row3_cells G2
  refine bodyPost_ret (v := .tuple #[.agg #[.int .u16 0, .int .u16 0, .string ⟨#[]⟩, .bool false, .bool false, .int .u32 0], .agg #[.int .i64 15, .int .i64 0, .int .i64 fa]]) (by simp [results, Try.results56, go_sem, y0, y1, y2, y3, y4, y5, z0, z1, z2]) rfl ⟨rfl, hB'⟩
set_option maxRecDepth 20000 in
set_option maxHeartbeats 1000000 in
theorem donePort_d (A : Option Addr) (n c : Nat) (a : Int) (da : Int) (r : Nat) (w : World) (hr : Rdr w r A n c a 0 0 14 da) (x0 : Int) (x1 : Int) (x2 : ByteArray) (x3 : Bool) (x4 : Bool) (x5 : Int) :
    Calls Try.prog 56 #[.pointer (some ⟨r, 0, none⟩), .agg #[.int .u16 x0, .int .u16 x1, .string x2, .bool x3, .bool x4, .int .u32 x5]] w fun e w' => e = .returned (.tuple #[.agg #[.int .u16 0, .int .u16 0, .string ⟨#[]⟩, .bool false, .bool false, .int .u32 0], .agg #[.int .i64 14, .int .i64 0, .int .i64 da]]) ∧ Below w.heap.size w w' := by
  have hlt := hr.lt
  have HF := Lib.hid (four_below w (.cells #[.int .u16 x0, .int .u16 x1, .string x2, .bool x3, .bool x4, .int .u32 x5] 26) (.cells #[.int .u16 0, .int .u16 0, .string ⟨#[]⟩, .bool false, .bool false, .int .u32 0] 26) (.cells #[.int .i64 0, .int .i64 0, .int .i64 0] 34) (.cells #[.int .u16 0, .int .u16 0, .string ⟨#[]⟩, .bool false, .bool false, .int .u32 0] 26))
  have hr4 := hr.below HF.out
  obtain ⟨n0, n1, n2, n3⟩ := four_new w (.cells #[.int .u16 x0, .int .u16 x1, .string x2, .bool x3, .bool x4, .int .u32 x5] 26) (.cells #[.int .u16 0, .int .u16 0, .string ⟨#[]⟩, .bool false, .bool false, .int .u32 0] 26) (.cells #[.int .i64 0, .int .i64 0, .int .i64 0] 34) (.cells #[.int .u16 0, .int .u16 0, .string ⟨#[]⟩, .bool false, .bool false, .int .u32 0] 26)
  have N1 := Lib.hid n1
  have N2 := Lib.hid n2
  have N3 := Lib.hid n3
  have HR := Lib.hid hr4
  clear hr n0 n1 n2 n3 hr4
  obtain ⟨wz, hwz⟩ : ∃ wz, wz = ((((w.alloc (.cells #[.int .u16 x0, .int .u16 x1, .string x2, .bool x3, .bool x4, .int .u32 x5] 26)).alloc (.cells #[.int .u16 0, .int .u16 0, .string ⟨#[]⟩, .bool false, .bool false, .int .u32 0] 26)).alloc (.cells #[.int .i64 0, .int .i64 0, .int .i64 0] 34)).alloc (.cells #[.int .u16 0, .int .u16 0, .string ⟨#[]⟩, .bool false, .bool false, .int .u32 0] 26)) := ⟨_, rfl⟩
  have HWZ := Lib.hid hwz
  rw [← hwz] at HF N1 N2 N3 HR
  clear hwz
  have up : ∀ k v, wz.cell? ⟨r, k, none⟩ = some v → w.cell? ⟨r, k, none⟩ = some v := by
    intro k v hk
    rw [← hk]
    exact (HF.out.cell (p := ⟨r, k, none⟩) hlt).symm
  obtain ⟨h0, h1, h2, h3, h4, h5, h6, h7⟩ := HR.out.cells
  have u2 := up _ _ h2
  have u3 := up _ _ h3
  have u4 := up _ _ h4
  have u5 := up _ _ h5
  have u6 := up _ _ h6
  have u7 := up _ _ h7
  have al : ∀ k v, w.cell? ⟨r, k, none⟩ = some v → ∀ o1 o2 o3 o4, ((((w.alloc o1).alloc o2).alloc o3).alloc o4).cell? ⟨r, k, none⟩ = some v := by
    intro k v hk o1 o2 o3 o4
    rw [World.cell?_alloc_lt _ _ _ (by simp; omega), World.cell?_alloc_lt _ _ _ (by simp; omega), World.cell?_alloc_lt _ _ _ (by simp; omega), World.cell?_alloc_lt _ _ _ (by simpa using hlt), hk]
  have l2 := al _ _ u2
  have l3 := al _ _ u3
  have l4 := al _ _ u4
  have l5 := al _ _ u5
  have l6 := al _ _ u6
  have l7 := al _ _ u7
  clear u2 u3 u4 u5 u6 u7 al up h0 h1
  obtain ⟨a0, a1, a2, a3, a4, a5⟩ := row6_cells N3.out
  obtain ⟨d0, d1, d2, d3, d4, d5⟩ := row6_cells N1.out
  obtain ⟨b0, b1, b2⟩ := row3_cells N2.out
  have f1 := row_free N1.out
  have f2 := row_free N2.out
  go_enter Try.func56, Try.ntmps56
  go_wp2
  rw [← HWZ.out]
  clear HWZ l2 l3 l4 l5 l6 l7
  go_region
  go_wp2
  refine bpost_at ?_
  intro Wf hWf
  obtain ⟨H1, H2⟩ := both6_after (show w.heap.size + 1 ≠ w.heap.size + 1 + 1 by omega) N1.out N2.out (.int .u16 0) (.int .u16 0) (.string ⟨#[]⟩) (.bool false) (.bool false) (.int .u32 0) (.int .i64 14) (.int .i64 0) (.int .i64 da)
  have hB := both6_below HF.out (Nat.le_succ _) (show w.heap.size ≤ w.heap.size + 1 + 1 by omega) (.int .u16 0) (.int .u16 0) (.string ⟨#[]⟩) (.bool false) (.bool false) (.int .u32 0) (.int .i64 14) (.int .i64 0) (.int .i64 da)
  have hB' : Below w.heap.size w Wf := by rw [hWf]; exact below_drew hB
  have G1 : Wf.heap[w.heap.size + 1]? = some (.cells #[.int .u16 0, .int .u16 0, .string ⟨#[]⟩, .bool false, .bool false, .int .u32 0] 26 (0, 0)) := by rw [hWf, heap_drew]; exact H1
  have G2 : Wf.heap[w.heap.size + 1 + 1]? = some (.cells #[.int .i64 14, .int .i64 0, .int .i64 da] 34 (0, 0)) := by rw [hWf, heap_drew]; exact H2
  clear hWf H1 H2 hB
  obtain ⟨y0, y1, y2, y3, y4, y5⟩ := row6_cells G1
  obtain ⟨z0, z1, z2⟩ := row3_cells G2
  refine bodyPost_ret (v := .tuple #[.agg #[.int .u16 0, .int .u16 0, .string ⟨#[]⟩, .bool false, .bool false, .int .u32 0], .agg #[.int .i64 14, .int .i64 0, .int .i64 da]]) (by simp [results, Try.results56, go_sem, y0, y1, y2, y3, y4, y5, z0, z1, z2]) rfl ⟨rfl, hB'⟩
end Go.Proofs.Ytpeajffnhmmaeaa
