/-
  Small things of many laws: a run of zeros among bytes, a record without fault, variables' rows, leaves of parameters.
-/
import Derived.Test.YtpeajffnhmmaeaaRef1
import Derived.Test.YtpeajffnhmmaeaaConcat
import Derived.WideShapes
import Derived.ChangeArms
namespace Go.Proofs.Ytpeajffnhmmaeaa
set_option linter.unusedVariables false
open Go.RowKit Go.ChangeShapes Go.WideShapes

theorem nzV_zeros (m : Nat) : nzV (List.replicate m 0) = -1 := nz_none _ (fun i hi => by simp at hi; simp [List.getD, hi])
theorem dirty_mid (a c : List UInt8) (m : Nat) (n k : Int) (hn : n = a.length) (hk : k = m) : dirtyV (a ++ List.replicate m 0 ++ c) n k = -1 := by
  subst hn; subst hk
  unfold dirtyV
  rw [if_pos (exB_mid a (List.replicate m 0) c _ _ rfl (by simp)), Int.toNat_natCast, Int.toNat_natCast]
  have := part_mid a (List.replicate m 0) c
  rw [List.length_replicate] at this
  rw [this, nzV_zeros, if_pos (by omega)]
theorem zeroC_no : zeroC 0 (-1) = 0 := rfl
theorem zeroA_no : zeroA 0 0 (-1) = 0 := rfl

/-- what a Get function answers for a record without fault -/
def Clear (R V : Array Value) (fc fa : Int) : Prop := R = V ∧ fc = 0 ∧ fa = 0

/-- a variable's row, made since -/
theorem row_later {w w' : World} {k : Nat} {o : Obj} (h : w.heap[k]? = some o) (hb : Below w.heap.size w w') : w'.heap[k]? = some o := (hb.block k (Array.getElem?_eq_some_iff.1 h).1).trans h
theorem two_rows (w : World) (o1 o2 : Obj) {w' : World} (hb : Below ((w.alloc o1).alloc o2).heap.size ((w.alloc o1).alloc o2) w') : w'.heap[w.heap.size]? = some o1 ∧ w'.heap[w.heap.size + 1]? = some o2 :=
  ⟨row_later (two_new w o1 o2).1 hb, row_later (two_new w o1 o2).2 hb⟩

theorem RdS.lit {w : World} {T : TypeId} {L : List Sl} {cs : Array Value} (hcs : cs.toList = L.map Sl.val) (h : ∀ s ∈ L, Rd w w.heap.size s.A s.xs) : RdS (w.alloc (.cells cs T)) (w.alloc (.cells cs T)).heap.size (some ⟨w.heap.size, 0, none⟩) L := by
  refine ⟨.inr ⟨w.heap.size, 0, rfl, by simp, fun j s hj => ?_⟩, fun s hs => ((h s hs).alloc (Nat.le_refl _) _).more (by simp)⟩
  rw [Nat.zero_add, World.cell?_alloc_at (w := w) _ _ _ _ rfl]
  have : cs.toList[j]? = some s.val := by rw [hcs, List.getElem?_map, hj]; rfl
  simpa using this
section
variable {W : World} {H : Type} {enc : TypeId × Value → H} {x : DataW H × List MemPlace}
theorem leaf_u16 {cs : List Value} {c : Value} {y : Option (DataW H × List MemPlace)} {n : Nat} {yy : DataW H × List MemPlace} (e : cs = [c]) (h : DataW.trod enc Try.prog W 0 (fun _ => true) true n 23 cs = y) (hy : y = some yy) : ∃ z : Nat, c = .int .u16 (z : Int) ∧ z < 65536 := by
  subst e; subst hy
  obtain ⟨z, e, _, hw⟩ := DataW.trod_int Try.underlying23 h
  have b := bounds_u16 hw
  exact ⟨z.toNat, by rw [show ((z.toNat : Nat) : Int) = z by omega]; simpa using e, by omega⟩
theorem leaf_u64 {cs : List Value} {c : Value} {y : Option (DataW H × List MemPlace)} {n : Nat} {yy : DataW H × List MemPlace} (e : cs = [c]) (h : DataW.trod enc Try.prog W 0 (fun _ => true) true n 43 cs = y) (hy : y = some yy) : ∃ z : Nat, c = .int .u64 (z : Int) ∧ z < 18446744073709551616 := by
  subst e; subst hy
  obtain ⟨z, e, _, hw⟩ := DataW.trod_int Try.underlying43 h
  have b := bounds_u64 hw
  exact ⟨z.toNat, by rw [show ((z.toNat : Nat) : Int) = z by omega]; simpa using e, by omega⟩
theorem leaf_u8 {cs : List Value} {c : Value} {y : Option (DataW H × List MemPlace)} {n : Nat} {yy : DataW H × List MemPlace} (e : cs = [c]) (h : DataW.trod enc Try.prog W 0 (fun _ => true) true n 5 cs = y) (hy : y = some yy) : ∃ z : Nat, c = .int .u8 (z : Int) ∧ z < 256 := by
  subst e; subst hy
  obtain ⟨z, e, _, hw⟩ := DataW.trod_int Try.underlying5 h
  have b := bounds_u8 hw
  exact ⟨z.toNat, by rw [show ((z.toNat : Nat) : Int) = z by omega]; simpa using e, by omega⟩
theorem leaf_bool {cs : List Value} {c : Value} {y : Option (DataW H × List MemPlace)} {n : Nat} {yy : DataW H × List MemPlace} (e : cs = [c]) (h : DataW.trod enc Try.prog W 0 (fun _ => true) true n 4 cs = y) (hy : y = some yy) : ∃ z : Bool, c = .bool z := by
  subst e; subst hy
  obtain ⟨z, e, _⟩ := DataW.trod_bool Try.underlying4 h
  exact ⟨z, by simpa using e⟩
theorem q16 : Try.prog.cellsOf 23 = 1 := by kernel_rfl
theorem q64 : Try.prog.cellsOf 43 = 1 := by kernel_rfl
theorem q8 : Try.prog.cellsOf 5 = 1 := by kernel_rfl
theorem qb : Try.prog.cellsOf 4 = 1 := by kernel_rfl

end
theorem list_cons {α : Type} (l : List α) (n : Nat) (h : l.length = n + 1) : ∃ a t, l = a :: t ∧ t.length = n := by
  cases l with
  | nil => simp at h
  | cons a t => exact ⟨a, t, rfl, by simpa using h⟩

end Go.Proofs.Ytpeajffnhmmaeaa
