/-
  A slice of calls that came in, opened.
-/
import Derived.Test.YtlofceojchlmgaaBld6
import Derived.Test.YtlofceojchlmgaaRowIn
import Derived.Deep.Slices
import Derived.ChangeSlices
namespace Go.Proofs.Ytlofceojchlmgaa
set_option linter.unusedVariables false
open Go.RowKit Go.ChangeShapes Go.WideShapes

theorem open_op {W : World} {H : Type} {enc : TypeId × Value → H} {fuel : Nat} {b off : Nat} {cs : List Value} {x : DataW H × List MemPlace} (hc : W.cells? 0 ⟨b, off, none⟩ 4 = some cs)
    (h : DataW.trod enc Try.prog W 0 (fun _ => true) true fuel 60 cs = some x) :
    ∃ o : OpD, o.Ok W ∧ W.cell? ⟨b, off, none⟩ = some (.int .i64 o.kd) ∧ W.cell? ⟨b, off + 1, none⟩ = some (.int .i64 o.n) ∧ W.cell? ⟨b, off + 2, none⟩ = some (.int .u64 (o.x : Int)) ∧ W.cell? ⟨b, off + 3, none⟩ = some (.slice o.X o.m o.cx) := by
  obtain ⟨_, hlen, hat⟩ := World.cells?_some hc
  obtain ⟨ys, n, _, _, _, hys, hf⟩ := DataW.trod_struct Try.underlying60 h
  match cs, hlen with
  | [v0, v1, v2, v3], _ =>
    match ys, hys with
    | [y0, y1, y2, y3], _ =>
      have q3 : Try.prog.cellsOf 3 = 1 := by kernel_rfl
      have q33 : Try.prog.cellsOf 33 = 1 := by kernel_rfl
      have q22 : Try.prog.cellsOf 22 = 1 := by kernel_rfl
      have f0 : DataW.trod enc Try.prog W 0 (fun _ => true) true n 3 [v0] = some y0 := by simpa [q3] using hf 0 _ rfl
      have f1 : DataW.trod enc Try.prog W 0 (fun _ => true) true n 3 [v1] = some y1 := by simpa [q3] using hf 1 _ rfl
      have f2 : DataW.trod enc Try.prog W 0 (fun _ => true) true n 33 [v2] = some y2 := by simpa [q33] using hf 2 _ rfl
      have f3 : DataW.trod enc Try.prog W 0 (fun _ => true) true n 22 [v3] = some y3 := by simpa [q22] using hf 3 _ rfl
      have c0 := hat 0 (by omega)
      have c1 := hat 1 (by omega)
      have c2 := hat 2 (by omega)
      have c3 := hat 3 (by omega)
      rw [add_lit] at c0 c1 c2 c3
      obtain ⟨z0, e0, _, w0⟩ := DataW.trod_int Try.underlying3 f0
      obtain ⟨z1, e1, _, w1⟩ := DataW.trod_int Try.underlying3 f1
      obtain ⟨z2, e2, _, w2⟩ := DataW.trod_int Try.underlying33 f2
      obtain rfl : v0 = .int .i64 z0 := by simpa using e0
      obtain rfl : v1 = .int .i64 z1 := by simpa using e1
      obtain rfl : v2 = .int .u64 z2 := by simpa using e2
      have b1 := bounds_i64 w1
      have b2 := bounds_u64 w2
      obtain ⟨x, rfl⟩ : ∃ x : Nat, z2 = (x : Int) := ⟨z2.toNat, by omega⟩
      rcases open_ints Try.underlying22 Try.underlying5 (by kernel_rfl) f3 with ⟨e3, _⟩ | ⟨a, l, c, zs, e3, _, hl, hm, hz, _, hcell, hwz⟩
      · obtain rfl : v3 = .slice none 0 0 := by simpa using e3
        exact ⟨⟨z0, z1, x, none, 0, 0, []⟩, ⟨b1, by simp; omega, rfl, Rd.nil⟩, c0, c1, c2, c3⟩
      · obtain rfl : v3 = .slice (some a) l c := by simpa using e3
        obtain ⟨xs, hx, hR, _, _⟩ := rd_of_row (w := W) (a := some a) (len := l) (cap := c) (zs := zs) (.inr ⟨a, rfl, hl, hm, by simpa using hz, hcell, hwz⟩)
        exact ⟨⟨z0, z1, x, some a, l, c, xs⟩, ⟨b1, by simp; omega, hx, hR⟩, c0, c1, c2, c3⟩

/-- what is known of a slice of calls -/
def IsOps (w : World) (v : Value) : Prop := ∃ S len cap os, v = .slice S len cap ∧ os.length = len ∧ RdO w w.heap.size S os ∧ (∀ o ∈ os, o.Ok w) ∧ len ≤ 9223372036854775807
theorem open_ops {W : World} {H : Type} {enc : TypeId × Value → H} {fuel : Nat} {v : Value} {x : DataW H × List MemPlace} (h : DataW.trod enc Try.prog W 0 (fun _ => true) true fuel 57 [v] = some x) : IsOps W v := by
  rcases Go.Deep.open_slice Try.underlying57 h with ⟨e, _⟩ | ⟨a, len, cap, m, n, D, Pl, e, _, hl, hm, hmm, _, hi⟩
  · obtain rfl : v = .slice none 0 0 := by simpa using e
    exact ⟨none, 0, 0, [], rfl, rfl, .inl rfl, fun o ho => by simp at ho, by omega⟩
  · obtain rfl : v = .slice (some a) len cap := by simpa using e
    rw [show Try.prog.cellsOf 60 = 4 from by kernel_rfl] at hi
    simp only [if_true] at hmm
    subst hmm
    unfold maxLen at hm
    by_cases h0 : len = 0
    · subst h0
      exact ⟨some a, 0, m, [], rfl, rfl, .inl rfl, fun o ho => by simp at ho, by omega⟩
    · obtain ⟨b, off, spot⟩ := a
      obtain ⟨cs0, hc0, _⟩ := hi 0 (by omega)
      obtain ⟨_, hl0, hat0⟩ := World.cells?_some hc0
      have hcell0 := hat0 0 (by omega)
      rw [List.getElem?_eq_getElem (by omega)] at hcell0
      have hspot : spot = none := by simpa [Addr.add] using World.cell?_spot hcell0
      subst hspot
      have hb : b < W.heap.size := by
        have := World.block_lt_of_cell? W _ hcell0
        simpa [add_lit] using this
      have each : ∀ i, i < len → ∃ o : OpD, o.Ok W ∧ W.cell? ⟨b, off + i * 4, none⟩ = some (.int .i64 o.kd) ∧ W.cell? ⟨b, off + i * 4 + 1, none⟩ = some (.int .i64 o.n) ∧ W.cell? ⟨b, off + i * 4 + 2, none⟩ = some (.int .u64 (o.x : Int)) ∧ W.cell? ⟨b, off + i * 4 + 3, none⟩ = some (.slice o.X o.m o.cx) := by
        intro i hil
        obtain ⟨cs', hc', ht'⟩ := hi i (by omega)
        rw [add_lit] at hc'
        exact open_op hc' ht'
      obtain ⟨f, hf⟩ : ∃ f : Nat → OpD, ∀ i, i < len → (f i).Ok W ∧ W.cell? ⟨b, off + i * 4, none⟩ = some (.int .i64 (f i).kd) ∧ W.cell? ⟨b, off + i * 4 + 1, none⟩ = some (.int .i64 (f i).n) ∧ W.cell? ⟨b, off + i * 4 + 2, none⟩ = some (.int .u64 ((f i).x : Int)) ∧ W.cell? ⟨b, off + i * 4 + 3, none⟩ = some (.slice (f i).X (f i).m (f i).cx) := by
        classical
        refine ⟨fun i => if h : i < len then Classical.choose (each i h) else ⟨0, 0, 0, none, 0, 0, []⟩, fun i h => ?_⟩
        simp only [h, dif_pos]
        exact Classical.choose_spec (each i h)
      refine ⟨some ⟨b, off, none⟩, len, m, (List.range len).map f, rfl, by simp, .inr ⟨b, off, rfl, hb, fun i o ho => ?_⟩, fun o ho => ?_, by omega⟩
      · have hil : i < len := by
          have := (List.getElem?_eq_some_iff.1 ho).1
          simpa using this
        rw [List.getElem?_map, List.getElem?_range hil] at ho
        obtain rfl := Option.some.inj ho
        exact (hf i hil).2
      · obtain ⟨i, hil, rfl⟩ := List.mem_map.1 ho
        exact (hf i (by simpa using hil)).1
end Go.Proofs.Ytlofceojchlmgaa
