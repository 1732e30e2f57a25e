/-
  The law RecSmall for every parameter; its parameter opened.
-/
import Derived.Test.YtpeajffnhmmaeaaLawSmall
import Derived.WideShapes
import Derived.ChangeArms
namespace Go.Proofs.Ytpeajffnhmmaeaa
set_option linter.unusedVariables false
open Go.RowKit Go.ChangeShapes Go.WideShapes

/-- what is known of the law's parameter -/
def IsSmall (w : World) (v : Value) : Prop := ∃ (x0 x1 x2 y0 y1 y2 y3 : Nat) (y4 : Bool) (z0 z1 z2 v0 v1 : Nat), v = .agg #[.int .u64 (x0 : Int), .int .u64 (x1 : Int), .int .u16 (x2 : Int), .int .u64 (y0 : Int), .int .u64 (y1 : Int), .int .u16 (y2 : Int), .int .u8 (y3 : Int), .bool y4, .int .u16 (z0 : Int), .int .u16 (z1 : Int), .int .u16 (z2 : Int), .int .u16 (v0 : Int), .int .u16 (v1 : Int)] ∧ x0 < 18446744073709551616 ∧ x1 < 18446744073709551616 ∧ x2 < 65536 ∧ y0 < 18446744073709551616 ∧ y1 < 18446744073709551616 ∧ y2 < 65536 ∧ y3 < 256 ∧
  z0 < 65536 ∧ z1 < 65536 ∧ z2 < 65536 ∧ v0 < 65536 ∧ v1 < 65536

section
variable {W : World} {H : Type} {enc : TypeId × Value → H} {fuel : Nat} {c0 c1 c2 c3 c4 : Value} {x : DataW H × List MemPlace}
theorem leaf_u16 {cs : List Value} {c : Value} {y : Option (DataW H × List MemPlace)} {n : Nat} {yy : DataW H × List MemPlace} (e : cs = [c]) (h : DataW.trod enc Try.prog W 0 (fun _ => true) true n 23 cs = y) (hy : y = some yy) : ∃ z : Nat, c = .int .u16 (z : Int) ∧ z < 65536 := by
  subst e; subst hy
  obtain ⟨z, e, _, hw⟩ := DataW.trod_int Try.underlying23 h
  have b := bounds_u16 hw
  exact ⟨z.toNat, by rw [show ((z.toNat : Nat) : Int) = z by omega]; simpa using e, by omega⟩
theorem leaf_u64 {cs : List Value} {c : Value} {y : Option (DataW H × List MemPlace)} {n : Nat} {yy : DataW H × List MemPlace} (e : cs = [c]) (h : DataW.trod enc Try.prog W 0 (fun _ => true) true n 43 cs = y) (hy : y = some yy) : ∃ z : Nat, c = .int .u64 (z : Int) ∧ z < 18446744073709551616 := by
  subst e; subst hy
  obtain ⟨z, e, _, hw⟩ := DataW.trod_int Try.underlying43 h
  have b := bounds_u64 hw
  exact ⟨z.toNat, by rw [show ((z.toNat : Nat) : Int) = z by omega]; simpa using e, by omega⟩
theorem leaf_u8 {cs : List Value} {c : Value} {y : Option (DataW H × List MemPlace)} {n : Nat} {yy : DataW H × List MemPlace} (e : cs = [c]) (h : DataW.trod enc Try.prog W 0 (fun _ => true) true n 5 cs = y) (hy : y = some yy) : ∃ z : Nat, c = .int .u8 (z : Int) ∧ z < 256 := by
  subst e; subst hy
  obtain ⟨z, e, _, hw⟩ := DataW.trod_int Try.underlying5 h
  have b := bounds_u8 hw
  exact ⟨z.toNat, by rw [show ((z.toNat : Nat) : Int) = z by omega]; simpa using e, by omega⟩
theorem leaf_bool {cs : List Value} {c : Value} {y : Option (DataW H × List MemPlace)} {n : Nat} {yy : DataW H × List MemPlace} (e : cs = [c]) (h : DataW.trod enc Try.prog W 0 (fun _ => true) true n 4 cs = y) (hy : y = some yy) : ∃ z : Bool, c = .bool z := by
  subst e; subst hy
  obtain ⟨z, e, _⟩ := DataW.trod_bool Try.underlying4 h
  exact ⟨z, by simpa using e⟩
theorem q16 : Try.prog.cellsOf 23 = 1 := by kernel_rfl
theorem q64 : Try.prog.cellsOf 43 = 1 := by kernel_rfl
theorem q8 : Try.prog.cellsOf 5 = 1 := by kernel_rfl
theorem qb : Try.prog.cellsOf 4 = 1 := by kernel_rfl

theorem open_win (h : DataW.trod enc Try.prog W 0 (fun _ => true) true fuel 58 [c0, c1, c2] = some x) : ∃ a b d : Nat, c0 = .int .u64 (a : Int) ∧ c1 = .int .u64 (b : Int) ∧ c2 = .int .u16 (d : Int) ∧ a < 18446744073709551616 ∧ b < 18446744073709551616 ∧ d < 65536 := by
  obtain ⟨ys, n, _, _, _, hys, hf⟩ := DataW.trod_struct Try.underlying58 h
  match ys, hys with
  | [y0, y1, y2], _ =>
    obtain ⟨a, e0, h0⟩ := leaf_u64 (c := c0) (by simp [q64]) (hf 0 _ rfl) rfl
    obtain ⟨b, e1, h1⟩ := leaf_u64 (c := c1) (by simp [q64]) (hf 1 _ rfl) rfl
    obtain ⟨d, e2, h2⟩ := leaf_u16 (c := c2) (by simp [q16]) (hf 2 _ rfl) rfl
    exact ⟨a, b, d, e0, e1, e2, h0, h1, h2⟩
theorem open_reg (h : DataW.trod enc Try.prog W 0 (fun _ => true) true fuel 50 [c0, c1, c2, c3, c4] = some x) : ∃ (a b d f : Nat) (g : Bool), c0 = .int .u64 (a : Int) ∧ c1 = .int .u64 (b : Int) ∧ c2 = .int .u16 (d : Int) ∧ c3 = .int .u8 (f : Int) ∧ c4 = .bool g ∧
    a < 18446744073709551616 ∧ b < 18446744073709551616 ∧ d < 65536 ∧ f < 256 := by
  obtain ⟨ys, n, _, _, _, hys, hf⟩ := DataW.trod_struct Try.underlying50 h
  match ys, hys with
  | [y0, y1, y2, y3, y4], _ =>
    obtain ⟨a, e0, h0⟩ := leaf_u64 (c := c0) (by simp [q64]) (hf 0 _ rfl) rfl
    obtain ⟨b, e1, h1⟩ := leaf_u64 (c := c1) (by simp [q64]) (hf 1 _ rfl) rfl
    obtain ⟨d, e2, h2⟩ := leaf_u16 (c := c2) (by simp [q16]) (hf 2 _ rfl) rfl
    obtain ⟨f, e3, h3⟩ := leaf_u8 (c := c3) (by simp [q8]) (hf 3 _ rfl) rfl
    obtain ⟨g, e4⟩ := leaf_bool (c := c4) (by simp [qb]) (hf 4 _ rfl) rfl
    exact ⟨a, b, d, f, g, e0, e1, e2, e3, e4, h0, h1, h2, h3⟩
theorem open_head (h : DataW.trod enc Try.prog W 0 (fun _ => true) true fuel 60 [c0, c1, c2] = some x) : ∃ a b d : Nat, c0 = .int .u16 (a : Int) ∧ c1 = .int .u16 (b : Int) ∧ c2 = .int .u16 (d : Int) ∧ a < 65536 ∧ b < 65536 ∧ d < 65536 := by
  obtain ⟨ys, n, _, _, _, hys, hf⟩ := DataW.trod_struct Try.underlying60 h
  match ys, hys with
  | [y0, y1, y2], _ =>
    obtain ⟨a, e0, h0⟩ := leaf_u16 (c := c0) (by simp [q16]) (hf 0 _ rfl) rfl
    obtain ⟨b, e1, h1⟩ := leaf_u16 (c := c1) (by simp [q16]) (hf 1 _ rfl) rfl
    obtain ⟨d, e2, h2⟩ := leaf_u16 (c := c2) (by simp [q16]) (hf 2 _ rfl) rfl
    exact ⟨a, b, d, e0, e1, e2, h0, h1, h2⟩
theorem open_link (h : DataW.trod enc Try.prog W 0 (fun _ => true) true fuel 62 [c0, c1] = some x) : ∃ a b : Nat, c0 = .int .u16 (a : Int) ∧ c1 = .int .u16 (b : Int) ∧ a < 65536 ∧ b < 65536 := by
  obtain ⟨ys, n, _, _, _, hys, hf⟩ := DataW.trod_struct Try.underlying62 h
  match ys, hys with
  | [y0, y1], _ =>
    obtain ⟨a, e0, h0⟩ := leaf_u16 (c := c0) (by simp [q16]) (hf 0 _ rfl) rfl
    obtain ⟨b, e1, h1⟩ := leaf_u16 (c := c1) (by simp [q16]) (hf 1 _ rfl) rfl
    exact ⟨a, b, e0, e1, h0, h1⟩
end
theorem qW : Try.prog.cellsOf 58 = 3 := by kernel_rfl
theorem qR : Try.prog.cellsOf 50 = 5 := by kernel_rfl
theorem qH : Try.prog.cellsOf 60 = 3 := by kernel_rfl
theorem qL : Try.prog.cellsOf 62 = 2 := by kernel_rfl
theorem list_cons {α : Type} (l : List α) (n : Nat) (h : l.length = n + 1) : ∃ a t, l = a :: t ∧ t.length = n := by
  cases l with
  | nil => simp at h
  | cons a t => exact ⟨a, t, rfl, by simpa using h⟩

set_option maxRecDepth 100000 in
theorem open_small {W : World} {H : Type} {enc : TypeId × Value → H} {base : Nat} {v : Value} {d : DataW H} {ps : List MemPlace} (hv : Value.okWide Try.prog W .any base 64 v)
    (h : DataW.Trod enc Try.prog W 0 (fun _ => true) true 64 v d ps) : IsSmall W v := by
  obtain ⟨cs, rfl, hsz⟩ := okWide_struct Try.underlying64 hv
  obtain ⟨l⟩ := cs
  have hl : l.length = 13 := hsz.trans (by kernel_rfl)
  obtain ⟨a0, l0, rfl, hl0⟩ := list_cons l 12 hl
  obtain ⟨a1, l1, rfl, hl1⟩ := list_cons l0 11 hl0
  obtain ⟨a2, l2, rfl, hl2⟩ := list_cons l1 10 hl1
  obtain ⟨a3, l3, rfl, hl3⟩ := list_cons l2 9 hl2
  obtain ⟨a4, l4, rfl, hl4⟩ := list_cons l3 8 hl3
  obtain ⟨a5, l5, rfl, hl5⟩ := list_cons l4 7 hl4
  obtain ⟨a6, l6, rfl, hl6⟩ := list_cons l5 6 hl5
  obtain ⟨a7, l7, rfl, hl7⟩ := list_cons l6 5 hl6
  obtain ⟨a8, l8, rfl, hl8⟩ := list_cons l7 4 hl7
  obtain ⟨a9, l9, rfl, hl9⟩ := list_cons l8 3 hl8
  obtain ⟨a10, l10, rfl, hl10⟩ := list_cons l9 2 hl9
  obtain ⟨a11, l11, rfl, hl11⟩ := list_cons l10 1 hl10
  obtain ⟨a12, l12, rfl, hl12⟩ := list_cons l11 0 hl11
  obtain rfl := List.eq_nil_of_length_eq_zero hl12
  obtain ⟨fuel, hf⟩ := h
  obtain ⟨ys, n, _, _, _, hys, hf⟩ := DataW.trod_struct Try.underlying64 hf
  match ys, hys with
  | [y0, y1, y2, y3], _ =>
    obtain ⟨x0, x1, x2, rfl, rfl, rfl, g0, g1, g2⟩ := open_win (c0 := a0) (c1 := a1) (c2 := a2) (x := y0) (by simpa [Value.cells, qW] using hf 0 _ rfl)
    obtain ⟨r0, r1, r2, r3, r4, rfl, rfl, rfl, rfl, rfl, g3, g4, g5, g6⟩ := open_reg (c0 := a3) (c1 := a4) (c2 := a5) (c3 := a6) (c4 := a7) (x := y1) (by simpa [Value.cells, qR] using hf 1 _ rfl)
    obtain ⟨z0, z1, z2, rfl, rfl, rfl, g7, g8, g9⟩ := open_head (c0 := a8) (c1 := a9) (c2 := a10) (x := y2) (by simpa [Value.cells, qH] using hf 2 _ rfl)
    obtain ⟨v0, v1, rfl, rfl, g10, g11⟩ := open_link (c0 := a11) (c1 := a12) (x := y3) (by simpa [Value.cells, qL] using hf 3 _ rfl)
    exact ⟨x0, x1, x2, r0, r1, r2, r3, r4, z0, z1, z2, v0, v1, rfl, g0, g1, g2, g3, g4, g5, g6, g7, g8, g9, g10, g11⟩

set_option maxRecDepth 100000 in
set_option maxHeartbeats 800000 in
theorem RecSmall_any (v : Value) (w : World) (h : IsSmall w v) : Calls Try.prog 6 #[v] w (AliveOK w) := by
  obtain ⟨x0, x1, x2, y0, y1, y2, y3, y4, z0, z1, z2, v0, v1, rfl, g0, g1, g2, g3, g4, g5, g6, g7, g8, g9, g10, g11⟩ := h
  by_cases h7 : (y3 : Int) ≤ 7
  · exact RecSmall_main x0 x1 x2 y0 y1 y2 y3 y4 z0 z1 z2 v0 v1 w g0 g1 g2 g3 g4 g5 h7 g7 g8 g9 g10 g11
  · have hd7 : decide ((7 : Int) < (y3 : Int)) = true := decide_eq_true (by omega)
    go_enter Try.func6, Try.ntmps6
    go_wp2_with fail
    refine (alive09 _).mono ?_
    rintro e w2 ⟨rfl, hb2⟩
    go_wp2
    go_ret
    exact ⟨rfl, ((Below.refl _ w).alloc (Nat.le_refl _) _).trans (hb2.mono (by simp))⟩
end Go.Proofs.Ytpeajffnhmmaeaa
