/-
  The law RecPorts for every parameter; its parameter opened.
-/
import Derived.Test.YtpeajffnhmmaeaaLawPort
import Derived.Test.YtpeajffnhmmaeaaClr
namespace Go.Proofs.Ytpeajffnhmmaeaa
set_option linter.unusedVariables false
open Go.RowKit Go.ChangeShapes Go.WideShapes

/-- what is known of the law's second parameter -/
def IsPort (w : World) (v : Value) : Prop := ∃ (x y : Nat) (s : ByteArray) (o q1 : Bool) (z : Nat), v = .agg #[.int .u16 (x : Int), .int .u16 (y : Int), .string s, .bool o, .bool q1, .int .u32 (z : Int)] ∧ x < 65536 ∧ y < 65536 ∧ s.size ≤ 9223372036854775807 ∧ z < 4294967296
theorem leaf_strP {W : World} {H : Type} {enc : TypeId × Value → H} {cs : List Value} {c : Value} {y : Option (DataW H × List MemPlace)} {n : Nat} {yy : DataW H × List MemPlace} (e : cs = [c]) (h : DataW.trod enc Try.prog W 0 (fun _ => true) true n 9 cs = y) (hy : y = some yy) : ∃ s : ByteArray, c = .string s ∧ s.size ≤ 9223372036854775807 := by
  subst e; subst hy
  obtain ⟨s, e, _, hs⟩ := DataW.trod_string Try.underlying9 h
  unfold maxLen at hs
  exact ⟨s, by simpa using e, by omega⟩
theorem leaf_u32 {W : World} {H : Type} {enc : TypeId × Value → H} {cs : List Value} {c : Value} {y : Option (DataW H × List MemPlace)} {n : Nat} {yy : DataW H × List MemPlace} (e : cs = [c]) (h : DataW.trod enc Try.prog W 0 (fun _ => true) true n 24 cs = y) (hy : y = some yy) : ∃ z : Nat, c = .int .u32 (z : Int) ∧ z < 4294967296 := by
  subst e; subst hy
  obtain ⟨z, e, _, hw⟩ := DataW.trod_int Try.underlying24 h
  have b := bounds_u32 hw
  exact ⟨z.toNat, by rw [show ((z.toNat : Nat) : Int) = z by omega]; simpa using e, by omega⟩
theorem q32 : Try.prog.cellsOf 24 = 1 := by kernel_rfl
theorem qsP : Try.prog.cellsOf 9 = 1 := by kernel_rfl
set_option maxRecDepth 100000 in
theorem open_port {W : World} {H : Type} {enc : TypeId × Value → H} {base : Nat} {v : Value} {d : DataW H} {ps : List MemPlace} (hv : Value.okWide Try.prog W .any base 26 v)
    (h : DataW.Trod enc Try.prog W 0 (fun _ => true) true 26 v d ps) : IsPort W v := by
  obtain ⟨cs, rfl, hsz⟩ := okWide_struct Try.underlying26 hv
  obtain ⟨l⟩ := cs
  have hl : l.length = 6 := hsz.trans (by kernel_rfl)
  obtain ⟨a0, l0, rfl, hl0⟩ := list_cons l 5 hl
  obtain ⟨a1, l1, rfl, hl1⟩ := list_cons l0 4 hl0
  obtain ⟨a2, l2, rfl, hl2⟩ := list_cons l1 3 hl1
  obtain ⟨a3, l3, rfl, hl3⟩ := list_cons l2 2 hl2
  obtain ⟨a4, l4, rfl, hl4⟩ := list_cons l3 1 hl3
  obtain ⟨a5, l5, rfl, hl5⟩ := list_cons l4 0 hl4
  obtain rfl := List.eq_nil_of_length_eq_zero hl5
  obtain ⟨fuel, hf⟩ := h
  obtain ⟨ys, n, _, _, _, hys, hf⟩ := DataW.trod_struct Try.underlying26 hf
  match ys, hys with
  | [y0, y1, y2, y3, y4, y5], _ =>
    obtain ⟨x, e0, h0⟩ := leaf_u16 (c := a0) (by simp [Value.cells, q16]) (hf 0 _ rfl) rfl
    obtain ⟨y, e1, h1⟩ := leaf_u16 (c := a1) (by simp [Value.cells, q16]) (hf 1 _ rfl) rfl
    obtain ⟨s, e2, h2⟩ := leaf_strP (c := a2) (by simp [Value.cells, qsP]) (hf 2 _ rfl) rfl
    obtain ⟨o, e3⟩ := leaf_bool (c := a3) (by simp [Value.cells, qb]) (hf 3 _ rfl) rfl
    obtain ⟨q1, e4⟩ := leaf_bool (c := a4) (by simp [Value.cells, qb]) (hf 4 _ rfl) rfl
    obtain ⟨z, e5, h5⟩ := leaf_u32 (c := a5) (by simp [Value.cells, q32]) (hf 5 _ rfl) rfl
    subst e0; subst e1; subst e2; subst e3; subst e4; subst e5
    exact ⟨x, y, s, o, q1, z, rfl, h0, h1, h2, h5⟩

set_option maxRecDepth 100000 in
set_option maxHeartbeats 800000 in
theorem RecPorts_any (A : Option Addr) (c : Nat) (xs : List UInt8) (v : Value) (w : World) (hR : Rd w w.heap.size A xs) (h : IsPort w v) : Calls Try.prog 3 #[.slice A xs.length c, v] w (AliveOK w) := by
  obtain ⟨x, y, s, o, q1, z, rfl, hx, hy, hs, hz⟩ := h
  by_cases hl : xs.length ≤ 100
  · by_cases hv : vldP s
    · exact RecPorts_main A c xs x y s o q1 z w hR hl hx hy hv hz
    · have hd1 : decide ((100 : Int) < (xs.length : Int)) = false := decide_eq_false (by omega)
      have HV := Lib.hid (vldB_false hv)
      obtain ⟨k0, k1, k2, k3, k4, k5⟩ := row6_cells (heap_alloc_new w (.cells #[.int .u16 (x : Int), .int .u16 (y : Int), .string s, .bool o, .bool q1, .int .u32 (z : Int)] 26))
      clear hR hv
      go_enter Try.func3, Try.ntmps3
      go_wp2_with fail
      refine (refValid_any s _ hs).mono ?_
      rintro e w1 ⟨rfl, rfl⟩
      rw [HV.out]
      go_wp2_with fail
      refine (alive09 _).mono ?_
      rintro e w2 ⟨rfl, hb2⟩
      clear k0 k1 k2 k3 k4 k5
      go_wp2
      go_ret
      exact ⟨rfl, ((Below.refl _ w).alloc (Nat.le_refl _) _).trans (hb2.mono (by simp))⟩
  · have hd1 : decide ((100 : Int) < (xs.length : Int)) = true := decide_eq_true (by omega)
    clear hR
    go_enter Try.func3, Try.ntmps3
    go_wp2_with fail
    refine (alive09 _).mono ?_
    rintro e w2 ⟨rfl, hb2⟩
    go_wp2
    go_ret
    exact ⟨rfl, ((Below.refl _ w).alloc (Nat.le_refl _) _).trans (hb2.mono (by simp))⟩
end Go.Proofs.Ytpeajffnhmmaeaa
