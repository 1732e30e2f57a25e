/-
  The law RecPartitions for every parameter; its parameter opened.
-/
import Derived.Test.YtpeajffnhmmaeaaLawPart
import Derived.Test.YtpeajffnhmmaeaaClr
namespace Go.Proofs.Ytpeajffnhmmaeaa
set_option linter.unusedVariables false
open Go.RowKit Go.ChangeShapes Go.WideShapes

/-- what is known of the law's second parameter -/
def IsPart (w : World) (v : Value) : Prop := ∃ (x : Nat) (s : ByteArray) (p d : Nat), v = .agg #[.int .u16 (x : Int), .string s, .int .u64 (p : Int), .int .u64 (d : Int)] ∧ x < 65536 ∧ s.size ≤ 9223372036854775807 ∧ p < 18446744073709551616 ∧ d < 18446744073709551616
theorem leaf_str {W : World} {H : Type} {enc : TypeId × Value → H} {cs : List Value} {c : Value} {y : Option (DataW H × List MemPlace)} {n : Nat} {yy : DataW H × List MemPlace} (e : cs = [c]) (h : DataW.trod enc Try.prog W 0 (fun _ => true) true n 9 cs = y) (hy : y = some yy) : ∃ s : ByteArray, c = .string s ∧ s.size ≤ 9223372036854775807 := by
  subst e; subst hy
  obtain ⟨s, e, _, hs⟩ := DataW.trod_string Try.underlying9 h
  unfold maxLen at hs
  exact ⟨s, by simpa using e, by omega⟩
theorem qs : Try.prog.cellsOf 9 = 1 := by kernel_rfl
set_option maxRecDepth 100000 in
theorem open_part {W : World} {H : Type} {enc : TypeId × Value → H} {base : Nat} {v : Value} {d : DataW H} {ps : List MemPlace} (hv : Value.okWide Try.prog W .any base 45 v)
    (h : DataW.Trod enc Try.prog W 0 (fun _ => true) true 45 v d ps) : IsPart W v := by
  obtain ⟨cs, rfl, hsz⟩ := okWide_struct Try.underlying45 hv
  obtain ⟨l⟩ := cs
  have hl : l.length = 4 := hsz.trans (by kernel_rfl)
  obtain ⟨a0, l0, rfl, hl0⟩ := list_cons l 3 hl
  obtain ⟨a1, l1, rfl, hl1⟩ := list_cons l0 2 hl0
  obtain ⟨a2, l2, rfl, hl2⟩ := list_cons l1 1 hl1
  obtain ⟨a3, l3, rfl, hl3⟩ := list_cons l2 0 hl2
  obtain rfl := List.eq_nil_of_length_eq_zero hl3
  obtain ⟨fuel, hf⟩ := h
  obtain ⟨ys, n, _, _, _, hys, hf⟩ := DataW.trod_struct Try.underlying45 hf
  match ys, hys with
  | [y0, y1, y2, y3], _ =>
    obtain ⟨x, e0, h0⟩ := leaf_u16 (c := a0) (by simp [Value.cells, q16]) (hf 0 _ rfl) rfl
    obtain ⟨s, e1, h1⟩ := leaf_str (c := a1) (by simp [Value.cells, qs]) (hf 1 _ rfl) rfl
    obtain ⟨p, e2, h2⟩ := leaf_u64 (c := a2) (by simp [Value.cells, q64]) (hf 2 _ rfl) rfl
    obtain ⟨q, e3, h3⟩ := leaf_u64 (c := a3) (by simp [Value.cells, q64]) (hf 3 _ rfl) rfl
    subst e0; subst e1; subst e2; subst e3
    exact ⟨x, s, p, q, rfl, h0, h1, h2, h3⟩

set_option maxRecDepth 100000 in
set_option maxHeartbeats 800000 in
theorem RecPartitions_any (A : Option Addr) (c : Nat) (xs : List UInt8) (v : Value) (w : World) (hR : Rd w w.heap.size A xs) (h : IsPart w v) : Calls Try.prog 7 #[.slice A xs.length c, v] w (AliveOK w) := by
  obtain ⟨x, s, p, d, rfl, hx, hs, hp, hd⟩ := h
  by_cases hl : xs.length ≤ 100
  · by_cases hv : vldP s
    · exact RecPartitions_main A c xs x s p d w hR hl hx hv hp hd
    · have hd1 : decide ((100 : Int) < (xs.length : Int)) = false := decide_eq_false (by omega)
      have HV := Lib.hid (vldB_false hv)
      obtain ⟨k0, k1, k2, k3⟩ := row4_cells (heap_alloc_new w (.cells #[.int .u16 (x : Int), .string s, .int .u64 (p : Int), .int .u64 (d : Int)] 45))
      clear hR hv
      go_enter Try.func7, Try.ntmps7
      go_wp2_with fail
      refine (refValid_any s _ hs).mono ?_
      rintro e w1 ⟨rfl, rfl⟩
      rw [HV.out]
      go_wp2_with fail
      refine (alive09 _).mono ?_
      rintro e w2 ⟨rfl, hb2⟩
      clear k0 k1 k2 k3
      go_wp2
      go_ret
      exact ⟨rfl, ((Below.refl _ w).alloc (Nat.le_refl _) _).trans (hb2.mono (by simp))⟩
  · have hd1 : decide ((100 : Int) < (xs.length : Int)) = true := decide_eq_true (by omega)
    clear hR
    go_enter Try.func7, Try.ntmps7
    go_wp2_with fail
    refine (alive09 _).mono ?_
    rintro e w2 ⟨rfl, hb2⟩
    go_wp2
    go_ret
    exact ⟨rfl, ((Below.refl _ w).alloc (Nat.le_refl _) _).trans (hb2.mono (by simp))⟩
end Go.Proofs.Ytpeajffnhmmaeaa
