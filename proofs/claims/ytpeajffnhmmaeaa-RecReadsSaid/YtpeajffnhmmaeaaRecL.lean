/-
  Contracts of the Get functions of package rec: Partition.
-/
import Derived.Test.YtpeajffnhmmaeaaRecG
import Derived.Test.YtpeajffnhmmaeaaName4
namespace Go.Proofs.Ytpeajffnhmmaeaa
set_option linter.unusedVariables false
open Go.RowKit

set_option maxRecDepth 20000 in
set_option maxHeartbeats 1000000 in
theorem GetPartition_no (A : Option Addr) (n c : Nat) (a : Int) (w : World) (hn : n ≤ 9223372036854775807) (ha : -9223372036854775808 ≤ a ∧ a ≤ 9223372036854775807) (hX : exB a 56 n = false) :
    Calls Try.prog 18 #[.slice A n c, .int .i64 a] w fun e w' => e = .returned (.tuple #[.agg #[.int .u16 0, .string ⟨#[]⟩, .int .u64 0, .int .u64 0], .agg #[.int .i64 8, .int .i64 0, .int .i64 a]]) ∧ Below w.heap.size w w' := by
  have H := Lib.hid (fun (w1 : World) => open1_no A n c a w1 hn ha hX)
  clear hX
  go_enter Try.func18, Try.ntmps18
  go_wp2_with fail
  refine (H.out _).mono ?_
  rintro e w2 ⟨rfl, hb⟩
  have Q1 := Lib.hid ((hb.block w.heap.size (by simp; omega)).trans (two_new w (.cells #[.int .u16 0, .string ⟨#[]⟩, .int .u64 0, .int .u64 0] 45) (.cells #[.int .i64 0, .int .i64 0, .int .i64 0] 34)).1)
  have Q2 := Lib.hid ((hb.block (w.heap.size + 1) (by simp)).trans (two_new w (.cells #[.int .u16 0, .string ⟨#[]⟩, .int .u64 0, .int .u64 0] 45) (.cells #[.int .i64 0, .int .i64 0, .int .i64 0] 34)).2)
  have QB := Lib.hid ((((Below.refl _ w).alloc (Nat.le_refl _) _).alloc (by simp) _).trans (hb.mono (by simp; omega)))
  have hsz := hb.size
  simp at hsz
  have t1 : ¬ w2.heap.size = w.heap.size := by omega
  have t2 : ¬ w.heap.size = w2.heap.size := by omega
  have t3 : ¬ w2.heap.size = w.heap.size + 1 := by omega
  have t4 : ¬ w.heap.size + 1 = w2.heap.size := by omega
  clear hb H hsz
  go_wp2_with fail
  have E1 := Lib.hid ((Below.heap_alloc w2 (.cells #[.int .i64 8, .int .i64 0, .int .i64 a] 34) _ (Array.getElem?_eq_some_iff.1 Q1.out).1).trans Q1.out)
  have E2 := Lib.hid ((Below.heap_alloc w2 (.cells #[.int .i64 8, .int .i64 0, .int .i64 a] 34) _ (Array.getElem?_eq_some_iff.1 Q2.out).1).trans Q2.out)
  have E3 := Lib.hid (heap_alloc_new w2 (.cells #[.int .i64 8, .int .i64 0, .int .i64 a] 34))
  have EB := Lib.hid (QB.out.alloc QB.out.size (.cells #[.int .i64 8, .int .i64 0, .int .i64 a] 34))
  clear Q1 Q2 QB
  obtain ⟨Q1, Q2, Q3, QB⟩ := And.intro E1 (And.intro E2 (And.intro E3 EB))
  clear E1 E2 E3 EB
  generalize w2.alloc (.cells #[.int .i64 8, .int .i64 0, .int .i64 a] 34) = wz at *
  obtain ⟨d0, d1, d2, d3⟩ := row4_cells Q1.out
  obtain ⟨b0, b1, b2⟩ := row3_cells Q2.out
  obtain ⟨c0, c1, c2⟩ := row3_cells Q3.out
  have fz1 := row_free Q1.out
  have fz2 := row_free Q2.out
  go_region
  go_wp2
  refine bpost_at ?_
  intro Wf hWf
  obtain ⟨H1, H2⟩ := both4_after (show w.heap.size ≠ w.heap.size + 1 by omega) Q1.out Q2.out (.int .u16 0) (.string ⟨#[]⟩) (.int .u64 0) (.int .u64 0) (.int .i64 8) (.int .i64 0) (.int .i64 a)
  have hB := both4_below QB.out (Nat.le_refl _) (Nat.le_succ _) (.int .u16 0) (.string ⟨#[]⟩) (.int .u64 0) (.int .u64 0) (.int .i64 8) (.int .i64 0) (.int .i64 a)
  have hB' : Below w.heap.size w Wf := by rw [hWf]; first | ((with_reducible refine below_drew ?_); exact hB) | exact hB
  have G1 : Wf.heap[w.heap.size]? = some (.cells #[.int .u16 0, .string ⟨#[]⟩, .int .u64 0, .int .u64 0] 45 (0, 0)) := by rw [hWf]; first | (rw [heap_drew]; exact H1) | exact H1
  have G2 : Wf.heap[w.heap.size + 1]? = some (.cells #[.int .i64 8, .int .i64 0, .int .i64 a] 34 (0, 0)) := by rw [hWf]; first | (rw [heap_drew]; exact H2) | exact H2
  clear hWf H1 H2 hB
  obtain ⟨f0, f1, f2, f3⟩ := row4_cells G1
  obtain ⟨g0, g1, g2⟩ := row3_cells G2
  refine bodyPost_ret (v := .tuple #[.agg #[.int .u16 0, .string ⟨#[]⟩, .int .u64 0, .int .u64 0], .agg #[.int .i64 8, .int .i64 0, .int .i64 a]]) (by simp [results, Try.results18, go_sem, f0, f1, f2, f3, g0, g1, g2]) rfl ⟨rfl, hB'⟩
noncomputable def FCPartition (xs : List UInt8) (a : Nat) : Int := (nmC 0 (nameB xs ((a : Int) + 2) ((a : Int) + 4)))
noncomputable def FAPartition (xs : List UInt8) (a : Nat) : Int := (nmA 0 0 (nameB xs ((a : Int) + 2) ((a : Int) + 4)) ((a : Int) + 2))
def DCPartition (xs : List UInt8) (a : Nat) : Int := (zeroC (zeroC 0 (dirtyV xs ((a : Int) + 3) 1)) (dirtyV xs ((a : Int) + 34) 6))
def DAPartition (xs : List UInt8) (a : Nat) : Int := (zeroA (zeroC 0 (dirtyV xs ((a : Int) + 3) 1)) (zeroA 0 0 (dirtyV xs ((a : Int) + 3) 1)) (dirtyV xs ((a : Int) + 34) 6))
noncomputable def valPartition (xs : List UInt8) (a : Nat) : Array Value := #[.int .u16 ((numV xs (a : Int) 2 : Nat) : Int), .string (nameS xs ((a : Int) + 2) ((a : Int) + 4)), .int .u64 ((numV xs ((a : Int) + 40) 8 : Nat) : Int), .int .u64 ((numV xs ((a : Int) + 48) 8 : Nat) : Int)]
noncomputable def resPartition (xs : List UInt8) (a : Nat) : Array Value := if FCPartition xs a = 0 ∧ DCPartition xs a = 0 then valPartition xs a else #[.int .u16 0, .string ⟨#[]⟩, .int .u64 0, .int .u64 0]
noncomputable def codePartition (xs : List UInt8) (a : Nat) : Int := fltC (FCPartition xs a) (DCPartition xs a)
noncomputable def placePartition (xs : List UInt8) (a : Nat) : Int := fltA (FCPartition xs a) (FAPartition xs a) (DAPartition xs a)
set_option maxRecDepth 20000 in
set_option maxHeartbeats 2000000 in
theorem GetPartition_yes (B : Nat) (A : Option Addr) (c : Nat) (xs : List UInt8) (a : Nat) (w : World) (hR : Rd w B A xs) (hB : B ≤ w.heap.size) (hc : xs.length ≤ c) (hn : c ≤ 9223372036854775807) (hl : xs.length ≤ 140737488355328)
    (hx : a + 56 ≤ xs.length) :
    Calls Try.prog 18 #[.slice A xs.length c, .int .i64 (a : Int)] w (GetOK (resPartition xs a) (codePartition xs a) (placePartition xs a) w) := by
  have HR := Lib.hid hR
  have HX := Lib.hid hx
  have HC := Lib.hid hc
  have HN := Lib.hid hn
  have HL := Lib.hid hl
  have ha : a ≤ 1000000000000000 := by omega
  clear hR hx hc hn hl
  go_enter Try.func18, Try.ntmps18
  go_wp2_with fail
  refine (open1_yes B A c xs a _ ((HR.out.alloc hB _).alloc (by simp; omega) _) (by simp; omega) HC.out HN.out HL.out HX.out).mono ?_
  rintro e w2 ⟨r, rfl, hr, hle, hb⟩
  have G := Lib.hid (GSt.start (w := w) rfl rfl hr hle hb)
  clear hr hle hb
  go_wp2_with fail
  refine ((G.out.alloc _).zero HR.out hB HC.out HN.out 3 1 (by omega) (by omega) (.inl ⟨rfl, rfl⟩)).mono ?_
  rintro e w3 ⟨rfl, g3⟩
  have G3 := Lib.hid g3
  clear g3
  go_wp2_with fail
  refine (G3.out.zero HR.out hB HC.out HN.out 34 6 (by omega) (by omega) (zeroC_clean (.inl ⟨rfl, rfl⟩))).mono ?_
  rintro e w4 ⟨rfl, g4⟩
  have G4 := Lib.hid g4
  clear g4
  go_wp2_with fail
  refine (G4.out.u16 HR.out hB HC.out HN.out 0 (by omega)).mono ?_
  rintro e w5 ⟨rfl, g5⟩
  have G5 := Lib.hid g5
  clear g5
  go_wp2_with fail
  refine (G5.out.name HR.out hB HC.out HN.out HL.out 2 4 (by have := HX.out; omega) (by omega) (.inl ⟨rfl, rfl⟩)).mono ?_
  rintro e w6 ⟨rfl, g6⟩
  have G6 := Lib.hid g6
  clear g6
  go_wp2_with fail
  refine (G6.out.u64 HR.out hB HC.out HN.out 40 (by omega)).mono ?_
  rintro e w7 ⟨rfl, g7⟩
  have G7 := Lib.hid g7
  clear g7
  go_wp2_with fail
  refine (G7.out.u64 HR.out hB HC.out HN.out 48 (by omega)).mono ?_
  rintro e w8 ⟨rfl, g8⟩
  have G8 := Lib.hid g8
  clear g8
  go_wp2_with fail
  refine (donePartition_any G8.out (nmC_clean (.inl ⟨rfl, rfl⟩)) (zeroC_clean (zeroC_clean (.inl ⟨rfl, rfl⟩))) _ _ _ _).mono ?_
  rintro e wq ⟨he, ge⟩
  obtain ⟨y0, y1, y2, y3, hy⟩ := pickPartition (FCPartition xs a = 0 ∧ DCPartition xs a = 0) ((numV xs (a : Int) 2 : Nat) : Int) (nameS xs ((a : Int) + 2) ((a : Int) + 4)) ((numV xs ((a : Int) + 40) 8 : Nat) : Int) ((numV xs ((a : Int) + 48) 8 : Nat) : Int)
  have HY : Hid (resPartition xs a = #[.int .u16 y0, .string y1, .int .u64 y2, .int .u64 y3]) := hy
  have he' : e = .returned (.tuple #[.agg #[.int .u16 y0, .string y1, .int .u64 y2, .int .u64 y3], .agg #[.int .i64 (codePartition xs a), .int .i64 0, .int .i64 (placePartition xs a)]]) := by rw [← HY.out]; exact he
  clear he hy
  generalize codePartition xs a = fq at *
  generalize placePartition xs a = fp at *
  subst he'
  have Q1 := Lib.hid ge.q1
  have Q2 := Lib.hid ge.q2
  have QB := Lib.hid ge.bel
  obtain ⟨d0, d1, d2, d3⟩ := row4_cells Q1.out
  obtain ⟨b0, b1, b2⟩ := row3_cells Q2.out
  have fz1 := row_free Q1.out
  have fz2 := row_free Q2.out
  clear ge
  go_wp2
  refine bpost_at ?_
  intro Wf hWf
  obtain ⟨H1, H2⟩ := both4_after (show w.heap.size ≠ w.heap.size + 1 by omega) Q1.out Q2.out (.int .u16 y0) (.string y1) (.int .u64 y2) (.int .u64 y3) (.int .i64 fq) (.int .i64 0) (.int .i64 fp)
  have hB := both4_below QB.out (Nat.le_refl _) (Nat.le_succ _) (.int .u16 y0) (.string y1) (.int .u64 y2) (.int .u64 y3) (.int .i64 fq) (.int .i64 0) (.int .i64 fp)
  have hB' : Below w.heap.size w Wf := by rw [hWf]; first | ((with_reducible refine below_drew ?_); exact hB) | exact hB
  have G1 : Wf.heap[w.heap.size]? = some (.cells #[.int .u16 y0, .string y1, .int .u64 y2, .int .u64 y3] 45 (0, 0)) := by rw [hWf]; first | (rw [heap_drew]; exact H1) | exact H1
  have G2 : Wf.heap[w.heap.size + 1]? = some (.cells #[.int .i64 fq, .int .i64 0, .int .i64 fp] 34 (0, 0)) := by rw [hWf]; first | (rw [heap_drew]; exact H2) | exact H2
  clear hWf H1 H2 hB
  obtain ⟨f0, f1, f2, f3⟩ := row4_cells G1
  obtain ⟨g0, g1, g2⟩ := row3_cells G2
  refine bodyPost_ret (v := .tuple #[.agg #[.int .u16 y0, .string y1, .int .u64 y2, .int .u64 y3], .agg #[.int .i64 fq, .int .i64 0, .int .i64 fp]]) (by simp [results, Try.results18, go_sem, f0, f1, f2, f3, g0, g1, g2]) rfl ⟨by rw [HY.out], hB'⟩
end Go.Proofs.Ytpeajffnhmmaeaa
