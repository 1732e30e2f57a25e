/-
  Contracts of the Get functions of package rec: Window.
-/
import Derived.Test.YtpeajffnhmmaeaaRecG
namespace Go.Proofs.Ytpeajffnhmmaeaa
set_option linter.unusedVariables false
open Go.RowKit

set_option maxRecDepth 20000 in
set_option maxHeartbeats 600000 in
theorem GetWindow_no (A : Option Addr) (n c : Nat) (a : Int) (w : World) (hn : n ≤ 9223372036854775807) (ha : -9223372036854775808 ≤ a ∧ a ≤ 9223372036854775807) (hX : exB a 24 n = false) :
    Calls Try.prog 27 #[.slice A n c, .int .i64 a] w fun e w' => e = .returned (.tuple #[.agg #[.int .u64 0, .int .u64 0, .int .u16 0], .agg #[.int .i64 8, .int .i64 0, .int .i64 a]]) ∧ Below w.heap.size w w' := by
  have H := Lib.hid (fun (w1 : World) => open2_no A n c a w1 hn ha hX)
  clear hX
  go_enter Try.func27, Try.ntmps27
  go_wp2_with fail
  refine (H.out _).mono ?_
  rintro e w2 ⟨rfl, hb⟩
  have Q1 := Lib.hid ((hb.block w.heap.size (by simp; omega)).trans (two_new w (.cells #[.int .u64 0, .int .u64 0, .int .u16 0] 58) (.cells #[.int .i64 0, .int .i64 0, .int .i64 0] 34)).1)
  have Q2 := Lib.hid ((hb.block (w.heap.size + 1) (by simp)).trans (two_new w (.cells #[.int .u64 0, .int .u64 0, .int .u16 0] 58) (.cells #[.int .i64 0, .int .i64 0, .int .i64 0] 34)).2)
  have QB := Lib.hid ((((Below.refl _ w).alloc (Nat.le_refl _) _).alloc (by simp) _).trans (hb.mono (by simp; omega)))
  have hsz := hb.size
  simp at hsz
  have t1 : ¬ w2.heap.size = w.heap.size := by omega
  have t2 : ¬ w.heap.size = w2.heap.size := by omega
  have t3 : ¬ w2.heap.size = w.heap.size + 1 := by omega
  have t4 : ¬ w.heap.size + 1 = w2.heap.size := by omega
  clear hb H hsz
  go_wp2_with fail
  have E1 := Lib.hid ((Below.heap_alloc w2 (.cells #[.int .i64 8, .int .i64 0, .int .i64 a] 34) _ (Array.getElem?_eq_some_iff.1 Q1.out).1).trans Q1.out)
  have E2 := Lib.hid ((Below.heap_alloc w2 (.cells #[.int .i64 8, .int .i64 0, .int .i64 a] 34) _ (Array.getElem?_eq_some_iff.1 Q2.out).1).trans Q2.out)
  have E3 := Lib.hid (heap_alloc_new w2 (.cells #[.int .i64 8, .int .i64 0, .int .i64 a] 34))
  have EB := Lib.hid (QB.out.alloc QB.out.size (.cells #[.int .i64 8, .int .i64 0, .int .i64 a] 34))
  clear Q1 Q2 QB
  obtain ⟨Q1, Q2, Q3, QB⟩ := And.intro E1 (And.intro E2 (And.intro E3 EB))
  clear E1 E2 E3 EB
  generalize w2.alloc (.cells #[.int .i64 8, .int .i64 0, .int .i64 a] 34) = wz at *
  obtain ⟨d0, d1, d2⟩ := row3_cells Q1.out
  obtain ⟨b0, b1, b2⟩ := row3_cells Q2.out
  obtain ⟨c0, c1, c2⟩ := row3_cells Q3.out
  have fz1 := row_free Q1.out
  have fz2 := row_free Q2.out
  go_region
  go_wp2
  refine bpost_at ?_
  intro Wf hWf
  obtain ⟨H1, H2⟩ := both3_after (show w.heap.size ≠ w.heap.size + 1 by omega) Q1.out Q2.out (.int .u64 0) (.int .u64 0) (.int .u16 0) (.int .i64 8) (.int .i64 0) (.int .i64 a)
  have hB := both3_below QB.out (Nat.le_refl _) (Nat.le_succ _) (.int .u64 0) (.int .u64 0) (.int .u16 0) (.int .i64 8) (.int .i64 0) (.int .i64 a)
  have hB' : Below w.heap.size w Wf := by rw [hWf]; first | ((with_reducible refine below_drew ?_); exact hB) | exact hB
  have G1 : Wf.heap[w.heap.size]? = some (.cells #[.int .u64 0, .int .u64 0, .int .u16 0] 58 (0, 0)) := by rw [hWf]; first | (rw [heap_drew]; exact H1) | exact H1
  have G2 : Wf.heap[w.heap.size + 1]? = some (.cells #[.int .i64 8, .int .i64 0, .int .i64 a] 34 (0, 0)) := by rw [hWf]; first | (rw [heap_drew]; exact H2) | exact H2
  clear hWf H1 H2 hB
  obtain ⟨f0, f1, f2⟩ := row3_cells G1
  obtain ⟨g0, g1, g2⟩ := row3_cells G2
  refine bodyPost_ret (v := .tuple #[.agg #[.int .u64 0, .int .u64 0, .int .u16 0], .agg #[.int .i64 8, .int .i64 0, .int .i64 a]]) (by simp [results, Try.results27, go_sem, f0, f1, f2, g0, g1, g2]) rfl ⟨rfl, hB'⟩
def FCWindow (xs : List UInt8) (a : Nat) : Int := 0
def FAWindow (xs : List UInt8) (a : Nat) : Int := 0
def DCWindow (xs : List UInt8) (a : Nat) : Int := (zeroC 0 (dirtyV xs ((a : Int) + 18) 6))
def DAWindow (xs : List UInt8) (a : Nat) : Int := (zeroA 0 0 (dirtyV xs ((a : Int) + 18) 6))
def valWindow (xs : List UInt8) (a : Nat) : Array Value := #[.int .u64 ((numV xs (a : Int) 8 : Nat) : Int), .int .u64 ((numV xs ((a : Int) + 8) 8 : Nat) : Int), .int .u16 ((numV xs ((a : Int) + 16) 2 : Nat) : Int)]
def resWindow (xs : List UInt8) (a : Nat) : Array Value := if FCWindow xs a = 0 ∧ DCWindow xs a = 0 then valWindow xs a else #[.int .u64 0, .int .u64 0, .int .u16 0]
def codeWindow (xs : List UInt8) (a : Nat) : Int := fltC (FCWindow xs a) (DCWindow xs a)
def placeWindow (xs : List UInt8) (a : Nat) : Int := fltA (FCWindow xs a) (FAWindow xs a) (DAWindow xs a)
set_option maxRecDepth 20000 in
set_option maxHeartbeats 2000000 in
theorem GetWindow_yes (B : Nat) (A : Option Addr) (c : Nat) (xs : List UInt8) (a : Nat) (w : World) (hR : Rd w B A xs) (hB : B ≤ w.heap.size) (hc : xs.length ≤ c) (hn : c ≤ 9223372036854775807) (hl : xs.length ≤ 140737488355328)
    (hx : a + 24 ≤ xs.length) :
    Calls Try.prog 27 #[.slice A xs.length c, .int .i64 (a : Int)] w (GetOK (resWindow xs a) (codeWindow xs a) (placeWindow xs a) w) := by
  have HR := Lib.hid hR
  have HX := Lib.hid hx
  have HC := Lib.hid hc
  have HN := Lib.hid hn
  have HL := Lib.hid hl
  have ha : a ≤ 1000000000000000 := by omega
  clear hR hx hc hn hl
  go_enter Try.func27, Try.ntmps27
  go_wp2_with fail
  refine (open2_yes B A c xs a _ ((HR.out.alloc hB _).alloc (by simp; omega) _) (by simp; omega) HC.out HN.out HL.out HX.out).mono ?_
  rintro e w2 ⟨r, rfl, hr, hle, hb⟩
  have G := Lib.hid (GSt.start (w := w) rfl rfl hr hle hb)
  clear hr hle hb
  go_wp2_with fail
  refine ((G.out.alloc _).zero HR.out hB HC.out HN.out 18 6 (by omega) (by omega) (.inl ⟨rfl, rfl⟩)).mono ?_
  rintro e w3 ⟨rfl, g3⟩
  have G3 := Lib.hid g3
  clear g3
  go_wp2_with fail
  refine (G3.out.u64 HR.out hB HC.out HN.out 0 (by omega)).mono ?_
  rintro e w4 ⟨rfl, g4⟩
  have G4 := Lib.hid g4
  clear g4
  go_wp2_with fail
  refine (G4.out.u64 HR.out hB HC.out HN.out 8 (by omega)).mono ?_
  rintro e w5 ⟨rfl, g5⟩
  have G5 := Lib.hid g5
  clear g5
  go_wp2_with fail
  refine (G5.out.u16 HR.out hB HC.out HN.out 16 (by omega)).mono ?_
  rintro e w6 ⟨rfl, g6⟩
  have G6 := Lib.hid g6
  clear g6
  go_wp2_with fail
  refine (doneWindow_any G6.out (.inl ⟨rfl, rfl⟩) (zeroC_clean (.inl ⟨rfl, rfl⟩)) _ _ _).mono ?_
  rintro e wq ⟨he, ge⟩
  obtain ⟨y0, y1, y2, hy⟩ := pickWindow (FCWindow xs a = 0 ∧ DCWindow xs a = 0) ((numV xs (a : Int) 8 : Nat) : Int) ((numV xs ((a : Int) + 8) 8 : Nat) : Int) ((numV xs ((a : Int) + 16) 2 : Nat) : Int)
  have HY : Hid (resWindow xs a = #[.int .u64 y0, .int .u64 y1, .int .u16 y2]) := hy
  have he' : e = .returned (.tuple #[.agg #[.int .u64 y0, .int .u64 y1, .int .u16 y2], .agg #[.int .i64 (codeWindow xs a), .int .i64 0, .int .i64 (placeWindow xs a)]]) := by rw [← HY.out]; exact he
  clear he hy
  generalize codeWindow xs a = fq at *
  generalize placeWindow xs a = fp at *
  subst he'
  have Q1 := Lib.hid ge.q1
  have Q2 := Lib.hid ge.q2
  have QB := Lib.hid ge.bel
  obtain ⟨d0, d1, d2⟩ := row3_cells Q1.out
  obtain ⟨b0, b1, b2⟩ := row3_cells Q2.out
  have fz1 := row_free Q1.out
  have fz2 := row_free Q2.out
  clear ge
  go_wp2
  refine bpost_at ?_
  intro Wf hWf
  obtain ⟨H1, H2⟩ := both3_after (show w.heap.size ≠ w.heap.size + 1 by omega) Q1.out Q2.out (.int .u64 y0) (.int .u64 y1) (.int .u16 y2) (.int .i64 fq) (.int .i64 0) (.int .i64 fp)
  have hB := both3_below QB.out (Nat.le_refl _) (Nat.le_succ _) (.int .u64 y0) (.int .u64 y1) (.int .u16 y2) (.int .i64 fq) (.int .i64 0) (.int .i64 fp)
  have hB' : Below w.heap.size w Wf := by rw [hWf]; first | ((with_reducible refine below_drew ?_); exact hB) | exact hB
  have G1 : Wf.heap[w.heap.size]? = some (.cells #[.int .u64 y0, .int .u64 y1, .int .u16 y2] 58 (0, 0)) := by rw [hWf]; first | (rw [heap_drew]; exact H1) | exact H1
  have G2 : Wf.heap[w.heap.size + 1]? = some (.cells #[.int .i64 fq, .int .i64 0, .int .i64 fp] 34 (0, 0)) := by rw [hWf]; first | (rw [heap_drew]; exact H2) | exact H2
  clear hWf H1 H2 hB
  obtain ⟨f0, f1, f2⟩ := row3_cells G1
  obtain ⟨g0, g1, g2⟩ := row3_cells G2
  refine bodyPost_ret (v := .tuple #[.agg #[.int .u64 y0, .int .u64 y1, .int .u16 y2], .agg #[.int .i64 fq, .int .i64 0, .int .i64 fp]]) (by simp [results, Try.results27, go_sem, f0, f1, f2, g0, g1, g2]) rfl ⟨by rw [HY.out], hB'⟩
end Go.Proofs.Ytpeajffnhmmaeaa
