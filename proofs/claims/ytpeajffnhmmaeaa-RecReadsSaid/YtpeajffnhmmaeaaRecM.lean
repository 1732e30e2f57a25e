/-
  Contracts of the Get functions of package rec: Port.
-/
import Derived.Test.YtpeajffnhmmaeaaRecL
import Derived.Test.YtpeajffnhmmaeaaRecE
namespace Go.Proofs.Ytpeajffnhmmaeaa
set_option linter.unusedVariables false
open Go.RowKit

theorem GSt.set_ {w wi : World} {Z : Array Value} {ty r n c : Nat} {A : Option Addr} {a fc fa dc da : Int} (h : GSt w wi Z ty r A n c a fc fa dc da) (p : Addr) (v : Value) (h1 : p.block ≠ r) (h2 : w.heap.size + 2 ≤ p.block) : GSt w (wi.setCell p v) Z ty r A n c a fc fa dc da :=
  ⟨⟨(Below.heap_setCell _ _ _ _ (fun e => h1 e.symm)).trans h.rd.obj⟩, (Below.heap_setCell _ _ _ _ (by omega)).trans h.q1, (Below.heap_setCell _ _ _ _ (by omega)).trans h.q2, h.bel.setCell (by omega) v, h.far⟩
set_option maxRecDepth 20000 in
set_option maxHeartbeats 1000000 in
theorem GetPort_no (A : Option Addr) (n c : Nat) (a : Int) (w : World) (hn : n ≤ 9223372036854775807) (ha : -9223372036854775808 ≤ a ∧ a ≤ 9223372036854775807) (hX : exB a 48 n = false) :
    Calls Try.prog 13 #[.slice A n c, .int .i64 a] w fun e w' => e = .returned (.tuple #[.agg #[.int .u16 0, .int .u16 0, .string ⟨#[]⟩, .bool false, .bool false, .int .u32 0], .agg #[.int .i64 8, .int .i64 0, .int .i64 a]]) ∧ Below w.heap.size w w' := by
  have H := Lib.hid (fun (w1 : World) => open4_no A n c a w1 hn ha hX)
  clear hX
  go_enter Try.func13, Try.ntmps13
  go_wp2_with fail
  refine (H.out _).mono ?_
  rintro e w2 ⟨rfl, hb⟩
  have Q1 := Lib.hid ((hb.block w.heap.size (by simp; omega)).trans (two_new w (.cells #[.int .u16 0, .int .u16 0, .string ⟨#[]⟩, .bool false, .bool false, .int .u32 0] 26) (.cells #[.int .i64 0, .int .i64 0, .int .i64 0] 34)).1)
  have Q2 := Lib.hid ((hb.block (w.heap.size + 1) (by simp)).trans (two_new w (.cells #[.int .u16 0, .int .u16 0, .string ⟨#[]⟩, .bool false, .bool false, .int .u32 0] 26) (.cells #[.int .i64 0, .int .i64 0, .int .i64 0] 34)).2)
  have QB := Lib.hid ((((Below.refl _ w).alloc (Nat.le_refl _) _).alloc (by simp) _).trans (hb.mono (by simp; omega)))
  have hsz := hb.size
  simp at hsz
  have t1 : ¬ w2.heap.size = w.heap.size := by omega
  have t2 : ¬ w.heap.size = w2.heap.size := by omega
  have t3 : ¬ w2.heap.size = w.heap.size + 1 := by omega
  have t4 : ¬ w.heap.size + 1 = w2.heap.size := by omega
  clear hb H hsz
  go_wp2_with fail
  have E1 := Lib.hid ((Below.heap_alloc w2 (.cells #[.int .i64 8, .int .i64 0, .int .i64 a] 34) _ (Array.getElem?_eq_some_iff.1 Q1.out).1).trans Q1.out)
  have E2 := Lib.hid ((Below.heap_alloc w2 (.cells #[.int .i64 8, .int .i64 0, .int .i64 a] 34) _ (Array.getElem?_eq_some_iff.1 Q2.out).1).trans Q2.out)
  have E3 := Lib.hid (heap_alloc_new w2 (.cells #[.int .i64 8, .int .i64 0, .int .i64 a] 34))
  have EB := Lib.hid (QB.out.alloc QB.out.size (.cells #[.int .i64 8, .int .i64 0, .int .i64 a] 34))
  clear Q1 Q2 QB
  obtain ⟨Q1, Q2, Q3, QB⟩ := And.intro E1 (And.intro E2 (And.intro E3 EB))
  clear E1 E2 E3 EB
  generalize w2.alloc (.cells #[.int .i64 8, .int .i64 0, .int .i64 a] 34) = wz at *
  obtain ⟨d0, d1, d2, d3, d4, d5⟩ := row6_cells Q1.out
  obtain ⟨b0, b1, b2⟩ := row3_cells Q2.out
  obtain ⟨c0, c1, c2⟩ := row3_cells Q3.out
  have fz1 := row_free Q1.out
  have fz2 := row_free Q2.out
  go_region
  go_wp2
  refine bpost_at ?_
  intro Wf hWf
  obtain ⟨H1, H2⟩ := both6_after (show w.heap.size ≠ w.heap.size + 1 by omega) Q1.out Q2.out (.int .u16 0) (.int .u16 0) (.string ⟨#[]⟩) (.bool false) (.bool false) (.int .u32 0) (.int .i64 8) (.int .i64 0) (.int .i64 a)
  have hB := both6_below QB.out (Nat.le_refl _) (Nat.le_succ _) (.int .u16 0) (.int .u16 0) (.string ⟨#[]⟩) (.bool false) (.bool false) (.int .u32 0) (.int .i64 8) (.int .i64 0) (.int .i64 a)
  have hB' : Below w.heap.size w Wf := by rw [hWf]; first | ((with_reducible refine below_drew ?_); exact hB) | exact hB
  have G1 : Wf.heap[w.heap.size]? = some (.cells #[.int .u16 0, .int .u16 0, .string ⟨#[]⟩, .bool false, .bool false, .int .u32 0] 26 (0, 0)) := by rw [hWf]; first | (rw [heap_drew]; exact H1) | exact H1
  have G2 : Wf.heap[w.heap.size + 1]? = some (.cells #[.int .i64 8, .int .i64 0, .int .i64 a] 34 (0, 0)) := by rw [hWf]; first | (rw [heap_drew]; exact H2) | exact H2
  clear hWf H1 H2 hB
  obtain ⟨f0, f1, f2, f3, f4, f5⟩ := row6_cells G1
  obtain ⟨g0, g1, g2⟩ := row3_cells G2
  refine bodyPost_ret (v := .tuple #[.agg #[.int .u16 0, .int .u16 0, .string ⟨#[]⟩, .bool false, .bool false, .int .u32 0], .agg #[.int .i64 8, .int .i64 0, .int .i64 a]]) (by simp [results, Try.results13, go_sem, f0, f1, f2, f3, f4, f5, g0, g1, g2]) rfl ⟨rfl, hB'⟩
noncomputable def FCPort (xs : List UInt8) (a : Nat) : Int := (mstC (nmC 0 (nameB xs ((a : Int) + 4) ((a : Int) + 12))) ((numV xs ((a : Int) + 5) 1 : Nat) : Int) 3)
noncomputable def FAPort (xs : List UInt8) (a : Nat) : Int := (mstA (nmC 0 (nameB xs ((a : Int) + 4) ((a : Int) + 12))) (nmA 0 0 (nameB xs ((a : Int) + 4) ((a : Int) + 12)) ((a : Int) + 4)) ((numV xs ((a : Int) + 5) 1 : Nat) : Int) 3 ((a : Int) + 5))
def DCPort (xs : List UInt8) (a : Nat) : Int := (zeroC (zeroC 0 (dirtyV xs ((a : Int) + 6) 2)) (dirtyV xs ((a : Int) + 42) 6))
def DAPort (xs : List UInt8) (a : Nat) : Int := (zeroA (zeroC 0 (dirtyV xs ((a : Int) + 6) 2)) (zeroA 0 0 (dirtyV xs ((a : Int) + 6) 2)) (dirtyV xs ((a : Int) + 42) 6))
noncomputable def valPort (xs : List UInt8) (a : Nat) : Array Value := #[.int .u16 ((numV xs (a : Int) 2 : Nat) : Int), .int .u16 ((numV xs ((a : Int) + 2) 2 : Nat) : Int), .string (nameS xs ((a : Int) + 4) ((a : Int) + 12)), .bool (bits .and .u8 ((numV xs ((a : Int) + 5) 1 : Nat) : Int) 1 != 0), .bool (bits .and .u8 ((numV xs ((a : Int) + 5) 1 : Nat) : Int) 2 != 0), .int .u32 ((numV xs ((a : Int) + 8) 4 : Nat) : Int)]
noncomputable def resPort (xs : List UInt8) (a : Nat) : Array Value := if FCPort xs a = 0 ∧ DCPort xs a = 0 then valPort xs a else #[.int .u16 0, .int .u16 0, .string ⟨#[]⟩, .bool false, .bool false, .int .u32 0]
noncomputable def codePort (xs : List UInt8) (a : Nat) : Int := fltC (FCPort xs a) (DCPort xs a)
noncomputable def placePort (xs : List UInt8) (a : Nat) : Int := fltA (FCPort xs a) (FAPort xs a) (DAPort xs a)
set_option maxRecDepth 20000 in
set_option maxHeartbeats 2000000 in
theorem GetPort_yes (B : Nat) (A : Option Addr) (c : Nat) (xs : List UInt8) (a : Nat) (w : World) (hR : Rd w B A xs) (hB : B ≤ w.heap.size) (hc : xs.length ≤ c) (hn : c ≤ 9223372036854775807) (hl : xs.length ≤ 140737488355328)
    (hx : a + 48 ≤ xs.length) :
    Calls Try.prog 13 #[.slice A xs.length c, .int .i64 (a : Int)] w (GetOK (resPort xs a) (codePort xs a) (placePort xs a) w) := by
  have HR := Lib.hid hR
  have HX := Lib.hid hx
  have HC := Lib.hid hc
  have HN := Lib.hid hn
  have HL := Lib.hid hl
  have ha : a ≤ 1000000000000000 := by omega
  clear hR hx hc hn hl
  go_enter Try.func13, Try.ntmps13
  go_wp2_with fail
  refine (open4_yes B A c xs a _ ((HR.out.alloc hB _).alloc (by simp; omega) _) (by simp; omega) HC.out HN.out HL.out HX.out).mono ?_
  rintro e w2 ⟨r, rfl, hr, hle, hb⟩
  have G := Lib.hid (GSt.start (w := w) rfl rfl hr hle hb)
  clear hr hle hb
  go_wp2_with fail
  refine ((G.out.alloc _).zero HR.out hB HC.out HN.out 6 2 (by omega) (by omega) (.inl ⟨rfl, rfl⟩)).mono ?_
  rintro e w3 ⟨rfl, g3⟩
  have G3 := Lib.hid g3
  clear g3
  go_wp2_with fail
  refine (G3.out.zero HR.out hB HC.out HN.out 42 6 (by omega) (by omega) (zeroC_clean (.inl ⟨rfl, rfl⟩))).mono ?_
  rintro e w4 ⟨rfl, g4⟩
  have G4 := Lib.hid g4
  clear g4
  go_wp2_with fail
  refine (G4.out.u16 HR.out hB HC.out HN.out 0 (by omega)).mono ?_
  rintro e w5 ⟨rfl, g5⟩
  have G5 := Lib.hid g5
  clear g5
  go_wp2_with fail
  refine (G5.out.u16 HR.out hB HC.out HN.out 2 (by omega)).mono ?_
  rintro e w6 ⟨rfl, g6⟩
  have G6 := Lib.hid g6
  clear g6
  go_wp2_with fail
  refine (G6.out.name HR.out hB HC.out HN.out HL.out 4 12 (by have := HX.out; omega) (by omega) (.inl ⟨rfl, rfl⟩)).mono ?_
  rintro e w7 ⟨rfl, g7⟩
  have G7 := Lib.hid g7
  clear g7
  go_wp2_with fail
  refine (G7.out.u32 HR.out hB HC.out HN.out 8 (by omega)).mono ?_
  rintro e w8 ⟨rfl, g8⟩
  have G8 := Lib.hid g8
  clear g8
  go_wp2_with fail
  have hrt := G8.out.rd.lt
  have hfar := G8.out.far
  obtain ⟨t8, ht8⟩ : ∃ t8, t8 = w8.heap.size := ⟨_, rfl⟩
  have hne : t8 ≠ r := by omega
  have hbg : w.heap.size + 2 ≤ t8 := by have := G8.out.lt; omega
  have hM := fun o => most_any B A c xs a 5 _ _ _ _ 3 r _ (G8.out.alloc o).rd (HR.out.after hB (G8.out.alloc o).bel) HC.out HN.out (by omega) (nmC_clean (.inl ⟨rfl, rfl⟩))
  have HM := Lib.hid hM
  have HG := Lib.hid (fun o => G8.out.alloc o)
  have HNW := Lib.hid (fun o => heap_alloc_new w8 o)
  rw [← ht8] at HNW
  clear hM
  refine (HM.out _).mono ?_
  rintro e w20 ⟨rfl, hr20, hc20⟩
  have row := Lib.hid (hc20.obj (HNW.out _) hne)
  have G20 := Lib.hid ((HG.out _).chg hr20 hc20)
  obtain ⟨p0, p1, p2, p3, p4, p5⟩ := row6_cells row.out
  have pf := row_free row.out
  clear hr20 hc20 HM HG HNW
  rw [← ht8]
  clear ht8
  go_wp2_with fail
  refine (donePort_any ((G20.out.set_ ⟨t8, 3, none⟩ _ hne hbg).set_ ⟨t8, 4, none⟩ _ hne hbg) (mstC_clean (nmC_clean (.inl ⟨rfl, rfl⟩))) (zeroC_clean (zeroC_clean (.inl ⟨rfl, rfl⟩))) _ _ _ _ _ _).mono ?_
  rintro e wq ⟨he, ge⟩
  obtain ⟨y0, y1, y2, y3, y4, y5, hy⟩ := pickPort (FCPort xs a = 0 ∧ DCPort xs a = 0) ((numV xs (a : Int) 2 : Nat) : Int) ((numV xs ((a : Int) + 2) 2 : Nat) : Int) (nameS xs ((a : Int) + 4) ((a : Int) + 12)) (bits .and .u8 ((numV xs ((a : Int) + 5) 1 : Nat) : Int) 1 != 0) (bits .and .u8 ((numV xs ((a : Int) + 5) 1 : Nat) : Int) 2 != 0) ((numV xs ((a : Int) + 8) 4 : Nat) : Int)
  have HY : Hid (resPort xs a = #[.int .u16 y0, .int .u16 y1, .string y2, .bool y3, .bool y4, .int .u32 y5]) := hy
  have he' : e = .returned (.tuple #[.agg #[.int .u16 y0, .int .u16 y1, .string y2, .bool y3, .bool y4, .int .u32 y5], .agg #[.int .i64 (codePort xs a), .int .i64 0, .int .i64 (placePort xs a)]]) := by rw [← HY.out]; exact he
  clear he hy
  generalize codePort xs a = fq at *
  generalize placePort xs a = fp at *
  subst he'
  have Q1 := Lib.hid ge.q1
  have Q2 := Lib.hid ge.q2
  have QB := Lib.hid ge.bel
  obtain ⟨d0, d1, d2, d3, d4, d5⟩ := row6_cells Q1.out
  obtain ⟨b0, b1, b2⟩ := row3_cells Q2.out
  have fz1 := row_free Q1.out
  have fz2 := row_free Q2.out
  clear ge
  go_wp2
  refine bpost_at ?_
  intro Wf hWf
  obtain ⟨H1, H2⟩ := both6_after (show w.heap.size ≠ w.heap.size + 1 by omega) Q1.out Q2.out (.int .u16 y0) (.int .u16 y1) (.string y2) (.bool y3) (.bool y4) (.int .u32 y5) (.int .i64 fq) (.int .i64 0) (.int .i64 fp)
  have hB := both6_below QB.out (Nat.le_refl _) (Nat.le_succ _) (.int .u16 y0) (.int .u16 y1) (.string y2) (.bool y3) (.bool y4) (.int .u32 y5) (.int .i64 fq) (.int .i64 0) (.int .i64 fp)
  have hB' : Below w.heap.size w Wf := by rw [hWf]; first | ((with_reducible refine below_drew ?_); exact hB) | exact hB
  have G1 : Wf.heap[w.heap.size]? = some (.cells #[.int .u16 y0, .int .u16 y1, .string y2, .bool y3, .bool y4, .int .u32 y5] 26 (0, 0)) := by rw [hWf]; first | (rw [heap_drew]; exact H1) | exact H1
  have G2 : Wf.heap[w.heap.size + 1]? = some (.cells #[.int .i64 fq, .int .i64 0, .int .i64 fp] 34 (0, 0)) := by rw [hWf]; first | (rw [heap_drew]; exact H2) | exact H2
  clear hWf H1 H2 hB
  obtain ⟨f0, f1, f2, f3, f4, f5⟩ := row6_cells G1
  obtain ⟨g0, g1, g2⟩ := row3_cells G2
  refine bodyPost_ret (v := .tuple #[.agg #[.int .u16 y0, .int .u16 y1, .string y2, .bool y3, .bool y4, .int .u32 y5], .agg #[.int .i64 fq, .int .i64 0, .int .i64 fp]]) (by simp [results, Try.results13, go_sem, f0, f1, f2, f3, f4, f5, g0, g1, g2]) rfl ⟨by rw [HY.out], hB'⟩
end Go.Proofs.Ytpeajffnhmmaeaa
