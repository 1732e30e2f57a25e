/-
  Contract of rec.GetLink, at a clean record.
-/
import Derived.Test.YtpeajffnhmmaeaaRec4
namespace Go.Proofs.Ytpeajffnhmmaeaa
set_option linter.unusedVariables false
open Go.RowKit

theorem Rdr.alloc {w : World} {r n c : Nat} {A : Option Addr} {a fc fa dc da : Int} (h : Rdr w r A n c a fc fa dc da) (o : Obj) : Rdr (w.alloc o) r A n c a fc fa dc da := h.below ((Below.refl _ w).alloc (Nat.le_refl _) o)

theorem two_new (w : World) (o1 o2 : Obj) : ((w.alloc o1).alloc o2).heap[w.heap.size]? = some o1 ∧ ((w.alloc o1).alloc o2).heap[w.heap.size + 1]? = some o2 := by
  refine ⟨(Below.heap_alloc _ _ _ (by simp)).trans (heap_alloc_new w _), ?_⟩
  have h := heap_alloc_new (w.alloc o1) o2
  simpa using h
theorem two_cells {w : World} {q ty : Nat} {x y : Value} (hq : w.heap[q]? = some (.cells #[x, y] ty (0, 0))) :
    w.cell? ⟨q, 0, none⟩ = some x ∧ w.cell? ⟨q, 1, none⟩ = some y := by
  refine ⟨?_, ?_⟩ <;> (rw [cell_of_row w q _ _ _ (0, 0) hq]; rfl)
theorem row_free {w : World} {q ty : Nat} {cs : Array Value} (hq : w.heap[q]? = some (.cells cs ty (0, 0))) (k : Nat) : w.frozen? ⟨q, k, none⟩ = false := by simp [World.frozen?, hq]

theorem pair_after {w : World} {q ty tz : Nat} {a b c d e : Value} (h1 : w.heap[q]? = some (.cells #[a, b] ty (0, 0))) (h2 : w.heap[q + 1]? = some (.cells #[c, d, e] tz (0, 0))) (x y z u v : Value) :
    (((((w.setCell ⟨q, 0, none⟩ x).setCell ⟨q, 1, none⟩ y).setCell ⟨q + 1, 0, none⟩ z).setCell ⟨q + 1, 1, none⟩ u).setCell ⟨q + 1, 2, none⟩ v).heap[q]? = some (.cells #[x, y] ty (0, 0)) ∧
    (((((w.setCell ⟨q, 0, none⟩ x).setCell ⟨q, 1, none⟩ y).setCell ⟨q + 1, 0, none⟩ z).setCell ⟨q + 1, 1, none⟩ u).setCell ⟨q + 1, 2, none⟩ v).heap[q + 1]? = some (.cells #[z, u, v] tz (0, 0)) := by
  constructor <;> simp [World.setCell, Array.getElem?_modify, h1, h2]

set_option maxRecDepth 20000 in
set_option maxHeartbeats 400000 in
theorem GetLink_ok (B : Nat) (A : Option Addr) (c : Nat) (xs : List UInt8) (a : Nat) (w : World) (hR : Rd w B A xs) (hB : B ≤ w.heap.size) (hc : xs.length ≤ c) (hn : c ≤ 9223372036854775807) (hl : xs.length ≤ 140737488355328)
    (hx : a + 8 ≤ xs.length) (hz : dirtyV xs ((a : Int) + 4) 4 < 0) :
    Calls Try.prog 29 #[.slice A xs.length c, .int .i64 (a : Int)] w fun e w' =>
      e = .returned (.tuple #[.agg #[.int .u16 (numV xs (a : Int) 2 : Nat), .int .u16 (numV xs ((a : Int) + 2) 2 : Nat)], .agg #[.int .i64 0, .int .i64 0, .int .i64 0]]) ∧ Below w.heap.size w w' := by
  have HR := Lib.hid hR
  have HX := Lib.hid hx
  have HC := Lib.hid hc
  have HN := Lib.hid hn
  have HL := Lib.hid hl
  have HZ := Lib.hid hz
  clear hR hx hc hn hz hl
  go_enter Try.func29, Try.ntmps29
  go_wp2_with fail
  refine (open6_yes B A c xs a _ ((HR.out.alloc hB _).alloc (by simp; omega) _) (by simp; omega) HC.out HN.out HL.out HX.out).mono ?_
  rintro e w2 ⟨r, rfl, hr, hle, hb⟩
  have hle2 : w.heap.size + 2 ≤ r := by simpa using hle
  have hq1 := (hb.block w.heap.size (by simp; omega)).trans (two_new w _ _).1
  have hq2 := (hb.block (w.heap.size + 1) (by simp)).trans (two_new w _ _).2
  have hlt := hr.lt
  have hbw : Below w.heap.size w w2 := (((Below.refl _ w).alloc (Nat.le_refl _) _).alloc (by simp) _).trans (hb.mono (by simp; omega))
  have HR2 := Lib.hid hr
  have Q1 := Lib.hid hq1
  have Q2 := Lib.hid hq2
  have HB2 := Lib.hid hbw
  clear hr hq1 hq2 hb hbw hle
  go_wp2_with fail
  have hR2 := (HR.out.after hB HB2.out)
  refine (zero_any B A c xs a 4 4 0 0 0 0 r _ (HR2.out.alloc _) (hR2.alloc (by omega) _) HC.out HN.out (by have := HL.out; have := HX.out; omega) (by omega) (.inl ⟨rfl, rfl⟩)).mono ?_
  rintro e w3 ⟨rfl, hr3, hch⟩
  rw [show zeroC 0 (dirtyV xs ((a : Int) + 4) 4) = 0 from by have := HZ.out; unfold zeroC; rw [if_neg (by omega)], show zeroA 0 0 (dirtyV xs ((a : Int) + 4) 4) = 0 from by have := HZ.out; unfold zeroA; rw [if_neg (by omega)]] at hr3
  have Q31 := Lib.hid ((hch.block w.heap.size (by simp; omega) (by omega)).trans ((Below.heap_alloc _ _ _ (by omega)).trans Q1.out))
  have Q32 := Lib.hid ((hch.block (w.heap.size + 1) (by simp; omega) (by omega)).trans ((Below.heap_alloc _ _ _ (by omega)).trans Q2.out))
  have HB3 := Lib.hid ((HB2.out.alloc HB2.out.size _).trans (hch.below (B := w.heap.size) (fun k e => by omega) (by simp; omega)))
  have hR3 := HR.out.after hB HB3.out
  have HR3 := Lib.hid hr3
  have hs3 := hch.size
  simp at hs3
  clear hch hr3 Q1 Q2 HB2 HR2 hR2
  go_wp2_with fail
  refine (rd_u16 B A c xs a 0 0 0 0 0 r _ HR3.out hR3 HC.out HN.out (by have := HL.out; have := HX.out; omega)).mono ?_
  rintro e w4 ⟨rfl, d4, rfl⟩
  go_wp2_with fail
  refine (rd_u16 B A c xs a 2 0 0 0 0 r _ (HR3.out.drewN d4) hR3 HC.out HN.out (by have := HL.out; have := HX.out; omega)).mono ?_
  rintro e w5 ⟨rfl, d5, rfl⟩
  go_wp2_with fail
  refine (doneLink_ok A _ c a r _ (HR3.out.drewN (d4 + d5)) _ _).mono ?_
  rintro e w6 ⟨rfl, hb6⟩
  have Q61 := Lib.hid ((hb6.block w.heap.size (show w.heap.size < w3.heap.size by omega)).trans Q31.out)
  have Q62 := Lib.hid ((hb6.block (w.heap.size + 1) (show w.heap.size + 1 < w3.heap.size by omega)).trans Q32.out)
  have HB6 := Lib.hid ((show Below w.heap.size w (w3.drewN (d4 + d5)) from ⟨HB3.out.os, HB3.out.tape, HB3.out.output, HB3.out.size, HB3.out.block⟩).trans (hb6.mono (show w.heap.size ≤ w3.heap.size by omega)))
  obtain ⟨a1, a2⟩ := two_cells Q61.out
  obtain ⟨b1, b2, b3⟩ := three_cells Q62.out
  have f1 := row_free Q61.out
  have f2 := row_free Q62.out
  clear hb6 Q31 Q32 HB3 hR3
  go_wp2
  obtain ⟨H1, H2⟩ := pair_after Q61.out Q62.out (.int .u16 (numV xs (a : Int) 2 : Nat)) (.int .u16 (numV xs ((a : Int) + 2) 2 : Nat)) (.int .i64 0) (.int .i64 0) (.int .i64 0)
  obtain ⟨y1, y2⟩ := two_cells H1
  obtain ⟨z1, z2, z3⟩ := three_cells H2
  refine bodyPost_ret (v := .tuple #[.agg #[.int .u16 (numV xs (a : Int) 2 : Nat), .int .u16 (numV xs ((a : Int) + 2) 2 : Nat)], .agg #[.int .i64 0, .int .i64 0, .int .i64 0]]) (by simp [results, Try.results29, go_sem, y1, y2, z1, z2, z3]) rfl ⟨rfl, ?_⟩
  exact ((((HB6.out.setCell (Nat.le_refl _) _).setCell (Nat.le_refl _) _).setCell (Nat.le_succ _) _).setCell (Nat.le_succ _) _).setCell (Nat.le_succ _) _
end Go.Proofs.Ytpeajffnhmmaeaa
