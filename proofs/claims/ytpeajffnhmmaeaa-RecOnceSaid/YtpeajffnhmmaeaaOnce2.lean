/-
  The Get functions at offset 0: a fault, or a record that is written back to its bytes; the slice up to an index.
-/
import Derived.Test.YtpeajffnhmmaeaaOnce1
import Derived.Test.YtpeajffnhmmaeaaNmSt
namespace Go.Proofs.Ytpeajffnhmmaeaa
set_option linter.unusedVariables false
open Go.RowKit

theorem exec_upto {P : Program} {o : Oper} {a : Act} {w : World} (x h : Operand) (T : TypeId) (hop : o.op = .slice T x none (some h) none) (hT : P.underlying T = some (.slice (P.elem T))) (hsz : (P.info? (P.elem T)).map (·.size) = some 1)
    (A : Option Addr) (n c hn : Nat) (hx : a.eval x = .slice A n c) (hh : a.eval h = .int .i64 (hn : Int)) (h2 : hn ≤ c) : (execOp a.eval o).run P w = .ok (.value (.slice A hn c)) w := by
  have hs := size_of_info hsz w
  simp only [execOp, hop, Option.map_some, Option.map_none, hx, hh, Sem.run_bind, Sem.run_pure, run_sliceAt_slice (P := P) (w := w) T _ _ _ _ hT, run_slice_h (P := P) (w := w) T A n c hT .i64 hn (by omega) (by omega), hs, Result.andThen, sliced, Int.toNat_natCast, Nat.mul_one, Nat.sub_zero, map_add_zero, ite_self]

def OncePartition (w : World) (xs : List UInt8) (e : Ending) (w' : World) : Prop := Below w.heap.size w w' ∧
  ((∃ (y0 : Int) (y1 : ByteArray) (y2 y3 : Int) (fc fa : Int), fc ≠ 0 ∧ e = .returned (.tuple #[.agg #[.int .u16 y0, .string y1, .int .u64 y2, .int .u64 y3], .agg #[.int .i64 fc, .int .i64 0, .int .i64 fa]])) ∨
   (∃ (x : Nat) (s : ByteArray) (p d : Nat), e = .returned (.tuple #[.agg #[.int .u16 (x : Int), .string s, .int .u64 (p : Int), .int .u64 (d : Int)], .agg #[.int .i64 0, .int .i64 0, .int .i64 0]]) ∧ 56 ≤ xs.length ∧ x < 65536 ∧ vldP s ∧ p < 18446744073709551616 ∧ d < 18446744073709551616 ∧ partB x s p d = xs.take 56))
theorem place0_part (xs : List UInt8) (hc : codePartition xs 0 = 0) : placePartition xs 0 = 0 := by
  obtain ⟨hF, hD⟩ := flt0 (show fltC _ _ = 0 from hc)
  obtain ⟨hD1, hd2⟩ := zero14 (show zeroC _ _ = 0 from hD)
  obtain ⟨_, hd1⟩ := zero14 (show zeroC _ _ = 0 from hD1)
  show fltA _ _ _ = 0
  unfold fltA
  rw [if_pos hF]
  show zeroA _ (zeroA 0 0 _) _ = 0
  unfold zeroA
  rw [if_neg (fun h => hd2 h.2), if_neg (fun h => hd1 h.2)]
theorem GetPartition_all (A : Option Addr) (c : Nat) (xs : List UInt8) (w : World) (hR : Rd w w.heap.size A xs) (hc : xs.length ≤ c) (hn : c ≤ 9223372036854775807) (hl : xs.length ≤ 500) :
    Calls Try.prog 18 #[.slice A xs.length c, .int .i64 0] w (OncePartition w xs) := by
  by_cases h : 56 ≤ xs.length
  · refine (GetPartition_yes w.heap.size A c xs 0 w hR (Nat.le_refl _) hc hn (by omega) (by omega)).mono ?_
    rintro e w' ⟨he, hb⟩
    refine ⟨hb, ?_⟩
    by_cases h0 : codePartition xs 0 = 0
    · obtain ⟨x, s, p, d, hr, g0, g1, g2, g3, g4⟩ := back_part xs h h0
      rw [hr, h0, place0_part xs h0] at he
      exact .inr ⟨x, s, p, d, he, h, g0, g1, g2, g3, g4⟩
    · obtain ⟨y0, y1, y2, y3, hr⟩ := pickPartition (FCPartition xs 0 = 0 ∧ DCPartition xs 0 = 0) ((numV xs ((0 : Nat) : Int) 2 : Nat) : Int) (nameS xs (((0 : Nat) : Int) + 2) (((0 : Nat) : Int) + 4)) ((numV xs (((0 : Nat) : Int) + 40) 8 : Nat) : Int) ((numV xs (((0 : Nat) : Int) + 48) 8 : Nat) : Int)
      have hr' : resPartition xs 0 = #[.int .u16 y0, .string y1, .int .u64 y2, .int .u64 y3] := hr
      rw [hr'] at he
      exact .inl ⟨y0, y1, y2, y3, _, _, h0, he⟩
  · refine (GetPartition_no A xs.length c 0 w (by omega) (by omega) (exB_false (by omega))).mono ?_
    rintro e w' ⟨he, hb⟩
    exact ⟨hb, .inl ⟨0, ⟨#[]⟩, 0, 0, 8, 0, by decide, he⟩⟩

def OncePort (w : World) (xs : List UInt8) (e : Ending) (w' : World) : Prop := Below w.heap.size w w' ∧
  ((∃ (y0 y1 : Int) (y2 : ByteArray) (y3 y4 : Bool) (y5 : Int) (fc fa : Int), fc ≠ 0 ∧ e = .returned (.tuple #[.agg #[.int .u16 y0, .int .u16 y1, .string y2, .bool y3, .bool y4, .int .u32 y5], .agg #[.int .i64 fc, .int .i64 0, .int .i64 fa]])) ∨
   (∃ (x y : Nat) (s : ByteArray) (o q : Bool) (z : Nat), e = .returned (.tuple #[.agg #[.int .u16 (x : Int), .int .u16 (y : Int), .string s, .bool o, .bool q, .int .u32 (z : Int)], .agg #[.int .i64 0, .int .i64 0, .int .i64 0]]) ∧ 48 ≤ xs.length ∧ x < 65536 ∧ y < 65536 ∧ vldP s ∧ z < 4294967296 ∧ portB x y s o q z = xs.take 48))
theorem place0_port (xs : List UInt8) (hc : codePort xs 0 = 0) : placePort xs 0 = 0 := by
  obtain ⟨hF, hD⟩ := flt0 (show fltC _ _ = 0 from hc)
  obtain ⟨hD1, hd2⟩ := zero14 (show zeroC _ _ = 0 from hD)
  obtain ⟨_, hd1⟩ := zero14 (show zeroC _ _ = 0 from hD1)
  show fltA _ _ _ = 0
  unfold fltA
  rw [if_pos hF]
  show zeroA _ (zeroA 0 0 _) _ = 0
  unfold zeroA
  rw [if_neg (fun h => hd2 h.2), if_neg (fun h => hd1 h.2)]
theorem GetPort_all (A : Option Addr) (c : Nat) (xs : List UInt8) (w : World) (hR : Rd w w.heap.size A xs) (hc : xs.length ≤ c) (hn : c ≤ 9223372036854775807) (hl : xs.length ≤ 500) :
    Calls Try.prog 13 #[.slice A xs.length c, .int .i64 0] w (OncePort w xs) := by
  by_cases h : 48 ≤ xs.length
  · refine (GetPort_yes w.heap.size A c xs 0 w hR (Nat.le_refl _) hc hn (by omega) (by omega)).mono ?_
    rintro e w' ⟨he, hb⟩
    refine ⟨hb, ?_⟩
    by_cases h0 : codePort xs 0 = 0
    · obtain ⟨x, y, s, o, q, z, hr, g0, g1, g2, g3, g4⟩ := back_port xs h h0
      rw [hr, h0, place0_port xs h0] at he
      exact .inr ⟨x, y, s, o, q, z, he, h, g0, g1, g2, g3, g4⟩
    · obtain ⟨y0, y1, y2, y3, y4, y5, hr⟩ := pickPort (FCPort xs 0 = 0 ∧ DCPort xs 0 = 0) ((numV xs ((0 : Nat) : Int) 2 : Nat) : Int) ((numV xs (((0 : Nat) : Int) + 2) 2 : Nat) : Int) (nameS xs (((0 : Nat) : Int) + 4) (((0 : Nat) : Int) + 12)) (bits .and .u8 ((numV xs (((0 : Nat) : Int) + 5) 1 : Nat) : Int) 1 != 0) (bits .and .u8 ((numV xs (((0 : Nat) : Int) + 5) 1 : Nat) : Int) 2 != 0) ((numV xs (((0 : Nat) : Int) + 8) 4 : Nat) : Int)
      have hr' : resPort xs 0 = #[.int .u16 y0, .int .u16 y1, .string y2, .bool y3, .bool y4, .int .u32 y5] := hr
      rw [hr'] at he
      exact .inl ⟨y0, y1, y2, y3, y4, y5, _, _, h0, he⟩
  · refine (GetPort_no A xs.length c 0 w (by omega) (by omega) (exB_false (by omega))).mono ?_
    rintro e w' ⟨he, hb⟩
    exact ⟨hb, .inl ⟨0, 0, ⟨#[]⟩, false, false, 0, 8, 0, by decide, he⟩⟩

def OnceRegion (w : World) (xs : List UInt8) (e : Ending) (w' : World) : Prop := Below w.heap.size w w' ∧
  ((∃ (y0 y1 y2 y3 : Int) (y4 : Bool) (fc fa : Int), fc ≠ 0 ∧ e = .returned (.tuple #[.agg #[.int .u64 y0, .int .u64 y1, .int .u16 y2, .int .u8 y3, .bool y4], .agg #[.int .i64 fc, .int .i64 0, .int .i64 fa]])) ∨
   (∃ (x y z t : Nat) (b : Bool), e = .returned (.tuple #[.agg #[.int .u64 (x : Int), .int .u64 (y : Int), .int .u16 (z : Int), .int .u8 (t : Int), .bool b], .agg #[.int .i64 0, .int .i64 0, .int .i64 0]]) ∧ 24 ≤ xs.length ∧ x < 18446744073709551616 ∧ y < 18446744073709551616 ∧ z < 65536 ∧ t < 256 ∧ regB x y z t b = xs.take 24))
theorem place0_reg (xs : List UInt8) (hc : codeRegion xs 0 = 0) : placeRegion xs 0 = 0 := by
  obtain ⟨hF, hD⟩ := flt0 (show fltC _ _ = 0 from hc)
  obtain ⟨_, hd1⟩ := zero14 (show zeroC _ _ = 0 from hD)
  show fltA _ _ _ = 0
  unfold fltA
  rw [if_pos hF]
  show zeroA 0 0 _ = 0
  unfold zeroA
  rw [if_neg (fun h => hd1 h.2)]
theorem GetRegion_all (A : Option Addr) (c : Nat) (xs : List UInt8) (w : World) (hR : Rd w w.heap.size A xs) (hc : xs.length ≤ c) (hn : c ≤ 9223372036854775807) (hl : xs.length ≤ 500) :
    Calls Try.prog 20 #[.slice A xs.length c, .int .i64 0] w (OnceRegion w xs) := by
  by_cases h : 24 ≤ xs.length
  · refine (GetRegion_yes w.heap.size A c xs 0 w hR (Nat.le_refl _) hc hn (by omega) (by omega)).mono ?_
    rintro e w' ⟨he, hb⟩
    refine ⟨hb, ?_⟩
    by_cases h0 : codeRegion xs 0 = 0
    · obtain ⟨x, y, z, t, b, hr, g0, g1, g2, g3, g4⟩ := back_reg xs h h0
      rw [hr, h0, place0_reg xs h0] at he
      exact .inr ⟨x, y, z, t, b, he, h, g0, g1, g2, g3, g4⟩
    · obtain ⟨y0, y1, y2, y3, y4, hr⟩ := pickRegion (FCRegion xs 0 = 0 ∧ DCRegion xs 0 = 0) ((numV xs ((0 : Nat) : Int) 8 : Nat) : Int) ((numV xs (((0 : Nat) : Int) + 8) 8 : Nat) : Int) ((numV xs (((0 : Nat) : Int) + 16) 2 : Nat) : Int) ((numV xs (((0 : Nat) : Int) + 18) 1 : Nat) : Int) (((numV xs (((0 : Nat) : Int) + 19) 1 : Nat) : Int) == 1)
      have hr' : resRegion xs 0 = #[.int .u64 y0, .int .u64 y1, .int .u16 y2, .int .u8 y3, .bool y4] := hr
      rw [hr'] at he
      exact .inl ⟨y0, y1, y2, y3, y4, _, _, h0, he⟩
  · refine (GetRegion_no A xs.length c 0 w (by omega) (by omega) (exB_false (by omega))).mono ?_
    rintro e w' ⟨he, hb⟩
    exact ⟨hb, .inl ⟨0, 0, 0, 0, false, 8, 0, by decide, he⟩⟩
end Go.Proofs.Ytpeajffnhmmaeaa
