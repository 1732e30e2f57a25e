/-
  Sealed and its reference, every length; the example of chapter 2 holds.
-/
import Derived.Test.YtkpdeldegdngaaaCrc7
import Derived.Lib.SlBytesConst
namespace Go.Proofs.Ytkpdeldegdngaaa
set_option linter.unusedVariables false
open Go.RowKit

set_option maxHeartbeats 800000 in
theorem refSealed_no (A : Option Addr) (c n : Nat) (xs : List UInt8) (w : World) (hn : xs.length = n) (hl : n < 4) :
    Calls Try.prog 18 #[.slice A n c] w (TestOK w (CrcP.isSealed xs)) := by
  rw [isSealed_no xs (by omega)]
  obtain rfl | rfl | rfl | rfl : n = 0 ∨ n = 1 ∨ n = 2 ∨ n = 3 := by omega
  all_goals
    clear hn hl
    go_enter Try.func18, Try.ntmps18
    go_wp2_with fail
    go_quiet (fail)
    go_wp2
    go_ret
    exact ⟨rfl, below_drewN' (Below.refl _ _) _⟩

theorem Sealed_any (A : Option Addr) (c n : Nat) (xs : List UInt8) (w : World) (hn : xs.length = n) (hR : Rd w w.heap.size A xs) (hc : n ≤ c) (hl : n ≤ 100000) :
    Calls Try.prog 17 #[.slice A n c] w (TestOK w (CrcP.isSealed xs)) := by
  by_cases h : n < 4
  · exact Sealed_no A c n xs w hn h
  · obtain ⟨m, rfl⟩ : ∃ m, n = m + 4 := ⟨n - 4, by omega⟩
    exact Sealed_yes A c m xs w hn hR hc hl
theorem refSealed_any (A : Option Addr) (c n : Nat) (xs : List UInt8) (w : World) (hn : xs.length = n) (hR : Rd w w.heap.size A xs) (hc : n ≤ c) (hl : n ≤ 100000) :
    Calls Try.prog 18 #[.slice A n c] w (TestOK w (CrcP.isSealed xs)) := by
  by_cases h : n < 4
  · exact refSealed_no A c n xs w hn h
  · obtain ⟨m, rfl⟩ : ∃ m, n = m + 4 := ⟨n - 4, by omega⟩
    exact refSealed_yes A c m xs w hn hR hc hl

/-- what the example leaves -/
def AliveOK (w : World) (e : Ending) (w' : World) : Prop := e = .returned (.bool true) ∧ Below w.heap.size w w'

theorem RdS.cast {w : World} {B B' : Nat} {S S' : Option Addr} {L : List Sl} (h : RdS w B S L) (hB : B ≤ B') (hS : S = S') : RdS w B' S' L := by
  subst hS
  refine ⟨?_, fun s hs => (h.2 s hs).more hB⟩
  rcases h.1 with h | ⟨b, off, e, hb, hc⟩
  · exact .inl h
  · exact .inr ⟨b, off, e, by omega, hc⟩

/-- a constant string as bytes: a block with a mark behind it -/
theorem Rd.marked (w : World) (cs : Array Value) (fr : Nat × Nat) (xs : List UInt8) (h : cs.toList.take xs.length = bvs xs) : Rd (w.alloc (.cells cs U8t fr)) (w.heap.size + 1) (some ⟨w.heap.size, 0, none⟩) xs := by
  refine .inr ⟨w.heap.size, 0, rfl, Nat.lt_succ_self _, fun j hj => ?_⟩
  rw [Nat.zero_add, cell_of_row _ w.heap.size j cs U8t fr (heap_alloc_new w _)]
  have h2 := bvs_get xs j hj
  rw [← h, List.getElem?_take, if_pos hj] at h2
  simpa using h2

def digits : List UInt8 := [49, 50, 51, 52, 53, 54, 55, 56, 57]
theorem sum_digits : u32 (CrcP.sum digits) = 3421780262 := by decide +kernel
theorem sum_none : u32 (CrcP.sum []) = 0 := by decide +kernel

set_option maxHeartbeats 1600000 in
theorem alive02 (w : World) : Calls Try.prog 9 #[] w (AliveOK w) := by
  have kc := fun (w : World) (C : Array Value) (n c : Nat) => Lib.run_convert_bytes_const (P := Try.prog) w 24 U8t C n c Try.underlying24 Try.underlying5
  go_enter Try.func9, Try.ntmps9
  go_wp2_with fail
  have HR1 := RdS.one (c := 9) 24 (Rd.marked w #[.int .u8 49, .int .u8 50, .int .u8 51, .int .u8 52, .int .u8 53, .int .u8 54, .int .u8 55, .int .u8 56, .int .u8 57] (9, 10) digits rfl) (by simp)
  refine (Sum_any (some ⟨w.heap.size + 1, 0, none⟩) 1 1 _ _ rfl (HR1.cast (Nat.le_refl _) (by simp)) (by omega) (by intro s hs; simp at hs; subst hs; show digits.length ≤ _; decide)).mono ?_
  rintro e w1 ⟨rfl, hb1⟩
  rw [catS_one, sum_digits]
  have B1 : Below w.heap.size w w1 := (((Below.refl _ w).alloc (Nat.le_refl _) (.cells #[.int .u8 49, .int .u8 50, .int .u8 51, .int .u8 52, .int .u8 53, .int .u8 54, .int .u8 55, .int .u8 56, .int .u8 57] U8t (9, 10))).alloc (by simp) (.cells #[.slice (some ⟨w.heap.size, 0, none⟩) 9 9] 24)).trans (hb1.mono (by simp; omega))
  clear hb1 HR1
  go_wp2_with fail
  refine (Sum_any none 0 0 [] w1 rfl ⟨.inl rfl, fun s hs => by simp at hs⟩ (by omega) (by simp)).mono ?_
  rintro e w2 ⟨rfl, hb2⟩
  rw [show catS [] = [] from rfl, sum_none]
  have B2 : Below w.heap.size w w2 := B1.trans (hb2.mono B1.size)
  clear hb2 B1
  go_wp2_with fail
  refine (Seal_any (w2.heap.size + 1) (some ⟨w2.heap.size, 0, none⟩) 2 [97, 98] _ (Rd.marked w2 #[.int .u8 97, .int .u8 98] (2, 3) [97, 98] rfl) (by simp) (by simp)).mono ?_
  rintro e w3 ⟨A3, c3, rfl, ho3, hf3, hb3⟩
  have B3 : Below w.heap.size w w3 := (B2.alloc B2.size (.cells #[.int .u8 97, .int .u8 98] U8t (2, 3))).trans (hb3.mono (by have := B2.size; simp; omega))
  have HO := Lib.hid ho3
  clear hb3 B2 hf3 ho3
  go_wp2_with fail
  refine (Sealed_any A3 c3 _ (CrcP.sealOf [97, 98]) w3 (by first | rfl | (rw [CrcP.sealOf_length]; rfl)) HO.out.rd (by have := HO.out.le.1; rw [CrcP.sealOf_length] at this; first | exact this | simpa using this) (by rw [CrcP.sealOf_length]; simp)).mono ?_
  rintro e w4 ⟨rfl, hb4⟩
  rw [CrcP.isSealed_of]
  go_wp2
  go_ret
  exact ⟨rfl, B3.trans (hb4.mono B3.size)⟩
end Go.Proofs.Ytkpdeldegdngaaa
