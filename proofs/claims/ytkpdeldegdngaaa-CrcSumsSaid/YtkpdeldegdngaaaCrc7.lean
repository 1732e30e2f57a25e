/-
  The contract of the reference's Sealed.
-/
import Derived.Test.YtkpdeldegdngaaaCrc6
import Derived.Laws.BytesArg
namespace Go.Proofs.Ytkpdeldegdngaaa
set_option linter.unusedVariables false
open Go.RowKit

/-- bytes as a string -/
def strB (xs : List UInt8) : ByteArray := ⟨xs.toArray⟩
theorem strOfNums_bytes (xs : List UInt8) : strOfNums (xs.map fun c => (c.toNat : Int)) = strB xs := by
  have h : (strOfNums (xs.map fun c => (c.toNat : Int))).data.toList = xs := by
    rw [strOfNums_data, List.map_map]
    have e : ((fun n : Int => UInt8.ofNat n.toNat) ∘ fun c : UInt8 => (c.toNat : Int)) = id := by
      funext c; simp
    rw [e, List.map_id]
  have h2 : (strOfNums (xs.map fun c => (c.toNat : Int))).data = (strB xs).data := by
    apply Array.toList_inj.1; rw [h]; rfl
  exact ByteArray.ext h2
theorem strB_eq (xs ys : List UInt8) : ((strB xs).toList == (strB ys).toList) = decide (xs = ys) := by
  rw [ByteArray.toList_eq, ByteArray.toList_eq]
  show (xs == ys) = _
  by_cases h : xs = ys
  · subst h; simp
  · rw [decide_eq_false h]; exact beq_eq_false_iff_ne.2 h
theorem conv_bytes {w : World} {B : Nat} {A : Option Addr} {c n : Nat} {xs : List UInt8} (hn : xs.length = n) (hR : Rd w B A xs) : (convert 24 9 (.slice A n c)).run Try.prog w = .ok (.string (strB xs)) w := by
  subst hn
  by_cases h0 : xs = []
  · subst h0
    cases A with
    | none => exact run_convert_bytes_nil w 24 5 Try.underlying24 Try.underlying5 0 c 9 Try.underlying9
    | some ad =>
      have hl : (loadCells ad 0).run Try.prog w = .ok ((([] : List Int)).map (Value.int .u8)).toArray w := by
        have := run_loadCells_list (P := Try.prog) w ad [] (fun j v hv => by simp at hv)
        exact this
      show (convert 24 9 (.slice (some ad) 0 c)).run Try.prog w = _
      rw [run_convert_bytes_string w 24 9 5 _ 0 c Try.underlying24 Try.underlying5 Try.underlying9]
      rw [run_bytesToString w ad 0 c [] hl]
      rfl
  · obtain ⟨b, off, rfl, _, hc⟩ := hR.open_ h0
    rw [← strOfNums_bytes]
    refine run_convert_bytes_arg w 24 5 Try.underlying24 Try.underlying5 b off xs.length c (xs.map fun c => (c.toNat : Int)) (by simp) (fun i hi => ?_) 9 Try.underlying9
    rw [hc i hi]
    simp [bv, List.getD, hi]

set_option maxRecDepth 100000 in
set_option maxHeartbeats 1600000 in
theorem refSealed_yes (A : Option Addr) (c n : Nat) (xs : List UInt8) (w : World) (hn : xs.length = n + 4) (hR : Rd w w.heap.size A xs) (hc : n + 4 ≤ c) (hl : n + 4 ≤ 100000) :
    Calls Try.prog 18 #[.slice A (n + 4) c] w (TestOK w (CrcP.isSealed xs)) := by
  have hi1 : (n : Int) ≤ (c : Int) := by omega
  have hlt : (xs.take n).length = n := by simp; omega
  have HS := Lib.hid (refSeal_any w.heap.size A c n (xs.take n) w.drew hlt (hR.take n) (Nat.le_refl _) (by omega))
  have HE : Hid (CrcP.isSealed xs = decide (CrcP.sealOf (xs.take n) = xs)) := by
    show _ = _
    unfold CrcP.isSealed
    rw [show xs.length - 4 = n by omega]
    simp [show 4 ≤ xs.length by omega]
  have hconv : ∀ w', Below w.heap.size w w' → (convert 24 9 (.slice A (n + 4) c)).run Try.prog w' = .ok (.string (strB xs)) w' := fun w' hb => conv_bytes hn (hR.below hb)
  have hb0 : Below w.heap.size w w.drew := (Below.refl _ w).drew
  have HQ := Lib.hid (strB_eq (CrcP.sealOf (xs.take n)) xs)
  generalize strB xs = sx at *
  clear hlt hn hR
  go_enter Try.func18, Try.ntmps18
  go_wp2_with fail
  go_region_with (first | (go_at_call 16; refine HS.out.mono ?_; rintro e w1 ⟨A1, c1, rfl, ho1, hf1, hb1⟩; have hb1' : Below w.heap.size w w1 := hb0.trans hb1; have hconv1 := conv_bytes (c := c1) rfl ho1.rd; clear ho1 hf1))
  all_goals
    go_wp2
    go_ret
    exact ⟨by rw [HE.out, ← HQ.out]; rfl, hb1'⟩
end Go.Proofs.Ytkpdeldegdngaaa
