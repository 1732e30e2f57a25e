/-
  What the law CrcOnce computes: true.
-/
import Derived.Test.YtkpdeldegdngaaaCrc10
import Derived.Test.YtkpdeldegdngaaaAlive02
namespace Go.Proofs.Ytkpdeldegdngaaa
set_option linter.unusedVariables false
open Go.RowKit Go.Shelf

set_option maxRecDepth 100000 in
set_option maxHeartbeats 1600000 in
theorem CrcOnce_mid (A : Option Addr) (c t a : Nat) (xs : List UInt8) (w : World) (hR : Rd w w.heap.size A xs) (hc : xs.length ≤ c) (h1 : (xs.length : Int) ≤ 300) (h4 : 4 ≤ (xs.length : Int)) (hat : (t : Int).tmod ((xs.length : Int) - 3) = (a : Int)) (ha : a + 4 ≤ xs.length) (ht : t < 256) :
    Calls Try.prog 8 #[.slice A xs.length c, .int .u8 (t : Int)] w (AliveOK w) := by
  have HR := Lib.hid hR
  have HC := Lib.hid hc
  have hz : ¬ (xs.length : Int) - 3 = 0 := by omega
  have hw1 : IntKind.i64.wrap ((xs.length : Int) - 3) = (xs.length : Int) - 3 := IntWalk.i64_in _ (by omega)
  have hw2 : IntKind.i64.wrap (t : Int) = (t : Int) := IntWalk.i64_in _ (by omega)
  clear hR hc
  go_enter Try.func8, Try.ntmps8
  go_wp2_with fail
  go_region_held3 (fun _ => True) (first | trivial) (first
    | (go_at_call 12; refine (refSum_any w.heap.size A c xs.length xs w.drew rfl HR.out (by omega)).mono ?_; rintro e w1 ⟨rfl, rfl⟩)
    | (go_at_call 20; refine (Forge_yes A c xs.length a xs (CrcP.sum xs) w.drew rfl HR.out HC.out (by omega) ha).mono ?_; rintro e w2 ⟨A2, c2, rfl, ho2, hf2, hb2⟩))
  rw [forgeV_same xs a ha] at ho2
  have hb0 : Below w.heap.size w w.drew := (Below.refl _ w).drew
  have B2 : Below w.heap.size w w2 := hb0.trans hb2
  have HO2 := Lib.hid ho2
  clear ho2 hf2 hb2 hat hz hw1 hw2
  go_wp2_with fail
  refine (alive02 _).mono ?_
  rintro e w3 ⟨rfl, hb3⟩
  have B3 : Below w.heap.size w w3 := B2.trans (hb3.mono B2.size)
  have HO3 := Lib.hid (HO2.out.keep (S := fun _ => False) (Chg.of_below hb3) (fun _ _ h => h))
  clear hb3 HO2 B2
  go_wp2_with fail
  refine (Equal_any _ A2 c2 xs _ A c xs _ _ w3 rfl rfl HO3.out.rd (HR.out.below B3) (by omega) (by omega)).mono ?_
  rintro e w9 ⟨rfl, d9, rfl⟩
  rw [decide_eq_true (Eq.refl xs)]
  go_wp2
  go_ret
  exact ⟨rfl, below_drewN' B3 d9⟩

set_option maxHeartbeats 800000 in
theorem CrcOnce_any (A : Option Addr) (c : Nat) (xs : List UInt8) (z : Int) (w : World) (hR : Rd w w.heap.size A xs) (hc : xs.length ≤ c) (hz : 0 ≤ z ∧ z ≤ 255) :
    Calls Try.prog 8 #[.slice A xs.length c, .int .u8 z] w (AliveOK w) := by
  obtain ⟨t, rfl⟩ : ∃ t : Nat, z = (t : Int) := ⟨z.toNat, by omega⟩
  by_cases h1 : (xs.length : Int) ≤ 300
  · by_cases h4 : 4 ≤ (xs.length : Int)
    · refine CrcOnce_mid A c t (t % (xs.length - 3)) xs w hR hc h1 h4 ?_ ?_ (by omega)
      · rw [show ((xs.length : Int) - 3) = ((xs.length - 3 : Nat) : Int) from by omega, Int.tmod_eq_emod_of_nonneg (by omega)]
        rfl
      · have := Nat.mod_lt t (show 0 < xs.length - 3 by omega)
        omega
    · have d1 : decide ((300 : Int) < (xs.length : Int)) = false := decide_eq_false (by omega)
      have d2 : decide ((xs.length : Int) < 4) = true := decide_eq_true (by omega)
      clear hR
      go_enter Try.func8, Try.ntmps8
      go_wp2_with fail
      refine (alive02 _).mono ?_
      rintro e w1 ⟨rfl, hb1⟩
      go_wp2_with fail
      go_ret
      exact ⟨rfl, hb1⟩
  · have d1 : decide ((300 : Int) < (xs.length : Int)) = true := decide_eq_true (by omega)
    clear hR
    go_enter Try.func8, Try.ntmps8
    go_wp2_with fail
    refine (alive02 _).mono ?_
    rintro e w1 ⟨rfl, hb1⟩
    go_wp2_with fail
    go_ret
    exact ⟨rfl, hb1⟩
end Go.Proofs.Ytkpdeldegdngaaa
