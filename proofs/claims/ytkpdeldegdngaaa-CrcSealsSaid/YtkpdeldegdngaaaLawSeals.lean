/-
  What the law CrcSeals computes: true.
-/
import Derived.Test.YtkpdeldegdngaaaAlive02
namespace Go.Proofs.Ytkpdeldegdngaaa
set_option linter.unusedVariables false
open Go.RowKit

set_option maxRecDepth 100000 in
set_option maxHeartbeats 1600000 in
theorem CrcSeals_small (A : Option Addr) (c : Nat) (xs : List UInt8) (w : World) (hR : Rd w w.heap.size A xs) (hc : xs.length ≤ c) (h1 : (xs.length : Int) ≤ 1000) :
    Calls Try.prog 4 #[.slice A xs.length c] w (AliveOK w) := by
  have HR := Lib.hid hR
  clear hR
  go_enter Try.func4, Try.ntmps4
  go_wp2_with (at_builtin; refine wpList_app rfl (.tmp 9) (.tmp 10) 24 rfl Try.underlying24 infoU8c (some ⟨w.heap.size, 0, none⟩) 0 0 [] rfl rfl (Own.empty w) w.heap.size A xs.length c xs rfl rfl (HR.out.alloc (Nat.le_refl _) _) (by simp; omega) ?_; intro A1 c1 w1 hown hg hat hnn)
  have B1 : Below w.heap.size w w1 := ((Below.refl _ w).alloc (Nat.le_refl _) _).grown hg (by simp) (fun k e => Nat.le_of_eq (Option.some.inj e))
  have HO1 : Hid (Own w1 A1 c1 xs) := hown
  clear hown hg hat hnn
  go_wp2_with fail
  refine (Seal_any _ A1 c1 xs w1 HO1.out.rd (Nat.le_refl _) (by omega)).mono ?_
  rintro e w2 ⟨A2, c2, rfl, ho2, hf2, hb2⟩
  have B2 : Below w.heap.size w w2 := B1.trans (hb2.mono B1.size)
  have HO2 := Lib.hid ho2
  have HO1b := Lib.hid (HO1.out.keep (S := fun _ => False) (Chg.of_below hb2) (fun _ _ h => h))
  clear ho2 hf2 hb2 HO1 B1
  go_wp2_with fail
  refine (alive02 _).mono ?_
  rintro e w3 ⟨rfl, hb3⟩
  have B3 : Below w.heap.size w w3 := B2.trans (hb3.mono B2.size)
  have HO3 := Lib.hid (HO2.out.keep (S := fun _ => False) (Chg.of_below hb3) (fun _ _ h => h))
  have HO1c := Lib.hid (HO1b.out.keep (S := fun _ => False) (Chg.of_below hb3) (fun _ _ h => h))
  clear hb3 HO2 HO1b B2
  go_wp2_with fail
  refine (refSeal_any w.heap.size A c xs.length xs w3 rfl (HR.out.below B3) B3.size (by omega)).mono ?_
  rintro e w4 ⟨A4, c4, rfl, ho4, hf4, hb4⟩
  have B4 : Below w.heap.size w w4 := B3.trans (hb4.mono B3.size)
  have HX4 := Lib.hid ho4
  have HO4 := Lib.hid (HO3.out.keep (S := fun _ => False) (Chg.of_below hb4) (fun _ _ h => h))
  have HO1d := Lib.hid (HO1c.out.keep (S := fun _ => False) (Chg.of_below hb4) (fun _ _ h => h))
  have HLS : Hid ((CrcP.sealOf xs).length = xs.length + 4) := CrcP.sealOf_length xs
  have HIS : Hid (CrcP.isSealed (CrcP.sealOf xs) = true) := CrcP.isSealed_of xs
  clear hb4 HO3 HO1c ho4 hf4 B3
  generalize CrcP.sealOf xs = zs at *
  go_wp2_with fail
  refine (Equal_any _ A2 c2 zs _ A4 c4 zs _ _ w4 rfl rfl HO4.out.rd HX4.out.rd (by rw [HLS.out]; omega) (by rw [HLS.out]; omega)).mono ?_
  rintro e w5 ⟨rfl, d, rfl⟩
  rw [decide_eq_true (Eq.refl zs)]
  have B5 := below_drewN' B4 d
  have HO5 := Lib.hid (HO4.out.drewN d)
  have HO1e := Lib.hid (HO1d.out.drewN d)
  clear HO4 HX4 HO1d B4
  go_wp2_with fail
  refine (Sealed_any A2 c2 _ zs _ rfl HO5.out.rd HO5.out.le.1 (by rw [HLS.out]; omega)).mono ?_
  rintro e w6 ⟨rfl, hb6⟩
  rw [HIS.out]
  have B6 := B5.trans (hb6.mono B5.size)
  have HO1f := Lib.hid (HO1e.out.keep (S := fun _ => False) (Chg.of_below hb6) (fun _ _ h => h))
  clear hb6 HO5 HO1e B5
  go_wp2_with fail
  refine (Sealed_any A c _ xs w6 rfl ((HR.out.below B6).more B6.size) hc (by omega)).mono ?_
  rintro e w7 ⟨rfl, hb7⟩
  have B7 := B6.trans (hb7.mono B6.size)
  have HO1g := Lib.hid (HO1f.out.keep (S := fun _ => False) (Chg.of_below hb7) (fun _ _ h => h))
  clear hb7 HO1f B6
  go_wp2_with fail
  refine (refSealed_any A c _ xs w7 rfl ((HR.out.below B7).more B7.size) hc (by omega)).mono ?_
  rintro e w8 ⟨rfl, hb8⟩
  have B8 := B7.trans (hb8.mono B7.size)
  have HO1h := Lib.hid (HO1g.out.keep (S := fun _ => False) (Chg.of_below hb8) (fun _ _ h => h))
  clear hb8 HO1g B7
  generalize CrcP.isSealed xs = bb at *
  go_wp2_with fail
  refine (Equal_any _ A1 c1 xs _ A c xs _ _ w8 rfl rfl HO1h.out.rd (HR.out.below B8) (by omega) (by omega)).mono ?_
  rintro e w9 ⟨rfl, d9, rfl⟩
  rw [decide_eq_true (Eq.refl xs)]
  go_wp2
  go_ret
  exact ⟨rfl, below_drewN' B8 d9⟩

set_option maxHeartbeats 800000 in
theorem CrcSeals_any (A : Option Addr) (c : Nat) (xs : List UInt8) (w : World) (hR : Rd w w.heap.size A xs) (hc : xs.length ≤ c) :
    Calls Try.prog 4 #[.slice A xs.length c] w (AliveOK w) := by
  by_cases h1 : (xs.length : Int) ≤ 1000
  · exact CrcSeals_small A c xs w hR hc h1
  · have e1 : (1000 : Int) < (xs.length : Int) := by omega
    clear hR
    go_enter Try.func4, Try.ntmps4
    go_wp2_with fail
    refine (alive02 _).mono ?_
    rintro e w1 ⟨rfl, hb1⟩
    go_wp2_with fail
    go_ret
    exact ⟨rfl, hb1⟩
end Go.Proofs.Ytkpdeldegdngaaa
