/-
  What the law CrcJoins computes: true.
-/
import Derived.Test.YtkpdeldegdngaaaAlive02
import Derived.Test.YtkpdeldegdngaaaJoin
import Derived.Test.YtkpdeldegdngaaaAppG
namespace Go.Proofs.Ytkpdeldegdngaaa
set_option linter.unusedVariables false
open Go.RowKit

/-- Sum of one slice, in any world -/
theorem Sum1_ok (B : Nat) (A : Option Addr) (c n : Nat) (xs : List UInt8) (w : World) (hn : xs.length = n) (hR : Rd w B A xs) (hB : B ≤ w.heap.size) (hl : n ≤ 100000) :
    Calls Try.prog 11 #[.slice (some ⟨w.heap.size, 0, none⟩) 1 1] (w.alloc (.cells #[.slice A n c] 24)) fun e w' => e = .returned (.int .u32 (u32 (CrcP.sum xs))) ∧ Below w.heap.size w w' := by
  subst hn
  have h := Sum_any (some ⟨w.heap.size, 0, none⟩) 1 1 [⟨A, c, xs⟩] _ rfl (RdS.one (c := c) 24 hR hB) (by omega) (by intro s hs; simp at hs; subst hs; show xs.length ≤ _; omega)
  rw [catS_one] at h
  exact h.mono fun e w' ⟨he, hb⟩ => ⟨he, ((Below.refl _ w).alloc (Nat.le_refl _) _).trans (hb.mono (by simp))⟩

set_option maxRecDepth 100000 in
set_option maxHeartbeats 1600000 in
theorem CrcJoins_small (A : Option Addr) (c : Nat) (xs : List UInt8) (Y : Option Addr) (cy : Nat) (ys : List UInt8) (w : World) (hR : Rd w w.heap.size A xs) (hY : Rd w w.heap.size Y ys)
    (h1 : (xs.length : Int) ≤ 300) (h2 : (ys.length : Int) ≤ 300) :
    Calls Try.prog 6 #[.slice A xs.length c, .slice Y ys.length cy] w (AliveOK w) := by
  have HR := Lib.hid hR
  have HY := Lib.hid hY
  have HS := Lib.hid (CrcP.sum_append xs ys)
  clear hR hY
  go_enter Try.func6, Try.ntmps6
  go_wp2_with fail
  refine (alive02 _).mono ?_
  rintro e w1 ⟨rfl, B1⟩
  go_wp2_with fail
  refine (Sum1_ok _ A c _ xs w1 rfl (HR.out.below B1) B1.size (by omega)).mono ?_
  rintro e w2 ⟨rfl, hb2⟩
  have B2 : Below w.heap.size w w2 := B1.trans (hb2.mono B1.size)
  clear hb2 B1
  go_wp2_with fail
  refine (Sum1_ok _ Y cy _ ys w2 rfl (HY.out.below B2) B2.size (by omega)).mono ?_
  rintro e w3 ⟨rfl, hb3⟩
  have B3 : Below w.heap.size w w3 := B2.trans (hb3.mono B2.size)
  clear hb3 B2
  go_wp2_with fail
  refine (Join_any (CrcP.sum xs) (CrcP.sum ys) ys.length w3 (by omega)).mono ?_
  rintro e w' ⟨rfl, rfl⟩
  rw [← HS.out]
  go_wp2_with (first
    | (at_builtin; refine wpList_app_g rfl (.tmp 25) (.tmp 26) 24 rfl Try.underlying24 infoU8c (some ⟨w3.heap.size, 0, none⟩) 0 0 [] rfl rfl (Own.empty w3) w.heap.size A xs.length c xs rfl rfl ((HR.out.below B3).alloc B3.size _) (by simp; omega) ?_; intro A4 c4 w4 hown4 hg4 hat4 hnn4; have HO4 : Hid (Own w4 A4 c4 xs) := hown4; have B4 : Below w.heap.size w w4 := ((B3.alloc B3.size (.cells #[] U8t))).grown hg4 (by have := B3.size; simp; omega) (fun k e => Nat.le_trans B3.size (Nat.le_of_eq (Option.some.inj e))); have HF4 : Hid (∀ k, blk A4 = some k → w3.heap.size ≤ k) := (by intro k hk; rcases hat4 with h | h; exact Nat.le_of_eq (Option.some.inj (h.symm.trans hk)); (have := Option.some.inj (h.symm.trans hk); simp at this; omega)); clear hown4 hg4 hat4 hnn4)
    | (at_builtin; refine wpList_app_g rfl (.tmp 27) (.tmp 28) 24 rfl Try.underlying24 infoU8c A4 _ c4 xs rfl rfl HO4.out w.heap.size Y ys.length cy ys rfl rfl (HY.out.below B4) (by omega) ?_; intro A5 c5 w5 hown5 hg5 hat5 hnn5; have HO5 := Lib.hid hown5; have B5 : Below w.heap.size w w5 := B4.grown hg5 B4.size (fun k e => Nat.le_trans B3.size (HF4.out k e)); clear hown5 hg5 hat5 hnn5)
    | (go_at_call 12; refine (refSum_any _ A5 c5 _ (xs ++ ys) w5 (by simp) HO5.out.rd (by omega)).mono ?_; rintro e w6 ⟨rfl, rfl⟩)
    | (go_at_call 11; fail))
  refine (Sum1_ok _ A c _ xs w5 rfl (HR.out.below B5) B5.size (by omega)).mono ?_
  rintro e w7 ⟨rfl, hb7⟩
  have B7 : Below w.heap.size w w7 := B5.trans (hb7.mono B5.size)
  clear hb7
  go_wp2_with fail
  refine (Sum1_ok _ Y cy _ ys w7 rfl (HY.out.below B7) B7.size (by omega)).mono ?_
  rintro e w8 ⟨rfl, hb8⟩
  have B8 : Below w.heap.size w w8 := B7.trans (hb8.mono B7.size)
  clear hb8
  go_wp2_with fail
  refine (Join_neg _ _ _ w8 (by omega)).mono ?_
  rintro e w' ⟨rfl, rfl⟩
  go_wp2
  go_ret
  exact ⟨rfl, B8⟩

set_option maxHeartbeats 800000 in
theorem CrcJoins_any (A : Option Addr) (c : Nat) (xs : List UInt8) (Y : Option Addr) (cy : Nat) (ys : List UInt8) (w : World) (hR : Rd w w.heap.size A xs) (hY : Rd w w.heap.size Y ys) :
    Calls Try.prog 6 #[.slice A xs.length c, .slice Y ys.length cy] w (AliveOK w) := by
  by_cases h1 : (xs.length : Int) ≤ 300
  · by_cases h2 : (ys.length : Int) ≤ 300
    · exact CrcJoins_small A c xs Y cy ys w hR hY h1 h2
    · have e2 : (300 : Int) < (ys.length : Int) := by omega
      clear hR hY
      go_enter Try.func6, Try.ntmps6
      go_wp2_with fail
      refine (alive02 _).mono ?_
      rintro e w1 ⟨rfl, hb1⟩
      go_wp2_with fail
      go_ret
      exact ⟨rfl, hb1⟩
  · have e1 : (300 : Int) < (xs.length : Int) := by omega
    clear hR hY
    go_enter Try.func6, Try.ntmps6
    go_wp2_with fail
    refine (alive02 _).mono ?_
    rintro e w1 ⟨rfl, hb1⟩
    go_wp2_with fail
    go_ret
    exact ⟨rfl, hb1⟩
end Go.Proofs.Ytkpdeldegdngaaa
