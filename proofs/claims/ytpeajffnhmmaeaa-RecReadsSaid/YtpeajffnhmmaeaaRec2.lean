/-
  The reader's faults: zero, wrong; open; done.
-/
import Derived.Test.YtpeajffnhmmaeaaRec1
import Derived.Test.YtpeajffnhmmaeaaOwn2
import Derived.Deep.RegionHeld3
namespace Go.Proofs.Ytpeajffnhmmaeaa
set_option linter.unusedVariables false
open Go.RowKit

/-- the dirty fault after a part that was looked at -/
def zeroC (dc z : Int) : Int := if dc = 0 ∧ 0 ≤ z then 14 else dc
def zeroA (dc da z : Int) : Int := if dc = 0 ∧ 0 ≤ z then z else da
/-- a fault is none, or has this code -/
def Clean (k c a : Int) : Prop := (c = 0 ∧ a = 0) ∨ c = k

section
variable {w w' : World} {r n c : Nat} {A : Option Addr} {a fc fa dc da : Int}
theorem Rdr.dirty (h : Rdr w r A n c a fc fa dc da) (x y : Int) : Rdr (((w.setCell ⟨r, 5, none⟩ (.int .i64 x)).setCell ⟨r, 6, none⟩ (.int .i64 0)).setCell ⟨r, 7, none⟩ (.int .i64 y)) r A n c a fc fa x y :=
  ⟨by simp [World.setCell, Array.getElem?_modify, h.obj]⟩
theorem Rdr.field (h : Rdr w r A n c a fc fa dc da) (x y : Int) : Rdr (((w.setCell ⟨r, 2, none⟩ (.int .i64 x)).setCell ⟨r, 3, none⟩ (.int .i64 0)).setCell ⟨r, 4, none⟩ (.int .i64 y)) r A n c a x y dc da :=
  ⟨by simp [World.setCell, Array.getElem?_modify, h.obj]⟩
theorem Chg.three (h : Chg (· = r) w w') (i j k : Nat) (x y z : Value) : Chg (· = r) w (((w'.setCell ⟨r, i, none⟩ x).setCell ⟨r, j, none⟩ y).setCell ⟨r, k, none⟩ z) :=
  ((h.setCell (p := ⟨r, i, none⟩) (.inl rfl) x).setCell (p := ⟨r, j, none⟩) (.inl rfl) y).setCell (p := ⟨r, k, none⟩) (.inl rfl) z
end

/-- the size of a section's record -/
def sizeV (s : Int) : Int := if s = 1 then 56 else if s = 2 then 24 else if s = 3 then 24 else if s = 4 then 48 else if s = 5 then 8 else if s = 6 then 8 else 0
set_option maxRecDepth 20000 in
set_option maxHeartbeats 400000 in
theorem Size_any (s : Int) (w : World) : Calls Try.prog 22 #[.int .i64 s] w fun e w' => e = .returned (.int .i64 (sizeV s)) ∧ w = w' := by
  by_cases h1 : s = 1
  · subst h1; go_enter Try.func22, Try.ntmps22; go_wp2; go_ret; exact ⟨rfl, rfl⟩
  by_cases h2 : s = 2
  · subst h2; go_enter Try.func22, Try.ntmps22; go_wp2; go_ret; exact ⟨rfl, rfl⟩
  by_cases h3 : s = 3
  · subst h3; go_enter Try.func22, Try.ntmps22; go_wp2; go_ret; exact ⟨rfl, rfl⟩
  by_cases h4 : s = 4
  · subst h4; go_enter Try.func22, Try.ntmps22; go_wp2; go_ret; exact ⟨rfl, rfl⟩
  by_cases h5 : s = 5
  · subst h5; go_enter Try.func22, Try.ntmps22; go_wp2; go_ret; exact ⟨rfl, rfl⟩
  by_cases h6 : s = 6
  · subst h6; go_enter Try.func22, Try.ntmps22; go_wp2; go_ret; exact ⟨rfl, rfl⟩
  have e0 : sizeV s = 0 := by unfold sizeV; simp [h1, h2, h3, h4, h5, h6]
  have E0 := Lib.hid e0
  have b1 : (s == 1) = false := by simpa using h1
  have b2 : (s == 2) = false := by simpa using h2
  have b3 : (s == 3) = false := by simpa using h3
  have b4 : (s == 4) = false := by simpa using h4
  have b5 : (s == 5) = false := by simpa using h5
  have b6 : (s == 6) = false := by simpa using h6
  clear e0 h1 h2 h3 h4 h5 h6
  rw [E0.out]
  go_enter Try.func22, Try.ntmps22; go_wp2; go_ret; exact ⟨rfl, rfl⟩
set_option maxRecDepth 20000 in
set_option maxHeartbeats 400000 in
theorem refSize_any (s : Int) (w : World) : Calls Try.prog 23 #[.int .i64 s] w fun e w' => e = .returned (.int .i64 (sizeV s)) ∧ w = w' := by
  by_cases h1 : s = 1
  · subst h1; go_enter Try.func23, Try.ntmps23; go_wp2; go_ret; exact ⟨rfl, rfl⟩
  by_cases h2 : s = 2
  · subst h2; go_enter Try.func23, Try.ntmps23; go_wp2; go_ret; exact ⟨rfl, rfl⟩
  by_cases h3 : s = 3
  · subst h3; go_enter Try.func23, Try.ntmps23; go_wp2; go_ret; exact ⟨rfl, rfl⟩
  by_cases h4 : s = 4
  · subst h4; go_enter Try.func23, Try.ntmps23; go_wp2; go_ret; exact ⟨rfl, rfl⟩
  by_cases h5 : s = 5
  · subst h5; go_enter Try.func23, Try.ntmps23; go_wp2; go_ret; exact ⟨rfl, rfl⟩
  by_cases h6 : s = 6
  · subst h6; go_enter Try.func23, Try.ntmps23; go_wp2; go_ret; exact ⟨rfl, rfl⟩
  have e0 : sizeV s = 0 := by unfold sizeV; simp [h1, h2, h3, h4, h5, h6]
  have E0 := Lib.hid e0
  have b1 : (s == 1) = false := by simpa using h1
  have b2 : (s == 2) = false := by simpa using h2
  have b3 : (s == 3) = false := by simpa using h3
  have b4 : (s == 4) = false := by simpa using h4
  have b5 : (s == 5) = false := by simpa using h5
  have b6 : (s == 6) = false := by simpa using h6
  clear e0 h1 h2 h3 h4 h5 h6
  rw [E0.out]
  go_enter Try.func23, Try.ntmps23; go_wp2; go_ret; exact ⟨rfl, rfl⟩

set_option maxRecDepth 20000 in
set_option maxHeartbeats 400000 in
theorem zero_any (B : Nat) (A : Option Addr) (c : Nat) (xs : List UInt8) (a off m fc fa dc da : Int) (r : Nat) (w : World) (hr : Rdr w r A xs.length c a fc fa dc da) (hR : Rd w B A xs) (hc : xs.length ≤ c) (hn : c ≤ 9223372036854775807)
    (ha : -9223372036854775808 ≤ a + off ∧ a + off ≤ 9223372036854775807) (hm : -9223372036854775808 ≤ m ∧ m ≤ 9223372036854775807) (hd : Clean 14 dc da) :
    Calls Try.prog 51 #[.pointer (some ⟨r, 0, none⟩), .int .i64 off, .int .i64 m] w fun e w' =>
      e = .returned (.tuple #[]) ∧ Rdr w' r A xs.length c a fc fa (zeroC dc (dirtyV xs (a + off) m)) (zeroA dc da (dirtyV xs (a + off) m)) ∧ Chg (· = r) w w' := by
  obtain ⟨h0, h1, h2, h3, h4, h5, h6, h7⟩ := hr.cells
  have HR := Lib.hid hr
  have H := Lib.hid (fun d => Dirty_any B A c xs (a + off) m (w.drewN d) hR hc hn ha hm)
  generalize dirtyV xs (a + off) m = z at *
  have hw : IntKind.i64.wrap (a + off) = a + off := IntWalk.i64_in _ (by omega)
  clear hR hr
  have hfz := HR.out.frozen
  rcases hd with ⟨rfl, rfl⟩ | rfl
  · by_cases hz : 0 ≤ z
    · have hzb : decide (0 ≤ z) = true := decide_eq_true hz
      go_enter Try.func51, Try.ntmps51
      go_wp2_with fail
      go_quiet (exact (H.out _).mono (fun e w'' ⟨he, hw⟩ => ⟨he, _, hw.symm⟩))
      go_wp2
      go_end0
      have e1 : zeroC 0 z = 14 := by unfold zeroC; simp [hz]
      have e2 : zeroA 0 0 z = z := by unfold zeroA; simp [hz]
      rw [e1, e2]
      exact ⟨rfl, (HR.out.drewN nq).dirty 14 z, ((Chg.refl _ w).drewN nq).three _ _ _ _ _ _⟩
    · have hzb : decide (0 ≤ z) = false := decide_eq_false hz
      go_enter Try.func51, Try.ntmps51
      go_wp2_with fail
      go_quiet (exact (H.out _).mono (fun e w'' ⟨he, hw⟩ => ⟨he, _, hw.symm⟩))
      go_wp2
      go_end0
      have e1 : zeroC 0 z = 0 := by unfold zeroC; rw [if_neg (by omega)]
      have e2 : zeroA 0 0 z = 0 := by unfold zeroA; rw [if_neg (by omega)]
      rw [e1, e2]
      exact ⟨rfl, HR.out.drewN nq, (Chg.refl _ w).drewN nq⟩
  · have e1 : zeroC 14 z = 14 := by unfold zeroC; rw [if_neg (by omega)]
    have e2 : zeroA 14 da z = da := by unfold zeroA; rw [if_neg (by omega)]
    have E1 := Lib.hid e1
    have E2 := Lib.hid e2
    rw [E1.out, E2.out]
    clear e1 e2
    by_cases hz : 0 ≤ z
    · have hzb : decide (0 ≤ z) = true := decide_eq_true hz
      go_enter Try.func51, Try.ntmps51
      go_wp2_with fail
      go_quiet (exact (H.out _).mono (fun e w'' ⟨he, hw⟩ => ⟨he, _, hw.symm⟩))
      go_wp2
      go_end0
      exact ⟨rfl, HR.out.drewN nq, (Chg.refl _ w).drewN nq⟩
    · have hzb : decide (0 ≤ z) = false := decide_eq_false hz
      go_enter Try.func51, Try.ntmps51
      go_wp2_with fail
      go_quiet (exact (H.out _).mono (fun e w'' ⟨he, hw⟩ => ⟨he, _, hw.symm⟩))
      go_wp2
      go_end0
      exact ⟨rfl, HR.out.drewN nq, (Chg.refl _ w).drewN nq⟩

end Go.Proofs.Ytpeajffnhmmaeaa
