/-
  Contracts of the reference's Zeros and Align.
-/
import Derived.Test.YtlofceojchlmgaaDuo
namespace Go.Proofs.Ytlofceojchlmgaa
set_option linter.unusedVariables false
open Go.RowKit

/-- a slice handed back, with a result: a new one, or the one that was given -/
def Got (w : World) (A : Option Addr) (r : List UInt8 × Bool) (e : Ending) (w' : World) : Prop :=
  ∃ A' c', e = .returned (.tuple #[.slice A' r.1.length c', .bool r.2]) ∧ Own w' A' c' r.1 ∧ (A' = A ∨ ∀ k, blk A' = some k → w.heap.size ≤ k) ∧ Below w.heap.size w w'
theorem ret_got {A : Option Addr} {n m c : Nat} {b : Bool} (h : n = m) : Ending.returned (.tuple #[.slice A n c, .bool b]) = .returned (.tuple #[.slice A m c, .bool b]) := by rw [h]
theorem Kept.grown0 {w wr w' : World} {A A' : Option Addr} {c c' : Nat} {xs ys : List UInt8} (h : Kept w wr A c xs) (hown : Own w' A' c' ys) (hg : wr.grownBy w' (blk A)) (hat : blk A' = blk A ∨ blk A' = some wr.heap.size) : Kept w w' A' c' ys := by
  refine ⟨hown, fun k hk => ?_, h.bel.grown hg h.bel.size (fun k e => h.fresh k e)⟩
  rcases hat with e | e
  · exact h.fresh k (e.symm.trans hk)
  · have := Option.some.inj (e.symm.trans hk)
    have := h.bel.size
    omega
theorem Kept.of_new {w w' : World} {A' : Option Addr} {c' : Nat} {cs : Array Value} {ys : List UInt8} (hown : Own w' A' c' ys) (hg : (w.alloc (.cells cs U8t)).grownBy w' (blk (some ⟨w.heap.size, 0, none⟩))) (hat : blk A' = blk (some ⟨w.heap.size, 0, none⟩) ∨ blk A' = some (w.alloc (.cells cs U8t)).heap.size) : Kept w w' A' c' ys := by
  refine ⟨hown, fun k hk => ?_, ((Below.refl _ w).alloc (Nat.le_refl _) _).grown hg (by simp) (fun k e => Nat.le_of_eq (Option.some.inj e))⟩
  rcases hat with h | h
  · exact Nat.le_of_eq (Option.some.inj (h.symm.trans hk))
  · have := Option.some.inj (h.symm.trans hk); simp at this; omega

set_option maxHeartbeats 400000 in
theorem refZeros_no (A : Option Addr) (c m : Nat) (us : List UInt8) (n : Int) (w : World) (hm : us.length = m) (hO : Own w A c us) (hl : m ≤ 16777216) (h : n < 0 ∨ 16777216 - (m : Int) < n) :
    Calls Try.prog 46 #[.slice A m c, .int .i64 n] w (Got w A (us, false)) := by
  have HO := Lib.hid hO
  have HM := Lib.hid hm
  clear hO hm
  by_cases h0 : n < 0
  · have d0 : decide (n < 0) = true := decide_eq_true h0
    go_enter Try.func46, Try.ntmps46
    go_wp2
    go_ret2
    exact ⟨A, c, ret_got HM.out.symm, HO.out, .inl rfl, Below.refl _ _⟩
  · have d0 : decide (n < 0) = false := decide_eq_false h0
    have d1 : decide (16777216 - (m : Int) < n) = true := decide_eq_true (by omega)
    have hw : IntKind.i64.wrap (16777216 - (m : Int)) = 16777216 - (m : Int) := IntWalk.i64_in _ (by omega)
    go_enter Try.func46, Try.ntmps46
    go_wp2
    go_ret2
    exact ⟨A, c, ret_got HM.out.symm, HO.out, .inl rfl, Below.refl _ _⟩

set_option maxHeartbeats 400000 in
theorem refZeros_yes (A : Option Addr) (c m : Nat) (us : List UInt8) (n : Nat) (w : World) (hm : us.length = m) (hO : Own w A c us) (h : m + n ≤ 16777216) :
    Calls Try.prog 46 #[.slice A m c, .int .i64 (n : Int)] w (Got w A (us ++ List.replicate n 0, true)) := by
  have HO := Lib.hid hO
  have HM := Lib.hid hm
  clear hO hm
  have d0 : decide ((n : Int) < 0) = false := decide_eq_false (by omega)
  have d1 : decide (16777216 - (m : Int) < (n : Int)) = false := decide_eq_false (by omega)
  have hw : IntKind.i64.wrap (16777216 - (m : Int)) = 16777216 - (m : Int) := IntWalk.i64_in _ (by omega)
  go_enter Try.func46, Try.ntmps46
  go_wp2_with (first
    | (at_builtin; refine wpList_app rfl (.tmp 16) (.tmp 17) 22 rfl Try.underlying22 infoU8 (some ⟨w.heap.size, 0, none⟩) 0 0 [] rfl rfl (Own.empty w) w.heap.size A m c us HM.out rfl (HO.out.rd.alloc (Nat.le_refl _) _) (by have := HM.out; simp; omega) ?_; intro A1 c1 w1 hown hg hat hnn; rw [List.nil_append] at hown ⊢; have HK1 := Lib.hid (Kept.of_new hown hg hat); clear hown hg hat hnn)
    | (at_builtin; refine wpList_app_zeros rfl (.tmp 18) (.tmp 19) 22 3 rfl .i64 .i64 Try.underlying22 Try.underlying3 infoU8 A1 us.length c1 us rfl rfl HK1.out.own n rfl (by have := HM.out; omega) ?_; intro A2 c2 w2 hown2 hg2 hat2; have HK2 := Lib.hid (HK1.out.grown0 hown2 hg2 hat2); clear hown2 hg2 hat2))
  go_ret2
  exact ⟨A2, c2, ret_got (by simp), HK2.out.own, .inr HK2.out.fresh, HK2.out.bel⟩

theorem refZeros_any (A : Option Addr) (c m : Nat) (us : List UInt8) (n : Int) (w : World) (hm : us.length = m) (hO : Own w A c us) (hl : m ≤ 16777216) :
    Calls Try.prog 46 #[.slice A m c, .int .i64 n] w (Got w A (zerosV us n)) := by
  by_cases h : n < 0 ∨ 16777216 - (us.length : Int) < n
  · unfold zerosV
    rw [if_pos h]
    exact refZeros_no A c m us n w hm hO hl (by rw [← hm]; exact h)
  · unfold zerosV
    rw [if_neg h]
    obtain ⟨k, rfl⟩ : ∃ k : Nat, n = (k : Int) := ⟨n.toNat, by omega⟩
    exact refZeros_yes A c m us k w hm hO (by omega)

set_option maxHeartbeats 400000 in
theorem refAlign_any (A : Option Addr) (c m : Nat) (us : List UInt8) (n : Int) (w : World) (hm : us.length = m) (hO : Own w A c us) (hl : m ≤ 16777216) (hn : -9223372036854775808 ≤ n ∧ n ≤ 9223372036854775807) :
    Calls Try.prog 47 #[.slice A m c, .int .i64 n] w (Got w A (alignV us n)) := by
  have HO := Lib.hid hO
  have HM := Lib.hid hm
  by_cases h1 : n < 1
  · have d1 : decide (n < 1) = true := decide_eq_true h1
    have HV : Hid (alignV us n = (us, false)) := by show _ = _; unfold alignV; rw [if_pos h1]
    clear hO hm
    go_enter Try.func47, Try.ntmps47
    go_wp2
    go_ret2
    rw [HV.out]
    exact ⟨A, c, ret_got HM.out.symm, HO.out, .inl rfl, Below.refl _ _⟩
  · have d1 : decide (n < 1) = false := decide_eq_false h1
    have hz : ¬ n = 0 := by omega
    have hr0 := Int.emod_nonneg (m : Int) hz
    have hr1 := Int.emod_lt_of_pos (m : Int) (show 0 < n by omega)
    by_cases h2 : (m : Int) % n = 0
    · have HV : Hid (alignV us n = (us, true)) := by show _ = _; unfold alignV; rw [if_neg h1, if_pos (by rw [hm]; exact h2)]
      clear hO hm hr0 hr1 hz
      go_enter Try.func47, Try.ntmps47
      go_wp2
      go_ret2
      rw [HV.out]
      exact ⟨A, c, ret_got HM.out.symm, HO.out, .inl rfl, Below.refl _ _⟩
    · have HV : Hid (alignV us n = zerosV us (n - (m : Int) % n)) := by show _ = _; unfold alignV; rw [if_neg h1, if_neg (by rw [hm]; exact h2), hm]
      have H := Lib.hid (refZeros_any A c m us (n - (m : Int) % n) w hm hO hl)
      have d2 : ((m : Int) % n == 0) = false := by simpa using h2
      clear hO hm h2 hz
      go_enter Try.func47, Try.ntmps47
      go_wp2_with fail
      refine H.out.mono ?_
      rintro e w1 ⟨A', c', rfl, ho, hA', hb⟩
      have HO1 := Lib.hid ho
      clear ho
      go_wp2_with fail
      go_ret2
      rw [HV.out]
      exact ⟨A', c', rfl, HO1.out, hA', hb⟩

theorem Duo.got {w0 w w' : World} {g h : Nat} {Ab : Option Addr} {cb : Nat} {A : Option Addr} {c : Nat} {zs us vs : List UInt8} (d : Duo w0 w g h Ab cb A c zs us) {A' : Option Addr} {c' : Nat} (ho : Own w' A' c' vs) (hA' : A' = A ∨ ∀ k, blk A' = some k → w.heap.size ≤ k) (hb : Below w.heap.size w w') :
    Duo w0 (w'.setCell ⟨h, 0, none⟩ (.slice A' vs.length c')) g h Ab cb A' c' zs vs := by
  refine (d.next hb).set_ ho (fun k hk e => ?_) (fun k hk => ?_)
  · rcases hA' with rfl | h1
    · exact d.sep k hk e
    · have := h1 k e
      have := d.bld.own.lt k hk
      omega
  · rcases hA' with rfl | h1
    · exact d.hA k hk
    · exact Nat.le_trans d.bel.size (h1 k hk)
end Go.Proofs.Ytlofceojchlmgaa
