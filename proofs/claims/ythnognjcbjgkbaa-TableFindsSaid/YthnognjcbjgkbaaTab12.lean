/-
  Contract of the reference's Section.
-/
import Derived.Test.YthnognjcbjgkbaaTab11
namespace Go.Proofs.Ythnognjcbjgkbaa
set_option linter.unusedVariables false
open Go.RowKit Go.Shelf

theorem mem_upT {k : Nat} {y : Fin 6} (hk : k ≤ 6) : y ∈ upT k ↔ y.val < k := by
  have : k = 0 ∨ k = 1 ∨ k = 2 ∨ k = 3 ∨ k = 4 ∨ k = 5 ∨ k = 6 := by omega
  revert y
  rcases this with rfl | rfl | rfl | rfl | rfl | rfl | rfl <;> decide

set_option maxRecDepth 100000 in
set_option maxHeartbeats 4000000 in
theorem refSection_any (fr : Int) (c : Nat → Int) (at_ : Int) (w : World) (hok : okT c 6) (hlo : -9223372036854775808 ≤ at_ ∧ at_ ≤ 9223372036854775807) :
    Calls Try.prog 14 #[.agg (tabT fr c), .int .i64 at_] w (SecOK c at_ w) := by
  obtain ⟨t0, t1, _⟩ := offT_range c 6 hok
  have htot : 84 ≤ totT c ∧ totT c ≤ 400000 := by unfold totT; omega
  clear t0 t1
  have hw4 : IntKind.i64.wrap (totT c - 4) = totT c - 4 := IntWalk.i64_in _ (by omega)
  have hB := (Below.refl w.heap.size w).alloc (Nat.le_refl _) (.cells (tabT fr c) 28)
  have hr : (w.alloc (.cells (tabT fr c) 28)).heap[w.heap.size]? = some (.cells (tabA fr (totT c) (offO c) (cntO c)) 28 (0, 0)) := heap_alloc_new w _
  have k1 := tab_one hr
  have HOK := Lib.hid hok
  clear hok
  by_cases a1 : at_ < 0
  · have d1 : decide (at_ < 0) = true := decide_eq_true a1
    have hE := Lib.hid (show secT c at_ = (-2, -2) from by unfold secT; rw [if_pos (.inl a1)])
    generalize tabT fr c = A at *
    go_enter Try.func14, Try.ntmps14
    go_wp2
    go_ret2
    exact ⟨by rw [hE.out]; rfl, hB⟩
  have d1 : decide (at_ < 0) = false := decide_eq_false a1
  by_cases a2 : totT c ≤ at_
  · have d2 : decide (totT c ≤ at_) = true := decide_eq_true a2
    have hE := Lib.hid (show secT c at_ = (-2, -2) from by unfold secT; rw [if_pos (.inr a2)])
    generalize tabT fr c = A at *
    go_enter Try.func14, Try.ntmps14
    go_wp2
    go_ret2
    exact ⟨by rw [hE.out]; rfl, hB⟩
  have d2 : decide (totT c ≤ at_) = false := decide_eq_false a2
  by_cases a3 : at_ < 80
  · have d3 : decide (at_ < 80) = true := decide_eq_true a3
    have hE := Lib.hid (show secT c at_ = (0, 0) from by unfold secT; rw [if_neg (by omega), if_pos a3])
    generalize tabT fr c = A at *
    go_enter Try.func14, Try.ntmps14
    go_wp2
    go_ret2
    exact ⟨by rw [hE.out]; rfl, hB⟩
  have d3 : decide (at_ < 80) = false := decide_eq_false a3
  by_cases a4 : totT c - 4 ≤ at_
  · have d4 : decide (totT c - 4 ≤ at_) = true := decide_eq_true a4
    have hE := Lib.hid (show secT c at_ = (7, 0) from by unfold secT; rw [if_neg (by omega), if_neg a3, if_pos a4])
    generalize tabT fr c = A at *
    go_enter Try.func14, Try.ntmps14
    go_wp2
    go_ret2
    exact ⟨by rw [hE.out]; rfl, hB⟩
  have d4 : decide (totT c - 4 ≤ at_) = false := decide_eq_false a4
  have hE : secT c at_ = secGo c at_ (secsFrom 0) := by unfold secT; rw [if_neg (by omega), if_neg (by omega), if_neg (by omega)]
  have HE := Lib.hid hE
  have HR := Lib.hid hr
  have HB0 := Lib.hid hB
  clear hE hr hB
  go_enter Try.func14, Try.ntmps14
  go_wp2
  clear k1 d1 d2 d3 d4 hw4
  generalize hb : w.heap.size = b at *
  go_loopw [6] (fun i wr => ∃ k : Nat, k ≤ 6 ∧ i = .int .i64 ((k : Int) + 1) ∧ (∀ y ∈ upT k, ¬ inT c at_ (y.val + 1)) ∧ wr.heap[b]? = some (.cells (tabA fr (totT c) (offO c) (cntO c)) 28 (0, 0)) ∧ Below b w wr) (fun i _ => 8 - (intOf i).toNat)
  case atStart => exact ⟨0, Nat.zero_le _, rfl, fun y hy => by simp [upT] at hy, HR.out, HB0.out⟩
  case round =>
    obtain ⟨k, hk, rfl, hno, hrow, hbel⟩ := hrel
    clear HR HB0
    by_cases hlt : k < 6
    · obtain ⟨s, es⟩ : ∃ s : Nat, s = k + 1 := ⟨_, rfl⟩
      have e1 : ((k : Int) + 1) = (s : Int) := by omega
      rw [e1]
      have hs7 : s < 7 := by omega
      have hs7i : (s : Int) < 7 := by omega
      have hs6 : (s : Int) ≤ 6 := by omega
      have hs1 : 1 ≤ s := by omega
      have hsn6 : s ≤ 6 := by omega
      have ES := Lib.hid es
      have HNO := Lib.hid hno
      have HW := Lib.hid hrow
      have HB := Lib.hid hbel
      have hrc := HOK.out s hs1 hsn6
      have hrl := limT_range s
      have hrz := szT_range s
      have hzp := szT_pos hs1 hsn6
      have hro := offT_range c k (HOK.out.less (by omega))
      have eo : offO c s = offT c k := by unfold offO; rw [if_neg (by omega), es]; rfl
      have ec : cntO c s = c s := by unfold cntO; rw [if_neg (by omega)]
      have HEO := Lib.hid eo
      have HEC := Lib.hid ec
      clear es e1 hno hrow hbel eo ec
      go_wp2
      go_loopw [7] (fun i wr => ∃ j : Nat, (j : Int) ≤ c s ∧ i = .int .i64 (j : Int) ∧ (at_ < offT c k ∨ offT c k + (j : Int) * szT s ≤ at_) ∧ wr.heap[b]? = some (.cells (tabA fr (totT c) (offO c) (cntO c)) 28 (0, 0)) ∧ Below b w wr) (fun i _ => 2000 - (intOf i).toNat)
      case atStart => exact ⟨0, by simpa using hrc.1, rfl, by omega, HW.out, HB.out⟩
      case round =>
        obtain ⟨j, hj, rfl, hat, hrow, hbel⟩ := hrel
        clear HW HB
        have hcc := (tab_cell hrow s hs7).2
        rw [HEC.out] at hcc
        by_cases hjl : (j : Int) < c s
        · obtain ⟨z0, z1, z2, z3, z4, z5, z6, z7, z8, z9, z10, z11, z12, z13, z14, z15⟩ := tab_cells hrow
          have HW := Lib.hid hrow
          have HB := Lib.hid hbel
          have hpr := prod_range (show 0 ≤ (j : Int) by omega) (show (j : Int) ≤ 1024 by omega) hrz.1 hrz.2
          clear hrow hbel
          go_wp2_with fail
          have hrec : recV (offO c) (cntO c) (s : Int) (j : Int) = offT c k + (j : Int) * szT s := by
            unfold recV
            simp only [Int.toNat_natCast]
            rw [if_neg (by rw [HEC.out]; omega), HEO.out]
          have hbo : ∀ n : Nat, n < 7 → 0 ≤ offO c n ∧ offO c n ≤ 1000000 := fun n hn => by
            unfold offO
            split
            · omega
            · have := offT_range c (n - 1) (HOK.out.less (by omega)); omega
          have hbc : ∀ n : Nat, n < 7 → cntO c n ≤ 1024 := fun n hn => by
            unfold cntO
            split
            · omega
            · have := HOK.out n (by omega) (by omega); have := limT_range n; omega
          refine (refRecord_any fr (totT c) (offO c) (cntO c) (s : Int) (j : Int) wr hbo hbc).mono ?_
          rintro e w2 ⟨rfl, hb2⟩
          rw [hrec]
          clear hrec hbo hbc hcc z0 z1 z2 z3 z4 z5 z6 z7 z8 z9 z10 z11 z12 z13 z14 z15
          have hsz2 := (Array.getElem?_eq_some_iff.1 HW.out).1
          have HW2 := Lib.hid ((hb2.block b hsz2).trans HW.out)
          have HB2 := Lib.hid (HB.out.trans (hb2.mono (by omega)))
          clear HW HB hb2
          have hmul : ((j : Int) + 1) * szT s = (j : Int) * szT s + szT s := by rw [Int.add_mul]; omega
          have HM := Lib.hid hmul
          obtain ⟨r, hr⟩ : ∃ r, r = offT c k + (j : Int) * szT s := ⟨_, rfl⟩
          rw [← hr] at hat ⊢
          have HRR := Lib.hid hr
          have hr2 : 0 ≤ r ∧ r ≤ 1000000 := by omega
          have hw1 : IntKind.i64.wrap (r + szT s) = r + szT s := IntWalk.i64_in _ (by omega)
          clear hmul hr hpr hro
          by_cases c1 : r ≤ at_
          · have f1 : decide (r ≤ at_) = true := decide_eq_true c1
            by_cases c2 : at_ < r + szT s
            · have f2 : decide (at_ < r + szT s) = true := decide_eq_true c2
              go_wp2_with fail
              refine (refSize_any (s : Int) _).mono ?_
              rintro e w3 ⟨rfl, rfl⟩
              rw [sizeV_szT]
              go_wp2
              go_ret2
              refine ⟨?_, by rw [hb]; exact HB2.out⟩
              have hk1 : s - 1 = k := by have := ES.out; omega
              rw [secT_rec HOK.out hs1 hsn6 (i := (j : Int)) (by omega) hjl (by rw [hk1, ← HRR.out]; exact c1) (by rw [hk1, ← HRR.out]; exact c2)]
              rfl
            · have f2 : decide (at_ < r + szT s) = false := decide_eq_false c2
              go_wp2_with fail
              refine (refSize_any (s : Int) _).mono ?_
              rintro e w3 ⟨rfl, rfl⟩
              rw [sizeV_szT]
              go_wp2
              go_roundw
              case rel => exact ⟨j + 1, by omega, by go_num, by have := HM.out; have := HRR.out; push_cast; omega, HW2.out, HB2.out⟩
              case measure => simp [intOf]; omega
          · have f1 : decide (r ≤ at_) = false := decide_eq_false c1
            go_wp2
            go_roundw
            case rel => exact ⟨j + 1, by omega, by go_num, by have := HM.out; have := HRR.out; push_cast; omega, HW2.out, HB2.out⟩
            case measure => simp [intOf]; omega
        · have hje : (j : Int) = c s := by omega
          go_wp2
          go_roundw
          case rel =>
            refine ⟨s, hsn6, by go_num, fun y hy => ?_, hrow, hbel⟩
            by_cases hy2 : y.val < k
            · exact HNO.out y ((mem_upT (by omega)).2 hy2)
            · have hys := (mem_upT hsn6).1 hy
              have hyk : y.val = k := by have := ES.out; omega
              rw [hyk]
              unfold inT
              rw [← ES.out, show s - 1 = k from by have := ES.out; omega, ← hje]
              omega
          case measure => simp [intOf]; omega
    · obtain rfl : k = 6 := by omega
      go_wp2
      go_ret2
      refine ⟨?_, by rw [hb]; exact hbel⟩
      rw [HE.out, secGo_none hno]
      rfl
end Go.Proofs.Ythnognjcbjgkbaa
