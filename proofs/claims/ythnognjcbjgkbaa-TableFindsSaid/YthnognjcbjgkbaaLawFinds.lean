/-
  What the law TableFinds computes: true.
-/
import Derived.Test.YthnognjcbjgkbaaTab12
namespace Go.Proofs.Ythnognjcbjgkbaa
set_option linter.unusedVariables false
open Go.RowKit Go.Shelf

theorem two_cells {w : World} {q ty : Nat} {x y : Value} (hq : w.heap[q]? = some (.cells #[x, y] ty (0, 0))) :
    w.cell? ⟨q, 0, none⟩ = some x ∧ w.cell? ⟨q, 1, none⟩ = some y := by
  refine ⟨?_, ?_⟩ <;> (rw [cell_of_row w q _ _ _ (0, 0) hq]; rfl)

/-- the four variables of the law -/
structure FndW (W : World) (b q1 q2 : Nat) (c : Nat → Int) (x0 x1 : Int) : Prop where
  r1 : W.heap[b + 1]? = some (.cells #[.int .i64 x0, .int .i64 x1] 33 (0, 0))
  r2 : W.heap[q1]? = some (.cells (tabA 1 (totT c) (offO c) (cntO c)) 25 (0, 0))
  r3 : W.heap[q2]? = some (.cells (tabA 1 (totT c) (offO c) (cntO c)) 28 (0, 0))
theorem FndW.after {W W' : World} {b q1 q2 : Nat} {c : Nat → Int} {x0 x1 : Int} (h : FndW W b q1 q2 c x0 x1) (hb : Below W.heap.size W W') : FndW W' b q1 q2 c x0 x1 := by
  have up : ∀ {k : Nat} {o : Obj}, W.heap[k]? = some o → W'.heap[k]? = some o := fun {k o} hk => (hb.block k (Array.getElem?_eq_some_iff.1 hk).1).trans hk
  exact ⟨up h.r1, up h.r2, up h.r3⟩

/-- what a record's offset is good for -/
theorem rec_found {c : Nat → Int} (hok : okT c 6) (s i : Int) : recV (offO c) (cntO c) s i < 0 ∨
    (0 ≤ recV (offO c) (cntO c) s i ∧ recV (offO c) (cntO c) s i ≤ 500000 ∧ 8 ≤ sizeV s ∧ sizeV s ≤ 56 ∧ secT c (recV (offO c) (cntO c) s i) = (s, i) ∧ secT c (recV (offO c) (cntO c) s i + sizeV s - 1) = (s, i)) := by
  by_cases h : s < 1 ∨ 6 < s ∨ i < 0 ∨ cntO c s.toNat ≤ i
  · left; unfold recV; rw [if_pos h]; omega
  · right
    obtain ⟨n, rfl⟩ : ∃ n : Nat, s = (n : Int) := ⟨s.toNat, by omega⟩
    unfold recV
    rw [if_neg h, Int.toNat_natCast]
    rw [Int.toNat_natCast] at h
    have ec : cntO c n = c n := by unfold cntO; rw [if_neg (by omega)]
    have eo : offO c n = offT c (n - 1) := by unfold offO; rw [if_neg (by omega)]
    rw [ec] at h
    rw [eo, sizeV_szT]
    have hro := offT_range c (n - 1) (hok.less (by omega))
    have hrc := hok n (by omega) (by omega)
    have hrl := limT_range n
    have hrz := szT_range n
    have hzp := szT_pos (s := n) (by omega) (by omega)
    have hpr := prod_range (show 0 ≤ i by omega) (show i ≤ 1024 by omega) hrz.1 hrz.2
    exact ⟨by omega, by omega, hzp, hrz.2, secT_rec hok (by omega) (by omega) (by omega) (by omega) (by omega) (by omega), secT_rec hok (by omega) (by omega) (by omega) (by omega) (by omega) (by omega)⟩

set_option maxRecDepth 100000 in
set_option maxHeartbeats 8000000 in
theorem TableFinds_any (c : Nat → Int) (at_ x0 x1 : Int) (w : World) (hat : -9223372036854775808 ≤ at_ ∧ at_ ≤ 9223372036854775807) :
    Calls Try.prog 4 #[.agg (cntA c), .int .i64 at_, .agg #[.int .i64 x0, .int .i64 x1]] w (AliveOK w) := by
  obtain ⟨k0, k1, k2, k3, k4, k5, k6⟩ := seven_cells ((Below.heap_alloc (w.alloc (.cells (cntA c) 23)) (.cells #[.int .i64 x0, .int .i64 x1] 33) w.heap.size (by simp)).trans (heap_alloc_new w (.cells (cntA c) 23)))
  have HB0 := Lib.hid (((Below.refl w.heap.size w).alloc (Nat.le_refl _) (.cells (cntA c) 23)).alloc (by simp) (.cells #[.int .i64 x0, .int .i64 x1] 33))
  have HR0 := Lib.hid ((Below.heap_alloc (w.alloc (.cells (cntA c) 23)) (.cells #[.int .i64 x0, .int .i64 x1] 33) w.heap.size (by simp)).trans (heap_alloc_new w (.cells (cntA c) 23)))
  have hx0 : ((w.alloc (.cells (cntA c) 23)).alloc (.cells #[.int .i64 x0, .int .i64 x1] 33)).heap[w.heap.size + 1]? = some (.cells #[.int .i64 x0, .int .i64 x1] 33 (0, 0)) := by
    have h := heap_alloc_new (w.alloc (.cells (cntA c) 23)) (.cells #[.int .i64 x0, .int .i64 x1] 33)
    rwa [World.size_alloc] at h
  have HX0 := Lib.hid hx0
  have hz0 : ((w.alloc (.cells (cntA c) 23)).alloc (.cells #[.int .i64 x0, .int .i64 x1] 33)).heap.size = w.heap.size + 2 := by simp
  have HZ0 := Lib.hid hz0
  clear hx0 hz0
  by_cases hsm : smT c 6
  case neg =>
    have hs0 := smB_false hsm
    have HS0 := Lib.hid hs0
    clear hs0
    go_enter Try.func4, Try.ntmps4
    go_wp2_with fail
    refine (small_any c _).mono ?_
    rintro e w1 ⟨rfl, hb1⟩
    rw [HS0.out]
    have HB1 := Lib.hid (HB0.out.trans (hb1.mono (by rw [HZ0.out]; omega)))
    clear hb1
    go_wp2_with fail
    refine (alive10 _).mono ?_
    rintro e w2 ⟨rfl, hb2⟩
    go_wp2
    go_ret
    exact ⟨rfl, HB1.out.trans (hb2.mono HB1.out.size)⟩
  have hok := hsm.ok
  have HS0 := Lib.hid (smB_true hsm)
  have s1 := store_new (tabT 1 c) rfl (tab_all _ _ _ _) 25
  have s2 := store_new (tabT 1 c) rfl (tab_all _ _ _ _) 28
  have hf := rec_found hok x0 x1
  have hbo : ∀ n : Nat, n < 7 → 0 ≤ offO c n ∧ offO c n ≤ 1000000 := fun n hn => by
    unfold offO
    split
    · omega
    · have := offT_range c (n - 1) (hok.less (by omega)); omega
  have hbc : ∀ n : Nat, n < 7 → cntO c n ≤ 1024 := fun n hn => by
    unfold cntO
    split
    · omega
    · have := hok n (by omega) (by omega); have := limT_range n; omega
  have HBO := Lib.hid hbo
  have HBC := Lib.hid hbc
  have HOK := Lib.hid hok
  have HF := Lib.hid hf
  clear hok hsm hf hbo hbc
  go_enter Try.func4, Try.ntmps4
  go_wp2_with fail
  refine (small_any c _).mono ?_
  rintro e w1 ⟨rfl, hb1⟩
  rw [HS0.out]
  have HB1 := Lib.hid (HB0.out.trans (hb1.mono (by rw [HZ0.out]; omega)))
  have HR1 := Lib.hid ((hb1.block w.heap.size (by rw [HZ0.out]; omega)).trans HR0.out)
  have HX1 := Lib.hid ((hb1.block (w.heap.size + 1) (by rw [HZ0.out]; omega)).trans HX0.out)
  have hl1 : w.heap.size + 2 ≤ w1.heap.size := by have := hb1.size; rw [HZ0.out] at this; omega
  clear hb1 k0 k1 k2 k3 k4 k5 k6 HR0 HX0 HB0 HZ0
  obtain ⟨k0, k1, k2, k3, k4, k5, k6⟩ := seven_cells HR1.out
  go_wp2_with fail
  refine (For_res 1 c _).mono ?_
  rintro e w2 ⟨rfl, hb2⟩
  rw [okB_true HOK.out, tabR_true HOK.out]
  have HB2 := Lib.hid (HB1.out.trans (hb2.mono HB1.out.size))
  have HR2 := Lib.hid ((hb2.block w.heap.size (by omega)).trans HR1.out)
  have HX2 := Lib.hid ((hb2.block (w.heap.size + 1) (by omega)).trans HX1.out)
  have hl2 : w.heap.size + 2 ≤ w2.heap.size := by have := hb2.size; omega
  clear hb2 k0 k1 k2 k3 k4 k5 k6 HR1 HX1 HB1
  obtain ⟨k0, k1, k2, k3, k4, k5, k6⟩ := seven_cells ((Below.heap_alloc w2 (.cells (tabT 1 c) 25) w.heap.size (by omega)).trans HR2.out)
  go_wp2_with fail
  refine (refFor_res 1 c _).mono ?_
  rintro e w3 ⟨rfl, hb3⟩
  rw [okB_true HOK.out, tabR_true HOK.out]
  have hs3 := hb3.size
  simp at hs3
  have hl3 : w.heap.size + 2 ≤ w3.heap.size := by omega
  have HB3 := Lib.hid (((HB2.out.alloc HB2.out.size (.cells (tabT 1 c) 25)).trans (hb3.mono (by have := HB2.out.size; simp; omega))).alloc (by omega) (.cells (tabT 1 c) 28))
  have x3 := (Below.heap_alloc w3 (.cells (tabT 1 c) 28) (w.heap.size + 1) (by omega)).trans ((hb3.block (w.heap.size + 1) (by simp; omega)).trans ((Below.heap_alloc w2 (.cells (tabT 1 c) 25) (w.heap.size + 1) (by omega)).trans HX2.out))
  have t3 := (Below.heap_alloc w3 (.cells (tabT 1 c) 28) w2.heap.size (by omega)).trans ((hb3.block w2.heap.size (by simp)).trans (heap_alloc_new w2 (.cells (tabT 1 c) 25)))
  have F3 := Lib.hid (show FndW (w3.alloc (.cells (tabT 1 c) 28)) w.heap.size w2.heap.size w3.heap.size c x0 x1 from ⟨x3, t3, heap_alloc_new w3 _⟩)
  have hl3' : w.heap.size ≤ (w3.alloc (.cells (tabT 1 c) 28)).heap.size := by simp; omega
  clear hb3 k0 k1 k2 k3 k4 k5 k6 HR2 HX2 HB2 x3 t3 hs3
  go_upto_region 5 with fail
  generalize w3.alloc (.cells (tabT 1 c) 28) = W3 at *
  generalize w2.heap.size = q1 at *
  generalize w3.heap.size = q2 at *
  refine wp_region_lit ?_
  refine wpList_load_row rfl 25 (.tmp 7) rfl q1 rfl 25 (tabT 1 c) (0, 0) _ F3.out.r2 Try.underlying25 rfl infoT ?_
  go_wp2_with fail
  refine (Section_any 1 c at_ W3 HOK.out).mono ?_
  rintro e w4 ⟨rfl, hb4⟩
  have F4 := Lib.hid (F3.out.after hb4)
  have HB4 := Lib.hid (HB3.out.trans (hb4.mono hl3'))
  have HRef := Lib.hid (fun (w1 : World) => refSection_any 1 c at_ w1 HOK.out hat)
  have hsec : ∀ w1 : World, SecOK c at_ w1 = fun e w' => e = .returned (.tuple #[.int .i64 (secT c at_).1, .int .i64 (secT c at_).2]) ∧ Below w1.heap.size w1 w' := fun _ => rfl
  simp only [hsec] at HRef
  generalize (secT c at_).1 = a1 at *
  generalize (secT c at_).2 = a2 at *
  have hl4 : w.heap.size ≤ w4.heap.size := HB4.out.size
  clear hb4 hsec s1 s2 HS0 HB3 F3
  go_upto_region 6 with fail
  refine wp_region_lit ?_
  refine wpList_load_row rfl 28 (.tmp 9) rfl q2 rfl 28 (tabT 1 c) (0, 0) _ F4.out.r3 Try.underlying28 rfl infoR ?_
  go_wp2_with fail
  refine (HRef.out w4).mono ?_
  rintro e w5 ⟨rfl, hb5⟩
  have F5 := Lib.hid (F4.out.after hb5)
  have HB5 := Lib.hid (HB4.out.trans (hb5.mono hl4))
  have hl5 : w.heap.size ≤ w5.heap.size := HB5.out.size
  clear hb5 HB4 F4 HRef
  obtain ⟨y0, y1⟩ := two_cells F5.out.r1
  go_upto_region 7 with fail
  refine wp_region_lit ?_
  refine wpList_load_row rfl 25 (.tmp 7) rfl q1 rfl 25 (tabT 1 c) (0, 0) _ F5.out.r2 Try.underlying25 rfl infoT ?_
  go_wp2_with fail
  refine (Record_any 1 (totT c) (offO c) (cntO c) x0 x1 w5 HBO.out HBC.out).mono ?_
  rintro e w6 ⟨rfl, hb6⟩
  have F6 := Lib.hid (F5.out.after hb6)
  have HB6 := Lib.hid (HB5.out.trans (hb6.mono hl5))
  have HR6 := Lib.hid (fun (w1 : World) => refRecord_any 1 (totT c) (offO c) (cntO c) x0 x1 w1 HBO.out HBC.out)
  generalize recV (offO c) (cntO c) x0 x1 = r at *
  have hl6 : w.heap.size ≤ w6.heap.size := HB6.out.size
  clear hb6 y0 y1 HB5 F5 HBO HBC
  obtain ⟨z0, z1, z2, z3, z4, z5, z6, z7, z8, z9, z10, z11, z12, z13, z14, z15⟩ := tab_cells F6.out.r3
  obtain ⟨y0, y1⟩ := two_cells F6.out.r1
  go_wp2_with fail
  refine (HR6.out w6).mono ?_
  rintro e w7 ⟨rfl, hb7⟩
  have F7 := Lib.hid (F6.out.after hb7)
  have HB7 := Lib.hid (HB6.out.trans (hb7.mono hl6))
  have hl7 : w.heap.size ≤ w7.heap.size := HB7.out.size
  clear hb7 z0 z1 z2 z3 z4 z5 z6 z7 z8 z9 z10 z11 z12 z13 z14 z15 y0 y1 HB6 F6 HR6
  have hf := HF.out
  clear HF
  by_cases hr0 : r < 0
  · have e0 : decide (0 ≤ r) = false := decide_eq_false (by omega)
    clear hf
    go_wp2_with fail
    refine (alive10 _).mono ?_
    rintro e w8 ⟨rfl, hb8⟩
    go_wp2
    go_ret
    exact ⟨rfl, HB7.out.trans (hb8.mono hl7)⟩
  · have e0 : decide (0 ≤ r) = true := decide_eq_true (by omega)
    obtain ⟨hr1, hr2, hz1, hz2, hA, hB⟩ : 0 ≤ r ∧ r ≤ 500000 ∧ 8 ≤ sizeV x0 ∧ sizeV x0 ≤ 56 ∧ secT c r = (x0, x1) ∧ secT c (r + sizeV x0 - 1) = (x0, x1) := by
      rcases hf with h | h
      · exact absurd h hr0
      · exact h
    clear hf
    have HA := Lib.hid hA
    have HBB := Lib.hid hB
    have hSz := Lib.hid (fun w1 => refSize_any x0 w1)
    generalize sizeV x0 = z at *
    have hw1 : IntKind.i64.wrap (r + z) = r + z := IntWalk.i64_in _ (by omega)
    have hw2 : IntKind.i64.wrap (r + z - 1) = r + z - 1 := IntWalk.i64_in _ (by omega)
    clear hA hB
    go_upto_region 11 with fail
    refine wp_region_lit ?_
    refine wpList_load_row rfl 25 (.tmp 7) rfl q1 rfl 25 (tabT 1 c) (0, 0) _ F7.out.r2 Try.underlying25 rfl infoT ?_
    go_wp2_with fail
    refine (Section_any 1 c r w7 HOK.out).mono ?_
    rintro e w8 ⟨rfl, hb8⟩
    rw [HA.out]
    have F8 := Lib.hid (F7.out.after hb8)
    have HB8 := Lib.hid (HB7.out.trans (hb8.mono hl7))
    have hl8 : w.heap.size ≤ w8.heap.size := HB8.out.size
    clear hb8 HB7 F7
    have hfol : Try.prog.follows Departure.mixedOrders = true := by kernel_rfl
    have kr : ∀ w', Below w8.heap.size w8 w' → w'.heap[q1]? = some (.cells (tabT 1 c) 25 (0, 0)) := fun w' h => (F8.out.after h).r2
    have kx : ∀ w', Below w8.heap.size w8 w' → w'.cell? ⟨w.heap.size + 1, 0, none⟩ = some (.int .i64 x0) := fun w' h => (two_cells (F8.out.after h).r1).1
    have hsz : ∀ w', Below w8.heap.size w8 w' → CallsIn Fence.wide (3 - 1) Try.prog 17 #[.int .i64 x0] w' fun e w'' => e = .returned (.int .i64 z) ∧ Below w8.heap.size w8 w'' :=
      fun w' h => (callsIn_wide.2 (hSz.out w')).mono (fun e w'' ⟨he, hw⟩ => ⟨he, by rw [← hw]; exact h⟩)
    have hsec : ∀ w', Below w8.heap.size w8 w' → CallsIn Fence.wide (3 - 1) Try.prog 13 #[.agg (tabT 1 c), .int .i64 (r + z - 1)] w' fun e w'' => e = .returned (.tuple #[.int .i64 x0, .int .i64 x1]) ∧ Below w8.heap.size w8 w'' :=
      fun w' h => (callsIn_wide.2 (Section_any 1 c (r + z - 1) w' HOK.out)).mono (fun e w'' ⟨he, hw⟩ => ⟨by rw [he, HBB.out], h.trans (hw.mono h.size)⟩)
    go_upto_region 12 with fail
    refine (wpIn_wide (n := 3)).1 ?_
    refine wpIn_region_class (fun w' => Below w8.heap.size w8 w') hfol rfl (by kernel_rfl) (Below.drew' (Below.refl _ w8)) ?_
    refine Go.BigFrame.wpQuietIn_want (fun _ _ _ _ => trivial) rfl (fun K hK => quiet_load_row 25 (.tmp 7) rfl q1 rfl 25 (tabT 1 c) (0, 0) _ kr Try.underlying25 rfl infoT (hK _ ?_))
    repeat (refine wpQuietIn_step (fun _ _ _ _ => trivial) (fun K hK => ?_); go_simp; first | (refine ⟨_, fun _ _ => rfl, hK _ ?_⟩; clear hK K) | (refine hK _ ?_; clear hK K))
    refine wpQuietIn_step (fun _ _ _ _ => trivial) (fun K hK => ?_); go_simp; refine ⟨ .int .i64 x0, fun w' hw' => ?_, hK _ ?_⟩; · rw [kx w' hw']; exact ⟨rfl, rfl⟩
    clear hK K
    refine wpQuietIn_step (fun _ _ _ _ => trivial) (fun K hK => ?_); go_simp; refine ⟨ .int .i64 z, hsz, hK _ ?_⟩
    clear hK K
    repeat (refine wpQuietIn_step (fun _ _ _ _ => trivial) (fun K hK => ?_); go_simp; first | (refine ⟨_, fun _ _ => rfl, hK _ ?_⟩; clear hK K) | (refine hK _ ?_; clear hK K))
    refine wpQuietIn_step (fun _ _ _ _ => trivial) (fun K hK => ?_); go_simp; refine ⟨ .tuple #[.int .i64 x0, .int .i64 x1], hsec, hK _ ?_⟩
    clear hK K
    repeat (refine wpQuietIn_step (fun _ _ _ _ => trivial) (fun K hK => ?_); go_simp; first | (refine ⟨_, fun _ _ => rfl, hK _ ?_⟩; clear hK K) | (refine hK _ ?_; clear hK K))
    refine wpQuietIn_nil ?_
    intro w9 hb9
    have F9 := Lib.hid (F8.out.after hb9)
    have HB9 := Lib.hid (HB8.out.trans (hb9.mono hl8))
    have hl9 : w.heap.size ≤ w9.heap.size := HB9.out.size
    clear hb9 kr kx hsz hsec F8 HB8
    go_wp2_with fail
    refine (alive10 _).mono ?_
    rintro e w10 ⟨rfl, hb10⟩
    obtain ⟨y0, y1⟩ := two_cells (F9.out.after hb10).r1
    go_wp2
    go_ret
    exact ⟨by simp, HB9.out.trans (hb10.mono hl9)⟩
end Go.Proofs.Ythnognjcbjgkbaa
