/-
  Contract of the reference's For.
-/
import Derived.Test.YthnognjcbjgkbaaTab5
import Derived.Deep.Cut
import Derived.Great.BuildSlice
namespace Go.Proofs.Ythnognjcbjgkbaa
set_option linter.unusedVariables false
open Go.RowKit Go.Shelf

theorem bpost_at {P : Program} {fn : Func} {R : Ending → World → Prop} {e : Exit} {a : Act} {w : World} (h : ∀ Wf, Wf = w → bodyPost P fn R e a Wf) : bodyPost P fn R e a w := h w rfl
theorem drewN_below {B : Nat} {w w' : World} (h : Below B w w') (n : Nat) : Below B w (w'.drewN n) := ⟨h.os, h.tape, h.output, h.size, h.block⟩
/-- the reference's layout under way, k sections done -/
def refO (c : Nat → Int) (k : Nat) (s : Nat) : Int := if s = 0 ∨ k < s then 0 else offT c (s - 1)
def refC (c : Nat → Int) (k : Nat) (s : Nat) : Int := if s = 0 ∨ k < s then 0 else c s
structure RefW (W : World) (b : Nat) (fr : Int) (c : Nat → Int) (k : Nat) : Prop where
  r0 : W.heap[b]? = some (.cells (cntA c) 23 (0, 0))
  r1 : W.heap[b + 1]? = some (.cells tabZ 28 (0, 0))
  r2 : W.heap[b + 1 + 1]? = some (.cells (tabA fr 0 (refO c k) (refC c k)) 28 (0, 0))

theorem RefW.after {W W' : World} {b : Nat} {fr : Int} {c : Nat → Int} {k : Nat} (h : RefW W b fr c k) (hb : Below W.heap.size W W') : RefW W' b fr c k := by
  have up : ∀ {k : Nat} {o : Obj}, W.heap[k]? = some o → W'.heap[k]? = some o := fun {k o} hk => (hb.block k (Array.getElem?_eq_some_iff.1 hk).1).trans hk
  exact ⟨up h.r0, up h.r1, up h.r2⟩
theorem three_new (w : World) (o1 o2 o3 : Obj) : (((w.alloc o1).alloc o2).alloc o3).heap[w.heap.size]? = some o1 ∧ (((w.alloc o1).alloc o2).alloc o3).heap[w.heap.size + 1]? = some o2 ∧ (((w.alloc o1).alloc o2).alloc o3).heap[w.heap.size + 1 + 1]? = some o3 := by
  have a1 := heap_alloc_new w o1
  have a2 := heap_alloc_new (w.alloc o1) o2
  have a3 := heap_alloc_new ((w.alloc o1).alloc o2) o3
  simp only [World.size_alloc] at a2 a3
  have up : ∀ (W : World) (o o' : Obj) (k : Nat), W.heap[k]? = some o → (W.alloc o').heap[k]? = some o := fun W o o' k h => (Below.heap_alloc W o' k (Array.getElem?_eq_some_iff.1 h).1).trans h
  exact ⟨up _ _ _ _ (up _ _ _ _ a1), up _ _ _ _ a2, a3⟩
theorem refO_next (c : Nat → Int) (k : Nat) : upd (refO c k) (k + 1) (offT c k) = refO c (k + 1) := by
  funext s
  unfold upd refO
  by_cases h : s = k + 1
  · subst h
    rw [if_pos rfl, if_neg (by omega)]
    rfl
  · rw [if_neg h]
    by_cases h2 : s = 0 ∨ k < s
    · rw [if_pos h2, if_pos (by omega)]
    · rw [if_neg h2, if_neg (by omega)]
theorem refC_next (c : Nat → Int) (k : Nat) : upd (refC c k) (k + 1) (c (k + 1)) = refC c (k + 1) := by
  funext s
  unfold upd refC
  by_cases h : s = k + 1
  · subst h
    rw [if_pos rfl, if_neg (by omega)]
  · rw [if_neg h]
    by_cases h2 : s = 0 ∨ k < s
    · rw [if_pos h2, if_pos (by omega)]
    · rw [if_neg h2, if_neg (by omega)]
theorem tabT_ref (fr : Int) (c : Nat → Int) : tabA fr (offT c 6 + 4) (refO c 6) (refC c 6) = tabT fr c := rfl
theorem limV_limT {s : Nat} (h1 : 1 ≤ s) (h6 : s ≤ 6) : limV (s : Int) = limT s := by
  have : s = 1 ∨ s = 2 ∨ s = 3 ∨ s = 4 ∨ s = 5 ∨ s = 6 := by omega
  rcases this with rfl | rfl | rfl | rfl | rfl | rfl <;> rfl

set_option maxRecDepth 100000 in
set_option maxHeartbeats 4000000 in
theorem refFor_any (fr : Int) (c : Nat → Int) (w : World) :
    Calls Try.prog 10 #[.int .u64 fr, .agg (cntA c)] w fun e w' =>
      (okT c 6 → e = .returned (.tuple #[.agg (tabT fr c), .bool true])) ∧ (¬ okT c 6 → e = .returned (.tuple #[.agg tabZ, .bool false])) ∧ Below w.heap.size w w' := by
  go_enter Try.func10, Try.ntmps10
  go_wp2_with fail
  go_loopw [7, 8] (fun n i wr => ∃ k : Nat, k ≤ 6 ∧ i = .int .i64 ((k : Int) + 1) ∧ n = .int .i64 (offT c k) ∧ okT c k ∧ RefW wr w.heap.size fr c k ∧ Below w.heap.size w wr) (fun _ i _ => 8 - (intOf i).toNat)
  case atStart =>
    refine ⟨0, Nat.zero_le _, rfl, rfl, okT.zero c, ?_, ((((Below.refl _ w).alloc (Nat.le_refl _) _).alloc (by simp) _).alloc (by simp; omega) _)⟩
    obtain ⟨a1, a2, a3⟩ := three_new w (.cells (cntA c) 23) (.cells tabZ 28) (.cells (tabA fr 0 (refO c 0) (refC c 0)) 28)
    exact ⟨a1, a2, a3⟩
  case round =>
    obtain ⟨k, hk, rfl, rfl, hok, hW, hB⟩ := hrel
    generalize hb : w.heap.size = b at *
    obtain ⟨ra, rb, _⟩ := offT_range c k hok
    have HW := Lib.hid hW
    have HB := Lib.hid hB
    have HO := Lib.hid hok
    by_cases hlt : k < 6
    · obtain ⟨s, hs⟩ : ∃ s : Nat, s = k + 1 := ⟨_, rfl⟩
      have es : ((k : Int) + 1) = (s : Int) := by omega
      rw [es]
      have hs7 : s < 7 := by omega
      have hs7i : (s : Int) < 7 := by omega
      have hs1 : 1 ≤ s := by omega
      have k0 := cnt_cell hW.r0 s hs7
      have HS := Lib.hid hs
      have hH := Lib.hid (fun w1 => Limit_any (s : Int) w1)
      rw [limV_limT hs1 (by omega)] at hH
      clear hs es hW hB hok
      have hle6 : (s : Int) ≤ 6 := by omega
      by_cases hneg : c s < 0
      · have hd : decide (c s < 0) = true := decide_eq_true hneg
        go_wp2_with fail
        go_quiet (exact (hH.out _).mono (fun e w'' ⟨he, hw⟩ => ⟨he, _, hw.symm⟩))
        go_upto_region 7 with fail
        refine wp_region_lit ?_
        refine wpList_buildTo rfl 28 #[] rfl (some 27) rfl tabZ (by kernel_rfl) ?_
        refine wpList_store_rowTo rfl 28 (.tmp 4) (.tmp 27) rfl rfl (b + 1) tabZ rfl rfl 28 tabZ HW.out.r1 infoR rfl (tab_all _ _ _ _) ?_
        go_wp2
        have r1 := setRow_heap (wr.drewN nq) (b + 1) tabZ tabZ 28 (0, 0) HW.out.r1
        refine bodyPost_ret (v := .tuple #[.agg tabZ, .bool false]) ?_ rfl ⟨fun h => ?_, fun _ => rfl, by rw [hb]; exact setRow_below (drewN_below HB.out nq) (by omega) _⟩
        · exact results_row_tmp rfl _ (b + 1) 28 tabZ (0, 0) _ rfl r1 Try.underlying28 rfl infoR (.bool false) rfl
        have g := h s hs1 (by omega)
        omega
      · have hd : decide (c s < 0) = false := decide_eq_false hneg
        by_cases hbig : limT s < c s
        · have hd2 : decide (limT s < c s) = true := decide_eq_true hbig
          go_wp2_with fail
          go_quiet (exact (hH.out _).mono (fun e w'' ⟨he, hw⟩ => ⟨he, _, hw.symm⟩))
          go_upto_region 7 with fail
          refine wp_region_lit ?_
          refine wpList_buildTo rfl 28 #[] rfl (some 27) rfl tabZ (by kernel_rfl) ?_
          refine wpList_store_rowTo rfl 28 (.tmp 4) (.tmp 27) rfl rfl (b + 1) tabZ rfl rfl 28 tabZ HW.out.r1 infoR rfl (tab_all _ _ _ _) ?_
          go_wp2
          have r1 := setRow_heap (wr.drewN nq) (b + 1) tabZ tabZ 28 (0, 0) HW.out.r1
          refine bodyPost_ret (v := .tuple #[.agg tabZ, .bool false]) ?_ rfl ⟨fun h => ?_, fun _ => rfl, by rw [hb]; exact setRow_below (drewN_below HB.out nq) (by omega) _⟩
          · exact results_row_tmp rfl _ (b + 1) 28 tabZ (0, 0) _ rfl r1 Try.underlying28 rfl infoR (.bool false) rfl
          have g := h s hs1 (by omega)
          omega
        · have hd2 : decide (limT s < c s) = false := decide_eq_false hbig
          obtain ⟨l0, l1⟩ := limT_range s
          obtain ⟨q0, q1⟩ := szT_range s
          obtain ⟨p0, p1⟩ := prod_range (show 0 ≤ c s by omega) (show c s ≤ 1024 by omega) q0 q1
          obtain ⟨t0, t1⟩ := tab_cell HW.out.r2 s hs7
          have tf := tab_free HW.out.r2
          have hS := Lib.hid (fun w1 => refSize_any (s : Int) w1)
          rw [sizeV_szT] at hS
          have hA := Lib.hid (fun w1 => refAlign_any (offT c k + c s * szT s) w1 (by omega) (by omega))
          have e1 : IntKind.i64.wrap (c s * szT s) = c s * szT s := IntWalk.i64_in _ (by omega)
          have e2 : IntKind.i64.wrap (offT c k + c s * szT s) = offT c k + c s * szT s := IntWalk.i64_in _ (by omega)
          go_wp2_with fail
          go_quiet (exact (hH.out _).mono (fun e w'' ⟨he, hw⟩ => ⟨he, _, hw.symm⟩))
          go_wp2_with fail
          clear hd hd2
          obtain ⟨nq_1, hnq⟩ : ∃ m : Nat, m = nq := ⟨_, rfl⟩
          rw [← hnq]
          go_quiet (first | exact (hS.out _).mono (fun e w'' ⟨he, hw⟩ => ⟨he, _, hw.symm⟩) | exact (hA.out _).mono (fun e w'' ⟨he, hw⟩ => ⟨he, _, hw.symm⟩))
          go_wp2
          have eO : offT c s = al (offT c k + c s * szT s) := by rw [HS.out]; rfl
          have h1 := tab_off (w := wr.drewN nq_1) HW.out.r2 s hs7 (offT c k)
          have h2 := tab_cnt h1 s hs7 (c s)
          rw [HS.out, refO_next, refC_next, ← HS.out] at h2
          refine ⟨⟨s, by omega, rfl, by rw [eO], by rw [HS.out]; exact okT.succ HO.out (by rw [← HS.out]; omega) (by rw [← HS.out]; omega), ⟨?_, ?_, h2⟩, ?_⟩, by simp [intOf]; omega⟩
          · exact ((Below.heap_setCell _ _ _ _ (by show b ≠ b + 1 + 1; omega)).trans (Below.heap_setCell _ _ _ _ (by show b ≠ b + 1 + 1; omega))).trans HW.out.r0
          · exact ((Below.heap_setCell _ _ _ _ (by show b + 1 ≠ b + 1 + 1; omega)).trans (Below.heap_setCell _ _ _ _ (by show b + 1 ≠ b + 1 + 1; omega))).trans HW.out.r1
          · exact drewN_below (((drewN_below HB.out _).setCell (by show b ≤ b + 1 + 1; omega) _).setCell (by show b ≤ b + 1 + 1; omega) _) _
    · obtain rfl : k = 6 := by omega
      have v1 := tab_one hW.r2
      have vf := tab_free hW.r2
      have R2 := Lib.hid (tab_tot hW.r2 (offT c 6 + 4))
      have R1 := Lib.hid ((Below.heap_setCell wr ⟨b + 1 + 1, 1, none⟩ (.int .i64 (offT c 6 + 4)) (b + 1) (by show b + 1 ≠ b + 1 + 1; omega)).trans hW.r1)
      clear hW hB hok
      go_upto_region 12 with fail
      refine wp_region_lit ?_
      refine wpList_load_row rfl 28 (.tmp 6) rfl (b + 1 + 1) rfl 28 (tabA fr (offT c 6 + 4) (refO c 6) (refC c 6)) (0, 0) _ R2.out Try.underlying28 rfl infoR ?_
      refine wpList_store_rowTo rfl 28 (.tmp 4) (.tmp 50) rfl rfl (b + 1) (tabA fr (offT c 6 + 4) (refO c 6) (refC c 6)) rfl rfl 28 tabZ R1.out infoR rfl (tab_all _ _ _ _) ?_
      go_wp2
      have r1 := setRow_heap _ (b + 1) tabZ (tabA fr (offT c 6 + 4) (refO c 6) (refC c 6)) 28 (0, 0) R1.out
      refine bodyPost_ret (v := .tuple #[.agg (tabA fr (offT c 6 + 4) (refO c 6) (refC c 6)), .bool true]) ?_ rfl ⟨fun _ => by rw [tabT_ref], fun h => absurd HO.out h, by rw [hb]; exact setRow_below (HB.out.setCell (by show b ≤ b + 1 + 1; omega) _) (by omega) _⟩
      exact results_row_tmp rfl _ (b + 1) 28 _ (0, 0) _ rfl r1 Try.underlying28 rfl infoR (.bool true) rfl
end Go.Proofs.Ythnognjcbjgkbaa
