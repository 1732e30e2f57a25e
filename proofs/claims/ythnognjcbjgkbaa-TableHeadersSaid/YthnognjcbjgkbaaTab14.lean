/-
  Contract of Gaps.
-/
import Derived.Test.YthnognjcbjgkbaaTab11
import Derived.Test.YthnognjcbjgkbaaTab13
import Derived.Test.YthnognjcbjgkbaaStgO
import Derived.RangeFuncBox
namespace Go.Proofs.Ythnognjcbjgkbaa
set_option linter.unusedVariables false
open Go.RowKit Go.Shelf
attribute [local go_sem] Oper.semAt_some atS upS

def cellsG : List (Int × Int) → List Value
  | [] => []
  | g :: r => .int .i64 g.1 :: .int .i64 g.2 :: cellsG r
theorem cellsG_length (l : List (Int × Int)) : (cellsG l).length = l.length * 2 := by
  induction l with
  | nil => rfl
  | cons g r ih => simp only [cellsG, List.length_cons, ih]; omega
theorem cellsG_append (a b : List (Int × Int)) : cellsG (a ++ b) = cellsG a ++ cellsG b := by
  induction a with
  | nil => rfl
  | cons g r ih => simp only [List.cons_append, cellsG, ih]
theorem cellsG_get : ∀ (l : List (Int × Int)) (j : Nat) (h : j < l.length), (cellsG l)[2 * j]? = some (.int .i64 l[j].1) ∧ (cellsG l)[2 * j + 1]? = some (.int .i64 l[j].2)
  | [], j, h => by simp at h
  | g :: r, 0, h => by simp [cellsG]
  | g :: r, j + 1, h => by
    obtain ⟨a, b⟩ := cellsG_get r j (by simpa using h)
    rw [show 2 * (j + 1) = 2 * j + 1 + 1 from by omega]
    simp only [cellsG, List.getElem?_cons_succ, List.getElem_cons_succ]
    exact ⟨a, b⟩
def gapsL (c : Nat → Int) (pre : List (Fin 6)) : List (Int × Int) := pre.flatMap fun k => gapT c k.val
theorem gapsL_snoc (c : Nat → Int) (pre : List (Fin 6)) (x : Fin 6) : gapsL c (pre ++ [x]) = gapsL c pre ++ gapT c x.val := by simp [gapsL]
theorem gapsL_all (c : Nat → Int) : gapsL c (upT 6) = gapsN c 0 6 := by
  rw [upT_all]
  simp [gapsL, gapsN]
  rfl
theorem gapsL_len (c : Nat → Int) (pre : List (Fin 6)) : (gapsL c pre).length ≤ pre.length := by
  induction pre with
  | nil => simp [gapsL]
  | cons x r ih =>
    show (gapT c x.val ++ gapsL c r).length ≤ r.length + 1
    rw [List.length_append]
    have : (gapT c x.val).length ≤ 1 := by unfold gapT; split <;> simp
    omega

/-- the two variables of Gaps -/
structure GapW (W : World) (b : Nat) (fr : Int) (c : Nat → Int) (v : Value) (G : List (Int × Int)) : Prop where
  r0 : W.heap[b]? = some (.cells (tabT fr c) 25 (0, 0))
  r1 : Boxed W (b + 1) 42 v
  own : W.ownsRow b 33 2 v G.length (cellsG G)
section
variable {W W' : World} {b : Nat} {fr : Int} {c : Nat → Int} {v : Value} {G : List (Int × Int)}
theorem GapW.kept {row : Option Nat} (h : GapW W b fr c v G) (hg : W.grownBy W' row) (hr : ∀ r, row = some r → ∃ o : Obj, W.heap[r]? = some o ∧ o.isCells = false) : GapW W' b fr c v G := by
  refine ⟨row_kept h.r0 hg hr, h.r1.kept hg (fun e' => ?_), h.own.kept hg ?_⟩
  · obtain ⟨o, ho, hc⟩ := hr _ e'.symm
    rw [show W.heap[b + 1]? = _ from h.r1] at ho; cases ho; cases hc
  · rcases h.own.2 with ⟨rfl, _⟩ | ⟨g, cap, cur, rfl, _, hgb, _⟩
    · exact .inl rfl
    · refine .inr fun e' => ?_
      obtain ⟨o, ho, hc⟩ := hr g (by simpa [Value.ownBlock] using e'.symm)
      rw [hgb] at ho; cases ho; cases hc
theorem GapW.after (h : GapW W b fr c v G) (hb : Below W.heap.size W W') : GapW W' b fr c v G :=
  h.kept (row := none) ⟨hb.os, hb.tape, hb.output, hb.size, fun k hk _ => hb.block k hk⟩ (fun r e => by cases e)
theorem GapW.lt (h : GapW W b fr c v G) : b + 2 ≤ W.heap.size := by
  have := h.r1.lt
  omega
end
theorem infoG : (Try.prog.info? 33).map (fun i => (i.zero, i.size, i.bytes)) = some (some (.agg #[.int .i64 0, .int .i64 0]), 2, 16) := by kernel_rfl

/-- what Gaps hands back -/
def GapOK (c : Nat → Int) (w : World) (e : Ending) (w' : World) : Prop :=
  ∃ v, e = .returned v ∧ w'.ownsRow w.heap.size 33 2 v (gapsN c 0 6).length (cellsG (gapsN c 0 6)) ∧ Below w.heap.size w w'

set_option maxRecDepth 100000 in
set_option maxHeartbeats 8000000 in
theorem Gaps_any (fr : Int) (c : Nat → Int) (w : World) (hok : okT c 6) :
    Calls Try.prog 18 #[.agg (tabT fr c)] w (GapOK c w) := by
  have HOK := Lib.hid hok
  clear hok
  obtain ⟨i0, hi, hz0, hz1, hz2⟩ := info_parts infoG
  refine (callsIn_wide (n := 3)).1 ?_
  refine callsIn_of_wp_marks Try.func18 rfl trivial ?_ rfl
  simp only [Try.ntmps18, List.size_toArray, List.length_cons, List.length_nil, Nat.reduceAdd, Nat.reduceSub, Array.replicate_succ, Array.replicate_zero, List.push_toArray, List.append_toArray, List.nil_append, List.cons_append]
  have r0 := heap_alloc_new w (.cells (tabT fr c) 25)
  have r1 := Boxed.new (w.alloc (.cells (tabT fr c) 25)) 42 (.slice none 0 0)
  rw [World.size_alloc] at r1
  have HS := Lib.hid (show GapW ((w.alloc (.cells (tabT fr c) 25)).alloc (.cells #[.slice none 0 0] 42)) w.heap.size fr c (.slice none 0 0) (gapsL c []) from ⟨(Below.heap_alloc _ _ _ (by simp)).trans r0, r1, World.ownsRow_nil _ _ _ _⟩)
  have HB0 := Lib.hid (((Below.refl w.heap.size w).alloc (Nat.le_refl _) (.cells (tabT fr c) 25)).alloc (by simp) (.cells #[.slice none 0 0] 42))
  clear r0 r1
  gi_wp2_with (refine ⟨trivial, ?_⟩; gi_at_call 28; refine (callsIn_wide.2 (sections_any _)).mono ?_; rintro e w' ⟨rfl, rfl⟩)
  have hsz : ((w.alloc (.cells (tabT fr c) 25)).alloc (.cells #[.slice none 0 0] 42)).heap.size = w.heap.size + 2 := by simp
  generalize ((w.alloc (.cells (tabT fr c) 25)).alloc (.cells #[.slice none 0 0] 42)) = w0 at *
  generalize hb : w.heap.size = b at *
  have hfol : Try.prog.follows Departure.mixedOrders = true := by kernel_rfl
  refine wpIn_rangeFunc_ownF rfl (by omega) (gf := 45) (lb := #[]) rfl trivial (enters_of Try.func45 (by kernel_rfl) rfl)
    (sections_stops 2 b (by omega) _) belowK_t (belowK_b (by omega)) (Below.refl _ _) (fun _ => rfl)
    (fun pre W => (∃ v, GapW W b fr c v (gapsL c pre)) ∧ Below b w W)
    (fun d pre W => False)
    (OwnFrom.and (Own.from (fun s A B row hs hg hr => by obtain ⟨v, hs⟩ := hs; exact ⟨v, hs.kept hg hr⟩) _) (ownFrom_below (by omega) (by omega)))
    (fun d => fun _ _ _ _ hs _ _ => hs)
    ⟨⟨_, HS.out⟩, HB0.out⟩
    (fun x => { tmps := #[.agg (tabT fr c), .pointer (some ⟨b, 0, none⟩), .slice none 0 0, .pointer (some ⟨b + 1, 0, none⟩), .int .i64 ((x.val : Int) + 1), undef, .func (.func 45) #[] #[], .int .i64 ((x.val : Int) + 1), .int .i64 (32 + 8 * (x.val : Int)), undef, undef, undef, undef, undef, undef, undef, undef, undef, undef, undef, undef, undef, undef, undef, undef, undef], defers := [] }) ?assign ?body ?done ?stop
  case assign =>
    intro l x W K hK
    gi_wp2
    exact hK
  case body =>
    rintro l pre x W ⟨⟨v, hF⟩, hB⟩ hlen
    obtain ⟨s, hs⟩ : ∃ s : Nat, s = x.val + 1 := ⟨_, rfl⟩
    have hs7 : s < 7 := by omega
    have es : ((x.val : Int) + 1) = (s : Int) := by omega
    have hs7i : (s : Int) < 7 := by omega
    have hs1 : 1 ≤ s := by omega
    have eo : offO c s = offT c x.val := by unfold offO; rw [if_neg (by omega), hs]; rfl
    have ec : cntO c s = c s := by unfold cntO; rw [if_neg (by omega)]
    have hro := offT_range c x.val (HOK.out.less (by omega))
    have hrc := HOK.out s hs1 (by omega)
    have hrl := limT_range s
    have hrz := szT_range s
    have hpr := prod_range hrc.1 (Int.le_trans hrc.2 hrl.2) hrz.1 hrz.2
    have hx6 := x.isLt
    have hgl := gapsL_len c pre
    try dsimp only
    rw [es]
    obtain ⟨q, hq⟩ : ∃ q, q = endT c x.val := ⟨_, rfl⟩
    have hq2 : offO c s + cntO c s * szT s = q := by rw [hq, eo, ec]; unfold endT; rw [hs]
    have hqr : 80 ≤ q ∧ q ≤ 500000 := by rw [← hq2, eo, ec]; omega
    have hal := al_range q
    have HG := Lib.hid (gapsL_snoc c pre x)
    have HE := Lib.hid (show gapT c x.val = if q < al q then [(q, al q - q)] else [] from by rw [hq]; rfl)
    have HF := Lib.hid hF
    have HB := Lib.hid hB
    have hend : ∀ w', Calls Try.prog 31 #[.agg (tabT fr c), .int .i64 (s : Int)] w' fun e w'' => e = .returned (.int .i64 q) ∧ Below w'.heap.size w' w'' :=
      fun w' => (end_any fr (totT c) (offO c) (cntO c) s w' hs7 (by rw [eo]; omega) (by rw [ec]; exact ⟨hrc.1, Int.le_trans hrc.2 hrl.2⟩)).mono (fun e w'' ⟨he, hw⟩ => ⟨by rw [he, hq2], hw⟩)
    have HEND := Lib.hid hend
    have hAL := fun w' => align_any q w' (by omega) (by omega)
    obtain ⟨m, hm⟩ : ∃ m, m = al q := ⟨_, rfl⟩
    rw [← hm] at hAL HE hal
    have HAL := Lib.hid hAL
    clear hAL hm
    clear hs es hF hB hro eo ec hrc hpr hq hq2 hend
    gi_upto_region 4 with fail
    refine wpIn_region_lit ?_
    refine wpListIn_load_row rfl 25 (.tmp 1) rfl b rfl 25 (tabT fr c) (0, 0) _ HF.out.r0 Try.underlying25 rfl infoT ?_
    gi_wp2
    refine ⟨trivial, ?_⟩
    refine (CallsIn.inRound l (callsIn_wide.2 (HEND.out W))).mono ?_
    rintro e w4 ⟨rfl, hb4⟩
    have F4 := Lib.hid (HF.out.after hb4)
    have K4 := Lib.hid (keeps_of_below hb4)
    have B4 := Lib.hid (hb4.mono (show b ≤ W.heap.size by have := HF.out.lt; omega))
    clear hb4
    gi_wp2
    refine ⟨trivial, ?_⟩
    refine (CallsIn.inRound l (callsIn_wide.2 (HAL.out w4))).mono ?_
    rintro e w5 ⟨rfl, rfl⟩
    by_cases hgt : q < m
    · have d1 : decide (q < m) = true := decide_eq_true hgt
      have hw1 : IntKind.i64.wrap (m - q) = m - q := IntWalk.i64_in _ (by omega)
      have HE2 := Lib.hid (HE.out.trans (if_pos hgt))
      -- the worlds of the region, one after the other
      obtain ⟨v', w3, hrun, hown', hgrow, hnil⟩ := run_append_own (P := Try.prog) (w := w4.drew.alloc (.cells #[.int .i64 q, .int .i64 (m - q)] 33)) b 42 42 33 i0 _ 2 16 Try.underlying42 hi hz0 hz1 hz2 rfl (by decide) v (gapsL c pre).length (cellsG (gapsL c pre))
        (((F4.out.own.kept (w' := w4.drew) (row := none) ⟨rfl, rfl, rfl, Nat.le_refl _, fun _ _ _ => rfl⟩ (by cases hv : v.ownBlock <;> simp)).alloc _)) ⟨w4.drew.heap.size, 0, none⟩ 1 1 [.int .i64 q, .int .i64 (m - q)] rfl (by
          intro j u hu
          rw [add_lit, cell_of_row _ _ _ _ _ _ (heap_alloc_new w4.drew _)]
          simpa using hu) (by simp [Value.oneCell']) (by simp [maxLen]; omega) (by omega) (by have := F4.out.lt; simp; omega)
      have hown1 : w4.drew.ownsRow b 33 2 v (gapsL c pre).length (cellsG (gapsL c pre)) := F4.out.own.kept (w' := w4.drew) (row := none) ⟨rfl, rfl, rfl, Nat.le_refl _, fun _ _ _ => rfl⟩ (by cases hv : v.ownBlock <;> simp)
      have hbox1 : Boxed w4.drew (b + 1) 42 v := F4.out.r1
      obtain ⟨g', cap', rfl⟩ := ownsRow_succ hown'
      obtain ⟨hv1, hv2, hr2, hk2, hb2⟩ := hbox1.appended (by decide) hown1 (by have := F4.out.lt; simp; omega) (by omega) hown' hgrow
      have hl4 := F4.out.lt
      have hr0 : (w3.setCell ⟨b + 1, 0, none⟩ (.slice (some ⟨g', 0, none⟩) ((gapsL c pre).length + 1) cap')).heap[b]? = some (.cells (tabT fr c) 25 (0, 0)) := by
        refine (Below.heap_setCell _ _ _ _ (by show b ≠ b + 1; omega)).trans ((hgrow.block b (by simp; omega) (fun e => ?_)).trans ((Below.heap_alloc _ _ _ (by show b < w4.drew.heap.size; simp; omega)).trans F4.out.r0))
        rcases hown1.2 with ⟨rfl, _⟩ | ⟨g, cap, cur, rfl, _, hgb, _⟩
        · simp [Value.ownBlock] at e
        · obtain rfl : b = g := by simpa [Value.ownBlock] using e
          have := (show w4.drew.heap[b]? = _ from F4.out.r0).symm.trans hgb
          simp at this
      have hG4 := Lib.hid (show GapW (w3.setCell ⟨b + 1, 0, none⟩ (.slice (some ⟨g', 0, none⟩) ((gapsL c pre).length + 1) cap')) b fr c (.slice (some ⟨g', 0, none⟩) ((gapsL c pre).length + 1) cap') (gapsL c (pre ++ [x])) from ⟨hr0, hv2, by rw [HG.out, HE2.out, cellsG_append, List.length_append]; exact hr2⟩)
      have hK4 := Lib.hid ((KeepsOthers.drew w4).trans hk2)
      have hB4 := Lib.hid ((Below.drew' (Below.refl b w4)).trans hb2)
      have hbox2 : Boxed (w4.drew.alloc (.cells #[.int .i64 q, .int .i64 (m - q)] 33)) (b + 1) 42 v := hbox1.alloc _
      have c1 := hbox1.cell
      have c2 := hbox2.cell
      have c3 := hv1.cell
      have f3 := hv1.frozen
      obtain ⟨W1, hW1⟩ : ∃ W1, W1 = w4.drew := ⟨_, rfl⟩
      rw [← hW1] at hrun c1 c2
      obtain ⟨W2, hW2⟩ : ∃ W2, W2 = W1.alloc (.cells #[.int .i64 q, .int .i64 (m - q)] 33) := ⟨_, rfl⟩
      rw [← hW2] at hrun c2
      obtain ⟨W4, hW4⟩ : ∃ W4, W4 = w3.setCell ⟨b + 1, 0, none⟩ (.slice (some ⟨g', 0, none⟩) ((gapsL c pre).length + 1) cap') := ⟨_, rfl⟩
      rw [← hW4] at hG4 hK4 hB4
      have h0' : AppSt 10 0 7 8 9 W1 W2 w3 W4 (Array.replicate 10 false) w4.drew := by rw [← hW1]; exact AppSt.start (by decide)
      have HW1 := Lib.hid hW1
      have HW2 := Lib.hid hW2
      have HW4 := Lib.hid hW4
      have hal2 : ∀ w', CallsIn (Fence.wide.inRound l) (3 - 1 - 1 - 1) Try.prog 30 #[.int .i64 q] w' fun e w'' => e = .returned (.int .i64 m) ∧ w'' = w' :=
        fun w' => (CallsIn.inRound l (callsIn_wide.2 (HAL.out w'))).mono (fun e w'' ⟨he, hw⟩ => ⟨he, hw.symm⟩)
      clear hown1 hbox1 hbox2 hv1 hv2 hr2 hk2 hb2 hr0 hgrow hown' hal hW1 hW2 hW4
      gi_wp2
      refine wpIn_region_ord (AppSt 10 0 7 8 9 W1 W2 w3 W4) hfol rfl (by kernel_rfl) h0' ?_
      refine lexO_step (fun K hK => ?_); go_simp; refine ⟨v, fun L w' hL h => ?_, hK _ ?_⟩
      · obtain ⟨h1 | h1, h2⟩ := h.read (Open.of_ready hL) (by decide)
        · rw [h1, c1]; exact ⟨rfl, h1 ▸ h2⟩
        · rw [h1, c2]; exact ⟨rfl, h1 ▸ h2⟩
      clear hK K
      repeat (refine lexO_step (fun K hK => ?_); go_simp; refine ⟨_, fun L w' hL h => ⟨rfl, h.other _ (by decide)⟩, hK _ ?_⟩; clear hK K)
      refine lexO_step (fun K hK => ?_); go_simp; refine ⟨.int .i64 m, fun L w' hL h => ⟨trivial, ?_⟩, hK _ ?_⟩
      · exact (hal2 w').mono (fun e w'' ⟨he, hw⟩ => ⟨he, by rw [hw]; exact h.other _ (by decide)⟩)
      clear hK K
      repeat (refine lexO_step (fun K hK => ?_); go_simp; refine ⟨_, fun L w' hL h => ⟨rfl, h.other _ (by decide)⟩, hK _ ?_⟩; clear hK K)
      refine lexO_step (fun K hK => ?_); go_simp; refine ⟨.slice (some ⟨W1.heap.size, 0, none⟩) 1 1, fun L w' hL h => ?_, hK _ ?_⟩
      · obtain ⟨h1, h2⟩ := h.lay (Open.of_ready hL) (by decide)
        rw [h1]
        exact ⟨rfl, by rw [← HW2.out]; exact h2⟩
      clear hK K
      refine lexO_append rfl (.tmp 16) (.tmp 23) 42 rfl v _ _ rfl rfl W2 w3 hrun (fun L w' hL h => ?_) ?_
      · exact h.app (Open.of_ready hL) (came_of_ready (by kernel_rfl) hL (by rw [h.1]; decide)) (came_of_ready (by kernel_rfl) hL (by rw [h.1]; decide)) (by decide)
      refine lexO_step (fun K hK => ?_); go_simp; refine ⟨⟨undef, fun L w' hL h => ?_⟩, hK _ ?_⟩
      · obtain ⟨h1, h2⟩ := h.put (Open.of_ready hL) (came_of_ready (by kernel_rfl) hL (by rw [h.1]; decide)) (by decide)
        rw [h1, c3, f3]
        exact ⟨rfl, by rw [← HW4.out]; exact h2⟩
      clear hK K
      refine lexO_nil ?_
      intro W5 h5
      obtain rfl := h5.done rfl
      gi_wp2
      have BB := B4.out.trans hB4.out
      exact ⟨K4.out.trans hK4.out, BB, ⟨_, hG4.out⟩, HB.out.trans BB⟩
    · have d1 : decide (q < m) = false := decide_eq_false hgt
      have HE2 := HE.out.trans (if_neg hgt)
      gi_wp2
      exact ⟨K4.out, B4.out, ⟨_, by rw [HG.out, HE2, List.append_nil]; exact F4.out⟩, HB.out.trans B4.out⟩
  case done =>
    rintro D xs W hD rfl ⟨⟨v, hF⟩, hB⟩ hK
    rw [gapsL_all] at hF
    have HF := Lib.hid hF
    have hc := hF.r1.cell
    clear hF
    gi_wp2
    refine ⟨by simp, .inl ⟨_, _, rfl, run_takeDeferred hK, ?_⟩⟩
    refine ⟨_, results_tmp rfl _ _ _, v, rfl, ?_, ?_⟩
    · rw [hb]; exact ownsRow_putObj HF.out.own _ hK rfl
    · rw [hb]; exact hB.trans (belowK_b (w := w) (by omega) W D _ _ (by omega) hK rfl rfl)
  case stop =>
    rintro D d pre W hD _ h hK
    exact h.elim
end Go.Proofs.Ythnognjcbjgkbaa
