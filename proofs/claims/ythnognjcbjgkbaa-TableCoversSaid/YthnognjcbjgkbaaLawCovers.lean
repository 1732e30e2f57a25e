/-
  What the law TableCovers computes: true.
-/
import Derived.Test.YthnognjcbjgkbaaTab14
namespace Go.Proofs.Ythnognjcbjgkbaa
set_option linter.unusedVariables false
open Go.RowKit Go.Shelf

theorem twoC {w : World} {q ty : Nat} {x y : Value} (hq : w.heap[q]? = some (.cells #[x, y] ty (0, 0))) :
    w.cell? ⟨q, 0, none⟩ = some x ∧ w.cell? ⟨q, 1, none⟩ = some y := by
  refine ⟨?_, ?_⟩ <;> (rw [cell_of_row w q _ _ _ (0, 0) hq]; rfl)
/-- the three variables of the law -/
structure CovW (W : World) (b q1 q2 : Nat) (c : Nat → Int) : Prop where
  r1 : W.heap[b]? = some (.cells (cntA c) 23 (0, 0))
  r2 : W.heap[q1]? = some (.cells (tabA 1 (totT c) (offO c) (cntO c)) 25 (0, 0))
  r3 : W.heap[q2]? = some (.cells (tabA 1 (totT c) (offO c) (cntO c)) 28 (0, 0))
theorem CovW.after {W W' : World} {b q1 q2 : Nat} {c : Nat → Int} (h : CovW W b q1 q2 c) (hb : Below W.heap.size W W') : CovW W' b q1 q2 c := by
  have up : ∀ {k : Nat} {o : Obj}, W.heap[k]? = some o → W'.heap[k]? = some o := fun {k o} hk => (hb.block k (Array.getElem?_eq_some_iff.1 hk).1).trans hk
  exact ⟨up h.r1, up h.r2, up h.r3⟩
/-- the slice of paddings -/
def GRow (w : World) (A : Option Addr) (G : List (Int × Int)) : Prop :=
  ∀ (j : Nat) (g : Int × Int), G[j]? = some g → ∃ k, A = some ⟨k, 0, none⟩ ∧ k < w.heap.size ∧ w.cell? ⟨k, j * 2, none⟩ = some (.int .i64 g.1) ∧ w.cell? ⟨k, j * 2 + 1, none⟩ = some (.int .i64 g.2)
theorem GRow.after {W W' : World} {A : Option Addr} {G : List (Int × Int)} (h : GRow W A G) (hb : Below W.heap.size W W') : GRow W' A G := by
  intro j g hj
  obtain ⟨k, hA, hk, h1, h2⟩ := h j g hj
  exact ⟨k, hA, Nat.lt_of_lt_of_le hk hb.size, (hb.cell (p := ⟨k, j * 2, none⟩) hk).trans h1, (hb.cell (p := ⟨k, j * 2 + 1, none⟩) hk).trans h2⟩
theorem gap_slice {w : World} {base : Nat} {v : Value} {G : List (Int × Int)} (h : w.ownsRow base 33 2 v G.length (cellsG G)) : ∃ A cap, v = .slice A G.length cap ∧ G.length ≤ cap ∧ GRow w A G := by
  rcases h.2 with ⟨rfl, h0⟩ | ⟨g, cap, cur, rfl, hb, hg, hle, _⟩
  · refine ⟨none, 0, by rw [h0], by omega, fun j g hj => ?_⟩
    rw [List.length_eq_zero_iff.1 h0] at hj
    simp at hj
  · refine ⟨some ⟨g, 0, none⟩, cap, rfl, hle, fun j p hj => ?_⟩
    obtain ⟨hlt, hj⟩ := List.getElem?_eq_some_iff.1 hj
    obtain ⟨c1, c2⟩ := cellsG_get G j hlt
    rw [hj] at c1 c2
    refine ⟨g, rfl, (Array.getElem?_eq_some_iff.1 hg).1, ?_, ?_⟩
    · rw [h.cellAt _ (by omega), Nat.mul_comm]; exact c1
    · rw [h.cellAt _ (by omega), Nat.mul_comm]; exact c2
theorem sumG_nonneg {c : Nat → Int} : ∀ {l : List (Int × Int)} {lo : Int}, Chain c lo l → 0 ≤ sumG l
  | [], _, _ => by simp [sumG]
  | g :: r, _, ⟨_, h1, _, _, _, _, _, h⟩ => by have := sumG_nonneg h; simp only [sumG]; omega
theorem drop_get {α : Type} {l : List α} {j : Nat} {g : α} (h : l[j]? = some g) : l.drop j = g :: l.drop (j + 1) := by
  obtain ⟨h1, h2⟩ := List.getElem?_eq_some_iff.1 h
  rw [List.drop_eq_getElem_cons h1, h2]
theorem sumR_range {c : Nat → Int} (h : okT c 6) (k : Nat) (hk : k ≤ 6) : 0 ≤ sumR c 0 k ∧ sumR c 0 k ≤ 57344 * k := by
  induction k with
  | zero => simp [sumR]
  | succ k ih =>
    obtain ⟨a, b⟩ := ih (by omega)
    obtain ⟨h0, h1⟩ := h (k + 1) (by omega) (by omega)
    obtain ⟨z0, z1⟩ := szT_range (k + 1)
    obtain ⟨l0, l1⟩ := limT_range (k + 1)
    obtain ⟨p0, p1⟩ := prod_range h0 (Int.le_trans h1 l1) z0 z1
    rw [sumR_snoc, show 0 + k + 1 = k + 1 from by omega]
    omega

set_option maxRecDepth 100000 in
set_option maxHeartbeats 8000000 in
theorem TableCovers_any (c : Nat → Int) (w : World) :
    Calls Try.prog 5 #[.agg (cntA c)] w (AliveOK w) := by
  have r0 := heap_alloc_new w (.cells (cntA c) 23)
  obtain ⟨k0, k1, k2, k3, k4, k5, k6⟩ := seven_cells r0
  have HB0 := Lib.hid ((Below.refl w.heap.size w).alloc (Nat.le_refl _) (.cells (cntA c) 23))
  have HR0 := Lib.hid r0
  have HZ0 := Lib.hid (show (w.alloc (.cells (cntA c) 23)).heap.size = w.heap.size + 1 by simp)
  clear r0
  by_cases hsm : smT c 6
  case neg =>
    have hs0 := smB_false hsm
    have HS0 := Lib.hid hs0
    clear hs0
    go_enter Try.func5, Try.ntmps5
    go_wp2_with fail
    refine (small_any c _).mono ?_
    rintro e w1 ⟨rfl, hb1⟩
    rw [HS0.out]
    have HB1 := Lib.hid (HB0.out.trans (hb1.mono (by rw [HZ0.out]; omega)))
    clear hb1
    go_wp2_with fail
    refine (alive10 _).mono ?_
    rintro e w2 ⟨rfl, hb2⟩
    go_wp2
    go_ret
    exact ⟨rfl, HB1.out.trans (hb2.mono HB1.out.size)⟩
  have hok := hsm.ok
  have HS0 := Lib.hid (smB_true hsm)
  have s1 := store_new (tabT 1 c) rfl (tab_all _ _ _ _) 25
  have s2 := store_new (tabT 1 c) rfl (tab_all _ _ _ _) 28
  have HOK := Lib.hid hok
  have HCH := Lib.hid (chain_gaps hok 6 0 rfl)
  have HSUM := Lib.hid (sum_all c)
  have HSR := Lib.hid (sumR_range hok)
  have HTR := Lib.hid (offT_range c 6 hok)
  clear hok hsm
  go_enter Try.func5, Try.ntmps5
  go_wp2_with fail
  refine (small_any c _).mono ?_
  rintro e w1 ⟨rfl, hb1⟩
  rw [HS0.out]
  have HB1 := Lib.hid (HB0.out.trans (hb1.mono (by rw [HZ0.out]; omega)))
  have HR1 := Lib.hid ((hb1.block w.heap.size (by rw [HZ0.out]; omega)).trans HR0.out)
  have hl1 : w.heap.size + 1 ≤ w1.heap.size := by have := hb1.size; rw [HZ0.out] at this; omega
  clear hb1 k0 k1 k2 k3 k4 k5 k6 HR0 HB0 HZ0
  obtain ⟨k0, k1, k2, k3, k4, k5, k6⟩ := seven_cells HR1.out
  go_wp2_with fail
  refine (For_res 1 c _).mono ?_
  rintro e w2 ⟨rfl, hb2⟩
  rw [okB_true HOK.out, tabR_true HOK.out]
  have HB2 := Lib.hid (HB1.out.trans (hb2.mono HB1.out.size))
  have HR2 := Lib.hid ((hb2.block w.heap.size (by omega)).trans HR1.out)
  have hl2 : w.heap.size + 1 ≤ w2.heap.size := by have := hb2.size; omega
  clear hb2 k0 k1 k2 k3 k4 k5 k6 HR1 HB1
  obtain ⟨k0, k1, k2, k3, k4, k5, k6⟩ := seven_cells ((Below.heap_alloc w2 (.cells (tabT 1 c) 25) w.heap.size (by omega)).trans HR2.out)
  go_wp2_with fail
  refine (refFor_res 1 c _).mono ?_
  rintro e w3 ⟨rfl, hb3⟩
  rw [okB_true HOK.out, tabR_true HOK.out]
  have hs3 := hb3.size
  simp at hs3
  have hl3 : w.heap.size + 1 ≤ w3.heap.size := by omega
  have HB3 := Lib.hid (((HB2.out.alloc HB2.out.size (.cells (tabT 1 c) 25)).trans (hb3.mono (by have := HB2.out.size; simp; omega))).alloc (by omega) (.cells (tabT 1 c) 28))
  have x3 := (Below.heap_alloc w3 (.cells (tabT 1 c) 28) w.heap.size (by omega)).trans ((hb3.block w.heap.size (by simp; omega)).trans ((Below.heap_alloc w2 (.cells (tabT 1 c) 25) w.heap.size (by omega)).trans HR2.out))
  have t3 := (Below.heap_alloc w3 (.cells (tabT 1 c) 28) w2.heap.size (by omega)).trans ((hb3.block w2.heap.size (by simp)).trans (heap_alloc_new w2 (.cells (tabT 1 c) 25)))
  have F3 := Lib.hid (show CovW (w3.alloc (.cells (tabT 1 c) 28)) w.heap.size w2.heap.size w3.heap.size c from ⟨x3, t3, heap_alloc_new w3 _⟩)
  have hl3' : w.heap.size ≤ (w3.alloc (.cells (tabT 1 c) 28)).heap.size := by simp; omega
  clear hb3 k0 k1 k2 k3 k4 k5 k6 HR2 HB2 x3 t3 hs3
  go_upto_region 5 with fail
  generalize w3.alloc (.cells (tabT 1 c) 28) = W3 at *
  generalize w2.heap.size = q1 at *
  generalize w3.heap.size = q2 at *
  generalize hb : w.heap.size = b at *
  clear s1 s2 hl3 hl2 hl1
  go_wp2_with fail
  go_loopw [7, 8] (fun n i wr => ∃ k : Nat, k ≤ 6 ∧ i = .int .i64 ((k : Int) + 1) ∧ n = .int .i64 (84 + sumR c 0 k) ∧ CovW wr b q1 q2 c ∧ Below b w wr) (fun _ i _ => 8 - (intOf i).toNat)
  case atStart => exact ⟨0, Nat.zero_le _, rfl, rfl, F3.out, HB3.out⟩
  case round =>
    obtain ⟨k, hk, rfl, rfl, hF, hB⟩ := hrel
    have HF := Lib.hid hF
    have HB := Lib.hid hB
    obtain ⟨n0, n1⟩ := HSR.out k hk
    by_cases hlt : k < 6
    · obtain ⟨s, hs⟩ : ∃ s : Nat, s = k + 1 := ⟨_, rfl⟩
      have es : ((k : Int) + 1) = (s : Int) := by omega
      rw [es]
      have hs7 : s < 7 := by omega
      have hs7i : (s : Int) < 7 := by omega
      have hs1 : 1 ≤ s := by omega
      have kc := cnt_cell hF.r1 s hs7
      have hrc := HOK.out s hs1 (by omega)
      obtain ⟨l0, l1⟩ := limT_range s
      obtain ⟨q0, q1'⟩ := szT_range s
      obtain ⟨p0, p1⟩ := prod_range hrc.1 (Int.le_trans hrc.2 l1) q0 q1'
      have hS := Lib.hid (fun w1 => refSize_any (s : Int) w1)
      rw [sizeV_szT] at hS
      have hn := Lib.hid (show sumR c 0 s = sumR c 0 k + c s * szT s from by rw [hs, sumR_snoc, show 0 + k + 1 = k + 1 from by omega])
      have e1 : IntKind.i64.wrap (c s * szT s) = c s * szT s := IntWalk.i64_in _ (by omega)
      have e2 : IntKind.i64.wrap (84 + sumR c 0 k + c s * szT s) = 84 + sumR c 0 k + c s * szT s := IntWalk.i64_in _ (by omega)
      have hle6 : (s : Int) ≤ 6 := by omega
      have HS := Lib.hid hs
      clear hF hB hrc hs es
      go_wp2_with fail
      go_quiet (exact (hS.out _).mono (fun e w'' ⟨he, hw⟩ => ⟨he, _, hw.symm⟩))
      go_wp2
      go_roundw
      case rel => exact ⟨s, by omega, rfl, by rw [hn.out]; congr 1; omega, HF.out.after ⟨rfl, rfl, rfl, Nat.le_refl _, fun _ _ => rfl⟩, drewN_below HB.out _⟩
      case measure => simp [intOf]; have := HS.out; omega
    · obtain rfl : k = 6 := by omega
      clear hF hB hlt hk
      go_upto_region 11 with fail
      refine wp_region_lit ?_
      refine wpList_load_row rfl 25 (.tmp 3) rfl q1 rfl 25 (tabT 1 c) (0, 0) _ HF.out.r2 Try.underlying25 rfl infoT ?_
      go_wp2_with fail
      refine (Gaps_any 1 c wr HOK.out).mono ?_
      rintro e w5 ⟨v, rfl, hown, hb5⟩
      obtain ⟨A, cap, rfl, hcap, hG⟩ := gap_slice hown
      have F5 := Lib.hid (HF.out.after hb5)
      have HB5 := Lib.hid (HB.out.trans (hb5.mono (by have := HB.out.size; omega)))
      have HG5 := Lib.hid hG
      have hgl := gaps_range HOK.out 6 (Nat.le_refl _)
      generalize gapsN c 0 6 = G at *
      clear hown hG hb5 hcap
      have htot : 84 + sumR c 0 6 + sumG G = totT c := HSUM.out
      have hch : Chain c 80 G := HCH.out
      have HCH2 := Lib.hid hch
      have htr : totT c = offT c 6 + 4 := rfl
      have htr2 : 84 ≤ totT c ∧ totT c ≤ 400000 := by have := HTR.out; omega
      clear HCH HSUM hch htr
      go_wp2_with fail
      go_loopw [7, 9, 44] (fun n e i wr => ∃ (j : Nat) (lo N : Int), j ≤ G.length ∧ i = .int .i64 (j : Int) ∧ e = .int .i64 lo ∧ n = .int .i64 N ∧ 84 ≤ N ∧ Chain c lo (G.drop j) ∧ N + sumG (G.drop j) = totT c ∧ CovW wr b q1 q2 c ∧ GRow wr A G ∧ Below b w wr) (fun _ _ i _ => G.length - (intOf i).toNat)
      case atStart => exact ⟨0, 80, 84 + sumR c 0 6, Nat.zero_le _, rfl, rfl, rfl, by omega, HCH2.out, htot, F5.out, HG5.out, HB5.out⟩
      case round =>
        obtain ⟨j, lo, N, hj, rfl, rfl, rfl, hN, hch, hsum, hF, hG, hB⟩ := hrel
        have HF := Lib.hid hF
        have HB := Lib.hid hB
        have HG := Lib.hid hG
        by_cases hlt : j < G.length
        · obtain ⟨g, hg⟩ : ∃ g, G[j]? = some g := ⟨G[j], List.getElem?_eq_getElem hlt⟩
          obtain ⟨kk, rfl, hkk, g0, g1⟩ := hG j g hg
          rw [drop_get hg] at hch hsum
          obtain ⟨ga, gl⟩ := g
          obtain ⟨ch1, ch2, ch3, ch4, ch5, ch5', ch6, ch7⟩ := hch
          have hnn := sumG_nonneg ch7
          simp only [sumG] at hsum ch1 ch2 ch3 ch4 ch5 ch5' ch7 g0 g1
          have H6 := Lib.hid ch6
          have H7 := Lib.hid ch7
          have HS7 := Lib.hid hsum
          clear hF hB hG hg ch6 ch7 hsum
          go_upto_region 14 with fail
          have hl5 : b ≤ wr.heap.size := (by have := HB.out.size; omega)
          have rg := heap_alloc_new wr (.cells #[.int .i64 ga, .int .i64 gl] 33)
          have F6 := Lib.hid (HF.out.after ((Below.refl _ wr).alloc (Nat.le_refl _) (.cells #[.int .i64 ga, .int .i64 gl] 33)))
          have G6 := Lib.hid (HG.out.after ((Below.refl _ wr).alloc (Nat.le_refl _) (.cells #[.int .i64 ga, .int .i64 gl] 33)))
          have B6 := Lib.hid (HB.out.alloc hl5 (.cells #[.int .i64 ga, .int .i64 gl] 33))
          have hz6 : (wr.alloc (.cells #[.int .i64 ga, .int .i64 gl] 33)).heap.size = wr.heap.size + 1 := by simp
          generalize wr.alloc (.cells #[.int .i64 ga, .int .i64 gl] 33) = w6 at *
          generalize wr.heap.size = gb at *
          obtain ⟨y0, y1⟩ := twoC rg
          have z1 := tab_one F6.out.r3
          have d1 : decide (ga < lo) = false := decide_eq_false (by omega)
          have d2 : decide (gl < 1) = false := decide_eq_false (by omega)
          have d3 : decide (15 < gl) = false := decide_eq_false (by omega)
          have e1 : IntKind.i64.wrap (ga + gl) = ga + gl := IntWalk.i64_in _ (by omega)
          have e2 : IntKind.i64.wrap (totT c - 4) = totT c - 4 := IntWalk.i64_in _ (by omega)
          have d4 : decide (totT c - 4 < ga + gl) = false := decide_eq_false (by omega)
          have e3 : (ga + gl).tmod 16 = 0 := by rw [Int.tmod_eq_emod_of_nonneg (by omega)]; exact ch5
          have RG := Lib.hid rg
          clear rg
          go_wp2_with fail
          clear y0 y1 z1 d1 d2 d3 d4 e3
          go_loopw [12] (fun i wr => ∃ p : Int, ga ≤ p ∧ p ≤ ga + gl ∧ i = .int .i64 p ∧ CovW wr b q1 q2 c ∧ GRow wr (some ⟨kk, 0, none⟩) G ∧ wr.heap[gb]? = some (.cells #[.int .i64 ga, .int .i64 gl] 33 (0, 0)) ∧ Below b w wr) (fun i _ => (ga + gl - intOf i).toNat)
          case atStart => exact ⟨ga, Int.le_refl _, by omega, rfl, F6.out, G6.out, RG.out, B6.out⟩
          case round =>
            obtain ⟨p, hp0, hp1, rfl, hF, hG, hR, hB⟩ := hrel
            obtain ⟨y0, y1⟩ := twoC hR
            have F7 := Lib.hid hF
            have G7 := Lib.hid hG
            have R7 := Lib.hid hR
            have B7 := Lib.hid hB
            clear hF hG hR hB F6 G6 RG B6
            by_cases hlt2 : p < ga + gl
            · have d1 : decide (p < ga + gl) = true := decide_eq_true hlt2
              go_upto_region 19 with fail
              refine wp_region_lit ?_
              refine wpList_load_row rfl 25 (.tmp 3) rfl q1 rfl 25 (tabT 1 c) (0, 0) _ F7.out.r2 Try.underlying25 rfl infoT ?_
              go_wp2_with fail
              refine (Section_any 1 c p _ HOK.out).mono ?_
              rintro e w8 ⟨rfl, hb8⟩
              rw [H6.out p hp0 (by simpa using hlt2)]
              have F8 := Lib.hid (F7.out.after hb8)
              have G8 := Lib.hid (G7.out.after hb8)
              have R8 := Lib.hid ((hb8.block gb (Array.getElem?_eq_some_iff.1 R7.out).1).trans R7.out)
              have B8 := Lib.hid (B7.out.trans (hb8.mono (by have := B7.out.size; omega)))
              clear hb8 d1
              have e5 : IntKind.i64.wrap (p + 1) = p + 1 := IntWalk.i64_in _ (by omega)
              go_wp2
              go_roundw
              case rel => exact ⟨p + 1, by omega, by omega, rfl, F8.out, G8.out, R8.out, B8.out⟩
              case measure => simp [intOf]; omega
            · have d1 : decide (p < ga + gl) = false := decide_eq_false hlt2
              have e6 : IntKind.i64.wrap (N + gl) = N + gl := IntWalk.i64_in _ (by have := HS7.out; omega)
              go_wp2
              go_roundw
              case rel => exact ⟨j + 1, ga + gl, N + gl, by omega, by go_num, rfl, rfl, by omega, H7.out, by have := HS7.out; omega, F7.out, G7.out, B7.out⟩
              case measure => simp [intOf]; omega
        · obtain rfl : j = G.length := by omega
          rw [List.drop_length] at hsum
          have hN2 : N = totT c := by simpa [sumG] using hsum
          have HN2 := Lib.hid hN2
          clear hF hB hG hsum hch hN2 hlt
          go_wp2_with fail
          refine (alive10 _).mono ?_
          rintro e w9 ⟨rfl, hb9⟩
          have F9 := HF.out.after hb9
          have x1 := tab_one F9.r2
          have x2 := tab_one F9.r3
          have B9 := Lib.hid (HB.out.trans (hb9.mono (by have := HB.out.size; omega)))
          clear hb9 F9
          rw [HN2.out]
          go_wp2
          go_ret
          exact ⟨by simp, by rw [hb]; exact B9.out⟩
end Go.Proofs.Ythnognjcbjgkbaa
