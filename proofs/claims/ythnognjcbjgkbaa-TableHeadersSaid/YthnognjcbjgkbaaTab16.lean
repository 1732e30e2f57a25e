/-
  The reference's Get. (Written by wip/gen_refget.py.)
-/
import Derived.Test.YthnognjcbjgkbaaTab7
import Derived.Test.YthnognjcbjgkbaaTab8
import Derived.Test.YthnognjcbjgkbaaTab15
import Derived.Test.YthnognjcbjgkbaaFork
namespace Go.Proofs.Ythnognjcbjgkbaa
set_option linter.unusedVariables false
open Go.RowKit Go.Shelf

theorem getT_no {xs : List UInt8} {x z : Int} (h : getV xs = (x, z)) (hx : x ≠ 0) : getT xs = tabZ := by unfold getT; rw [h, if_neg hx]
theorem getV_head {xs : List UInt8} {x z : Int} (h : headV xs = (x, z)) (hx : x ≠ 0) : getV xs = (x, z) := by unfold getV; rw [h, if_pos hx]
theorem getV_sec {xs : List UInt8} {x z : Int} (h0 : headV xs = (0, 0)) (h : secX xs 0 6 = (x, z)) (hx : x ≠ 0) : getV xs = (x, z) := by unfold getV; rw [h0, if_neg (fun h => h rfl), h, if_pos hx]
theorem getV_len {xs : List UInt8} (h0 : headV xs = (0, 0)) (h : secX xs 0 6 = (0, 0)) (hl : totT (cntX xs) ≠ xs.length) : getV xs = (11, 8) := by unfold getV; rw [h0, if_neg (fun h => h rfl), h, if_neg (fun h => h rfl), if_pos hl]
theorem getV_ok {xs : List UInt8} (h0 : headV xs = (0, 0)) (h : secX xs 0 6 = (0, 0)) (hl : totT (cntX xs) = xs.length) : getV xs = (0, 0) := by unfold getV; rw [h0, if_neg (fun h => h rfl), h, if_neg (fun h => h rfl), if_neg (fun h => h hl)]
theorem getT_ok {xs : List UInt8} (h : getV xs = (0, 0)) : getT xs = tabT (numV xs 16 8 : Nat) (cntX xs) := by unfold getT; rw [h, if_pos rfl]

theorem secX_succ (xs : List UInt8) (k n : Nat) : secX xs k (n + 1) = if limT (k + 1) < cntX xs (k + 1) then (7, 28 + 8 * ((k + 1 : Nat) : Int)) else if offX xs (k + 1) ≠ offT (cntX xs) k then (13, 24 + 8 * ((k + 1 : Nat) : Int)) else secX xs (k + 1) n := rfl
theorem dirty_hit {xs : List UInt8} {a m k : Nat} (h : a + m ≤ xs.length) (h1 : a ≤ k) (h2 : k < a + m) (hz : ∀ j, a ≤ j → j < k → xs.getD j 0 = 0) (hk : xs.getD k 0 ≠ 0) : dirtyV xs a m = k := by
  have e : nzV (part xs a m) = ((k - a : Nat) : Int) := by
    refine nz_found _ _ (by rw [part_length h]; omega) (fun i hi => ?_) ?_
    · unfold part; rw [getD_take _ _ _ (by omega), getD_drop]; exact hz _ (by omega) (by omega)
    · unfold part; rw [getD_take _ _ _ (by omega), getD_drop, show a + (k - a) = k from by omega]; exact hk
  unfold dirtyV
  rw [if_pos (exB_true (by omega)), Int.toNat_natCast, Int.toNat_natCast, e, if_neg (by omega)]
  omega
theorem dirty_clean {xs : List UInt8} {a m : Nat} (h : a + m ≤ xs.length) (hz : ∀ j, a ≤ j → j < a + m → xs.getD j 0 = 0) : dirtyV xs a m = -1 := by
  have e : nzV (part xs a m) = -1 := by
    refine nz_none _ (fun i hi => ?_)
    rw [part_length h] at hi
    unfold part; rw [getD_take _ _ _ (by omega), getD_drop]; exact hz _ (by omega) (by omega)
  unfold dirtyV
  rw [if_pos (exB_true (by omega)), Int.toNat_natCast, Int.toNat_natCast, e, if_pos (by omega)]

theorem results_row_two {P : Program} {w : World} {fn : Func} {p q r : Tmp} {ty : TypeId} (h : fn.results = #[.cell p ty, .tmp q, .tmp r]) (tmps : Array Value) (g : Nat) (t : TypeId) (cs : Array Value) (fr : Nat × Nat) (d : TypeDesc)
    (hp : tmps.getD p undef = .pointer (some ⟨g, 0, none⟩)) (hg : w.heap[g]? = some (.cells cs t fr))
    (hu : P.underlying ty = some d) (hd : (match d with | .struct _ | .array _ _ => true | _ => false) = true) (hi : (P.info? ty).map (·.size) = some cs.size)
    (v u : Value) (hq : tmps.getD q undef = v) (hr : tmps.getD r undef = u) :
    (results fn tmps).run P w = .ok (.tuple #[.agg cs, v, u]) w := by
  have hp' : tmps[p]?.getD undef = .pointer (some ⟨g, 0, none⟩) := by simpa using hp
  have hq' : tmps[q]?.getD undef = v := by simpa using hq
  have hr' : tmps[r]?.getD undef = u := by simpa using hr
  simp [results, h, hp', hq', hr', asAddr, run_loadVar_row w g t ty cs fr d hg hu hd hi]

/-- what the reference's Get hands back -/
def RGetOK (xs : List UInt8) (w : World) (e : Ending) (w' : World) : Prop :=
  e = .returned (.tuple #[.agg (getT xs), .int .i64 (getV xs).1, .int .i64 (getV xs).2]) ∧ Below w.heap.size w w'

theorem seven_below {B q : Nat} {w w1 : World} (h : Below B w w1) (hq : B ≤ q) (s : Nat) (x : Value) : Below B w (w1.setCell ⟨q, s, none⟩ x) := h.setCell hq x
theorem cntA_set (c : Nat → Int) (s : Nat) (hs : s < 7) (v : Int) : (cntA c).setIfInBounds s (.int .i64 v) = cntA (upd c s v) := by
  have : s = 0 ∨ s = 1 ∨ s = 2 ∨ s = 3 ∨ s = 4 ∨ s = 5 ∨ s = 6 := by omega
  rcases this with rfl | rfl | rfl | rfl | rfl | rfl | rfl <;> simp [cntA, upd]
theorem cnt_set {w : World} {q ty : Nat} {c : Nat → Int} (h : w.heap[q]? = some (.cells (cntA c) ty (0, 0))) (s : Nat) (hs : s < 7) (v : Int) :
    (w.setCell ⟨q, s, none⟩ (.int .i64 v)).heap[q]? = some (.cells (cntA (upd c s v)) ty (0, 0)) := by
  rw [row_set h, cntA_set _ s hs]
theorem refC_all (xs : List UInt8) : cntA (refC (cntX xs) 6) = cntA (cntX xs) := rfl

/-- what lies in memory ahead of the reference's end -/
structure RgW (w w' : World) (b B : Nat) (A : Option Addr) (xs : List UInt8) : Prop where
  r : w'.heap[b]? = some (.cells tabZ 28 (0, 0))
  q : w'.heap[b + 1]? = some (.cells (cntA (cntX xs)) 23 (0, 0))
  bel : Below b w w'
  rd : Rd w' B A xs
section
variable {w w' w2 : World} {b B : Nat} {A : Option Addr} {xs : List UInt8}
theorem RgW.lt (h : RgW w w' b B A xs) : b + 2 ≤ w'.heap.size := by have := (Array.getElem?_eq_some_iff.1 h.q).1; omega
theorem RgW.after (h : RgW w w' b B A xs) (hB : B ≤ b) (hb : Below w'.heap.size w' w2) : RgW w w2 b B A xs := by
  have hl := h.lt
  exact ⟨(hb.block b (by omega)).trans h.r, (hb.block (b + 1) (by omega)).trans h.q, h.bel.trans (hb.mono (by omega)), h.rd.keep fun p hp => hb.cell (by omega)⟩
theorem RgW.row (h : RgW w w' b B A xs) (hB : B ≤ b) {g : Nat} (hg : b + 2 ≤ g) (cs : Array Value) : RgW w (w'.setRow g cs) b B A xs :=
  ⟨(setRow_other w' g b cs (by omega)).trans h.r, (setRow_other w' g (b + 1) cs (by omega)).trans h.q, setRow_below h.bel (by omega) cs, h.rd.keep fun p hp => World.cell?_of_block (setRow_other w' g p.block cs (by omega))⟩
end

set_option maxRecDepth 100000 in
set_option maxHeartbeats 8000000 in
theorem refGet_any (B : Nat) (A : Option Addr) (c : Nat) (xs : List UInt8) (w : World) (hR : Rd w B A xs) (hB : B ≤ w.heap.size) (hc : xs.length ≤ c) (hn : c ≤ 9223372036854775807) :
    Calls Try.prog 20 #[.slice A xs.length c] w (RGetOK xs w) := by
  have hret : ∀ (x z : Int) (T : Array Value) (a : Act) (wf : World), wf.heap[w.heap.size]? = some (.cells T 28 (0, 0)) → T.size = 16 → Below w.heap.size w wf → getV xs = (x, z) → getT xs = T → a.defers = [] → a.tmps.getD 2 undef = .pointer (some ⟨w.heap.size, 0, none⟩) → a.tmps.getD 3 undef = .int .i64 x → a.tmps.getD 4 undef = .int .i64 z →
      bodyPost Try.prog Try.f20 (RGetOK xs w) .ret a wf := by
    intro x z T a wf hh hs hb hE hT hd h2 h3 h4
    refine bodyPost_ret (v := .tuple #[.agg T, .int .i64 x, .int .i64 z]) (results_row_two rfl _ w.heap.size 28 T (0, 0) _ h2 hh Try.underlying28 rfl (by rw [hs]; exact infoR) _ _ h3 h4) hd ⟨by rw [hE, hT], hb⟩
  have HRT := Lib.hid hret
  have r0 := heap_alloc_new w (.cells tabZ 28)
  have b0 := (Below.refl w.heap.size w).alloc (Nat.le_refl _) (.cells tabZ 28)
  have HR0 := Lib.hid (hR.alloc hB (.cells tabZ 28))
  have R0 := Lib.hid r0
  have B0 := Lib.hid b0
  have HC := Lib.hid hc
  have HN := Lib.hid hn
  have hz0 : (w.alloc (.cells tabZ 28)).heap.size = w.heap.size + 1 := by simp
  clear hret hR b0 r0
  go_enter Try.func20, Try.ntmps20
  go_upto_region 1 with fail
  rw [show (Obj.cells #[Value.int IntKind.u64 0, Value.int IntKind.i64 0, Value.int IntKind.i64 0, Value.int IntKind.i64 0, Value.int IntKind.i64 0, Value.int IntKind.i64 0, Value.int IntKind.i64 0, Value.int IntKind.i64 0, Value.int IntKind.i64 0, Value.int IntKind.i64 0, Value.int IntKind.i64 0, Value.int IntKind.i64 0, Value.int IntKind.i64 0, Value.int IntKind.i64 0, Value.int IntKind.i64 0, Value.int IntKind.i64 0] 28) = .cells tabZ 28 from rfl]
  generalize w.alloc (.cells tabZ 28) = w0 at *
  generalize hb : w.heap.size = b at *
  have HZ0 := Lib.hid hz0
  have HB := Lib.hid hb
  clear hz0 hb
  by_cases a1 : xs.length < 84
  · have hE := Lib.hid (getV_head (show headV xs = (8, (xs.length : Int)) from by unfold headV; rw [if_pos a1]) (by decide))
    go_wp2_with (first | (refine wpList_buildTo rfl 28 #[] rfl (some 15) rfl tabZ (by kernel_rfl) ?_) | (refine wpList_store_rowTo rfl 28 (.tmp 2) (.tmp 15) rfl rfl b tabZ rfl rfl 28 tabZ R0.out infoR rfl (tab_all _ _ _ _) ?_))
    exact HRT.out _ _ tabZ _ _ (setRow_heap _ b tabZ tabZ 28 (0, 0) R0.out) rfl (setRow_below B0.out (by omega) _) hE.out (getT_no hE.out (by decide)) rfl rfl rfl rfl
  obtain ⟨n4, h4⟩ : ∃ n : Nat, n = numV xs 4 2 := ⟨_, rfl⟩
  obtain ⟨n6, h6⟩ : ∃ n : Nat, n = numV xs 6 2 := ⟨_, rfl⟩
  obtain ⟨n8, h8⟩ : ∃ n : Nat, n = numV xs 8 4 := ⟨_, rfl⟩
  obtain ⟨p, hp⟩ : ∃ p : Int, p = dirtyV xs 12 4 := ⟨_, rfl⟩
  obtain ⟨q, hq⟩ : ∃ q : Int, q = dirtyV xs 24 8 := ⟨_, rfl⟩
  have hE : headV xs = if xs.length < 84 then (8, (xs.length : Int)) else if xs.take 4 ≠ magic4 then (9, 0) else if n4 ≠ 1 then (10, 4) else if n6 ≠ 80 then (13, 6) else if n8 ≠ xs.length then (11, 8)
      else if 0 ≤ p then (14, p) else if 0 ≤ q then (14, q) else (0, 0) := by unfold headV; rw [h4, h6, h8, hp, hq]
  rw [if_neg a1] at hE
  have H4 := Lib.hid h4
  have H6 := Lib.hid h6
  have H8 := Lib.hid h8
  have HP := Lib.hid hp
  have HQ := Lib.hid hq
  have HE := Lib.hid hE
  have u2 : IntKind.u64.wrap (xs.length : Int) = xs.length := IntWalk.u64_in _ (by omega)
  have hl84 : 84 ≤ xs.length := by omega
  have k1 := conv_bytes (c := c) (n := 4) (xs := xs.take 4) (by simp; omega) (HR0.out.take 4)
  have e4 := strB_eq (xs.take 4) magic4
  rw [show (strB magic4).toList = [70, 78, 83, 84] from (ByteArray.toList_eq _).trans rfl] at e4
  have E4 := Lib.hid e4
  clear e4
  clear h4 h6 h8 hp hq hE a1
  by_cases a2 : xs.take 4 = magic4
  case neg =>
    have hE := Lib.hid (getV_head (HE.out.trans (if_pos a2)) (by decide))
    have e4 : ((strB (xs.take 4)).toList == ([70, 78, 83, 84] : List UInt8)) = false := E4.out.trans (decide_eq_false a2)
    go_wp2_with (first | (refine wpList_buildTo rfl 28 #[] rfl (some 22) rfl tabZ (by kernel_rfl) ?_) | (refine wpList_store_rowTo rfl 28 (.tmp 2) (.tmp 22) rfl rfl b tabZ rfl rfl 28 tabZ R0.out infoR rfl (tab_all _ _ _ _) ?_))
    exact HRT.out _ _ tabZ _ _ (setRow_heap _ b tabZ tabZ 28 (0, 0) R0.out) rfl (setRow_below B0.out (by omega) _) hE.out (getT_no hE.out (by decide)) rfl rfl rfl rfl
  have HE2 := Lib.hid (HE.out.trans (if_neg (fun h => h a2)))
  have e4 : ((strB (xs.take 4)).toList == ([70, 78, 83, 84] : List UInt8)) = true := E4.out.trans (decide_eq_true a2)
  clear a2
  go_wp2_with fail
  refine (refAt_any B A c xs 4 2 _ HR0.out HC.out HN.out (by omega) (by omega)).mono ?_
  rintro e w' ⟨rfl, rfl⟩
  rw [← H4.out]
  clear k1 e4
  by_cases a3 : n4 = 1
  case neg =>
    have hE := Lib.hid (getV_head (HE2.out.trans (if_pos a3)) (by decide))
    have d3 : ((n4 : Int) != 1) = true := by simp; omega
    go_wp2_with (first | (refine wpList_buildTo rfl 28 #[] rfl (some 26) rfl tabZ (by kernel_rfl) ?_) | (refine wpList_store_rowTo rfl 28 (.tmp 2) (.tmp 26) rfl rfl b tabZ rfl rfl 28 tabZ R0.out infoR rfl (tab_all _ _ _ _) ?_))
    exact HRT.out _ _ tabZ _ _ (setRow_heap _ b tabZ tabZ 28 (0, 0) R0.out) rfl (setRow_below B0.out (by omega) _) hE.out (getT_no hE.out (by decide)) rfl rfl rfl rfl
  have HE3 := Lib.hid (HE2.out.trans (if_neg (fun h => h a3)))
  subst a3
  go_wp2_with fail
  refine (refAt_any B A c xs 6 2 _ HR0.out HC.out HN.out (by omega) (by omega)).mono ?_
  rintro e w' ⟨rfl, rfl⟩
  rw [← H6.out]
  by_cases a4 : n6 = 80
  case neg =>
    have hE := Lib.hid (getV_head (HE3.out.trans (if_pos a4)) (by decide))
    have d3 : ((n6 : Int) != 80) = true := by simp; omega
    go_wp2_with (first | (refine wpList_buildTo rfl 28 #[] rfl (some 30) rfl tabZ (by kernel_rfl) ?_) | (refine wpList_store_rowTo rfl 28 (.tmp 2) (.tmp 30) rfl rfl b tabZ rfl rfl 28 tabZ R0.out infoR rfl (tab_all _ _ _ _) ?_))
    exact HRT.out _ _ tabZ _ _ (setRow_heap _ b tabZ tabZ 28 (0, 0) R0.out) rfl (setRow_below B0.out (by omega) _) hE.out (getT_no hE.out (by decide)) rfl rfl rfl rfl
  have HE4 := Lib.hid (HE3.out.trans (if_neg (fun h => h a4)))
  subst a4
  go_wp2_with fail
  refine (refAt_any B A c xs 8 4 _ HR0.out HC.out HN.out (by omega) (by omega)).mono ?_
  rintro e w' ⟨rfl, rfl⟩
  rw [← H8.out]
  by_cases a5 : n8 = xs.length
  case neg =>
    have hE := Lib.hid (getV_head (HE4.out.trans (if_pos a5)) (by decide))
    have d3 : ((n8 : Int) != (xs.length : Int)) = true := by simp; omega
    go_wp2_with (first | (refine wpList_buildTo rfl 28 #[] rfl (some 37) rfl tabZ (by kernel_rfl) ?_) | (refine wpList_store_rowTo rfl 28 (.tmp 2) (.tmp 37) rfl rfl b tabZ rfl rfl 28 tabZ R0.out infoR rfl (tab_all _ _ _ _) ?_))
    exact HRT.out _ _ tabZ _ _ (setRow_heap _ b tabZ tabZ 28 (0, 0) R0.out) rfl (setRow_below B0.out (by omega) _) hE.out (getT_no hE.out (by decide)) rfl rfl rfl rfl
  have HE5 := Lib.hid (HE4.out.trans (if_neg (fun h => h a5)))
  subst a5
  go_wp2_with fail
  go_loop [5] (fun x => ∃ k : Nat, 12 ≤ k ∧ k ≤ 32 ∧ x = .int .i64 (k : Int) ∧ Hid (∀ j, 12 ≤ j → j < k → (j < 16 ∨ 24 ≤ j) → xs.getD j 0 = 0)) (fun x => 32 - (intOf x).toNat)
  case atStart => exact ⟨12, by omega, by omega, rfl, fun j h1 h2 _ => by omega⟩
  case round =>
    obtain ⟨k, hk0, hk1, rfl, HZ⟩ := hrel
    by_cases hlt : k < 32
    · by_cases hmid : 16 ≤ k ∧ k < 24
      · have d1 : decide ((k : Int) < 16) = false := decide_eq_false (by omega)
        have d2 : decide (24 ≤ (k : Int)) = false := decide_eq_false (by omega)
        go_wp2
        go_round
        case rel => exact ⟨k + 1, by omega, by omega, by go_num, fun j h1 h2 h3 => HZ.out j h1 (by omega) h3⟩
        case measure => simp [intOf]; omega
      · obtain ⟨bb, off, cn, hA, hbb, hcell, hcn, HCN⟩ := HR0.out.byte (k := k) (by omega)
        subst hA
        by_cases h0 : cn = 0
        · subst h0
          have hz : ∀ j, 12 ≤ j → j < k + 1 → (j < 16 ∨ 24 ≤ j) → xs.getD j 0 = 0 := fun j h1 h2 h3 => by
            by_cases e : j = k
            · subst e; apply UInt8.toNat_inj.1; rw [← HCN.out]; rfl
            · exact HZ.out j h1 (by omega) h3
          have HZ2 := Lib.hid hz
          clear hz
          by_cases c16 : k < 16
          · have d1 : decide ((k : Int) < 16) = true := decide_eq_true (by omega)
            go_wp2
            go_round
            case rel => exact ⟨k + 1, by omega, by omega, by go_num, HZ2⟩
            case measure => simp [intOf]; omega
          · have d1 : decide ((k : Int) < 16) = false := decide_eq_false (by omega)
            have d2 : decide (24 ≤ (k : Int)) = true := decide_eq_true (by omega)
            go_wp2
            go_round
            case rel => exact ⟨k + 1, by omega, by omega, by go_num, HZ2⟩
            case measure => simp [intOf]; omega
        · have hne : ((cn : Int) != 0) = true := by simp; omega
          have hnz : xs.getD k 0 ≠ 0 := fun h => h0 (by rw [HCN.out, h]; rfl)
          have hE : headV xs = (14, (k : Int)) := by
            by_cases c16 : k < 16
            · have hp1 : p = (k : Int) := by rw [HP.out]; exact dirty_hit (a := 12) (m := 4) (by omega) hk0 (by omega) (fun j h1 h2 => HZ.out j h1 h2 (by omega)) hnz
              rw [HE5.out, hp1, if_pos (by omega)]
            · have hp1 : p = -1 := by rw [HP.out]; exact dirty_clean (a := 12) (m := 4) (by omega) (fun j h1 h2 => HZ.out j h1 (by omega) (by omega))
              have hq1 : q = (k : Int) := by rw [HQ.out]; exact dirty_hit (a := 24) (m := 8) (by omega) (by omega) (by omega) (fun j h1 h2 => HZ.out j (by omega) h2 (by omega)) hnz
              rw [HE5.out, hp1, hq1, if_neg (by omega), if_pos (by omega)]
          have hE := Lib.hid (getV_head hE (by decide))
          clear h0 hnz
          by_cases c16 : k < 16
          · have d1 : decide ((k : Int) < 16) = true := decide_eq_true (by omega)
            go_wp2_with (first | (refine wpList_buildTo rfl 28 #[] rfl (some 55) rfl tabZ (by kernel_rfl) ?_) | (refine wpList_store_rowTo rfl 28 (.tmp 2) (.tmp 55) rfl rfl b tabZ rfl rfl 28 tabZ R0.out infoR rfl (tab_all _ _ _ _) ?_))
            exact HRT.out _ _ tabZ _ _ (setRow_heap _ b tabZ tabZ 28 (0, 0) R0.out) rfl (setRow_below B0.out (by omega) _) hE.out (getT_no hE.out (by decide)) rfl rfl rfl rfl
          · have d1 : decide ((k : Int) < 16) = false := decide_eq_false (by omega)
            have d2 : decide (24 ≤ (k : Int)) = true := decide_eq_true (by omega)
            go_wp2_with (first | (refine wpList_buildTo rfl 28 #[] rfl (some 55) rfl tabZ (by kernel_rfl) ?_) | (refine wpList_store_rowTo rfl 28 (.tmp 2) (.tmp 55) rfl rfl b tabZ rfl rfl 28 tabZ R0.out infoR rfl (tab_all _ _ _ _) ?_))
            exact HRT.out _ _ tabZ _ _ (setRow_heap _ b tabZ tabZ 28 (0, 0) R0.out) rfl (setRow_below B0.out (by omega) _) hE.out (getT_no hE.out (by decide)) rfl rfl rfl rfl
    · obtain rfl : k = 32 := by omega
      have hp1 : p = -1 := by rw [HP.out]; exact dirty_clean (a := 12) (m := 4) (by omega) (fun j h1 h2 => HZ.out j (by omega) (by omega) (by omega))
      have hq1 : q = -1 := by rw [HQ.out]; exact dirty_clean (a := 24) (m := 8) (by omega) (fun j h1 h2 => HZ.out j (by omega) (by omega) (by omega))
      have H0 := Lib.hid (show headV xs = (0, 0) from by rw [HE5.out, hp1, hq1, if_neg (by omega), if_neg (by omega)])
      clear hp1 hq1 hlt hk0 hk1 HZ
      go_upto_region 17 with fail
      have R1 := Lib.hid ((Below.heap_alloc w0 (.cells (cntA fun _ => 0) 23) b (by have := HZ0.out; omega)).trans R0.out)
      have r1 := heap_alloc_new w0 (.cells (cntA fun _ => 0) 23)
      have B1 := Lib.hid (B0.out.alloc (by have := HZ0.out; have := HB.out; omega) (.cells (cntA fun _ => 0) 23))
      have X1 := Lib.hid (HR0.out.alloc (by have := HZ0.out; omega) (.cells (cntA fun _ => 0) 23))
      have hz1 : (w0.alloc (.cells (cntA fun _ => 0) 23)).heap.size = w0.heap.size + 1 := by simp
      rw [show (Obj.cells #[Value.int IntKind.i64 0, Value.int IntKind.i64 0, Value.int IntKind.i64 0, Value.int IntKind.i64 0, Value.int IntKind.i64 0, Value.int IntKind.i64 0, Value.int IntKind.i64 0] 23) = .cells (cntA fun _ => 0) 23 from rfl]
      generalize w0.alloc (.cells (cntA fun _ => 0) 23) = w1 at *
      have hb1 : w0.heap.size = b + 1 := HZ0.out
      rw [hb1] at r1 hz1 ⊢
      have Q1 := Lib.hid r1
      have HZ1 := Lib.hid hz1
      clear r1 hz1 hb1 R0 B0 HR0
      go_wp2_with fail
      go_loopw [7, 8] (fun n i wr => ∃ k : Nat, k ≤ 6 ∧ i = .int .i64 ((k : Int) + 1) ∧ n = .int .i64 (offT (cntX xs) k) ∧ Hid (secX xs 0 6 = secX xs k (6 - k)) ∧ Hid (okT (cntX xs) k) ∧
        wr.heap[b]? = some (.cells tabZ 28 (0, 0)) ∧ wr.heap[b + 1]? = some (.cells (cntA (refC (cntX xs) k)) 23 (0, 0)) ∧ Below b w wr ∧ Rd wr B A xs) (fun _ i _ => 8 - (intOf i).toNat)
      case atStart => exact ⟨0, by omega, rfl, rfl, rfl, okT.zero _, R1.out, Q1.out, B1.out, X1.out⟩
      case round =>
        obtain ⟨k, hk, rfl, rfl, HSX, HOK, hr, hr1, hbel, hX⟩ := hrel
        have R2 := Lib.hid hr
        have Q2 := Lib.hid hr1
        have B2 := Lib.hid hbel
        have X2 := Lib.hid hX
        clear hr hr1 hbel hX
        by_cases hlt : k < 6
        · obtain ⟨s, hs⟩ : ∃ s : Nat, s = k + 1 := ⟨_, rfl⟩
          have es : ((k : Int) + 1) = (s : Int) := by omega
          rw [es]
          have hs7 : s < 7 := by omega
          have hs7i : (s : Int) < 7 := by omega
          have hs1 : 1 ≤ s := by omega
          have hle6 : (s : Int) ≤ 6 := by omega
          have m1 : IntKind.i64.wrap (8 * (s : Int)) = 8 * (s : Int) := IntWalk.i64_in _ (by omega)
          have m2 : IntKind.i64.wrap (28 + 8 * (s : Int)) = 28 + 8 * (s : Int) := IntWalk.i64_in _ (by omega)
          have m3 : IntKind.i64.wrap (24 + 8 * (s : Int)) = 24 + 8 * (s : Int) := IntWalk.i64_in _ (by omega)
          obtain ⟨nn, hnn⟩ : ∃ nn : Nat, nn = numV xs (28 + 8 * (s : Int)) 4 := ⟨_, rfl⟩
          obtain ⟨oo, hoo⟩ : ∃ oo : Nat, oo = numV xs (24 + 8 * (s : Int)) 4 := ⟨_, rfl⟩
          have hnl : nn < 4294967296 := by rw [hnn]; exact numV_lt xs _ 4
          have hol : oo < 4294967296 := by rw [hoo]; exact numV_lt xs _ 4
          have hc0 : cntX xs s = (nn : Int) := by unfold cntX; rw [if_neg (by omega), hnn]
          have ho0 : offX xs s = (oo : Int) := by unfold offX; rw [hoo]
          have hsec : secX xs k (6 - k) = if limT s < (nn : Int) then (7, 28 + 8 * (s : Int)) else if (oo : Int) ≠ offT (cntX xs) k then (13, 24 + 8 * (s : Int)) else secX xs s (6 - s) := by
            rw [show 6 - k = (6 - s) + 1 from by omega, secX_succ, ← hs, hc0, ho0]
          have HS := Lib.hid hs
          have HNN := Lib.hid hnn
          have HOO := Lib.hid hoo
          have HC0 := Lib.hid hc0
          have HSC := Lib.hid (HSX.out.trans hsec)
          have hro := offT_range (cntX xs) k HOK.out
          obtain ⟨l0, l1⟩ := limT_range s
          have u3 : IntKind.u64.wrap (limT s) = limT s := IntWalk.u64_in _ (by omega)
          have hH := fun w1 => Limit_any (s : Int) w1
          rw [limV_limT hs1 (by omega)] at hH
          have HH := Lib.hid hH
          obtain ⟨lim, hlim⟩ : ∃ lim, lim = limT s := ⟨_, rfl⟩
          rw [← hlim] at u3 HSC HH l0 l1
          have HLIM := Lib.hid hlim
          obtain ⟨oT, hoT⟩ : ∃ oT, oT = offT (cntX xs) k := ⟨_, rfl⟩
          have HOT := Lib.hid hoT
          rw [← hoT] at HSC hro ⊢
          have u4 : IntKind.u64.wrap oT = oT := IntWalk.u64_in _ (by omega)
          clear hs hnn hoo hc0 ho0 hsec hH hlim hoT es
          go_wp2_with fail
          refine (refAt_any B A c xs (28 + 8 * (s : Int)) 4 _ X2.out HC.out HN.out (by omega) (by omega)).mono ?_
          rintro e w' ⟨rfl, rfl⟩
          rw [← HNN.out]
          go_wp2_with fail
          refine (HH.out _).mono ?_
          rintro e w' ⟨rfl, rfl⟩
          by_cases hbig : lim < (nn : Int)
          case pos =>
            have d1 : decide (lim < (nn : Int)) = true := decide_eq_true hbig
            have hE := Lib.hid (getV_sec H0.out (HSC.out.trans (if_pos hbig)) (by decide))
            go_wp2_with (first | (refine wpList_buildTo rfl 28 #[] rfl (some 71) rfl tabZ (by kernel_rfl) ?_) | (refine wpList_store_rowTo rfl 28 (.tmp 2) (.tmp 71) rfl rfl b tabZ rfl rfl 28 tabZ R2.out infoR rfl (tab_all _ _ _ _) ?_))
            exact HRT.out _ _ tabZ _ _ (setRow_heap _ b tabZ tabZ 28 (0, 0) R2.out) rfl (setRow_below B2.out (by omega) _) hE.out (getT_no hE.out (by decide)) rfl rfl rfl rfl
          have d1 : decide (lim < (nn : Int)) = false := decide_eq_false hbig
          have HSC2 := Lib.hid (HSC.out.trans (if_neg hbig))
          go_wp2_with fail
          refine (refAt_any B A c xs (24 + 8 * (s : Int)) 4 _ X2.out HC.out HN.out (by omega) (by omega)).mono ?_
          rintro e w' ⟨rfl, rfl⟩
          rw [← HOO.out]
          clear d1
          by_cases hoff : (oo : Int) = oT
          case neg =>
            have d2 : ((oo : Int) != oT) = true := by simpa using hoff
            have hE := Lib.hid (getV_sec H0.out (HSC2.out.trans (if_pos hoff)) (by decide))
            go_wp2_with (first | (refine wpList_buildTo rfl 28 #[] rfl (some 83) rfl tabZ (by kernel_rfl) ?_) | (refine wpList_store_rowTo rfl 28 (.tmp 2) (.tmp 83) rfl rfl b tabZ rfl rfl 28 tabZ R2.out infoR rfl (tab_all _ _ _ _) ?_))
            exact HRT.out _ _ tabZ _ _ (setRow_heap _ b tabZ tabZ 28 (0, 0) R2.out) rfl (setRow_below B2.out (by omega) _) hE.out (getT_no hE.out (by decide)) rfl rfl rfl rfl
          have HSC3 := Lib.hid (HSC2.out.trans (if_neg (fun h => h hoff)))
          have d2 : ((oo : Int) != oT) = false := by simp [hoff]
          have u5 : IntKind.i64.wrap (nn : Int) = nn := IntWalk.i64_in _ (by omega)
          have kc := cnt_cell Q2.out s hs7
          have kf := tab_free Q2.out
          go_upto_region 27 with fail
          have Q3 := Lib.hid (cnt_set Q2.out s hs7 (nn : Int))
          have R3 := Lib.hid ((Below.heap_setCell wr ⟨b + 1, s, none⟩ (.int .i64 (nn : Int)) b (by show b ≠ b + 1; omega)).trans R2.out)
          have B3 := Lib.hid (B2.out.setCell (p := ⟨b + 1, s, none⟩) (by show b ≤ b + 1; omega) (.int .i64 (nn : Int)))
          have X3 := Lib.hid (X2.out.setCell (p := ⟨b + 1, s, none⟩) (by show B ≤ b + 1; omega) (.int .i64 (nn : Int)))
          generalize wr.setCell ⟨b + 1, s, none⟩ (.int .i64 (nn : Int)) = w3 at *
          clear kc kf
          have kc := cnt_cell Q3.out s hs7
          rw [upd_same] at kc
          obtain ⟨z0, z1⟩ := szT_range s
          obtain ⟨p0, p1⟩ := prod_range (show 0 ≤ (nn : Int) by omega) (show (nn : Int) ≤ 1024 by omega) z0 z1
          have hS := Lib.hid (fun w1 => refSize_any (s : Int) w1)
          rw [sizeV_szT] at hS
          obtain ⟨ra, rb, _⟩ := hro
          have hA := Lib.hid (fun w1 => refAlign_any (oT + nn * szT s) w1 (by omega) (by omega))
          have e1 : IntKind.i64.wrap ((nn : Int) * szT s) = nn * szT s := IntWalk.i64_in _ (by omega)
          have e2 : IntKind.i64.wrap (oT + nn * szT s) = oT + nn * szT s := IntWalk.i64_in _ (by omega)
          have hof : offT (cntX xs) s = al (oT + nn * szT s) := by rw [HS.out, HOT.out]; show al (offT (cntX xs) k + cntX xs (k + 1) * szT (k + 1)) = _; rw [← HS.out, HC0.out]
          have HOF := Lib.hid hof
          have hok2 : okT (cntX xs) s := by
            rw [HS.out]
            refine HOK.out.succ ?_ ?_ <;> rw [← HS.out, HC0.out]
            · omega
            · rw [← HLIM.out]; omega
          have HOK2 := Lib.hid hok2
          have hrow : cntA (upd (refC (cntX xs) k) s (nn : Int)) = cntA (refC (cntX xs) s) := by rw [← HC0.out, HS.out, refC_next]
          rw [hrow] at Q3
          clear hof hok2 hrow d2 m1 m2 m3 u3 u4 hbig
          go_wp2_with fail
          go_quiet (first | exact (hS.out _).mono (fun e w'' ⟨he, hw⟩ => ⟨he, _, hw.symm⟩) | exact (hA.out _).mono (fun e w'' ⟨he, hw⟩ => ⟨he, _, hw.symm⟩))
          go_wp2
          go_roundw
          case rel => exact ⟨s, by omega, rfl, by rw [HOF.out], HSC3.out, HOK2.out, R3.out, Q3.out, drewN_below B3.out _, X3.out⟩
          case measure => simp [intOf]; have := HS.out; omega
        · obtain rfl : k = 6 := by omega
          clear hlt hk
          have hsx : secX xs 0 6 = (0, 0) := HSX.out
          have HSX0 := Lib.hid hsx
          have hcr : wr.heap[b + 1]? = some (.cells (cntA (cntX xs)) 23 (0, 0)) := Q2.out
          have HFOR := Lib.hid (fun (fr : Int) (w1 : World) => refFor_res fr (cntX xs) w1)
          rw [okB_true HOK.out] at HFOR
          obtain ⟨fr, hfr⟩ : ∃ fr : Nat, fr = numV xs 16 8 := ⟨_, rfl⟩
          have HFR := Lib.hid hfr
          have HTB := Lib.hid (tabR_true HOK.out (fr : Int))
          have hsz : b + 2 ≤ wr.heap.size := by have := (Array.getElem?_eq_some_iff.1 hcr).1; omega
          clear hsx hfr
          go_upto_region 28 with fail
          have G3 : RgW w wr.drew b B A xs := ⟨R2.out, hcr, drewN_below B2.out 1, X2.out⟩
          have Q3 := G3.q
          have GG := Lib.hid G3
          clear R2 Q2 B2 X2 hcr hsz G3
          refine wp_region_Z (fun u => u.heap[b + 1]? = some (.cells (cntA (cntX xs)) 23 (0, 0))) 100 (by kernel_rfl) ?_
          generalize wr.drew = w3 at *
          refine anyZ_take 0 (.slice A xs.length c) rfl (by kernel_rfl) (by kernel_rfl) (by kernel_rfl) (by kernel_rfl) (fun _ _ _ h => h) (by rfl) Q3 (fun w' _ => by go_simp) ?_
          refine anyZ_take 2 (.agg (cntA (cntX xs))) rfl (by kernel_rfl) (by kernel_rfl) (by kernel_rfl) (by kernel_rfl) (fun _ _ _ h => h) (by rfl) Q3 (fun w' hw' => exec_load_row 23 (.tmp 6) rfl (b + 1) rfl 23 (cntA (cntX xs)) (0, 0) _ hw' Try.underlying23 rfl (by kernel_rfl)) ?_
          clear Q3
          refine anyZ_two 1 7 rfl rfl (by kernel_rfl) (fun K hK => ?_) (fun K hK => ?_)
          · rw [if_pos (by rfl)]
            go_simp
            refine (refAt_any B A c xs 16 8 _ GG.out.rd HC.out HN.out (by omega) (by omega)).mono ?_
            rintro e w' ⟨rfl, rfl⟩
            rw [← HFR.out]
            go_simp
            refine hK _ _ (fun _ => GG.out.q) ?_
            clear hK K
            refine anyZ_two 3 7 rfl rfl (by kernel_rfl) (fun K hK => ?_) (fun K hK => ?_)
            · rw [if_pos (by rfl)]
              go_simp
              refine (HFOR.out _ _).mono ?_
              rintro e w5 ⟨rfl, hb5⟩
              rw [HTB.out]
              have GF := Lib.hid (GG.out.after hB hb5)
              have Q5 := GF.out.q
              clear hb5 GG
              go_simp
              refine hK _ _ (fun _ => Q5) ?_
              clear hK K
              refine anyZ_take 4 (.tuple #[.agg (tabT (fr : Int) (cntX xs)), .bool true]) rfl (by kernel_rfl) (by kernel_rfl) (by kernel_rfl) (by kernel_rfl) (fun _ _ _ h => h) (by rfl) Q5 (fun w' _ => by go_simp) ?_
              refine anyZ_take 5 (.agg (tabT (fr : Int) (cntX xs))) rfl (by kernel_rfl) (by kernel_rfl) (by kernel_rfl) (by kernel_rfl) (fun _ _ _ h => h) (by rfl) Q5 (fun w' _ => by go_simp) ?_
              refine anyZ_take 6 (.bool true) rfl (by kernel_rfl) (by kernel_rfl) (by kernel_rfl) (by kernel_rfl) (fun _ _ _ h => h) (by rfl) Q5 (fun w' _ => by go_simp) ?_
              clear Q5
              refine anyZ_next 7 rfl (by kernel_rfl) (fun K hK => ?_)
              rw [if_pos (by rfl)]
              go_simp
              have RG := Lib.hid (heap_alloc_new w5 (.cells tabZ 28))
              have GA := Lib.hid (GF.out.after hB ((Below.refl _ w5).alloc (Nat.le_refl _) (.cells tabZ 28)))
              have hgz : b + 2 ≤ w5.heap.size := GF.out.lt
              refine hK _ _ (fun _ => GA.out.q) ?_
              clear hK K GF
              have GF := GA
              rw [show (Obj.cells #[Value.int IntKind.u64 0, Value.int IntKind.i64 0, Value.int IntKind.i64 0, Value.int IntKind.i64 0, Value.int IntKind.i64 0, Value.int IntKind.i64 0, Value.int IntKind.i64 0, Value.int IntKind.i64 0, Value.int IntKind.i64 0, Value.int IntKind.i64 0, Value.int IntKind.i64 0, Value.int IntKind.i64 0, Value.int IntKind.i64 0, Value.int IntKind.i64 0, Value.int IntKind.i64 0, Value.int IntKind.i64 0] 28) = .cells tabZ 28 from rfl]
              clear GA
              generalize w5.alloc (.cells tabZ 28) = w6 at *
              generalize w5.heap.size = gz at *
              refine anyZ_next 8 rfl (by kernel_rfl) (fun K hK => ?_)
              rw [if_pos (by rfl)]
              refine operWp_store_row 28 (.tmp 10) (.tmp 105) rfl gz (tabT (fr : Int) (cntX xs)) rfl rfl 28 tabZ RG.out infoR rfl (tab_all _ _ _ _) ?_
              have RH := Lib.hid (setRow_heap _ gz tabZ (tabT (fr : Int) (cntX xs)) 28 (0, 0) RG.out)
              have GH := Lib.hid (GF.out.row hB hgz (tabT (fr : Int) (cntX xs)))
              refine hK _ _ (fun _ => GH.out.q) ?_
              clear hK K RG GF
              refine anyZ_next 9 rfl (by kernel_rfl) (fun K hK => ?_)
              rw [if_pos (by rfl)]
              go_simp
              refine hK _ _ (fun _ => GH.out.q) ?_
              clear hK K
              refine anyZ_done (by kernel_rfl) ?_ _
              have x1 := tab_one RH.out
              by_cases hl : totT (cntX xs) = (xs.length : Int)
              case neg =>
                have d1 : (totT (cntX xs) != (xs.length : Int)) = true := by simpa using hl
                have hE := Lib.hid (getV_len H0.out HSX0.out hl)
                go_wp2_with (first | (refine wpList_buildTo rfl 28 #[] rfl (some 112) rfl tabZ (by kernel_rfl) ?_) | (refine wpList_store_rowTo rfl 28 (.tmp 2) (.tmp 112) rfl rfl b tabZ rfl rfl 28 tabZ GH.out.r infoR rfl (tab_all _ _ _ _) ?_))
                exact HRT.out _ _ tabZ _ _ (setRow_heap _ b tabZ tabZ 28 (0, 0) GH.out.r) rfl (setRow_below GH.out.bel (by omega) _) hE.out (getT_no hE.out (by decide)) rfl rfl rfl rfl
              have d1 : (totT (cntX xs) != (xs.length : Int)) = false := by simp [hl]
              have hE := Lib.hid (getV_ok H0.out HSX0.out hl)
              have hT := Lib.hid ((getT_ok hE.out).trans (by rw [← HFR.out]))
              go_wp2_with (first | (refine wpList_load_row rfl 28 (.tmp 10) rfl gz rfl 28 (tabT (fr : Int) (cntX xs)) (0, 0) _ RH.out Try.underlying28 rfl infoR ?_) | (refine wpList_store_rowTo rfl 28 (.tmp 2) (.tmp 113) rfl rfl b (tabT (fr : Int) (cntX xs)) rfl rfl 28 tabZ GH.out.r infoR rfl (tab_all _ _ _ _) ?_))
              exact HRT.out _ _ (tabT (fr : Int) (cntX xs)) _ _ (setRow_heap _ b tabZ (tabT (fr : Int) (cntX xs)) 28 (0, 0) GH.out.r) rfl (setRow_below GH.out.bel (by omega) _) hE.out hT.out rfl rfl rfl rfl
            · rw [if_pos (by rfl)]
              go_simp
              have RZ := Lib.hid (heap_alloc_new w3 (.cells tabZ 28))
              have GA := Lib.hid (GG.out.after hB ((Below.refl _ w3).alloc (Nat.le_refl _) (.cells tabZ 28)))
              have hgz : b + 2 ≤ w3.heap.size := GG.out.lt
              refine hK _ _ (fun _ => GA.out.q) ?_
              clear hK K GG
              have GG := GA
              rw [show (Obj.cells #[Value.int IntKind.u64 0, Value.int IntKind.i64 0, Value.int IntKind.i64 0, Value.int IntKind.i64 0, Value.int IntKind.i64 0, Value.int IntKind.i64 0, Value.int IntKind.i64 0, Value.int IntKind.i64 0, Value.int IntKind.i64 0, Value.int IntKind.i64 0, Value.int IntKind.i64 0, Value.int IntKind.i64 0, Value.int IntKind.i64 0, Value.int IntKind.i64 0, Value.int IntKind.i64 0, Value.int IntKind.i64 0] 28) = .cells tabZ 28 from rfl]
              clear GA
              generalize w3.alloc (.cells tabZ 28) = w4 at *
              generalize w3.heap.size = gz at *
              refine anyZ_next 3 rfl (by kernel_rfl) (fun K hK => ?_)
              rw [if_pos (by rfl)]
              go_simp
              refine (HFOR.out _ _).mono ?_
              rintro e w5 ⟨rfl, hb5⟩
              rw [HTB.out]
              have RG := Lib.hid ((hb5.block gz (Array.getElem?_eq_some_iff.1 RZ.out).1).trans RZ.out)
              clear RZ
              have GF := Lib.hid (GG.out.after hB hb5)
              have Q5 := GF.out.q
              clear hb5 GG
              go_simp
              refine hK _ _ (fun _ => Q5) ?_
              clear hK K
              refine anyZ_take 4 (.tuple #[.agg (tabT (fr : Int) (cntX xs)), .bool true]) rfl (by kernel_rfl) (by kernel_rfl) (by kernel_rfl) (by kernel_rfl) (fun _ _ _ h => h) (by rfl) Q5 (fun w' _ => by go_simp) ?_
              refine anyZ_take 5 (.agg (tabT (fr : Int) (cntX xs))) rfl (by kernel_rfl) (by kernel_rfl) (by kernel_rfl) (by kernel_rfl) (fun _ _ _ h => h) (by rfl) Q5 (fun w' _ => by go_simp) ?_
              refine anyZ_take 6 (.bool true) rfl (by kernel_rfl) (by kernel_rfl) (by kernel_rfl) (by kernel_rfl) (fun _ _ _ h => h) (by rfl) Q5 (fun w' _ => by go_simp) ?_
              clear Q5
              refine anyZ_next 8 rfl (by kernel_rfl) (fun K hK => ?_)
              rw [if_pos (by rfl)]
              refine operWp_store_row 28 (.tmp 10) (.tmp 105) rfl gz (tabT (fr : Int) (cntX xs)) rfl rfl 28 tabZ RG.out infoR rfl (tab_all _ _ _ _) ?_
              have RH := Lib.hid (setRow_heap _ gz tabZ (tabT (fr : Int) (cntX xs)) 28 (0, 0) RG.out)
              have GH := Lib.hid (GF.out.row hB hgz (tabT (fr : Int) (cntX xs)))
              refine hK _ _ (fun _ => GH.out.q) ?_
              clear hK K RG GF
              refine anyZ_next 9 rfl (by kernel_rfl) (fun K hK => ?_)
              rw [if_pos (by rfl)]
              go_simp
              refine hK _ _ (fun _ => GH.out.q) ?_
              clear hK K
              refine anyZ_done (by kernel_rfl) ?_ _
              have x1 := tab_one RH.out
              by_cases hl : totT (cntX xs) = (xs.length : Int)
              case neg =>
                have d1 : (totT (cntX xs) != (xs.length : Int)) = true := by simpa using hl
                have hE := Lib.hid (getV_len H0.out HSX0.out hl)
                go_wp2_with (first | (refine wpList_buildTo rfl 28 #[] rfl (some 112) rfl tabZ (by kernel_rfl) ?_) | (refine wpList_store_rowTo rfl 28 (.tmp 2) (.tmp 112) rfl rfl b tabZ rfl rfl 28 tabZ GH.out.r infoR rfl (tab_all _ _ _ _) ?_))
                exact HRT.out _ _ tabZ _ _ (setRow_heap _ b tabZ tabZ 28 (0, 0) GH.out.r) rfl (setRow_below GH.out.bel (by omega) _) hE.out (getT_no hE.out (by decide)) rfl rfl rfl rfl
              have d1 : (totT (cntX xs) != (xs.length : Int)) = false := by simp [hl]
              have hE := Lib.hid (getV_ok H0.out HSX0.out hl)
              have hT := Lib.hid ((getT_ok hE.out).trans (by rw [← HFR.out]))
              go_wp2_with (first | (refine wpList_load_row rfl 28 (.tmp 10) rfl gz rfl 28 (tabT (fr : Int) (cntX xs)) (0, 0) _ RH.out Try.underlying28 rfl infoR ?_) | (refine wpList_store_rowTo rfl 28 (.tmp 2) (.tmp 113) rfl rfl b (tabT (fr : Int) (cntX xs)) rfl rfl 28 tabZ GH.out.r infoR rfl (tab_all _ _ _ _) ?_))
              exact HRT.out _ _ (tabT (fr : Int) (cntX xs)) _ _ (setRow_heap _ b tabZ (tabT (fr : Int) (cntX xs)) 28 (0, 0) GH.out.r) rfl (setRow_below GH.out.bel (by omega) _) hE.out hT.out rfl rfl rfl rfl
          · rw [if_pos (by rfl)]
            go_simp
            have RZ := Lib.hid (heap_alloc_new w3 (.cells tabZ 28))
            have GA := Lib.hid (GG.out.after hB ((Below.refl _ w3).alloc (Nat.le_refl _) (.cells tabZ 28)))
            have hgz : b + 2 ≤ w3.heap.size := GG.out.lt
            refine hK _ _ (fun _ => GA.out.q) ?_
            clear hK K GG
            have GG := GA
            rw [show (Obj.cells #[Value.int IntKind.u64 0, Value.int IntKind.i64 0, Value.int IntKind.i64 0, Value.int IntKind.i64 0, Value.int IntKind.i64 0, Value.int IntKind.i64 0, Value.int IntKind.i64 0, Value.int IntKind.i64 0, Value.int IntKind.i64 0, Value.int IntKind.i64 0, Value.int IntKind.i64 0, Value.int IntKind.i64 0, Value.int IntKind.i64 0, Value.int IntKind.i64 0, Value.int IntKind.i64 0, Value.int IntKind.i64 0] 28) = .cells tabZ 28 from rfl]
            clear GA
            generalize w3.alloc (.cells tabZ 28) = w4 at *
            generalize w3.heap.size = gz at *
            refine anyZ_next 1 rfl (by kernel_rfl) (fun K hK => ?_)
            rw [if_pos (by rfl)]
            go_simp
            refine (refAt_any B A c xs 16 8 _ GG.out.rd HC.out HN.out (by omega) (by omega)).mono ?_
            rintro e w' ⟨rfl, rfl⟩
            rw [← HFR.out]
            go_simp
            refine hK _ _ (fun _ => GG.out.q) ?_
            clear hK K
            refine anyZ_next 3 rfl (by kernel_rfl) (fun K hK => ?_)
            rw [if_pos (by rfl)]
            go_simp
            refine (HFOR.out _ _).mono ?_
            rintro e w5 ⟨rfl, hb5⟩
            rw [HTB.out]
            have RG := Lib.hid ((hb5.block gz (Array.getElem?_eq_some_iff.1 RZ.out).1).trans RZ.out)
            clear RZ
            have GF := Lib.hid (GG.out.after hB hb5)
            have Q5 := GF.out.q
            clear hb5 GG
            go_simp
            refine hK _ _ (fun _ => Q5) ?_
            clear hK K
            refine anyZ_take 4 (.tuple #[.agg (tabT (fr : Int) (cntX xs)), .bool true]) rfl (by kernel_rfl) (by kernel_rfl) (by kernel_rfl) (by kernel_rfl) (fun _ _ _ h => h) (by rfl) Q5 (fun w' _ => by go_simp) ?_
            refine anyZ_take 5 (.agg (tabT (fr : Int) (cntX xs))) rfl (by kernel_rfl) (by kernel_rfl) (by kernel_rfl) (by kernel_rfl) (fun _ _ _ h => h) (by rfl) Q5 (fun w' _ => by go_simp) ?_
            refine anyZ_take 6 (.bool true) rfl (by kernel_rfl) (by kernel_rfl) (by kernel_rfl) (by kernel_rfl) (fun _ _ _ h => h) (by rfl) Q5 (fun w' _ => by go_simp) ?_
            clear Q5
            refine anyZ_next 8 rfl (by kernel_rfl) (fun K hK => ?_)
            rw [if_pos (by rfl)]
            refine operWp_store_row 28 (.tmp 10) (.tmp 105) rfl gz (tabT (fr : Int) (cntX xs)) rfl rfl 28 tabZ RG.out infoR rfl (tab_all _ _ _ _) ?_
            have RH := Lib.hid (setRow_heap _ gz tabZ (tabT (fr : Int) (cntX xs)) 28 (0, 0) RG.out)
            have GH := Lib.hid (GF.out.row hB hgz (tabT (fr : Int) (cntX xs)))
            refine hK _ _ (fun _ => GH.out.q) ?_
            clear hK K RG GF
            refine anyZ_next 9 rfl (by kernel_rfl) (fun K hK => ?_)
            rw [if_pos (by rfl)]
            go_simp
            refine hK _ _ (fun _ => GH.out.q) ?_
            clear hK K
            refine anyZ_done (by kernel_rfl) ?_ _
            have x1 := tab_one RH.out
            by_cases hl : totT (cntX xs) = (xs.length : Int)
            case neg =>
              have d1 : (totT (cntX xs) != (xs.length : Int)) = true := by simpa using hl
              have hE := Lib.hid (getV_len H0.out HSX0.out hl)
              go_wp2_with (first | (refine wpList_buildTo rfl 28 #[] rfl (some 112) rfl tabZ (by kernel_rfl) ?_) | (refine wpList_store_rowTo rfl 28 (.tmp 2) (.tmp 112) rfl rfl b tabZ rfl rfl 28 tabZ GH.out.r infoR rfl (tab_all _ _ _ _) ?_))
              exact HRT.out _ _ tabZ _ _ (setRow_heap _ b tabZ tabZ 28 (0, 0) GH.out.r) rfl (setRow_below GH.out.bel (by omega) _) hE.out (getT_no hE.out (by decide)) rfl rfl rfl rfl
            have d1 : (totT (cntX xs) != (xs.length : Int)) = false := by simp [hl]
            have hE := Lib.hid (getV_ok H0.out HSX0.out hl)
            have hT := Lib.hid ((getT_ok hE.out).trans (by rw [← HFR.out]))
            go_wp2_with (first | (refine wpList_load_row rfl 28 (.tmp 10) rfl gz rfl 28 (tabT (fr : Int) (cntX xs)) (0, 0) _ RH.out Try.underlying28 rfl infoR ?_) | (refine wpList_store_rowTo rfl 28 (.tmp 2) (.tmp 113) rfl rfl b (tabT (fr : Int) (cntX xs)) rfl rfl 28 tabZ GH.out.r infoR rfl (tab_all _ _ _ _) ?_))
            exact HRT.out _ _ (tabT (fr : Int) (cntX xs)) _ _ (setRow_heap _ b tabZ (tabT (fr : Int) (cntX xs)) 28 (0, 0) GH.out.r) rfl (setRow_below GH.out.bel (by omega) _) hE.out hT.out rfl rfl rfl rfl
end Go.Proofs.Ythnognjcbjgkbaa
