/-
  Contract of Section.
-/
import Derived.Test.YthnognjcbjgkbaaTab10
import Derived.RangeFuncFrom
namespace Go.Proofs.Ythnognjcbjgkbaa
set_option linter.unusedVariables false
open Go.RowKit Go.Shelf
attribute [local go_sem] Oper.semAt_some atS upS

theorem secGo_skip {c : Nat → Int} {p : Int} : ∀ (j : Nat), j ≤ 6 → (∀ y ∈ upT j, ¬ inT c p (y.val + 1)) → secGo c p (secsFrom 0) = secGo c p (secsFrom j)
  | 0, _, _ => rfl
  | j + 1, hj, h => by
    have hs := upT_succ (k := j) (by omega)
    rw [secGo_skip j (by omega) (fun y hy => h y (by rw [hs]; exact List.mem_append.2 (.inl hy))), secsFrom_cons (by omega)]
    have := h ⟨j, by omega⟩ (by rw [hs]; simp)
    show (if inT c p (j + 1) then _ else _) = _
    rw [if_neg this]
theorem secGo_none {c : Nat → Int} {p : Int} (h : ∀ y ∈ upT 6, ¬ inT c p (y.val + 1)) : secGo c p (secsFrom 0) = (-1, -1) := by
  rw [secGo_skip 6 (Nat.le_refl _) h]; rfl
theorem secGo_hit {c : Nat → Int} {p : Int} {pre : List (Fin 6)} {x : Fin 6} {k : Nat} (hk : 1 ≤ k) (h6 : k ≤ 6) (hp : pre ++ [x] = upT k) (h : ∀ y ∈ pre, ¬ inT c p (y.val + 1)) (hin : inT c p (x.val + 1)) :
    secGo c p (secsFrom 0) = (((x.val : Int) + 1), (p - offT c x.val).tdiv (szT (x.val + 1))) := by
  obtain ⟨j, rfl⟩ : ∃ j, k = j + 1 := ⟨k - 1, by omega⟩
  rw [upT_succ (k := j) (by omega)] at hp
  obtain ⟨h1, h2⟩ := List.append_inj' hp rfl
  obtain rfl : x = ⟨j, by omega⟩ := by simpa using h2
  rw [h1] at h
  rw [secGo_skip j (by omega) h, secsFrom_cons (by omega)]
  show (if inT c p (j + 1) then _ else _) = _
  rw [if_pos hin]
  rfl

theorem four_new (w : World) (o1 o2 o3 o4 : Obj) : ((((w.alloc o1).alloc o2).alloc o3).alloc o4).heap[w.heap.size]? = some o1 ∧ ((((w.alloc o1).alloc o2).alloc o3).alloc o4).heap[w.heap.size + 1]? = some o2 ∧
    ((((w.alloc o1).alloc o2).alloc o3).alloc o4).heap[w.heap.size + 1 + 1]? = some o3 ∧ ((((w.alloc o1).alloc o2).alloc o3).alloc o4).heap[w.heap.size + 1 + 1 + 1]? = some o4 := by
  have a1 := heap_alloc_new w o1
  have a2 := heap_alloc_new (w.alloc o1) o2
  have a3 := heap_alloc_new ((w.alloc o1).alloc o2) o3
  have a4 := heap_alloc_new (((w.alloc o1).alloc o2).alloc o3) o4
  simp only [World.size_alloc] at a2 a3 a4
  have up : ∀ (W : World) (o o' : Obj) (k : Nat), W.heap[k]? = some o → (W.alloc o').heap[k]? = some o := fun W o o' k h => (Below.heap_alloc W o' k (Array.getElem?_eq_some_iff.1 h).1).trans h
  exact ⟨up _ _ _ _ (up _ _ _ _ (up _ _ _ _ a1)), up _ _ _ _ (up _ _ _ _ a2), up _ _ _ _ a3, a4⟩

/-- the four variables of Section -/
structure SecW (W : World) (b : Nat) (fr : Int) (c : Nat → Int) (at_ x y : Int) : Prop where
  r0 : W.heap[b]? = some (.cells (tabT fr c) 25 (0, 0))
  r1 : W.heap[b + 1]? = some (.cells #[.int .i64 at_] 3 (0, 0))
  r2 : W.heap[b + 1 + 1]? = some (.cells #[.int .i64 x] 3 (0, 0))
  r3 : W.heap[b + 1 + 1 + 1]? = some (.cells #[.int .i64 y] 3 (0, 0))
section
variable {W W' : World} {b : Nat} {fr : Int} {c : Nat → Int} {at_ x y : Int}
theorem SecW.kept {row : Option Nat} (h : SecW W b fr c at_ x y) (hg : W.grownBy W' row) (hr : ∀ r, row = some r → ∃ o : Obj, W.heap[r]? = some o ∧ o.isCells = false) : SecW W' b fr c at_ x y :=
  ⟨row_kept h.r0 hg hr, row_kept h.r1 hg hr, row_kept h.r2 hg hr, row_kept h.r3 hg hr⟩
theorem SecW.after (h : SecW W b fr c at_ x y) (hb : Below W.heap.size W W') : SecW W' b fr c at_ x y := by
  have up : ∀ {k : Nat} {o : Obj}, W.heap[k]? = some o → W'.heap[k]? = some o := fun {k o} hk => (hb.block k (Array.getElem?_eq_some_iff.1 hk).1).trans hk
  exact ⟨up h.r0, up h.r1, up h.r2, up h.r3⟩
theorem SecW.lt (h : SecW W b fr c at_ x y) : b + 4 ≤ W.heap.size := by
  have := (Array.getElem?_eq_some_iff.1 h.r3).1
  omega
theorem SecW.one (h : SecW W b fr c at_ x y) (v : Int) : SecW (W.setCell ⟨b + 1 + 1, 0, none⟩ (.int .i64 v)) b fr c at_ v y := by
  refine ⟨?_, ?_, row_set h.r2 0 _, ?_⟩
  · exact (Below.heap_setCell _ _ _ _ (by show b ≠ b + 1 + 1; omega)).trans h.r0
  · exact (Below.heap_setCell _ _ _ _ (by show b + 1 ≠ b + 1 + 1; omega)).trans h.r1
  · exact (Below.heap_setCell _ _ _ _ (by show b + 1 + 1 + 1 ≠ b + 1 + 1; omega)).trans h.r3
theorem SecW.two (h : SecW W b fr c at_ x y) (v : Int) : SecW (W.setCell ⟨b + 1 + 1 + 1, 0, none⟩ (.int .i64 v)) b fr c at_ x v := by
  refine ⟨?_, ?_, ?_, row_set h.r3 0 _⟩
  · exact (Below.heap_setCell _ _ _ _ (by show b ≠ b + 1 + 1 + 1; omega)).trans h.r0
  · exact (Below.heap_setCell _ _ _ _ (by show b + 1 ≠ b + 1 + 1 + 1; omega)).trans h.r1
  · exact (Below.heap_setCell _ _ _ _ (by show b + 1 + 1 ≠ b + 1 + 1 + 1; omega)).trans h.r2
end

/-- what Section hands back -/
def SecOK (c : Nat → Int) (at_ : Int) (w : World) (e : Ending) (w' : World) : Prop :=
  e = .returned (.tuple #[.int .i64 (secT c at_).1, .int .i64 (secT c at_).2]) ∧ Below w.heap.size w w'

set_option maxRecDepth 20000 in
set_option maxHeartbeats 1000000 in
theorem Section_early (fr : Int) (c : Nat → Int) (at_ : Int) (w : World) (hok : okT c 6) (h : at_ < 80 ∨ totT c - 4 ≤ at_) :
    Calls Try.prog 13 #[.agg (tabT fr c), .int .i64 at_] w (SecOK c at_ w) := by
  obtain ⟨t0, t1, _⟩ := offT_range c 6 hok
  have ht : totT c = offT c 6 + 4 := rfl
  have hB := ((((Below.refl w.heap.size w).alloc (Nat.le_refl _) (.cells (tabT fr c) 25)).alloc (by simp) (.cells #[.int .i64 at_] 3)).alloc (by simp; omega) (.cells #[.int .i64 0] 3)).alloc (by simp; omega) (.cells #[.int .i64 0] 3)
  obtain ⟨r0, r1, r2, r3⟩ := four_new w (.cells (tabT fr c) 25) (.cells #[.int .i64 at_] 3) (.cells #[.int .i64 0] 3) (.cells #[.int .i64 0] 3)
  have k1 := tab_one r0
  obtain ⟨y0, yf⟩ := one_cell r1
  obtain ⟨x0, xf⟩ := one_cell r2
  obtain ⟨v0, vf⟩ := one_cell r3
  have hw4 : IntKind.i64.wrap (totT c - 4) = totT c - 4 := IntWalk.i64_in _ (by omega)
  have hret : ∀ (u v : Int) (a : Act) (wf : World), SecW wf w.heap.size fr c at_ u v → Below w.heap.size w wf → secT c at_ = (u, v) → a.defers = [] → a.tmps.getD 4 undef = .pointer (some ⟨w.heap.size + 1 + 1, 0, none⟩) → a.tmps.getD 5 undef = .pointer (some ⟨w.heap.size + 1 + 1 + 1, 0, none⟩) →
      bodyPost Try.prog Try.f13 (SecOK c at_ w) .ret a wf := by
    intro u v a wf hS hb hE hd h4 h5
    obtain ⟨p0, _⟩ := one_cell hS.r2
    obtain ⟨q0, _⟩ := one_cell hS.r3
    have h4' : a.tmps[4]?.getD undef = .pointer (some ⟨w.heap.size + 1 + 1, 0, none⟩) := by simpa using h4
    have h5' : a.tmps[5]?.getD undef = .pointer (some ⟨w.heap.size + 1 + 1 + 1, 0, none⟩) := by simpa using h5
    refine bodyPost_ret (v := .tuple #[.int .i64 u, .int .i64 v]) (by simp [results, Try.results13, go_sem, h4', h5', asAddr, p0, q0]) hd ⟨by rw [hE], hb⟩
  have hS : ∀ u v : Int, SecW ((((w.alloc (.cells (tabT fr c) 25)).alloc (.cells #[.int .i64 at_] 3)).alloc (.cells #[.int .i64 u] 3)).alloc (.cells #[.int .i64 v] 3)) w.heap.size fr c at_ u v := fun u v => by
    obtain ⟨r0, r1, r2, r3⟩ := four_new w (.cells (tabT fr c) 25) (.cells #[.int .i64 at_] 3) (.cells #[.int .i64 u] 3) (.cells #[.int .i64 v] 3)
    exact ⟨r0, r1, r2, r3⟩
  have hBl : ∀ u v : Int, Below w.heap.size w ((((w.alloc (.cells (tabT fr c) 25)).alloc (.cells #[.int .i64 at_] 3)).alloc (.cells #[.int .i64 u] 3)).alloc (.cells #[.int .i64 v] 3)) := fun u v =>
    ((((Below.refl w.heap.size w).alloc (Nat.le_refl _) _).alloc (by simp) _).alloc (by simp; omega) _).alloc (by simp; omega) _
  have HR := Lib.hid hret
  have HH := Lib.hid hS
  have HL := Lib.hid hBl
  clear hret hS hBl r0 r1 r2 r3 hB
  generalize hA : tabT fr c = A at *
  by_cases a1 : at_ < 0
  · have d1 : decide (at_ < 0) = true := decide_eq_true a1
    have hE := Lib.hid (show secT c at_ = (-2, -2) from by unfold secT; rw [if_pos (.inl a1)])
    go_enter Try.func13, Try.ntmps13
    go_wp2
    exact HR.out (-2) (-2) _ _ (HH.out _ _) (HL.out _ _) hE.out rfl rfl rfl
  have d1 : decide (at_ < 0) = false := decide_eq_false a1
  by_cases a2 : totT c ≤ at_
  · have d2 : decide (totT c ≤ at_) = true := decide_eq_true a2
    have hE := Lib.hid (show secT c at_ = (-2, -2) from by unfold secT; rw [if_pos (.inr a2)])
    go_enter Try.func13, Try.ntmps13
    go_wp2
    exact HR.out (-2) (-2) _ _ (HH.out _ _) (HL.out _ _) hE.out rfl rfl rfl
  have d2 : decide (totT c ≤ at_) = false := decide_eq_false a2
  by_cases a3 : at_ < 80
  · have d3 : decide (at_ < 80) = true := decide_eq_true a3
    have hE := Lib.hid (show secT c at_ = (0, 0) from by unfold secT; rw [if_neg (by omega), if_pos a3])
    go_enter Try.func13, Try.ntmps13
    go_wp2
    exact HR.out 0 0 _ _ (HH.out _ _) (HL.out _ _) hE.out rfl rfl rfl
  have d3 : decide (at_ < 80) = false := decide_eq_false a3
  have a4 : totT c - 4 ≤ at_ := by omega
  have d4 : decide (totT c - 4 ≤ at_) = true := decide_eq_true a4
  have hE := Lib.hid (show secT c at_ = (7, 0) from by unfold secT; rw [if_neg (by omega), if_neg a3, if_pos a4])
  go_enter Try.func13, Try.ntmps13
  go_wp2
  exact HR.out 7 0 _ _ (HH.out _ _) (HL.out _ _) hE.out rfl rfl rfl

set_option maxRecDepth 100000 in
set_option maxHeartbeats 8000000 in
theorem Section_late (fr : Int) (c : Nat → Int) (at_ : Int) (w : World) (hok : okT c 6) (h1 : 80 ≤ at_) (h2 : at_ < totT c - 4) :
    Calls Try.prog 13 #[.agg (tabT fr c), .int .i64 at_] w (SecOK c at_ w) := by
  obtain ⟨t0, t1, _⟩ := offT_range c 6 hok
  have hw4 : IntKind.i64.wrap (totT c - 4) = totT c - 4 := IntWalk.i64_in _ (by unfold totT; omega)
  have hE : secT c at_ = secGo c at_ (secsFrom 0) := by unfold secT; rw [if_neg (by omega), if_neg (by omega), if_neg (by omega)]
  have htot : 84 ≤ totT c ∧ totT c ≤ 400000 := by unfold totT; omega
  have HE := Lib.hid hE
  have HOK := Lib.hid hok
  clear hE hok t0 t1
  have d1 : decide (at_ < 0) = false := decide_eq_false (by omega)
  have d2 : decide (totT c ≤ at_) = false := decide_eq_false (by omega)
  have d3 : decide (at_ < 80) = false := decide_eq_false (by omega)
  have d4 : decide (totT c - 4 ≤ at_) = false := decide_eq_false (by omega)
  refine (callsIn_wide (n := 3)).1 ?_
  refine callsIn_of_wp_marks Try.func13 rfl trivial ?_ rfl
  simp only [Try.ntmps13, List.size_toArray, List.length_cons, List.length_nil, Nat.reduceAdd, Nat.reduceSub, Array.replicate_succ, Array.replicate_zero, List.push_toArray, List.append_toArray, List.nil_append, List.cons_append]
  obtain ⟨r0, r1, r2, r3⟩ := four_new w (.cells (tabT fr c) 25) (.cells #[.int .i64 at_] 3) (.cells #[.int .i64 0] 3) (.cells #[.int .i64 0] 3)
  have k1 := tab_one r0
  have HS := Lib.hid (show SecW _ w.heap.size fr c at_ 0 0 from ⟨r0, r1, r2, r3⟩)
  have HB0 := Lib.hid (((((Below.refl w.heap.size w).alloc (Nat.le_refl _) (.cells (tabT fr c) 25)).alloc (by simp) (.cells #[.int .i64 at_] 3)).alloc (by simp; omega) (.cells #[.int .i64 0] 3)).alloc (by simp; omega) (.cells #[.int .i64 0] 3))
  clear r0 r1 r2 r3
  gi_wp2_with (refine ⟨trivial, ?_⟩; gi_at_call 28; refine (callsIn_wide.2 (sections_any _)).mono ?_; rintro e w' ⟨rfl, rfl⟩)
  clear k1 d1 d2 d3 d4 hw4
  have hsz : ((((w.alloc (.cells (tabT fr c) 25)).alloc (.cells #[.int .i64 at_] 3)).alloc (.cells #[.int .i64 0] 3)).alloc (.cells #[.int .i64 0] 3)).heap.size = w.heap.size + 4 := by simp
  generalize ((((w.alloc (.cells (tabT fr c) 25)).alloc (.cells #[.int .i64 at_] 3)).alloc (.cells #[.int .i64 0] 3)).alloc (.cells #[.int .i64 0] 3)) = w0 at *
  generalize hb : w.heap.size = b at *
  have hfol : Try.prog.follows Departure.mixedOrders = true := by kernel_rfl
  refine wpIn_rangeFunc_ownF rfl (by omega) (gf := 45) (lb := #[]) rfl trivial (enters_of Try.func45 (by kernel_rfl) rfl)
    (sections_stops 2 b (by omega) _) belowK_t (belowK_b (by omega)) (Below.refl _ _) (fun _ => rfl)
    (fun pre W => ((∀ y ∈ pre, ¬ inT c at_ (y.val + 1)) ∧ SecW W b fr c at_ 0 0) ∧ Below b w W)
    (fun d pre W => (d = .ret ∧ ∃ q x, pre = q ++ [x] ∧ (∀ y ∈ q, ¬ inT c at_ (y.val + 1)) ∧ inT c at_ (x.val + 1) ∧ SecW W b fr c at_ ((x.val : Int) + 1) ((at_ - offT c x.val).tdiv (szT (x.val + 1)))) ∧ Below b w W)
    (OwnFrom.and (Own.from (fun s A B row hs hg hr => ⟨hs.1, hs.2.kept hg hr⟩) _) (ownFrom_below (by omega) (by omega)))
    (fun d => OwnFrom.and (Own.from (fun s A B row hs hg hr => by obtain ⟨e1, q, x, e2, e3, e4, e5⟩ := hs; exact ⟨e1, q, x, e2, e3, e4, e5.kept hg hr⟩) _) (ownFrom_below (by omega) (by omega)))
    ⟨⟨fun k hk => (by simp at hk), HS.out⟩, HB0.out⟩
    (fun x => { tmps := #[.agg (tabT fr c), .int .i64 at_, .pointer (some ⟨b, 0, none⟩), .pointer (some ⟨b + 1, 0, none⟩), .pointer (some ⟨b + 1 + 1, 0, none⟩), .pointer (some ⟨b + 1 + 1 + 1, 0, none⟩), .int .i64 ((x.val : Int) + 1), .bool false, .int .i64 at_, .bool false, .bool false, .int .i64 at_, .pointer (some ⟨b, 1, none⟩), .int .i64 (totT c), .bool false, .bool false, .bool false, .int .i64 at_, .bool false, .bool false, .int .i64 at_, .pointer (some ⟨b, 1, none⟩), .int .i64 (totT c), .int .i64 (totT c - 4), .bool false, .func (.func 45) #[] #[], .int .i64 ((x.val : Int) + 1), .int .i64 (32 + 8 * (x.val : Int)), undef, undef, undef, undef, undef, undef, undef, undef, undef, undef, undef, undef, undef, undef, undef, undef, undef, undef, undef, undef, undef, undef, undef], defers := [] }) ?assign ?body ?done ?stop
  case assign =>
    intro l x W K hK
    gi_wp2
    exact hK
  case body =>
    rintro l pre x W ⟨⟨hno, hF⟩, hB⟩ hlen
    obtain ⟨s, hs⟩ : ∃ s : Nat, s = x.val + 1 := ⟨_, rfl⟩
    have hs7 : s < 7 := by omega
    have es : ((x.val : Int) + 1) = (s : Int) := by omega
    have hs7i : (s : Int) < 7 := by omega
    have hs1 : 1 ≤ s := by omega
    have eo : offO c s = offT c x.val := by unfold offO; rw [if_neg (by omega), hs]; rfl
    have ec : cntO c s = c s := by unfold cntO; rw [if_neg (by omega)]
    have hro := offT_range c x.val (HOK.out.less (by omega))
    have hrc := HOK.out s hs1 (by omega)
    have hrl := limT_range s
    have hrz := szT_range s
    have hzp := szT_pos hs1 (by omega)
    have hpr := prod_range hrc.1 (Int.le_trans hrc.2 hrl.2) hrz.1 hrz.2
    have hin : inT c at_ (x.val + 1) ↔ offT c x.val ≤ at_ ∧ at_ < offT c x.val + c s * szT s := by rw [← hs]; unfold inT; rw [hs]; rfl
    dsimp only
    rw [es]
    have HS2 := Lib.hid hs
    have HF := Lib.hid hF
    have HB := Lib.hid hB
    have HNO := Lib.hid hno
    have HIN := Lib.hid hin
    have HR := Lib.hid hro
    obtain ⟨p, hp⟩ : ∃ p, p = offT c x.val := ⟨_, rfl⟩
    rw [← hp] at eo HR hin
    have HP := Lib.hid hp
    have HRC := Lib.hid hrc
    obtain ⟨q, hq⟩ : ∃ q, q = c s * szT s := ⟨_, rfl⟩
    have HQ := Lib.hid hq
    have ka : ∀ w', Below W.heap.size W w' → w'.cell? ⟨b + 1, 0, none⟩ = some (.int .i64 at_) := fun w' h => (one_cell (HF.out.after h).r1).1
    have ko : ∀ w', Below W.heap.size W w' → w'.cell? ⟨b, 2 + s, none⟩ = some (.int .i64 p) := fun w' h => by rw [← eo]; exact (tab_cell (HF.out.after h).r0 s hs7).1
    have kr : ∀ w', Below W.heap.size W w' → w'.heap[b]? = some (.cells (tabT fr c) 25 (0, 0)) := fun w' h => (HF.out.after h).r0
    have hp2 : p ≤ 400000 := by have := HR.out.2.1; omega
    have hp1 : 80 ≤ p := HR.out.1
    have hend : ∀ w', Below W.heap.size W w' → CallsIn (Fence.wide.inRound l) (3 - 1 - 1 - 1) Try.prog 31 #[.agg (tabT fr c), .int .i64 (s : Int)] w' fun e w'' => e = .returned (.int .i64 (p + q)) ∧ Below W.heap.size W w'' :=
      fun w' h => (CallsIn.inRound l (callsIn_wide.2 (end_any fr (totT c) (offO c) (cntO c) s w' hs7 (by rw [eo]; have := HR.out.1; omega) (by rw [ec]; exact ⟨hrc.1, Int.le_trans hrc.2 hrl.2⟩)))).mono (fun e w'' ⟨he, hw⟩ => ⟨by rw [he, eo, ec, hq], h.trans (hw.mono h.size)⟩)
    clear hs es hF hB hno hin hro eo ec hrc hp hq
    by_cases c1 : p ≤ at_
    · have e1 : decide (p ≤ at_) = true := decide_eq_true c1
      by_cases c2 : at_ < p + q
      · have e2 : decide (at_ < p + q) = true := decide_eq_true c2
        gi_wp2
        refine wpIn_region_class (fun w' => Below W.heap.size W w') hfol rfl (by kernel_rfl) (Below.drew' (Below.refl _ W)) ?_
        refine wpQuietIn_step (fun _ _ _ _ => trivial) (fun K hK => ?_); go_simp; refine ⟨ .int .i64 at_, fun w' hw' => ?_, hK _ ?_⟩; · rw [ka w' hw']; exact ⟨rfl, rfl⟩
        clear hK K
        repeat (refine wpQuietIn_step (fun _ _ _ _ => trivial) (fun K hK => ?_); go_simp; first | (refine ⟨_, fun _ _ => rfl, hK _ ?_⟩; clear hK K) | (refine hK _ ?_; clear hK K))
        refine wpQuietIn_step (fun _ _ _ _ => trivial) (fun K hK => ?_); go_simp; refine ⟨ .int .i64 p, fun w' hw' => ?_, hK _ ?_⟩; · rw [ko w' hw']; exact ⟨rfl, rfl⟩
        clear hK K
        repeat (refine wpQuietIn_step (fun _ _ _ _ => trivial) (fun K hK => ?_); go_simp; first | (refine ⟨_, fun _ _ => rfl, hK _ ?_⟩; clear hK K) | (refine hK _ ?_; clear hK K))
        refine wpQuietIn_step (fun _ _ _ _ => trivial) (fun K hK => ?_); go_simp; refine ⟨ .int .i64 at_, fun w' hw' => ?_, hK _ ?_⟩; · rw [ka w' hw']; exact ⟨rfl, rfl⟩
        clear hK K
        refine Go.BigFrame.wpQuietIn_want (fun _ _ _ _ => trivial) rfl (fun K hK => quiet_load_row 25 (.tmp 2) rfl b rfl 25 (tabT fr c) (0, 0) _ kr Try.underlying25 rfl infoT (hK _ ?_))
        clear hK K
        repeat (refine wpQuietIn_step (fun _ _ _ _ => trivial) (fun K hK => ?_); go_simp; first | (refine ⟨_, fun _ _ => rfl, hK _ ?_⟩; clear hK K) | (refine hK _ ?_; clear hK K))
        refine wpQuietIn_step (fun _ _ _ _ => trivial) (fun K hK => ?_); go_simp; refine ⟨ .int .i64 (p + q), hend, hK _ ?_⟩
        clear hK K
        repeat (refine wpQuietIn_step (fun _ _ _ _ => trivial) (fun K hK => ?_); go_simp; first | (refine ⟨_, fun _ _ => rfl, hK _ ?_⟩; clear hK K) | (refine hK _ ?_; clear hK K))
        refine wpQuietIn_nil ?_
        intro W2 hb2
        have hlt := HF.out.lt
        have F2 := HF.out.after hb2
        have K2 := keeps_of_below hb2
        have B2 := hb2.mono (show b ≤ W.heap.size by omega)
        clear kr ka ko hend
        obtain ⟨v, hv⟩ : ∃ v, v = (at_ - p).tdiv (szT s) := ⟨_, rfl⟩
        have HV := Lib.hid hv
        have hws : IntKind.i64.wrap (at_ - p) = at_ - p := IntWalk.i64_in _ (by omega)
        have hwv : IntKind.i64.wrap ((at_ - p).tdiv (szT s)) = v := by
          rw [hv, Int.tdiv_eq_ediv_of_nonneg (by omega)]
          have h3 := Int.ediv_nonneg (show 0 ≤ at_ - p by omega) hrz.1
          have h4 := Int.ediv_le_self (szT s) (show 0 ≤ at_ - p by omega)
          exact IntWalk.i64_in _ (by omega)
        have hSz := Lib.hid (fun w1 => Size_any (s : Int) w1)
        rw [sizeV_szT] at hSz
        have hz0 : szT s ≠ 0 := by omega
        obtain ⟨DD, hDD⟩ : ∃ DD : Bool → Bool → World → Prop, DD = fun u y w' => SecW w' b fr c at_ (if u then (s : Int) else 0) (if y then v else 0) ∧ KeepsOthers W w' ∧ Below b W w' := ⟨_, rfl⟩
        have ka : ∀ u y w', DD u y w' → w'.cell? ⟨b + 1, 0, none⟩ = some (.int .i64 at_) := fun u y w' h => by rw [hDD] at h; exact (one_cell h.1.r1).1
        have eo : offO c s = p := by rw [HP.out]; unfold offO; rw [if_neg (by omega), HS2.out]; rfl
        have ko : ∀ u y w', DD u y w' → w'.cell? ⟨b, 2 + s, none⟩ = some (.int .i64 p) := fun u y w' h => by rw [hDD] at h; rw [← eo]; exact (tab_cell h.1.r0 s hs7).1
        have hc10 : ∀ u y w', DD u y w' → ∃ v, w'.cell? ⟨b + 1 + 1, 0, none⟩ = some v ∧ w'.frozen? ⟨b + 1 + 1, 0, none⟩ = false := fun u y w' h => by rw [hDD] at h; exact ⟨_, one_cell h.1.r2⟩
        have hc11 : ∀ u y w', DD u y w' → ∃ v, w'.cell? ⟨b + 1 + 1 + 1, 0, none⟩ = some v ∧ w'.frozen? ⟨b + 1 + 1 + 1, 0, none⟩ = false := fun u y w' h => by rw [hDD] at h; exact ⟨_, one_cell h.1.r3⟩
        have hs10 : ∀ y w', DD false y w' → DD true y (w'.setCell ⟨b + 1 + 1, 0, none⟩ (.int .i64 (s : Int))) := fun y w' h => by rw [hDD] at h ⊢; exact ⟨h.1.one s, h.2.1.trans (KeepsOthers.setCell _ _ _), h.2.2.setCell (by show b ≤ b + 1 + 1; omega) _⟩
        have hs11 : ∀ u w', DD u false w' → DD u true (w'.setCell ⟨b + 1 + 1 + 1, 0, none⟩ (.int .i64 v)) := fun u w' h => by rw [hDD] at h ⊢; exact ⟨h.1.two v, h.2.1.trans (KeepsOthers.setCell _ _ _), h.2.2.setCell (by show b ≤ b + 1 + 1 + 1; omega) _⟩
        have hinv : ∀ {L w' k}, DD (Came L 10) (Came L 11) w' → k ≠ 10 → k ≠ 11 → DD (Came (Next L k) 10) (Came (Next L k) 11) w' := fun h h10 h11 => by rw [Came_ne h10, Came_ne h11]; exact h
        have h0' : DD (Came (Array.replicate 12 false) 10) (Came (Array.replicate 12 false) 11) W2.drew := by
          rw [hDD]
          exact ⟨F2.after (Below.drew' (Below.refl _ W2)), K2.trans (KeepsOthers.drew W2), Below.drew' B2⟩
        have HD := Lib.hid hDD
        clear hDD F2 K2 B2 hb2 eo hv hrz hzp hpr hrl
        gi_wp2
        refine wpIn_region_stage (fun L w' => DD (Came L 10) (Came L 11) w') hfol rfl (by kernel_rfl) h0' ?_
        repeat (refine lexS_step (fun K hK => ?_); go_simp; refine ⟨_, fun L w' hL h => ⟨rfl, hinv h (by decide) (by decide)⟩, hK _ ?_⟩; clear hK K)
        refine lexS_step (fun K hK => ?_); go_simp; refine ⟨.int .i64 at_, fun L w' hL h => ?_, hK _ ?_⟩; · rw [ka _ _ w' h]; exact ⟨rfl, hinv h (by decide) (by decide)⟩
        clear hK K
        repeat (refine lexS_step (fun K hK => ?_); go_simp; refine ⟨_, fun L w' hL h => ⟨rfl, hinv h (by decide) (by decide)⟩, hK _ ?_⟩; clear hK K)
        refine lexS_step (fun K hK => ?_); go_simp; refine ⟨.int .i64 p, fun L w' hL h => ?_, hK _ ?_⟩; · rw [ko _ _ w' h]; exact ⟨rfl, hinv h (by decide) (by decide)⟩
        clear hK K
        repeat (refine lexS_step (fun K hK => ?_); go_simp; refine ⟨_, fun L w' hL h => ⟨rfl, hinv h (by decide) (by decide)⟩, hK _ ?_⟩; clear hK K)
        refine lexS_step (fun K hK => ?_); go_simp; refine ⟨.int .i64 (szT s), fun L w' hL h => ⟨trivial, ?_⟩, hK _ ?_⟩; · exact (CallsIn.inRound l (callsIn_wide.2 (hSz.out w'))).mono (fun e w'' ⟨he, hw⟩ => ⟨he, by rw [← hw]; exact hinv h (by decide) (by decide)⟩)
        clear hK K
        repeat (refine lexS_step (fun K hK => ?_); go_simp; refine ⟨_, fun L w' hL h => ⟨rfl, hinv h (by decide) (by decide)⟩, hK _ ?_⟩; clear hK K)
        refine lexS_step (fun K hK => ?_); go_simp; refine ⟨⟨undef, fun L w' hL h => ?_⟩, hK _ ?_⟩
        · obtain ⟨u, hc, hf⟩ := hc10 _ _ w' h
          rw [hc, hf]
          rw [Came_open hL] at h
          refine ⟨rfl, ?_⟩
          rw [Came_same hL, Came_ne (by decide)]
          exact hs10 _ w' h
        clear hK K
        repeat (refine lexS_step (fun K hK => ?_); go_simp; refine ⟨_, fun L w' hL h => ⟨rfl, hinv h (by decide) (by decide)⟩, hK _ ?_⟩; clear hK K)
        refine lexS_step (fun K hK => ?_); go_simp; refine ⟨⟨undef, fun L w' hL h => ?_⟩, hK _ ?_⟩
        · obtain ⟨u, hc, hf⟩ := hc11 _ _ w' h
          rw [hc, hf]
          rw [Came_open hL] at h
          refine ⟨rfl, ?_⟩
          rw [Came_same hL, Came_ne (by decide)]
          exact hs11 _ w' h
        clear hK K
        refine lexS_nil ?_
        intro W3 h3
        have h3' : DD true true W3 := h3
        rw [HD.out] at h3'
        obtain ⟨F3, K3, B3⟩ := h3'
        clear h3 hs10 hs11 hc10 hc11 ka ko hinv h0'
        gi_wp2
        refine ⟨K3, ⟨rfl, pre, x, rfl, HNO.out, ?_, ?_⟩, HB.out.trans B3⟩
        · rw [HIN.out, ← HP.out, ← HQ.out]
          exact ⟨c1, c2⟩
        · have e3 : ((x.val : Int) + 1) = (s : Int) := by have := HS2.out; omega
          rw [e3, ← HS2.out, ← HP.out, ← HV.out]
          exact F3
      · have e2 : decide (at_ < p + q) = false := decide_eq_false c2
        gi_wp2
        refine wpIn_region_class (fun w' => Below W.heap.size W w') hfol rfl (by kernel_rfl) (Below.drew' (Below.refl _ W)) ?_
        refine wpQuietIn_step (fun _ _ _ _ => trivial) (fun K hK => ?_); go_simp; refine ⟨ .int .i64 at_, fun w' hw' => ?_, hK _ ?_⟩; · rw [ka w' hw']; exact ⟨rfl, rfl⟩
        clear hK K
        repeat (refine wpQuietIn_step (fun _ _ _ _ => trivial) (fun K hK => ?_); go_simp; first | (refine ⟨_, fun _ _ => rfl, hK _ ?_⟩; clear hK K) | (refine hK _ ?_; clear hK K))
        refine wpQuietIn_step (fun _ _ _ _ => trivial) (fun K hK => ?_); go_simp; refine ⟨ .int .i64 p, fun w' hw' => ?_, hK _ ?_⟩; · rw [ko w' hw']; exact ⟨rfl, rfl⟩
        clear hK K
        repeat (refine wpQuietIn_step (fun _ _ _ _ => trivial) (fun K hK => ?_); go_simp; first | (refine ⟨_, fun _ _ => rfl, hK _ ?_⟩; clear hK K) | (refine hK _ ?_; clear hK K))
        refine wpQuietIn_step (fun _ _ _ _ => trivial) (fun K hK => ?_); go_simp; refine ⟨ .int .i64 at_, fun w' hw' => ?_, hK _ ?_⟩; · rw [ka w' hw']; exact ⟨rfl, rfl⟩
        clear hK K
        refine Go.BigFrame.wpQuietIn_want (fun _ _ _ _ => trivial) rfl (fun K hK => quiet_load_row 25 (.tmp 2) rfl b rfl 25 (tabT fr c) (0, 0) _ kr Try.underlying25 rfl infoT (hK _ ?_))
        repeat (refine wpQuietIn_step (fun _ _ _ _ => trivial) (fun K hK => ?_); go_simp; first | (refine ⟨_, fun _ _ => rfl, hK _ ?_⟩; clear hK K) | (refine hK _ ?_; clear hK K))
        refine wpQuietIn_step (fun _ _ _ _ => trivial) (fun K hK => ?_); go_simp; refine ⟨ .int .i64 (p + q), hend, hK _ ?_⟩
        clear hK K
        repeat (refine wpQuietIn_step (fun _ _ _ _ => trivial) (fun K hK => ?_); go_simp; first | (refine ⟨_, fun _ _ => rfl, hK _ ?_⟩; clear hK K) | (refine hK _ ?_; clear hK K))
        refine wpQuietIn_nil ?_
        intro W2 hb2
        have hlt := HF.out.lt
        have F2 := HF.out.after hb2
        have K2 := keeps_of_below hb2
        have B2 := hb2.mono (show b ≤ W.heap.size by omega)
        clear kr ka ko hend hb2
        gi_wp2
        refine ⟨K2, B2, ⟨fun y hy => ?_, F2⟩, HB.out.trans B2⟩
        rcases List.mem_append.1 hy with hy | hy
        · exact HNO.out y hy
        · rw [List.mem_singleton.1 hy, HIN.out, ← HP.out, ← HQ.out]
          omega
    · have e1 : decide (p ≤ at_) = false := decide_eq_false c1
      gi_wp2
      refine wpIn_region_class (fun w' => Below W.heap.size W w') hfol rfl (by kernel_rfl) (Below.drew' (Below.refl _ W)) ?_
      refine wpQuietIn_step (fun _ _ _ _ => trivial) (fun K hK => ?_); go_simp; refine ⟨ .int .i64 at_, fun w' hw' => ?_, hK _ ?_⟩; · rw [ka w' hw']; exact ⟨rfl, rfl⟩
      clear hK K
      repeat (refine wpQuietIn_step (fun _ _ _ _ => trivial) (fun K hK => ?_); go_simp; first | (refine ⟨_, fun _ _ => rfl, hK _ ?_⟩; clear hK K) | (refine hK _ ?_; clear hK K))
      refine wpQuietIn_step (fun _ _ _ _ => trivial) (fun K hK => ?_); go_simp; refine ⟨ .int .i64 p, fun w' hw' => ?_, hK _ ?_⟩; · rw [ko w' hw']; exact ⟨rfl, rfl⟩
      clear hK K
      repeat (refine wpQuietIn_step (fun _ _ _ _ => trivial) (fun K hK => ?_); go_simp; first | (refine ⟨_, fun _ _ => rfl, hK _ ?_⟩; clear hK K) | (refine hK _ ?_; clear hK K))
      refine wpQuietIn_nil ?_
      intro W2 hb2
      have hlt := HF.out.lt
      have F2 := HF.out.after hb2
      have K2 := keeps_of_below hb2
      have B2 := hb2.mono (show b ≤ W.heap.size by omega)
      clear kr ka ko hend hb2
      gi_wp2
      refine ⟨K2, B2, ⟨fun y hy => ?_, F2⟩, HB.out.trans B2⟩
      rcases List.mem_append.1 hy with hy | hy
      · exact HNO.out y hy
      · rw [List.mem_singleton.1 hy, HIN.out, ← HP.out, ← HQ.out]
        omega
  case done =>
    rintro D xs W hD rfl ⟨⟨hno, hF⟩, hB⟩ hK
    have hS : secT c at_ = (-1, -1) := by rw [HE.out]; exact secGo_none hno
    have HSE := Lib.hid hS
    have HF := Lib.hid hF
    obtain ⟨y0, yf⟩ := one_cell hF.r2
    obtain ⟨x0, xf⟩ := one_cell hF.r3
    clear hF hno hS
    gi_wp2
    refine post_at ?_
    intro Wf hWf
    have FS : SecW Wf b fr c at_ (-1) (-1) := by rw [hWf]; exact (HF.out.one (-1)).two (-1)
    have KO : KeepsOthers W Wf := by rw [hWf]; exact (KeepsOthers.setCell _ _ _).trans (KeepsOthers.setCell _ _ _)
    have BF : Below b W Wf := by rw [hWf]; exact ((Below.refl b W).setCell (by show b ≤ b + 1 + 1; omega) _).setCell (by show b ≤ b + 1 + 1 + 1; omega) _
    clear hWf y0 yf x0 xf
    have hK' := KO.same D _ hK rfl
    refine ⟨by simp, .inl ⟨_, _, rfl, run_takeDeferred hK', ?_⟩⟩
    have kr : ∀ r, some D = some r → ∃ o : Obj, Wf.heap[r]? = some o ∧ o.isCells = false := fun r e => by cases e; exact ⟨_, hK', rfl⟩
    have FP := FS.kept (grownBy_putObj' _ D (.deferred none)) kr
    obtain ⟨y0, yf⟩ := one_cell FP.r2
    obtain ⟨x0, xf⟩ := one_cell FP.r3
    refine ⟨.tuple #[.int .i64 (-1), .int .i64 (-1)], ?_, ?_, ?_⟩
    · simp [results, Try.results13, go_sem, y0, x0]
    · rw [HSE.out]
    · rw [hb]; exact (hB.trans BF).trans (belowK_b (w := w) (by omega) Wf D _ _ (by omega) hK' rfl rfl)
  case stop =>
    rintro D d pre W hD ⟨k, hk1, hk6, rfl⟩ ⟨⟨rfl, q, x, hq, hno, hin, hS⟩, hB⟩ hK
    have hE : secT c at_ = (((x.val : Int) + 1), (at_ - offT c x.val).tdiv (szT (x.val + 1))) := by rw [HE.out]; exact secGo_hit hk1 hk6 hq.symm hno hin
    have HSE := Lib.hid hE
    have HF := Lib.hid hS
    clear hS hE hq hno hin
    gi_wp2
    refine ⟨by simp, .inl ⟨_, _, rfl, run_takeDeferred hK, ?_⟩⟩
    have kr : ∀ r, some D = some r → ∃ o : Obj, W.heap[r]? = some o ∧ o.isCells = false := fun r e => by cases e; exact ⟨_, hK, rfl⟩
    have FP := HF.out.kept (grownBy_putObj' _ D (.deferred none)) kr
    obtain ⟨y0, yf⟩ := one_cell FP.r2
    obtain ⟨x0, xf⟩ := one_cell FP.r3
    refine ⟨.tuple #[.int .i64 ((x.val : Int) + 1), .int .i64 ((at_ - offT c x.val).tdiv (szT (x.val + 1)))], ?_, ?_, ?_⟩
    · simp [results, Try.results13, go_sem, y0, x0]
    · rw [HSE.out]
    · rw [hb]; exact hB.trans (belowK_b (w := w) (by omega) W D _ _ (by omega) hK rfl rfl)

theorem Section_any (fr : Int) (c : Nat → Int) (at_ : Int) (w : World) (hok : okT c 6) :
    Calls Try.prog 13 #[.agg (tabT fr c), .int .i64 at_] w (SecOK c at_ w) := by
  by_cases h : at_ < 80 ∨ totT c - 4 ≤ at_
  · exact Section_early fr c at_ w hok h
  · exact Section_late fr c at_ w hok (by omega) (by omega)
end Go.Proofs.Ythnognjcbjgkbaa
