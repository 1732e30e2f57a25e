/-
  Contract of For.
-/
import Derived.Test.YthnognjcbjgkbaaTab5
import Derived.RangeFuncFrom
import Derived.Sort.CutIn
import Derived.Test.YthnognjcbjgkbaaStg
namespace Go.Proofs.Ythnognjcbjgkbaa
set_option linter.unusedVariables false
open Go.RowKit Go.Shelf
attribute [local go_sem] Oper.semAt_some atS upS

theorem Below.drew' {B : Nat} {w w' : World} (h : Below B w w') : Below B w w'.drew := ⟨h.os, h.tape, h.output, h.size, h.block⟩
/-- a row kept by an iterator's book-keeping -/
theorem row_kept {W W' : World} {row : Option Nat} {q : Nat} {cs : Array Value} {ty : Nat} {s : Nat × Nat} (h : W.heap[q]? = some (.cells cs ty s)) (hg : W.grownBy W' row) (hr : ∀ r, row = some r → ∃ o : Obj, W.heap[r]? = some o ∧ o.isCells = false) :
    W'.heap[q]? = some (.cells cs ty s) := by
  refine (hg.block q (Array.getElem?_eq_some_iff.1 h).1 (fun e => ?_)).trans h
  obtain ⟨o, ho, hc⟩ := hr q e.symm
  rw [h] at ho
  obtain rfl := Option.some.inj ho
  cases hc

/-- the five variables of For -/
structure ForW (W : World) (b : Nat) (fr : Int) (c : Nat → Int) (st : (Nat → Int) × (Nat → Int) × Int) : Prop where
  r0 : W.heap[b]? = some (.cells (cntA c) 23 (0, 0))
  r1 : W.heap[b + 1]? = some (.cells tabZ 25 (0, 0))
  r2 : W.heap[b + 1 + 1]? = some (.cells #[.bool false] 4 (0, 0))
  r3 : W.heap[b + 1 + 1 + 1]? = some (.cells (tabA fr 0 st.1 st.2.1) 25 (0, 0))
  r4 : W.heap[b + 1 + 1 + 1 + 1]? = some (.cells #[.int .i64 st.2.2] 3 (0, 0))
theorem ForW.kept {W W' : World} {row : Option Nat} {b : Nat} {fr : Int} {c : Nat → Int} {st : (Nat → Int) × (Nat → Int) × Int} (h : ForW W b fr c st) (hg : W.grownBy W' row) (hr : ∀ r, row = some r → ∃ o : Obj, W.heap[r]? = some o ∧ o.isCells = false) : ForW W' b fr c st :=
  ⟨row_kept h.r0 hg hr, row_kept h.r1 hg hr, row_kept h.r2 hg hr, row_kept h.r3 hg hr, row_kept h.r4 hg hr⟩

theorem ForW.after {W W' : World} {b : Nat} {fr : Int} {c : Nat → Int} {st : (Nat → Int) × (Nat → Int) × Int} (h : ForW W b fr c st) (hb : Below W.heap.size W W') : ForW W' b fr c st := by
  have up : ∀ {k : Nat} {o : Obj}, W.heap[k]? = some o → W'.heap[k]? = some o := fun {k o} hk => (hb.block k (Array.getElem?_eq_some_iff.1 hk).1).trans hk
  exact ⟨up h.r0, up h.r1, up h.r2, up h.r3, up h.r4⟩
theorem ForW.lt {W : World} {b : Nat} {fr : Int} {c : Nat → Int} {st : (Nat → Int) × (Nat → Int) × Int} (h : ForW W b fr c st) : b + 5 ≤ W.heap.size := by
  have := (Array.getElem?_eq_some_iff.1 h.r4).1
  omega
theorem ForW.off {W : World} {b : Nat} {fr : Int} {c o1 c1 : Nat → Int} {n1 : Int} (h : ForW W b fr c (o1, c1, n1)) (s : Nat) (hs : s < 7) (v : Int) : ForW (W.setCell ⟨b + 1 + 1 + 1, 2 + s, none⟩ (.int .i64 v)) b fr c (upd o1 s v, c1, n1) := by
  refine ⟨?_, ?_, ?_, tab_off h.r3 s hs v, ?_⟩
  · exact (Below.heap_setCell _ _ _ _ (by show b ≠ b + 1 + 1 + 1; omega)).trans h.r0
  · exact (Below.heap_setCell _ _ _ _ (by show b + 1 ≠ b + 1 + 1 + 1; omega)).trans h.r1
  · exact (Below.heap_setCell _ _ _ _ (by show b + 1 + 1 ≠ b + 1 + 1 + 1; omega)).trans h.r2
  · exact (Below.heap_setCell _ _ _ _ (by show b + 1 + 1 + 1 + 1 ≠ b + 1 + 1 + 1; omega)).trans h.r4
theorem ForW.cnt {W : World} {b : Nat} {fr : Int} {c o1 c1 : Nat → Int} {n1 : Int} (h : ForW W b fr c (o1, c1, n1)) (s : Nat) (hs : s < 7) (v : Int) : ForW (W.setCell ⟨b + 1 + 1 + 1, 9 + s, none⟩ (.int .i64 v)) b fr c (o1, upd c1 s v, n1) := by
  refine ⟨?_, ?_, ?_, tab_cnt h.r3 s hs v, ?_⟩
  · exact (Below.heap_setCell _ _ _ _ (by show b ≠ b + 1 + 1 + 1; omega)).trans h.r0
  · exact (Below.heap_setCell _ _ _ _ (by show b + 1 ≠ b + 1 + 1 + 1; omega)).trans h.r1
  · exact (Below.heap_setCell _ _ _ _ (by show b + 1 + 1 ≠ b + 1 + 1 + 1; omega)).trans h.r2
  · exact (Below.heap_setCell _ _ _ _ (by show b + 1 + 1 + 1 + 1 ≠ b + 1 + 1 + 1; omega)).trans h.r4
theorem ForW.next {W : World} {b : Nat} {fr : Int} {c o1 c1 : Nat → Int} {n1 : Int} (h : ForW W b fr c (o1, c1, n1)) (v : Int) : ForW (W.setCell ⟨b + 1 + 1 + 1 + 1, 0, none⟩ (.int .i64 v)) b fr c (o1, c1, v) := by
  refine ⟨?_, ?_, ?_, ?_, row_set h.r4 0 _⟩
  · exact (Below.heap_setCell _ _ _ _ (by show b ≠ b + 1 + 1 + 1 + 1; omega)).trans h.r0
  · exact (Below.heap_setCell _ _ _ _ (by show b + 1 ≠ b + 1 + 1 + 1 + 1; omega)).trans h.r1
  · exact (Below.heap_setCell _ _ _ _ (by show b + 1 + 1 ≠ b + 1 + 1 + 1 + 1; omega)).trans h.r2
  · exact (Below.heap_setCell _ _ _ _ (by show b + 1 + 1 + 1 ≠ b + 1 + 1 + 1 + 1; omega)).trans h.r3
theorem post_at {F : Fence} {n : Nat} {P : Program} {fn : Func} {R : Ending → World → Prop} {e : Exit} {a : Act} {w : World} (h : ∀ Wf, Wf = w → bodyPostM F n P fn R e a Wf) : bodyPostM F n P fn R e a w := h w rfl
theorem five_new (w : World) (o1 o2 o3 o4 o5 : Obj) : (((((w.alloc o1).alloc o2).alloc o3).alloc o4).alloc o5).heap[w.heap.size]? = some o1 ∧ (((((w.alloc o1).alloc o2).alloc o3).alloc o4).alloc o5).heap[w.heap.size + 1]? = some o2 ∧
    (((((w.alloc o1).alloc o2).alloc o3).alloc o4).alloc o5).heap[w.heap.size + 1 + 1]? = some o3 ∧ (((((w.alloc o1).alloc o2).alloc o3).alloc o4).alloc o5).heap[w.heap.size + 1 + 1 + 1]? = some o4 ∧ (((((w.alloc o1).alloc o2).alloc o3).alloc o4).alloc o5).heap[w.heap.size + 1 + 1 + 1 + 1]? = some o5 := by
  have a1 := heap_alloc_new w o1
  have a2 := heap_alloc_new (w.alloc o1) o2
  have a3 := heap_alloc_new ((w.alloc o1).alloc o2) o3
  have a4 := heap_alloc_new (((w.alloc o1).alloc o2).alloc o3) o4
  have a5 := heap_alloc_new ((((w.alloc o1).alloc o2).alloc o3).alloc o4) o5
  simp only [World.size_alloc] at a2 a3 a4 a5
  have up : ∀ (W : World) (o o' : Obj) (k : Nat), W.heap[k]? = some o → (W.alloc o').heap[k]? = some o := fun W o o' k h => (Below.heap_alloc W o' k (Array.getElem?_eq_some_iff.1 h).1).trans h
  exact ⟨up _ _ _ _ (up _ _ _ _ (up _ _ _ _ (up _ _ _ _ a1))), up _ _ _ _ (up _ _ _ _ (up _ _ _ _ a2)), up _ _ _ _ (up _ _ _ _ a3), up _ _ _ _ a4, a5⟩

set_option maxRecDepth 100000 in
set_option maxHeartbeats 8000000 in
theorem For_any (fr : Int) (c : Nat → Int) (w : World) :
    Calls Try.prog 9 #[.int .u64 fr, .agg (cntA c)] w fun e w' =>
      (okT c 6 → e = .returned (.tuple #[.agg (tabT fr c), .bool true])) ∧ (¬ okT c 6 → e = .returned (.tuple #[.agg tabZ, .bool false])) ∧ Below w.heap.size w w' := by
  refine (callsIn_wide (n := 3)).1 ?_
  refine callsIn_of_wp_marks Try.func9 rfl trivial ?_ rfl
  simp only [Try.ntmps9, List.size_toArray, List.length_cons, List.length_nil, Nat.reduceAdd, Nat.reduceSub, Array.replicate_succ, Array.replicate_zero, List.push_toArray, List.append_toArray, List.nil_append, List.cons_append]
  gi_wp2_with (refine ⟨trivial, ?_⟩; gi_at_call 28; refine (callsIn_wide.2 (sections_any _)).mono ?_; rintro e w' ⟨rfl, rfl⟩)
  obtain ⟨w0, hw0⟩ : ∃ w0 : World, w0 = (((((w.alloc (.cells (cntA c) 23)).alloc (.cells tabZ 25)).alloc (.cells #[.bool false] 4)).alloc (.cells (tabA fr 0 (fun _ => 0) (fun _ => 0)) 25)).alloc (.cells #[.int .i64 80] 3)) := ⟨_, rfl⟩
  have hsz : w0.heap.size = w.heap.size + 5 := by rw [hw0]; simp
  have hB0 : Below w.heap.size w w0 := by rw [hw0]; exact (((((Below.refl _ w).alloc (Nat.le_refl _) _).alloc (by simp) _).alloc (by simp; omega) _).alloc (by simp; omega) _).alloc (by simp; omega) _
  have hF0 : ForW w0 w.heap.size fr c (foldT c []) := by
    rw [hw0]
    obtain ⟨a1, a2, a3, a4, a5⟩ := five_new w (.cells (cntA c) 23) (.cells tabZ 25) (.cells #[.bool false] 4) (.cells (tabA fr 0 (fun _ => 0) (fun _ => 0)) 25) (.cells #[.int .i64 80] 3)
    exact ⟨a1, a2, a3, a4, a5⟩
  rw [show (Obj.cells #[Value.int IntKind.u64 0, Value.int IntKind.i64 0, Value.int IntKind.i64 0, Value.int IntKind.i64 0, Value.int IntKind.i64 0, Value.int IntKind.i64 0, Value.int IntKind.i64 0, Value.int IntKind.i64 0, Value.int IntKind.i64 0, Value.int IntKind.i64 0, Value.int IntKind.i64 0, Value.int IntKind.i64 0, Value.int IntKind.i64 0, Value.int IntKind.i64 0, Value.int IntKind.i64 0, Value.int IntKind.i64 0] 25) = .cells tabZ 25 from rfl,
    show (Obj.cells #[Value.int IntKind.u64 fr, Value.int IntKind.i64 0, Value.int IntKind.i64 0, Value.int IntKind.i64 0, Value.int IntKind.i64 0, Value.int IntKind.i64 0, Value.int IntKind.i64 0, Value.int IntKind.i64 0, Value.int IntKind.i64 0, Value.int IntKind.i64 0, Value.int IntKind.i64 0, Value.int IntKind.i64 0, Value.int IntKind.i64 0, Value.int IntKind.i64 0, Value.int IntKind.i64 0, Value.int IntKind.i64 0] 25) = .cells (tabA fr 0 (fun _ => 0) (fun _ => 0)) 25 from rfl, ← hw0]
  clear hw0
  generalize hb : w.heap.size = b at *
  have hfol : Try.prog.follows Departure.mixedOrders = true := by kernel_rfl
  refine wpIn_rangeFunc_ownF rfl (by omega) (gf := 45) (lb := #[]) rfl trivial (enters_of Try.func45 (by kernel_rfl) rfl)
    (sections_stops 2 b (by omega) _) belowK_t (belowK_b (by omega)) (Below.refl _ _) (fun _ => rfl)
    (fun pre W => (okL c pre ∧ ForW W b fr c (foldT c pre)) ∧ Below b w W)
    (fun d pre W => (d = .ret ∧ ¬ okL c pre ∧ W.heap[b + 1]? = some (.cells tabZ 25 (0, 0)) ∧ W.heap[b + 1 + 1]? = some (.cells #[.bool false] 4 (0, 0))) ∧ Below b w W)
    (OwnFrom.and (Own.from (fun s A B row hs hg hr => ⟨hs.1, hs.2.kept hg hr⟩) _) (ownFrom_below (by omega) (by omega)))
    (fun d => OwnFrom.and (Own.from (fun s A B row hs hg hr => ⟨hs.1, hs.2.1, row_kept hs.2.2.1 hg hr, row_kept hs.2.2.2 hg hr⟩) _) (ownFrom_below (by omega) (by omega)))
    ⟨⟨fun k hk => (by simp at hk), hF0⟩, hB0⟩
    (fun x => { tmps := #[.int .u64 fr, .agg (cntA c), undef, .pointer (some ⟨b, 0, none⟩), .pointer (some ⟨b + 1, 0, none⟩), .pointer (some ⟨b + 1 + 1, 0, none⟩), .pointer (some ⟨b + 1 + 1 + 1, 0, none⟩), .pointer (some ⟨b + 1 + 1 + 1 + 1, 0, none⟩), .int .i64 ((x.val : Int) + 1), .int .u64 fr, .agg (tabA fr 0 (fun _ => 0) (fun _ => 0)), .func (.func 45) #[] #[], .int .i64 ((x.val : Int) + 1), .int .i64 (32 + 8 * (x.val : Int)), undef, undef, undef, undef, undef, undef, undef, undef, undef, undef, undef, undef, undef, undef, undef, undef, undef, undef, undef, undef, undef, undef, undef, undef, undef, undef, undef, undef, undef, undef, undef, undef], defers := [] }) ?assign ?body ?done ?stop
  case assign =>
    intro l x W K hK
    gi_wp2
    exact hK
  case body =>
    rintro l pre x W ⟨⟨hok, hF⟩, hB⟩ hlen
    obtain ⟨s, hs⟩ : ∃ s : Nat, s = x.val + 1 := ⟨_, rfl⟩
    have hs7 : s < 7 := by omega
    have es : ((x.val : Int) + 1) = (s : Int) := by omega
    have k0 := cnt_cell hF.r0 s hs7
    dsimp only
    rw [es]
    have HS := Lib.hid hs
    have HF := Lib.hid hF
    have HB := Lib.hid hB
    have HO := Lib.hid hok
    have hs1 : 1 ≤ s := by omega
    clear hs es hF hB hok hF0 hB0
    have hs7i : (s : Int) < 7 := by omega
    have hix := lim_index s hs7
    have kc : ∀ w', Below W.heap.size W w' → w'.cell? ⟨b, s, none⟩ = some (.int .i64 (c s)) := fun w' h => cnt_cell (HF.out.after h).r0 s hs7
    have hlim : ∀ w', Below W.heap.size W w' → CallsIn (Fence.wide.inRound l) (3 - 1 - 1 - 1) Try.prog 29 #[] w' fun e w'' => e = .returned (.agg #[.int .i64 0, .int .i64 64, .int .i64 1024, .int .i64 1024, .int .i64 1024, .int .i64 512, .int .i64 1024]) ∧ Below W.heap.size W w'' :=
      fun w' h => (CallsIn.inRound l (callsIn_wide.2 (limits_any w'))).mono (fun e w'' ⟨he, hw⟩ => ⟨he, by rw [hw]; exact h.alloc h.size _⟩)
    by_cases hneg : c s < 0
    · have hd : decide (c s < 0) = true := decide_eq_true hneg
      gi_wp2
      refine wpIn_region_class (fun w' => Below W.heap.size W w') hfol rfl (by kernel_rfl) (Below.drew' (Below.refl _ W)) ?_
      repeat (refine wpQuietIn_step (fun _ _ _ _ => trivial) (fun K hK => ?_); go_simp; first | (refine ⟨_, fun _ _ => rfl, hK _ ?_⟩; clear hK K) | (refine hK _ ?_; clear hK K))
      refine wpQuietIn_step (fun _ _ _ _ => trivial) (fun K hK => ?_); go_simp; refine ⟨ .int .i64 (c s), fun w' hw' => ?_, hK _ ?_⟩; · simp [kc w' hw']
      clear hK K
      repeat (refine wpQuietIn_step (fun _ _ _ _ => trivial) (fun K hK => ?_); go_simp; first | (refine ⟨_, fun _ _ => rfl, hK _ ?_⟩; clear hK K) | (refine hK _ ?_; clear hK K))
      refine wpQuietIn_nil ?_
      intro W2 hb2
      have F2 := Lib.hid (HF.out.after hb2)
      have B2 := Lib.hid hb2
      clear hb2 kc hix hlim
      gi_upto_region 6 with fail
      refine wpIn_region_lit ?_
      refine wpListIn_buildTo rfl 25 #[] rfl (some 27) rfl tabZ (by kernel_rfl) ?_
      refine wpListIn_store_rowTo rfl 25 (.tmp 4) (.tmp 27) rfl rfl (b + 1) tabZ rfl rfl 25 tabZ F2.out.r1 infoT rfl (tab_all _ _ _ _) ?_
      have r1 := setRow_heap W2 (b + 1) tabZ tabZ 25 (0, 0) F2.out.r1
      have r2 := (setRow_other W2 (b + 1) (b + 1 + 1) tabZ (by omega)).trans F2.out.r2
      have K3 : KeepsOthers W (W2.setRow (b + 1) tabZ) := (keeps_of_below B2.out).trans (setRow_keeps W2 (b + 1) tabZ)
      have B3 : Below b W (W2.setRow (b + 1) tabZ) := setRow_below (B2.out.mono (by have := HF.out.lt; omega)) (by omega) tabZ
      generalize W2.setRow (b + 1) tabZ = W3 at *
      obtain ⟨y0, yf⟩ := one_cell r2
      have R1 := Lib.hid r1
      have R2 := Lib.hid r2
      clear r1 r2 F2 B2
      gi_wp2
      refine ⟨K3.trans (KeepsOthers.setCell _ _ _), ⟨rfl, ?_, ?_, ?_⟩, ?_⟩
      · intro h
        obtain ⟨_, g0, g1⟩ := okL_snoc.1 h
        rw [← HS.out] at g0 g1
        omega
      · exact (Below.heap_setCell _ _ _ _ (by show b + 1 ≠ b + 1 + 1; omega)).trans R1.out
      · exact row_set R2.out 0 (.bool false)
      · exact HB.out.trans (B3.setCell (by show b ≤ b + 1 + 1; omega) _)
    · have hd : decide (c s < 0) = false := decide_eq_false hneg
      by_cases hbig : limT s < c s
      · have hd2 : decide (limT s < c s) = true := decide_eq_true hbig
        gi_wp2
        refine wpIn_region_class (fun w' => Below W.heap.size W w') hfol rfl (by kernel_rfl) (Below.drew' (Below.refl _ W)) ?_
        repeat (refine wpQuietIn_step (fun _ _ _ _ => trivial) (fun K hK => ?_); go_simp; first | (refine ⟨_, fun _ _ => rfl, hK _ ?_⟩; clear hK K) | (refine hK _ ?_; clear hK K))
        refine wpQuietIn_step (fun _ _ _ _ => trivial) (fun K hK => ?_); go_simp; refine ⟨ .int .i64 (c s), fun w' hw' => ?_, hK _ ?_⟩; · simp [kc w' hw']
        clear hK K
        repeat (refine wpQuietIn_step (fun _ _ _ _ => trivial) (fun K hK => ?_); go_simp; first | (refine ⟨_, fun _ _ => rfl, hK _ ?_⟩; clear hK K) | (refine hK _ ?_; clear hK K))
        refine wpQuietIn_step (fun _ _ _ _ => trivial) (fun K hK => ?_); go_simp; refine ⟨ .int .i64 (c s), fun w' hw' => ?_, hK _ ?_⟩; · simp [kc w' hw']
        clear hK K
        repeat (refine wpQuietIn_step (fun _ _ _ _ => trivial) (fun K hK => ?_); go_simp; first | (refine ⟨_, fun _ _ => rfl, hK _ ?_⟩; clear hK K) | (refine hK _ ?_; clear hK K))
        refine wpQuietIn_step (fun _ _ _ _ => trivial) (fun K hK => ?_); go_simp; refine ⟨ .agg #[.int .i64 0, .int .i64 64, .int .i64 1024, .int .i64 1024, .int .i64 1024, .int .i64 512, .int .i64 1024], hlim, hK _ ?_⟩
        clear hK K
        repeat (refine wpQuietIn_step (fun _ _ _ _ => trivial) (fun K hK => ?_); go_simp; first | (refine ⟨_, fun _ _ => rfl, hK _ ?_⟩; clear hK K) | (refine hK _ ?_; clear hK K))
        refine wpQuietIn_nil ?_
        intro W2 hb2
        have F2 := Lib.hid (HF.out.after hb2)
        have B2 := Lib.hid hb2
        clear hb2 kc hix hlim
        gi_upto_region 6 with fail
        refine wpIn_region_lit ?_
        refine wpListIn_buildTo rfl 25 #[] rfl (some 27) rfl tabZ (by kernel_rfl) ?_
        refine wpListIn_store_rowTo rfl 25 (.tmp 4) (.tmp 27) rfl rfl (b + 1) tabZ rfl rfl 25 tabZ F2.out.r1 infoT rfl (tab_all _ _ _ _) ?_
        have r1 := setRow_heap W2 (b + 1) tabZ tabZ 25 (0, 0) F2.out.r1
        have r2 := (setRow_other W2 (b + 1) (b + 1 + 1) tabZ (by omega)).trans F2.out.r2
        have K3 : KeepsOthers W (W2.setRow (b + 1) tabZ) := (keeps_of_below B2.out).trans (setRow_keeps W2 (b + 1) tabZ)
        have B3 : Below b W (W2.setRow (b + 1) tabZ) := setRow_below (B2.out.mono (by have := HF.out.lt; omega)) (by omega) tabZ
        generalize W2.setRow (b + 1) tabZ = W3 at *
        obtain ⟨y0, yf⟩ := one_cell r2
        have R1 := Lib.hid r1
        have R2 := Lib.hid r2
        clear r1 r2 F2 B2
        gi_wp2
        refine ⟨K3.trans (KeepsOthers.setCell _ _ _), ⟨rfl, ?_, ?_, ?_⟩, ?_⟩
        · intro h
          obtain ⟨_, g0, g1⟩ := okL_snoc.1 h
          rw [← HS.out] at g0 g1
          omega
        · exact (Below.heap_setCell _ _ _ _ (by show b + 1 ≠ b + 1 + 1; omega)).trans R1.out
        · exact row_set R2.out 0 (.bool false)
        · exact HB.out.trans (B3.setCell (by show b ≤ b + 1 + 1; omega) _)
      · have hd2 : decide (limT s < c s) = false := decide_eq_false hbig
        gi_wp2
        refine wpIn_region_class (fun w' => Below W.heap.size W w') hfol rfl (by kernel_rfl) (Below.drew' (Below.refl _ W)) ?_
        repeat (refine wpQuietIn_step (fun _ _ _ _ => trivial) (fun K hK => ?_); go_simp; first | (refine ⟨_, fun _ _ => rfl, hK _ ?_⟩; clear hK K) | (refine hK _ ?_; clear hK K))
        refine wpQuietIn_step (fun _ _ _ _ => trivial) (fun K hK => ?_); go_simp; refine ⟨ .int .i64 (c s), fun w' hw' => ?_, hK _ ?_⟩; · simp [kc w' hw']
        clear hK K
        repeat (refine wpQuietIn_step (fun _ _ _ _ => trivial) (fun K hK => ?_); go_simp; first | (refine ⟨_, fun _ _ => rfl, hK _ ?_⟩; clear hK K) | (refine hK _ ?_; clear hK K))
        refine wpQuietIn_step (fun _ _ _ _ => trivial) (fun K hK => ?_); go_simp; refine ⟨ .int .i64 (c s), fun w' hw' => ?_, hK _ ?_⟩; · simp [kc w' hw']
        clear hK K
        repeat (refine wpQuietIn_step (fun _ _ _ _ => trivial) (fun K hK => ?_); go_simp; first | (refine ⟨_, fun _ _ => rfl, hK _ ?_⟩; clear hK K) | (refine hK _ ?_; clear hK K))
        refine wpQuietIn_step (fun _ _ _ _ => trivial) (fun K hK => ?_); go_simp; refine ⟨ .agg #[.int .i64 0, .int .i64 64, .int .i64 1024, .int .i64 1024, .int .i64 1024, .int .i64 512, .int .i64 1024], hlim, hK _ ?_⟩
        clear hK K
        repeat (refine wpQuietIn_step (fun _ _ _ _ => trivial) (fun K hK => ?_); go_simp; first | (refine ⟨_, fun _ _ => rfl, hK _ ?_⟩; clear hK K) | (refine hK _ ?_; clear hK K))
        refine wpQuietIn_nil ?_
        intro W2 hb2
        have F2 := Lib.hid (HF.out.after hb2)
        have B2 := Lib.hid hb2
        clear hb2 kc hix hlim
        have ha := foldT_range rfl HO.out
        have e2 := foldT_snoc c pre x
        generalize foldT c pre = st at *
        obtain ⟨o', c', n'⟩ := st
        have HE := Lib.hid e2
        clear e2 k0
        obtain ⟨DD, hDD⟩ : ∃ DD : Bool → Bool → World → Prop, DD = fun p q w' => ForW w' b fr c (if p then upd o' s n' else o', if q then upd c' s (c s) else c', n') ∧ KeepsOthers W w' ∧ Below b W w' := ⟨_, rfl⟩
        have hk2 : ∀ p q w', DD p q w' → w'.cell? ⟨b, s, none⟩ = some (.int .i64 (c s)) := fun p q w' h => by rw [hDD] at h; exact cnt_cell h.1.r0 s hs7
        have hk4 : ∀ p q w', DD p q w' → w'.cell? ⟨b + 1 + 1 + 1 + 1, 0, none⟩ = some (.int .i64 n') := fun p q w' h => by rw [hDD] at h; exact (one_cell h.1.r4).1
        have hinv : ∀ {L w' k}, DD (Came L 8) (Came L 11) w' → k ≠ 8 → k ≠ 11 → DD (Came (Next L k) 8) (Came (Next L k) 11) w' := fun h h8 h11 => by rw [Came_ne h8, Came_ne h11]; exact h
        have h0 : DD false false W2 := by rw [hDD]; exact ⟨F2.out, keeps_of_below B2.out, B2.out.mono (by have := HF.out.lt; omega)⟩
        have h0' : DD (Came (Array.replicate 12 false) 8) (Came (Array.replicate 12 false) 11) W2.drew := by
          rw [hDD] at h0 ⊢
          exact ⟨h0.1.after (Below.drew' (Below.refl _ W2)), h0.2.1.trans (KeepsOthers.drew W2), Below.drew' h0.2.2⟩
        have hc8 : ∀ p q w', DD p q w' → ∃ v, w'.cell? ⟨b + 1 + 1 + 1, 2 + s, none⟩ = some v ∧ w'.frozen? ⟨b + 1 + 1 + 1, 2 + s, none⟩ = false := fun p q w' h => by rw [hDD] at h; exact ⟨_, (tab_cell h.1.r3 s hs7).1, tab_free h.1.r3 _⟩
        have hc11 : ∀ p q w', DD p q w' → ∃ v, w'.cell? ⟨b + 1 + 1 + 1, 9 + s, none⟩ = some v ∧ w'.frozen? ⟨b + 1 + 1 + 1, 9 + s, none⟩ = false := fun p q w' h => by rw [hDD] at h; exact ⟨_, (tab_cell h.1.r3 s hs7).2, tab_free h.1.r3 _⟩
        have hs8 : ∀ q w', DD false q w' → DD true q (w'.setCell ⟨b + 1 + 1 + 1, 2 + s, none⟩ (.int .i64 n')) := fun q w' h => by rw [hDD] at h ⊢; exact ⟨h.1.off s hs7 n', h.2.1.trans (KeepsOthers.setCell _ _ _), h.2.2.setCell (by show b ≤ b + 1 + 1 + 1; omega) _⟩
        have hs11 : ∀ p w', DD p false w' → DD p true (w'.setCell ⟨b + 1 + 1 + 1, 9 + s, none⟩ (.int .i64 (c s))) := fun p w' h => by rw [hDD] at h ⊢; exact ⟨h.1.cnt s hs7 (c s), h.2.1.trans (KeepsOthers.setCell _ _ _), h.2.2.setCell (by show b ≤ b + 1 + 1 + 1; omega) _⟩
        have HD := Lib.hid hDD
        clear F2 B2 hDD
        gi_wp2
        refine wpIn_region_stage (fun L w' => DD (Came L 8) (Came L 11) w') hfol rfl (by kernel_rfl) h0' ?_
        repeat (refine lexS_step (fun K hK => ?_); go_simp; refine ⟨_, fun L w' hL h => ⟨rfl, hinv h (by decide) (by decide)⟩, hK _ ?_⟩; clear hK K)
        refine lexS_step (fun K hK => ?_); go_simp; refine ⟨.int .i64 n', fun L w' hL h => ?_, hK _ ?_⟩; · rw [hk4 _ _ w' h]; exact ⟨rfl, hinv h (by decide) (by decide)⟩
        clear hK K
        repeat (refine lexS_step (fun K hK => ?_); go_simp; refine ⟨_, fun L w' hL h => ⟨rfl, hinv h (by decide) (by decide)⟩, hK _ ?_⟩; clear hK K)
        refine lexS_step (fun K hK => ?_); go_simp; refine ⟨.int .i64 (c s), fun L w' hL h => ?_, hK _ ?_⟩; · rw [hk2 _ _ w' h]; exact ⟨rfl, hinv h (by decide) (by decide)⟩
        clear hK K
        repeat (refine lexS_step (fun K hK => ?_); go_simp; refine ⟨_, fun L w' hL h => ⟨rfl, hinv h (by decide) (by decide)⟩, hK _ ?_⟩; clear hK K)
        refine lexS_step (fun K hK => ?_); go_simp; refine ⟨⟨undef, fun L w' hL h => ?_⟩, hK _ ?_⟩
        · obtain ⟨v, hc, hf⟩ := hc8 _ _ w' h
          rw [hc, hf]
          rw [Came_open hL] at h
          refine ⟨rfl, ?_⟩
          rw [Came_same hL, Came_ne (by decide)]
          exact hs8 _ w' h
        clear hK K
        repeat (refine lexS_step (fun K hK => ?_); go_simp; refine ⟨_, fun L w' hL h => ⟨rfl, hinv h (by decide) (by decide)⟩, hK _ ?_⟩; clear hK K)
        refine lexS_step (fun K hK => ?_); go_simp; refine ⟨⟨undef, fun L w' hL h => ?_⟩, hK _ ?_⟩
        · obtain ⟨v, hc, hf⟩ := hc11 _ _ w' h
          rw [hc, hf]
          rw [Came_open hL] at h
          refine ⟨rfl, ?_⟩
          rw [Came_same hL, Came_ne (by decide)]
          exact hs11 _ w' h
        clear hK K
        refine lexS_nil ?_
        intro W3 h3
        have h3' : DD true true W3 := h3
        rw [HD.out] at h3'
        obtain ⟨F3, K3, B3⟩ := h3'
        have F3' : ForW W3 b fr c (upd o' s n', upd c' s (c s), n') := F3
        have hT := Lib.hid F3'.r3
        have F4 := Lib.hid F3'
        have K4 := Lib.hid K3
        have B4 := Lib.hid B3
        clear h3 F3 F3' K3 B3 hs8 hs11 hc8 hc11 hk2 hk4 hinv h0 h0'
        gi_upto_region 8 with fail
        refine wpIn_region_lit ?_
        refine wpListIn_load_row rfl 25 (.tmp 6) rfl (b + 1 + 1 + 1) rfl 25 (tabA fr 0 (upd o' s n') (upd c' s (c s))) (0, 0) _ hT.out Try.underlying25 rfl infoT ?_
        gi_wp2
        have hlt := HF.out.lt
        have hs16 : pre.length ≤ 5 := by omega
        have hl := limT_range s
        have hz := szT_range s
        have hpr := prod_range (show 0 ≤ c s by omega) (show c s ≤ 1024 by omega) hz.1 hz.2
        refine ⟨trivial, ?_⟩
        refine (CallsIn.inRound l (callsIn_wide.2 (end_any fr 0 (upd o' s n') (upd c' s (c s)) s W3 hs7 (by rw [upd_same]; omega) (by rw [upd_same]; omega)))).mono ?_
        rintro e w4 ⟨rfl, hb4⟩
        rw [upd_same, upd_same]
        have F5 := Lib.hid (F4.out.after hb4)
        have B5 := Lib.hid hb4
        clear hb4
        obtain ⟨y0, yf⟩ := one_cell F5.out.r4
        gi_wp2
        refine ⟨trivial, ?_⟩
        refine (CallsIn.inRound l (callsIn_wide.2 (align_any (n' + c s * szT s) w4 (by omega) (by omega)))).mono ?_
        rintro e w5 ⟨rfl, rfl⟩
        gi_wp2
        have hb3 : b ≤ W3.heap.size := by have := F4.out.lt; omega
        have hBl : Below b W w4 := B4.out.trans (B5.out.mono hb3)
        refine ⟨(K4.out.trans (keeps_of_below B5.out)).trans (KeepsOthers.setCell _ _ _), hBl.setCell (by show b ≤ b + 1 + 1 + 1 + 1; omega) _, ⟨okL_snoc.2 ⟨HO.out, ?_⟩, ?_⟩, (HB.out.trans hBl).setCell (by show b ≤ b + 1 + 1 + 1 + 1; omega) _⟩
        · rw [← HS.out]; omega
        · rw [HE.out]
          unfold stepT
          rw [← HS.out]
          exact F5.out.next _
  case done =>
    rintro D xs W hD rfl ⟨⟨hok, hF⟩, hB⟩ hK
    have ha := foldT_range rfl hok
    have hlen : (upT 6).length = 6 := rfl
    rw [hlen] at ha
    have hfold := tabT_fold fr c
    generalize foldT c (upT 6) = st at *
    obtain ⟨o', c', n'⟩ := st
    simp only at hfold ha
    have v1 := tab_one hF.r3
    have vf := tab_free hF.r3
    obtain ⟨x0, xf⟩ := one_cell hF.r4
    have HF := Lib.hid hF
    have HFD := Lib.hid hfold
    clear hF hfold
    gi_upto_region 10 with fail
    have Q3 := Lib.hid (tab_tot HF.out.r3 (n' + 4))
    have Q1 := Lib.hid ((Below.heap_setCell W ⟨b + 1 + 1 + 1, 1, none⟩ (.int .i64 (n' + 4)) (b + 1) (by show b + 1 ≠ b + 1 + 1 + 1; omega)).trans HF.out.r1)
    have Q2 := Lib.hid ((Below.heap_setCell W ⟨b + 1 + 1 + 1, 1, none⟩ (.int .i64 (n' + 4)) (b + 1 + 1) (by show b + 1 + 1 ≠ b + 1 + 1 + 1; omega)).trans HF.out.r2)
    have K1 := KeepsOthers.setCell W ⟨b + 1 + 1 + 1, 1, none⟩ (.int .i64 (n' + 4))
    have B1 := (Below.refl b W).setCell (p := ⟨b + 1 + 1 + 1, 1, none⟩) (by show b ≤ b + 1 + 1 + 1; omega) (.int .i64 (n' + 4))
    generalize W.setCell ⟨b + 1 + 1 + 1, 1, none⟩ (.int .i64 (n' + 4)) = W1 at *
    refine wpIn_region_lit ?_
    refine wpListIn_load_row rfl 25 (.tmp 6) rfl (b + 1 + 1 + 1) rfl 25 (tabA fr (n' + 4) o' c') (0, 0) _ Q3.out Try.underlying25 rfl infoT ?_
    refine wpListIn_store_rowTo rfl 25 (.tmp 4) (.tmp 45) rfl rfl (b + 1) (tabA fr (n' + 4) o' c') rfl rfl 25 tabZ Q1.out infoT rfl (tab_all _ _ _ _) ?_
    have r1 := setRow_heap W1 (b + 1) tabZ (tabA fr (n' + 4) o' c') 25 (0, 0) Q1.out
    have r2 := (setRow_other W1 (b + 1) (b + 1 + 1) (tabA fr (n' + 4) o' c') (by omega)).trans Q2.out
    have K2 := K1.trans (setRow_keeps W1 (b + 1) (tabA fr (n' + 4) o' c'))
    have B2 := setRow_below B1 (show b ≤ b + 1 by omega) (tabA fr (n' + 4) o' c')
    generalize W1.setRow (b + 1) (tabA fr (n' + 4) o' c') = W2 at *
    obtain ⟨y0, yf⟩ := one_cell r2
    have R1 := Lib.hid r1
    have R2 := Lib.hid r2
    clear r1 r2 Q3 Q1 Q2 x0 xf v1 vf
    gi_wp2
    refine post_at ?_
    intro Wf hWf
    have KO : KeepsOthers W Wf := by rw [hWf]; exact K2.trans (KeepsOthers.setCell _ _ _)
    have BF : Below b W Wf := by rw [hWf]; exact B2.setCell (by show b ≤ b + 1 + 1; omega) _
    have r1 : Wf.heap[b + 1]? = some (.cells (tabA fr (n' + 4) o' c') 25 (0, 0)) := by
      rw [hWf]
      exact (Below.heap_setCell _ _ _ _ (by show b + 1 ≠ b + 1 + 1; omega)).trans R1.out
    have r2 : Wf.heap[b + 1 + 1]? = some (.cells #[.bool true] 4 (0, 0)) := by
      rw [hWf]
      exact row_set R2.out 0 (.bool true)
    clear hWf
    have hK' := KO.same D _ hK rfl
    refine ⟨by simp, .inl ⟨_, _, rfl, run_takeDeferred hK', ?_⟩⟩
    have kr : ∀ r, some D = some r → ∃ o : Obj, Wf.heap[r]? = some o ∧ o.isCells = false := fun r e => by cases e; exact ⟨_, hK', rfl⟩
    have p1 := row_kept r1 (grownBy_putObj' _ D (.deferred none)) kr
    obtain ⟨y0, yf⟩ := one_cell (row_kept r2 (grownBy_putObj' _ D (.deferred none)) kr)
    rw [← HFD.out]
    refine ⟨.tuple #[.agg (tabA fr (n' + 4) o' c'), .bool true], ?_, fun _ => rfl, fun h => absurd (okL_all hok) h, ?_⟩
    · exact results_row_cell rfl _ (b + 1) (b + 1 + 1) 25 _ (0, 0) _ rfl p1 Try.underlying25 rfl infoT rfl (.bool true) (by simp [go_sem, y0])
    · rw [hb]; exact (hB.trans BF).trans (belowK_b (w := w) (by omega) Wf D _ _ (by omega) hK' rfl rfl)
  case stop =>
    rintro D d pre W hD ⟨k, hk1, hk6, rfl⟩ ⟨⟨rfl, hno, h1, h2⟩, hB⟩ hK
    gi_wp2
    refine ⟨by simp, .inl ⟨_, _, rfl, run_takeDeferred hK, ?_⟩⟩
    have kr : ∀ r, some D = some r → ∃ o : Obj, W.heap[r]? = some o ∧ o.isCells = false := fun r e => by cases e; exact ⟨_, hK, rfl⟩
    have p1 := row_kept h1 (grownBy_putObj' _ D (.deferred none)) kr
    obtain ⟨y0, yf⟩ := one_cell (row_kept h2 (grownBy_putObj' _ D (.deferred none)) kr)
    refine ⟨.tuple #[.agg tabZ, .bool false], ?_, fun h => absurd (okL_of h _) hno, fun _ => rfl, (by rw [hb]; exact hB.trans (belowK_b (w := w) (by omega) W D _ _ (by omega) hK rfl rfl))⟩
    exact results_row_cell rfl _ (b + 1) (b + 1 + 1) 25 _ (0, 0) _ rfl p1 Try.underlying25 rfl infoT rfl (.bool false) (by simp [go_sem, y0])
end Go.Proofs.Ythnognjcbjgkbaa
