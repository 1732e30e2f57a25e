/-
  Contract of Get.
-/
import Derived.Test.YthnognjcbjgkbaaTab18
namespace Go.Proofs.Ythnognjcbjgkbaa
set_option linter.unusedVariables false
open Go.RowKit Go.Shelf
attribute [local go_sem] Oper.semAt_some atS upS

set_option maxRecDepth 100000 in
set_option maxHeartbeats 8000000 in
theorem Get_main (B : Nat) (A : Option Addr) (c : Nat) (xs : List UInt8) (w : World) (hR : Rd w B A xs) (hB : B ≤ w.heap.size) (hc : xs.length ≤ c) (hn : c ≤ 9223372036854775807) (hV : headV xs = (0, 0)) :
    Calls Try.prog 19 #[.slice A xs.length c] w (GetOK xs w) := by
  have HV := Lib.hid hV
  clear hV
  refine (callsIn_wide (n := 3)).1 ?_
  refine callsIn_of_wp_marks Try.func19 rfl trivial ?_ rfl
  simp only [Try.ntmps19, List.size_toArray, List.length_cons, List.length_nil, Nat.reduceAdd, Nat.reduceSub, Array.replicate_succ, Array.replicate_zero, List.push_toArray, List.append_toArray, List.nil_append, List.cons_append]
  obtain ⟨a0, a1, a2⟩ := new3 w (.cells #[.slice A xs.length c] 50) (.cells tabZ 25) (.cells (fltA 0 0) 47)
  have G0 := Lib.hid (show GtW _ w.heap.size A xs.length c tabZ 0 0 from ⟨a0, a1, a2⟩)
  have HR0 := Lib.hid (((hR.alloc hB (.cells #[.slice A xs.length c] 50)).alloc (by simp; omega) (.cells tabZ 25)).alloc (by simp; omega) (.cells (fltA 0 0) 47))
  have B0 := Lib.hid ((((Below.refl w.heap.size w).alloc (Nat.le_refl _) (.cells #[.slice A xs.length c] 50)).alloc (by simp) (.cells tabZ 25)).alloc (by simp; omega) (.cells (fltA 0 0) 47))
  have HRW := Lib.hid hR
  clear a0 a1 a2 hR
  gi_upto_region 1 with fail
  rw [show (Obj.cells #[Value.int IntKind.u64 0, Value.int IntKind.i64 0, Value.int IntKind.i64 0, Value.int IntKind.i64 0, Value.int IntKind.i64 0, Value.int IntKind.i64 0, Value.int IntKind.i64 0, Value.int IntKind.i64 0, Value.int IntKind.i64 0, Value.int IntKind.i64 0, Value.int IntKind.i64 0, Value.int IntKind.i64 0, Value.int IntKind.i64 0, Value.int IntKind.i64 0, Value.int IntKind.i64 0, Value.int IntKind.i64 0] 25) = .cells tabZ 25 from rfl,
    show (Obj.cells #[Value.int IntKind.i64 0, Value.int IntKind.i64 0, Value.int IntKind.i64 0] 47) = .cells (fltA 0 0) 47 from rfl]
  generalize (((w.alloc (.cells #[.slice A xs.length c] 50)).alloc (.cells tabZ 25)).alloc (.cells (fltA 0 0) 47)) = w0 at *
  generalize hb : w.heap.size = b at *
  have HB := Lib.hid hb
  clear hb
  obtain ⟨y0, yf⟩ := one_cell G0.out.r0
  have hlt0 := G0.out.lt
  gi_wp2
  refine ⟨trivial, ?_⟩
  refine (callsIn_wide.2 (head_any B A c xs w0 HR0.out (by omega) hc hn)).mono ?_
  rintro e w1 ⟨rfl, hb1⟩
  rw [HV.out]
  have G1 := Lib.hid (G0.out.after hb1)
  have B1 := Lib.hid (B0.out.trans (hb1.mono (by omega)))
  clear y0 yf G0 B0 HR0 hb1
  have hlt1 := G1.out.lt
  gi_upto_region 5 with fail
  rw [show (Obj.cells #[Value.int IntKind.u64 0, Value.int IntKind.i64 0, Value.int IntKind.i64 0, Value.int IntKind.i64 0, Value.int IntKind.i64 0, Value.int IntKind.i64 0, Value.int IntKind.i64 0, Value.int IntKind.i64 0, Value.int IntKind.i64 0, Value.int IntKind.i64 0, Value.int IntKind.i64 0, Value.int IntKind.i64 0, Value.int IntKind.i64 0, Value.int IntKind.i64 0, Value.int IntKind.i64 0, Value.int IntKind.i64 0] 25) = .cells tabZ 25 from rfl,
    show (Obj.cells #[Value.int IntKind.i64 0, Value.int IntKind.i64 0, Value.int IntKind.i64 0] 47) = .cells (fltA 0 0) 47 from rfl]
  have r5 := heap_alloc_new (w1.alloc (.cells (fltA 0 0) 47)) (.cells tabZ 25)
  rw [World.size_alloc] at r5
  have b12 := ((Below.refl w1.heap.size w1).alloc (Nat.le_refl _) (.cells (fltA 0 0) 47)).alloc (by simp) (.cells tabZ 25)
  have G3 := Lib.hid (G1.out.after b12)
  have B3 := Lib.hid (B1.out.trans (b12.mono (by omega)))
  have hz3 : ((w1.alloc (.cells (fltA 0 0) 47)).alloc (.cells tabZ 25)).heap.size = w1.heap.size + 1 + 1 := by simp
  generalize ((w1.alloc (.cells (fltA 0 0) 47)).alloc (.cells tabZ 25)) = w3 at *
  generalize w1.heap.size = g at *
  have HZ3 := Lib.hid hz3
  have R5 := Lib.hid (show w3.heap[g + 1]? = some (.cells (tabA 0 0 (fun _ => 0) (fun _ => 0)) 25 (0, 0)) from r5)
  clear r5 b12 G1 B1 hz3
  obtain ⟨y0, yf⟩ := one_cell G3.out.r0
  obtain ⟨t0, _⟩ := tab_cells R5.out
  have tf := tab_free R5.out
  obtain ⟨fr, hfr⟩ : ∃ fr : Nat, fr = numV xs 16 8 := ⟨_, rfl⟩
  have HFR := Lib.hid hfr
  have hX3 : Rd w3 B A xs := HRW.out.below (B3.out.mono hB)
  have HU := Lib.hid (U64_any B A c xs 16 w3 hX3 hc hn (by omega))
  rw [← hfr] at HU
  clear hfr hX3
  gi_wp2_with (refine ⟨trivial, ?_⟩; gi_at_call 35; refine (callsIn_wide.2 HU.out).mono ?_; rintro e w' ⟨rfl, rfl⟩)
  refine ⟨trivial, ?_⟩
  refine (callsIn_wide.2 (sections_any _)).mono ?_
  rintro e w' ⟨rfl, rfl⟩
  have hg3 : b + 3 ≤ g := hlt1
  have e5 := tab_frm R5.out (fr : Int)
  have e6 := heap_alloc_new (w3.setCell ⟨g + 1, 0, none⟩ (.int .u64 (fr : Int))) (.cells #[.int .i64 80] 3)
  rw [show (w3.setCell ⟨g + 1, 0, none⟩ (.int .u64 (fr : Int))).heap.size = w3.heap.size from by simp, HZ3.out] at e6
  have hal := (Below.refl (w3.setCell ⟨g + 1, 0, none⟩ (.int .u64 (fr : Int))).heap.size (w3.setCell ⟨g + 1, 0, none⟩ (.int .u64 (fr : Int)))).alloc (Nat.le_refl _) (.cells #[.int .i64 80] 3)
  have F0 := Lib.hid (show GlW ((w3.setCell ⟨g + 1, 0, none⟩ (.int .u64 (fr : Int))).alloc (.cells #[.int .i64 80] 3)) b g A xs.length c tabZ 0 0 (fr : Int) (foldT (cntX xs) []) from
    ⟨(G3.out.far (by omega) _ _).after hal, (Below.heap_alloc _ _ _ (by simp; have := HZ3.out; omega)).trans e5, e6, hg3⟩)
  have B4 := Lib.hid ((B3.out.setCell (p := ⟨g + 1, 0, none⟩) (by show b ≤ g + 1; omega) (.int .u64 (fr : Int))).alloc (by simp; have := HZ3.out; omega) (.cells #[.int .i64 80] 3))
  have hz4 : ((w3.setCell ⟨g + 1, 0, none⟩ (.int .u64 (fr : Int))).alloc (.cells #[.int .i64 80] 3)).heap.size = g + 3 := by simp; have := HZ3.out; omega
  rw [HZ3.out]
  generalize ((w3.setCell ⟨g + 1, 0, none⟩ (.int .u64 (fr : Int))).alloc (.cells #[.int .i64 80] 3)) = w4 at *
  clear e5 e6 hal y0 yf t0 tf G3 B3 R5 HZ3 HU
  have hfol : Try.prog.follows Departure.mixedOrders = true := by kernel_rfl
  have hbw : w.heap.size = b := HB.out
  gi_wp2
  refine wpIn_rangeFunc_ownF rfl (by omega) (gf := 45) (lb := #[]) rfl trivial (enters_of Try.func45 (by kernel_rfl) rfl)
    (sections_stops 2 b (by omega) _) belowK_t (belowK_b (by omega)) (Below.refl _ _) (fun _ => rfl)
    (fun pre W => (okG xs pre ∧ GlW W b g A xs.length c tabZ 0 0 (fr : Int) (foldT (cntX xs) pre)) ∧ Below b w W)
    (fun d pre W => (d = .ret ∧ ∃ q x v z, pre = q ++ [x] ∧ okG xs q ∧ badG xs q x v z ∧ GtW W b A xs.length c tabZ v z) ∧ Below b w W)
    (OwnFrom.and (Own.from (fun s A B row hs hg hr => ⟨hs.1, hs.2.kept hg hr⟩) _) (ownFrom_below (by omega) (by omega)))
    (fun d => OwnFrom.and (Own.from (fun s A B row hs hg hr => by obtain ⟨e1, q, x, v, z, e2, e3, e4, e5⟩ := hs; exact ⟨e1, q, x, v, z, e2, e3, e4, e5.kept hg hr⟩) _) (ownFrom_below (by omega) (by omega)))
    ⟨⟨okG_nil xs, F0.out⟩, B4.out⟩
    (fun x => { tmps := #[.slice A xs.length c, .pointer (some ⟨b, 0, none⟩), .pointer (some ⟨b + 1, 0, none⟩), .pointer (some ⟨b + 1 + 1, 0, none⟩), .pointer (some ⟨g, 0, none⟩), .pointer (some ⟨g + 1, 0, none⟩), .pointer (some ⟨g + 1 + 1, 0, none⟩), .int .i64 ((x.val : Int) + 1), .int .i64 (32 + 8 * (x.val : Int)), undef, undef, undef, undef, undef, undef, .slice A xs.length c, .agg #[.int .i64 0, .int .i64 0, .int .i64 0], .agg #[.int .i64 0, .int .i64 0, .int .i64 0], .agg #[.int .i64 0, .int .i64 0, .int .i64 0], .bool false, undef, undef, .tuple #[.int .u64 (fr : Int), .bool (exB 16 8 xs.length)], .slice A xs.length c, .tuple #[.int .u64 (fr : Int), .bool (exB 16 8 xs.length)], .int .u64 (fr : Int), .bool (exB 16 8 xs.length), .pointer (some ⟨g + 1, 0, none⟩), .func (.func 45) #[] #[], .int .i64 ((x.val : Int) + 1), .int .i64 (32 + 8 * (x.val : Int)), undef, undef, undef, undef, undef, undef, undef, undef, undef, undef, undef, undef, undef, undef, undef, undef, undef, undef, undef, undef, undef, undef, undef, undef, undef, undef, undef, undef, undef, undef, undef, undef, undef, undef, undef, undef, undef, undef, undef, undef, undef, undef, undef, undef, undef, undef, undef, undef, undef, undef, undef, undef, undef, undef, undef, undef, undef, undef, undef, undef, undef, undef, undef, undef, undef, undef, undef, undef, undef, undef], defers := [] }) ?assign ?body ?done ?stop
  case assign =>
    intro l x W K hK
    gi_wp2
    exact hK
  case body =>
    rintro l pre x W ⟨⟨hok, hF⟩, hBl⟩ hlen
    obtain ⟨s, hs⟩ : ∃ s : Nat, s = x.val + 1 := ⟨_, rfl⟩
    have hs7 : s < 7 := by omega
    have es : ((x.val : Int) + 1) = (s : Int) := by omega
    have ep : (32 + 8 * (x.val : Int)) = 24 + 8 * (s : Int) := by omega
    have hs7i : (s : Int) < 7 := by omega
    have hs1 : 1 ≤ s := by omega
    have hix := lim_index s hs7
    have hX : Rd W B A xs := HRW.out.below (hBl.mono hB)
    obtain ⟨nn, hnn⟩ : ∃ nn : Nat, nn = numV xs (28 + 8 * (s : Int)) 4 := ⟨_, rfl⟩
    obtain ⟨oo, hoo⟩ : ∃ oo : Nat, oo = numV xs (24 + 8 * (s : Int)) 4 := ⟨_, rfl⟩
    have hnl : nn < 4294967296 := by rw [hnn]; exact numV_lt xs _ 4
    have hol : oo < 4294967296 := by rw [hoo]; exact numV_lt xs _ 4
    have hc0 : cntX xs (x.val + 1) = (nn : Int) := by rw [← hs]; unfold cntX; rw [if_neg (by omega), hnn]
    have ho0 : offX xs (x.val + 1) = (oo : Int) := by rw [← hs]; unfold offX; rw [hoo]
    have hfr := foldT_range rfl (okG_okL hok)
    have hl4 := hF.lt
    have hsn := @okG_snoc xs pre x
    have hbd1 : limT s < (nn : Int) → badG xs pre x 7 (28 + 8 * (s : Int)) := fun h => .inl ⟨by rw [hc0, ← hs]; exact h, rfl, by rw [hs]⟩
    have hbd2 : ¬ limT s < (nn : Int) → (oo : Int) ≠ (foldT (cntX xs) pre).2.2 → badG xs pre x 13 (24 + 8 * (s : Int)) := fun h h' => .inr ⟨by rw [hc0, ← hs]; exact h, by rw [ho0]; exact h', rfl, by rw [hs]⟩
    have hE := foldT_snoc (cntX xs) pre x
    unfold stepT at hE
    rw [hc0, ho0, ← hs] at hsn
    rw [hc0, ← hs] at hE
    try dsimp only
    rw [es, ep]
    generalize foldT (cntX xs) pre = st at *
    obtain ⟨o', c', n'⟩ := st
    simp only at hfr hsn hE hbd2
    have U1 := Lib.hid (U32_any B A c xs (24 + 8 * (s : Int)) W hX hc hn (by omega))
    have U2 := Lib.hid (U32_any B A c xs (28 + 8 * (s : Int)) W hX hc hn (by omega))
    rw [← hoo] at U1
    rw [← hnn] at U2
    have HF := Lib.hid hF
    have HBL := Lib.hid hBl
    have HO := Lib.hid hok
    have HSN := Lib.hid hsn
    have HBD1 := Lib.hid hbd1
    have HBD2' := Lib.hid hbd2
    have HE := Lib.hid hE
    obtain ⟨l0, l1⟩ := limT_range s
    obtain ⟨z0, z1⟩ := szT_range s
    obtain ⟨y0, yf⟩ := one_cell hF.gt.r0
    have m2 : IntKind.i64.wrap (24 + 8 * (s : Int) + 4) = 28 + 8 * (s : Int) := by rw [show 24 + 8 * (s : Int) + 4 = 28 + 8 * (s : Int) from by omega]; exact IntWalk.i64_in _ (by omega)
    have u0 : IntKind.u64.wrap (nn : Int) = nn := IntWalk.u64_in _ (by omega)
    have u1 : IntKind.u64.wrap (oo : Int) = oo := IntWalk.u64_in _ (by omega)
    have u2 : IntKind.u64.wrap (limT s) = limT s := IntWalk.u64_in _ (by omega)
    have u3 : IntKind.u64.wrap n' = n' := IntWalk.u64_in _ (by omega)
    clear hs hF hBl hok hsn hE hX hnn hoo hc0 ho0 es ep F0 B4 hz4 hbd1 hbd2
    gi_wp2
    refine ⟨trivial, ?_⟩
    refine (CallsIn.inRound l (callsIn_wide.2 U1.out)).mono ?_
    rintro e w' ⟨rfl, rfl⟩
    gi_wp2
    refine ⟨trivial, ?_⟩
    refine (CallsIn.inRound l (callsIn_wide.2 U2.out)).mono ?_
    rintro e w' ⟨rfl, rfl⟩
    gi_wp2
    refine ⟨trivial, ?_⟩
    refine (CallsIn.inRound l (callsIn_wide.2 (limits_any W))).mono ?_
    rintro e w5 ⟨rfl, hw5⟩
    have hb5 : Below W.heap.size W w5 := by rw [hw5]; exact (Below.refl _ W).alloc (Nat.le_refl _) _
    have F5 := Lib.hid (HF.out.after hb5)
    have K5 := Lib.hid (keeps_of_below hb5)
    have B5 := Lib.hid (hb5.mono (show b ≤ W.heap.size by have := HF.out.hg; omega))
    clear hw5 hb5 y0 yf U1 U2
    by_cases hbig : limT s < (nn : Int)
    · have d1 : decide (limT s < (nn : Int)) = true := decide_eq_true hbig
      have hbd := HBD1.out hbig
      have HBD2 := Lib.hid hbd
      clear hbd
      gi_wp2_with (first | (refine wpListIn_buildTo rfl 25 #[] rfl (some 51) rfl tabZ (by kernel_rfl) ?_) | (refine wpListIn_store_rowTo rfl 25 (.tmp 2) (.tmp 51) rfl rfl (b + 1) tabZ rfl rfl 25 tabZ F5.out.gt.r1 infoT rfl (tab_all _ _ _ _) ?_) | (refine wpListIn_store_rowTo rfl 47 (.tmp 3) (.tmp 54) rfl rfl (b + 1 + 1) (fltA 7 (28 + 8 * (s : Int))) rfl rfl 47 (fltA 0 0) (F5.out.gt.tab tabZ rfl).r2 infoF rfl (flt_all _ _) ?_))
      exact ⟨(K5.out.trans (setRow_keeps _ (b + 1) tabZ)).trans (setRow_keeps _ (b + 1 + 1) (fltA 7 (28 + 8 * (s : Int)))), ⟨rfl, pre, x, 7, 28 + 8 * (s : Int), rfl, HO.out, HBD2.out, (F5.out.gt.tab tabZ rfl).flt 7 (28 + 8 * (s : Int))⟩, setRow_below (setRow_below (HBL.out.trans B5.out) (by omega) _) (by omega) _⟩
    have d1 : decide (limT s < (nn : Int)) = false := decide_eq_false hbig
    obtain ⟨y0, yf⟩ := one_cell F5.out.r6
    by_cases hoff : (oo : Int) = n'
    case neg =>
      have d2 : ((oo : Int) != n') = true := by simpa using hoff
      have hbd := HBD2'.out (by omega) hoff
      have HBD2 := Lib.hid hbd
      clear hbd
      gi_wp2_with (first | (refine wpListIn_buildTo rfl 25 #[] rfl (some 60) rfl tabZ (by kernel_rfl) ?_) | (refine wpListIn_store_rowTo rfl 25 (.tmp 2) (.tmp 60) rfl rfl (b + 1) tabZ rfl rfl 25 tabZ F5.out.gt.r1 infoT rfl (tab_all _ _ _ _) ?_) | (refine wpListIn_store_rowTo rfl 47 (.tmp 3) (.tmp 62) rfl rfl (b + 1 + 1) (fltA 13 (24 + 8 * (s : Int))) rfl rfl 47 (fltA 0 0) (F5.out.gt.tab tabZ rfl).r2 infoF rfl (flt_all _ _) ?_))
      exact ⟨(K5.out.trans (setRow_keeps _ (b + 1) tabZ)).trans (setRow_keeps _ (b + 1 + 1) (fltA 13 (24 + 8 * (s : Int)))), ⟨rfl, pre, x, 13, 24 + 8 * (s : Int), rfl, HO.out, HBD2.out, (F5.out.gt.tab tabZ rfl).flt 13 (24 + 8 * (s : Int))⟩, setRow_below (setRow_below (HBL.out.trans B5.out) (by omega) _) (by omega) _⟩
    have d2 : ((oo : Int) != n') = false := by simp [hoff]
    have u5 : IntKind.i64.wrap (nn : Int) = nn := IntWalk.i64_in _ (by omega)
    obtain ⟨k1, k2⟩ := tab_cell F5.out.r5 s hs7
    have kf := tab_free F5.out.r5
    have F6 := Lib.hid (F5.out.off s hs7 n')
    obtain ⟨_, k3⟩ := tab_cell F6.out.r5 s hs7
    have kf2 := tab_free F6.out.r5
    gi_upto_region 17 with fail
    have F7 := Lib.hid (F6.out.cnt s hs7 (nn : Int))
    have K7 := Lib.hid ((K5.out.trans (KeepsOthers.setCell w5 ⟨g + 1, 2 + s, none⟩ (.int .i64 n'))).trans (KeepsOthers.setCell _ ⟨g + 1, 9 + s, none⟩ (.int .i64 (nn : Int))))
    have B7 := Lib.hid ((B5.out.setCell (p := ⟨g + 1, 2 + s, none⟩) (by show b ≤ g + 1; omega) (.int .i64 n')).setCell (p := ⟨g + 1, 9 + s, none⟩) (by show b ≤ g + 1; omega) (.int .i64 (nn : Int)))
    generalize (w5.setCell ⟨g + 1, 2 + s, none⟩ (.int .i64 n')).setCell ⟨g + 1, 9 + s, none⟩ (.int .i64 (nn : Int)) = w7 at *
    clear F5 K5 B5 F6 k1 k2 k3 kf kf2 y0 yf d2
    obtain ⟨p0, p1⟩ := prod_range (show 0 ≤ (nn : Int) by omega) (show (nn : Int) ≤ 1024 by omega) z0 z1
    have HEN := Lib.hid (end_any (fr : Int) 0 (upd o' s n') (upd c' s (nn : Int)) s w7 hs7 (by rw [upd_same]; omega) (by rw [upd_same]; omega))
    rw [upd_same, upd_same] at HEN
    refine wpIn_region_lit ?_
    refine wpListIn_load_row rfl 25 (.tmp 5) rfl (g + 1) rfl 25 (tabA (fr : Int) 0 (upd o' s n') (upd c' s (nn : Int))) (0, 0) _ F7.out.r5 Try.underlying25 rfl infoT ?_
    gi_wp2
    refine ⟨trivial, ?_⟩
    refine (CallsIn.inRound l (callsIn_wide.2 HEN.out)).mono ?_
    rintro e w8 ⟨rfl, hb8⟩
    have hlt7 := F7.out.lt
    have F8 := Lib.hid (F7.out.after hb8)
    have K8 := Lib.hid (K7.out.trans (keeps_of_below hb8))
    have B8 := Lib.hid (B7.out.trans (hb8.mono (show b ≤ w7.heap.size by omega)))
    clear hb8
    obtain ⟨y0, yf⟩ := one_cell F8.out.r6
    gi_wp2
    refine ⟨trivial, ?_⟩
    refine (CallsIn.inRound l (callsIn_wide.2 (align_any (n' + nn * szT s) w8 (by omega) (by omega)))).mono ?_
    rintro e w9 ⟨rfl, rfl⟩
    gi_wp2
    refine ⟨K8.out.trans (KeepsOthers.setCell _ _ _), B8.out.setCell (by show b ≤ g + 1 + 1; omega) _, ⟨HSN.out.2 ⟨HO.out, by omega, by omega⟩, ?_⟩, (HBL.out.trans B8.out).setCell (by show b ≤ g + 1 + 1; omega) _⟩
    rw [HE.out]
    exact F8.out.next _
  case done =>
    rintro D ys W hD rfl ⟨⟨hok, hF⟩, hBl⟩ hK
    have hsx := secX_done hok
    have hokT : okT (cntX xs) 6 := okL_all (okG_okL hok)
    have hn6 := foldT_up (cntX xs) 6 (Nat.le_refl _)
    have hfold := tabT_fold (fr : Int) (cntX xs)
    have hcnt := fold_cnt (cntX xs)
    rw [cntO_X] at hcnt
    have hro := offT_range (cntX xs) 6 hokT
    rw [← hn6] at hro
    have htot : totT (cntX xs) = (foldT (cntX xs) (upT 6)).2.2 + 4 := by rw [hn6]; rfl
    generalize foldT (cntX xs) (upT 6) = st at *
    obtain ⟨o', c', n'⟩ := st
    simp only at hfold hcnt hro htot
    have HFR2 := fun w1 => For_res (fr : Int) (cntX xs) w1
    rw [okB_true hokT, tabR_true hokT, ← hfold, ← hcnt] at HFR2
    have HFOR := Lib.hid HFR2
    have HSX := Lib.hid hsx
    have HTOT := Lib.hid htot
    have HFOLD := Lib.hid hfold
    have hw4 : IntKind.i64.wrap (n' + 4) = n' + 4 := IntWalk.i64_in _ (by omega)
    have hltF := hF.lt
    obtain ⟨y0, yf⟩ := one_cell hF.r6
    have v1 := tab_one hF.r5
    have vf := tab_free hF.r5
    have R5 := Lib.hid (tab_tot hF.r5 (n' + 4))
    have G5 := Lib.hid (hF.gt.far (q := g + 1) (by have := hF.hg; omega) 1 (.int .i64 (n' + 4)))
    have K5 := Lib.hid (KeepsOthers.setCell W ⟨g + 1, 1, none⟩ (.int .i64 (n' + 4)))
    have B5 := Lib.hid (hBl.setCell (p := ⟨g + 1, 1, none⟩) (by show b ≤ g + 1; omega) (.int .i64 (n' + 4)))
    have hz5 : (W.setCell ⟨g + 1, 1, none⟩ (.int .i64 (n' + 4))).heap.size = W.heap.size := by simp
    clear hF hBl hok hsx hokT hn6 hfold hcnt htot HFR2 F0 B4
    gi_upto_region 19 with fail
    generalize W.setCell ⟨g + 1, 1, none⟩ (.int .i64 (n' + 4)) = W5 at *
    clear y0 yf v1 vf
    obtain ⟨z0, z1, z2, z3, z4, z5, z6, z7, z8, z9, z10, z11, z12, z13, z14, z15⟩ := tab_cells R5.out
    gi_wp2
    refine ⟨trivial, ?_⟩
    refine (callsIn_wide.2 (HFOR.out W5)).mono ?_
    rintro e w5 ⟨rfl, hb5⟩
    have s1 := store_new (tabA (fr : Int) (n' + 4) o' c') rfl (tab_all _ _ _ _) 25
    clear z0 z1 z2 z3 z4 z5 z6 z7 z8 z9 z10 z11 z12 z13 z14 z15
    gi_upto_region 20 with fail
    have hb6 := hb5.trans (((Below.refl _ w5).alloc (Nat.le_refl _) (.cells (tabA (fr : Int) (n' + 4) o' c') 25)).mono hb5.size)
    have rq := heap_alloc_new w5 (.cells (tabA (fr : Int) (n' + 4) o' c') 25)
    have G6 := Lib.hid (G5.out.after hb6)
    have K6 := Lib.hid (K5.out.trans (keeps_of_below hb6))
    have B6 := Lib.hid (B5.out.trans (hb6.mono (by rw [hz5]; omega)))
    have R6 := Lib.hid ((hb6.block (g + 1) (by rw [hz5]; omega)).trans R5.out)
    generalize w5.alloc (.cells (tabA (fr : Int) (n' + 4) o' c') 25) = w6 at *
    generalize w5.heap.size = q at *
    clear hb5 hb6 s1 G5 K5 B5 R5 hz5
    obtain ⟨z0, z1, z2, z3, z4, z5, z6, z7, z8, z9, z10, z11, z12, z13, z14, z15⟩ := tab_cells R6.out
    obtain ⟨v0, v1, v2, v3, v4, v5, v6, v7, v8, v9, v10, v11, v12, v13, v14, v15⟩ := tab_cells rq
    clear rq
    obtain ⟨y0, yf⟩ := one_cell G6.out.r0
    have e1 := eq7_lit (o' 0) (o' 1) (o' 2) (o' 3) (o' 4) (o' 5) (o' 6)
    have e2 := eq7_lit (c' 0) (c' 1) (c' 2) (c' 3) (c' 4) (c' 5) (c' 6)
    by_cases hl : n' + 4 = (xs.length : Int)
    case neg =>
      have d1 : ((n' + 4) != (xs.length : Int)) = true := by simpa using hl
      have hE := Lib.hid (getV_len HV.out HSX.out (by rw [HTOT.out]; exact hl))
      gi_upto_region 21 with fail
      clear z0 z1 z2 z3 z4 z5 z6 z7 z8 z9 z10 z11 z12 z13 z14 z15 v0 v1 v2 v3 v4 v5 v6 v7 v8 v9 v10 v11 v12 v13 v14 v15 e1 e2
      gi_wp2_with (first | (refine wpListIn_buildTo rfl 25 #[] rfl (some 97) rfl tabZ (by kernel_rfl) ?_) | (refine wpListIn_store_rowTo rfl 25 (.tmp 2) (.tmp 97) rfl rfl (b + 1) tabZ rfl rfl 25 tabZ G6.out.r1 infoT rfl (tab_all _ _ _ _) ?_) | (refine wpListIn_store_rowTo rfl 47 (.tmp 3) (.tmp 98) rfl rfl (b + 1 + 1) (fltA 11 8) rfl rfl 47 (fltA 0 0) (G6.out.tab tabZ rfl).r2 infoF rfl (flt_all _ _) ?_))
      have KO := (K6.out.trans (setRow_keeps w6 (b + 1) tabZ)).trans (setRow_keeps _ (b + 1 + 1) (fltA 11 8))
      have BF := setRow_below (setRow_below B6.out (show b ≤ b + 1 by omega) tabZ) (show b ≤ b + 1 + 1 by omega) (fltA 11 8)
      have GF := (G6.out.tab tabZ rfl).flt 11 8
      generalize (w6.setRow (b + 1) tabZ).setRow (b + 1 + 1) (fltA 11 8) = Wf at *
      have hK' := KO.same D _ hK rfl
      refine ⟨by simp, .inl ⟨_, _, rfl, run_takeDeferred hK', ?_⟩⟩
      have kr : ∀ r, some D = some r → ∃ o : Obj, Wf.heap[r]? = some o ∧ o.isCells = false := fun r e => by cases e; exact ⟨_, hK', rfl⟩
      have FP := GF.kept (grownBy_putObj' _ D (.deferred none)) kr
      refine ⟨_, FP.results rfl _ rfl rfl, ?_, ?_⟩
      · rw [hE.out, getT_no hE.out (by decide)]; rfl
      · rw [hbw]; exact BF.trans (belowK_b (w := w) (by omega) Wf D _ _ (by omega) hK' rfl rfl)
    have d1 : ((n' + 4) != (xs.length : Int)) = false := by simp [hl]
    have hE := Lib.hid (getV_ok HV.out HSX.out (by rw [HTOT.out]; exact hl))
    have hT := Lib.hid ((getT_ok hE.out).trans ((by rw [← HFR.out] : tabT (numV xs 16 8 : Nat) (cntX xs) = tabT (fr : Int) (cntX xs)).trans HFOLD.out.symm))
    clear hl
    gi_upto_region 22 with fail
    clear z0 z1 z2 z3 z4 z5 z6 z7 z8 z9 z10 z11 z12 z13 z14 z15 v0 v1 v2 v3 v4 v5 v6 v7 v8 v9 v10 v11 v12 v13 v14 v15 e1 e2
    gi_wp2_with (first | (refine wpListIn_load_row rfl 25 (.tmp 5) rfl (g + 1) rfl 25 (tabA (fr : Int) (n' + 4) o' c') (0, 0) _ R6.out Try.underlying25 rfl infoT ?_) | (refine wpListIn_store_rowTo rfl 25 (.tmp 2) (.tmp 99) rfl rfl (b + 1) (tabA (fr : Int) (n' + 4) o' c') rfl rfl 25 tabZ G6.out.r1 infoT rfl (tab_all _ _ _ _) ?_) | (refine wpListIn_store_rowTo rfl 47 (.tmp 3) (.tmp 100) rfl rfl (b + 1 + 1) (fltA 0 0) rfl rfl 47 (fltA 0 0) (G6.out.tab (tabA (fr : Int) (n' + 4) o' c') rfl).r2 infoF rfl (flt_all _ _) ?_))
    have KO := (K6.out.trans (setRow_keeps w6 (b + 1) (tabA (fr : Int) (n' + 4) o' c'))).trans (setRow_keeps _ (b + 1 + 1) (fltA 0 0))
    have BF := setRow_below (setRow_below B6.out (show b ≤ b + 1 by omega) (tabA (fr : Int) (n' + 4) o' c')) (show b ≤ b + 1 + 1 by omega) (fltA 0 0)
    have GF := (G6.out.tab (tabA (fr : Int) (n' + 4) o' c') rfl).flt 0 0
    generalize (w6.setRow (b + 1) (tabA (fr : Int) (n' + 4) o' c')).setRow (b + 1 + 1) (fltA 0 0) = Wf at *
    have hK' := KO.same D _ hK rfl
    refine ⟨by simp, .inl ⟨_, _, rfl, run_takeDeferred hK', ?_⟩⟩
    have kr : ∀ r, some D = some r → ∃ o : Obj, Wf.heap[r]? = some o ∧ o.isCells = false := fun r e => by cases e; exact ⟨_, hK', rfl⟩
    have FP := GF.kept (grownBy_putObj' _ D (.deferred none)) kr
    refine ⟨_, FP.results rfl _ rfl rfl, ?_, ?_⟩
    · rw [hE.out, hT.out]; rfl
    · rw [hbw]; exact BF.trans (belowK_b (w := w) (by omega) Wf D _ _ (by omega) hK' rfl rfl)
  case stop =>
    rintro D d pre W hD ⟨k, hk1, hk6, rfl⟩ ⟨⟨rfl, q, x, v, z, hq, hno, hbad, hG⟩, hB⟩ hK
    obtain ⟨hE, hv⟩ := secX_bad hk1 hk6 hq.symm hno hbad
    have hE2 := Lib.hid (getV_sec HV.out hE hv)
    have HF := Lib.hid hG
    clear hG hE hq hno hbad
    gi_wp2
    refine ⟨by simp, .inl ⟨_, _, rfl, run_takeDeferred hK, ?_⟩⟩
    have kr : ∀ r, some D = some r → ∃ o : Obj, W.heap[r]? = some o ∧ o.isCells = false := fun r e => by cases e; exact ⟨_, hK, rfl⟩
    have FP := HF.out.kept (grownBy_putObj' _ D (.deferred none)) kr
    refine ⟨_, FP.results rfl _ rfl rfl, ?_, ?_⟩
    · rw [hE2.out, getT_no hE2.out hv]; rfl
    · rw [hbw]; exact hB.trans (belowK_b (w := w) (by omega) W D _ _ (by omega) hK rfl rfl)

theorem Get_any (B : Nat) (A : Option Addr) (c : Nat) (xs : List UInt8) (w : World) (hR : Rd w B A xs) (hB : B ≤ w.heap.size) (hc : xs.length ≤ c) (hn : c ≤ 9223372036854775807) :
    Calls Try.prog 19 #[.slice A xs.length c] w (GetOK xs w) := by
  by_cases hx : (headV xs).1 = 0
  · refine Get_main B A c xs w hR hB hc hn ?_
    revert hx
    unfold headV
    split
    · intro h; simp at h
    split
    · intro h; simp at h
    split
    · intro h; simp at h
    split
    · intro h; simp at h
    split
    · intro h; simp at h
    split
    · intro h; simp at h
    split
    · intro h; simp at h
    intro _; rfl
  · exact Get_fault B A c xs w hR hB hc hn hx
end Go.Proofs.Ythnognjcbjgkbaa
