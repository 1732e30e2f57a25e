/-
  Put: a builder takes the header of a layout.
-/
import Derived.Test.YthnognjcbjgkbaaTab20
import Derived.Test.YthnognjcbjgkbaaTab14
import Derived.Test.YthnognjcbjgkbaaBOk
namespace Go.Proofs.Ythnognjcbjgkbaa
set_option linter.unusedVariables false
open Go.RowKit Go.Shelf
attribute [local go_sem] Oper.semAt_some atS upS

/-- Put under way: its two variables at b, the builder at g -/
structure PuW (w : World) (b g : Nat) (A : Option Addr) (T : Array Value) (zs : List UInt8) (W : World) : Prop where
  grew : Grew w g A zs W
  p : W.heap[b]? = some (.cells #[.pointer (some ⟨g, 0, none⟩)] 56 (0, 0))
  t : W.heap[b + 1]? = some (.cells T 25 (0, 0))
  low : w.heap.size ≤ b ∧ g < w.heap.size
section
variable {w W W' : World} {b g : Nat} {A : Option Addr} {T : Array Value} {zs ys : List UInt8}
theorem PuW.lt (h : PuW w b g A T zs W) : b + 2 ≤ W.heap.size := by have := (Array.getElem?_eq_some_iff.1 h.t).1; omega
theorem PuW.open_ (h : PuW w b g A T zs W) : ∃ A1 c1, Bld W g A1 c1 zs ∧ ∀ W' ys, Grew W g A1 ys W' → PuW w b g A T ys W' ∧ KeepsOthers W W' := by
  obtain ⟨A1, c1, hb, hc, hr⟩ := h.grew
  refine ⟨A1, c1, hb, fun W' ys hg => ⟨⟨Grew.next hc hr hg, ?_, ?_, h.low⟩, ?_⟩⟩
  all_goals obtain ⟨A2, c2, hb2, hc2, hr2⟩ := hg
  · refine hc2.obj h.p fun hs => ?_
    rcases hs with e | e
    · have := h.low; omega
    · obtain ⟨cur, hcur⟩ := hb.own.type _ e
      rw [h.p] at hcur; injection hcur with hcur; injection hcur with _ ht; exact absurd ht (by decide)
  · refine hc2.obj h.t fun hs => ?_
    rcases hs with e | e
    · have := h.low; omega
    · obtain ⟨cur, hcur⟩ := hb.own.type _ e
      rw [h.t] at hcur; injection hcur with hcur; injection hcur with _ ht; exact absurd ht (by decide)
  · refine ⟨hc2.size, fun k o hk ho => hc2.obj hk fun hs => ?_⟩
    rcases hs with e | e
    · subst e; rw [hb.obj] at hk; cases hk; cases ho
    · obtain ⟨cur, hcur⟩ := hb.own.type _ e
      rw [hcur] at hk; cases hk; cases ho
theorem PuW.after (h : PuW w b g A T zs W) (hb : Below W.heap.size W W') : PuW w b g A T zs W' := by
  obtain ⟨A1, c1, h1, h2⟩ := h.open_
  refine (h2 W' zs ⟨A1, c1, h1.keep (S := fun _ => False) (Chg.of_below hb) (fun h => h) (fun _ _ h => h), Chg.of_below hb, fun k hk => .inl hk⟩).1
theorem PuW.kept {row : Option Nat} (h : PuW w b g A T zs W) (hg : W.grownBy W' row) (hr : ∀ r, row = some r → w.heap.size ≤ r ∧ ∃ o : Obj, W.heap[r]? = some o ∧ o.isCells = false) : PuW w b g A T zs W' := by
  have up : ∀ (k : Nat) (cs : Array Value) (t : Nat) (fr : Nat × Nat), W.heap[k]? = some (Obj.cells cs t fr) → W'.heap[k]? = some (Obj.cells cs t fr) := fun k cs t fr hk =>
    (hg.block k (Array.getElem?_eq_some_iff.1 hk).1 (fun e => by obtain ⟨_, o, ho, hc⟩ := hr k e.symm; rw [hk] at ho; cases ho; cases hc)).trans hk
  obtain ⟨A1, c1, hb, hc, hrr⟩ := h.grew
  refine ⟨⟨A1, c1, ⟨up _ _ _ _ hb.obj, ?_⟩, hc.grown hg (fun k e => .inr (hr k e).1), hrr⟩, up _ _ _ _ h.p, up _ _ _ _ h.t, h.low⟩
  refine hb.own.keep (S := fun k => row = some k) ⟨hg.os, hg.tape, hg.output, hg.size, fun k hk hn => hg.block k hk (fun e => hn e.symm)⟩ (fun k hk e => ?_)
  obtain ⟨_, o, ho, hcc⟩ := hr k e
  obtain ⟨cur, hcur⟩ := hb.own.type k hk
  rw [hcur] at ho; cases ho; cases hcc
end

/-! ### a region that draws: reads, and one call behind them all -/
structure CallSt (md : Region.Mode) (ops : Array Oper) (N z : Nat) (W : World) (Post : World → Prop) (L : Array Bool) (w : World) : Prop where
  size : L.size = N
  dep : ∀ i j, j < N → Came L i = true → waitsOn md ops i j = true → Came L j = true
  all : Came L z = true → ∀ j, j < N → Came L j = true
  st : (Came L z = false ∧ w = W) ∨ (Came L z = true ∧ Post w)
theorem Came_le {L : Array Bool} {i k : Nat} (h : Came L i = true) : Came (Next L k) i = true := by
  by_cases e : k = i
  · subst e
    cases hh : L.getD k true with
    | false => exact Came_same hh
    | true =>
      unfold Came Next at *
      simp only [Array.getD_eq_getD_getElem?, Array.getElem?_setIfInBounds_self] at *
      split <;> simp_all
  · rw [Came_ne e]; exact h
section
variable {md : Region.Mode} {ops : Array Oper} {N z : Nat} {W w : World} {Post : World → Prop} {L : Array Bool}
theorem CallSt.start (hz : z < N) : CallSt md ops N z W Post (Array.replicate N false) W := by
  have e : ∀ i, Came (Array.replicate N false) i = false := fun i => by unfold Came; by_cases hi : i < N <;> simp [hi]
  exact ⟨by simp, fun i j _ hi => (by rw [e i] at hi; cases hi), fun h => (by rw [e z] at h; cases h), .inl ⟨e z, rfl⟩⟩
theorem CallSt.deps (h : CallSt md ops N z W Post L w) {k : Nat} (hr : Rdy md ops k L) : ∀ i j, j < N → Came (Next L k) i = true → waitsOn md ops i j = true → Came (Next L k) j = true := by
  intro i j hj hi hw
  by_cases e : k = i
  · subst e
    exact Came_le (came_of_ready hw hr (by rw [h.size]; exact hj))
  · rw [Came_ne e] at hi
    exact Came_le (h.dep i j hj hi hw)
theorem CallSt.next (h : CallSt md ops N z W Post L w) {j : Nat} (hr : Rdy md ops j L) (hn : z ≠ j) : CallSt md ops N z W Post (Next L j) w ∧ w = W := by
  have ho := Open.of_ready hr
  have hf : Came L z = false := by
    cases e : Came L z with
    | false => rfl
    | true =>
      have h1 := h.all e j (by rw [← h.size]; exact ho.lt)
      rw [Came_open ho] at h1; cases h1
  have hz : Came (Next L j) z = false := by rw [Came_ne (Ne.symm hn)]; exact hf
  have hw : w = W := by
    rcases h.st with h1 | h1
    · exact h1.2
    · rw [hf] at h1; cases h1.1
  exact ⟨⟨by rw [Next_size]; exact h.size, h.deps hr, fun e => (by rw [hz] at e; cases e), .inl ⟨hz, hw⟩⟩, hw⟩
theorem CallSt.call (h : CallSt md ops N z W Post L w) (hr : Rdy md ops z L) (ha : ∀ j, j < N → j ≠ z → Came L j = true) : w = W ∧ ∀ w', Post w' → CallSt md ops N z W Post (Next L z) w' := by
  have ho := Open.of_ready hr
  have hw : w = W := by
    rcases h.st with h1 | h1
    · exact h1.2
    · rw [Came_open ho] at h1; cases h1.1
  refine ⟨hw, fun w' hp => ⟨by rw [Next_size]; exact h.size, h.deps hr, fun _ j hj => ?_, .inr ⟨Came_same ho, hp⟩⟩⟩
  by_cases e : j = z
  · subst e; exact Came_same ho
  · exact Came_le (ha j hj e)
theorem CallSt.done (h : CallSt md ops N z W Post L w) (hz : Came L z = true) : Post w := by
  rcases h.st with h1 | h1
  · rw [hz] at h1; cases h1.1
  · exact h1.2
theorem wpIn_region_call {F : Fence} {n : Nat} {P : Program} {id : Nat} {Q : Exit → Act → World → Prop} {a : Act} {w : World} {l : List Oper} (z : Nat) (Post : World → Prop) (hm : P.follows .mixedOrders = true) (hnd : noDefer l = true) (hB : Region.lexB .any l.toArray = true) (hz : z < l.length)
    (h : lexO F n P .any l.toArray (CallSt .any l.toArray l.length z w.drew Post) (fun L a' => ∀ w', CallSt .any l.toArray l.length z w.drew Post L w' → Q .normal a' w') 0 (Array.replicate l.length false) l a) : (Code.region id l.toArray true).wpIn F n P Q a w :=
  wpIn_region_ord _ hm hnd hB (CallSt.start hz) h
end
theorem PuW.zero {w W W' : World} {b g : Nat} {A : Option Addr} {T : Array Value} {zs ys : List UInt8} (h : PuW w b g A T zs W) (h' : PuW w b g A T ys W') (hs : W.heap.size ≤ W'.heap.size) : Below 0 W W' := by
  obtain ⟨_, _, _, hc, _⟩ := h.grew
  obtain ⟨_, _, _, hc', _⟩ := h'.grew
  exact ⟨hc'.os.trans hc.os.symm, hc'.tape.trans hc.tape.symm, hc'.output.trans hc.output.symm, hs, fun k hk => absurd hk (Nat.not_lt_zero k)⟩
/-- the entries of the sections that have been written -/
def entsL (o c : Nat → Int) (pre : List (Fin 6)) : List UInt8 := pre.flatMap fun k => leB (o (k.val + 1)).toNat 4 ++ leB (c (k.val + 1)).toNat 4
theorem entsL_snoc (o c : Nat → Int) (pre : List (Fin 6)) (x : Fin 6) : entsL o c (pre ++ [x]) = entsL o c pre ++ leB (o (x.val + 1)).toNat 4 ++ leB (c (x.val + 1)).toNat 4 := by simp [entsL]
theorem entsL_all (o c : Nat → Int) : entsL o c (upT 6) = entsB o c 6 := by
  rw [upT_all]
  simp [entsL, entsB]
  rfl
theorem entsL_len (o c : Nat → Int) (pre : List (Fin 6)) : (entsL o c pre).length = 8 * pre.length := by
  induction pre with
  | nil => rfl
  | cons x r ih =>
    show ((leB _ 4 ++ leB _ 4) ++ entsL o c r).length = _
    rw [List.length_append, List.length_append, leB_length, leB_length, ih, List.length_cons]
    omega


set_option maxRecDepth 100000 in
set_option maxHeartbeats 1000000 in
theorem Put_any (g c0 : Nat) (A : Option Addr) (xs : List UInt8) (tot fr : Nat) (o c : Nat → Int) (w : World) (hb : Bld w g A c0 xs) (hl : xs.length ≤ 1000000) (ht : tot < 4294967296) (hf : fr < 18446744073709551616) (h0 : ∀ s, s < 7 → 0 ≤ o s ∧ o s < 4294967296) (h1 : ∀ s, s < 7 → 0 ≤ c s ∧ c s < 4294967296) :
    Calls Try.prog 24 #[.pointer (some ⟨g, 0, none⟩), .agg (tabA (fr : Int) (tot : Int) o c)] w fun e w' => e = .returned (.tuple #[]) ∧ Grew w g A (xs ++ hdrB tot fr o c) w' := by
  refine (callsIn_wide (n := 3)).1 ?_
  refine callsIn_of_wp_marks Try.func24 rfl trivial ?_ rfl
  simp only [Try.ntmps24, List.size_toArray, List.length_cons, List.length_nil, Nat.reduceAdd, Nat.reduceSub, Array.replicate_succ, Array.replicate_zero, List.push_toArray, List.append_toArray, List.nil_append, List.cons_append]
  have HL := Lib.hid hl
  have H0 := Lib.hid h0
  have H1 := Lib.hid h1
  have hp0 : PuW w w.heap.size g A (tabA (fr : Int) (tot : Int) o c) xs ((w.alloc (.cells #[.pointer (some ⟨g, 0, none⟩)] 56)).alloc (.cells (tabA (fr : Int) (tot : Int) o c) 25)) := by
    have r1 := heap_alloc_new (w.alloc (.cells #[.pointer (some ⟨g, 0, none⟩)] 56)) (.cells (tabA (fr : Int) (tot : Int) o c) 25)
    rw [World.size_alloc] at r1
    exact ⟨⟨A, c0, (hb.alloc _).alloc _, ((Chg.refl _ w).alloc _).alloc _, fun k hk => .inl hk⟩, (Below.heap_alloc _ _ _ (by simp)).trans (heap_alloc_new w _), r1, Nat.le_refl _, hb.lt⟩
  have P0 := Lib.hid hp0
  clear hb hl h0 h1 hp0
  have ew : IntKind.u32.wrap (tot : Int) = (tot : Int) := IntWalk.u32_in _ (by omega)
  gi_upto_region 1 with fail
  generalize (w.alloc (.cells #[.pointer (some ⟨g, 0, none⟩)] 56)).alloc (.cells (tabA (fr : Int) (tot : Int) o c) 25) = w0 at *
  generalize hq : w.heap.size = b at *
  have HQ := Lib.hid hq
  clear hq
  have p0 := (one_cell P0.out.p).1
  have kc := fun (w : World) (C : Array Value) (n c : Nat) => Lib.run_convert_bytes_const (P := Try.prog) w 44 5 C n c Try.underlying44 Try.underlying5
  gi_wp2
  refine ⟨trivial, ?_⟩
  obtain ⟨A1, c1, hb1, hn1⟩ := (P0.out.after ((Below.refl _ w0).alloc (Nat.le_refl _) (.cells #[.int .u8 70, .int .u8 78, .int .u8 83, .int .u8 84] U8t (4, 5)))).open_
  refine (callsIn_wide.2 (Add_any g c1 A1 xs (w0.heap.size + 1) (some ⟨w0.heap.size, 0, none⟩) 4 4 [70, 78, 83, 84] _ hb1 rfl (rd_marked w0 #[.int .u8 70, .int .u8 78, .int .u8 83, .int .u8 84] (4, 5) [70, 78, 83, 84] rfl) (by have := HL.out; simp; omega))).mono ?_
  rintro e w1 ⟨rfl, hG⟩
  have P1 := Lib.hid (hn1 _ _ hG).1
  clear hb1 hn1 hG p0 P0 kc
  have p0 := (one_cell P1.out.p).1
  gi_wp2
  refine ⟨trivial, ?_⟩
  obtain ⟨A1, c1, hb1, hn1⟩ := P1.out.open_
  refine (callsIn_wide.2 (putU16 g c1 A1 (xs ++ [70, 78, 83, 84]) 1 w1 hb1 (by omega) (by have := HL.out; simp [leB_length]; omega))).mono ?_
  rintro e w2 ⟨rfl, hG⟩
  have P2 := Lib.hid (hn1 _ _ hG).1
  clear hb1 hn1 hG p0 P1
  have p0 := (one_cell P2.out.p).1
  gi_wp2
  refine ⟨trivial, ?_⟩
  obtain ⟨A1, c1, hb1, hn1⟩ := P2.out.open_
  refine (callsIn_wide.2 (putU16 g c1 A1 ((xs ++ [70, 78, 83, 84]) ++ leB 1 2) 80 w2 hb1 (by omega) (by have := HL.out; simp [leB_length]; omega))).mono ?_
  rintro e w3 ⟨rfl, hG⟩
  have P3 := Lib.hid (hn1 _ _ hG).1
  clear hb1 hn1 hG p0 P2
  have p0 := (one_cell P3.out.p).1
  have k0 := tab_one P3.out.t
  gi_wp2
  refine ⟨trivial, ?_⟩
  obtain ⟨A1, c1, hb1, hn1⟩ := P3.out.open_
  refine (callsIn_wide.2 (putU32 g c1 A1 (((xs ++ [70, 78, 83, 84]) ++ leB 1 2) ++ leB 80 2) tot w3 hb1 (by omega) (by have := HL.out; simp [leB_length]; omega))).mono ?_
  rintro e w4 ⟨rfl, hG⟩
  have P4 := Lib.hid (hn1 _ _ hG).1
  clear hb1 hn1 hG p0 P3 k0
  have p0 := (one_cell P4.out.p).1
  gi_wp2
  refine ⟨trivial, ?_⟩
  obtain ⟨A1, c1, hb1, hn1⟩ := P4.out.open_
  refine (callsIn_wide.2 (putU32 g c1 A1 ((((xs ++ [70, 78, 83, 84]) ++ leB 1 2) ++ leB 80 2) ++ leB tot 4) 0 w4 hb1 (by omega) (by have := HL.out; simp [leB_length]; omega))).mono ?_
  rintro e w5 ⟨rfl, hG⟩
  have P5 := Lib.hid (hn1 _ _ hG).1
  clear hb1 hn1 hG p0 P4
  have p0 := (one_cell P5.out.p).1
  have k0 := (tab_cells P5.out.t).1
  gi_wp2
  refine ⟨trivial, ?_⟩
  obtain ⟨A1, c1, hb1, hn1⟩ := P5.out.open_
  refine (callsIn_wide.2 (putU64 g c1 A1 (((((xs ++ [70, 78, 83, 84]) ++ leB 1 2) ++ leB 80 2) ++ leB tot 4) ++ leB 0 4) fr w5 hb1 (by omega) (by have := HL.out; simp [leB_length]; omega))).mono ?_
  rintro e w6 ⟨rfl, hG⟩
  have P6 := Lib.hid (hn1 _ _ hG).1
  clear hb1 hn1 hG p0 P5 k0
  have p0 := (one_cell P6.out.p).1
  gi_wp2
  refine ⟨trivial, ?_⟩
  obtain ⟨A1, c1, hb1, hn1⟩ := P6.out.open_
  refine (callsIn_wide.2 (putU64 g c1 A1 ((((((xs ++ [70, 78, 83, 84]) ++ leB 1 2) ++ leB 80 2) ++ leB tot 4) ++ leB 0 4) ++ leB fr 8) 0 w6 hb1 (by omega) (by have := HL.out; simp [leB_length]; omega))).mono ?_
  rintro e w7 ⟨rfl, hG⟩
  have P7 := Lib.hid (hn1 _ _ hG).1
  clear hb1 hn1 hG p0 P6
  have ez : (((((((xs ++ [70, 78, 83, 84]) ++ leB 1 2) ++ leB 80 2) ++ leB tot 4) ++ leB 0 4) ++ leB fr 8) ++ leB 0 8) = xs ++ fixB tot fr := by simp [fixB]; rfl
  rw [ez] at P7
  clear ez
  gi_wp2
  refine ⟨trivial, ?_⟩
  refine (callsIn_wide.2 (sections_any _)).mono ?_
  rintro e w' ⟨rfl, rfl⟩
  have hfol : Try.prog.follows Departure.mixedOrders = true := by kernel_rfl
  have hlt := P7.out.lt
  have hlow := P7.out.low
  gi_wp2
  refine wpIn_rangeFunc_ownF rfl (by omega) (gf := 45) (lb := #[]) rfl trivial (enters_of Try.func45 (by kernel_rfl) rfl)
    (sections_stops 2 0 (by omega) _) belowK_t (belowK_b (by omega)) (Below.refl _ _) (fun _ => rfl)
    (fun pre W => PuW w b g A (tabA (fr : Int) (tot : Int) o c) (xs ++ fixB tot fr ++ entsL o c pre) W)
    (fun d pre W => False)
    (fun pre W W' row hs hg hr => hs.kept hg (fun r e => ⟨by have := (hr r e).1; have := HQ.out; omega, (hr r e).2⟩))
    (fun d => fun _ _ _ _ hs _ _ => hs)
    (by show PuW w b g A _ (xs ++ fixB tot fr ++ []) w7; rw [List.append_nil]; exact P7.out)
    (fun x => { tmps := #[.pointer (some ⟨g, 0, none⟩), .agg (tabA (fr : Int) (tot : Int) o c), .pointer (some ⟨b, 0, none⟩), .pointer (some ⟨b + 1, 0, none⟩), .int .i64 ((x.val : Int) + 1), .pointer (some ⟨g, 0, none⟩), .slice (some ⟨w0.heap.size, 0, none⟩) 4 4, .slice (some ⟨w0.heap.size, 0, none⟩) 4 4, .tuple #[], .pointer (some ⟨g, 0, none⟩), .tuple #[], .pointer (some ⟨g, 0, none⟩), .tuple #[], .pointer (some ⟨g, 0, none⟩), .pointer (some ⟨b + 1, 1, none⟩), .int .i64 tot, .int .u32 tot, .tuple #[], .pointer (some ⟨g, 0, none⟩), .tuple #[], .pointer (some ⟨g, 0, none⟩), .pointer (some ⟨b + 1, 0, none⟩), .int .u64 fr, .tuple #[], .pointer (some ⟨g, 0, none⟩), .tuple #[], .func (.func 45) #[] #[], .int .i64 ((x.val : Int) + 1), .int .i64 (32 + 8 * (x.val : Int)), undef, undef, undef, undef, undef, undef, undef, undef, undef, undef, undef, undef, undef, undef], defers := [] }) ?assign ?body ?done ?stop
  case assign =>
    intro l x W K hK
    gi_wp2
    exact hK
  case body =>
    intro l pre x W hF hlen
    obtain ⟨s, hs⟩ : ∃ s : Nat, s = x.val + 1 := ⟨_, rfl⟩
    have hs7 : s < 7 := by omega
    have es : ((x.val : Int) + 1) = (s : Int) := by omega
    have hs7i : (s : Int) < 7 := by omega
    obtain ⟨xo, hxo⟩ := Int.eq_ofNat_of_zero_le (H0.out s hs7).1
    have hol : xo < 4294967296 := by have := (H0.out s hs7).2; omega
    obtain ⟨xc, hxc⟩ := Int.eq_ofNat_of_zero_le (H1.out s hs7).1
    have hcl : xc < 4294967296 := by have := (H1.out s hs7).2; omega
    obtain ⟨Z0, hZ0⟩ : ∃ Z : List UInt8, Z = xs ++ fixB tot fr ++ entsL o c pre := ⟨_, rfl⟩
    obtain ⟨Z1, hZ1⟩ : ∃ Z : List UInt8, Z = Z0 ++ leB xo 4 := ⟨_, rfl⟩
    obtain ⟨Z2, hZ2⟩ : ∃ Z : List UInt8, Z = Z1 ++ leB xc 4 := ⟨_, rfl⟩
    have hF : PuW w b g A (tabA (fr : Int) (tot : Int) o c) Z0 W := by rw [hZ0]; exact hF
    have HX : Hid (entsL o c (pre ++ [x]) = entsL o c pre ++ leB xo 4 ++ leB xc 4) := by
      show _ = _
      rw [entsL_snoc, ← hs, hxo, hxc]; rfl
    have HLL : Hid ((xs ++ fixB tot fr ++ entsL o c pre).length ≤ 1000100) := by
      show _ ≤ _
      have := HL.out
      rw [List.length_append, List.length_append, fixB_len, entsL_len]; omega
    have LZ0 : Hid (Z0.length ≤ 1000100) := by show _ ≤ _; rw [hZ0]; exact HLL.out
    have LZ1 : Hid (Z1.length ≤ 1000200) := by have := LZ0.out; show _ ≤ _; rw [hZ1, List.length_append, leB_length]; omega
    have HZE : Hid (Z2 = xs ++ fixB tot fr ++ entsL o c (pre ++ [x])) := by show _ = _; rw [hZ2, hZ1, hZ0, HX.out]; simp
    have HZ1 := Lib.hid hZ1
    have HZ2 := Lib.hid hZ2
    clear hZ0 hZ1 hZ2 HX HLL
    have u1 : IntKind.u32.wrap (xo : Int) = (xo : Int) := IntWalk.u32_in _ (by omega)
    have u2 : IntKind.u32.wrap (xc : Int) = (xc : Int) := IntWalk.u32_in _ (by omega)
    try dsimp only
    rw [es]
    clear hs es
    have hF1d := (hF).after (Below.drew' (Below.refl _ W))
    obtain ⟨A1, c1, hb1, hn1⟩ := hF1d.open_
    have p0 := (one_cell hF1d.p).1
    have k0 := (tab_cell hF1d.t s hs7).1
    rw [hxo] at k0
    gi_wp2
    refine wpIn_region_call 6 (fun w' => Grew W.drew g A1 Z1 w') hfol rfl (by kernel_rfl) (by decide) ?_
    refine lexO_step (fun K hK => ?_); go_simp; refine ⟨.pointer (some ⟨g, 0, none⟩), fun L w' hL h => ?_, hK _ ?_⟩
    · obtain ⟨h2, rfl⟩ := h.next hL (by decide)
      rw [p0]; exact ⟨rfl, h2⟩
    clear hK K
    (refine lexO_step (fun K hK => ?_); go_simp; refine ⟨_, fun L w' hL h => ⟨rfl, (h.next hL (by decide)).1⟩, hK _ ?_⟩; clear hK K)
    (refine lexO_step (fun K hK => ?_); go_simp; refine ⟨_, fun L w' hL h => ⟨rfl, (h.next hL (by decide)).1⟩, hK _ ?_⟩; clear hK K)
    (refine lexO_step (fun K hK => ?_); go_simp; refine ⟨_, fun L w' hL h => ⟨rfl, (h.next hL (by decide)).1⟩, hK _ ?_⟩; clear hK K)
    refine lexO_step (fun K hK => ?_); go_simp; refine ⟨.int .i64 (xo : Int), fun L w' hL h => ?_, hK _ ?_⟩
    · obtain ⟨h2, rfl⟩ := h.next hL (by decide)
      rw [k0]; exact ⟨rfl, h2⟩
    clear hK K
    (refine lexO_step (fun K hK => ?_); go_simp; refine ⟨_, fun L w' hL h => ⟨rfl, (h.next hL (by decide)).1⟩, hK _ ?_⟩; clear hK K)
    refine lexO_step (fun K hK => ?_); go_simp; refine ⟨.tuple #[], fun L w' hL h => ⟨trivial, ?_⟩, hK _ ?_⟩
    · have d0 : Came L 0 = true := came_of_ready (by kernel_rfl) hL (by rw [h.size]; decide)
      have d5 : Came L 5 = true := came_of_ready (by kernel_rfl) hL (by rw [h.size]; decide)
      have d4 := h.dep 5 4 (by decide) d5 (by kernel_rfl)
      have d3 := h.dep 4 3 (by decide) d4 (by kernel_rfl)
      have d2 := h.dep 3 2 (by decide) d3 (by kernel_rfl)
      have d1 := h.dep 3 1 (by decide) d3 (by kernel_rfl)
      obtain ⟨h2, h3⟩ := h.call hL (fun j hj hne => by
        have hj7 : j < 7 := hj
        have : j = 0 ∨ j = 1 ∨ j = 2 ∨ j = 3 ∨ j = 4 ∨ j = 5 := by omega
        rcases this with rfl | rfl | rfl | rfl | rfl | rfl <;> assumption)
      subst h2
      exact (CallsIn.inRound l (callsIn_wide.2 (putU32 g c1 A1 Z0 xo W.drew hb1 (by omega) (by have := LZ0.out; omega)))).mono (fun e w'' ⟨he, hw⟩ => ⟨he, h3 _ (HZ1.out ▸ hw)⟩)
    clear hK K
    refine lexO_nil ?_
    intro W5 h5
    have hG1 := hn1 _ _ (h5.done rfl)
    clear h5 p0 k0
    have hF2d := (hG1.1).after (Below.drew' (Below.refl _ W5))
    obtain ⟨A2, c2, hb2, hn2⟩ := hF2d.open_
    have p0 := (one_cell hF2d.p).1
    have k0 := (tab_cell hF2d.t s hs7).2
    rw [hxc] at k0
    gi_wp2
    refine wpIn_region_call 6 (fun w' => Grew W5.drew g A2 Z2 w') hfol rfl (by kernel_rfl) (by decide) ?_
    refine lexO_step (fun K hK => ?_); go_simp; refine ⟨.pointer (some ⟨g, 0, none⟩), fun L w' hL h => ?_, hK _ ?_⟩
    · obtain ⟨h2, rfl⟩ := h.next hL (by decide)
      rw [p0]; exact ⟨rfl, h2⟩
    clear hK K
    (refine lexO_step (fun K hK => ?_); go_simp; refine ⟨_, fun L w' hL h => ⟨rfl, (h.next hL (by decide)).1⟩, hK _ ?_⟩; clear hK K)
    (refine lexO_step (fun K hK => ?_); go_simp; refine ⟨_, fun L w' hL h => ⟨rfl, (h.next hL (by decide)).1⟩, hK _ ?_⟩; clear hK K)
    (refine lexO_step (fun K hK => ?_); go_simp; refine ⟨_, fun L w' hL h => ⟨rfl, (h.next hL (by decide)).1⟩, hK _ ?_⟩; clear hK K)
    refine lexO_step (fun K hK => ?_); go_simp; refine ⟨.int .i64 (xc : Int), fun L w' hL h => ?_, hK _ ?_⟩
    · obtain ⟨h2, rfl⟩ := h.next hL (by decide)
      rw [k0]; exact ⟨rfl, h2⟩
    clear hK K
    (refine lexO_step (fun K hK => ?_); go_simp; refine ⟨_, fun L w' hL h => ⟨rfl, (h.next hL (by decide)).1⟩, hK _ ?_⟩; clear hK K)
    refine lexO_step (fun K hK => ?_); go_simp; refine ⟨.tuple #[], fun L w' hL h => ⟨trivial, ?_⟩, hK _ ?_⟩
    · have d0 : Came L 0 = true := came_of_ready (by kernel_rfl) hL (by rw [h.size]; decide)
      have d5 : Came L 5 = true := came_of_ready (by kernel_rfl) hL (by rw [h.size]; decide)
      have d4 := h.dep 5 4 (by decide) d5 (by kernel_rfl)
      have d3 := h.dep 4 3 (by decide) d4 (by kernel_rfl)
      have d2 := h.dep 3 2 (by decide) d3 (by kernel_rfl)
      have d1 := h.dep 3 1 (by decide) d3 (by kernel_rfl)
      obtain ⟨h2, h3⟩ := h.call hL (fun j hj hne => by
        have hj7 : j < 7 := hj
        have : j = 0 ∨ j = 1 ∨ j = 2 ∨ j = 3 ∨ j = 4 ∨ j = 5 := by omega
        rcases this with rfl | rfl | rfl | rfl | rfl | rfl <;> assumption)
      subst h2
      exact (CallsIn.inRound l (callsIn_wide.2 (putU32 g c2 A2 Z1 xc W5.drew hb2 (by omega) (by have := LZ1.out; omega)))).mono (fun e w'' ⟨he, hw⟩ => ⟨he, h3 _ (HZ2.out ▸ hw)⟩)
    clear hK K
    refine lexO_nil ?_
    intro W6 h5
    have hG2 := hn2 _ _ (h5.done rfl)
    clear h5 p0 k0
    gi_wp2
    refine ⟨((KeepsOthers.drew W).trans hG1.2).trans ((KeepsOthers.drew W5).trans hG2.2), hF.zero hG2.1 ?_, ?_⟩
    · exact Nat.le_trans hG1.2.size hG2.2.size
    · show PuW w b g A _ (xs ++ fixB tot fr ++ entsL o c (pre ++ [x])) W6
      rw [← HZE.out]; exact hG2.1
  case done =>
    rintro D xs' W hD rfl hF hK
    have hF2 : PuW w b g A (tabA (fr : Int) (tot : Int) o c) (xs ++ fixB tot fr ++ entsL o c (upT 6)) W := hF
    rw [entsL_all, List.append_assoc] at hF2
    have HF := Lib.hid hF2
    clear hF hF2
    gi_wp2
    refine ⟨by simp, .inl ⟨_, _, rfl, run_takeDeferred hK, ?_⟩⟩
    refine ⟨.tuple #[], by simp [results, Try.results24, go_sem], rfl, ?_⟩
    exact (HF.out.kept (grownBy_putObj' W D _) (fun r e => by cases e; exact ⟨by have := HQ.out; omega, _, hK, rfl⟩)).grew
  case stop =>
    rintro D d pre W hD _ h hK
    exact h.elim
end Go.Proofs.Ythnognjcbjgkbaa
