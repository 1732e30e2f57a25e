/-
  What the law CrcSums computes: true.
-/
import Derived.Test.YtkpdeldegdngaaaCrc10
import Derived.Test.YtkpdeldegdngaaaAlive02
import Derived.Test.YtkpdeldegdngaaaRowIn
import Derived.Great.BuildSlice
namespace Go.Proofs.Ytkpdeldegdngaaa
set_option linter.unusedVariables false
open Go.RowKit Go.Shelf

theorem setRow_new (W : World) (old cs : Array Value) (t : Nat) : (W.alloc (.cells old t)).setRow W.heap.size cs = W.alloc (.cells cs t) := by
  have h : ((W.alloc (.cells old t)).setRow W.heap.size cs).heap = (W.alloc (.cells cs t)).heap := by
    apply Array.ext_getElem?
    intro k
    by_cases e : k = W.heap.size
    · subst e
      rw [setRow_heap _ _ old cs t (0, 0) (heap_alloc_new W _), heap_alloc_new]
    · rw [setRow_other _ _ _ _ e]
      by_cases hk : k < W.heap.size
      · rw [Below.heap_alloc _ _ _ hk, Below.heap_alloc _ _ _ hk]
      · rw [Array.getElem?_eq_none (by simp; omega), Array.getElem?_eq_none (by simp; omega)]
  have e : ∀ (x y : World), x.heap = y.heap → x.tape = y.tape → x.drawn = y.drawn → x.os = y.os → x.output = y.output → x = y := by
    rintro ⟨⟩ ⟨⟩ h1 h2 h3 h4 h5
    simp_all
  exact e _ _ h rfl rfl rfl rfl
theorem tab_one {cs : Array Value} (h : IsTab cs) : cs.all (·.oneCell') = true := by
  rw [Array.all_eq_true]
  intro i hi
  have h1 := h.2 i (by rw [← h.1]; exact hi)
  rw [Array.getElem?_eq_getElem hi] at h1
  rw [Option.some.inj h1]
  rfl

/-- the slices of bytes that came in, as the shell of the proof spells them, read as a list of slices -/
theorem rdS_of_rows {w : World} {a : Option Addr} {len cap : Nat} {A : Nat → Option Addr} {L C : Nat → Nat} {Z : Nat → List Int}
    (h : (a = none ∧ len = 0 ∧ cap = 0) ∨ ∃ x : Addr, a = some x ∧ len ≤ cap ∧ cap ≤ maxLen ∧ ∀ r, r < cap → w.cell? (x.add r) = some (.slice (A r) (L r) (C r)) ∧ L r ≤ C r ∧ C r ≤ maxLen ∧ (Z r).length = C r ∧ (∀ n ∈ Z r, (Lit.int .u8 n).wf = true) ∧ (A r = none → C r = 0) ∧
        ∀ a' : Addr, A r = some a' → ∀ c, c < C r → w.cell? (a'.add c) = some (.int .u8 ((Z r).getD c 0))) :
    ∃ S : List Sl, S.length = len ∧ RdS w w.heap.size a S ∧ ∀ s ∈ S, s.xs.length ≤ 9223372036854775807 := by
  rcases h with ⟨rfl, rfl, rfl⟩ | ⟨x, rfl, hl, hm, hr⟩
  · exact ⟨[], rfl, ⟨.inl rfl, fun s hs => by simp at hs⟩, fun s hs => by simp at hs⟩
  have each : ∀ r, r < cap → ∃ xs : List UInt8, xs.length = L r ∧ Rd w w.heap.size (A r) xs ∧ L r ≤ C r ∧ C r ≤ 9223372036854775807 := by
    intro r hlt
    obtain ⟨_, h2, h3, h4, h5, h6, h7⟩ := hr r hlt
    refine rd_of_row (zs := Z r) ?_
    cases hA : A r with
    | none =>
      have := h6 hA
      refine .inl ⟨rfl, by omega, by omega, ?_⟩
      exact List.length_eq_zero_iff.1 (by omega)
    | some a' => exact .inr ⟨a', rfl, h2, h3, h4, fun i hi => h7 a' hA i (by omega), h5⟩
  let X : Nat → List UInt8 := fun r => if h : r < cap then Classical.choose (each r h) else []
  have hX : ∀ r, r < cap → (X r).length = L r ∧ Rd w w.heap.size (A r) (X r) ∧ L r ≤ C r ∧ C r ≤ 9223372036854775807 := by
    intro r h
    have := Classical.choose_spec (each r h)
    simp only [X, dif_pos h]
    exact this
  refine ⟨(List.range len).map fun r => ⟨A r, C r, X r⟩, by simp, ⟨?_, ?_⟩, ?_⟩
  · by_cases h0 : len = 0
    · subst h0; exact .inl rfl
    · obtain ⟨b, off, spot⟩ := x
      have h1 := (hr 0 (by omega)).1
      have hspot : spot = none := by simpa [Addr.add] using World.cell?_spot h1
      subst hspot
      refine .inr ⟨b, off, rfl, World.block_lt_of_cell? w _ h1, fun j s hs => ?_⟩
      have hj : j < len := by
        have := (List.getElem?_eq_some_iff.1 hs).1
        simpa using this
      rw [List.getElem?_map, List.getElem?_range hj] at hs
      simp at hs
      subst hs
      have h2 := (hr j (by omega)).1
      rw [add_lit] at h2
      rw [h2]
      unfold Sl.val
      rw [(hX j (by omega)).1]
  · intro s hs
    obtain ⟨r, hr', rfl⟩ := List.mem_map.1 hs
    exact (hX r (by have := List.mem_range.1 hr'; omega)).2.1
  · intro s hs
    obtain ⟨r, hr', rfl⟩ := List.mem_map.1 hs
    obtain ⟨h1, _, h2, h3⟩ := hX r (by have := List.mem_range.1 hr'; omega)
    show (X r).length ≤ _
    omega

theorem catS_bound (L : List Sl) (h : ∀ s ∈ L, s.xs.length ≤ 300) (k : Nat) : (catS (L.take k)).length ≤ 300 * k := by
  induction k with
  | zero => simp [catS]
  | succ k ih =>
    cases hk : L[k]? with
    | none =>
      have e : L.take (k + 1) = L.take k := by
        have := List.getElem?_eq_none_iff.1 hk
        rw [List.take_of_length_le (by omega), List.take_of_length_le (by omega)]
      rw [e]; omega
    | some s =>
      rw [catS_take L k s hk, List.length_append]
      have := h s (List.mem_of_getElem? hk)
      omega

set_option maxHeartbeats 800000 in
theorem CrcSums_big (S : Option Addr) (n c : Nat) (i : Int) (w : World) (h1 : ¬ (n : Int) ≤ 60) :
    Calls Try.prog 3 #[.slice S n c, .int .u8 i] w (AliveOK w) := by
  have d1 : decide ((60 : Int) < (n : Int)) = true := decide_eq_true (by omega)
  go_enter Try.func3, Try.ntmps3
  go_wp2_with fail
  refine (alive02 _).mono ?_
  rintro e w1 ⟨rfl, hb1⟩
  go_wp2_with fail
  go_ret
  exact ⟨rfl, hb1⟩

set_option maxRecDepth 100000 in
set_option maxHeartbeats 2000000 in
theorem CrcSums_small (S : Option Addr) (n c i : Nat) (L : List Sl) (w : World) (hn : L.length = n) (hR : RdS w w.heap.size S L) (hx : ∀ s ∈ L, s.xs.length ≤ 9223372036854775807) (h1 : (n : Int) ≤ 60) (hi : i < 256) :
    Calls Try.prog 3 #[.slice S n c, .int .u8 (i : Int)] w (AliveOK w) := by
  obtain ⟨Z, hZ, hZs⟩ : ∃ Z : Array Value, (∀ w, (zeroValue 26).run Try.prog w = .ok (.agg Z) w) ∧ Hid (Z.size = 256) := ⟨_, zeroTab, by show _ = _; simp⟩
  have HZ := Lib.hid hZ
  clear hZ
  have HN := Lib.hid hn
  have HR := Lib.hid hR
  have HX := Lib.hid hx
  have HT := Lib.hid (catS_take L)
  have d0 : decide ((60 : Int) < (n : Int)) = false := decide_eq_false (by omega)
  clear hn hR hx
  go_enter Try.func3, Try.ntmps3
  go_wp2_with fail
  go_loopw [5, 15] (fun z i wr => ∃ (k : Nat) (A : Option Addr) (c : Nat), k ≤ n ∧ i = .int .i64 (k : Int) ∧ z = .slice A (catS (L.take k)).length c ∧ Own wr A c (catS (L.take k)) ∧ Hid (∀ k, blk A = some k → w.heap.size ≤ k) ∧ Below w.heap.size w wr ∧ (catS (L.take k)).length ≤ 300 * k) (fun _ i _ => n - (intOf i).toNat)
  case atStart => exact ⟨0, none, 0, Nat.zero_le _, rfl, by simp [catS], Own.nil _, (fun k e => by cases e), Below.refl _ _, by simp [catS]⟩
  case round =>
    obtain ⟨k, A, c, hk, rfl, rfl, hO, HF, hB, hle⟩ := hrel
    have HO := Lib.hid hO
    have HB := Lib.hid hB
    clear hO hB
    by_cases hlt : k < n
    · obtain ⟨s, hs⟩ : ∃ s, L[k]? = some s := ⟨_, List.getElem?_eq_getElem (by rw [HN.out]; exact hlt)⟩
      have HE := Lib.hid (HT.out k s hs)
      have HRS := Lib.hid (HR.out.below HB.out)
      have HRX := Lib.hid (HRS.out.2 s (List.mem_of_getElem? hs))
      have hls := HX.out s (List.mem_of_getElem? hs)
      obtain ⟨b, off, rfl, hb, hc⟩ : ∃ b off, S = some ⟨b, off, none⟩ ∧ b < w.heap.size ∧ ∀ j s, L[j]? = some s → wr.cell? ⟨b, off + j, none⟩ = some s.val := by
        rcases HRS.out.1 with h | h
        · rw [h] at hs; simp at hs
        · exact h
      have hcell : wr.cell? ⟨b, off + k, none⟩ = some (.slice s.A s.xs.length s.c) := hc k s hs
      clear hc hs
      by_cases hbig : (300 : Int) < (s.xs.length : Int)
      · have d1 : decide ((300 : Int) < (s.xs.length : Int)) = true := decide_eq_true hbig
        go_wp2_with fail
        refine (alive02 _).mono ?_
        rintro e w1 ⟨rfl, hb1⟩
        have B1 := HB.out.trans (hb1.mono HB.out.size)
        clear hb1
        go_wp2_with fail
        go_ret
        exact ⟨rfl, B1⟩
      · have d1 : decide ((300 : Int) < (s.xs.length : Int)) = false := decide_eq_false hbig
        go_wp2_with (at_builtin; refine wpList_app rfl (.tmp 23) (.tmp 24) 24 rfl Try.underlying24 infoU8c A (catS (L.take k)).length c (catS (L.take k)) rfl rfl HO.out w.heap.size s.A s.xs.length s.c s.xs rfl rfl HRX.out (by omega) ?_; intro A' c' w' hown hg hat hnn; have HO' := Lib.hid hown; have HF' : Hid (∀ k, blk A' = some k → w.heap.size ≤ k) := (by intro k' hk'; rcases hat with h | h; exact HF.out k' (h.symm.trans hk'); exact Nat.le_trans HB.out.size (Nat.le_of_eq (Option.some.inj (h.symm.trans hk')))); have HB' := Lib.hid (HB.out.grown hg HB.out.size HF.out); clear hown hg hat hnn)
        go_roundw
        case rel => exact ⟨k + 1, A', c', by omega, by go_num, by rw [HE.out]; simp, by rw [HE.out]; exact HO'.out, HF'.out, HB'.out, by rw [HE.out, List.length_append]; omega⟩
        case measure => simp [intOf]; omega
    · have ek : k = n := by omega
      have HK : Hid (catS (L.take k) = catS L) := by show _ = _; rw [List.take_of_length_le (by rw [HN.out]; omega)]
      have hle2 := hle
      rw [HK.out] at *
      clear HK
      go_wp2_with fail
      refine (Table_any _).mono ?_
      rintro e w1 ⟨tab, rfl, htab, hb1⟩
      have HTab := Lib.hid htab
      have HO1 := Lib.hid (HO.out.keep (S := fun _ => False) (Chg.of_below hb1) (fun _ _ h => h))
      have HB1 := Lib.hid (HB.out.trans (hb1.mono HB.out.size))
      have HZr : Hid ((w1.alloc (.cells Z 26)).heap[w1.heap.size]? = some (.cells Z 26 (0, 0))) := heap_alloc_new w1 _
      have HO2 := Lib.hid (HO1.out.alloc (.cells Z 26))
      clear htab hb1 HO HB ek
      go_wp2_with (first
        | (refine wpList_alloc rfl 26 rfl Z HZ.out ?_)
        | (refine wpList_store_rowTo rfl 26 (.tmp 8) (.tmp 27) rfl rfl w1.heap.size tab rfl rfl 26 Z HZr.out (by rw [HTab.out.1]; exact infoTab) (by rw [HTab.out.1]; exact hZs.out) (tab_one HTab.out) ?_))
      rw [setRow_new]
      have HB2 := Lib.hid (HB1.out.alloc HB1.out.size (.cells tab 26))
      have HO3 : Hid (Rd (w1.alloc (.cells tab 26)) (w1.alloc (.cells tab 26)).heap.size A (catS L)) := by
        have := (HO1.out.alloc (.cells tab 26)).rd
        rwa [List.take_of_length_le (by rw [HN.out]; omega)] at this
      have HRS := Lib.hid (HR.out.below HB2.out)
      have hcl : (w1.alloc (.cells tab 26)).heap[w1.heap.size]? = some (.cells tab 26 (0, 0)) := heap_alloc_new w1 _
      have hcl1 := (Array.getElem?_eq_some_iff.1 hcl).1
      have HCL : Hid (∀ w', Below (w1.alloc (.cells tab 26)).heap.size (w1.alloc (.cells tab 26)) w' → w'.cell? ⟨w1.heap.size, i, none⟩ = some (.int .u32 (u32 (CrcP.stepN 8 (BitVec.ofNat 32 i))))) := by
        intro w' hb
        rw [hb.cell (p := ⟨w1.heap.size, i, none⟩) hcl1, cell_of_row _ w1.heap.size i _ _ (0, 0) hcl]
        exact HTab.out.2 i hi
      generalize w1.alloc (.cells tab 26) = wd at *
      generalize w1.heap.size = gt at *
      clear HO1 HO2 HB1 HZr hcl hcl1
      have hfol : Try.prog.follows Departure.mixedOrders = true := by kernel_rfl
      have hi2 : (i : Int) < 256 := by omega
      have hi3 : (0 : Int) ≤ (i : Int) := by omega
      have hi4 : IntKind.i64.wrap (i : Int) = (i : Int) := IntWalk.i64_in _ (by omega)
      refine (wpIn_wide (n := 3)).1 ?_
      refine wpIn_region_class (fun w' => Below wd.heap.size wd w') hfol rfl (by kernel_rfl) (Below.refl _ wd).drew ?_
      refine wpQuietIn_step (fun _ _ _ _ => trivial) (fun K hK => ?_); go_simp
      refine ⟨.bool true, fun w5 hb => (callsIn_wide (n := 2)).2 ((alive02 w5).mono (by rintro e w6 ⟨rfl, hb5⟩; exact ⟨rfl, hb.trans (hb5.mono hb.size)⟩)), hK _ ?_⟩
      clear hK K
      repeat (refine wpQuietIn_step (fun _ _ _ _ => trivial) (fun K hK => ?_); go_simp; first | (refine ⟨_, fun _ _ => rfl, hK _ ?_⟩; clear hK K) | (refine hK _ ?_; clear hK K))
      refine wpQuietIn_step (fun _ _ _ _ => trivial) (fun K hK => ?_); go_simp
      refine ⟨.int .u32 (u32 (CrcP.sum (catS L))), fun w5 hb => (callsIn_wide (n := 2)).2 ((Sum_any S n _ L w5 HN.out ((HRS.out.below (hb.mono HB2.out.size)).cast (by have := HB2.out.size; have := hb.size; omega) rfl) (by omega) HX.out).mono (by rintro e w6 ⟨rfl, hb5⟩; exact ⟨rfl, hb.trans (hb5.mono hb.size)⟩)), hK _ ?_⟩
      clear hK K
      repeat (refine wpQuietIn_step (fun _ _ _ _ => trivial) (fun K hK => ?_); go_simp; first | (refine ⟨_, fun _ _ => rfl, hK _ ?_⟩; clear hK K) | (refine hK _ ?_; clear hK K))
      refine wpQuietIn_step (fun _ _ _ _ => trivial) (fun K hK => ?_); go_simp
      refine ⟨.int .u32 (u32 (CrcP.sum (catS L))), fun w5 hb => (callsIn_wide (n := 2)).2 ((refSum_any _ A c _ (catS L) w5 rfl (HO3.out.after (Nat.le_refl _) hb) (by omega)).mono (by rintro e w6 ⟨rfl, rfl⟩; exact ⟨rfl, hb⟩)), hK _ ?_⟩
      clear hK K
      repeat (refine wpQuietIn_step (fun _ _ _ _ => trivial) (fun K hK => ?_); go_simp; first | (refine ⟨_, fun _ _ => rfl, hK _ ?_⟩; clear hK K) | (refine hK _ ?_; clear hK K))
      refine wpQuietIn_step (fun _ _ _ _ => trivial) (fun K hK => ?_); go_simp
      refine ⟨.int .u32 (u32 (CrcP.stepN 8 (BitVec.ofNat 32 i))), fun w' hw' => ?_, hK _ ?_⟩
      · rw [HCL.out w' hw']; exact ⟨rfl, rfl⟩
      clear hK K
      repeat (refine wpQuietIn_step (fun _ _ _ _ => trivial) (fun K hK => ?_); go_simp; first | (refine ⟨_, fun _ _ => rfl, hK _ ?_⟩; clear hK K) | (refine hK _ ?_; clear hK K))
      refine wpQuietIn_step (fun _ _ _ _ => trivial) (fun K hK => ?_); go_simp
      refine ⟨.int .u32 (u32 (CrcP.stepN 8 (BitVec.ofNat 32 i))), fun w5 hb => (callsIn_wide (n := 2)).2 ((Element_any i w5 hi).mono (by rintro e w6 ⟨rfl, rfl⟩; exact ⟨rfl, hb⟩)), hK _ ?_⟩
      clear hK K
      repeat (refine wpQuietIn_step (fun _ _ _ _ => trivial) (fun K hK => ?_); go_simp; first | (refine ⟨_, fun _ _ => rfl, hK _ ?_⟩; clear hK K) | (refine hK _ ?_; clear hK K))
      refine wpQuietIn_nil ?_
      intro w9 hb9
      have HB9 := Lib.hid (HB2.out.trans (hb9.mono HB2.out.size))
      clear hb9 hfol
      go_wp2
      go_ret
      exact ⟨rfl, HB9.out⟩

theorem CrcSums_any (S : Option Addr) (n c : Nat) (z : Int) (L : List Sl) (w : World) (hn : L.length = n) (hR : RdS w w.heap.size S L) (hx : ∀ s ∈ L, s.xs.length ≤ 9223372036854775807) (hz : 0 ≤ z ∧ z ≤ 255) :
    Calls Try.prog 3 #[.slice S n c, .int .u8 z] w (AliveOK w) := by
  obtain ⟨i, rfl⟩ : ∃ i : Nat, z = (i : Int) := ⟨z.toNat, by omega⟩
  by_cases h1 : (n : Int) ≤ 60
  · exact CrcSums_small S n c i L w hn hR hx h1 (by omega)
  · exact CrcSums_big S n c _ w h1
end Go.Proofs.Ytkpdeldegdngaaa
