/-
  The reference's Header.
-/
import Derived.Test.YthnognjcbjgkbaaTab15
import Derived.Test.YthnognjcbjgkbaaRefApp
import Derived.ArgAppend
namespace Go.Proofs.Ythnognjcbjgkbaa
set_option linter.unusedVariables false
open Go.RowKit Go.Shelf

/-- the bytes of a header: the fixed fields, the entries of the first k sections -/
def fixB (tot fr : Int) : List UInt8 := [70, 78, 83, 84, 1, 0, 80, 0] ++ leB tot.toNat 4 ++ leB 0 4 ++ leB fr.toNat 8 ++ leB 0 8
def entsB (o c : Nat → Int) : Nat → List UInt8
  | 0 => []
  | k + 1 => entsB o c k ++ leB (o (k + 1)).toNat 4 ++ leB (c (k + 1)).toNat 4
def hdrB (tot fr : Int) (o c : Nat → Int) : List UInt8 := fixB tot fr ++ entsB o c 6
theorem fixB_len (tot fr : Int) : (fixB tot fr).length = 32 := by simp [fixB, leB_length]
theorem entsB_len (o c : Nat → Int) (k : Nat) : (entsB o c k).length = 8 * k := by
  induction k with
  | zero => rfl
  | succ k ih => simp only [entsB, List.length_append, leB_length, ih]; omega
theorem hdrB_len (tot fr : Int) (o c : Nat → Int) : (hdrB tot fr o c).length = 80 := by
  unfold hdrB; rw [List.length_append, fixB_len, entsB_len]

theorem Kept.made {w wr w' : World} {A A' : Option Addr} {c c' : Nat} {xs ys : List UInt8} (h : Kept w wr A c xs) (ho : Own w' A' c' ys) (hf : Fresh wr A') (hb : Below wr.heap.size wr w') : Kept w w' A' c' ys :=
  ⟨ho, fun k hk => Nat.le_trans h.bel.size (hf k hk), h.bel.trans (hb.mono h.bel.size)⟩
/-- a row that was made since: nothing is asked of where it begins -/
theorem own_of_row {w' : World} {v : Value} {m : Nat} {ys : List UInt8} {base : Nat} (hm : ys.length = m) (h : w'.ownsRow base U8t 1 v m (bvs ys)) : ∃ A c, v = .slice A m c ∧ Own w' A c ys ∧ ∀ k, blk A = some k → base ≤ k := by
  subst hm
  rcases h.2 with ⟨rfl, h0⟩ | ⟨g, cap, cur, rfl, hb, hr⟩
  · refine ⟨none, 0, by rw [h0], ?_, fun k hk => by cases hk⟩
    rw [List.length_eq_zero_iff.1 h0]
    exact Own.nil _
  · refine ⟨some ⟨g, 0, none⟩, cap, rfl, ⟨h.1, .inr ⟨g, cap, cur, rfl, Nat.zero_le _, hr⟩⟩, fun k hk => ?_⟩
    have : g = k := by simpa [blk] using hk
    omega
theorem Rd.cells {w : World} {B : Nat} {ad : Addr} {ys : List UInt8} (hR : Rd w B (some ad) ys) : ∀ j u, (bvs ys)[j]? = some u → w.cell? (ad.add j) = some u := by
  intro j u hu
  have hj : j < ys.length := by
    have := (List.getElem?_eq_some_iff.1 hu).1
    rwa [bvs_length] at this
  rw [bvs_get ys j hj] at hu
  injection hu with hu
  subst hu
  obtain ⟨b, off, e, _, hc⟩ := hR.at_ hj
  injection e with e
  subst e
  rw [add_lit]
  exact hc
theorem rd_marked (w : World) (cs : Array Value) (fr : Nat × Nat) (xs : List UInt8) (h : cs.toList.take xs.length = bvs xs) : Rd (w.alloc (.cells cs U8t fr)) (w.heap.size + 1) (some ⟨w.heap.size, 0, none⟩) xs := by
  refine .inr ⟨w.heap.size, 0, rfl, Nat.lt_succ_self _, fun j hj => ?_⟩
  rw [Nat.zero_add, cell_of_row _ w.heap.size j cs U8t fr (heap_alloc_new w _)]
  have h2 := bvs_get xs j hj
  rw [← h, List.getElem?_take, if_pos hj] at h2
  simpa using h2

set_option maxRecDepth 100000 in
set_option maxHeartbeats 1000000 in
theorem Header_any (tot fr : Nat) (o c : Nat → Int) (w : World) (ht : tot < 4294967296) (hf : fr < 18446744073709551616) (h0 : ∀ s, s < 7 → 0 ≤ o s ∧ o s < 4294967296) (h1 : ∀ s, s < 7 → 0 ≤ c s ∧ c s < 4294967296) :
    Calls Try.prog 22 #[.agg (tabA (fr : Int) (tot : Int) o c)] w (Made w (hdrB tot fr o c)) := by
  have r0 := heap_alloc_new w (.cells (tabA (fr : Int) (tot : Int) o c) 28)
  have b0 := Lib.hid ((Below.refl w.heap.size w).alloc (Nat.le_refl _) (.cells (tabA (fr : Int) (tot : Int) o c) 28))
  obtain ⟨i0, hi, hz0, hz1, hz2⟩ := info_parts infoU8
  have R0 := Lib.hid r0
  have H0 := Lib.hid h0
  have H1 := Lib.hid h1
  clear r0 h0 h1
  have ew : IntKind.u64.wrap (tot : Int) = (tot : Int) := IntWalk.u64_in _ (by omega)
  go_enter Try.func22, Try.ntmps22
  go_upto_region 1 with fail
  generalize w.alloc (.cells (tabA (fr : Int) (tot : Int) o c) 28) = w0 at *
  have hrow : Hid (∀ w' : World, Below w0.heap.size w0 w' → w'.heap[w.heap.size]? = some (.cells (tabA (fr : Int) (tot : Int) o c) 28)) := fun w' hb => (hb.block _ (Array.getElem?_eq_some_iff.1 R0.out).1).trans R0.out
  generalize hq : w.heap.size = q at hrow
  have kc := fun (w : World) (C : Array Value) (n c : Nat) => Lib.run_convert_bytes_const (P := Try.prog) w 44 5 C n c Try.underlying44 Try.underlying5
  have rd2' := (Rd.lit (w0.alloc (.cells #[.int .u8 70, .int .u8 78, .int .u8 83, .int .u8 84] U8t (4, 5))) #[.int .u8 1, .int .u8 0, .int .u8 80, .int .u8 0] [1, 0, 80, 0] rfl)
  rw [World.size_alloc] at rd2'
  have rd2 := Lib.hid rd2'
  clear rd2'
  have rd1 := Lib.hid ((rd_marked w0 #[.int .u8 70, .int .u8 78, .int .u8 83, .int .u8 84] (4, 5) [70, 78, 83, 84] rfl).alloc (by simp) (.cells #[.int .u8 1, .int .u8 0, .int .u8 80, .int .u8 0] U8t))
  have bb := Lib.hid (((Below.refl w0.heap.size w0).alloc (Nat.le_refl _) (.cells #[.int .u8 70, .int .u8 78, .int .u8 83, .int .u8 84] U8t (4, 5))).alloc (by simp) (.cells #[.int .u8 1, .int .u8 0, .int .u8 80, .int .u8 0] U8t))
  go_wp2_with (at_builtin; go_loud (refine wpList_append_grows _ rfl (.tmp 6) (.tmp 7) 44 rfl U8t i0 (.int .u8 0) 1 1 Try.underlying44 hi hz0 hz1 hz2 rfl (by decide) (some ⟨w0.heap.size, 0, none⟩) 4 4 (bvs [70, 78, 83, 84]) rfl (by simp) rfl (fun b hb => by cases hb; exact rd1.out.cells) ⟨w0.heap.size + 1, 0, none⟩ 4 4 (bvs [1, 0, 80, 0]) rfl rfl rd2.out.cells (bvs_one _) (by decide) (by unfold maxLen; omega) (by decide) ?_))
  intro v1 w1 hr hg
  obtain ⟨A1, c1, rfl, ho1, hf1⟩ := own_of_row (m := 8) (ys := [70, 78, 83, 84, 1, 0, 80, 0]) rfl hr
  have HK1 : Hid (Kept w0 w1 A1 c1 [70, 78, 83, 84, 1, 0, 80, 0]) := ⟨ho1, fun k hk => by have := hf1 k hk; (try simp only [World.size_alloc] at this); omega, bb.out.grown hg (by (try simp only [World.size_alloc]); omega) (fun k e => by cases e)⟩
  clear hr hg ho1 hf1 rd1 rd2 bb kc
  obtain ⟨X1, hX1⟩ : ∃ X : List UInt8, X = [70, 78, 83, 84, 1, 0, 80, 0] := ⟨_, rfl⟩
  rw [← hX1] at HK1
  have l1 : Hid (X1.length = 8) := by show _ = _; rw [hX1]; rfl
  have HX1 := Lib.hid hX1
  clear hX1
  have k1 := tab_one (hrow.out _ HK1.out.bel)
  go_wp2_with fail
  refine (refAppend_any w1.heap.size A1 8 c1 X1 tot 4 w1 l1.out HK1.out.own.rd (Nat.le_refl _) (by omega) (by omega) (by rw [l1.out]; omega)).mono ?_
  rintro e w2 ⟨A2, c2, rfl, ho, hf', hb⟩
  have HK2' := HK1.out.made ho hf' hb
  clear ho hf' hb HK1
  obtain ⟨X2, hX2⟩ : ∃ X : List UInt8, X = X1 ++ leB tot 4 := ⟨_, rfl⟩
  rw [← hX2] at HK2'
  have HK2 := Lib.hid HK2'
  have l2 : Hid (X2.length = 12) := by show _ = _; rw [hX2, List.length_append, l1.out, leB_length]
  rw [← hX2, l2.out]
  have HX2 := Lib.hid hX2
  clear hX2 HK2' l1
  go_wp2_with fail
  refine (refAppend_any w2.heap.size A2 12 c2 X2 0 4 w2 l2.out HK2.out.own.rd (Nat.le_refl _) (by omega) (by omega) (by rw [l2.out]; omega)).mono ?_
  rintro e w3 ⟨A3, c3, rfl, ho, hf', hb⟩
  have HK3' := HK2.out.made ho hf' hb
  clear ho hf' hb HK2
  obtain ⟨X3, hX3⟩ : ∃ X : List UInt8, X = X2 ++ leB 0 4 := ⟨_, rfl⟩
  rw [← hX3] at HK3'
  have HK3 := Lib.hid HK3'
  have l3 : Hid (X3.length = 16) := by show _ = _; rw [hX3, List.length_append, l2.out, leB_length]
  rw [← hX3, l3.out]
  have HX3 := Lib.hid hX3
  clear hX3 HK3' l2
  have k3 := (tab_cells (hrow.out _ HK3.out.bel)).1
  go_wp2_with fail
  refine (refAppend_any w3.heap.size A3 16 c3 X3 fr 8 w3 l3.out HK3.out.own.rd (Nat.le_refl _) (by omega) (by omega) (by rw [l3.out]; omega)).mono ?_
  rintro e w4 ⟨A4, c4, rfl, ho, hf', hb⟩
  have HK4' := HK3.out.made ho hf' hb
  clear ho hf' hb HK3
  obtain ⟨X4, hX4⟩ : ∃ X : List UInt8, X = X3 ++ leB fr 8 := ⟨_, rfl⟩
  rw [← hX4] at HK4'
  have HK4 := Lib.hid HK4'
  have l4 : Hid (X4.length = 24) := by show _ = _; rw [hX4, List.length_append, l3.out, leB_length]
  rw [← hX4, l4.out]
  have HX4 := Lib.hid hX4
  clear hX4 HK4' l3
  go_wp2_with fail
  refine (refAppend_any w4.heap.size A4 24 c4 X4 0 8 w4 l4.out HK4.out.own.rd (Nat.le_refl _) (by omega) (by omega) (by rw [l4.out]; omega)).mono ?_
  rintro e w5 ⟨A5, c5, rfl, ho, hf', hb⟩
  have HK5' := HK4.out.made ho hf' hb
  clear ho hf' hb HK4
  obtain ⟨X5, hX5⟩ : ∃ X : List UInt8, X = X4 ++ leB 0 8 := ⟨_, rfl⟩
  rw [← hX5] at HK5'
  have HK5 := Lib.hid HK5'
  have l5 : Hid (X5.length = 32) := by show _ = _; rw [hX5, List.length_append, l4.out, leB_length]
  rw [← hX5, l5.out]
  have HX5 := Lib.hid hX5
  clear hX5 HK5' l4
  have HX : Hid (X5 = fixB tot fr) := by
    show _ = _
    rw [HX5.out, HX4.out, HX3.out, HX2.out, HX1.out]
    rfl
  clear HX1 HX2 HX3 HX4 HX5 k1 k3
  go_wp2_with fail
  go_loopw [3, 4] (fun z i wr => ∃ (k : Nat) (A : Option Addr) (c' : Nat), k ≤ 6 ∧ i = .int .i64 ((k : Int) + 1) ∧ z = .slice A (32 + 8 * k) c' ∧ Kept w0 wr A c' (X5 ++ entsB o c k)) (fun _ i _ => 8 - (intOf i).toNat)
  case atStart => exact ⟨0, A5, c5, by omega, rfl, by simp, by simpa [entsB] using HK5.out⟩
  case round =>
    obtain ⟨k, A, c', hk, rfl, rfl, hK⟩ := hrel
    have HK := Lib.hid hK
    clear hK HK5
    by_cases hlt : k < 6
    · obtain ⟨s, es⟩ : ∃ s : Nat, s = k + 1 := ⟨_, rfl⟩
      have e1 : ((k : Int) + 1) = (s : Int) := by omega
      rw [e1]
      have hs7 : (s : Int) < 7 := by omega
      have hs6 : (s : Int) ≤ 6 := by omega
      have h1s : 1 ≤ s := by omega
      have k0 := (tab_cell (hrow.out _ HK.out.bel) s (by omega)).1
      obtain ⟨x, hx⟩ := Int.eq_ofNat_of_zero_le (H0.out s (by omega)).1
      have hxl : x < 4294967296 := by have := (H0.out s (by omega)).2; omega
      obtain ⟨y, hy⟩ := Int.eq_ofNat_of_zero_le (H1.out s (by omega)).1
      have hyl : y < 4294967296 := by have := (H1.out s (by omega)).2; omega
      rw [hx] at k0
      have ES := Lib.hid es
      have HXY : Hid (entsB o c s = entsB o c k ++ leB x 4 ++ leB y 4) := by
        show _ = _
        rw [es] at hx hy ⊢
        show entsB o c k ++ leB (o (k + 1)).toNat 4 ++ leB (c (k + 1)).toNat 4 = _
        rw [hx, hy]
        rfl
      have HY := Lib.hid hy
      clear hx hy es e1
      have ex : IntKind.u64.wrap (x : Int) = (x : Int) := IntWalk.u64_in _ (by omega)
      have ey : IntKind.u64.wrap (y : Int) = (y : Int) := IntWalk.u64_in _ (by omega)
      have lk : Hid ((X5 ++ entsB o c k).length = 32 + 8 * k) := by show _ = _; rw [List.length_append, l5.out, entsB_len]
      go_wp2_with fail
      refine (refAppend_any wr.heap.size A (32 + 8 * k) c' (X5 ++ entsB o c k) x 4 wr lk.out HK.out.own.rd (Nat.le_refl _) (by omega) (by omega) (by rw [lk.out]; omega)).mono ?_
      rintro e w6 ⟨A6, c6, rfl, ho, hf', hb⟩
      have HK6 := Lib.hid (HK.out.made ho hf' hb)
      clear ho hf' hb HK k0
      have k1 := (tab_cell (hrow.out _ HK6.out.bel) s (by omega)).2
      rw [HY.out] at k1
      have l6 : Hid ((X5 ++ entsB o c k ++ leB x 4).length = 36 + 8 * k) := by show _ = _; rw [List.length_append, lk.out, leB_length]; omega
      rw [l6.out]
      go_wp2_with fail
      refine (refAppend_any w6.heap.size A6 (36 + 8 * k) c6 (X5 ++ entsB o c k ++ leB x 4) y 4 w6 l6.out HK6.out.own.rd (Nat.le_refl _) (by omega) (by omega) (by rw [l6.out]; omega)).mono ?_
      rintro e w7 ⟨A7, c7, rfl, ho, hf', hb⟩
      have hK7 := HK6.out.made ho hf' hb
      clear ho hf' hb HK6 k1
      have e7 : X5 ++ entsB o c k ++ leB x 4 ++ leB y 4 = X5 ++ entsB o c s := by rw [HXY.out]; simp
      have l7 : (X5 ++ entsB o c k ++ leB x 4 ++ leB y 4).length = 32 + 8 * s := by rw [e7, List.length_append, l5.out, entsB_len]
      rw [l7]
      rw [e7] at hK7
      have HK7 := Lib.hid hK7
      clear hK7 e7 l7
      go_wp2
      go_roundw
      case rel => exact ⟨s, A7, c7, by omega, rfl, rfl, HK7.out⟩
      case measure => have := ES.out; simp [intOf]; omega
    · obtain rfl : k = 6 := by omega
      go_wp2
      go_ret
      have hX := HX.out
      subst hX
      exact ⟨A, c', by rw [hdrB_len]; rfl, HK.out.own, fun j hj => by have := HK.out.fresh j hj; have := b0.out.size; omega, b0.out.trans (HK.out.bel.mono b0.out.size)⟩
end Go.Proofs.Ythnognjcbjgkbaa
