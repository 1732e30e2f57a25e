/-
  Contracts of rec.text, PutPartition, PutPort.
-/
import Derived.Test.YtpeajffnhmmaeaaRecM
namespace Go.Proofs.Ytpeajffnhmmaeaa
set_option linter.unusedVariables false
open Go.RowKit

theorem setRow_new (W : World) (old cs : Array Value) (t : Nat) : (W.alloc (.cells old t)).setRow W.heap.size cs = W.alloc (.cells cs t) := by
  have h : ((W.alloc (.cells old t)).setRow W.heap.size cs).heap = (W.alloc (.cells cs t)).heap := by
    apply Array.ext_getElem?
    intro k
    by_cases e : k = W.heap.size
    · subst e
      rw [setRow_heap _ _ old cs t (0, 0) (heap_alloc_new W _), heap_alloc_new]
    · rw [setRow_other _ _ _ _ e]
      by_cases hk : k < W.heap.size
      · rw [Below.heap_alloc _ _ _ hk, Below.heap_alloc _ _ _ hk]
      · rw [Array.getElem?_eq_none (by simp; omega), Array.getElem?_eq_none (by simp; omega)]
  have e : ∀ (x y : World), x.heap = y.heap → x.tape = y.tape → x.drawn = y.drawn → x.os = y.os → x.output = y.output → x = y := by
    rintro ⟨⟩ ⟨⟩ h1 h2 h3 h4 h5
    simp_all
  exact e _ _ h rfl rfl rfl rfl

set_option maxRecDepth 100000 in
set_option maxHeartbeats 1000000 in
theorem text_any (g c : Nat) (A : Option Addr) (zs : List UInt8) (s : ByteArray) (w : World) (hb : Bld w g A c zs) (hs : s.size ≤ 9223372036854775807) (hlen : zs.length ≤ 100000) :
    Calls Try.prog 49 #[.pointer (some ⟨g, 0, none⟩), .string s] w fun e w' => e = .returned (.tuple #[]) ∧ Grew w g A (zs ++ padL s) w' := by
  have HP := Lib.hid (Pad_any s w hs)
  have HL := Lib.hid (padL_len s)
  have HB := Lib.hid hb
  clear hb
  go_enter Try.func49, Try.ntmps49
  go_wp2_with fail
  refine HP.out.mono ?_
  rintro e w1 ⟨rfl, hb1⟩
  have B1 := Lib.hid hb1
  have HB1 := Lib.hid (HB.out.keep (S := fun _ => False) (Chg.of_below hb1) (fun h => h) (fun _ _ h => h))
  clear hb1
  go_wp2_with (refine wpList_store_rowTo rfl 133 (.tmp 4) (.tmp 6) rfl rfl w1.heap.size (bvA (padL s)) rfl rfl 133 _ (heap_alloc_new w1 _) (by rw [infoA, bvA_size, HL.out]) (by rw [bvA_size, HL.out]; rfl) (bvA_one _) ?_; rw [setRow_new])
  have hrow := heap_alloc_new w1 (.cells (bvA (padL s)) 133)
  refine (Add_any g c A zs _ (some ⟨w1.heap.size, 0, none⟩) 30 30 (padL s) _ (HB1.out.alloc _) HL.out (Rd.row hrow) (by rw [HL.out]; omega)).mono ?_
  rintro e w3 ⟨rfl, hG⟩
  have HG := Lib.hid (Grew.of_alloc hG)
  clear hG hrow
  go_wp2_with fail
  go_end0
  exact ⟨rfl, Grew.next (Chg.of_below B1.out) (fun _ hk => .inl hk) HG.out⟩

theorem Put.text {w wi : World} {g : Nat} {A : Option Addr} {o : Obj} {zs : List UInt8} (h : Put w g A o zs wi) (s : ByteArray) (hs : s.size ≤ 9223372036854775807) (hlen : zs.length ≤ 100000) :
    Calls Try.prog 49 #[.pointer (some ⟨g, 0, none⟩), .string s] wi fun e w' => e = .returned (.tuple #[]) ∧ Put w g A o (zs ++ padL s) w' := by
  obtain ⟨A', c', h1, h2, h3, h4, h5, h6⟩ := h
  exact (text_any g c' A' zs s wi h1 hs hlen).mono fun _ _ ⟨he, hG⟩ => ⟨he, Put.step h2 h3 h4 h5 h6 hG⟩

noncomputable def partB (x : Nat) (s : ByteArray) (p d : Nat) : List UInt8 := leB x 2 ++ leB s.size 1 ++ List.replicate 1 0 ++ padL s ++ List.replicate 6 0 ++ leB p 8 ++ leB d 8
set_option maxRecDepth 20000 in
set_option maxHeartbeats 800000 in
theorem PutPartition_any (g c : Nat) (A : Option Addr) (zs : List UInt8) (x : Nat) (s : ByteArray) (p d : Nat) (w : World) (hb : Bld w g A c zs) (hx : x < 65536) (hs : s.size ≤ 30) (hp : p < 18446744073709551616) (hd : d < 18446744073709551616) (hlen : zs.length ≤ 90000) :
    Calls Try.prog 19 #[.pointer (some ⟨g, 0, none⟩), .agg #[.int .u16 (x : Int), .string s, .int .u64 (p : Int), .int .u64 (d : Int)]] w fun e w' => e = .returned (.tuple #[]) ∧ Grew w g A (zs ++ partB x s p d) w' := by
  have P0 := Lib.hid (Put.start hb (.cells #[.int .u16 (x : Int), .string s, .int .u64 (p : Int), .int .u64 (d : Int)] 45))
  have HL := Lib.hid (padL_len s)
  have hwz : IntKind.u8.wrap (s.size : Int) = (s.size : Int) := IntWalk.u8_in _ (by omega)
  have HE : Hid (∀ w' , Grew w g A (zs ++ leB x 2 ++ leB s.size 1 ++ List.replicate 1 0 ++ padL s ++ List.replicate 6 0 ++ leB p 8 ++ leB d 8) w' → Grew w g A (zs ++ partB x s p d) w') := by
    intro w' h
    unfold partB
    simpa only [List.append_assoc] using h
  clear hb
  go_enter Try.func19, Try.ntmps19
  go_wp2_with fail
  refine (P0.out.U16 x (by omega) (by omega)).mono ?_
  rintro e w1 ⟨rfl, h1⟩
  obtain ⟨k1, k2, k3, k4⟩ := row4_cells h1.box
  have P1 := Lib.hid h1
  clear h1 P0
  go_wp2_with fail
  refine (P1.out.U8 s.size (by omega) (by simp [leB_length]; omega)).mono ?_
  rintro e w2 ⟨rfl, h2⟩
  clear k1 k2 k3 k4
  have P2 := Lib.hid h2
  clear h2 P1
  go_wp2_with fail
  refine (P2.out.zeros 1 (by simp [leB_length]; omega)).mono ?_
  rintro e w3 ⟨rfl, h3⟩
  obtain ⟨k1, k2, k3, k4⟩ := row4_cells h3.box
  have P3 := Lib.hid h3
  clear h3 P2
  go_wp2_with fail
  refine (P3.out.text s (by omega) (by simp [leB_length]; omega)).mono ?_
  rintro e w4 ⟨rfl, h4⟩
  clear k1 k2 k3 k4
  have P4 := Lib.hid h4
  clear h4 P3
  go_wp2_with fail
  refine (P4.out.zeros 6 (by have := HL.out; simp [leB_length]; omega)).mono ?_
  rintro e w5 ⟨rfl, h5⟩
  obtain ⟨k1, k2, k3, k4⟩ := row4_cells h5.box
  have P5 := Lib.hid h5
  clear h5 P4
  go_wp2_with fail
  refine (P5.out.U64 p hp (by have := HL.out; simp [leB_length]; omega)).mono ?_
  rintro e w6 ⟨rfl, h6⟩
  clear k1 k2 k3 k4
  obtain ⟨k1, k2, k3, k4⟩ := row4_cells h6.box
  have P6 := Lib.hid h6
  clear h6 P5
  go_wp2_with fail
  refine (P6.out.U64 d hd (by have := HL.out; simp [leB_length]; omega)).mono ?_
  rintro e w7 ⟨rfl, h7⟩
  have P7 := Lib.hid (HE.out _ h7.grew)
  clear h7 P6 k1 k2 k3 k4
  go_wp2_with fail
  go_end0
  exact ⟨rfl, P7.out⟩
end Go.Proofs.Ytpeajffnhmmaeaa
