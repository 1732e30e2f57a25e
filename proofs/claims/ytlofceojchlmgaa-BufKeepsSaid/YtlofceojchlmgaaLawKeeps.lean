/-
  What the law BufKeeps computes: true.
-/
import Derived.Test.YtlofceojchlmgaaOwn2
import Derived.Test.YtlofceojchlmgaaNil
import Derived.Test.YtlofceojchlmgaaAlive03
namespace Go.Proofs.Ytlofceojchlmgaa
set_option linter.unusedVariables false
open Go.RowKit

set_option maxHeartbeats 3200000 in
set_option maxRecDepth 100000 in
theorem BufKeeps_small (A : Option Addr) (c : Nat) (xs : List UInt8) (w : World) (hR : Rd w w.heap.size A xs) (h1 : (xs.length : Int) ≤ 300) :
    Calls Try.prog 6 #[.slice A xs.length c] w (AliveOK w) := by
  have HR := Lib.hid hR
  clear hR
  go_enter Try.func6, Try.ntmps6
  go_wp2_with (at_builtin; refine wpList_app rfl (.tmp 13) (.tmp 14) 22 rfl Try.underlying22 infoU8 (some ⟨w.heap.size, 0, none⟩) 0 0 [] rfl rfl (Own.empty w) w.heap.size A xs.length c xs rfl rfl (HR.out.alloc (Nat.le_refl _) _) (by simp; omega) ?_; intro A1 c1 w1 hown hg hat hnn)
  have hb1 : Below w.heap.size w w1 := ((Below.refl _ w).alloc (Nat.le_refl _) _).grown hg (by simp) (fun k e => Nat.le_of_eq (Option.some.inj e))
  have HO1 : Hid (Own w1 A1 c1 xs) := hown
  have HF1 : Hid (∀ k, blk A1 = some k → w.heap.size ≤ k) := by
    intro k hk
    rcases hat with h | h
    · exact Nat.le_of_eq (Option.some.inj (h.symm.trans hk))
    · have := Option.some.inj (h.symm.trans hk); simp at this; omega
  have HL1 := Lib.hid HO1.out.lt
  clear hown hg hat hnn
  go_wp2_with fail
  refine (New_any _ A1 xs.length c1 xs w1 rfl HO1.out.rd (Nat.le_refl _) (by omega)).mono ?_
  rintro e w2 ⟨g, A2, c2, rfl, hbd2, hg2, hf2, hb2⟩
  have HB2 := Lib.hid hbd2
  have HO2 := Lib.hid (HO1.out.keep (S := fun _ => False) (Chg.of_below hb2) (fun _ _ h => h))
  have hbw2 : Below w.heap.size w w2 := hb1.trans (hb2.mono hb1.size)
  have HF2 : Hid (∀ k, blk A2 = some k → w1.heap.size ≤ k) := hf2
  have HLg := Lib.hid hbd2.lt
  have HLA := Lib.hid hbd2.own.lt
  have hsz2 := hb2.size
  clear hbd2 hf2 hb2 HO1
  go_wp2_with fail
  refine (Bytes_any g c2 A2 xs w2 HB2.out (by omega)).mono ?_
  rintro e w3 ⟨A3, c3, rfl, ho3, hf3, hb3⟩
  have HB3 := Lib.hid (HB2.out.keep (S := fun _ => False) (Chg.of_below hb3) (fun h => h) (fun _ _ h => h))
  have HO3 := Lib.hid (HO2.out.keep (S := fun _ => False) (Chg.of_below hb3) (fun _ _ h => h))
  have HX3 := Lib.hid ho3
  have HF3 : Hid (∀ k, blk A3 = some k → w2.heap.size ≤ k) := hf3
  have hbw3 : Below w.heap.size w w3 := hbw2.trans (hb3.mono hbw2.size)
  have hl1 := HO3.out.le
  have hl3 := ho3.le
  clear ho3 hf3 hb3 HB2 HO2
  go_wp2_with fail
  go_loopw [24] (fun i wr => ∃ (k : Nat) (ps : List UInt8), k ≤ xs.length ∧ i = .int .i64 (k : Int) ∧ Hid (ps.length = xs.length) ∧ Own wr A1 c1 ps ∧ Chg (fun k => blk A1 = some k) w3 wr) (fun i _ => xs.length - (intOf i).toNat)
  case atStart => exact ⟨0, xs, Nat.zero_le _, rfl, rfl, HO3.out, Chg.refl _ _⟩
  case round =>
    obtain ⟨k, ps, hk, rfl, HL, hO, hC⟩ := hrel
    by_cases hlt : k < xs.length
    · obtain ⟨g1, cn, rfl, hcell, hfr, hcn, HCN⟩ := hO.byteAt (k := k) (by rw [HL.out]; exact hlt)
      have HO := Lib.hid hO
      have HC := Lib.hid hC
      clear hO hC
      go_wp2_with fail
      go_roundw
      case rel =>
        refine ⟨k + 1, ps.set k (UInt8.ofNat (cn + 1)), by omega, by go_num, by show _ = _; rw [List.length_set]; exact HL.out, HO.out.set_ k _ _ ?_, HC.out.setCell (p := ⟨g1, k, none⟩) (.inl rfl) _⟩
        rw [UInt8.toNat_ofNat']
        first | rfl | simp
      case measure => simp [intOf]; omega
    · have HB4 := Lib.hid (HB3.out.keep hC (fun h => by have := HL1.out _ h; omega) (fun k hk h => by have := HL1.out _ h; have := HF2.out k hk; omega))
      have HX4 := Lib.hid (HX3.out.keep hC (fun k hk h => by have := HL1.out _ h; have := HF3.out k hk; omega))
      have hbw4 : Below w.heap.size w wr := hbw3.trans (hC.below (fun k hk => HF1.out k hk) hbw3.size)
      clear hO hC HO3 HB3 HX3 HL
      obtain ⟨w4, rfl⟩ : ∃ w4 : World, w4 = wr := ⟨_, rfl⟩
      go_wp2_with fail
      go_loopw [36] (fun i wr => ∃ (k : Nat) (ps : List UInt8), k ≤ xs.length ∧ i = .int .i64 (k : Int) ∧ Hid (ps.length = xs.length) ∧ Own wr A3 c3 ps ∧ Chg (fun k => blk A3 = some k) w4 wr) (fun i _ => xs.length - (intOf i).toNat)
      case atStart => exact ⟨0, xs, Nat.zero_le _, rfl, rfl, HX4.out, Chg.refl _ _⟩
      case round =>
        obtain ⟨k, ps, hk, rfl, HL, hO, hC⟩ := hrel
        by_cases hlt : k < xs.length
        · obtain ⟨g1, cn, rfl, hcell, hfr, hcn, HCN⟩ := hO.byteAt (k := k) (by rw [HL.out]; exact hlt)
          have HO := Lib.hid hO
          have HC := Lib.hid hC
          clear hO hC
          go_wp2_with fail
          go_roundw
          case rel =>
            refine ⟨k + 1, ps.set k (UInt8.ofNat (cn + 2)), by omega, by go_num, by show _ = _; rw [List.length_set]; exact HL.out, HO.out.set_ k _ _ ?_, HC.out.setCell (p := ⟨g1, k, none⟩) (.inl rfl) _⟩
            rw [UInt8.toNat_ofNat']
            first | rfl | simp
          case measure => simp [intOf]; omega
        · have HB5 := Lib.hid (HB4.out.keep hC (fun h => by have := HF3.out _ h; have := HLg.out; omega) (fun k hk h => by have := HF3.out _ h; have := HLA.out k hk; omega))
          have hbw5 : Below w.heap.size w wr := hbw4.trans (hC.below (fun k hk => by have := HF3.out k hk; have := hbw2.size; omega) hbw4.size)
          clear hO hC HB4 HX4 HL
          go_wp2_with fail
          refine (putU8_nil 1 _ (by omega)).mono ?_
          rintro e w6 ⟨rfl, hb6⟩
          have HB6 := Lib.hid (HB5.out.keep (S := fun _ => False) (Chg.of_below hb6) (fun h => h) (fun _ _ h => h))
          have hbw6 : Below w.heap.size w w6 := hbw5.trans (hb6.mono hbw5.size)
          clear hb6 HB5
          go_wp2_with fail
          refine (putU64_nil 1 _ (by omega)).mono ?_
          rintro e w7 ⟨rfl, hb7⟩
          have HB7 := Lib.hid (HB6.out.keep (S := fun _ => False) (Chg.of_below hb7) (fun h => h) (fun _ _ h => h))
          have hbw7 : Below w.heap.size w w7 := hbw6.trans (hb7.mono hbw6.size)
          clear hb7 HB6
          go_wp2_with fail
          refine (Add_nil _ _).mono ?_
          rintro e w8 ⟨rfl, rfl⟩
          have HB8 := Lib.hid (HB7.out.alloc (.cells #[.int .u8 1, .int .u8 2] U8t))
          have hbw8 : Below w.heap.size w (w7.alloc (.cells #[.int .u8 1, .int .u8 2] U8t)) := hbw7.alloc hbw7.size _
          clear HB7
          go_wp2_with fail
          refine (alive03 _).mono ?_
          rintro e w9 ⟨rfl, hb9⟩
          have HB9 := Lib.hid (HB8.out.keep (S := fun _ => False) (Chg.of_below hb9) (fun h => h) (fun _ _ h => h))
          have hbw9 : Below w.heap.size w w9 := hbw8.trans (hb9.mono hbw8.size)
          clear hb9 HB8 hbw8
          go_wp2_with fail
          refine (Bytes_any g c2 A2 xs w9 HB9.out (by omega)).mono ?_
          rintro e w10 ⟨A10, c10, rfl, ho10, hf10, hb10⟩
          have HO10 := Lib.hid ho10
          have hbw10 : Below w.heap.size w w10 := hbw9.trans (hb10.mono hbw9.size)
          have HR10 := Lib.hid (HR.out.below hbw10)
          clear ho10 hf10 hb10 HB9
          go_wp2_with fail
          refine (Equal_any _ A10 c10 xs _ A c xs xs.length xs.length w10 rfl rfl HO10.out.rd HR10.out (by omega) (by omega)).mono ?_
          rintro e w11 ⟨rfl, d, rfl⟩
          rw [decide_eq_true (Eq.refl xs)]
          go_wp2_with fail
          refine (Len_nil _).mono ?_
          rintro e w' ⟨rfl, rfl⟩
          go_wp2_with fail
          refine (Bytes_nil _).mono ?_
          rintro e w' ⟨rfl, rfl⟩
          go_wp2_with fail
          refine (Zeros_nil _ _).mono ?_
          rintro e w' ⟨rfl, rfl⟩
          go_wp2_with fail
          refine (Align_nil _ _).mono ?_
          rintro e w' ⟨rfl, rfl⟩
          go_wp2_with fail
          refine (Set32_nil _ _ _).mono ?_
          rintro e w' ⟨rfl, rfl⟩
          go_wp2_with fail
          go_ret
          exact ⟨rfl, (Chg.of_below (S := fun _ => False) hbw10).drewN d |>.below (fun _ h => h.elim) (Nat.le_refl _)⟩

set_option maxHeartbeats 800000 in
theorem BufKeeps_any (A : Option Addr) (c : Nat) (xs : List UInt8) (w : World) (hR : Rd w w.heap.size A xs) :
    Calls Try.prog 6 #[.slice A xs.length c] w (AliveOK w) := by
  by_cases h1 : (xs.length : Int) ≤ 300
  · exact BufKeeps_small A c xs w hR h1
  · have e1 : (300 : Int) < (xs.length : Int) := by omega
    clear hR
    go_enter Try.func6, Try.ntmps6
    go_wp2_with fail
    refine (alive03 _).mono ?_
    rintro e w1 ⟨rfl, hb1⟩
    go_wp2_with fail
    go_ret
    exact ⟨rfl, hb1⟩
end Go.Proofs.Ytlofceojchlmgaa
