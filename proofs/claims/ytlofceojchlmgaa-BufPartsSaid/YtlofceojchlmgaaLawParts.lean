/-
  What the law BufParts computes: true.
-/
import Derived.Test.YtlofceojchlmgaaOwn2
import Derived.Test.YtlofceojchlmgaaDirty
import Derived.Test.YtlofceojchlmgaaPart
import Derived.Test.YtlofceojchlmgaaAlive03
namespace Go.Proofs.Ytlofceojchlmgaa
set_option linter.unusedVariables false
open Go.RowKit

set_option maxHeartbeats 3200000 in
set_option maxRecDepth 100000 in
theorem BufParts_no (A : Option Addr) (c : Nat) (xs : List UInt8) (a m : Int) (w : World) (hR : Rd w w.heap.size A xs) (hc : xs.length ≤ c) (hn : c ≤ 9223372036854775807)
    (ha : -9223372036854775808 ≤ a ∧ a ≤ 9223372036854775807) (hm : -9223372036854775808 ≤ m ∧ m ≤ 9223372036854775807) (h1 : (xs.length : Int) ≤ 1000) (hx : exB a m xs.length = false) :
    Calls Try.prog 5 #[.slice A xs.length c, .int .i64 a, .int .i64 m] w (AliveOK w) := by
  have HR := Lib.hid hR
  have HX := Lib.hid hx
  clear hR hx
  go_enter Try.func5, Try.ntmps5
  go_wp2_with (at_builtin; refine wpList_app rfl (.tmp 16) (.tmp 17) 22 rfl Try.underlying22 infoU8 (some ⟨w.heap.size, 0, none⟩) 0 0 [] rfl rfl (Own.empty w) w.heap.size A xs.length c xs rfl rfl (HR.out.alloc (Nat.le_refl _) _) (by simp; omega) ?_; intro A1 c1 w1 hown hg hat hnn)
  have hb1 : Below w.heap.size w w1 := ((Below.refl _ w).alloc (Nat.le_refl _) _).grown hg (by simp) (fun k e => Nat.le_of_eq (Option.some.inj e))
  have ho1 : Own w1 A1 c1 xs := hown
  have hle := ho1.le
  have HP := Lib.hid (Part_no A1 xs.length c1 a m w1 (by omega) ha hm HX.out)
  have HD := Lib.hid (Dirty_any _ A1 c1 xs a m w1 ho1.rd hle.1 hle.2 ha hm)
  have HE := Lib.hid (refDirty_any _ A c xs a m w1 (HR.out.below hb1) hc hn ha hm)
  have HF := Lib.hid (refExists_any A xs.length c a m w1 (by omega) ha hm)
  rw [HX.out] at HF
  generalize dirtyV xs a m = z at *
  clear hown ho1 hg hat hnn
  go_wp2_with fail
  refine HP.out.mono ?_
  rintro e w' ⟨rfl, rfl⟩
  go_wp2_with fail
  refine HD.out.mono ?_
  rintro e w' ⟨rfl, rfl⟩
  go_wp2_with fail
  refine HE.out.mono ?_
  rintro e w' ⟨rfl, rfl⟩
  go_wp2_with fail
  refine HF.out.mono ?_
  rintro e w' ⟨rfl, rfl⟩
  go_wp2_with fail
  refine (alive03 _).mono ?_
  rintro e w2 ⟨rfl, hb2⟩
  go_wp2_with fail
  go_ret
  exact ⟨rfl, hb1.trans (hb2.mono hb1.size)⟩

set_option maxHeartbeats 3200000 in
set_option maxRecDepth 100000 in
theorem BufParts_yes (A : Option Addr) (c : Nat) (xs : List UInt8) (a m : Nat) (w : World) (hR : Rd w w.heap.size A xs) (hc : xs.length ≤ c) (hn : c ≤ 9223372036854775807)
    (h1 : (xs.length : Int) ≤ 1000) (hx : a + m ≤ xs.length) :
    Calls Try.prog 5 #[.slice A xs.length c, .int .i64 (a : Int), .int .i64 (m : Int)] w (AliveOK w) := by
  have HR := Lib.hid hR
  clear hR
  have hpl := Lib.hid (part_length (m := m) hx)
  have HPE : Hid (part xs a m = List.take (a + m - a) (List.drop a xs)) := by show _ = _; unfold part; rw [show a + m - a = m by omega]
  have hex := exB_true (a := a) (n := m) (len := xs.length) (by omega)
  go_enter Try.func5, Try.ntmps5
  go_wp2_with (at_builtin; refine wpList_app rfl (.tmp 16) (.tmp 17) 22 rfl Try.underlying22 infoU8 (some ⟨w.heap.size, 0, none⟩) 0 0 [] rfl rfl (Own.empty w) w.heap.size A xs.length c xs rfl rfl (HR.out.alloc (Nat.le_refl _) _) (by simp; omega) ?_; intro A1 c1 w1 hown hg hat hnn)
  have hb1 : Below w.heap.size w w1 := ((Below.refl _ w).alloc (Nat.le_refl _) _).grown hg (by simp) (fun k e => Nat.le_of_eq (Option.some.inj e))
  have ho1 : Own w1 A1 c1 xs := hown
  have hle := ho1.le
  have HP := Lib.hid (Part_nat _ A1 c1 xs a m w1 ho1.rd (Nat.le_refl _) hle.1 hle.2 (by omega) hx)
  have HR1 := Lib.hid (HR.out.below hb1)
  have HO1 := Lib.hid ho1
  clear hown ho1 hg hat hnn
  go_wp2_with fail
  refine HP.out.mono ?_
  rintro e w2 ⟨A2, c2, rfl, ho2, hf2, hb2⟩
  rw [hpl.out]
  have hb2' : Below w.heap.size w w2 := hb1.trans (hb2.mono hb1.size)
  have HO2 := Lib.hid ho2
  have HO1b := Lib.hid (HO1.out.keep (S := fun _ => False) (Chg.of_below hb2) (fun _ _ h => h))
  have HR2 := Lib.hid (HR.out.below hb2')
  have HD := Lib.hid (Dirty_any _ A1 c1 xs a m w2 HO1b.out.rd hle.1 hle.2 (by omega) (by omega))
  have HE := Lib.hid (refDirty_any _ A c xs a m w2 HR2.out hc hn (by omega) (by omega))
  have HF := Lib.hid (refExists_any A xs.length c a m w2 (by omega) (by omega) (by omega))
  rw [hex] at HF
  generalize dirtyV xs a m = z at *
  have HSEP : Hid (∀ k, blk A2 = some k → w1.heap.size ≤ k) := hf2
  have HLT : Hid (∀ k, blk A1 = some k → k < w1.heap.size) := HO1.out.lt
  clear ho2 hb2 hex HP HR1
  go_wp2_with fail
  refine HD.out.mono ?_
  rintro e w' ⟨rfl, rfl⟩
  go_wp2_with fail
  refine HE.out.mono ?_
  rintro e w' ⟨rfl, rfl⟩
  go_wp2_with fail
  refine HF.out.mono ?_
  rintro e w' ⟨rfl, rfl⟩
  clear HD HE HF
  go_wp2_with (refine wpList_cut rfl (.tmp 51) (.tmp 52) (.tmp 55) 22 rfl rfl (by kernel_rfl) A xs.length c a (a + m) rfl rfl rfl (by omega) hx hc _ xs rfl HR2.out ?_; intro A' hA'; rw [← HPE.out] at hA'; have HA := Lib.hid hA'; clear hA')
  refine (Equal_any _ A2 c2 (part xs a m) _ A' _ (part xs a m) m _ w2 hpl.out (by rw [hpl.out]) HO2.out.rd HA.out (by omega) (by omega)).mono ?_
  rintro e w3 ⟨rfl, d, rfl⟩
  rw [decide_eq_true (Eq.refl (part xs a m))]
  have HO3 := Lib.hid (HO2.out.drewN d)
  have HC3 := Lib.hid ((Chg.refl (fun k => blk A2 = some k) w2).drewN d)
  clear HA
  go_wp2_with fail
  go_loopw [60] (fun i wr => ∃ (k : Nat) (ps : List UInt8), k ≤ m ∧ i = .int .i64 (k : Int) ∧ Hid (ps.length = m) ∧ Own wr A2 c2 ps ∧ Chg (fun k => blk A2 = some k) w2 wr) (fun i _ => m - (intOf i).toNat)
  case atStart => exact ⟨0, part xs a m, Nat.zero_le _, rfl, hpl.out, HO3.out, HC3.out⟩
  case round =>
    obtain ⟨k, ps, hk, rfl, HL, hO, hC⟩ := hrel
    by_cases hlt : k < m
    · obtain ⟨g, cn, rfl, hcell, hfr, hcn, HCN⟩ := hO.byteAt (k := k) (by rw [HL.out]; exact hlt)
      have HO := Lib.hid hO
      have HC := Lib.hid hC
      clear hO hC
      go_wp2_with fail
      go_roundw
      case rel =>
        refine ⟨k + 1, ps.set k (UInt8.ofNat (cn + 1)), by omega, by go_num, by show _ = _; rw [List.length_set]; exact HL.out, HO.out.set_ k _ _ ?_, HC.out.setCell (p := ⟨g, k, none⟩) (.inl rfl) _⟩
        rw [UInt8.toNat_ofNat']
        first | rfl | simp
      case measure => simp [intOf]; omega
    · have HO := Lib.hid hO
      have HC := Lib.hid hC
      clear hO hC
      go_wp2_with fail
      refine (alive03 _).mono ?_
      rintro e w5 ⟨rfl, hb5⟩
      have hbr : Below w.heap.size w wr := hb2'.trans (HC.out.below (fun k hk => by have := HSEP.out k hk; have := hb1.size; omega) hb2'.size)
      have hbr5 : Below w.heap.size w w5 := hbr.trans (hb5.mono hbr.size)
      have HO5 := Lib.hid ((HO1b.out.keep HC.out (fun k hk h => by have := HSEP.out k h; have := HLT.out k hk; omega)).keep (S := fun _ => False) (Chg.of_below hb5) (fun _ _ h => h))
      have HR5 := Lib.hid (HR.out.below hbr5)
      go_wp2_with fail
      refine (Equal_any _ A1 c1 xs _ A c xs xs.length xs.length w5 rfl rfl HO5.out.rd HR5.out (by omega) (by omega)).mono ?_
      rintro e w6 ⟨rfl, d6, rfl⟩
      rw [decide_eq_true (Eq.refl xs)]
      go_wp2_with fail
      go_ret
      exact ⟨rfl, (Chg.of_below (S := fun _ => False) hbr5).drewN d6 |>.below (fun _ h => h.elim) (Nat.le_refl _)⟩

set_option maxHeartbeats 800000 in
theorem BufParts_any (A : Option Addr) (c : Nat) (xs : List UInt8) (a m : Int) (w : World) (hR : Rd w w.heap.size A xs) (hc : xs.length ≤ c) (hn : c ≤ 9223372036854775807)
    (ha : -9223372036854775808 ≤ a ∧ a ≤ 9223372036854775807) (hm : -9223372036854775808 ≤ m ∧ m ≤ 9223372036854775807) :
    Calls Try.prog 5 #[.slice A xs.length c, .int .i64 a, .int .i64 m] w (AliveOK w) := by
  by_cases h1 : (xs.length : Int) ≤ 1000
  · cases hx : exB a m xs.length with
    | false => exact BufParts_no A c xs a m w hR hc hn ha hm h1 hx
    | true =>
      obtain ⟨h2, h3, h4, h5⟩ := exB_iff.1 hx
      obtain ⟨a, rfl⟩ := Int.eq_ofNat_of_zero_le h2
      obtain ⟨m, rfl⟩ := Int.eq_ofNat_of_zero_le h3
      exact BufParts_yes A c xs a m w hR hc hn h1 (by omega)
  · have e1 : (1000 : Int) < (xs.length : Int) := by omega
    clear hR
    go_enter Try.func5, Try.ntmps5
    go_wp2_with fail
    refine (alive03 _).mono ?_
    rintro e w1 ⟨rfl, hb1⟩
    go_wp2_with fail
    go_ret
    exact ⟨rfl, hb1⟩
end Go.Proofs.Ytlofceojchlmgaa
