/-
  Contracts of package crc: little, Seal, Sealed; the reference's Seal and Sealed.
-/
import Derived.Test.YtkpdeldegdngaaaCrc4
import Derived.Test.YtkpdeldegdngaaaEqual
import Derived.Deep.RegionHeld3
namespace Go.Proofs.Ytkpdeldegdngaaa
set_option linter.unusedVariables false
open Go.RowKit

/-- what a call that makes a slice of bytes leaves -/
def Made (w : World) (xs : List UInt8) (e : Ending) (w' : World) : Prop :=
  ∃ A c, e = .returned (.slice A xs.length c) ∧ Own w' A c xs ∧ Fresh w A ∧ Below w.heap.size w w'

theorem bvs_little (r : BitVec 32) (n : Nat) (h : n = r.toNat) : [Value.int .u8 ((n : Int) % 256), .int .u8 ((n : Int) / 256 % 256), .int .u8 ((n : Int) / 65536 % 256), .int .u8 ((n : Int) / 16777216)] = bvs (CrcP.little r) := by
  subst h
  unfold CrcP.little bvs
  have hr := r.isLt
  have e : ((r.toNat : Int) / 16777216) = ((r.toNat / 16777216 % 256 : Nat) : Int) := by
    rw [Nat.mod_eq_of_lt (by omega)]; rfl
  rw [e]
  simp only [List.map_cons, List.map_nil, bv, CrcP.lowByte_toNat, BitVec.toNat_ushiftRight, Nat.shiftRight_eq_div_pow]
  rfl

set_option maxHeartbeats 400000 in
theorem little_any (r : BitVec 32) (w : World) : Calls Try.prog 27 #[.int .u32 (u32 r)] w (Made w (CrcP.little r)) := by
  obtain ⟨n, hn, hlt, HN⟩ := u32_open r
  rw [hn]
  have HB := Lib.hid (bvs_little r n HN.out)
  clear hn
  go_enter Try.func27, Try.ntmps27
  go_wp2
  go_ret
  refine ⟨some ⟨w.heap.size, 0, none⟩, 4, rfl, Own.made w _ _ 4 rfl (by unfold maxLen; omega) (Nat.le_refl _) ?_, fresh_new _ _ (Nat.le_refl _), (Below.refl _ w).alloc (Nat.le_refl _) _⟩
  rw [← HB.out]
  rfl

/-- two slices that are joined -/
theorem RdS.two {w : World} {B : Nat} {A A' : Option Addr} {c c' : Nat} {xs ys : List UInt8} (T : TypeId) (hR : Rd w B A xs) (hR' : Rd w B A' ys) (hB : B ≤ w.heap.size) :
    RdS (w.alloc (.cells #[.slice A xs.length c, .slice A' ys.length c'] T)) (w.alloc (.cells #[.slice A xs.length c, .slice A' ys.length c'] T)).heap.size (some ⟨w.heap.size, 0, none⟩) [⟨A, c, xs⟩, ⟨A', c', ys⟩] := by
  refine ⟨.inr ⟨w.heap.size, 0, rfl, by simp, fun j s hs => ?_⟩, fun s hs => ?_⟩
  · have hj : j < 2 := (List.getElem?_eq_some_iff.1 hs).1
    rw [Nat.zero_add, World.cell?_alloc_at (w := w) _ _ _ _ rfl]
    have : j = 0 ∨ j = 1 := by omega
    rcases this with rfl | rfl
    · simp at hs; subst hs; rfl
    · simp at hs; subst hs; rfl
  · simp at hs
    rcases hs with rfl | rfl
    · exact (hR.alloc hB _).more (by simp; omega)
    · exact (hR'.alloc hB _).more (by simp; omega)

set_option maxHeartbeats 800000 in
theorem Seal_any (B : Nat) (A : Option Addr) (c : Nat) (xs : List UInt8) (w : World) (hR : Rd w B A xs) (hB : B ≤ w.heap.size) (hl : xs.length ≤ 100000) :
    Calls Try.prog 14 #[.slice A xs.length c] w (Made w (CrcP.sealOf xs)) := by
  have HS := Lib.hid (Sum_any (some ⟨w.heap.size, 0, none⟩) 1 1 [⟨A, c, xs⟩] _ rfl (RdS.one (c := c) 24 hR hB) (by omega) (by intro s hs; simp at hs; subst hs; show xs.length ≤ _; omega))
  have HR := Lib.hid hR
  clear hR
  go_enter Try.func14, Try.ntmps14
  go_wp2_with fail
  refine HS.out.mono ?_
  rintro e w1 ⟨rfl, hb1⟩
  rw [catS_one]
  have hb1' : Below w.heap.size w w1 := ((Below.refl _ w).alloc (Nat.le_refl _) _).trans (hb1.mono (by simp))
  clear hb1
  go_wp2_with fail
  refine (little_any _ _).mono ?_
  rintro e w2 ⟨A2, c2, rfl, ho2, hf2, hb2⟩
  have hb2' : Below w.heap.size w w2 := hb1'.trans (hb2.mono hb1'.size)
  have HRS := Lib.hid (RdS.two (c := c) (c' := c2) 24 ((HR.out.after hB hb2').more (B' := w2.heap.size) (by have := hb2'.size; omega)) ho2.rd (Nat.le_refl _))
  have HL : Hid ((CrcP.little (CrcP.sum xs)).length = 4) := rfl
  have HC : Hid (catS [⟨A, c, xs⟩, ⟨A2, c2, CrcP.little (CrcP.sum xs)⟩] = CrcP.sealOf xs) := by show _ = _; simp [catS, CrcP.sealOf]
  clear ho2 hf2 hb2
  go_wp2_with fail
  refine (Concat_any _ 2 2 _ _ rfl HRS.out (by omega) (by rw [HC.out, CrcP.sealOf_length]; omega)).mono ?_
  rintro e w3 ⟨A3, c3, rfl, ho3, hf3, hb3⟩
  rw [HC.out] at ho3 ⊢
  have HO := Lib.hid ho3
  have HF := Lib.hid hf3
  clear ho3 hf3
  have hb3' : Below w.heap.size w w3 := (hb2'.alloc hb2'.size (.cells #[.slice A xs.length c, .slice A2 (CrcP.little (CrcP.sum xs)).length c2] 24)).trans (hb3.mono (by have := hb2'.size; simp; omega))
  go_wp2_with fail
  go_ret
  refine ⟨A3, c3, rfl, HO.out, fun k hk => ?_, hb3'⟩
  have := HF.out k hk
  have h2 := hb2'.size
  simp at this
  omega

set_option maxHeartbeats 800000 in
theorem refSeal_any (B : Nat) (A : Option Addr) (c n : Nat) (xs : List UInt8) (w : World) (hn : xs.length = n) (hR : Rd w B A xs) (hB : B ≤ w.heap.size) (hl : n ≤ 100000) :
    Calls Try.prog 16 #[.slice A n c] w (Made w (CrcP.sealOf xs)) := by
  have HS := Lib.hid (refSum_any B A c n xs w hn hR (by omega))
  have HN := Lib.hid hn
  have HR := Lib.hid hR
  obtain ⟨m, hm, hlt, HM⟩ := u32_open (CrcP.sum xs)
  rw [hm] at HS
  have HB := Lib.hid (bvs_little (CrcP.sum xs) m HM.out)
  clear hm hn hR
  go_enter Try.func16, Try.ntmps16
  go_wp2_with fail
  refine HS.out.mono ?_
  rintro e w1 ⟨rfl, rfl⟩
  go_wp2_with (first
    | (at_builtin; refine wpList_app rfl (.tmp 6) (.tmp 7) 24 rfl Try.underlying24 infoU8c (some ⟨w.heap.size, 0, none⟩) 0 0 [] rfl rfl (Own.empty w) B A n c xs HN.out rfl (HR.out.alloc hB _) (by rw [HN.out]; simp; omega) ?_; intro A1 c1 w1 hown hg hat hnn; have HO1 : Hid (Own w1 A1 c1 xs) := hown; have hb1 : Below w.heap.size w w1 := ((Below.refl _ w).alloc (Nat.le_refl _) _).grown hg (by simp) (fun k e => Nat.le_of_eq (Option.some.inj e)); have HF1 : Hid (∀ k, blk A1 = some k → w.heap.size ≤ k) := (by intro k hk; rcases hat with h | h; exact Nat.le_of_eq (Option.some.inj (h.symm.trans hk)); (have := Option.some.inj (h.symm.trans hk); simp at this; omega)); clear hown hg hat hnn)
    | (at_builtin; refine wpList_app rfl (.tmp 8) (.tmp 20) 24 rfl Try.underlying24 infoU8c A1 _ c1 xs rfl rfl (HO1.out.alloc _) _ _ 4 4 (CrcP.little (CrcP.sum xs)) rfl rfl (Rd.lit w1 _ (CrcP.little (CrcP.sum xs)) (by rw [← HB.out]; rfl)) (by rw [HN.out]; show n + 4 ≤ _; omega) ?_; intro A2 c2 w2 hown2 hg2 hat2 hnn2; have HO2 := Lib.hid hown2; have hb2 := (hb1.alloc hb1.size (.cells #[.int .u8 ((m : Int) % 256), .int .u8 ((m : Int) / 256 % 256), .int .u8 ((m : Int) / 65536 % 256), .int .u8 ((m : Int) / 16777216)] U8t)).grown hg2 (by have := hb1.size; simp; omega) HF1.out; have HAT := Lib.hid hat2; clear hown2 hat2 hnn2 hg2))
  go_ret
  refine ⟨A2, c2, by unfold CrcP.sealOf; rw [List.length_append]; rfl, HO2.out, fun k hk => ?_, hb2⟩
  rcases HAT.out with h | h
  · exact HF1.out k (h.symm.trans hk)
  · have := Option.some.inj (h.symm.trans hk); have h2 := hb1.size; simp at this; omega
end Go.Proofs.Ytkpdeldegdngaaa
