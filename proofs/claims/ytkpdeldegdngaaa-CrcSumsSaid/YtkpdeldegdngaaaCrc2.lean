/-
  Contracts of package crc and of its reference: Element, the reference's Sum, the machine, feed.
-/
import Derived.Test.YtkpdeldegdngaaaCrc1
namespace Go.Proofs.Ytkpdeldegdngaaa
set_option linter.unusedVariables false
open Go.RowKit

theorem u32_ofNat (n : Nat) (h : n < 4294967296) : u32 (BitVec.ofNat 32 n) = (n : Int) := by
  unfold u32; rw [BitVec.toNat_ofNat, Nat.mod_eq_of_lt (by omega)]
theorem byte_toNat (c : UInt8) : (CrcP.byte c).toNat = c.toNat := by
  unfold CrcP.byte
  rw [BitVec.toNat_setWidth]
  have := UInt8.toNat_lt c
  show c.toNat % 2 ^ 32 = _
  omega
theorem u32_xor_bv (a b : BitVec 32) : bits .xor .u32 (u32 a) (u32 b) = u32 (a ^^^ b) := by
  unfold u32
  rw [u32_xor_nat _ _ a.isLt b.isLt, BitVec.toNat_xor]
theorem u32_byte (c : UInt8) (n : Nat) (h : n = c.toNat) : (n : Int) = u32 (CrcP.byte c) := by unfold u32; rw [byte_toNat, h]
theorem feed_take (r : BitVec 32) (xs : List UInt8) (k : Nat) (h : k < xs.length) : CrcP.feed r (xs.take (k + 1)) = CrcP.upd (CrcP.feed r (xs.take k)) (xs.getD k 0) := by
  rw [List.take_succ_eq_append_getElem h, CrcP.feed_append]
  simp [CrcP.feed, List.getD, h]

set_option maxHeartbeats 400000 in
theorem Element_any (i : Nat) (w : World) (hi : i < 256) : Calls Try.prog 13 #[.int .i64 (i : Int)] w fun e w' => e = .returned (.int .u32 (u32 (CrcP.stepN 8 (BitVec.ofNat 32 i)))) ∧ w = w' := by
  rw [← iter_step]
  have HU := Lib.hid (u32_ofNat i (by omega))
  go_enter Try.func13, Try.ntmps13
  go_wp2_with fail
  go_loop [3, 4] (fun x i' => ∃ k : Nat, k ≤ 8 ∧ i' = .int .i64 (k : Int) ∧ x = .int .u32 (u32 (iter CrcP.step k (BitVec.ofNat 32 i)))) (fun _ i => 8 - (intOf i).toNat)
  case atStart => exact ⟨0, Nat.zero_le _, rfl, by rw [iter, HU.out]⟩
  case round =>
    obtain ⟨k, hk, rfl, rfl⟩ := hrel
    by_cases hlt : k < 8
    · have HC := Lib.hid (refStep_any (iter CrcP.step k (BitVec.ofNat 32 i)))
      generalize hq : iter CrcP.step k (BitVec.ofNat 32 i) = q at *
      have HQ := Lib.hid hq
      clear hq
      go_wp2_with fail
      refine (HC.out _).mono ?_
      rintro e w' ⟨rfl, rfl⟩
      go_wp2_with fail
      go_round
      case rel => exact ⟨k + 1, by omega, by go_num, by rw [iter, HQ.out]⟩
      case measure => simp [intOf]; omega
    · have ek : k = 8 := by omega
      subst ek
      go_wp2_with fail
      go_ret
      exact ⟨rfl, rfl⟩

set_option maxHeartbeats 800000 in
theorem refSum_any (B : Nat) (A : Option Addr) (c n : Nat) (xs : List UInt8) (w : World) (hn : xs.length = n) (hR : Rd w B A xs) (hl : n ≤ 9223372036854775807) :
    Calls Try.prog 12 #[.slice A n c] w fun e w' => e = .returned (.int .u32 (u32 (CrcP.sum xs))) ∧ w = w' := by
  have HN := Lib.hid hn
  clear hn
  have H1 : Hid (u32 CrcP.ones = 4294967295) := by show _ = _; decide
  go_enter Try.func12, Try.ntmps12
  go_wp2_with fail
  go_loop [3, 4] (fun x i' => ∃ k : Nat, k ≤ n ∧ i' = .int .i64 (k : Int) ∧ x = .int .u32 (u32 (CrcP.feed CrcP.ones (xs.take k)))) (fun _ i => n - (intOf i).toNat)
  case atStart => exact ⟨0, Nat.zero_le _, rfl, by rw [List.take_zero, CrcP.feed_nil, H1.out]⟩
  case round =>
    obtain ⟨k, hk, rfl, rfl⟩ := hrel
    by_cases hlt : k < n
    · obtain ⟨b, off, cn, rfl, hb, hcell, hcn, HC⟩ := hR.byte (k := k) (by rw [HN.out]; exact hlt)
      clear hR
      have HF := Lib.hid (feed_take CrcP.ones xs k (by rw [HN.out]; exact hlt))
      generalize hq : CrcP.feed CrcP.ones (xs.take k) = q at *
      have HX : Hid (bits .xor .u32 (u32 q) (cn : Int) = u32 (iter CrcP.step 0 (q ^^^ CrcP.byte (xs.getD k 0)))) := by
        show _ = _
        rw [u32_byte _ _ HC.out, u32_xor_bv]; rfl
      have HQ := Lib.hid hq
      clear hq
      obtain ⟨s, hs⟩ : ∃ s, s = q ^^^ CrcP.byte (xs.getD k 0) := ⟨_, rfl⟩
      rw [← hs] at HX
      have HS := Lib.hid hs
      clear hs
      go_wp2_with fail
      go_loop [3, 5] (fun x i' => ∃ j : Nat, j ≤ 8 ∧ i' = .int .i64 (j : Int) ∧ x = .int .u32 (u32 (iter CrcP.step j s))) (fun _ i => 8 - (intOf i).toNat)
      case atStart => exact ⟨0, Nat.zero_le _, rfl, by rw [← HX.out]⟩
      case round =>
        obtain ⟨j, hj, rfl, rfl⟩ := hrel
        by_cases hj8 : j < 8
        · have HC := Lib.hid (refStep_any (iter CrcP.step j s))
          generalize hq : iter CrcP.step j s = t at *
          have HQ := Lib.hid hq
          clear hq
          go_wp2_with fail
          refine (HC.out _).mono ?_
          rintro e w' ⟨rfl, rfl⟩
          go_wp2_with fail
          go_round
          case rel => exact ⟨j + 1, by omega, by go_num, by rw [iter, HQ.out]⟩
          case measure => simp [intOf]; omega
        · have ej : j = 8 := by omega
          subst ej
          have HE : Hid (u32 (iter CrcP.step 8 s) = u32 (CrcP.feed CrcP.ones (xs.take (k + 1)))) := by
            show _ = _
            rw [HF.out, HS.out, iter_step]; rfl
          go_wp2_with fail
          go_round
          case rel => exact ⟨k + 1, by omega, by go_num, by rw [HE.out]⟩
          case measure => simp [intOf]; omega
    · have ek : k = n := by omega
      subst ek
      have hN : xs.take k = xs := List.take_of_length_le (by rw [HN.out]; exact Nat.le_refl _)
      have HE : Hid (bits .xor .u32 IntKind.u32.max (u32 (CrcP.feed CrcP.ones (xs.take k))) = u32 (CrcP.sum xs)) := by
        show _ = _
        rw [hN, CrcP.sum_def, ← u32_xor_bv, H1.out]
        rfl
      clear hN
      go_wp2_with fail
      go_ret
      exact ⟨by rw [← HE.out]; rfl, rfl⟩

/-- the machine in block g: its table is that of the checksum -/
def Mach (w : World) (g : Nat) : Prop :=
  ∃ cur : Array Value, w.heap[g]? = some (.cells cur 48 (0, 0)) ∧ ∀ j, j < 256 → cur[j]? = some (.int .u32 (u32 (CrcP.stepN 8 (BitVec.ofNat 32 j))))
theorem Mach.cell {w : World} {g : Nat} (h : Mach w g) (j : Nat) (hj : j < 256) : w.cell? ⟨g, j, none⟩ = some (.int .u32 (u32 (CrcP.stepN 8 (BitVec.ofNat 32 j)))) := by
  obtain ⟨cur, ho, hc⟩ := h
  rw [cell_of_row w g j cur _ (0, 0) ho]
  exact hc j hj
theorem Mach.keep {S : Nat → Prop} {w w' : World} {g : Nat} (h : Mach w g) (hc : Chg S w w') (hg : ¬ S g) : Mach w' g := by
  obtain ⟨cur, ho, hj⟩ := h
  exact ⟨cur, hc.obj ho hg, hj⟩

theorem next_plain (r : BitVec 32) (c : UInt8) (n j : Nat) (hn : n = r.toNat) (hj : j = (n % 256) ^^^ c.toNat) :
    CrcP.upd r c = BitVec.ofNat 32 (n / 256) ^^^ CrcP.stepN 8 (BitVec.ofNat 32 j) := by
  unfold CrcP.upd
  rw [CrcP.stepN8_split]
  have hc := UInt8.toNat_lt c
  have hr := r.isLt
  congr 1
  · apply BitVec.eq_of_toNat_eq
    rw [BitVec.toNat_ushiftRight, BitVec.toNat_xor, byte_toNat, BitVec.toNat_ofNat, Nat.shiftRight_xor_distrib, Nat.shiftRight_eq_div_pow, Nat.shiftRight_eq_div_pow, hn]
    rw [show c.toNat / 2 ^ 8 = 0 by omega, Nat.xor_zero]
    omega
  · congr 1
    apply BitVec.eq_of_toNat_eq
    have hx : (r.toNat % 256) ^^^ c.toNat < 256 := Nat.xor_lt_two_pow (n := 8) (by omega) (by omega)
    have e3 : (BitVec.ofNat 32 ((r.toNat % 256) ^^^ c.toNat)).toNat = (r.toNat % 256) ^^^ c.toNat := by
      rw [BitVec.toNat_ofNat]; exact Nat.mod_eq_of_lt (by omega)
    rw [hj, hn, e3, BitVec.toNat_and, BitVec.toNat_xor, byte_toNat]
    show (r.toNat ^^^ c.toNat) &&& 255 = _
    rw [nat_mask8, show (256 : Nat) = 2 ^ 8 from rfl, Nat.xor_mod_two_pow, Nat.mod_eq_of_lt (a := c.toNat) (by omega)]

set_option maxHeartbeats 400000 in
theorem next_any (g : Nat) (r : BitVec 32) (c : UInt8) (cn : Nat) (hcn : Hid (cn = c.toNat)) (w : World) (hM : Mach w g) :
    Calls Try.prog 23 #[.pointer (some ⟨g, 0, none⟩), .int .u32 (u32 r), .int .u8 (cn : Int)] w fun e w' => e = .returned (.int .u32 (u32 (CrcP.upd r c))) ∧ w = w' := by
  obtain ⟨n, hn, hlt, HN⟩ := u32_open r
  rw [hn]
  have hc8 : cn < 256 := by have := UInt8.toNat_lt c; have := hcn.out; omega
  obtain ⟨j, hj⟩ : ∃ j, j = (n % 256) ^^^ cn := ⟨_, rfl⟩
  have hjl : j < 256 := by rw [hj]; exact Nat.xor_lt_two_pow (n := 8) (by omega) (by omega)
  have hx : bits .xor .u8 ((n : Int) % 256) (cn : Int) = (j : Int) := by
    rw [hj, ← u8_xor_nat _ _ (by omega) hc8]; simp
  have hcell := hM.cell j hjl
  obtain ⟨z, hz⟩ : ∃ z, z = u32 (CrcP.upd r c) := ⟨_, rfl⟩
  rw [← hz]
  have HZ : Hid (z = bits .xor .u32 ((n : Int) / 256) (u32 (CrcP.stepN 8 (BitVec.ofNat 32 j)))) := by
    show _ = _
    rw [hz, next_plain r c n j HN.out (by rw [hj, hcn.out]), ← u32_xor_bv, u32_ofNat _ (by omega)]
    rfl
  generalize u32 (CrcP.stepN 8 (BitVec.ofNat 32 j)) = t at *
  clear hn hz hj hM
  go_enter Try.func23, Try.ntmps23
  go_wp2
  go_ret
  exact ⟨by rw [HZ.out]; rfl, rfl⟩

set_option maxHeartbeats 800000 in
theorem feed_any (g : Nat) (r : BitVec 32) (B : Nat) (A : Option Addr) (c n : Nat) (xs : List UInt8) (w : World) (hn : xs.length = n) (hR : Rd w B A xs) (hl : n ≤ 9223372036854775807) (hM : Mach w g) :
    Calls Try.prog 24 #[.int .u32 (u32 r), .func (.func 23) #[.pointer (some ⟨g, 0, none⟩)] #[], .slice A n c] w fun e w' => e = .returned (.int .u32 (u32 (CrcP.feed r xs))) ∧ w = w' := by
  have HN := Lib.hid hn
  have HM := Lib.hid hM
  clear hn hM
  go_enter Try.func24, Try.ntmps24
  go_wp2_with fail
  go_loop [0, 11] (fun x i' => ∃ k : Nat, k ≤ n ∧ i' = .int .i64 (k : Int) ∧ x = .int .u32 (u32 (CrcP.feed r (xs.take k)))) (fun _ i => n - (intOf i).toNat)
  case atStart => exact ⟨0, Nat.zero_le _, rfl, by rw [List.take_zero, CrcP.feed_nil]⟩
  case round =>
    obtain ⟨k, hk, rfl, rfl⟩ := hrel
    by_cases hlt : k < n
    · obtain ⟨b, off, cn, rfl, hb, hcell, hcn, HC⟩ := hR.byte (k := k) (by rw [HN.out]; exact hlt)
      clear hR
      have HF := Lib.hid (feed_take r xs k (by rw [HN.out]; exact hlt))
      generalize hq : CrcP.feed r (xs.take k) = q at *
      have HQ := Lib.hid hq
      clear hq
      go_wp2_with fail
      refine (next_any g q (xs.getD k 0) cn HC _ HM.out).mono ?_
      rintro e w' ⟨rfl, rfl⟩
      go_wp2_with fail
      go_round
      case rel => exact ⟨k + 1, by omega, by go_num, by rw [HF.out]; rfl⟩
      case measure => simp [intOf]; omega
    · have ek : k = n := by omega
      subst ek
      have HE : Hid (xs.take k = xs) := List.take_of_length_le (by rw [HN.out]; exact Nat.le_refl _)
      go_wp2_with fail
      go_ret
      exact ⟨by rw [HE.out]; rfl, rfl⟩
end Go.Proofs.Ytkpdeldegdngaaa
