/-
  What the law CrcBursts computes: true.
-/
import Derived.Test.YtkpdeldegdngaaaAlive02
import Derived.Test.YtkpdeldegdngaaaOwn2
import Derived.BigRegion
namespace Go.Proofs.Ytkpdeldegdngaaa
set_option linter.unusedVariables false
open Go.RowKit

theorem bit_of (n k : Nat) (hn : n < 4294967296) : (BitVec.ofNat 32 n).getLsbD k = decide (n / 2 ^ k % 2 = 1) := by
  have e : n % 2 ^ 32 = n := Nat.mod_eq_of_lt hn
  rw [BitVec.getLsbD, BitVec.toNat_ofNat, e, Nat.testBit_eq_decide_div_mod_eq]
theorem flip_set (l : List UInt8) (j : Nat) (x : Nat) (hx : x = (l.getD (j / 8) 0).toNat) : CrcP.flip l j = l.set (j / 8) (UInt8.ofNat (x ^^^ 2 ^ (j % 8))) := by
  unfold CrcP.flip
  congr 1
  apply UInt8.toNat_inj.1
  have h8 : 2 ^ (j % 8) < 256 := Nat.pow_lt_pow_right (a := 2) (m := j % 8) (n := 8) (by omega) (by omega)
  have hl := UInt8.toNat_lt (l.getD (j / 8) 0)
  have hx2 : (l.getD (j / 8) 0).toNat ^^^ 2 ^ (j % 8) < 256 := Nat.xor_lt_two_pow (n := 8) (by omega) (by omega)
  generalize 2 ^ (j % 8) = p at *
  rw [UInt8.toNat_xor, UInt8.toNat_ofNat', UInt8.toNat_ofNat', hx]
  rw [show p % 2 ^ 8 = p by omega, show ((l.getD (j / 8) 0).toNat ^^^ p) % 2 ^ 8 = (l.getD (j / 8) 0).toNat ^^^ p by omega]

set_option maxRecDepth 100000 in
set_option maxHeartbeats 3200000 in
theorem CrcBursts_small (A : Option Addr) (c : Nat) (xs : List UInt8) (at_ ch : Nat) (w : World) (hR : Rd w w.heap.size A xs)
    (h1 : (xs.length : Int) ≤ 300) (ha : at_ < 65536) (hch : ch < 4294967296) (hc0 : ((ch : Int) == 0) = false) :
    Calls Try.prog 5 #[.slice A xs.length c, .int .u16 (at_ : Int), .int .u32 (ch : Int)] w (AliveOK w) := by
  have HR := Lib.hid hR
  have HLS : Hid ((CrcP.sealOf xs).length = xs.length + 4) := CrcP.sealOf_length xs
  have hne : BitVec.ofNat 32 ch ≠ 0#32 := by
    intro h
    have := congrArg BitVec.toNat h
    rw [BitVec.toNat_ofNat, Nat.mod_eq_of_lt (by omega)] at this
    simp at hc0
    exact hc0 this
  have HNB : Hid (∀ start, start + 32 ≤ 8 * (CrcP.sealOf xs).length → CrcP.isSealed (CrcP.burst (CrcP.sealOf xs) start (BitVec.ofNat 32 ch) 32) = false) := fun start hs => CrcP.burst_not_sealed xs start _ hs hne
  have HS := Lib.hid (refSeal_any w.heap.size A c xs.length xs w rfl hR (Nat.le_refl _) (by omega))
  clear hR hne
  generalize CrcP.sealOf xs = zs at *
  have hz := HLS.out
  generalize xs.length = n at *
  go_enter Try.func5, Try.ntmps5
  go_wp2_with fail
  refine HS.out.mono ?_
  rintro e w1 ⟨A1, c1, rfl, ho1, hf1, hb1⟩
  rw [hz]
  have hzl := ho1.le
  obtain ⟨st, hst, hst2⟩ : ∃ st : Nat, Hid ((at_ : Int) % (8 * ((n : Int) + 4) - 31) = (st : Int)) ∧ st + 32 ≤ 8 * (n + 4) := by
    refine ⟨at_ % (8 * (n + 4) - 31), ?_, ?_⟩
    · have : ((8 * (n + 4) - 31 : Nat) : Int) = 8 * ((n : Int) + 4) - 31 := by omega
      show _ = _
      rw [Int.natCast_emod, this]
    · have := Nat.mod_lt at_ (y := 8 * (n + 4) - 31) (by omega); omega
  have HO1 := Lib.hid ho1
  have HF1 : Hid (∀ k, blk A1 = some k → w.heap.size ≤ k) := hf1
  have HB1 := Lib.hid hb1
  clear ho1 hf1 hb1 hz hzl
  go_wp2_with fail
  rw [hst.out]
  go_loopw [27] (fun i wr => ∃ k : Nat, k ≤ 32 ∧ i = .int .i64 (k : Int) ∧ Own wr A1 c1 (CrcP.burst zs st (BitVec.ofNat 32 ch) k) ∧ Below w.heap.size w wr) (fun i _ => 32 - (intOf i).toNat)
  case atStart => exact ⟨0, Nat.zero_le _, rfl, HO1.out, HB1.out⟩
  case round =>
    obtain ⟨k, hk, rfl, hO, hB⟩ := hrel
    have HO := Lib.hid hO
    have HB := Lib.hid hB
    have HLB := Lib.hid (CrcP.burst_length zs st (BitVec.ofNat 32 ch) k)
    by_cases hlt : k < 32
    · have HBIT := Lib.hid (bit_of ch k hch)
      have HDEF : Hid (CrcP.burst zs st (BitVec.ofNat 32 ch) (k + 1) = if (BitVec.ofNat 32 ch).getLsbD k then CrcP.flip (CrcP.burst zs st (BitVec.ofNat 32 ch) k) (st + k) else CrcP.burst zs st (BitVec.ofNat 32 ch) k) := rfl
      have hb : bits .and .u32 ((ch : Int) / 2 ^ k) 1 = ((ch / 2 ^ k % 2 : Nat) : Int) := by
        have h := u32_and_nat (ch / 2 ^ k) 1 (Nat.lt_of_le_of_lt (Nat.div_le_self _ _) hch) (by omega)
        rw [nat_mask1] at h
        rw [← h]
        simp
      by_cases hbit : ch / 2 ^ k % 2 = 1
      · rw [hbit] at hb
        have hq : (st + k) / 8 < n + 4 := by omega
        obtain ⟨g, x, rfl, hcell, hfr, hx, HX⟩ := hO.byteAt (k := (st + k) / 8) (by rw [HLB.out, HLS.out]; exact hq)
        have HN : Hid (CrcP.burst zs st (BitVec.ofNat 32 ch) (k + 1) = (CrcP.burst zs st (BitVec.ofNat 32 ch) k).set ((st + k) / 8) (UInt8.ofNat (x ^^^ 2 ^ ((st + k) % 8)))) := by
          show _ = _
          rw [HDEF.out, HBIT.out, hbit, ← flip_set _ (st + k) x HX.out]
          rfl
        clear hO hB hbit
        go_wp2_with fail
        obtain ⟨wz, rfl⟩ : ∃ wz : World, wz = wr := ⟨_, rfl⟩
        go_region
        go_wp2
        go_roundw
        case rel =>
          refine ⟨k + 1, by omega, by go_num, ?_, (HB.out.setCell (HF1.out g rfl) _).drew⟩
          rw [HN.out]
          have hm : (st + k) % 8 < 8 := Nat.mod_lt _ (by omega)
          generalize (st + k) % 8 = m at *
          have h8 : 2 ^ m < 256 := Nat.pow_lt_pow_right (a := 2) (m := m) (n := 8) (by omega) (by omega)
          have hv : bits .xor .u8 (x : Int) (2 ^ m % 256) = ((UInt8.ofNat (x ^^^ 2 ^ m)).toNat : Int) := by
            have h := u8_xor_nat x (2 ^ m) hx h8
            have hx2 : x ^^^ 2 ^ m < 256 := Nat.xor_lt_two_pow (n := 8) (by omega) (by omega)
            have e : ((2 : Int) ^ m % 256) = ((2 ^ m : Nat) : Int) := by
              have e2 : ((2 ^ m : Nat) : Int) = (2 : Int) ^ m := by simp
              rw [← e2]
              exact Int.emod_eq_of_lt (Int.natCast_nonneg _) (Int.ofNat_lt.2 h8)
            rw [e, h, UInt8.toNat_ofNat', Nat.mod_eq_of_lt (by omega)]
          exact HO.out.set_ _ _ _ hv
        case measure => simp [intOf]; omega
      · have h0 : ch / 2 ^ k % 2 = 0 := by omega
        rw [h0] at hb
        have HN : Hid (CrcP.burst zs st (BitVec.ofNat 32 ch) (k + 1) = CrcP.burst zs st (BitVec.ofNat 32 ch) k) := by
          show _ = _
          rw [HDEF.out, HBIT.out, decide_eq_false hbit]
          rfl
        clear hO hB hbit h0
        go_wp2_with fail
        go_roundw
        case rel => exact ⟨k + 1, by omega, by go_num, by rw [HN.out]; exact HO.out, HB.out⟩
        case measure => simp [intOf]; omega
    · have ek : k = 32 := by omega
      subst ek
      have HIS := Lib.hid (HNB.out st (by rw [HLS.out]; exact hst2))
      generalize CrcP.burst zs st (BitVec.ofNat 32 ch) 32 = us at *
      clear hO hB
      go_wp2_with fail
      refine (alive02 _).mono ?_
      rintro e w2 ⟨rfl, hb2⟩
      have HO2 := Lib.hid (HO.out.keep (S := fun _ => False) (Chg.of_below hb2) (fun _ _ h => h))
      have HB2 := Lib.hid (HB.out.trans (hb2.mono HB.out.size))
      clear hb2
      go_wp2_with fail
      refine (Sealed_any A1 c1 _ us w2 (by rw [HLB.out, HLS.out]) HO2.out.rd (by have := HO2.out.le.1; rw [HLB.out, HLS.out] at this; exact this) (by omega)).mono ?_
      rintro e w3 ⟨rfl, hb3⟩
      rw [HIS.out]
      go_wp2
      go_ret
      exact ⟨rfl, HB2.out.trans (hb3.mono HB2.out.size)⟩

set_option maxHeartbeats 800000 in
theorem CrcBursts_any (A : Option Addr) (c : Nat) (xs : List UInt8) (at_ ch : Nat) (w : World) (hR : Rd w w.heap.size A xs) (ha : at_ < 65536) (hch : ch < 4294967296) :
    Calls Try.prog 5 #[.slice A xs.length c, .int .u16 (at_ : Int), .int .u32 (ch : Int)] w (AliveOK w) := by
  by_cases h1 : xs.length ≤ 300
  · by_cases h2 : ch = 0
    · have e1 : (xs.length : Int) ≤ 300 := by omega
      have e2 : ((ch : Int) == 0) = true := by simp [h2]
      clear hR
      go_enter Try.func5, Try.ntmps5
      go_wp2_with fail
      refine (alive02 _).mono ?_
      rintro e w1 ⟨rfl, hb1⟩
      go_wp2_with fail
      go_ret
      exact ⟨rfl, hb1⟩
    · exact CrcBursts_small A c xs at_ ch w hR (by omega) ha hch (by simp [h2])
  · have e1 : (300 : Int) < (xs.length : Int) := by omega
    clear hR
    go_enter Try.func5, Try.ntmps5
    go_wp2_with fail
    refine (alive02 _).mono ?_
    rintro e w1 ⟨rfl, hb1⟩
    go_wp2_with fail
    go_ret
    exact ⟨rfl, hb1⟩
end Go.Proofs.Ytkpdeldegdngaaa
