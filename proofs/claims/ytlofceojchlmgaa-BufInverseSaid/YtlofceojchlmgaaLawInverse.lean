/-
  What the law BufInverse computes: true.
-/
import Derived.Test.YtlofceojchlmgaaBOk
import Derived.Test.YtlofceojchlmgaaPart
import Derived.Test.YtlofceojchlmgaaAlive03
namespace Go.Proofs.Ytlofceojchlmgaa
set_option linter.unusedVariables false
open Go.RowKit

theorem alive_from {w w0 : World} {e : Ending} {w' : World} (hb : Below w0.heap.size w0 w) (h : AliveOK w e w') : e = .returned (.bool true) ∧ Below w0.heap.size w0 w' :=
  ⟨h.1, hb.trans (h.2.mono hb.size)⟩

/-- all that the law appends -/
def invZ (xs : List UInt8) (x : Nat) (ys : List UInt8) : List UInt8 := xs ++ leB x 8 ++ leB (x % 4294967296) 4 ++ leB (x % 65536) 2 ++ leB (x % 256) 1 ++ ys
theorem invZ_len (xs : List UInt8) (x : Nat) (ys : List UInt8) : (invZ xs x ys).length = xs.length + 15 + ys.length := by
  unfold invZ; simp [leB_length]; omega
theorem inv64 (xs : List UInt8) (x : Nat) (ys : List UInt8) (hx : x < 18446744073709551616) : numV (invZ xs x ys) xs.length 8 = x ∧ exB xs.length 8 (invZ xs x ys).length = true := by
  have e : invZ xs x ys = xs ++ leB x 8 ++ (leB (x % 4294967296) 4 ++ leB (x % 65536) 2 ++ leB (x % 256) 1 ++ ys) := by unfold invZ; simp only [List.append_assoc]
  rw [e]
  exact ⟨(numV_mid xs _ x 8 _ 8 rfl rfl).trans (Nat.mod_eq_of_lt (by omega)), exB_mid _ _ _ _ _ rfl (by rw [leB_length]; rfl)⟩
theorem inv32 (xs : List UInt8) (x : Nat) (ys : List UInt8) : numV (invZ xs x ys) ((xs.length : Int) + 8) 4 = x % 4294967296 ∧ exB ((xs.length : Int) + 8) 4 (invZ xs x ys).length = true := by
  have e : invZ xs x ys = (xs ++ leB x 8) ++ leB (x % 4294967296) 4 ++ (leB (x % 65536) 2 ++ leB (x % 256) 1 ++ ys) := by unfold invZ; simp only [List.append_assoc]
  have h : ((xs.length : Int) + 8) = ((xs ++ leB x 8).length : Int) := by simp [leB_length]
  rw [e]
  exact ⟨(numV_mid _ _ _ 4 _ 4 h rfl).trans (Nat.mod_eq_of_lt (by omega)), exB_mid _ _ _ _ _ h (by rw [leB_length]; rfl)⟩
theorem inv16 (xs : List UInt8) (x : Nat) (ys : List UInt8) : numV (invZ xs x ys) ((xs.length : Int) + 12) 2 = x % 65536 ∧ exB ((xs.length : Int) + 12) 2 (invZ xs x ys).length = true := by
  have e : invZ xs x ys = (xs ++ leB x 8 ++ leB (x % 4294967296) 4) ++ leB (x % 65536) 2 ++ (leB (x % 256) 1 ++ ys) := by unfold invZ; simp only [List.append_assoc]
  have h : ((xs.length : Int) + 12) = ((xs ++ leB x 8 ++ leB (x % 4294967296) 4).length : Int) := by simp [leB_length]
  rw [e]
  exact ⟨(numV_mid _ _ _ 2 _ 2 h rfl).trans (Nat.mod_eq_of_lt (by omega)), exB_mid _ _ _ _ _ h (by rw [leB_length]; rfl)⟩
theorem inv8 (xs : List UInt8) (x : Nat) (ys : List UInt8) : numV (invZ xs x ys) ((xs.length : Int) + 14) 1 = x % 256 ∧ exB ((xs.length : Int) + 14) 1 (invZ xs x ys).length = true := by
  have e : invZ xs x ys = (xs ++ leB x 8 ++ leB (x % 4294967296) 4 ++ leB (x % 65536) 2) ++ leB (x % 256) 1 ++ ys := by unfold invZ; simp only [List.append_assoc]
  have h : ((xs.length : Int) + 14) = ((xs ++ leB x 8 ++ leB (x % 4294967296) 4 ++ leB (x % 65536) 2).length : Int) := by simp [leB_length]
  rw [e]
  exact ⟨(numV_mid _ _ _ 1 _ 1 h rfl).trans (Nat.mod_eq_of_lt (by omega)), exB_mid _ _ _ _ _ h (by rw [leB_length]; rfl)⟩
theorem invP (xs : List UInt8) (x : Nat) (ys : List UInt8) : part (invZ xs x ys) (xs.length + 15) ys.length = ys := by
  have e : invZ xs x ys = (xs ++ leB x 8 ++ leB (x % 4294967296) 4 ++ leB (x % 65536) 2 ++ leB (x % 256) 1) ++ ys ++ [] := by unfold invZ; simp only [List.append_assoc, List.append_nil]
  have h : xs.length + 15 = (xs ++ leB x 8 ++ leB (x % 4294967296) 4 ++ leB (x % 65536) 2 ++ leB (x % 256) 1).length := by simp [leB_length]
  rw [e, h]
  exact part_mid _ _ _

set_option maxHeartbeats 3200000 in
set_option maxRecDepth 100000 in
theorem BufInverse_small (A : Option Addr) (c : Nat) (xs : List UInt8) (x : Nat) (Y : Option Addr) (cy : Nat) (ys : List UInt8) (w : World) (hR : Rd w w.heap.size A xs) (hY : Rd w w.heap.size Y ys) (hx : x < 18446744073709551616)
    (h1 : xs.length ≤ 300) (h2 : ys.length ≤ 300) :
    Calls Try.prog 4 #[.slice A xs.length c, .int .u64 (x : Int), .slice Y ys.length cy] w (AliveOK w) := by
  have HR := Lib.hid hR
  have HY := Lib.hid hY
  clear hR hY
  have e16 : IntKind.u16.wrap (x : Int) = (x : Int) % 65536 := IntKind.wrap_u16 _
  go_enter Try.func4, Try.ntmps4
  go_wp2_with fail
  refine (New_ok w.heap.size A xs.length c xs w rfl HR.out (Nat.le_refl _) (by omega)).mono ?_
  rintro e w1 ⟨g, rfl, hb1⟩
  go_wp2_with fail
  refine (Len_ok w w1 g xs hb1).mono ?_
  rintro e w' ⟨rfl, rfl⟩
  go_wp2_with fail
  refine (putU64_ok w w1 g xs hb1 x hx (by omega)).mono ?_
  rintro e w2 ⟨rfl, hb2⟩
  clear hb1
  go_wp2_with fail
  refine (putU32_ok w w2 g _ hb2 (x % 4294967296) (by omega) (by simp [leB_length]; omega)).mono ?_
  rintro e w3 ⟨rfl, hb3⟩
  clear hb2
  go_wp2_with fail
  refine (putU16_ok w w3 g _ hb3 (x % 65536) (by omega) (by simp [leB_length]; omega)).mono ?_
  rintro e w4 ⟨rfl, hb4⟩
  clear hb3
  go_wp2_with fail
  refine (putU8_ok w w4 g _ hb4 (x % 256) (by omega) (by simp [leB_length]; omega)).mono ?_
  rintro e w5 ⟨rfl, hb5⟩
  clear hb4
  go_wp2_with fail
  refine (Add_ok w w5 g _ hb5 w.heap.size Y ys.length cy ys rfl (HY.out.below hb5.bel) (by simp [leB_length]; omega)).mono ?_
  rintro e w6 ⟨rfl, hb6⟩
  clear hb5
  have hb6' : BOk w w6 g (invZ xs x ys) := hb6
  clear hb6
  go_wp2_with fail
  refine (Bytes_ok w w6 g _ hb6' (by rw [invZ_len]; omega)).mono ?_
  rintro e w7 ⟨A7, c7, rfl, ho7, hf7, hb7⟩
  clear hb6'
  have hle := ho7.le
  have H8 := Lib.hid (U64_any w7.heap.size A7 c7 (invZ xs x ys) xs.length w7 ho7.rd hle.1 hle.2 (by omega))
  have H4 := Lib.hid (U32_any w7.heap.size A7 c7 (invZ xs x ys) ((xs.length : Int) + 8) w7 ho7.rd hle.1 hle.2 (by omega))
  have H2 := Lib.hid (U16_any w7.heap.size A7 c7 (invZ xs x ys) ((xs.length : Int) + 12) w7 ho7.rd hle.1 hle.2 (by omega))
  have H1 := Lib.hid (U8_any w7.heap.size A7 c7 (invZ xs x ys) ((xs.length : Int) + 14) w7 ho7.rd hle.1 hle.2 (by omega))
  have HP := Lib.hid (Part_nat w7.heap.size A7 c7 (invZ xs x ys) (xs.length + 15) ys.length w7 ho7.rd (Nat.le_refl _) hle.1 hle.2 (by rw [invZ_len]; omega) (by rw [invZ_len]; omega))
  rw [(inv64 xs x ys hx).1, (inv64 xs x ys hx).2] at H8
  rw [(inv32 xs x ys).1, (inv32 xs x ys).2] at H4
  rw [(inv16 xs x ys).1, (inv16 xs x ys).2] at H2
  rw [(inv8 xs x ys).1, (inv8 xs x ys).2] at H1
  rw [invP xs x ys] at HP
  have HL := Lib.hid (invZ_len xs x ys)
  generalize invZ xs x ys = zs at *
  have HB := Lib.hid hb7
  clear hb7 ho7 hf7
  go_wp2_with fail
  refine H8.out.mono ?_
  rintro e w' ⟨rfl, rfl⟩
  go_wp2_with fail
  refine H4.out.mono ?_
  rintro e w' ⟨rfl, rfl⟩
  go_wp2_with fail
  refine H2.out.mono ?_
  rintro e w' ⟨rfl, rfl⟩
  go_wp2_with fail
  refine H1.out.mono ?_
  rintro e w' ⟨rfl, rfl⟩
  go_wp2_with fail
  refine HP.out.mono ?_
  rintro e w8 ⟨A8, c8, rfl, ho8, hf8, hb8⟩
  have HB8 := Lib.hid (HB.out.next hb8)
  have HO8 := Lib.hid ho8
  clear ho8 hf8 hb8 HB H8 H4 H2 H1 HP
  go_wp2_with fail
  refine (alive03 _).mono ?_
  rintro e w9 ⟨rfl, hb9⟩
  have HB9 := Lib.hid (HB8.out.next hb9)
  have HR9 := Lib.hid (HO8.out.rd.below hb9)
  have HY9 := Lib.hid (HY.out.below HB9.out.bel)
  clear hb9 HB8 HO8
  go_wp2_with fail
  refine (Equal_any _ A8 c8 ys _ Y cy ys ys.length ys.length w9 rfl rfl HR9.out HY9.out (by omega) (by omega)).mono ?_
  rintro e w10 ⟨rfl, d, rfl⟩
  rw [decide_eq_true (Eq.refl ys)]
  have HB10 := HB9.out.drewN d
  clear HB9 HR9 HY9
  go_wp2_with fail
  refine (Len_ok w _ g zs HB10).mono ?_
  rintro e w' ⟨rfl, rfl⟩
  rw [HL.out]
  go_wp2_with fail
  go_ret
  exact ⟨rfl, HB10.bel⟩

set_option maxHeartbeats 800000 in
theorem BufInverse_any (A : Option Addr) (c : Nat) (xs : List UInt8) (x : Nat) (Y : Option Addr) (cy : Nat) (ys : List UInt8) (w : World) (hR : Rd w w.heap.size A xs) (hY : Rd w w.heap.size Y ys) (hx : x < 18446744073709551616) :
    Calls Try.prog 4 #[.slice A xs.length c, .int .u64 (x : Int), .slice Y ys.length cy] w (AliveOK w) := by
  by_cases h1 : xs.length ≤ 300
  · by_cases h2 : ys.length ≤ 300
    · exact BufInverse_small A c xs x Y cy ys w hR hY hx h1 h2
    · have e1 : (xs.length : Int) ≤ 300 := by omega
      have e2 : (300 : Int) < (ys.length : Int) := by omega
      clear hR hY
      go_enter Try.func4, Try.ntmps4
      go_wp2_with fail
      refine (alive03 _).mono ?_
      rintro e w1 ⟨rfl, hb1⟩
      go_wp2_with fail
      go_ret
      exact ⟨rfl, hb1⟩
  · have e1 : (300 : Int) < (xs.length : Int) := by omega
    clear hR hY
    go_enter Try.func4, Try.ntmps4
    go_wp2_with fail
    refine (alive03 _).mono ?_
    rintro e w1 ⟨rfl, hb1⟩
    go_wp2_with fail
    go_ret
    exact ⟨rfl, hb1⟩
end Go.Proofs.Ytlofceojchlmgaa
