/-
  Contracts of (View).Dirty and of its reference.
-/
import Derived.Test.YthnognjcbjgkbaaBuf2
namespace Go.Proofs.Ythnognjcbjgkbaa
set_option linter.unusedVariables false
open Go.RowKit

/-- the place of the first byte that is not zero, or -1 -/
def nzV : List UInt8 → Int
  | [] => -1
  | c :: l => if c = 0 then (if nzV l < 0 then -1 else nzV l + 1) else 0
theorem nz_found (p : List UInt8) : ∀ k : Nat, k < p.length → (∀ i, i < k → p.getD i 0 = 0) → p.getD k 0 ≠ 0 → nzV p = k := by
  induction p with
  | nil => intro k h; simp at h
  | cons c l ih =>
    intro k h hz hk
    cases k with
    | zero => simp [nzV]; intro hc; simp [hc] at hk
    | succ k =>
      have h0 : c = 0 := by simpa using hz 0 (by omega)
      have h1 := ih k (by simpa using h) (fun i hi => by simpa using hz (i + 1) (by omega)) (by simpa using hk)
      rw [nzV, if_pos h0, h1, if_neg (by omega)]
      omega
theorem nz_none (p : List UInt8) : (∀ i, i < p.length → p.getD i 0 = 0) → nzV p = -1 := by
  induction p with
  | nil => intro _; rfl
  | cons c l ih =>
    intro hz
    have h0 : c = 0 := by simpa using hz 0 (by simp)
    have h1 := ih (fun i hi => by simpa using hz (i + 1) (by simpa using hi))
    rw [nzV, if_pos h0, h1, if_pos (by omega)]
/-- what Dirty answers -/
def dirtyV (xs : List UInt8) (a m : Int) : Int :=
  if exB a m xs.length = true then (if nzV (part xs a.toNat m.toNat) < 0 then -1 else a + nzV (part xs a.toNat m.toNat)) else -2
theorem nzV_range (p : List UInt8) : -1 ≤ nzV p ∧ nzV p < p.length := by
  induction p with
  | nil => simp [nzV]
  | cons c l ih =>
    simp only [nzV, List.length_cons]
    split
    · split <;> omega
    · omega

set_option maxRecDepth 20000 in
set_option maxHeartbeats 400000 in
theorem IndexFunc_any (B : Nat) (A : Option Addr) (c n : Nat) (p : List UInt8) (w : World) (hn : p.length = n) (hR : Rd w B A p) (hl : n ≤ 9223372036854775807) :
    Calls Try.prog 58 #[.slice A n c, .func (.func 59) #[] #[]] w fun e w' => e = .returned (.int .i64 (nzV p)) ∧ w = w' := by
  have HN := Lib.hid hn
  clear hn
  go_enter Try.func58, Try.ntmps58
  go_wp2_with fail
  go_loop [8] (fun i => ∃ k : Nat, k ≤ n ∧ i = .int .i64 (k : Int) ∧ Hid (∀ i, i < k → p.getD i 0 = 0)) (fun i => n - (intOf i).toNat)
  case atStart => exact ⟨0, Nat.zero_le _, rfl, fun i hi => by omega⟩
  case round =>
    obtain ⟨k, hk, rfl, HZ⟩ := hrel
    by_cases hlt : k < n
    · obtain ⟨b, off, cn, rfl, hb, hcell, hcn, HC⟩ := hR.byte (k := k) (by rw [HN.out]; exact hlt)
      clear hR
      by_cases h0 : cn = 0
      · subst h0
        go_wp2
        go_round
        case rel =>
          refine ⟨k + 1, by omega, by go_num, fun i hi => ?_⟩
          by_cases e : i = k
          · subst e; apply UInt8.toNat_inj.1; rw [← HC.out]; rfl
          · exact HZ.out i (by omega)
        case measure => simp [intOf]; omega
      · have hne : ((cn : Int) != 0) = true := by simp; omega
        have H0 := Lib.hid h0
        clear h0
        go_wp2
        go_ret
        refine ⟨?_, rfl⟩
        rw [nz_found p k (by rw [HN.out]; exact hlt) HZ.out (fun h => H0.out (by rw [HC.out, h]; rfl))]
        rfl
    · have ek : k = n := by omega
      have EK := Lib.hid ek
      clear ek
      go_wp2
      go_ret
      refine ⟨?_, rfl⟩
      rw [nz_none p (by rw [HN.out, ← EK.out]; exact HZ.out)]
      rfl

set_option maxRecDepth 20000 in
set_option maxHeartbeats 400000 in
theorem Dirty_any (B : Nat) (A : Option Addr) (c : Nat) (xs : List UInt8) (a m : Int) (w : World) (hR : Rd w B A xs) (hc : xs.length ≤ c) (hn : c ≤ 9223372036854775807)
    (ha : -9223372036854775808 ≤ a ∧ a ≤ 9223372036854775807) (hm : -9223372036854775808 ≤ m ∧ m ≤ 9223372036854775807) :
    Calls Try.prog 48 #[.slice A xs.length c, .int .i64 a, .int .i64 m] w fun e w' => e = .returned (.int .i64 (dirtyV xs a m)) ∧ w = w' := by
  have H := Lib.hid (exists_any A xs.length c a m w (by omega) ha hm)
  obtain ⟨z, hz⟩ : ∃ z, z = dirtyV xs a m := ⟨_, rfl⟩
  rw [← hz]
  have HZ := Lib.hid hz
  clear hz
  cases hx : exB a m xs.length with
  | false =>
    have HX := Lib.hid hx
    clear hx hR
    go_enter Try.func48, Try.ntmps48
    go_wp2_with fail
    refine H.out.mono ?_
    rintro e w' ⟨rfl, rfl⟩
    rw [HX.out]
    go_wp2_with fail
    go_ret
    exact ⟨by rw [HZ.out]; unfold dirtyV; rw [if_neg (by simp [HX.out])]; rfl, rfl⟩
  | true =>
    obtain ⟨h1, h2, h3, h4⟩ := exB_iff.1 hx
    obtain ⟨a, rfl⟩ := Int.eq_ofNat_of_zero_le h1
    obtain ⟨m, rfl⟩ := Int.eq_ofNat_of_zero_le h2
    have hxn : a + m ≤ xs.length := by omega
    have HX := Lib.hid hx
    clear hx h1 h2 h3 h4 ha hm
    have hpl := Lib.hid (part_length (m := m) hxn)
    have hr := nzV_range (part xs a m)
    rw [hpl.out] at hr
    have HP : Hid (part xs a m = List.take (a + m - a) (List.drop a xs)) := by show _ = _; unfold part; rw [show a + m - a = m by omega]
    have HZ2 : Hid (z = if nzV (part xs a m) < 0 then -1 else a + nzV (part xs a m)) := by
      show _ = _
      rw [HZ.out]; unfold dirtyV; rw [if_pos HX.out]; rfl
    have HI := Lib.hid (fun A' c' (hA' : Rd w B A' (part xs a m)) => IndexFunc_any B A' c' m (part xs a m) w hpl.out hA' (by omega))
    generalize nzV (part xs a m) = q at *
    go_enter Try.func48, Try.ntmps48
    go_wp2_with (first
      | (go_at_call 57; refine H.out.mono ?_; rintro e w' ⟨rfl, rfl⟩; rw [HX.out])
      | (refine wpList_cut rfl (.tmp 13) (.tmp 14) (.tmp 17) 50 rfl rfl (by kernel_rfl) A xs.length c a (a + m) rfl rfl rfl (by omega) hxn hc B xs rfl hR ?_; intro A' hA'; rw [← HP.out] at hA'; have HI2 := Lib.hid (HI.out A' (c - a) hA'); clear hA')
      | (go_at_call 58; refine HI2.out.mono ?_; rintro e w' ⟨rfl, rfl⟩))
    all_goals
      go_ret
      refine ⟨?_, rfl⟩
      rw [HZ2.out]
      first | (rw [if_pos (by omega)]; rfl) | (rw [if_neg (by omega)]; rfl)

end Go.Proofs.Ythnognjcbjgkbaa
