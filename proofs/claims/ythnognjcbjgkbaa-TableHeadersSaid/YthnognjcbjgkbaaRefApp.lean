/-
  Contract of the reference's Append (a number of n bytes is appended to a copy).
-/
import Derived.Test.YthnognjcbjgkbaaBuf4
namespace Go.Proofs.Ythnognjcbjgkbaa
set_option linter.unusedVariables false
open Go.RowKit

/-- the call's own row grows by its own kind: what is below stays -/
structure Kept (w wr : World) (A : Option Addr) (c : Nat) (xs : List UInt8) : Prop where
  own : Own wr A c xs
  fresh : ∀ k, blk A = some k → w.heap.size ≤ k
  bel : Below w.heap.size w wr
theorem Kept.grown {w wr w' : World} {A A' : Option Addr} {c c' : Nat} {xs ys : List UInt8} (h : Kept w wr A c xs) {o : Obj} (hown : Own w' A' c' ys) (hg : (wr.alloc o).grownBy w' (blk A)) (hat : blk A' = blk A ∨ blk A' = some (wr.alloc o).heap.size) : Kept w w' A' c' ys := by
  refine ⟨hown, fun k hk => ?_, (h.bel.alloc h.bel.size o).grown hg (by have := h.bel.size; simp; omega) (fun k e => h.fresh k e)⟩
  rcases hat with e | e
  · exact h.fresh k (e.symm.trans hk)
  · have := Option.some.inj (e.symm.trans hk)
    have := h.bel.size
    simp at *; omega

set_option maxRecDepth 20000 in
set_option maxHeartbeats 800000 in
theorem refAppend_any (B : Nat) (A : Option Addr) (m c : Nat) (xs : List UInt8) (x n : Nat) (w : World) (hm : xs.length = m) (hR : Rd w B A xs) (hB : B ≤ w.heap.size) (hn : n ≤ 8) (hx : x < 18446744073709551616) (hlen : xs.length ≤ 100000000) :
    Calls Try.prog 38 #[.slice A m c, .int .u64 (x : Int), .int .i64 (n : Int)] w (Made w (xs ++ leB x n)) := by
  have HR := Lib.hid hR
  have HM := Lib.hid hm
  clear hR hm
  go_enter Try.func38, Try.ntmps38
  go_wp2_with (at_builtin; refine wpList_app rfl (.tmp 9) (.tmp 10) 44 rfl Try.underlying44 infoU8 (some ⟨w.heap.size, 0, none⟩) 0 0 [] rfl rfl (Own.empty w) B A m c xs HM.out rfl (HR.out.alloc hB _) (by simp; omega) ?_; intro A1 c1 w1 hown hg hat hnn)
  have HK0 : Hid (Kept w w1 A1 c1 xs) := by
    refine ⟨hown, fun k hk => ?_, ((Below.refl _ w).alloc (Nat.le_refl _) _).grown hg (by simp) (fun k e => Nat.le_of_eq (Option.some.inj e))⟩
    rcases hat with h | h
    · exact Nat.le_of_eq (Option.some.inj (h.symm.trans hk))
    · have := Option.some.inj (h.symm.trans hk); simp at this; omega
  clear hown hg hat hnn
  go_loopw [1, 7, 8] (fun y z i wr => ∃ (k : Nat) (A' : Option Addr) (c' : Nat), k ≤ n ∧ i = .int .i64 (k : Int) ∧ y = .int .u64 ((x / 2 ^ (8 * k) : Nat) : Int) ∧ z = .slice A' (xs ++ leB x k).length c' ∧ Kept w wr A' c' (xs ++ leB x k)) (fun _ _ i _ => n - (intOf i).toNat)
  case atStart => exact ⟨0, A1, c1, Nat.zero_le _, rfl, by simp, by simp [leB], by simpa [leB] using HK0.out⟩
  case round =>
    obtain ⟨k, A', c', hk, rfl, rfl, rfl, hK⟩ := hrel
    have HK := Lib.hid hK
    clear hK HK0
    by_cases hlt : k < n
    · obtain ⟨y, hy⟩ : ∃ y, y = x / 2 ^ (8 * k) := ⟨_, rfl⟩
      rw [← hy]
      have e8 : (y : Int) % 256 = ((UInt8.ofNat (x / 2 ^ (8 * k))).toNat : Int) := by
        rw [UInt8.toNat_ofNat', hy]; simp
      have E8 := Lib.hid e8
      have hyl : y < 18446744073709551616 := Nat.lt_of_le_of_lt (hy ▸ Nat.div_le_self _ _) hx
      have HY : Hid (x / 2 ^ (8 * (k + 1)) = y / 256) := by
        show _ = _
        rw [hy, Nat.div_div_eq_div_mul, show 8 * (k + 1) = 8 * k + 8 by omega, Nat.pow_add]
      have HL : Hid ((xs ++ leB x k).length = xs.length + k) := by show _ = _; simp [leB_length]
      have hq : IntKind.u64.wrap ((y : Int).tdiv 256) = ((y / 256 : Nat) : Int) := by
        rw [Int.tdiv_eq_ediv_of_nonneg (by omega)]
        exact IntWalk.u64_in _ (by omega)
      clear e8 hy
      go_wp2_with (at_builtin; refine wpList_app rfl (.tmp 17) (.tmp 20) 44 rfl Try.underlying44 infoU8 A' (xs ++ leB x k).length c' (xs ++ leB x k) rfl rfl (HK.out.own.alloc _) (wr.heap.size + 1) _ 1 1 [UInt8.ofNat (x / 2 ^ (8 * k))] rfl rfl (Rd.one _ _ _ E8.out) (by rw [HL.out]; simp; omega) ?_; intro A2 c2 w2 hown hg hat hnn; have HK2 := Lib.hid (HK.out.grown hown hg hat); clear hown hg hat hnn)
      go_roundw
      case rel => exact ⟨k + 1, A2, c2, by omega, by go_num, by rw [HY.out]; simp, by rw [leB_succ, ← List.append_assoc]; simp, by rw [leB_succ, ← List.append_assoc]; exact HK2.out⟩
      case measure => simp [intOf]; omega
    · have ek : k = n := by omega
      subst ek
      go_wp2_with fail
      go_ret
      exact ⟨A', c', rfl, HK.out.own, HK.out.fresh, HK.out.bel⟩
end Go.Proofs.Ythnognjcbjgkbaa
