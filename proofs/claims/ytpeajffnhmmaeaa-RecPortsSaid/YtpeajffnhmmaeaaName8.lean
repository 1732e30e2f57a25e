/-
  A partition's record among bytes, plainly; PutPartition at a builder of the call's own.
-/
import Derived.Test.YtpeajffnhmmaeaaName7
namespace Go.Proofs.Ytpeajffnhmmaeaa
set_option linter.unusedVariables false
open Go.RowKit

theorem strB_data (s : ByteArray) : strB s.data.toList = s := by
  cases s
  simp [strB]
theorem unp_pad (s : ByteArray) (h : vldP s) : unpB (padL s) (s.size : Int) = true ∧ unpS (padL s) (s.size : Int) = s := by
  have e : padL s = s.data.toList ++ List.replicate (30 - s.size) 0 := by unfold padL; rw [if_pos h]
  have ht : (padL s).take s.size = s.data.toList := by rw [e, ← strData_len s]; exact List.take_left
  have hu : 0 ≤ (s.size : Int) ∧ (s.size : Int) ≤ 30 ∧ unpP (padL s) (s.size : Int).toNat := by
    refine ⟨by omega, by have := h.2.1; omega, ?_⟩
    rw [Int.toNat_natCast]
    unfold unpP
    rw [ht, strB_data]
    exact ⟨h, e⟩
  have := unp_yes hu
  rw [Int.toNat_natCast, ht, strB_data] at this
  exact this
theorem name_mid (xs : List UInt8) (p q : Int) (s : ByteArray) (h : vldP s) (hn : numV xs p 1 = s.size) (hp : part xs q.toNat 30 = padL s) : nameB xs p q = true ∧ nameS xs p q = s := by
  unfold nameB nameS
  rw [hn, hp]
  exact unp_pad s h

theorem clear_part (pre post : List UInt8) (x : Nat) (s : ByteArray) (p d : Nat) (hx : x < 65536) (hs : vldP s) (hp : p < 18446744073709551616) (hd : d < 18446744073709551616) :
    Clear (resPartition (pre ++ partB x s p d ++ post) pre.length) #[.int .u16 (x : Int), .string s, .int .u64 (p : Int), .int .u64 (d : Int)] (codePartition (pre ++ partB x s p d ++ post) pre.length) (placePartition (pre ++ partB x s p d ++ post) pre.length) := by
  have hs30 := hs.2.1
  have e0 : numV (pre ++ partB x s p d ++ post) (pre.length : Int) 2 = x := by
    have := numV_mid pre (leB s.size 1 ++ List.replicate 1 0 ++ padL s ++ List.replicate 6 0 ++ leB p 8 ++ leB d 8 ++ post) x 2 pre.length 2 rfl rfl
    rw [Nat.mod_eq_of_lt (show x < 256 ^ 2 by omega)] at this
    refine Eq.trans ?_ this; unfold partB; simp only [List.append_assoc]
  have e1 : numV (pre ++ partB x s p d ++ post) ((pre.length : Int) + 2) 1 = s.size := by
    have := numV_mid (pre ++ leB x 2) (List.replicate 1 0 ++ padL s ++ List.replicate 6 0 ++ leB p 8 ++ leB d 8 ++ post) s.size 1 ((pre.length : Int) + 2) 1 (by simp only [List.length_append, leB_length]; omega) rfl
    rw [Nat.mod_eq_of_lt (show s.size < 256 ^ 1 by omega)] at this
    refine Eq.trans ?_ this; unfold partB; simp only [List.append_assoc]
  have e2 : part (pre ++ partB x s p d ++ post) ((pre.length : Int) + 4).toNat 30 = padL s := by
    have := part_mid (pre ++ leB x 2 ++ leB s.size 1 ++ List.replicate 1 0) (padL s) (List.replicate 6 0 ++ leB p 8 ++ leB d 8 ++ post)
    have hl : (pre ++ leB x 2 ++ leB s.size 1 ++ List.replicate 1 0).length = ((pre.length : Int) + 4).toNat := by simp only [List.length_append, leB_length, List.length_replicate]; omega
    rw [padL_len, hl] at this
    refine Eq.trans ?_ this; unfold partB; simp only [List.append_assoc]
  have e3 : numV (pre ++ partB x s p d ++ post) ((pre.length : Int) + 40) 8 = p := by
    have := numV_mid (pre ++ leB x 2 ++ leB s.size 1 ++ List.replicate 1 0 ++ padL s ++ List.replicate 6 0) (leB d 8 ++ post) p 8 ((pre.length : Int) + 40) 8 (by simp only [List.length_append, leB_length, List.length_replicate, padL_len]; omega) rfl
    rw [Nat.mod_eq_of_lt (show p < 256 ^ 8 from hp)] at this
    refine Eq.trans ?_ this; unfold partB; simp only [List.append_assoc]
  have e4 : numV (pre ++ partB x s p d ++ post) ((pre.length : Int) + 48) 8 = d := by
    have := numV_mid (pre ++ leB x 2 ++ leB s.size 1 ++ List.replicate 1 0 ++ padL s ++ List.replicate 6 0 ++ leB p 8) post d 8 ((pre.length : Int) + 48) 8 (by simp only [List.length_append, leB_length, List.length_replicate, padL_len]; omega) rfl
    rw [Nat.mod_eq_of_lt (show d < 256 ^ 8 from hd)] at this
    refine Eq.trans ?_ this; unfold partB; simp only [List.append_assoc]
  have ed1 : dirtyV (pre ++ partB x s p d ++ post) ((pre.length : Int) + 3) 1 = -1 := by
    have := dirty_mid (pre ++ leB x 2 ++ leB s.size 1) (padL s ++ List.replicate 6 0 ++ leB p 8 ++ leB d 8 ++ post) 1 ((pre.length : Int) + 3) 1 (by simp only [List.length_append, leB_length]; omega) rfl
    refine Eq.trans ?_ this; unfold partB; simp only [List.append_assoc]
  have ed2 : dirtyV (pre ++ partB x s p d ++ post) ((pre.length : Int) + 34) 6 = -1 := by
    have := dirty_mid (pre ++ leB x 2 ++ leB s.size 1 ++ List.replicate 1 0 ++ padL s) (leB p 8 ++ leB d 8 ++ post) 6 ((pre.length : Int) + 34) 6 (by simp only [List.length_append, leB_length, List.length_replicate, padL_len]; omega) rfl
    refine Eq.trans ?_ this; unfold partB; simp only [List.append_assoc]
  obtain ⟨n1, n2⟩ := name_mid _ ((pre.length : Int) + 2) ((pre.length : Int) + 4) s hs e1 e2
  have hd : DCPartition (pre ++ partB x s p d ++ post) pre.length = 0 := by unfold DCPartition; rw [ed1, ed2]; rfl
  have hda : DAPartition (pre ++ partB x s p d ++ post) pre.length = 0 := by unfold DAPartition; rw [ed1, ed2]; rfl
  have hf : FCPartition (pre ++ partB x s p d ++ post) pre.length = 0 := by unfold FCPartition; rw [n1]; rfl
  have hfa : FAPartition (pre ++ partB x s p d ++ post) pre.length = 0 := by unfold FAPartition; rw [n1]; rfl
  refine ⟨?_, ?_, ?_⟩
  · unfold resPartition
    rw [if_pos ⟨hf, hd⟩]
    unfold valPartition
    rw [e0, e3, e4, n2]
  · unfold codePartition; rw [hd, hf]; rfl
  · unfold placePartition; rw [hda, hf, hfa]; rfl

theorem PutPartition_ok (w wi : World) (g : Nat) (zs : List UInt8) (h : BOk w wi g zs) (x : Nat) (s : ByteArray) (p d : Nat) (hx : x < 65536) (hs : s.size ≤ 30) (hp : p < 18446744073709551616) (hd : d < 18446744073709551616) (hlen : zs.length ≤ 90000) :
    Calls Try.prog 19 #[.pointer (some ⟨g, 0, none⟩), .agg #[.int .u16 (x : Int), .string s, .int .u64 (p : Int), .int .u64 (d : Int)]] wi fun e w' => e = .returned (.tuple #[]) ∧ BOk w w' g (zs ++ partB x s p d) := by
  obtain ⟨A, c, h1, h2, h3, h4⟩ := h
  exact (PutPartition_any g c A zs x s p d wi h1 hx hs hp hd (by omega)).mono fun _ _ ⟨he, hG⟩ => ⟨he, BOk.grew h2 h3 h4 hG⟩
end Go.Proofs.Ytpeajffnhmmaeaa
