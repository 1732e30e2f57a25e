/-
  A port's record among bytes, plainly; PutPort at a builder of the call's own.
-/
import Derived.Test.YtpeajffnhmmaeaaName8
import Derived.Test.YtpeajffnhmmaeaaName10
namespace Go.Proofs.Ytpeajffnhmmaeaa
set_option linter.unusedVariables false
open Go.RowKit

theorem fl_bit1 (o q : Bool) : (bits .and .u8 ((flB o q : Nat) : Int) 1 != 0) = o := by cases o <;> cases q <;> kernel_rfl
theorem fl_bit2 (o q : Bool) : (bits .and .u8 ((flB o q : Nat) : Int) 2 != 0) = q := by cases o <;> cases q <;> kernel_rfl
theorem clear_port (pre post : List UInt8) (x y : Nat) (s : ByteArray) (o q : Bool) (z : Nat) (hx : x < 65536) (hy : y < 65536) (hs : vldP s) (hz : z < 4294967296) :
    Clear (resPort (pre ++ portB x y s o q z ++ post) pre.length) #[.int .u16 (x : Int), .int .u16 (y : Int), .string s, .bool o, .bool q, .int .u32 (z : Int)] (codePort (pre ++ portB x y s o q z ++ post) pre.length) (placePort (pre ++ portB x y s o q z ++ post) pre.length) := by
  have hs30 := hs.2.1
  have hfl := flB_lt o q
  have e0 : numV (pre ++ portB x y s o q z ++ post) (pre.length : Int) 2 = x := by
    have := numV_mid pre (leB y 2 ++ leB s.size 1 ++ leB (flB o q) 1 ++ List.replicate 2 0 ++ leB z 4 ++ padL s ++ List.replicate 6 0 ++ post) x 2 pre.length 2 rfl rfl
    rw [Nat.mod_eq_of_lt (show x < 256 ^ 2 by omega)] at this
    refine Eq.trans ?_ this; unfold portB; simp only [List.append_assoc]
  have e1 : numV (pre ++ portB x y s o q z ++ post) ((pre.length : Int) + 2) 2 = y := by
    have := numV_mid (pre ++ leB x 2) (leB s.size 1 ++ leB (flB o q) 1 ++ List.replicate 2 0 ++ leB z 4 ++ padL s ++ List.replicate 6 0 ++ post) y 2 ((pre.length : Int) + 2) 2 (by simp only [List.length_append, leB_length]; omega) rfl
    rw [Nat.mod_eq_of_lt (show y < 256 ^ 2 by omega)] at this
    refine Eq.trans ?_ this; unfold portB; simp only [List.append_assoc]
  have e2 : numV (pre ++ portB x y s o q z ++ post) ((pre.length : Int) + 4) 1 = s.size := by
    have := numV_mid (pre ++ leB x 2 ++ leB y 2) (leB (flB o q) 1 ++ List.replicate 2 0 ++ leB z 4 ++ padL s ++ List.replicate 6 0 ++ post) s.size 1 ((pre.length : Int) + 4) 1 (by simp only [List.length_append, leB_length]; omega) rfl
    rw [Nat.mod_eq_of_lt (show s.size < 256 ^ 1 by omega)] at this
    refine Eq.trans ?_ this; unfold portB; simp only [List.append_assoc]
  have e3 : numV (pre ++ portB x y s o q z ++ post) ((pre.length : Int) + 5) 1 = flB o q := by
    have := numV_mid (pre ++ leB x 2 ++ leB y 2 ++ leB s.size 1) (List.replicate 2 0 ++ leB z 4 ++ padL s ++ List.replicate 6 0 ++ post) (flB o q) 1 ((pre.length : Int) + 5) 1 (by simp only [List.length_append, leB_length]; omega) rfl
    rw [Nat.mod_eq_of_lt (show flB o q < 256 ^ 1 by omega)] at this
    refine Eq.trans ?_ this; unfold portB; simp only [List.append_assoc]
  have e5 : numV (pre ++ portB x y s o q z ++ post) ((pre.length : Int) + 8) 4 = z := by
    have := numV_mid (pre ++ leB x 2 ++ leB y 2 ++ leB s.size 1 ++ leB (flB o q) 1 ++ List.replicate 2 0) (padL s ++ List.replicate 6 0 ++ post) z 4 ((pre.length : Int) + 8) 4 (by simp only [List.length_append, leB_length, List.length_replicate]; omega) rfl
    rw [Nat.mod_eq_of_lt (show z < 256 ^ 4 by omega)] at this
    refine Eq.trans ?_ this; unfold portB; simp only [List.append_assoc]
  have e4 : part (pre ++ portB x y s o q z ++ post) ((pre.length : Int) + 12).toNat 30 = padL s := by
    have := part_mid (pre ++ leB x 2 ++ leB y 2 ++ leB s.size 1 ++ leB (flB o q) 1 ++ List.replicate 2 0 ++ leB z 4) (padL s) (List.replicate 6 0 ++ post)
    have hl : (pre ++ leB x 2 ++ leB y 2 ++ leB s.size 1 ++ leB (flB o q) 1 ++ List.replicate 2 0 ++ leB z 4).length = ((pre.length : Int) + 12).toNat := by simp only [List.length_append, leB_length, List.length_replicate]; omega
    rw [padL_len, hl] at this
    refine Eq.trans ?_ this; unfold portB; simp only [List.append_assoc]
  have ed1 : dirtyV (pre ++ portB x y s o q z ++ post) ((pre.length : Int) + 6) 2 = -1 := by
    have := dirty_mid (pre ++ leB x 2 ++ leB y 2 ++ leB s.size 1 ++ leB (flB o q) 1) (leB z 4 ++ padL s ++ List.replicate 6 0 ++ post) 2 ((pre.length : Int) + 6) 2 (by simp only [List.length_append, leB_length]; omega) rfl
    refine Eq.trans ?_ this; unfold portB; simp only [List.append_assoc]
  have ed2 : dirtyV (pre ++ portB x y s o q z ++ post) ((pre.length : Int) + 42) 6 = -1 := by
    have := dirty_mid (pre ++ leB x 2 ++ leB y 2 ++ leB s.size 1 ++ leB (flB o q) 1 ++ List.replicate 2 0 ++ leB z 4 ++ padL s) post 6 ((pre.length : Int) + 42) 6 (by simp only [List.length_append, leB_length, List.length_replicate, padL_len]; omega) rfl
    refine Eq.trans ?_ this; unfold portB; simp only [List.append_assoc]
  obtain ⟨n1, n2⟩ := name_mid _ ((pre.length : Int) + 4) ((pre.length : Int) + 12) s hs e2 e4
  have m1 : mstC 0 ((flB o q : Nat) : Int) 3 = 0 := by unfold mstC; rw [if_neg (by omega)]
  have m2 : ∀ p, mstA 0 0 ((flB o q : Nat) : Int) 3 p = 0 := fun p => by unfold mstA; rw [if_neg (by omega)]
  have hd : DCPort (pre ++ portB x y s o q z ++ post) pre.length = 0 := by unfold DCPort; rw [ed1, ed2]; rfl
  have hda : DAPort (pre ++ portB x y s o q z ++ post) pre.length = 0 := by unfold DAPort; rw [ed1, ed2]; rfl
  have c1 : ∀ p, nmC 0 true = 0 ∧ nmA 0 0 true p = 0 := fun _ => ⟨rfl, rfl⟩
  have hf : FCPort (pre ++ portB x y s o q z ++ post) pre.length = 0 := by unfold FCPort; rw [n1, e3, (c1 0).1, m1]
  have hfa : FAPort (pre ++ portB x y s o q z ++ post) pre.length = 0 := by unfold FAPort; rw [n1, e3, (c1 0).1, (c1 _).2, m2]
  refine ⟨?_, ?_, ?_⟩
  · unfold resPort
    rw [if_pos ⟨hf, hd⟩]
    unfold valPort
    rw [e0, e1, e3, e5, n2, fl_bit1, fl_bit2]
  · unfold codePort; rw [hd, hf]; rfl
  · unfold placePort; rw [hda, hf, hfa]; rfl

theorem PutPort_ok (w wi : World) (g : Nat) (zs : List UInt8) (h : BOk w wi g zs) (x y : Nat) (s : ByteArray) (o q : Bool) (z : Nat) (hx : x < 65536) (hy : y < 65536) (hs : s.size ≤ 30) (hz : z < 4294967296) (hlen : zs.length ≤ 90000) :
    Calls Try.prog 12 #[.pointer (some ⟨g, 0, none⟩), .agg #[.int .u16 (x : Int), .int .u16 (y : Int), .string s, .bool o, .bool q, .int .u32 (z : Int)]] wi fun e w' => e = .returned (.tuple #[]) ∧ BOk w w' g (zs ++ portB x y s o q z) := by
  obtain ⟨A, c, h1, h2, h3, h4⟩ := h
  exact (PutPort_any g c A zs x y s o q z wi h1 hx hy hs hz (by omega)).mono fun _ _ ⟨he, hG⟩ => ⟨he, BOk.grew h2 h3 h4 hG⟩
end Go.Proofs.Ytpeajffnhmmaeaa
