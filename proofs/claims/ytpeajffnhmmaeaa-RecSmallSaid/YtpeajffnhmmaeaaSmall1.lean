/-
  Records among bytes, plainly; the Put functions at a builder of the call's own.
-/
import Derived.Test.YtpeajffnhmmaeaaRecH
import Derived.Test.YtpeajffnhmmaeaaRecI
import Derived.Test.YtpeajffnhmmaeaaRecJ
import Derived.Test.YtpeajffnhmmaeaaRecK
import Derived.Test.YtpeajffnhmmaeaaRef2
import Derived.Test.YtpeajffnhmmaeaaRef3
namespace Go.Proofs.Ytpeajffnhmmaeaa
set_option linter.unusedVariables false
open Go.RowKit

theorem nzV_zeros (m : Nat) : nzV (List.replicate m 0) = -1 := nz_none _ (fun i hi => by simp at hi; simp [List.getD, hi])
theorem dirty_mid (a c : List UInt8) (m : Nat) (n k : Int) (hn : n = a.length) (hk : k = m) : dirtyV (a ++ List.replicate m 0 ++ c) n k = -1 := by
  subst hn; subst hk
  unfold dirtyV
  rw [if_pos (exB_mid a (List.replicate m 0) c _ _ rfl (by simp)), Int.toNat_natCast, Int.toNat_natCast]
  have := part_mid a (List.replicate m 0) c
  rw [List.length_replicate] at this
  rw [this, nzV_zeros, if_pos (by omega)]
theorem zeroC_no : zeroC 0 (-1) = 0 := rfl
theorem zeroA_no : zeroA 0 0 (-1) = 0 := rfl

/-- what a Get function answers for a record without fault -/
def Clear (R V : Array Value) (fc fa : Int) : Prop := R = V ∧ fc = 0 ∧ fa = 0

theorem clear_win (pre post : List UInt8) (x y z : Nat) (hx : x < 18446744073709551616) (hy : y < 18446744073709551616) (hz : z < 65536) :
    Clear (resWindow (pre ++ winB x y z ++ post) pre.length) #[.int .u64 (x : Int), .int .u64 (y : Int), .int .u16 (z : Int)] (codeWindow (pre ++ winB x y z ++ post) pre.length) (placeWindow (pre ++ winB x y z ++ post) pre.length) := by
  have e0 : numV (pre ++ winB x y z ++ post) (pre.length : Int) 8 = x := by
    have := numV_mid pre (leB y 8 ++ leB z 2 ++ List.replicate 6 0 ++ post) x 8 pre.length 8 rfl rfl
    rw [Nat.mod_eq_of_lt (show x < 256 ^ 8 from hx)] at this
    refine Eq.trans ?_ this; unfold winB; simp only [List.append_assoc]
  have e1 : numV (pre ++ winB x y z ++ post) ((pre.length : Int) + 8) 8 = y := by
    have := numV_mid (pre ++ leB x 8) (leB z 2 ++ List.replicate 6 0 ++ post) y 8 ((pre.length : Int) + 8) 8 (by simp only [List.length_append, leB_length]; omega) rfl
    rw [Nat.mod_eq_of_lt (show y < 256 ^ 8 from hy)] at this
    refine Eq.trans ?_ this; unfold winB; simp only [List.append_assoc]
  have e2 : numV (pre ++ winB x y z ++ post) ((pre.length : Int) + 16) 2 = z := by
    have := numV_mid (pre ++ leB x 8 ++ leB y 8) (List.replicate 6 0 ++ post) z 2 ((pre.length : Int) + 16) 2 (by simp only [List.length_append, leB_length]; omega) rfl
    rw [Nat.mod_eq_of_lt (show z < 256 ^ 2 by omega)] at this
    refine Eq.trans ?_ this; unfold winB; simp only [List.append_assoc]
  have ed : dirtyV (pre ++ winB x y z ++ post) ((pre.length : Int) + 18) 6 = -1 := by
    have := dirty_mid (pre ++ leB x 8 ++ leB y 8 ++ leB z 2) post 6 ((pre.length : Int) + 18) 6 (by simp only [List.length_append, leB_length]; omega) rfl
    refine Eq.trans ?_ this; unfold winB; simp only [List.append_assoc]
  have hd : DCWindow (pre ++ winB x y z ++ post) pre.length = 0 := by unfold DCWindow; rw [ed]; rfl
  have hda : DAWindow (pre ++ winB x y z ++ post) pre.length = 0 := by unfold DAWindow; rw [ed]; rfl
  refine ⟨?_, ?_, ?_⟩
  · unfold resWindow
    rw [if_pos ⟨rfl, hd⟩]
    unfold valWindow
    rw [e0, e1, e2]
  · unfold codeWindow; rw [hd]; rfl
  · unfold placeWindow; rw [hda]; rfl
theorem clear_head (pre post : List UInt8) (x y z : Nat) (hx : x < 65536) (hy : y < 65536) (hz : z < 65536) :
    Clear (resHead (pre ++ headB x y z ++ post) pre.length) #[.int .u16 (x : Int), .int .u16 (y : Int), .int .u16 (z : Int)] (codeHead (pre ++ headB x y z ++ post) pre.length) (placeHead (pre ++ headB x y z ++ post) pre.length) := by
  have e0 : numV (pre ++ headB x y z ++ post) (pre.length : Int) 2 = x := by
    have := numV_mid pre (leB y 2 ++ leB z 2 ++ List.replicate 2 0 ++ post) x 2 pre.length 2 rfl rfl
    rw [Nat.mod_eq_of_lt (show x < 256 ^ 2 by omega)] at this
    refine Eq.trans ?_ this; unfold headB; simp only [List.append_assoc]
  have e1 : numV (pre ++ headB x y z ++ post) ((pre.length : Int) + 2) 2 = y := by
    have := numV_mid (pre ++ leB x 2) (leB z 2 ++ List.replicate 2 0 ++ post) y 2 ((pre.length : Int) + 2) 2 (by simp only [List.length_append, leB_length]; omega) rfl
    rw [Nat.mod_eq_of_lt (show y < 256 ^ 2 by omega)] at this
    refine Eq.trans ?_ this; unfold headB; simp only [List.append_assoc]
  have e2 : numV (pre ++ headB x y z ++ post) ((pre.length : Int) + 4) 2 = z := by
    have := numV_mid (pre ++ leB x 2 ++ leB y 2) (List.replicate 2 0 ++ post) z 2 ((pre.length : Int) + 4) 2 (by simp only [List.length_append, leB_length]; omega) rfl
    rw [Nat.mod_eq_of_lt (show z < 256 ^ 2 by omega)] at this
    refine Eq.trans ?_ this; unfold headB; simp only [List.append_assoc]
  have ed : dirtyV (pre ++ headB x y z ++ post) ((pre.length : Int) + 6) 2 = -1 := by
    have := dirty_mid (pre ++ leB x 2 ++ leB y 2 ++ leB z 2) post 2 ((pre.length : Int) + 6) 2 (by simp only [List.length_append, leB_length]; omega) rfl
    refine Eq.trans ?_ this; unfold headB; simp only [List.append_assoc]
  have hd : DCHead (pre ++ headB x y z ++ post) pre.length = 0 := by unfold DCHead; rw [ed]; rfl
  have hda : DAHead (pre ++ headB x y z ++ post) pre.length = 0 := by unfold DAHead; rw [ed]; rfl
  refine ⟨?_, ?_, ?_⟩
  · unfold resHead
    rw [if_pos ⟨rfl, hd⟩]
    unfold valHead
    rw [e0, e1, e2]
  · unfold codeHead; rw [hd]; rfl
  · unfold placeHead; rw [hda]; rfl
theorem clear_link (pre post : List UInt8) (x y : Nat) (hx : x < 65536) (hy : y < 65536) :
    Clear (resLink (pre ++ linkB x y ++ post) pre.length) #[.int .u16 (x : Int), .int .u16 (y : Int)] (codeLink (pre ++ linkB x y ++ post) pre.length) (placeLink (pre ++ linkB x y ++ post) pre.length) := by
  have e0 : numV (pre ++ linkB x y ++ post) (pre.length : Int) 2 = x := by
    have := numV_mid pre (leB y 2 ++ List.replicate 4 0 ++ post) x 2 pre.length 2 rfl rfl
    rw [Nat.mod_eq_of_lt (show x < 256 ^ 2 by omega)] at this
    refine Eq.trans ?_ this; unfold linkB; simp only [List.append_assoc]
  have e1 : numV (pre ++ linkB x y ++ post) ((pre.length : Int) + 2) 2 = y := by
    have := numV_mid (pre ++ leB x 2) (List.replicate 4 0 ++ post) y 2 ((pre.length : Int) + 2) 2 (by simp only [List.length_append, leB_length]; omega) rfl
    rw [Nat.mod_eq_of_lt (show y < 256 ^ 2 by omega)] at this
    refine Eq.trans ?_ this; unfold linkB; simp only [List.append_assoc]
  have ed : dirtyV (pre ++ linkB x y ++ post) ((pre.length : Int) + 4) 4 = -1 := by
    have := dirty_mid (pre ++ leB x 2 ++ leB y 2) post 4 ((pre.length : Int) + 4) 4 (by simp only [List.length_append, leB_length]; omega) rfl
    refine Eq.trans ?_ this; unfold linkB; simp only [List.append_assoc]
  have hd : DCLink (pre ++ linkB x y ++ post) pre.length = 0 := by unfold DCLink; rw [ed]; rfl
  have hda : DALink (pre ++ linkB x y ++ post) pre.length = 0 := by unfold DALink; rw [ed]; rfl
  refine ⟨?_, ?_, ?_⟩
  · unfold resLink
    rw [if_pos ⟨rfl, hd⟩]
    unfold valLink
    rw [e0, e1]
  · unfold codeLink; rw [hd]; rfl
  · unfold placeLink; rw [hda]; rfl
theorem clear_reg (pre post : List UInt8) (x y z t : Nat) (b : Bool) (hx : x < 18446744073709551616) (hy : y < 18446744073709551616) (hz : z < 65536) (ht : t ≤ 7) :
    Clear (resRegion (pre ++ regB x y z t b ++ post) pre.length) #[.int .u64 (x : Int), .int .u64 (y : Int), .int .u16 (z : Int), .int .u8 (t : Int), .bool b] (codeRegion (pre ++ regB x y z t b ++ post) pre.length) (placeRegion (pre ++ regB x y z t b ++ post) pre.length) := by
  have e0 : numV (pre ++ regB x y z t b ++ post) (pre.length : Int) 8 = x := by
    have := numV_mid pre (leB y 8 ++ leB z 2 ++ leB t 1 ++ leB (if b then 1 else 0) 1 ++ List.replicate 4 0 ++ post) x 8 pre.length 8 rfl rfl
    rw [Nat.mod_eq_of_lt (show x < 256 ^ 8 from hx)] at this
    refine Eq.trans ?_ this; unfold regB; simp only [List.append_assoc]
  have e1 : numV (pre ++ regB x y z t b ++ post) ((pre.length : Int) + 8) 8 = y := by
    have := numV_mid (pre ++ leB x 8) (leB z 2 ++ leB t 1 ++ leB (if b then 1 else 0) 1 ++ List.replicate 4 0 ++ post) y 8 ((pre.length : Int) + 8) 8 (by simp only [List.length_append, leB_length]; omega) rfl
    rw [Nat.mod_eq_of_lt (show y < 256 ^ 8 from hy)] at this
    refine Eq.trans ?_ this; unfold regB; simp only [List.append_assoc]
  have e2 : numV (pre ++ regB x y z t b ++ post) ((pre.length : Int) + 16) 2 = z := by
    have := numV_mid (pre ++ leB x 8 ++ leB y 8) (leB t 1 ++ leB (if b then 1 else 0) 1 ++ List.replicate 4 0 ++ post) z 2 ((pre.length : Int) + 16) 2 (by simp only [List.length_append, leB_length]; omega) rfl
    rw [Nat.mod_eq_of_lt (show z < 256 ^ 2 by omega)] at this
    refine Eq.trans ?_ this; unfold regB; simp only [List.append_assoc]
  have e3 : numV (pre ++ regB x y z t b ++ post) ((pre.length : Int) + 18) 1 = t := by
    have := numV_mid (pre ++ leB x 8 ++ leB y 8 ++ leB z 2) (leB (if b then 1 else 0) 1 ++ List.replicate 4 0 ++ post) t 1 ((pre.length : Int) + 18) 1 (by simp only [List.length_append, leB_length]; omega) rfl
    rw [Nat.mod_eq_of_lt (show t < 256 ^ 1 by omega)] at this
    refine Eq.trans ?_ this; unfold regB; simp only [List.append_assoc]
  have e4 : numV (pre ++ regB x y z t b ++ post) ((pre.length : Int) + 19) 1 = (if b then 1 else 0) := by
    have := numV_mid (pre ++ leB x 8 ++ leB y 8 ++ leB z 2 ++ leB t 1) (List.replicate 4 0 ++ post) (if b then 1 else 0) 1 ((pre.length : Int) + 19) 1 (by simp only [List.length_append, leB_length]; omega) rfl
    rw [Nat.mod_eq_of_lt (show (if b then 1 else 0) < 256 ^ 1 by split <;> omega)] at this
    refine Eq.trans ?_ this; unfold regB; simp only [List.append_assoc]
  have ed : dirtyV (pre ++ regB x y z t b ++ post) ((pre.length : Int) + 20) 4 = -1 := by
    have := dirty_mid (pre ++ leB x 8 ++ leB y 8 ++ leB z 2 ++ leB t 1 ++ leB (if b then 1 else 0) 1) post 4 ((pre.length : Int) + 20) 4 (by simp only [List.length_append, leB_length]; omega) rfl
    refine Eq.trans ?_ this; unfold regB; simp only [List.append_assoc]
  have hd : DCRegion (pre ++ regB x y z t b ++ post) pre.length = 0 := by unfold DCRegion; rw [ed]; rfl
  have hda : DARegion (pre ++ regB x y z t b ++ post) pre.length = 0 := by unfold DARegion; rw [ed]; rfl
  have m1 : mstC 0 (t : Int) 7 = 0 := by unfold mstC; rw [if_neg (by omega)]
  have m2 : mstC 0 (((if b then 1 else 0 : Nat) : Nat) : Int) 1 = 0 := by unfold mstC; rw [if_neg (by split <;> omega)]
  have n1 : ∀ p, mstA 0 0 (t : Int) 7 p = 0 := fun p => by unfold mstA; rw [if_neg (by omega)]
  have n2 : ∀ p, mstA 0 0 (((if b then 1 else 0 : Nat) : Nat) : Int) 1 p = 0 := fun p => by unfold mstA; rw [if_neg (by split <;> omega)]
  have hf : FCRegion (pre ++ regB x y z t b ++ post) pre.length = 0 := by unfold FCRegion; rw [e3, e4, m1, m2]
  have hfa : FARegion (pre ++ regB x y z t b ++ post) pre.length = 0 := by unfold FARegion; rw [e3, e4, m1, n1, n2]
  refine ⟨?_, ?_, ?_⟩
  · unfold resRegion
    rw [if_pos ⟨hf, hd⟩]
    unfold valRegion
    rw [e0, e1, e2, e3, e4]
    cases b <;> rfl
  · unfold codeRegion; rw [hd, hf]; rfl
  · unfold placeRegion; rw [hda, hf, hfa]; rfl

theorem winB_len (x y z : Nat) : (winB x y z).length = 24 := by simp [winB, leB_length]
theorem regB_len (x y z t : Nat) (b : Bool) : (regB x y z t b).length = 24 := by simp [regB, leB_length]
theorem headB_len (x y z : Nat) : (headB x y z).length = 8 := by simp [headB, leB_length]
theorem linkB_len (x y : Nat) : (linkB x y).length = 8 := by simp [linkB, leB_length]

theorem PutWindow_ok (w wi : World) (g : Nat) (zs : List UInt8) (h : BOk w wi g zs) (x y z : Nat) (hx : x < 18446744073709551616) (hy : y < 18446744073709551616) (hz : z < 65536) (hlen : zs.length ≤ 100000) :
    Calls Try.prog 24 #[.pointer (some ⟨g, 0, none⟩), .agg #[.int .u64 (x : Int), .int .u64 (y : Int), .int .u16 (z : Int)]] wi fun e w' => e = .returned (.tuple #[]) ∧ BOk w w' g (zs ++ winB x y z) := by
  obtain ⟨A, c, h1, h2, h3, h4⟩ := h
  exact (PutWindow_any g c A zs x y z wi h1 hx hy hz (by omega)).mono fun _ _ ⟨he, hG⟩ => ⟨he, BOk.grew h2 h3 h4 (by simpa only [winB, List.append_assoc] using hG)⟩
theorem PutRegion_ok (w wi : World) (g : Nat) (zs : List UInt8) (h : BOk w wi g zs) (x y z t : Nat) (b : Bool) (hx : x < 18446744073709551616) (hy : y < 18446744073709551616) (hz : z < 65536) (ht : t < 256) (hlen : zs.length ≤ 100000) :
    Calls Try.prog 21 #[.pointer (some ⟨g, 0, none⟩), .agg #[.int .u64 (x : Int), .int .u64 (y : Int), .int .u16 (z : Int), .int .u8 (t : Int), .bool b]] wi fun e w' => e = .returned (.tuple #[]) ∧ BOk w w' g (zs ++ regB x y z t b) := by
  obtain ⟨A, c, h1, h2, h3, h4⟩ := h
  exact (PutRegion_any g c A zs x y z t b wi h1 hx hy hz ht (by omega)).mono fun _ _ ⟨he, hG⟩ => ⟨he, BOk.grew h2 h3 h4 (by simpa only [regB, List.append_assoc] using hG)⟩
theorem PutHead_ok (w wi : World) (g : Nat) (zs : List UInt8) (h : BOk w wi g zs) (x y z : Nat) (hx : x < 65536) (hy : y < 65536) (hz : z < 65536) (hlen : zs.length ≤ 100000) :
    Calls Try.prog 25 #[.pointer (some ⟨g, 0, none⟩), .agg #[.int .u16 (x : Int), .int .u16 (y : Int), .int .u16 (z : Int)]] wi fun e w' => e = .returned (.tuple #[]) ∧ BOk w w' g (zs ++ headB x y z) := by
  obtain ⟨A, c, h1, h2, h3, h4⟩ := h
  exact (PutHead_any g c A zs x y z wi h1 hx hy hz (by omega)).mono fun _ _ ⟨he, hG⟩ => ⟨he, BOk.grew h2 h3 h4 (by simpa only [headB, List.append_assoc] using hG)⟩
theorem PutLink_ok2 (w wi : World) (g : Nat) (zs : List UInt8) (h : BOk w wi g zs) (x y : Nat) (hx : x < 65536) (hy : y < 65536) (hlen : zs.length ≤ 100000) :
    Calls Try.prog 26 #[.pointer (some ⟨g, 0, none⟩), .agg #[.int .u16 (x : Int), .int .u16 (y : Int)]] wi fun e w' => e = .returned (.tuple #[]) ∧ BOk w w' g (zs ++ linkB x y) :=
  (PutLink_ok w wi g zs h x y hx hy (by omega)).mono fun _ _ ⟨he, hB⟩ => ⟨he, by simpa only [linkB, List.append_assoc] using hB⟩
end Go.Proofs.Ytpeajffnhmmaeaa
