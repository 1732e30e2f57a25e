/-
  A builder that the call itself has made, as one word; its methods in that word. Plain laws on numbers in bytes.
-/
import Derived.Test.YthnognjcbjgkbaaBuf5
namespace Go.Proofs.Ythnognjcbjgkbaa
set_option linter.unusedVariables false
open Go.RowKit

/-- since the world w a builder has been made, in block g; in the world wi it holds the bytes zs; what lay in w is as it was -/
def BOk (w wi : World) (g : Nat) (zs : List UInt8) : Prop :=
  ∃ A c, Bld wi g A c zs ∧ Below w.heap.size w wi ∧ w.heap.size ≤ g ∧ ∀ k, blk A = some k → w.heap.size ≤ k
theorem BOk.bel {w wi : World} {g : Nat} {zs : List UInt8} (h : BOk w wi g zs) : Below w.heap.size w wi := by obtain ⟨_, _, _, h, _⟩ := h; exact h
theorem BOk.grew {w wi w' : World} {g : Nat} {A : Option Addr} {zs : List UInt8} (hbel : Below w.heap.size w wi) (hg : w.heap.size ≤ g) (hA : ∀ k, blk A = some k → w.heap.size ≤ k) (h : Grew wi g A zs w') : BOk w w' g zs := by
  obtain ⟨A', c', hb, hc, hr⟩ := h
  refine ⟨A', c', hb, hbel.trans (hc.below (fun k hk => ?_) hbel.size), hg, fun k hk => ?_⟩
  · rcases hk with hk | hk
    · omega
    · exact hA k hk
  · rcases hr k hk with h1 | h1
    · exact hA k h1
    · exact Nat.le_trans hbel.size h1
/-- a step that turns nothing that was there -/
theorem BOk.next {w wi w' : World} {g : Nat} {zs : List UInt8} (h : BOk w wi g zs) (hb : Below wi.heap.size wi w') : BOk w w' g zs := by
  obtain ⟨A, c, h1, h2, h3, h4⟩ := h
  exact ⟨A, c, h1.keep (S := fun _ => False) (Chg.of_below hb) (fun h => h) (fun _ _ h => h), h2.trans (hb.mono h2.size), h3, h4⟩
theorem BOk.drewN {w wi : World} {g : Nat} {zs : List UInt8} (h : BOk w wi g zs) (n : Nat) : BOk w (wi.drewN n) g zs :=
  h.next ((Chg.refl (fun _ => False) wi).drewN n |>.below (fun _ h => h.elim) (Nat.le_refl _))
theorem BOk.alloc {w wi : World} {g : Nat} {zs : List UInt8} (h : BOk w wi g zs) (o : Obj) : BOk w (wi.alloc o) g zs :=
  h.next ((Below.refl _ wi).alloc (Nat.le_refl _) o)
/-- seen from an earlier world -/
theorem BOk.early {w w0 wi : World} {g : Nat} {zs : List UInt8} (h : BOk w wi g zs) (hb : Below w0.heap.size w0 w) : BOk w0 wi g zs := by
  obtain ⟨A, c, h1, h2, h3, h4⟩ := h
  exact ⟨A, c, h1, hb.trans (h2.mono hb.size), Nat.le_trans hb.size h3, fun k hk => Nat.le_trans hb.size (h4 k hk)⟩

theorem New_ok (B : Nat) (X : Option Addr) (m cx : Nat) (xs : List UInt8) (w : World) (hm : xs.length = m) (hR : Rd w B X xs) (hB : B ≤ w.heap.size) (hlen : xs.length ≤ 140737488355328) :
    Calls Try.prog 23 #[.slice X m cx] w fun e w' => ∃ g, e = .returned (.pointer (some ⟨g, 0, none⟩)) ∧ BOk w w' g xs :=
  (New_any B X m cx xs w hm hR hB hlen).mono fun _ _ ⟨g, A, c, he, hb, hg, hf, hbl⟩ => ⟨g, he, A, c, hb, hbl, hg, hf⟩
theorem Bytes_ok (w wi : World) (g : Nat) (zs : List UInt8) (h : BOk w wi g zs) (hlen : zs.length ≤ 140737488355328) :
    Calls Try.prog 26 #[.pointer (some ⟨g, 0, none⟩)] wi fun e w' => ∃ A c, e = .returned (.slice A zs.length c) ∧ Own w' A c zs ∧ Fresh wi A ∧ BOk w w' g zs := by
  obtain ⟨A, c, h1, _⟩ := id h
  exact (Bytes_any g c A zs wi h1 hlen).mono fun _ _ ⟨A', c', he, ho, hf, hb⟩ => ⟨A', c', he, ho, hf, h.next hb⟩
theorem Add_ok (w wi : World) (g : Nat) (zs : List UInt8) (h : BOk w wi g zs) (B : Nat) (X : Option Addr) (m cx : Nat) (ys : List UInt8) (hm : ys.length = m) (hR : Rd wi B X ys) (hlen : zs.length + ys.length ≤ 140737488355328) :
    Calls Try.prog 40 #[.pointer (some ⟨g, 0, none⟩), .slice X m cx] wi fun e w' => e = .returned (.tuple #[]) ∧ BOk w w' g (zs ++ ys) := by
  obtain ⟨A, c, h1, h2, h3, h4⟩ := h
  exact (Add_any g c A zs B X m cx ys wi h1 hm hR hlen).mono fun _ _ ⟨he, hG⟩ => ⟨he, BOk.grew h2 h3 h4 hG⟩
theorem putU16_ok (w wi : World) (g : Nat) (zs : List UInt8) (h : BOk w wi g zs) (x : Nat) (hx : x < 18446744073709551616) (hlen : zs.length + 2 ≤ 140737488355328) :
    Calls Try.prog 41 #[.pointer (some ⟨g, 0, none⟩), .int .u16 (x : Int)] wi fun e w' => e = .returned (.tuple #[]) ∧ BOk w w' g (zs ++ leB x 2) := by
  obtain ⟨A, c, h1, h2, h3, h4⟩ := h
  exact (putU16 g c A zs x wi h1 hx hlen).mono fun _ _ ⟨he, hG⟩ => ⟨he, BOk.grew h2 h3 h4 hG⟩
theorem putU32_ok (w wi : World) (g : Nat) (zs : List UInt8) (h : BOk w wi g zs) (x : Nat) (hx : x < 18446744073709551616) (hlen : zs.length + 4 ≤ 140737488355328) :
    Calls Try.prog 42 #[.pointer (some ⟨g, 0, none⟩), .int .u32 (x : Int)] wi fun e w' => e = .returned (.tuple #[]) ∧ BOk w w' g (zs ++ leB x 4) := by
  obtain ⟨A, c, h1, h2, h3, h4⟩ := h
  exact (putU32 g c A zs x wi h1 hx hlen).mono fun _ _ ⟨he, hG⟩ => ⟨he, BOk.grew h2 h3 h4 hG⟩
theorem putU64_ok (w wi : World) (g : Nat) (zs : List UInt8) (h : BOk w wi g zs) (x : Nat) (hx : x < 18446744073709551616) (hlen : zs.length + 8 ≤ 140737488355328) :
    Calls Try.prog 43 #[.pointer (some ⟨g, 0, none⟩), .int .u64 (x : Int)] wi fun e w' => e = .returned (.tuple #[]) ∧ BOk w w' g (zs ++ leB x 8) := by
  obtain ⟨A, c, h1, h2, h3, h4⟩ := h
  exact (putU64 g c A zs x wi h1 hx hlen).mono fun _ _ ⟨he, hG⟩ => ⟨he, BOk.grew h2 h3 h4 hG⟩

/-! ### numbers in bytes -/
theorem le_leB (x m : Nat) : le (leB x m) = x % 256 ^ m := by
  induction m with
  | zero => simp [leB, le, Nat.mod_one]
  | succ m ih =>
    have h : x % (256 ^ m * 256) = x % 256 ^ m + 256 ^ m * (x / 256 ^ m % 256) := Nat.mod_mul
    have e1 : (256 : Nat) ^ (m + 1) = 256 ^ m * 256 := Nat.pow_succ _ _
    have e2 : (UInt8.ofNat (x / 2 ^ (8 * m))).toNat = x / 256 ^ m % 256 := by
      rw [UInt8.toNat_ofNat', show (2 : Nat) ^ (8 * m) = 256 ^ m from by rw [Nat.pow_mul]]
    rw [leB_succ, le_append, ih, leB_length, e2, e1, h, Nat.mul_comm (256 ^ m)]
theorem part_mid (a b c : List UInt8) : part (a ++ b ++ c) a.length b.length = b := by
  unfold part; simp
theorem exB_mid (a b c : List UInt8) (n m : Int) (hn : n = a.length) (hm : m = b.length) : exB n m (a ++ b ++ c).length = true := by
  apply exB_true; simp; omega
theorem numV_mid (a c : List UInt8) (x m : Nat) (n k : Int) (hn : n = a.length) (hk : k = m) : numV (a ++ leB x m ++ c) n k = x % 256 ^ m := by
  rw [numV_yes (exB_mid a (leB x m) c n k hn (by rw [leB_length]; exact hk)), hn, hk]
  rw [Int.toNat_natCast, Int.toNat_natCast, ← le_leB]
  have := part_mid a (leB x m) c
  rw [leB_length] at this
  rw [this]
end Go.Proofs.Ythnognjcbjgkbaa
