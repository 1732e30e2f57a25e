/-
  A Put function under way: its record boxed in a new block, the builder as far as it has been filled.
-/
import Derived.Test.YtpeajffnhmmaeaaRec6
namespace Go.Proofs.Ytpeajffnhmmaeaa
set_option linter.unusedVariables false
open Go.RowKit

/-- since the world w (before the box) the record's box o lies in block w.heap.size, and the builder g holds zs -/
def Put (w : World) (g : Nat) (A : Option Addr) (o : Obj) (zs : List UInt8) (wi : World) : Prop :=
  ∃ A' c', Bld wi g A' c' zs ∧ Chg (fun k => k = g ∨ blk A = some k) w wi ∧ (∀ k, blk A' = some k → blk A = some k ∨ w.heap.size < k) ∧ wi.heap[w.heap.size]? = some o ∧ g < w.heap.size ∧ ∀ k, blk A = some k → k < w.heap.size
section
variable {w wi w' : World} {g c : Nat} {A : Option Addr} {o : Obj} {zs ys : List UInt8}
theorem Put.start (h : Bld w g A c zs) (o : Obj) : Put w g A o zs (w.alloc o) :=
  ⟨A, c, h.alloc o, (Chg.refl _ w).alloc o, fun _ hk => .inl hk, heap_alloc_new w o, h.lt, fun _ hk => h.blk_lt hk⟩
theorem Put.box (h : Put w g A o zs wi) : wi.heap[w.heap.size]? = some o := by obtain ⟨_, _, _, _, _, h, _⟩ := h; exact h
theorem Put.grew (h : Put w g A o zs wi) : Grew w g A zs wi := by
  obtain ⟨A', c', h1, h2, h3, h4, h5, h6⟩ := h
  exact ⟨A', c', h1, h2, fun k hk => (h3 k hk).elim .inl (fun h => .inr (Nat.le_of_lt h))⟩
theorem Put.step {A1 : Option Addr} (hbel : Chg (fun k => k = g ∨ blk A = some k) w wi) (h3 : ∀ k, blk A1 = some k → blk A = some k ∨ w.heap.size < k) (h4 : wi.heap[w.heap.size]? = some o) (h5 : g < w.heap.size) (h6 : ∀ k, blk A = some k → k < w.heap.size)
    (hG : Grew wi g A1 ys w') : Put w g A o ys w' := by
  obtain ⟨A2, c2, hb2, hc2, hr2⟩ := hG
  have hlt : w.heap.size < wi.heap.size := (Array.getElem?_eq_some_iff.1 h4).1
  refine ⟨A2, c2, hb2, hbel.trans hc2 (fun i hi hs => ?_), fun k hk => ?_, hc2.obj h4 (fun hs => ?_), h5, h6⟩
  · rcases hs with hs | hs
    · exact .inl hs
    · rcases h3 i hs with h | h
      · exact .inr h
      · omega
  · rcases hr2 k hk with h | h
    · exact h3 k h
    · exact .inr (by omega)
  · rcases hs with hs | hs
    · omega
    · rcases h3 _ hs with h | h
      · have := h6 _ h; omega
      · omega
end
theorem Put.U8 {w wi : World} {g : Nat} {A : Option Addr} {o : Obj} {zs : List UInt8} (h : Put w g A o zs wi) (x : Nat) (hx : x < 18446744073709551616) (hlen : zs.length + 1 ≤ 140737488355328) :
    Calls Try.prog 45 #[.pointer (some ⟨g, 0, none⟩), .int .u8 (x : Int)] wi fun e w' => e = .returned (.tuple #[]) ∧ Put w g A o (zs ++ leB x 1) w' := by
  obtain ⟨A', c', h1, h2, h3, h4, h5, h6⟩ := h
  exact (putU8 g c' A' zs x wi h1 hx hlen).mono fun _ _ ⟨he, hG⟩ => ⟨he, Put.step h2 h3 h4 h5 h6 hG⟩
theorem Put.U16 {w wi : World} {g : Nat} {A : Option Addr} {o : Obj} {zs : List UInt8} (h : Put w g A o zs wi) (x : Nat) (hx : x < 18446744073709551616) (hlen : zs.length + 2 ≤ 140737488355328) :
    Calls Try.prog 44 #[.pointer (some ⟨g, 0, none⟩), .int .u16 (x : Int)] wi fun e w' => e = .returned (.tuple #[]) ∧ Put w g A o (zs ++ leB x 2) w' := by
  obtain ⟨A', c', h1, h2, h3, h4, h5, h6⟩ := h
  exact (putU16 g c' A' zs x wi h1 hx hlen).mono fun _ _ ⟨he, hG⟩ => ⟨he, Put.step h2 h3 h4 h5 h6 hG⟩
theorem Put.U32 {w wi : World} {g : Nat} {A : Option Addr} {o : Obj} {zs : List UInt8} (h : Put w g A o zs wi) (x : Nat) (hx : x < 18446744073709551616) (hlen : zs.length + 4 ≤ 140737488355328) :
    Calls Try.prog 48 #[.pointer (some ⟨g, 0, none⟩), .int .u32 (x : Int)] wi fun e w' => e = .returned (.tuple #[]) ∧ Put w g A o (zs ++ leB x 4) w' := by
  obtain ⟨A', c', h1, h2, h3, h4, h5, h6⟩ := h
  exact (putU32 g c' A' zs x wi h1 hx hlen).mono fun _ _ ⟨he, hG⟩ => ⟨he, Put.step h2 h3 h4 h5 h6 hG⟩
theorem Put.U64 {w wi : World} {g : Nat} {A : Option Addr} {o : Obj} {zs : List UInt8} (h : Put w g A o zs wi) (x : Nat) (hx : x < 18446744073709551616) (hlen : zs.length + 8 ≤ 140737488355328) :
    Calls Try.prog 64 #[.pointer (some ⟨g, 0, none⟩), .int .u64 (x : Int)] wi fun e w' => e = .returned (.tuple #[]) ∧ Put w g A o (zs ++ leB x 8) w' := by
  obtain ⟨A', c', h1, h2, h3, h4, h5, h6⟩ := h
  exact (putU64 g c' A' zs x wi h1 hx hlen).mono fun _ _ ⟨he, hG⟩ => ⟨he, Put.step h2 h3 h4 h5 h6 hG⟩
theorem Put.zeros {w wi : World} {g : Nat} {A : Option Addr} {o : Obj} {zs : List UInt8} (h : Put w g A o zs wi) (n : Nat) (hlen : zs.length + n ≤ 16777216) :
    Calls Try.prog 47 #[.pointer (some ⟨g, 0, none⟩), .int .i64 (n : Int)] wi fun e w' => e = .returned (.bool true) ∧ Put w g A o (zs ++ List.replicate n 0) w' := by
  obtain ⟨A', c', h1, h2, h3, h4, h5, h6⟩ := h
  exact (Zeros_any g c' A' zs n wi h1 hlen).mono fun _ _ ⟨he, hG⟩ => ⟨he, Put.step h2 h3 h4 h5 h6 hG⟩
end Go.Proofs.Ytpeajffnhmmaeaa
