/-
  Contracts of the reference's num, pad, bit; Window, Region, HeadBytes, LinkBytes.
-/
import Derived.Test.YtpeajffnhmmaeaaRecD
import Derived.Test.YtpeajffnhmmaeaaRefApp
import Derived.Test.YtpeajffnhmmaeaaBZeros
import Derived.Deep.RegionHeld3
namespace Go.Proofs.Ytpeajffnhmmaeaa
set_option linter.unusedVariables false
open Go.RowKit

theorem Kept.grown0 {w wr w' : World} {A A' : Option Addr} {c c' : Nat} {xs ys : List UInt8} (h : Kept w wr A c xs) (hown : Own w' A' c' ys) (hg : wr.grownBy w' (blk A)) (hat : blk A' = blk A ∨ blk A' = some wr.heap.size) : Kept w w' A' c' ys := by
  refine ⟨hown, fun k hk => ?_, h.bel.grown hg h.bel.size (fun k e => h.fresh k e)⟩
  rcases hat with e | e
  · exact h.fresh k (e.symm.trans hk)
  · have := Option.some.inj (e.symm.trans hk)
    have := h.bel.size
    omega
theorem Kept.of_new {w w' : World} {A' : Option Addr} {c' : Nat} {cs : Array Value} {ys : List UInt8} (hown : Own w' A' c' ys) (hg : (w.alloc (.cells cs U8t)).grownBy w' (blk (some ⟨w.heap.size, 0, none⟩))) (hat : blk A' = blk (some ⟨w.heap.size, 0, none⟩) ∨ blk A' = some (w.alloc (.cells cs U8t)).heap.size) : Kept w w' A' c' ys := by
  refine ⟨hown, fun k hk => ?_, ((Below.refl _ w).alloc (Nat.le_refl _) _).grown hg (by simp) (fun k e => Nat.le_of_eq (Option.some.inj e))⟩
  rcases hat with h | h
  · exact Nat.le_of_eq (Option.some.inj (h.symm.trans hk))
  · have := Option.some.inj (h.symm.trans hk); simp at this; omega
theorem Kept.of_made {w wi w' : World} {A A' : Option Addr} {c c' : Nat} {xs ys : List UInt8} (h : Kept w wi A c xs) (ho : Own w' A' c' ys) (hf : Fresh wi A') (hb : Below wi.heap.size wi w') : Kept w w' A' c' ys :=
  ⟨ho, fun k hk => Nat.le_trans h.bel.size (hf k hk), h.bel.trans (hb.mono h.bel.size)⟩
theorem Kept.nil (w : World) : Kept w w none 0 [] := ⟨Own.nil w, fun k h => (by cases h), Below.refl _ _⟩
theorem Kept.drew {w wi : World} {A : Option Addr} {c : Nat} {xs : List UInt8} (h : Kept w wi A c xs) : Kept w wi.drew A c xs := ⟨h.own, h.fresh, ⟨h.bel.os, h.bel.tape, h.bel.output, h.bel.size, h.bel.block⟩⟩

/-- bytes handed back, n of them -/
def NumOK (w : World) (ys : List UInt8) (n : Nat) (e : Ending) (w' : World) : Prop := ∃ A c, e = .returned (.slice A n c) ∧ Kept w w' A c ys ∧ ys.length = n

set_option maxRecDepth 20000 in
set_option maxHeartbeats 400000 in
theorem Kept.num {w wi : World} {A : Option Addr} {c : Nat} {xs : List UInt8} (h : Kept w wi A c xs) (m : Nat) (hm : xs.length = m) (x n : Nat) (hx : x < 18446744073709551616) (hn : n ≤ 8) (hl : m ≤ 100000) :
    Calls Try.prog 58 #[.slice A m c, .int .u64 (x : Int), .int .i64 (n : Int)] wi (NumOK w (xs ++ leB x n) (m + n)) := by
  have H := Lib.hid (refAppend_any wi.heap.size A m c xs x n wi hm h.own.rd (Nat.le_refl _) hn hx (by omega))
  have HK := Lib.hid h
  have HL : Hid ((xs ++ leB x n).length = m + n) := by show _ = _; rw [List.length_append, leB_length, hm]
  clear h hm
  go_enter Try.func58, Try.ntmps58
  go_wp2_with fail
  refine H.out.mono ?_
  rintro e w1 ⟨A1, c1, rfl, ho, hf, hb⟩
  rw [HL.out]
  have HK1 := Lib.hid (HK.out.of_made ho hf hb)
  clear ho hf hb
  go_wp2_with fail
  go_ret
  exact ⟨A1, c1, rfl, HK1.out, HL.out⟩

set_option maxRecDepth 20000 in
set_option maxHeartbeats 400000 in
theorem Kept.pad {w wi : World} {A : Option Addr} {c : Nat} {xs : List UInt8} (h : Kept w wi A c xs) (m : Nat) (hm : xs.length = m) (n : Nat) (hn : n ≤ 100000) (hl : m ≤ 100000) :
    Calls Try.prog 59 #[.slice A m c, .int .i64 (n : Int)] wi (NumOK w (xs ++ List.replicate n 0) (m + n)) := by
  have HK := Lib.hid h
  have HM := Lib.hid hm
  have HL : Hid ((xs ++ List.replicate n (0 : UInt8)).length = m + n) := by show _ = _; rw [List.length_append, List.length_replicate, hm]
  clear h hm
  go_enter Try.func59, Try.ntmps59
  go_wp2_with (first
    | (at_builtin; refine wpList_app rfl (.tmp 5) (.tmp 6) 22 rfl Try.underlying22 infoU8 (some ⟨wi.heap.size, 0, none⟩) 0 0 [] rfl rfl (Own.empty wi) wi.heap.size A m c xs HM.out rfl (HK.out.own.rd.alloc (Nat.le_refl _) _) (by have := HM.out; simp; omega) ?_; intro A1 c1 w1 hown hg hat hnn; rw [List.nil_append] at hown ⊢; have HK1 := Lib.hid (Kept.of_new (w := wi) (cs := #[]) hown hg hat); clear hown hg hat hnn)
    | (at_builtin; refine wpList_app_zeros rfl (.tmp 7) (.tmp 8) 22 3 rfl .i64 .i64 Try.underlying22 Try.underlying3 infoU8 A1 xs.length c1 xs rfl rfl HK1.out.own n rfl (by have := HM.out; omega) ?_; intro A2 c2 w2 hown2 hg2 hat2; rw [HL.out]; have HK2 := Lib.hid (HK1.out.grown0 hown2 hg2 hat2); clear hown2 hg2 hat2))
  go_ret
  exact ⟨A2, c2, rfl, HK.out.of_made HK2.out.own HK2.out.fresh HK2.out.bel, HL.out⟩

theorem bit_any (b : Bool) (w : World) : Calls Try.prog 60 #[.bool b] w fun e w' => e = .returned (.int .u64 (((if b then 1 else 0 : Nat) : Nat) : Int)) ∧ w = w' := by
  cases b
  · go_enter Try.func60, Try.ntmps60
    go_wp2
    go_ret
    exact ⟨rfl, rfl⟩
  · go_enter Try.func60, Try.ntmps60
    go_wp2
    go_ret
    exact ⟨rfl, rfl⟩

def winB (x y z : Nat) : List UInt8 := leB x 8 ++ leB y 8 ++ leB z 2 ++ List.replicate 6 0
def regB (x y z t : Nat) (b : Bool) : List UInt8 := leB x 8 ++ leB y 8 ++ leB z 2 ++ leB t 1 ++ leB (if b then 1 else 0) 1 ++ List.replicate 4 0
def headB (x y z : Nat) : List UInt8 := leB x 2 ++ leB y 2 ++ leB z 2 ++ List.replicate 2 0
def linkB (x y : Nat) : List UInt8 := leB x 2 ++ leB y 2 ++ List.replicate 4 0

end Go.Proofs.Ytpeajffnhmmaeaa
