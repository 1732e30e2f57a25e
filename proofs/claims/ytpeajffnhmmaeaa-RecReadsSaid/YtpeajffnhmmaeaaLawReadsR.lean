/-
  What the law RecReads computes: true. (Written by wip/gen_lawrr.py.)
-/
import Derived.Test.YtpeajffnhmmaeaaRdsD
import Derived.Test.YtpeajffnhmmaeaaAlive09
namespace Go.Proofs.Ytpeajffnhmmaeaa
set_option linter.unusedVariables false
open Go.RowKit

theorem chkD_zero {xs : List UInt8} {a : Nat} : ∀ {l : List (Nat × Nat)}, (chkD xs a l).1 = 0 → (chkD xs a l).2 = 0
  | [], _ => rfl
  | p :: r, h => by
    unfold chkD at h ⊢
    split
    · rename_i h1; rw [if_pos h1] at h; simp at h
    · rename_i h1; rw [if_neg h1] at h; exact chkD_zero h
theorem chkV_zero {s : Nat} {xs : List UInt8} {a z : Int} (h : chkV s xs a = (0, z)) : z = 0 := by
  unfold chkV at h
  split at h
  · unfold chkN at h
    split at h
    · simp at h
    · have := chkD_zero (xs := xs) (a := a.toNat) (l := padR s) (by rw [h])
      rw [h] at this
      exact this
  · simp at h
theorem outPartition_form (xs : List UInt8) (a : Int) : ∃ (y10 : Int) (y11 : ByteArray) (y12 : Int) (y13 : Int), outPartition xs a = #[.int .u16 y10, .string y11, .int .u64 y12, .int .u64 y13] := by
  unfold outPartition
  split
  · exact ⟨_, _, _, _, rfl⟩
  · exact ⟨_, _, _, _, rfl⟩
theorem outPartition_bad {xs : List UInt8} {a x z : Int} (h : chkV 1 xs a = (x, z)) (hx : x ≠ 0) : outPartition xs a = #[.int .u16 0, .string ⟨#[]⟩, .int .u64 0, .int .u64 0] := by
  unfold outPartition
  rw [h]
  exact if_neg hx
theorem outPartition_good {xs : List UInt8} {a z : Int} (h : chkV 1 xs a = (0, z)) : ∃ n : Nat, a = (n : Int) ∧ n + 56 ≤ xs.length ∧ outPartition xs a = recPartition (part xs n 56) := by
  cases hx : exB a 56 xs.length with
  | false =>
    unfold chkV at h
    rw [show ((szR 1 : Nat) : Int) = 56 from rfl, hx] at h
    simp at h
  | true =>
    obtain ⟨x1, x2, x3, x4⟩ := exB_iff.1 hx
    obtain ⟨n, rfl⟩ := Int.eq_ofNat_of_zero_le x1
    refine ⟨n, rfl, by omega, ?_⟩
    unfold outPartition
    rw [h, Int.toNat_natCast]
    exact if_pos rfl
theorem outWindow_form (xs : List UInt8) (a : Int) : ∃ (y20 : Int) (y21 : Int) (y22 : Int), outWindow xs a = #[.int .u64 y20, .int .u64 y21, .int .u16 y22] := by
  unfold outWindow
  split
  · exact ⟨_, _, _, rfl⟩
  · exact ⟨_, _, _, rfl⟩
theorem outWindow_bad {xs : List UInt8} {a x z : Int} (h : chkV 2 xs a = (x, z)) (hx : x ≠ 0) : outWindow xs a = #[.int .u64 0, .int .u64 0, .int .u16 0] := by
  unfold outWindow
  rw [h]
  exact if_neg hx
theorem outWindow_good {xs : List UInt8} {a z : Int} (h : chkV 2 xs a = (0, z)) : ∃ n : Nat, a = (n : Int) ∧ n + 24 ≤ xs.length ∧ outWindow xs a = recWindow (part xs n 24) := by
  cases hx : exB a 24 xs.length with
  | false =>
    unfold chkV at h
    rw [show ((szR 2 : Nat) : Int) = 24 from rfl, hx] at h
    simp at h
  | true =>
    obtain ⟨x1, x2, x3, x4⟩ := exB_iff.1 hx
    obtain ⟨n, rfl⟩ := Int.eq_ofNat_of_zero_le x1
    refine ⟨n, rfl, by omega, ?_⟩
    unfold outWindow
    rw [h, Int.toNat_natCast]
    exact if_pos rfl
theorem outRegion_form (xs : List UInt8) (a : Int) : ∃ (y30 : Int) (y31 : Int) (y32 : Int) (y33 : Int) (y34 : Bool), outRegion xs a = #[.int .u64 y30, .int .u64 y31, .int .u16 y32, .int .u8 y33, .bool y34] := by
  unfold outRegion
  split
  · exact ⟨_, _, _, _, _, rfl⟩
  · exact ⟨_, _, _, _, _, rfl⟩
theorem outRegion_bad {xs : List UInt8} {a x z : Int} (h : chkV 3 xs a = (x, z)) (hx : x ≠ 0) : outRegion xs a = #[.int .u64 0, .int .u64 0, .int .u16 0, .int .u8 0, .bool false] := by
  unfold outRegion
  rw [h]
  exact if_neg hx
theorem outRegion_good {xs : List UInt8} {a z : Int} (h : chkV 3 xs a = (0, z)) : ∃ n : Nat, a = (n : Int) ∧ n + 24 ≤ xs.length ∧ outRegion xs a = recRegion (part xs n 24) := by
  cases hx : exB a 24 xs.length with
  | false =>
    unfold chkV at h
    rw [show ((szR 3 : Nat) : Int) = 24 from rfl, hx] at h
    simp at h
  | true =>
    obtain ⟨x1, x2, x3, x4⟩ := exB_iff.1 hx
    obtain ⟨n, rfl⟩ := Int.eq_ofNat_of_zero_le x1
    refine ⟨n, rfl, by omega, ?_⟩
    unfold outRegion
    rw [h, Int.toNat_natCast]
    exact if_pos rfl
theorem outPort_form (xs : List UInt8) (a : Int) : ∃ (y40 : Int) (y41 : Int) (y42 : ByteArray) (y43 : Bool) (y44 : Bool) (y45 : Int), outPort xs a = #[.int .u16 y40, .int .u16 y41, .string y42, .bool y43, .bool y44, .int .u32 y45] := by
  unfold outPort
  split
  · exact ⟨_, _, _, _, _, _, rfl⟩
  · exact ⟨_, _, _, _, _, _, rfl⟩
theorem outPort_bad {xs : List UInt8} {a x z : Int} (h : chkV 4 xs a = (x, z)) (hx : x ≠ 0) : outPort xs a = #[.int .u16 0, .int .u16 0, .string ⟨#[]⟩, .bool false, .bool false, .int .u32 0] := by
  unfold outPort
  rw [h]
  exact if_neg hx
theorem outPort_good {xs : List UInt8} {a z : Int} (h : chkV 4 xs a = (0, z)) : ∃ n : Nat, a = (n : Int) ∧ n + 48 ≤ xs.length ∧ outPort xs a = recPort (part xs n 48) := by
  cases hx : exB a 48 xs.length with
  | false =>
    unfold chkV at h
    rw [show ((szR 4 : Nat) : Int) = 48 from rfl, hx] at h
    simp at h
  | true =>
    obtain ⟨x1, x2, x3, x4⟩ := exB_iff.1 hx
    obtain ⟨n, rfl⟩ := Int.eq_ofNat_of_zero_le x1
    refine ⟨n, rfl, by omega, ?_⟩
    unfold outPort
    rw [h, Int.toNat_natCast]
    exact if_pos rfl
theorem outHead_form (xs : List UInt8) (a : Int) : ∃ (y50 : Int) (y51 : Int) (y52 : Int), outHead xs a = #[.int .u16 y50, .int .u16 y51, .int .u16 y52] := by
  unfold outHead
  split
  · exact ⟨_, _, _, rfl⟩
  · exact ⟨_, _, _, rfl⟩
theorem outHead_bad {xs : List UInt8} {a x z : Int} (h : chkV 5 xs a = (x, z)) (hx : x ≠ 0) : outHead xs a = #[.int .u16 0, .int .u16 0, .int .u16 0] := by
  unfold outHead
  rw [h]
  exact if_neg hx
theorem outHead_good {xs : List UInt8} {a z : Int} (h : chkV 5 xs a = (0, z)) : ∃ n : Nat, a = (n : Int) ∧ n + 8 ≤ xs.length ∧ outHead xs a = recHead (part xs n 8) := by
  cases hx : exB a 8 xs.length with
  | false =>
    unfold chkV at h
    rw [show ((szR 5 : Nat) : Int) = 8 from rfl, hx] at h
    simp at h
  | true =>
    obtain ⟨x1, x2, x3, x4⟩ := exB_iff.1 hx
    obtain ⟨n, rfl⟩ := Int.eq_ofNat_of_zero_le x1
    refine ⟨n, rfl, by omega, ?_⟩
    unfold outHead
    rw [h, Int.toNat_natCast]
    exact if_pos rfl
theorem outLink_form (xs : List UInt8) (a : Int) : ∃ (y60 : Int) (y61 : Int), outLink xs a = #[.int .u16 y60, .int .u16 y61] := by
  unfold outLink
  split
  · exact ⟨_, _, rfl⟩
  · exact ⟨_, _, rfl⟩
theorem outLink_bad {xs : List UInt8} {a x z : Int} (h : chkV 6 xs a = (x, z)) (hx : x ≠ 0) : outLink xs a = #[.int .u16 0, .int .u16 0] := by
  unfold outLink
  rw [h]
  exact if_neg hx
theorem outLink_good {xs : List UInt8} {a z : Int} (h : chkV 6 xs a = (0, z)) : ∃ n : Nat, a = (n : Int) ∧ n + 8 ≤ xs.length ∧ outLink xs a = recLink (part xs n 8) := by
  cases hx : exB a 8 xs.length with
  | false =>
    unfold chkV at h
    rw [show ((szR 6 : Nat) : Int) = 8 from rfl, hx] at h
    simp at h
  | true =>
    obtain ⟨x1, x2, x3, x4⟩ := exB_iff.1 hx
    obtain ⟨n, rfl⟩ := Int.eq_ofNat_of_zero_le x1
    refine ⟨n, rfl, by omega, ?_⟩
    unfold outLink
    rw [h, Int.toNat_natCast]
    exact if_pos rfl

/-- what the law keeps: its parameter, variables made since -/
structure RdB (w u : World) (A : Option Addr) (xs : List UInt8) (L : List (Nat × Obj)) : Prop where
  rd : Rd u w.heap.size A xs
  bel : Below w.heap.size w u
  rows : ∀ p ∈ L, u.heap[p.1]? = some p.2
section
variable {w u u' : World} {A : Option Addr} {xs : List UInt8} {L : List (Nat × Obj)}
theorem RdB.next (h : RdB w u A xs L) (hb : Below u.heap.size u u') : RdB w u' A xs L :=
  ⟨h.rd.below (hb.mono h.bel.size), h.bel.trans (hb.mono h.bel.size), fun p hp => (hb.block p.1 (Array.getElem?_eq_some_iff.1 (h.rows p hp)).1).trans (h.rows p hp)⟩
theorem RdB.one (h : RdB w u A xs L) (o : Obj) : RdB w (u.alloc o) A xs ((u.heap.size, o) :: L) := by
  have h1 := h.next ((Below.refl _ u).alloc (Nat.le_refl _) o)
  refine ⟨h1.rd, h1.bel, fun p hp => ?_⟩
  rcases List.mem_cons.1 hp with rfl | hp
  · exact heap_alloc_new u o
  · exact h1.rows p hp
theorem RdB.two (h : RdB w u A xs L) (o1 o2 : Obj) : RdB w ((u.alloc o1).alloc o2) A xs ((u.heap.size + 1, o2) :: (u.heap.size, o1) :: L) := by
  have h2 := (h.one o1).one o2
  rw [World.size_alloc] at h2
  exact h2
end
theorem drewN_b {B : Nat} {w w' : World} (h : Below B w w') (n : Nat) : Below B w (w'.drewN n) := ⟨h.os, h.tape, h.output, h.size, h.block⟩
theorem RdB.less {w u : World} {A : Option Addr} {xs : List UInt8} {L : List (Nat × Obj)} {p : Nat × Obj} (h : RdB w u A xs (p :: L)) : RdB w u A xs L := ⟨h.rd, h.bel, fun r hr => h.rows r (List.mem_cons_of_mem _ hr)⟩
theorem RdB.put {w u : World} {A : Option Addr} {xs : List UInt8} {L : List (Nat × Obj)} {q g : Nat} (h : RdB w u A xs L) (hlow : ∀ p ∈ L, p.1 < q) (hw : w.heap.size ≤ q) (hg : q ≤ g) (cs : Array Value) : RdB w (u.setRow g cs) A xs L :=
  ⟨h.rd.keep fun p hp => World.cell?_of_block (setRow_other u g p.block cs (by omega)), setRow_below h.bel (by omega) cs, fun p hp => (setRow_other u g p.1 cs (by have := hlow p hp; omega)).trans (h.rows p hp)⟩
def vrow (p1 p2 p3 p4 p5 p6 : Array Value) : Nat → Array Value
  | 1 => p1
  | 2 => p2
  | 3 => p3
  | 4 => p4
  | 5 => p5
  | _ => p6
def trow : Nat → Nat
  | 1 => 45
  | 2 => 58
  | 3 => 50
  | 4 => 26
  | 5 => 60
  | _ => 62
def zrow : Nat → Array Value := vrow (#[.int .u16 0, .string ⟨#[]⟩, .int .u64 0, .int .u64 0]) (#[.int .u64 0, .int .u64 0, .int .u16 0]) (#[.int .u64 0, .int .u64 0, .int .u16 0, .int .u8 0, .bool false]) (#[.int .u16 0, .int .u16 0, .string ⟨#[]⟩, .bool false, .bool false, .int .u32 0]) (#[.int .u16 0, .int .u16 0, .int .u16 0]) (#[.int .u16 0, .int .u16 0])
theorem six_new (w : World) (o1 o2 o3 o4 o5 o6 : Obj) :
    ((((((w.alloc o1).alloc o2).alloc o3).alloc o4).alloc o5).alloc o6).heap[w.heap.size]? = some o1 ∧ ((((((w.alloc o1).alloc o2).alloc o3).alloc o4).alloc o5).alloc o6).heap[w.heap.size + 1]? = some o2 ∧
    ((((((w.alloc o1).alloc o2).alloc o3).alloc o4).alloc o5).alloc o6).heap[w.heap.size + 1 + 1]? = some o3 ∧ ((((((w.alloc o1).alloc o2).alloc o3).alloc o4).alloc o5).alloc o6).heap[w.heap.size + 1 + 1 + 1]? = some o4 ∧
    ((((((w.alloc o1).alloc o2).alloc o3).alloc o4).alloc o5).alloc o6).heap[w.heap.size + 1 + 1 + 1 + 1]? = some o5 ∧ ((((((w.alloc o1).alloc o2).alloc o3).alloc o4).alloc o5).alloc o6).heap[w.heap.size + 1 + 1 + 1 + 1 + 1]? = some o6 := by
  have a1 := heap_alloc_new w o1
  have a2 := heap_alloc_new (w.alloc o1) o2
  have a3 := heap_alloc_new ((w.alloc o1).alloc o2) o3
  have a4 := heap_alloc_new (((w.alloc o1).alloc o2).alloc o3) o4
  have a5 := heap_alloc_new ((((w.alloc o1).alloc o2).alloc o3).alloc o4) o5
  have a6 := heap_alloc_new (((((w.alloc o1).alloc o2).alloc o3).alloc o4).alloc o5) o6
  simp only [World.size_alloc] at a2 a3 a4 a5 a6
  have up : ∀ (W : World) (o o' : Obj) (k : Nat), W.heap[k]? = some o → (W.alloc o').heap[k]? = some o := fun W o o' k h => (Below.heap_alloc W o' k (Array.getElem?_eq_some_iff.1 h).1).trans h
  exact ⟨up _ _ _ _ (up _ _ _ _ (up _ _ _ _ (up _ _ _ _ (up _ _ _ _ a1)))), up _ _ _ _ (up _ _ _ _ (up _ _ _ _ (up _ _ _ _ a2))), up _ _ _ _ (up _ _ _ _ (up _ _ _ _ a3)), up _ _ _ _ (up _ _ _ _ a4), up _ _ _ _ a5, a6⟩
/-- the reference's records, those of the first k sections there -/
def gW (u : World) (q k : Nat) (V : Nat → Array Value) : Prop := ∀ s, 1 ≤ s → s ≤ 6 → u.heap[q + (s - 1)]? = some (.cells (if s ≤ k then V s else zrow s) (trow s) (0, 0))
theorem gW.next {u u' : World} {q k : Nat} {V : Nat → Array Value} (h : gW u q k V) (hb : Below u.heap.size u u') : gW u' q k V :=
  fun s a b => (hb.block _ (Array.getElem?_eq_some_iff.1 (h s a b)).1).trans (h s a b)
theorem gW.put {u : World} {q k : Nat} {V : Nat → Array Value} (h : gW u q k V) (hk : k < 6) : gW (u.setRow (q + k) (V (k + 1))) q (k + 1) V := by
  intro s a b
  by_cases e : s = k + 1
  · subst e
    rw [if_pos (Nat.le_refl _)]
    have := h (k + 1) a b
    exact setRow_heap u (q + k) _ _ _ (0, 0) this
  · rw [setRow_other u (q + k) (q + (s - 1)) _ (by omega), h s a b]
    by_cases h1 : s ≤ k
    · rw [if_pos h1, if_pos (by omega)]
    · rw [if_neg h1, if_neg (by omega)]
theorem gW.skip {u : World} {q k : Nat} {V : Nat → Array Value} (h : gW u q k V) (hk : k < 6) (hv : V (k + 1) = zrow (k + 1)) : gW u q (k + 1) V := by
  intro s a b
  rw [h s a b]
  by_cases e : s = k + 1
  · subst e
    rw [if_neg (by omega), if_pos (Nat.le_refl _), hv]
  · by_cases h1 : s ≤ k
    · rw [if_pos h1, if_pos (by omega)]
    · rw [if_neg h1, if_neg (by omega)]

theorem gW_start (u7 : World) (V : Nat → Array Value) : gW ((((((u7.alloc (.cells #[.int .u16 0, .string ⟨#[]⟩, .int .u64 0, .int .u64 0] 45)).alloc (.cells #[.int .u64 0, .int .u64 0, .int .u16 0] 58)).alloc (.cells #[.int .u64 0, .int .u64 0, .int .u16 0, .int .u8 0, .bool false] 50)).alloc (.cells #[.int .u16 0, .int .u16 0, .string ⟨#[]⟩, .bool false, .bool false, .int .u32 0] 26)).alloc (.cells #[.int .u16 0, .int .u16 0, .int .u16 0] 60)).alloc (.cells #[.int .u16 0, .int .u16 0] 62)) u7.heap.size 0 V := by
  obtain ⟨n1, n2, n3, n4, n5, n6⟩ := six_new u7 (.cells #[.int .u16 0, .string ⟨#[]⟩, .int .u64 0, .int .u64 0] 45) (.cells #[.int .u64 0, .int .u64 0, .int .u16 0] 58) (.cells #[.int .u64 0, .int .u64 0, .int .u16 0, .int .u8 0, .bool false] 50) (.cells #[.int .u16 0, .int .u16 0, .string ⟨#[]⟩, .bool false, .bool false, .int .u32 0] 26) (.cells #[.int .u16 0, .int .u16 0, .int .u16 0] 60) (.cells #[.int .u16 0, .int .u16 0] 62)
  intro s a b
  have hs : s = 1 ∨ s = 2 ∨ s = 3 ∨ s = 4 ∨ s = 5 ∨ s = 6 := by omega
  rcases hs with rfl | rfl | rfl | rfl | rfl | rfl
  · exact n1
  · exact n2
  · exact n3
  · exact n4
  · exact n5
  · exact n6

set_option maxRecDepth 100000 in
set_option maxHeartbeats 8000000 in
theorem RecReads_any (A : Option Addr) (c : Nat) (xs : List UInt8) (a : Int) (w : World) (hR : Rd w w.heap.size A xs) (hc : xs.length ≤ c) (hn : c ≤ 9223372036854775807) (ha : -9223372036854775808 ≤ a ∧ a ≤ 9223372036854775807) :
    Calls Try.prog 8 #[.slice A xs.length c, .int .i64 a] w (AliveOK w) := by
  by_cases h5 : 500 < xs.length
  · have d0 : decide (500 < (xs.length : Int)) = true := decide_eq_true (by omega)
    clear hR
    go_enter Try.func8, Try.ntmps8
    go_wp2_with fail
    refine (alive09 _).mono ?_
    rintro e w1 ⟨rfl, hb1⟩
    go_wp2
    go_ret
    exact ⟨rfl, hb1⟩
  have d0 : decide (500 < (xs.length : Int)) = false := decide_eq_false (by omega)
  have hl : xs.length ≤ 500 := by omega
  clear h5
  obtain ⟨c1, z1, hk1⟩ : ∃ x z, chkV 1 xs a = (x, z) := ⟨_, _, rfl⟩
  obtain ⟨y10, y11, y12, y13, hy1⟩ := outPartition_form xs a
  have HG1 := Lib.hid (fun u hR => GetPartition_rd A c xs a u hR hc hn hl ha)
  have hg1 : ∀ u : World, GetOK (outPartition xs a) (chkV 1 xs a).1 (chkV 1 xs a).2 u = fun e w' => e = .returned (.tuple #[.agg (outPartition xs a), .agg #[.int .i64 (chkV 1 xs a).1, .int .i64 0, .int .i64 (chkV 1 xs a).2]]) ∧ Below u.heap.size u w' := fun _ => rfl
  simp only [hg1] at HG1
  rw [hk1, hy1] at HG1
  have HB1 := Lib.hid (fun hx => hy1.symm.trans (outPartition_bad hk1 hx))
  have hf1 : ∀ u : World, RefOK #[.int .i64 (chkV 1 xs a).1, .int .i64 0, .int .i64 (chkV 1 xs a).2] u = fun e w' => e = .returned (.agg #[.int .i64 c1, .int .i64 0, .int .i64 z1]) ∧ Below u.heap.size u w' := by intro u; rw [hk1]; rfl
  have HF1 := Lib.hid (fun (u : World) (h : Rd u w.heap.size A xs) (hB : w.heap.size ≤ u.heap.size) => fault_any w.heap.size A c 1 xs a u h hB hc hn ha (by omega) (by omega))
  simp only [hf1] at HF1
  have HO1 : Hid (c1 = 0 → ∃ n : Nat, a = (n : Int) ∧ n + 56 ≤ xs.length ∧ z1 = 0 ∧ #[.int .u16 y10, .string y11, .int .u64 y12, .int .u64 y13] = recPartition (part xs n 56)) := fun h0 => by
    rw [h0] at hk1
    obtain ⟨n, e1, e2, e3⟩ := outPartition_good hk1
    exact ⟨n, e1, e2, chkV_zero hk1, hy1.symm.trans e3⟩
  clear hk1 hy1 hf1 hg1
  obtain ⟨c2, z2, hk2⟩ : ∃ x z, chkV 2 xs a = (x, z) := ⟨_, _, rfl⟩
  obtain ⟨y20, y21, y22, hy2⟩ := outWindow_form xs a
  have HG2 := Lib.hid (fun u hR => GetWindow_rd A c xs a u hR hc hn hl ha)
  have hg2 : ∀ u : World, GetOK (outWindow xs a) (chkV 2 xs a).1 (chkV 2 xs a).2 u = fun e w' => e = .returned (.tuple #[.agg (outWindow xs a), .agg #[.int .i64 (chkV 2 xs a).1, .int .i64 0, .int .i64 (chkV 2 xs a).2]]) ∧ Below u.heap.size u w' := fun _ => rfl
  simp only [hg2] at HG2
  rw [hk2, hy2] at HG2
  have HB2 := Lib.hid (fun hx => hy2.symm.trans (outWindow_bad hk2 hx))
  have hf2 : ∀ u : World, RefOK #[.int .i64 (chkV 2 xs a).1, .int .i64 0, .int .i64 (chkV 2 xs a).2] u = fun e w' => e = .returned (.agg #[.int .i64 c2, .int .i64 0, .int .i64 z2]) ∧ Below u.heap.size u w' := by intro u; rw [hk2]; rfl
  have HF2 := Lib.hid (fun (u : World) (h : Rd u w.heap.size A xs) (hB : w.heap.size ≤ u.heap.size) => fault_any w.heap.size A c 2 xs a u h hB hc hn ha (by omega) (by omega))
  simp only [hf2] at HF2
  have HO2 : Hid (c2 = 0 → ∃ n : Nat, a = (n : Int) ∧ n + 24 ≤ xs.length ∧ z2 = 0 ∧ #[.int .u64 y20, .int .u64 y21, .int .u16 y22] = recWindow (part xs n 24)) := fun h0 => by
    rw [h0] at hk2
    obtain ⟨n, e1, e2, e3⟩ := outWindow_good hk2
    exact ⟨n, e1, e2, chkV_zero hk2, hy2.symm.trans e3⟩
  clear hk2 hy2 hf2 hg2
  obtain ⟨c3, z3, hk3⟩ : ∃ x z, chkV 3 xs a = (x, z) := ⟨_, _, rfl⟩
  obtain ⟨y30, y31, y32, y33, y34, hy3⟩ := outRegion_form xs a
  have HG3 := Lib.hid (fun u hR => GetRegion_rd A c xs a u hR hc hn hl ha)
  have hg3 : ∀ u : World, GetOK (outRegion xs a) (chkV 3 xs a).1 (chkV 3 xs a).2 u = fun e w' => e = .returned (.tuple #[.agg (outRegion xs a), .agg #[.int .i64 (chkV 3 xs a).1, .int .i64 0, .int .i64 (chkV 3 xs a).2]]) ∧ Below u.heap.size u w' := fun _ => rfl
  simp only [hg3] at HG3
  rw [hk3, hy3] at HG3
  have HB3 := Lib.hid (fun hx => hy3.symm.trans (outRegion_bad hk3 hx))
  have hf3 : ∀ u : World, RefOK #[.int .i64 (chkV 3 xs a).1, .int .i64 0, .int .i64 (chkV 3 xs a).2] u = fun e w' => e = .returned (.agg #[.int .i64 c3, .int .i64 0, .int .i64 z3]) ∧ Below u.heap.size u w' := by intro u; rw [hk3]; rfl
  have HF3 := Lib.hid (fun (u : World) (h : Rd u w.heap.size A xs) (hB : w.heap.size ≤ u.heap.size) => fault_any w.heap.size A c 3 xs a u h hB hc hn ha (by omega) (by omega))
  simp only [hf3] at HF3
  have HO3 : Hid (c3 = 0 → ∃ n : Nat, a = (n : Int) ∧ n + 24 ≤ xs.length ∧ z3 = 0 ∧ #[.int .u64 y30, .int .u64 y31, .int .u16 y32, .int .u8 y33, .bool y34] = recRegion (part xs n 24)) := fun h0 => by
    rw [h0] at hk3
    obtain ⟨n, e1, e2, e3⟩ := outRegion_good hk3
    exact ⟨n, e1, e2, chkV_zero hk3, hy3.symm.trans e3⟩
  clear hk3 hy3 hf3 hg3
  obtain ⟨c4, z4, hk4⟩ : ∃ x z, chkV 4 xs a = (x, z) := ⟨_, _, rfl⟩
  obtain ⟨y40, y41, y42, y43, y44, y45, hy4⟩ := outPort_form xs a
  have HG4 := Lib.hid (fun u hR => GetPort_rd A c xs a u hR hc hn hl ha)
  have hg4 : ∀ u : World, GetOK (outPort xs a) (chkV 4 xs a).1 (chkV 4 xs a).2 u = fun e w' => e = .returned (.tuple #[.agg (outPort xs a), .agg #[.int .i64 (chkV 4 xs a).1, .int .i64 0, .int .i64 (chkV 4 xs a).2]]) ∧ Below u.heap.size u w' := fun _ => rfl
  simp only [hg4] at HG4
  rw [hk4, hy4] at HG4
  have HB4 := Lib.hid (fun hx => hy4.symm.trans (outPort_bad hk4 hx))
  have hf4 : ∀ u : World, RefOK #[.int .i64 (chkV 4 xs a).1, .int .i64 0, .int .i64 (chkV 4 xs a).2] u = fun e w' => e = .returned (.agg #[.int .i64 c4, .int .i64 0, .int .i64 z4]) ∧ Below u.heap.size u w' := by intro u; rw [hk4]; rfl
  have HF4 := Lib.hid (fun (u : World) (h : Rd u w.heap.size A xs) (hB : w.heap.size ≤ u.heap.size) => fault_any w.heap.size A c 4 xs a u h hB hc hn ha (by omega) (by omega))
  simp only [hf4] at HF4
  have HO4 : Hid (c4 = 0 → ∃ n : Nat, a = (n : Int) ∧ n + 48 ≤ xs.length ∧ z4 = 0 ∧ #[.int .u16 y40, .int .u16 y41, .string y42, .bool y43, .bool y44, .int .u32 y45] = recPort (part xs n 48)) := fun h0 => by
    rw [h0] at hk4
    obtain ⟨n, e1, e2, e3⟩ := outPort_good hk4
    exact ⟨n, e1, e2, chkV_zero hk4, hy4.symm.trans e3⟩
  clear hk4 hy4 hf4 hg4
  obtain ⟨c5, z5, hk5⟩ : ∃ x z, chkV 5 xs a = (x, z) := ⟨_, _, rfl⟩
  obtain ⟨y50, y51, y52, hy5⟩ := outHead_form xs a
  have HG5 := Lib.hid (fun u hR => GetHead_rd A c xs a u hR hc hn hl ha)
  have hg5 : ∀ u : World, GetOK (outHead xs a) (chkV 5 xs a).1 (chkV 5 xs a).2 u = fun e w' => e = .returned (.tuple #[.agg (outHead xs a), .agg #[.int .i64 (chkV 5 xs a).1, .int .i64 0, .int .i64 (chkV 5 xs a).2]]) ∧ Below u.heap.size u w' := fun _ => rfl
  simp only [hg5] at HG5
  rw [hk5, hy5] at HG5
  have HB5 := Lib.hid (fun hx => hy5.symm.trans (outHead_bad hk5 hx))
  have hf5 : ∀ u : World, RefOK #[.int .i64 (chkV 5 xs a).1, .int .i64 0, .int .i64 (chkV 5 xs a).2] u = fun e w' => e = .returned (.agg #[.int .i64 c5, .int .i64 0, .int .i64 z5]) ∧ Below u.heap.size u w' := by intro u; rw [hk5]; rfl
  have HF5 := Lib.hid (fun (u : World) (h : Rd u w.heap.size A xs) (hB : w.heap.size ≤ u.heap.size) => fault_any w.heap.size A c 5 xs a u h hB hc hn ha (by omega) (by omega))
  simp only [hf5] at HF5
  have HO5 : Hid (c5 = 0 → ∃ n : Nat, a = (n : Int) ∧ n + 8 ≤ xs.length ∧ z5 = 0 ∧ #[.int .u16 y50, .int .u16 y51, .int .u16 y52] = recHead (part xs n 8)) := fun h0 => by
    rw [h0] at hk5
    obtain ⟨n, e1, e2, e3⟩ := outHead_good hk5
    exact ⟨n, e1, e2, chkV_zero hk5, hy5.symm.trans e3⟩
  clear hk5 hy5 hf5 hg5
  obtain ⟨c6, z6, hk6⟩ : ∃ x z, chkV 6 xs a = (x, z) := ⟨_, _, rfl⟩
  obtain ⟨y60, y61, hy6⟩ := outLink_form xs a
  have HG6 := Lib.hid (fun u hR => GetLink_rd A c xs a u hR hc hn hl ha)
  have hg6 : ∀ u : World, GetOK (outLink xs a) (chkV 6 xs a).1 (chkV 6 xs a).2 u = fun e w' => e = .returned (.tuple #[.agg (outLink xs a), .agg #[.int .i64 (chkV 6 xs a).1, .int .i64 0, .int .i64 (chkV 6 xs a).2]]) ∧ Below u.heap.size u w' := fun _ => rfl
  simp only [hg6] at HG6
  rw [hk6, hy6] at HG6
  have HB6 := Lib.hid (fun hx => hy6.symm.trans (outLink_bad hk6 hx))
  have hf6 : ∀ u : World, RefOK #[.int .i64 (chkV 6 xs a).1, .int .i64 0, .int .i64 (chkV 6 xs a).2] u = fun e w' => e = .returned (.agg #[.int .i64 c6, .int .i64 0, .int .i64 z6]) ∧ Below u.heap.size u w' := by intro u; rw [hk6]; rfl
  have HF6 := Lib.hid (fun (u : World) (h : Rd u w.heap.size A xs) (hB : w.heap.size ≤ u.heap.size) => fault_any w.heap.size A c 6 xs a u h hB hc hn ha (by omega) (by omega))
  simp only [hf6] at HF6
  have HO6 : Hid (c6 = 0 → ∃ n : Nat, a = (n : Int) ∧ n + 8 ≤ xs.length ∧ z6 = 0 ∧ #[.int .u16 y60, .int .u16 y61] = recLink (part xs n 8)) := fun h0 => by
    rw [h0] at hk6
    obtain ⟨n, e1, e2, e3⟩ := outLink_good hk6
    exact ⟨n, e1, e2, chkV_zero hk6, hy6.symm.trans e3⟩
  clear hk6 hy6 hf6 hg6
  obtain ⟨u0, hu0⟩ : ∃ u0, u0 = w := ⟨_, rfl⟩
  have ST0 := Lib.hid (show RdB w u0 A xs [] from by rw [hu0]; exact ⟨hR, Below.refl _ _, fun p hp => by simp at hp⟩)
  have HU := Lib.hid hu0
  have HC := Lib.hid hc
  have HN := Lib.hid hn
  have HL := Lib.hid hl
  clear hR hu0 hc hn hl
  go_enter Try.func8, Try.ntmps8
  go_wp2_with fail
  rw [← HU.out]
  refine (HG1.out u0 (ST0.out.rd.more ST0.out.bel.size)).mono ?_
  rintro e r1 ⟨rfl, hb1⟩
  have ST1 := Lib.hid ((ST0.out.next hb1).two (.cells #[.int .u16 y10, .string y11, .int .u64 y12, .int .u64 y13] 45) (.cells #[.int .i64 c1, .int .i64 0, .int .i64 z1] 34))
  clear hb1 ST0 HG1
  go_wp2_with fail
  generalize (r1.alloc (.cells #[.int .u16 y10, .string y11, .int .u64 y12, .int .u64 y13] 45)).alloc (.cells #[.int .i64 c1, .int .i64 0, .int .i64 z1] 34) = u1 at *
  generalize r1.heap.size = g1 at *
  refine (HG2.out u1 (ST1.out.rd.more ST1.out.bel.size)).mono ?_
  rintro e r2 ⟨rfl, hb2⟩
  have ST2 := Lib.hid ((ST1.out.next hb2).two (.cells #[.int .u64 y20, .int .u64 y21, .int .u16 y22] 58) (.cells #[.int .i64 c2, .int .i64 0, .int .i64 z2] 34))
  clear hb2 ST1 HG2
  go_wp2_with fail
  generalize (r2.alloc (.cells #[.int .u64 y20, .int .u64 y21, .int .u16 y22] 58)).alloc (.cells #[.int .i64 c2, .int .i64 0, .int .i64 z2] 34) = u2 at *
  generalize r2.heap.size = g2 at *
  refine (HG3.out u2 (ST2.out.rd.more ST2.out.bel.size)).mono ?_
  rintro e r3 ⟨rfl, hb3⟩
  have ST3 := Lib.hid ((ST2.out.next hb3).two (.cells #[.int .u64 y30, .int .u64 y31, .int .u16 y32, .int .u8 y33, .bool y34] 50) (.cells #[.int .i64 c3, .int .i64 0, .int .i64 z3] 34))
  clear hb3 ST2 HG3
  go_wp2_with fail
  generalize (r3.alloc (.cells #[.int .u64 y30, .int .u64 y31, .int .u16 y32, .int .u8 y33, .bool y34] 50)).alloc (.cells #[.int .i64 c3, .int .i64 0, .int .i64 z3] 34) = u3 at *
  generalize r3.heap.size = g3 at *
  refine (HG4.out u3 (ST3.out.rd.more ST3.out.bel.size)).mono ?_
  rintro e r4 ⟨rfl, hb4⟩
  have ST4 := Lib.hid ((ST3.out.next hb4).two (.cells #[.int .u16 y40, .int .u16 y41, .string y42, .bool y43, .bool y44, .int .u32 y45] 26) (.cells #[.int .i64 c4, .int .i64 0, .int .i64 z4] 34))
  clear hb4 ST3 HG4
  go_wp2_with fail
  generalize (r4.alloc (.cells #[.int .u16 y40, .int .u16 y41, .string y42, .bool y43, .bool y44, .int .u32 y45] 26)).alloc (.cells #[.int .i64 c4, .int .i64 0, .int .i64 z4] 34) = u4 at *
  generalize r4.heap.size = g4 at *
  refine (HG5.out u4 (ST4.out.rd.more ST4.out.bel.size)).mono ?_
  rintro e r5 ⟨rfl, hb5⟩
  have ST5 := Lib.hid ((ST4.out.next hb5).two (.cells #[.int .u16 y50, .int .u16 y51, .int .u16 y52] 67) (.cells #[.int .i64 c5, .int .i64 0, .int .i64 z5] 34))
  clear hb5 ST4 HG5
  go_wp2_with fail
  generalize (r5.alloc (.cells #[.int .u16 y50, .int .u16 y51, .int .u16 y52] 67)).alloc (.cells #[.int .i64 c5, .int .i64 0, .int .i64 z5] 34) = u5 at *
  generalize r5.heap.size = g5 at *
  refine (HG6.out u5 (ST5.out.rd.more ST5.out.bel.size)).mono ?_
  rintro e r6 ⟨rfl, hb6⟩
  have ST6 := Lib.hid ((ST5.out.next hb6).two (.cells #[.int .u16 y60, .int .u16 y61] 69) (.cells #[.int .i64 c6, .int .i64 0, .int .i64 z6] 34))
  clear hb6 ST5 HG6
  go_upto_region 10 with fail
  generalize (r6.alloc (.cells #[.int .u16 y60, .int .u16 y61] 69)).alloc (.cells #[.int .i64 c6, .int .i64 0, .int .i64 z6] 34) = u6 at *
  generalize r6.heap.size = g6 at *
  obtain ⟨f10, f11, f12⟩ := three_cells (ST6.out.rows (g1 + 1, .cells #[.int .i64 c1, .int .i64 0, .int .i64 z1] 34) (by simp))
  obtain ⟨f20, f21, f22⟩ := three_cells (ST6.out.rows (g2 + 1, .cells #[.int .i64 c2, .int .i64 0, .int .i64 z2] 34) (by simp))
  obtain ⟨f30, f31, f32⟩ := three_cells (ST6.out.rows (g3 + 1, .cells #[.int .i64 c3, .int .i64 0, .int .i64 z3] 34) (by simp))
  obtain ⟨f40, f41, f42⟩ := three_cells (ST6.out.rows (g4 + 1, .cells #[.int .i64 c4, .int .i64 0, .int .i64 z4] 34) (by simp))
  obtain ⟨f50, f51, f52⟩ := three_cells (ST6.out.rows (g5 + 1, .cells #[.int .i64 c5, .int .i64 0, .int .i64 z5] 34) (by simp))
  obtain ⟨f60, f61, f62⟩ := three_cells (ST6.out.rows (g6 + 1, .cells #[.int .i64 c6, .int .i64 0, .int .i64 z6] 34) (by simp))
  go_upto_region 11 with fail
  have ST7 := Lib.hid (ST6.out.one (.cells #[.int .i64 c1, .int .i64 0, .int .i64 z1, .int .i64 c2, .int .i64 0, .int .i64 z2, .int .i64 c3, .int .i64 0, .int .i64 z3, .int .i64 c4, .int .i64 0, .int .i64 z4, .int .i64 c5, .int .i64 0, .int .i64 z5, .int .i64 c6, .int .i64 0, .int .i64 z6] 34))
  generalize u6.alloc (.cells #[.int .i64 c1, .int .i64 0, .int .i64 z1, .int .i64 c2, .int .i64 0, .int .i64 z2, .int .i64 c3, .int .i64 0, .int .i64 z3, .int .i64 c4, .int .i64 0, .int .i64 z4, .int .i64 c5, .int .i64 0, .int .i64 z5, .int .i64 c6, .int .i64 0, .int .i64 z6] 34) = u7 at *
  generalize u6.heap.size = gF at *
  clear f10 f11 f12 f20 f21 f22 f30 f31 f32 f40 f41 f42 f50 f51 f52 f60 f61 f62 ST6
  go_upto_region 17 with fail
  have GW8 := Lib.hid (gW_start u7 (vrow (#[.int .u16 y10, .string y11, .int .u64 y12, .int .u64 y13]) (#[.int .u64 y20, .int .u64 y21, .int .u16 y22]) (#[.int .u64 y30, .int .u64 y31, .int .u16 y32, .int .u8 y33, .bool y34]) (#[.int .u16 y40, .int .u16 y41, .string y42, .bool y43, .bool y44, .int .u32 y45]) (#[.int .u16 y50, .int .u16 y51, .int .u16 y52]) (#[.int .u16 y60, .int .u16 y61])))
  have ST8 := Lib.hid (ST7.out.next (((((((Below.refl u7.heap.size u7).alloc (Nat.le_refl _) (.cells #[.int .u16 0, .string ⟨#[]⟩, .int .u64 0, .int .u64 0] 45)).alloc (by simp) (.cells #[.int .u64 0, .int .u64 0, .int .u16 0] 58)).alloc (by simp; omega) (.cells #[.int .u64 0, .int .u64 0, .int .u16 0, .int .u8 0, .bool false] 50)).alloc (by simp; omega) (.cells #[.int .u16 0, .int .u16 0, .string ⟨#[]⟩, .bool false, .bool false, .int .u32 0] 26)).alloc (by simp; omega) (.cells #[.int .u16 0, .int .u16 0, .int .u16 0] 60)).alloc (by simp; omega) (.cells #[.int .u16 0, .int .u16 0] 62)))
  generalize ((((((u7.alloc (.cells #[.int .u16 0, .string ⟨#[]⟩, .int .u64 0, .int .u64 0] 45)).alloc (.cells #[.int .u64 0, .int .u64 0, .int .u16 0] 58)).alloc (.cells #[.int .u64 0, .int .u64 0, .int .u16 0, .int .u8 0, .bool false] 50)).alloc (.cells #[.int .u16 0, .int .u16 0, .string ⟨#[]⟩, .bool false, .bool false, .int .u32 0] 26)).alloc (.cells #[.int .u16 0, .int .u16 0, .int .u16 0] 60)).alloc (.cells #[.int .u16 0, .int .u16 0] 62)) = u8 at *
  have hlow : ∀ p ∈ ([(gF, .cells #[.int .i64 c1, .int .i64 0, .int .i64 z1, .int .i64 c2, .int .i64 0, .int .i64 z2, .int .i64 c3, .int .i64 0, .int .i64 z3, .int .i64 c4, .int .i64 0, .int .i64 z4, .int .i64 c5, .int .i64 0, .int .i64 z5, .int .i64 c6, .int .i64 0, .int .i64 z6] 34), (g6 + 1, .cells #[.int .i64 c6, .int .i64 0, .int .i64 z6] 34), (g6, .cells #[.int .u16 y60, .int .u16 y61] 69), (g5 + 1, .cells #[.int .i64 c5, .int .i64 0, .int .i64 z5] 34), (g5, .cells #[.int .u16 y50, .int .u16 y51, .int .u16 y52] 67), (g4 + 1, .cells #[.int .i64 c4, .int .i64 0, .int .i64 z4] 34), (g4, .cells #[.int .u16 y40, .int .u16 y41, .string y42, .bool y43, .bool y44, .int .u32 y45] 26), (g3 + 1, .cells #[.int .i64 c3, .int .i64 0, .int .i64 z3] 34), (g3, .cells #[.int .u64 y30, .int .u64 y31, .int .u16 y32, .int .u8 y33, .bool y34] 50), (g2 + 1, .cells #[.int .i64 c2, .int .i64 0, .int .i64 z2] 34), (g2, .cells #[.int .u64 y20, .int .u64 y21, .int .u16 y22] 58), (g1 + 1, .cells #[.int .i64 c1, .int .i64 0, .int .i64 z1] 34), (g1, .cells #[.int .u16 y10, .string y11, .int .u64 y12, .int .u64 y13] 45)] : List (Nat × Obj)), p.1 < u7.heap.size := fun p hp => (Array.getElem?_eq_some_iff.1 (ST7.out.rows p hp)).1
  have hwq : w.heap.size ≤ u7.heap.size := ST7.out.bel.size
  generalize u7.heap.size = q at *
  clear ST7
  have HLOW := Lib.hid hlow
  have HWQ := Lib.hid hwq
  clear hlow hwq
  go_wp2_with fail
  go_loopw [25] (fun i wr => ∃ k : Nat, k ≤ 6 ∧ i = .int .i64 ((k : Int) + 1) ∧ RdB w wr A xs [(gF, .cells #[.int .i64 c1, .int .i64 0, .int .i64 z1, .int .i64 c2, .int .i64 0, .int .i64 z2, .int .i64 c3, .int .i64 0, .int .i64 z3, .int .i64 c4, .int .i64 0, .int .i64 z4, .int .i64 c5, .int .i64 0, .int .i64 z5, .int .i64 c6, .int .i64 0, .int .i64 z6] 34), (g6 + 1, .cells #[.int .i64 c6, .int .i64 0, .int .i64 z6] 34), (g6, .cells #[.int .u16 y60, .int .u16 y61] 69), (g5 + 1, .cells #[.int .i64 c5, .int .i64 0, .int .i64 z5] 34), (g5, .cells #[.int .u16 y50, .int .u16 y51, .int .u16 y52] 67), (g4 + 1, .cells #[.int .i64 c4, .int .i64 0, .int .i64 z4] 34), (g4, .cells #[.int .u16 y40, .int .u16 y41, .string y42, .bool y43, .bool y44, .int .u32 y45] 26), (g3 + 1, .cells #[.int .i64 c3, .int .i64 0, .int .i64 z3] 34), (g3, .cells #[.int .u64 y30, .int .u64 y31, .int .u16 y32, .int .u8 y33, .bool y34] 50), (g2 + 1, .cells #[.int .i64 c2, .int .i64 0, .int .i64 z2] 34), (g2, .cells #[.int .u64 y20, .int .u64 y21, .int .u16 y22] 58), (g1 + 1, .cells #[.int .i64 c1, .int .i64 0, .int .i64 z1] 34), (g1, .cells #[.int .u16 y10, .string y11, .int .u64 y12, .int .u64 y13] 45)] ∧ gW wr q k (vrow (#[.int .u16 y10, .string y11, .int .u64 y12, .int .u64 y13]) (#[.int .u64 y20, .int .u64 y21, .int .u16 y22]) (#[.int .u64 y30, .int .u64 y31, .int .u16 y32, .int .u8 y33, .bool y34]) (#[.int .u16 y40, .int .u16 y41, .string y42, .bool y43, .bool y44, .int .u32 y45]) (#[.int .u16 y50, .int .u16 y51, .int .u16 y52]) (#[.int .u16 y60, .int .u16 y61]))) (fun i _ => 8 - (intOf i).toNat)
  case atStart => exact ⟨0, by omega, rfl, ST8.out, GW8.out⟩
  case round =>
    obtain ⟨k, hk, rfl, hST, hGW⟩ := hrel
    have ST := Lib.hid hST
    have GW := Lib.hid hGW
    clear hST hGW ST8 GW8
    have hk7 : k = 0 ∨ k = 1 ∨ k = 2 ∨ k = 3 ∨ k = 4 ∨ k = 5 ∨ k = 6 := by omega
    rcases hk7 with rfl | rfl | rfl | rfl | rfl | rfl | rfl
    · rw [show (((0 : Nat) : Int) + 1) = 1 from rfl]
      go_wp2_with fail
      refine (HF1.out wr ST.out.rd ST.out.bel.size).mono ?_
      rintro e v1 ⟨rfl, hb⟩
      have ST1 := Lib.hid ((ST.out.next hb).one (.cells #[.int .i64 c1, .int .i64 0, .int .i64 z1] 34))
      have GW1 := Lib.hid ((GW.out.next hb).next ((Below.refl _ v1).alloc (Nat.le_refl _) (.cells #[.int .i64 c1, .int .i64 0, .int .i64 z1] 34)))
      clear hb ST GW
      go_upto_region 21 with fail
      generalize v1.alloc (.cells #[.int .i64 c1, .int .i64 0, .int .i64 z1] 34) = v2 at *
      generalize v1.heap.size = gw at *
      obtain ⟨f0, f1, f2⟩ := three_cells (ST1.out.rows (gw, .cells #[.int .i64 c1, .int .i64 0, .int .i64 z1] 34) (by simp))
      have hF := ST1.out.rows (gF, .cells #[.int .i64 c1, .int .i64 0, .int .i64 z1, .int .i64 c2, .int .i64 0, .int .i64 z2, .int .i64 c3, .int .i64 0, .int .i64 z3, .int .i64 c4, .int .i64 0, .int .i64 z4, .int .i64 c5, .int .i64 0, .int .i64 z5, .int .i64 c6, .int .i64 0, .int .i64 z6] 34) (by simp)
      have q0 : v2.cell? ⟨gF, 0, none⟩ = some (.int .i64 c1) := (cell_of_row v2 _ _ _ _ _ hF).trans rfl
      have q1 : v2.cell? ⟨gF, 1, none⟩ = some (.int .i64 0) := (cell_of_row v2 _ _ _ _ _ hF).trans rfl
      have q2 : v2.cell? ⟨gF, 2, none⟩ = some (.int .i64 z1) := (cell_of_row v2 _ _ _ _ _ hF).trans rfl
      have ST2 := Lib.hid ST1.out.less
      clear hF ST1
      go_quiet (fail)
      have ST3 := Lib.hid (show RdB w (v2.drewN nq) A xs _ from ⟨ST2.out.rd, drewN_b ST2.out.bel nq, ST2.out.rows⟩)
      have GW3 := Lib.hid (show gW (v2.drewN nq) q 0 (vrow (#[.int .u16 y10, .string y11, .int .u64 y12, .int .u64 y13]) (#[.int .u64 y20, .int .u64 y21, .int .u16 y22]) (#[.int .u64 y30, .int .u64 y31, .int .u16 y32, .int .u8 y33, .bool y34]) (#[.int .u16 y40, .int .u16 y41, .string y42, .bool y43, .bool y44, .int .u32 y45]) (#[.int .u16 y50, .int .u16 y51, .int .u16 y52]) (#[.int .u16 y60, .int .u16 y61])) from GW1.out)
      have a4 : (v2.drewN nq).cell? ⟨gw, 0, none⟩ = some (.int .i64 c1) := f0
      have a5 : (v2.drewN nq).cell? ⟨gw, 1, none⟩ = some (.int .i64 0) := f1
      have a6 : (v2.drewN nq).cell? ⟨gw, 2, none⟩ = some (.int .i64 z1) := f2
      generalize v2.drewN nq = v3 at *
      clear q0 q1 q2 f0 f1 f2 ST2 GW1
      by_cases hc0 : c1 = 0
      case neg =>
        have d1 : (c1 == 0) = false := by simpa using hc0
        have hsk := Lib.hid (gW.skip GW3.out (by omega) (HB1.out hc0))
        go_wp2
        go_roundw
        case rel => exact ⟨1, by omega, rfl, ST3.out, hsk.out⟩
        case measure => simp [intOf]
      obtain ⟨n, hna, hle, hz0, hval⟩ := HO1.out hc0
      subst hna
      subst hc0 hz0
      have hval2 := Lib.hid hval
      have hpl : (part xs n 56).length = 56 := part_length hle
      have hpe : List.take (n + 56 - n) (List.drop n xs) = part xs n 56 := by unfold part; rw [show n + 56 - n = 56 from by omega]
      have HPE := Lib.hid hpe
      have HLE := Lib.hid hle
      have HRG := Lib.hid (fun (A' : Option Addr) (c' : Nat) (u : World) (h : Rd u w.heap.size A' (part xs n 56)) (hB : w.heap.size ≤ u.heap.size) (h1 : 56 ≤ c') (h2 : c' ≤ 9223372036854775807) => refGetPartition_any w.heap.size A' c' (part xs n 56) u h hB (by rw [hpl]; exact h1) h2 (by rw [hpl]; omega))
      rw [hpl] at HRG
      have hro : ∀ u : World, RefOK (recPartition (part xs n 56)) u = fun e w' => e = .returned (.agg #[.int .u16 y10, .string y11, .int .u64 y12, .int .u64 y13]) ∧ Below u.heap.size u w' := by intro u; rw [← hval2.out]; rfl
      simp only [hro] at HRG
      have hSZ := Lib.hid (fun u => refSize_any 1 u)
      rw [show sizeV 1 = 56 from rfl] at hSZ
      have e1 : IntKind.i64.wrap ((n : Int) + 56) = ((n + 56 : Nat) : Int) := by have := HL.out; rw [IntWalk.i64_in _ (by omega)]; omega
      clear hval hpe hpl hro hle
      go_wp2_with fail
      refine (hSZ.out _).mono ?_
      rintro e w' ⟨rfl, rfl⟩
      go_wp2_with (refine wpList_cut rfl (.tmp 94) (.tmp 95) (.tmp 99) 22 rfl rfl (by kernel_rfl) A xs.length c n (n + 56) rfl rfl rfl (by omega) HLE.out HC.out w.heap.size xs rfl ST3.out.rd ?_; intro A' hA'; rw [HPE.out] at hA')
      refine (HRG.out A' (c - n) v3 hA' ST3.out.bel.size (by have := HC.out; have := HLE.out; omega) (by have := HN.out; omega)).mono ?_
      rintro e v4 ⟨rfl, hb4⟩
      have ST4 := Lib.hid (ST3.out.next hb4)
      have GW4 := Lib.hid (GW3.out.next hb4)
      clear hb4 hA' ST3 GW3
      have gr : v4.heap[q]? = some (.cells #[.int .u16 0, .string ⟨#[]⟩, .int .u64 0, .int .u64 0] 45 (0, 0)) := GW4.out 1 (by omega) (by omega)
      have GR := Lib.hid gr
      clear gr
      go_wp2_with (refine wpList_store_rowTo rfl 45 (.tmp 19) (.tmp 107) rfl rfl (q) #[.int .u16 y10, .string y11, .int .u64 y12, .int .u64 y13] rfl rfl 45 #[.int .u16 0, .string ⟨#[]⟩, .int .u64 0, .int .u64 0] GR.out (by kernel_rfl) rfl (by simp [Value.oneCell']) ?_)
      go_roundw
      case rel => exact ⟨1, by omega, rfl, ST4.out.put HLOW.out HWQ.out (by omega) #[.int .u16 y10, .string y11, .int .u64 y12, .int .u64 y13], GW4.out.put (by omega)⟩
      case measure => simp [intOf]
    · rw [show (((1 : Nat) : Int) + 1) = 2 from rfl]
      go_wp2_with fail
      refine (HF2.out wr ST.out.rd ST.out.bel.size).mono ?_
      rintro e v1 ⟨rfl, hb⟩
      have ST1 := Lib.hid ((ST.out.next hb).one (.cells #[.int .i64 c2, .int .i64 0, .int .i64 z2] 34))
      have GW1 := Lib.hid ((GW.out.next hb).next ((Below.refl _ v1).alloc (Nat.le_refl _) (.cells #[.int .i64 c2, .int .i64 0, .int .i64 z2] 34)))
      clear hb ST GW
      go_upto_region 21 with fail
      generalize v1.alloc (.cells #[.int .i64 c2, .int .i64 0, .int .i64 z2] 34) = v2 at *
      generalize v1.heap.size = gw at *
      obtain ⟨f0, f1, f2⟩ := three_cells (ST1.out.rows (gw, .cells #[.int .i64 c2, .int .i64 0, .int .i64 z2] 34) (by simp))
      have hF := ST1.out.rows (gF, .cells #[.int .i64 c1, .int .i64 0, .int .i64 z1, .int .i64 c2, .int .i64 0, .int .i64 z2, .int .i64 c3, .int .i64 0, .int .i64 z3, .int .i64 c4, .int .i64 0, .int .i64 z4, .int .i64 c5, .int .i64 0, .int .i64 z5, .int .i64 c6, .int .i64 0, .int .i64 z6] 34) (by simp)
      have q0 : v2.cell? ⟨gF, 3, none⟩ = some (.int .i64 c2) := (cell_of_row v2 _ _ _ _ _ hF).trans rfl
      have q1 : v2.cell? ⟨gF, 4, none⟩ = some (.int .i64 0) := (cell_of_row v2 _ _ _ _ _ hF).trans rfl
      have q2 : v2.cell? ⟨gF, 5, none⟩ = some (.int .i64 z2) := (cell_of_row v2 _ _ _ _ _ hF).trans rfl
      have ST2 := Lib.hid ST1.out.less
      clear hF ST1
      go_quiet (fail)
      have ST3 := Lib.hid (show RdB w (v2.drewN nq) A xs _ from ⟨ST2.out.rd, drewN_b ST2.out.bel nq, ST2.out.rows⟩)
      have GW3 := Lib.hid (show gW (v2.drewN nq) q 1 (vrow (#[.int .u16 y10, .string y11, .int .u64 y12, .int .u64 y13]) (#[.int .u64 y20, .int .u64 y21, .int .u16 y22]) (#[.int .u64 y30, .int .u64 y31, .int .u16 y32, .int .u8 y33, .bool y34]) (#[.int .u16 y40, .int .u16 y41, .string y42, .bool y43, .bool y44, .int .u32 y45]) (#[.int .u16 y50, .int .u16 y51, .int .u16 y52]) (#[.int .u16 y60, .int .u16 y61])) from GW1.out)
      have a4 : (v2.drewN nq).cell? ⟨gw, 0, none⟩ = some (.int .i64 c2) := f0
      have a5 : (v2.drewN nq).cell? ⟨gw, 1, none⟩ = some (.int .i64 0) := f1
      have a6 : (v2.drewN nq).cell? ⟨gw, 2, none⟩ = some (.int .i64 z2) := f2
      generalize v2.drewN nq = v3 at *
      clear q0 q1 q2 f0 f1 f2 ST2 GW1
      by_cases hc0 : c2 = 0
      case neg =>
        have d1 : (c2 == 0) = false := by simpa using hc0
        have hsk := Lib.hid (gW.skip GW3.out (by omega) (HB2.out hc0))
        go_wp2
        go_roundw
        case rel => exact ⟨2, by omega, rfl, ST3.out, hsk.out⟩
        case measure => simp [intOf]
      obtain ⟨n, hna, hle, hz0, hval⟩ := HO2.out hc0
      subst hna
      subst hc0 hz0
      have hval2 := Lib.hid hval
      have hpl : (part xs n 24).length = 24 := part_length hle
      have hpe : List.take (n + 24 - n) (List.drop n xs) = part xs n 24 := by unfold part; rw [show n + 24 - n = 24 from by omega]
      have HPE := Lib.hid hpe
      have HLE := Lib.hid hle
      have HRG := Lib.hid (fun (A' : Option Addr) (c' : Nat) (u : World) (h : Rd u w.heap.size A' (part xs n 24)) (hB : w.heap.size ≤ u.heap.size) (h1 : 24 ≤ c') (h2 : c' ≤ 9223372036854775807) => refGetWindow_any w.heap.size A' c' (part xs n 24) u h hB (by rw [hpl]; exact h1) h2)
      rw [hpl] at HRG
      have hro : ∀ u : World, RefOK (recWindow (part xs n 24)) u = fun e w' => e = .returned (.agg #[.int .u64 y20, .int .u64 y21, .int .u16 y22]) ∧ Below u.heap.size u w' := by intro u; rw [← hval2.out]; rfl
      simp only [hro] at HRG
      have hSZ := Lib.hid (fun u => refSize_any 2 u)
      rw [show sizeV 2 = 24 from rfl] at hSZ
      have e1 : IntKind.i64.wrap ((n : Int) + 24) = ((n + 24 : Nat) : Int) := by have := HL.out; rw [IntWalk.i64_in _ (by omega)]; omega
      clear hval hpe hpl hro hle
      go_wp2_with fail
      refine (hSZ.out _).mono ?_
      rintro e w' ⟨rfl, rfl⟩
      go_wp2_with (refine wpList_cut rfl (.tmp 94) (.tmp 95) (.tmp 99) 22 rfl rfl (by kernel_rfl) A xs.length c n (n + 24) rfl rfl rfl (by omega) HLE.out HC.out w.heap.size xs rfl ST3.out.rd ?_; intro A' hA'; rw [HPE.out] at hA')
      refine (HRG.out A' (c - n) v3 hA' ST3.out.bel.size (by have := HC.out; have := HLE.out; omega) (by have := HN.out; omega)).mono ?_
      rintro e v4 ⟨rfl, hb4⟩
      have ST4 := Lib.hid (ST3.out.next hb4)
      have GW4 := Lib.hid (GW3.out.next hb4)
      clear hb4 hA' ST3 GW3
      have gr : v4.heap[q + 1]? = some (.cells #[.int .u64 0, .int .u64 0, .int .u16 0] 58 (0, 0)) := GW4.out 2 (by omega) (by omega)
      have GR := Lib.hid gr
      clear gr
      go_wp2_with (refine wpList_store_rowTo rfl 58 (.tmp 20) (.tmp 111) rfl rfl (q + 1) #[.int .u64 y20, .int .u64 y21, .int .u16 y22] rfl rfl 58 #[.int .u64 0, .int .u64 0, .int .u16 0] GR.out (by kernel_rfl) rfl (by simp [Value.oneCell']) ?_)
      go_roundw
      case rel => exact ⟨2, by omega, rfl, ST4.out.put HLOW.out HWQ.out (by omega) #[.int .u64 y20, .int .u64 y21, .int .u16 y22], GW4.out.put (by omega)⟩
      case measure => simp [intOf]
    · rw [show (((2 : Nat) : Int) + 1) = 3 from rfl]
      go_wp2_with fail
      refine (HF3.out wr ST.out.rd ST.out.bel.size).mono ?_
      rintro e v1 ⟨rfl, hb⟩
      have ST1 := Lib.hid ((ST.out.next hb).one (.cells #[.int .i64 c3, .int .i64 0, .int .i64 z3] 34))
      have GW1 := Lib.hid ((GW.out.next hb).next ((Below.refl _ v1).alloc (Nat.le_refl _) (.cells #[.int .i64 c3, .int .i64 0, .int .i64 z3] 34)))
      clear hb ST GW
      go_upto_region 21 with fail
      generalize v1.alloc (.cells #[.int .i64 c3, .int .i64 0, .int .i64 z3] 34) = v2 at *
      generalize v1.heap.size = gw at *
      obtain ⟨f0, f1, f2⟩ := three_cells (ST1.out.rows (gw, .cells #[.int .i64 c3, .int .i64 0, .int .i64 z3] 34) (by simp))
      have hF := ST1.out.rows (gF, .cells #[.int .i64 c1, .int .i64 0, .int .i64 z1, .int .i64 c2, .int .i64 0, .int .i64 z2, .int .i64 c3, .int .i64 0, .int .i64 z3, .int .i64 c4, .int .i64 0, .int .i64 z4, .int .i64 c5, .int .i64 0, .int .i64 z5, .int .i64 c6, .int .i64 0, .int .i64 z6] 34) (by simp)
      have q0 : v2.cell? ⟨gF, 6, none⟩ = some (.int .i64 c3) := (cell_of_row v2 _ _ _ _ _ hF).trans rfl
      have q1 : v2.cell? ⟨gF, 7, none⟩ = some (.int .i64 0) := (cell_of_row v2 _ _ _ _ _ hF).trans rfl
      have q2 : v2.cell? ⟨gF, 8, none⟩ = some (.int .i64 z3) := (cell_of_row v2 _ _ _ _ _ hF).trans rfl
      have ST2 := Lib.hid ST1.out.less
      clear hF ST1
      go_quiet (fail)
      have ST3 := Lib.hid (show RdB w (v2.drewN nq) A xs _ from ⟨ST2.out.rd, drewN_b ST2.out.bel nq, ST2.out.rows⟩)
      have GW3 := Lib.hid (show gW (v2.drewN nq) q 2 (vrow (#[.int .u16 y10, .string y11, .int .u64 y12, .int .u64 y13]) (#[.int .u64 y20, .int .u64 y21, .int .u16 y22]) (#[.int .u64 y30, .int .u64 y31, .int .u16 y32, .int .u8 y33, .bool y34]) (#[.int .u16 y40, .int .u16 y41, .string y42, .bool y43, .bool y44, .int .u32 y45]) (#[.int .u16 y50, .int .u16 y51, .int .u16 y52]) (#[.int .u16 y60, .int .u16 y61])) from GW1.out)
      have a4 : (v2.drewN nq).cell? ⟨gw, 0, none⟩ = some (.int .i64 c3) := f0
      have a5 : (v2.drewN nq).cell? ⟨gw, 1, none⟩ = some (.int .i64 0) := f1
      have a6 : (v2.drewN nq).cell? ⟨gw, 2, none⟩ = some (.int .i64 z3) := f2
      generalize v2.drewN nq = v3 at *
      clear q0 q1 q2 f0 f1 f2 ST2 GW1
      by_cases hc0 : c3 = 0
      case neg =>
        have d1 : (c3 == 0) = false := by simpa using hc0
        have hsk := Lib.hid (gW.skip GW3.out (by omega) (HB3.out hc0))
        go_wp2
        go_roundw
        case rel => exact ⟨3, by omega, rfl, ST3.out, hsk.out⟩
        case measure => simp [intOf]
      obtain ⟨n, hna, hle, hz0, hval⟩ := HO3.out hc0
      subst hna
      subst hc0 hz0
      have hval2 := Lib.hid hval
      have hpl : (part xs n 24).length = 24 := part_length hle
      have hpe : List.take (n + 24 - n) (List.drop n xs) = part xs n 24 := by unfold part; rw [show n + 24 - n = 24 from by omega]
      have HPE := Lib.hid hpe
      have HLE := Lib.hid hle
      have HRG := Lib.hid (fun (A' : Option Addr) (c' : Nat) (u : World) (h : Rd u w.heap.size A' (part xs n 24)) (hB : w.heap.size ≤ u.heap.size) (h1 : 24 ≤ c') (h2 : c' ≤ 9223372036854775807) => refGetRegion_any w.heap.size A' c' (part xs n 24) u h hB (by rw [hpl]; exact h1) h2 hpl)
      rw [hpl] at HRG
      have hro : ∀ u : World, RefOK (recRegion (part xs n 24)) u = fun e w' => e = .returned (.agg #[.int .u64 y30, .int .u64 y31, .int .u16 y32, .int .u8 y33, .bool y34]) ∧ Below u.heap.size u w' := by intro u; rw [← hval2.out]; rfl
      simp only [hro] at HRG
      have hSZ := Lib.hid (fun u => refSize_any 3 u)
      rw [show sizeV 3 = 24 from rfl] at hSZ
      have e1 : IntKind.i64.wrap ((n : Int) + 24) = ((n + 24 : Nat) : Int) := by have := HL.out; rw [IntWalk.i64_in _ (by omega)]; omega
      clear hval hpe hpl hro hle
      go_wp2_with fail
      refine (hSZ.out _).mono ?_
      rintro e w' ⟨rfl, rfl⟩
      go_wp2_with (refine wpList_cut rfl (.tmp 94) (.tmp 95) (.tmp 99) 22 rfl rfl (by kernel_rfl) A xs.length c n (n + 24) rfl rfl rfl (by omega) HLE.out HC.out w.heap.size xs rfl ST3.out.rd ?_; intro A' hA'; rw [HPE.out] at hA')
      refine (HRG.out A' (c - n) v3 hA' ST3.out.bel.size (by have := HC.out; have := HLE.out; omega) (by have := HN.out; omega)).mono ?_
      rintro e v4 ⟨rfl, hb4⟩
      have ST4 := Lib.hid (ST3.out.next hb4)
      have GW4 := Lib.hid (GW3.out.next hb4)
      clear hb4 hA' ST3 GW3
      have gr : v4.heap[q + 1 + 1]? = some (.cells #[.int .u64 0, .int .u64 0, .int .u16 0, .int .u8 0, .bool false] 50 (0, 0)) := GW4.out 3 (by omega) (by omega)
      have GR := Lib.hid gr
      clear gr
      go_wp2_with (refine wpList_store_rowTo rfl 50 (.tmp 21) (.tmp 115) rfl rfl (q + 1 + 1) #[.int .u64 y30, .int .u64 y31, .int .u16 y32, .int .u8 y33, .bool y34] rfl rfl 50 #[.int .u64 0, .int .u64 0, .int .u16 0, .int .u8 0, .bool false] GR.out (by kernel_rfl) rfl (by simp [Value.oneCell']) ?_)
      go_roundw
      case rel => exact ⟨3, by omega, rfl, ST4.out.put HLOW.out HWQ.out (by omega) #[.int .u64 y30, .int .u64 y31, .int .u16 y32, .int .u8 y33, .bool y34], GW4.out.put (by omega)⟩
      case measure => simp [intOf]
    · rw [show (((3 : Nat) : Int) + 1) = 4 from rfl]
      go_wp2_with fail
      refine (HF4.out wr ST.out.rd ST.out.bel.size).mono ?_
      rintro e v1 ⟨rfl, hb⟩
      have ST1 := Lib.hid ((ST.out.next hb).one (.cells #[.int .i64 c4, .int .i64 0, .int .i64 z4] 34))
      have GW1 := Lib.hid ((GW.out.next hb).next ((Below.refl _ v1).alloc (Nat.le_refl _) (.cells #[.int .i64 c4, .int .i64 0, .int .i64 z4] 34)))
      clear hb ST GW
      go_upto_region 21 with fail
      generalize v1.alloc (.cells #[.int .i64 c4, .int .i64 0, .int .i64 z4] 34) = v2 at *
      generalize v1.heap.size = gw at *
      obtain ⟨f0, f1, f2⟩ := three_cells (ST1.out.rows (gw, .cells #[.int .i64 c4, .int .i64 0, .int .i64 z4] 34) (by simp))
      have hF := ST1.out.rows (gF, .cells #[.int .i64 c1, .int .i64 0, .int .i64 z1, .int .i64 c2, .int .i64 0, .int .i64 z2, .int .i64 c3, .int .i64 0, .int .i64 z3, .int .i64 c4, .int .i64 0, .int .i64 z4, .int .i64 c5, .int .i64 0, .int .i64 z5, .int .i64 c6, .int .i64 0, .int .i64 z6] 34) (by simp)
      have q0 : v2.cell? ⟨gF, 9, none⟩ = some (.int .i64 c4) := (cell_of_row v2 _ _ _ _ _ hF).trans rfl
      have q1 : v2.cell? ⟨gF, 10, none⟩ = some (.int .i64 0) := (cell_of_row v2 _ _ _ _ _ hF).trans rfl
      have q2 : v2.cell? ⟨gF, 11, none⟩ = some (.int .i64 z4) := (cell_of_row v2 _ _ _ _ _ hF).trans rfl
      have ST2 := Lib.hid ST1.out.less
      clear hF ST1
      go_quiet (fail)
      have ST3 := Lib.hid (show RdB w (v2.drewN nq) A xs _ from ⟨ST2.out.rd, drewN_b ST2.out.bel nq, ST2.out.rows⟩)
      have GW3 := Lib.hid (show gW (v2.drewN nq) q 3 (vrow (#[.int .u16 y10, .string y11, .int .u64 y12, .int .u64 y13]) (#[.int .u64 y20, .int .u64 y21, .int .u16 y22]) (#[.int .u64 y30, .int .u64 y31, .int .u16 y32, .int .u8 y33, .bool y34]) (#[.int .u16 y40, .int .u16 y41, .string y42, .bool y43, .bool y44, .int .u32 y45]) (#[.int .u16 y50, .int .u16 y51, .int .u16 y52]) (#[.int .u16 y60, .int .u16 y61])) from GW1.out)
      have a4 : (v2.drewN nq).cell? ⟨gw, 0, none⟩ = some (.int .i64 c4) := f0
      have a5 : (v2.drewN nq).cell? ⟨gw, 1, none⟩ = some (.int .i64 0) := f1
      have a6 : (v2.drewN nq).cell? ⟨gw, 2, none⟩ = some (.int .i64 z4) := f2
      generalize v2.drewN nq = v3 at *
      clear q0 q1 q2 f0 f1 f2 ST2 GW1
      by_cases hc0 : c4 = 0
      case neg =>
        have d1 : (c4 == 0) = false := by simpa using hc0
        have hsk := Lib.hid (gW.skip GW3.out (by omega) (HB4.out hc0))
        go_wp2
        go_roundw
        case rel => exact ⟨4, by omega, rfl, ST3.out, hsk.out⟩
        case measure => simp [intOf]
      obtain ⟨n, hna, hle, hz0, hval⟩ := HO4.out hc0
      subst hna
      subst hc0 hz0
      have hval2 := Lib.hid hval
      have hpl : (part xs n 48).length = 48 := part_length hle
      have hpe : List.take (n + 48 - n) (List.drop n xs) = part xs n 48 := by unfold part; rw [show n + 48 - n = 48 from by omega]
      have HPE := Lib.hid hpe
      have HLE := Lib.hid hle
      have HRG := Lib.hid (fun (A' : Option Addr) (c' : Nat) (u : World) (h : Rd u w.heap.size A' (part xs n 48)) (hB : w.heap.size ≤ u.heap.size) (h1 : 48 ≤ c') (h2 : c' ≤ 9223372036854775807) => refGetPort_any w.heap.size A' c' (part xs n 48) u h hB (by rw [hpl]; exact h1) h2 (by rw [hpl]; omega))
      rw [hpl] at HRG
      have hro : ∀ u : World, RefOK (recPort (part xs n 48)) u = fun e w' => e = .returned (.agg #[.int .u16 y40, .int .u16 y41, .string y42, .bool y43, .bool y44, .int .u32 y45]) ∧ Below u.heap.size u w' := by intro u; rw [← hval2.out]; rfl
      simp only [hro] at HRG
      have hSZ := Lib.hid (fun u => refSize_any 4 u)
      rw [show sizeV 4 = 48 from rfl] at hSZ
      have e1 : IntKind.i64.wrap ((n : Int) + 48) = ((n + 48 : Nat) : Int) := by have := HL.out; rw [IntWalk.i64_in _ (by omega)]; omega
      clear hval hpe hpl hro hle
      go_wp2_with fail
      refine (hSZ.out _).mono ?_
      rintro e w' ⟨rfl, rfl⟩
      go_wp2_with (refine wpList_cut rfl (.tmp 94) (.tmp 95) (.tmp 99) 22 rfl rfl (by kernel_rfl) A xs.length c n (n + 48) rfl rfl rfl (by omega) HLE.out HC.out w.heap.size xs rfl ST3.out.rd ?_; intro A' hA'; rw [HPE.out] at hA')
      refine (HRG.out A' (c - n) v3 hA' ST3.out.bel.size (by have := HC.out; have := HLE.out; omega) (by have := HN.out; omega)).mono ?_
      rintro e v4 ⟨rfl, hb4⟩
      have ST4 := Lib.hid (ST3.out.next hb4)
      have GW4 := Lib.hid (GW3.out.next hb4)
      clear hb4 hA' ST3 GW3
      have gr : v4.heap[q + 1 + 1 + 1]? = some (.cells #[.int .u16 0, .int .u16 0, .string ⟨#[]⟩, .bool false, .bool false, .int .u32 0] 26 (0, 0)) := GW4.out 4 (by omega) (by omega)
      have GR := Lib.hid gr
      clear gr
      go_wp2_with (refine wpList_store_rowTo rfl 26 (.tmp 22) (.tmp 119) rfl rfl (q + 1 + 1 + 1) #[.int .u16 y40, .int .u16 y41, .string y42, .bool y43, .bool y44, .int .u32 y45] rfl rfl 26 #[.int .u16 0, .int .u16 0, .string ⟨#[]⟩, .bool false, .bool false, .int .u32 0] GR.out (by kernel_rfl) rfl (by simp [Value.oneCell']) ?_)
      go_roundw
      case rel => exact ⟨4, by omega, rfl, ST4.out.put HLOW.out HWQ.out (by omega) #[.int .u16 y40, .int .u16 y41, .string y42, .bool y43, .bool y44, .int .u32 y45], GW4.out.put (by omega)⟩
      case measure => simp [intOf]
    · rw [show (((4 : Nat) : Int) + 1) = 5 from rfl]
      go_wp2_with fail
      refine (HF5.out wr ST.out.rd ST.out.bel.size).mono ?_
      rintro e v1 ⟨rfl, hb⟩
      have ST1 := Lib.hid ((ST.out.next hb).one (.cells #[.int .i64 c5, .int .i64 0, .int .i64 z5] 34))
      have GW1 := Lib.hid ((GW.out.next hb).next ((Below.refl _ v1).alloc (Nat.le_refl _) (.cells #[.int .i64 c5, .int .i64 0, .int .i64 z5] 34)))
      clear hb ST GW
      go_upto_region 21 with fail
      generalize v1.alloc (.cells #[.int .i64 c5, .int .i64 0, .int .i64 z5] 34) = v2 at *
      generalize v1.heap.size = gw at *
      obtain ⟨f0, f1, f2⟩ := three_cells (ST1.out.rows (gw, .cells #[.int .i64 c5, .int .i64 0, .int .i64 z5] 34) (by simp))
      have hF := ST1.out.rows (gF, .cells #[.int .i64 c1, .int .i64 0, .int .i64 z1, .int .i64 c2, .int .i64 0, .int .i64 z2, .int .i64 c3, .int .i64 0, .int .i64 z3, .int .i64 c4, .int .i64 0, .int .i64 z4, .int .i64 c5, .int .i64 0, .int .i64 z5, .int .i64 c6, .int .i64 0, .int .i64 z6] 34) (by simp)
      have q0 : v2.cell? ⟨gF, 12, none⟩ = some (.int .i64 c5) := (cell_of_row v2 _ _ _ _ _ hF).trans rfl
      have q1 : v2.cell? ⟨gF, 13, none⟩ = some (.int .i64 0) := (cell_of_row v2 _ _ _ _ _ hF).trans rfl
      have q2 : v2.cell? ⟨gF, 14, none⟩ = some (.int .i64 z5) := (cell_of_row v2 _ _ _ _ _ hF).trans rfl
      have ST2 := Lib.hid ST1.out.less
      clear hF ST1
      go_quiet (fail)
      have ST3 := Lib.hid (show RdB w (v2.drewN nq) A xs _ from ⟨ST2.out.rd, drewN_b ST2.out.bel nq, ST2.out.rows⟩)
      have GW3 := Lib.hid (show gW (v2.drewN nq) q 4 (vrow (#[.int .u16 y10, .string y11, .int .u64 y12, .int .u64 y13]) (#[.int .u64 y20, .int .u64 y21, .int .u16 y22]) (#[.int .u64 y30, .int .u64 y31, .int .u16 y32, .int .u8 y33, .bool y34]) (#[.int .u16 y40, .int .u16 y41, .string y42, .bool y43, .bool y44, .int .u32 y45]) (#[.int .u16 y50, .int .u16 y51, .int .u16 y52]) (#[.int .u16 y60, .int .u16 y61])) from GW1.out)
      have a4 : (v2.drewN nq).cell? ⟨gw, 0, none⟩ = some (.int .i64 c5) := f0
      have a5 : (v2.drewN nq).cell? ⟨gw, 1, none⟩ = some (.int .i64 0) := f1
      have a6 : (v2.drewN nq).cell? ⟨gw, 2, none⟩ = some (.int .i64 z5) := f2
      generalize v2.drewN nq = v3 at *
      clear q0 q1 q2 f0 f1 f2 ST2 GW1
      by_cases hc0 : c5 = 0
      case neg =>
        have d1 : (c5 == 0) = false := by simpa using hc0
        have hsk := Lib.hid (gW.skip GW3.out (by omega) (HB5.out hc0))
        go_wp2
        go_roundw
        case rel => exact ⟨5, by omega, rfl, ST3.out, hsk.out⟩
        case measure => simp [intOf]
      obtain ⟨n, hna, hle, hz0, hval⟩ := HO5.out hc0
      subst hna
      subst hc0 hz0
      have hval2 := Lib.hid hval
      have hpl : (part xs n 8).length = 8 := part_length hle
      have hpe : List.take (n + 8 - n) (List.drop n xs) = part xs n 8 := by unfold part; rw [show n + 8 - n = 8 from by omega]
      have HPE := Lib.hid hpe
      have HLE := Lib.hid hle
      have HRG := Lib.hid (fun (A' : Option Addr) (c' : Nat) (u : World) (h : Rd u w.heap.size A' (part xs n 8)) (hB : w.heap.size ≤ u.heap.size) (h1 : 8 ≤ c') (h2 : c' ≤ 9223372036854775807) => refGetHead_any w.heap.size A' c' (part xs n 8) u h hB (by rw [hpl]; exact h1) h2)
      rw [hpl] at HRG
      have hro : ∀ u : World, RefOK (recHead (part xs n 8)) u = fun e w' => e = .returned (.agg #[.int .u16 y50, .int .u16 y51, .int .u16 y52]) ∧ Below u.heap.size u w' := by intro u; rw [← hval2.out]; rfl
      simp only [hro] at HRG
      have hSZ := Lib.hid (fun u => refSize_any 5 u)
      rw [show sizeV 5 = 8 from rfl] at hSZ
      have e1 : IntKind.i64.wrap ((n : Int) + 8) = ((n + 8 : Nat) : Int) := by have := HL.out; rw [IntWalk.i64_in _ (by omega)]; omega
      clear hval hpe hpl hro hle
      go_wp2_with fail
      refine (hSZ.out _).mono ?_
      rintro e w' ⟨rfl, rfl⟩
      go_wp2_with (refine wpList_cut rfl (.tmp 94) (.tmp 95) (.tmp 99) 22 rfl rfl (by kernel_rfl) A xs.length c n (n + 8) rfl rfl rfl (by omega) HLE.out HC.out w.heap.size xs rfl ST3.out.rd ?_; intro A' hA'; rw [HPE.out] at hA')
      refine (HRG.out A' (c - n) v3 hA' ST3.out.bel.size (by have := HC.out; have := HLE.out; omega) (by have := HN.out; omega)).mono ?_
      rintro e v4 ⟨rfl, hb4⟩
      have ST4 := Lib.hid (ST3.out.next hb4)
      have GW4 := Lib.hid (GW3.out.next hb4)
      clear hb4 hA' ST3 GW3
      have gr : v4.heap[q + 1 + 1 + 1 + 1]? = some (.cells #[.int .u16 0, .int .u16 0, .int .u16 0] 60 (0, 0)) := GW4.out 5 (by omega) (by omega)
      have GR := Lib.hid gr
      clear gr
      go_wp2_with (refine wpList_store_rowTo rfl 60 (.tmp 23) (.tmp 123) rfl rfl (q + 1 + 1 + 1 + 1) #[.int .u16 y50, .int .u16 y51, .int .u16 y52] rfl rfl 60 #[.int .u16 0, .int .u16 0, .int .u16 0] GR.out (by kernel_rfl) rfl (by simp [Value.oneCell']) ?_)
      go_roundw
      case rel => exact ⟨5, by omega, rfl, ST4.out.put HLOW.out HWQ.out (by omega) #[.int .u16 y50, .int .u16 y51, .int .u16 y52], GW4.out.put (by omega)⟩
      case measure => simp [intOf]
    · rw [show (((5 : Nat) : Int) + 1) = 6 from rfl]
      go_wp2_with fail
      refine (HF6.out wr ST.out.rd ST.out.bel.size).mono ?_
      rintro e v1 ⟨rfl, hb⟩
      have ST1 := Lib.hid ((ST.out.next hb).one (.cells #[.int .i64 c6, .int .i64 0, .int .i64 z6] 34))
      have GW1 := Lib.hid ((GW.out.next hb).next ((Below.refl _ v1).alloc (Nat.le_refl _) (.cells #[.int .i64 c6, .int .i64 0, .int .i64 z6] 34)))
      clear hb ST GW
      go_upto_region 21 with fail
      generalize v1.alloc (.cells #[.int .i64 c6, .int .i64 0, .int .i64 z6] 34) = v2 at *
      generalize v1.heap.size = gw at *
      obtain ⟨f0, f1, f2⟩ := three_cells (ST1.out.rows (gw, .cells #[.int .i64 c6, .int .i64 0, .int .i64 z6] 34) (by simp))
      have hF := ST1.out.rows (gF, .cells #[.int .i64 c1, .int .i64 0, .int .i64 z1, .int .i64 c2, .int .i64 0, .int .i64 z2, .int .i64 c3, .int .i64 0, .int .i64 z3, .int .i64 c4, .int .i64 0, .int .i64 z4, .int .i64 c5, .int .i64 0, .int .i64 z5, .int .i64 c6, .int .i64 0, .int .i64 z6] 34) (by simp)
      have q0 : v2.cell? ⟨gF, 15, none⟩ = some (.int .i64 c6) := (cell_of_row v2 _ _ _ _ _ hF).trans rfl
      have q1 : v2.cell? ⟨gF, 16, none⟩ = some (.int .i64 0) := (cell_of_row v2 _ _ _ _ _ hF).trans rfl
      have q2 : v2.cell? ⟨gF, 17, none⟩ = some (.int .i64 z6) := (cell_of_row v2 _ _ _ _ _ hF).trans rfl
      have ST2 := Lib.hid ST1.out.less
      clear hF ST1
      go_quiet (fail)
      have ST3 := Lib.hid (show RdB w (v2.drewN nq) A xs _ from ⟨ST2.out.rd, drewN_b ST2.out.bel nq, ST2.out.rows⟩)
      have GW3 := Lib.hid (show gW (v2.drewN nq) q 5 (vrow (#[.int .u16 y10, .string y11, .int .u64 y12, .int .u64 y13]) (#[.int .u64 y20, .int .u64 y21, .int .u16 y22]) (#[.int .u64 y30, .int .u64 y31, .int .u16 y32, .int .u8 y33, .bool y34]) (#[.int .u16 y40, .int .u16 y41, .string y42, .bool y43, .bool y44, .int .u32 y45]) (#[.int .u16 y50, .int .u16 y51, .int .u16 y52]) (#[.int .u16 y60, .int .u16 y61])) from GW1.out)
      have a4 : (v2.drewN nq).cell? ⟨gw, 0, none⟩ = some (.int .i64 c6) := f0
      have a5 : (v2.drewN nq).cell? ⟨gw, 1, none⟩ = some (.int .i64 0) := f1
      have a6 : (v2.drewN nq).cell? ⟨gw, 2, none⟩ = some (.int .i64 z6) := f2
      generalize v2.drewN nq = v3 at *
      clear q0 q1 q2 f0 f1 f2 ST2 GW1
      by_cases hc0 : c6 = 0
      case neg =>
        have d1 : (c6 == 0) = false := by simpa using hc0
        have hsk := Lib.hid (gW.skip GW3.out (by omega) (HB6.out hc0))
        go_wp2
        go_roundw
        case rel => exact ⟨6, by omega, rfl, ST3.out, hsk.out⟩
        case measure => simp [intOf]
      obtain ⟨n, hna, hle, hz0, hval⟩ := HO6.out hc0
      subst hna
      subst hc0 hz0
      have hval2 := Lib.hid hval
      have hpl : (part xs n 8).length = 8 := part_length hle
      have hpe : List.take (n + 8 - n) (List.drop n xs) = part xs n 8 := by unfold part; rw [show n + 8 - n = 8 from by omega]
      have HPE := Lib.hid hpe
      have HLE := Lib.hid hle
      have HRG := Lib.hid (fun (A' : Option Addr) (c' : Nat) (u : World) (h : Rd u w.heap.size A' (part xs n 8)) (hB : w.heap.size ≤ u.heap.size) (h1 : 8 ≤ c') (h2 : c' ≤ 9223372036854775807) => refGetLink_any w.heap.size A' c' (part xs n 8) u h hB (by rw [hpl]; exact h1) h2)
      rw [hpl] at HRG
      have hro : ∀ u : World, RefOK (recLink (part xs n 8)) u = fun e w' => e = .returned (.agg #[.int .u16 y60, .int .u16 y61]) ∧ Below u.heap.size u w' := by intro u; rw [← hval2.out]; rfl
      simp only [hro] at HRG
      have hSZ := Lib.hid (fun u => refSize_any 6 u)
      rw [show sizeV 6 = 8 from rfl] at hSZ
      have e1 : IntKind.i64.wrap ((n : Int) + 8) = ((n + 8 : Nat) : Int) := by have := HL.out; rw [IntWalk.i64_in _ (by omega)]; omega
      clear hval hpe hpl hro hle
      go_wp2_with fail
      refine (hSZ.out _).mono ?_
      rintro e w' ⟨rfl, rfl⟩
      go_wp2_with (refine wpList_cut rfl (.tmp 94) (.tmp 95) (.tmp 99) 22 rfl rfl (by kernel_rfl) A xs.length c n (n + 8) rfl rfl rfl (by omega) HLE.out HC.out w.heap.size xs rfl ST3.out.rd ?_; intro A' hA'; rw [HPE.out] at hA')
      refine (HRG.out A' (c - n) v3 hA' ST3.out.bel.size (by have := HC.out; have := HLE.out; omega) (by have := HN.out; omega)).mono ?_
      rintro e v4 ⟨rfl, hb4⟩
      have ST4 := Lib.hid (ST3.out.next hb4)
      have GW4 := Lib.hid (GW3.out.next hb4)
      clear hb4 hA' ST3 GW3
      have gr : v4.heap[q + 1 + 1 + 1 + 1 + 1]? = some (.cells #[.int .u16 0, .int .u16 0] 62 (0, 0)) := GW4.out 6 (by omega) (by omega)
      have GR := Lib.hid gr
      clear gr
      go_wp2_with (refine wpList_store_rowTo rfl 62 (.tmp 24) (.tmp 103) rfl rfl (q + 1 + 1 + 1 + 1 + 1) #[.int .u16 y60, .int .u16 y61] rfl rfl 62 #[.int .u16 0, .int .u16 0] GR.out (by kernel_rfl) rfl (by simp [Value.oneCell']) ?_)
      go_roundw
      case rel => exact ⟨6, by omega, rfl, ST4.out.put HLOW.out HWQ.out (by omega) #[.int .u16 y60, .int .u16 y61], GW4.out.put (by omega)⟩
      case measure => simp [intOf]
    · rw [show (((6 : Nat) : Int) + 1) = 7 from rfl]
      go_wp2_with fail
      refine (alive09 _).mono ?_
      rintro e v1 ⟨rfl, hb⟩
      have hbel : Below w.heap.size w v1 := ST.out.bel.trans (hb.mono ST.out.bel.size)
      have ST1 := Lib.hid (ST.out.next hb)
      have GW1 := Lib.hid (GW.out.next hb)
      clear hb ST GW
      have r1 := ST1.out.rows (g1, .cells #[.int .u16 y10, .string y11, .int .u64 y12, .int .u64 y13] 45) (by simp)
      have r1' : v1.heap[q]? = some (.cells #[.int .u16 y10, .string y11, .int .u64 y12, .int .u64 y13] 45) := GW1.out 1 (by omega) (by omega)
      have k10a : v1.cell? ⟨g1, 0, none⟩ = some (.int .u16 y10) := (cell_of_row v1 _ _ _ _ _ r1).trans rfl
      have k11a : v1.cell? ⟨g1, 1, none⟩ = some (.string y11) := (cell_of_row v1 _ _ _ _ _ r1).trans rfl
      have k12a : v1.cell? ⟨g1, 2, none⟩ = some (.int .u64 y12) := (cell_of_row v1 _ _ _ _ _ r1).trans rfl
      have k13a : v1.cell? ⟨g1, 3, none⟩ = some (.int .u64 y13) := (cell_of_row v1 _ _ _ _ _ r1).trans rfl
      have k10b : v1.cell? ⟨q, 0, none⟩ = some (.int .u16 y10) := (cell_of_row v1 _ _ _ _ _ r1').trans rfl
      have k11b : v1.cell? ⟨q, 1, none⟩ = some (.string y11) := (cell_of_row v1 _ _ _ _ _ r1').trans rfl
      have k12b : v1.cell? ⟨q, 2, none⟩ = some (.int .u64 y12) := (cell_of_row v1 _ _ _ _ _ r1').trans rfl
      have k13b : v1.cell? ⟨q, 3, none⟩ = some (.int .u64 y13) := (cell_of_row v1 _ _ _ _ _ r1').trans rfl
      clear r1 r1'
      have r2 := ST1.out.rows (g2, .cells #[.int .u64 y20, .int .u64 y21, .int .u16 y22] 58) (by simp)
      have r2' : v1.heap[q + 1]? = some (.cells #[.int .u64 y20, .int .u64 y21, .int .u16 y22] 58) := GW1.out 2 (by omega) (by omega)
      have k20a : v1.cell? ⟨g2, 0, none⟩ = some (.int .u64 y20) := (cell_of_row v1 _ _ _ _ _ r2).trans rfl
      have k21a : v1.cell? ⟨g2, 1, none⟩ = some (.int .u64 y21) := (cell_of_row v1 _ _ _ _ _ r2).trans rfl
      have k22a : v1.cell? ⟨g2, 2, none⟩ = some (.int .u16 y22) := (cell_of_row v1 _ _ _ _ _ r2).trans rfl
      have k20b : v1.cell? ⟨q + 1, 0, none⟩ = some (.int .u64 y20) := (cell_of_row v1 _ _ _ _ _ r2').trans rfl
      have k21b : v1.cell? ⟨q + 1, 1, none⟩ = some (.int .u64 y21) := (cell_of_row v1 _ _ _ _ _ r2').trans rfl
      have k22b : v1.cell? ⟨q + 1, 2, none⟩ = some (.int .u16 y22) := (cell_of_row v1 _ _ _ _ _ r2').trans rfl
      clear r2 r2'
      have r3 := ST1.out.rows (g3, .cells #[.int .u64 y30, .int .u64 y31, .int .u16 y32, .int .u8 y33, .bool y34] 50) (by simp)
      have r3' : v1.heap[q + 1 + 1]? = some (.cells #[.int .u64 y30, .int .u64 y31, .int .u16 y32, .int .u8 y33, .bool y34] 50) := GW1.out 3 (by omega) (by omega)
      have k30a : v1.cell? ⟨g3, 0, none⟩ = some (.int .u64 y30) := (cell_of_row v1 _ _ _ _ _ r3).trans rfl
      have k31a : v1.cell? ⟨g3, 1, none⟩ = some (.int .u64 y31) := (cell_of_row v1 _ _ _ _ _ r3).trans rfl
      have k32a : v1.cell? ⟨g3, 2, none⟩ = some (.int .u16 y32) := (cell_of_row v1 _ _ _ _ _ r3).trans rfl
      have k33a : v1.cell? ⟨g3, 3, none⟩ = some (.int .u8 y33) := (cell_of_row v1 _ _ _ _ _ r3).trans rfl
      have k34a : v1.cell? ⟨g3, 4, none⟩ = some (.bool y34) := (cell_of_row v1 _ _ _ _ _ r3).trans rfl
      have k30b : v1.cell? ⟨q + 1 + 1, 0, none⟩ = some (.int .u64 y30) := (cell_of_row v1 _ _ _ _ _ r3').trans rfl
      have k31b : v1.cell? ⟨q + 1 + 1, 1, none⟩ = some (.int .u64 y31) := (cell_of_row v1 _ _ _ _ _ r3').trans rfl
      have k32b : v1.cell? ⟨q + 1 + 1, 2, none⟩ = some (.int .u16 y32) := (cell_of_row v1 _ _ _ _ _ r3').trans rfl
      have k33b : v1.cell? ⟨q + 1 + 1, 3, none⟩ = some (.int .u8 y33) := (cell_of_row v1 _ _ _ _ _ r3').trans rfl
      have k34b : v1.cell? ⟨q + 1 + 1, 4, none⟩ = some (.bool y34) := (cell_of_row v1 _ _ _ _ _ r3').trans rfl
      clear r3 r3'
      have r4 := ST1.out.rows (g4, .cells #[.int .u16 y40, .int .u16 y41, .string y42, .bool y43, .bool y44, .int .u32 y45] 26) (by simp)
      have r4' : v1.heap[q + 1 + 1 + 1]? = some (.cells #[.int .u16 y40, .int .u16 y41, .string y42, .bool y43, .bool y44, .int .u32 y45] 26) := GW1.out 4 (by omega) (by omega)
      have k40a : v1.cell? ⟨g4, 0, none⟩ = some (.int .u16 y40) := (cell_of_row v1 _ _ _ _ _ r4).trans rfl
      have k41a : v1.cell? ⟨g4, 1, none⟩ = some (.int .u16 y41) := (cell_of_row v1 _ _ _ _ _ r4).trans rfl
      have k42a : v1.cell? ⟨g4, 2, none⟩ = some (.string y42) := (cell_of_row v1 _ _ _ _ _ r4).trans rfl
      have k43a : v1.cell? ⟨g4, 3, none⟩ = some (.bool y43) := (cell_of_row v1 _ _ _ _ _ r4).trans rfl
      have k44a : v1.cell? ⟨g4, 4, none⟩ = some (.bool y44) := (cell_of_row v1 _ _ _ _ _ r4).trans rfl
      have k45a : v1.cell? ⟨g4, 5, none⟩ = some (.int .u32 y45) := (cell_of_row v1 _ _ _ _ _ r4).trans rfl
      have k40b : v1.cell? ⟨q + 1 + 1 + 1, 0, none⟩ = some (.int .u16 y40) := (cell_of_row v1 _ _ _ _ _ r4').trans rfl
      have k41b : v1.cell? ⟨q + 1 + 1 + 1, 1, none⟩ = some (.int .u16 y41) := (cell_of_row v1 _ _ _ _ _ r4').trans rfl
      have k42b : v1.cell? ⟨q + 1 + 1 + 1, 2, none⟩ = some (.string y42) := (cell_of_row v1 _ _ _ _ _ r4').trans rfl
      have k43b : v1.cell? ⟨q + 1 + 1 + 1, 3, none⟩ = some (.bool y43) := (cell_of_row v1 _ _ _ _ _ r4').trans rfl
      have k44b : v1.cell? ⟨q + 1 + 1 + 1, 4, none⟩ = some (.bool y44) := (cell_of_row v1 _ _ _ _ _ r4').trans rfl
      have k45b : v1.cell? ⟨q + 1 + 1 + 1, 5, none⟩ = some (.int .u32 y45) := (cell_of_row v1 _ _ _ _ _ r4').trans rfl
      clear r4 r4'
      have r5 := ST1.out.rows (g5, .cells #[.int .u16 y50, .int .u16 y51, .int .u16 y52] 67) (by simp)
      have r5' : v1.heap[q + 1 + 1 + 1 + 1]? = some (.cells #[.int .u16 y50, .int .u16 y51, .int .u16 y52] 60) := GW1.out 5 (by omega) (by omega)
      have k50a : v1.cell? ⟨g5, 0, none⟩ = some (.int .u16 y50) := (cell_of_row v1 _ _ _ _ _ r5).trans rfl
      have k51a : v1.cell? ⟨g5, 1, none⟩ = some (.int .u16 y51) := (cell_of_row v1 _ _ _ _ _ r5).trans rfl
      have k52a : v1.cell? ⟨g5, 2, none⟩ = some (.int .u16 y52) := (cell_of_row v1 _ _ _ _ _ r5).trans rfl
      have k50b : v1.cell? ⟨q + 1 + 1 + 1 + 1, 0, none⟩ = some (.int .u16 y50) := (cell_of_row v1 _ _ _ _ _ r5').trans rfl
      have k51b : v1.cell? ⟨q + 1 + 1 + 1 + 1, 1, none⟩ = some (.int .u16 y51) := (cell_of_row v1 _ _ _ _ _ r5').trans rfl
      have k52b : v1.cell? ⟨q + 1 + 1 + 1 + 1, 2, none⟩ = some (.int .u16 y52) := (cell_of_row v1 _ _ _ _ _ r5').trans rfl
      clear r5 r5'
      have r6 := ST1.out.rows (g6, .cells #[.int .u16 y60, .int .u16 y61] 69) (by simp)
      have r6' : v1.heap[q + 1 + 1 + 1 + 1 + 1]? = some (.cells #[.int .u16 y60, .int .u16 y61] 62) := GW1.out 6 (by omega) (by omega)
      have k60a : v1.cell? ⟨g6, 0, none⟩ = some (.int .u16 y60) := (cell_of_row v1 _ _ _ _ _ r6).trans rfl
      have k61a : v1.cell? ⟨g6, 1, none⟩ = some (.int .u16 y61) := (cell_of_row v1 _ _ _ _ _ r6).trans rfl
      have k60b : v1.cell? ⟨q + 1 + 1 + 1 + 1 + 1, 0, none⟩ = some (.int .u16 y60) := (cell_of_row v1 _ _ _ _ _ r6').trans rfl
      have k61b : v1.cell? ⟨q + 1 + 1 + 1 + 1 + 1, 1, none⟩ = some (.int .u16 y61) := (cell_of_row v1 _ _ _ _ _ r6').trans rfl
      clear r6 r6'
      clear ST1 GW1
      have HB := Lib.hid hbel
      clear hbel
      go_wp2
      go_ret
      exact ⟨by simp, HB.out⟩
end Go.Proofs.Ytpeajffnhmmaeaa
