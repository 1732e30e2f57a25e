/-
  A builder and the reference's bytes side by side.
-/
import Derived.Test.YtlofceojchlmgaaBuf5
import Derived.Test.YtlofceojchlmgaaRefApp
import Derived.Test.YtlofceojchlmgaaBZeros
import Derived.Test.YtlofceojchlmgaaOwn2
namespace Go.Proofs.Ytlofceojchlmgaa
set_option linter.unusedVariables false
open Go.RowKit

/-- the builder in block g holds zs, the variable in block h a slice that reads as us; what was there at w0 is as it was -/
structure Duo (w0 w : World) (g h : Nat) (Ab : Option Addr) (cb : Nat) (A : Option Addr) (c : Nat) (zs us : List UInt8) : Prop where
  bld : Bld w g Ab cb zs
  var : w.heap[h]? = some (.cells #[.slice A us.length c] 22 (0, 0))
  own : Own w A c us
  sep : ∀ k, blk Ab = some k → blk A ≠ some k
  bel : Below w0.heap.size w0 w
  hg : w0.heap.size ≤ g
  hh : w0.heap.size ≤ h
  hAb : ∀ k, blk Ab = some k → w0.heap.size ≤ k
  hA : ∀ k, blk A = some k → w0.heap.size ≤ k

section
variable {w0 w w' : World} {g h : Nat} {Ab : Option Addr} {cb : Nat} {A : Option Addr} {c : Nat} {zs us : List UInt8}
theorem Duo.cell (d : Duo w0 w g h Ab cb A c zs us) : w.cell? ⟨h, 0, none⟩ = some (.slice A us.length c) := by rw [cell_of_row w h 0 _ _ (0, 0) d.var]; rfl
theorem Duo.frozen (d : Duo w0 w g h Ab cb A c zs us) : w.frozen? ⟨h, 0, none⟩ = false := by simp [World.frozen?, d.var]
theorem Duo.ne (d : Duo w0 w g h Ab cb A c zs us) : g ≠ h := by
  intro e
  have h1 := d.bld.obj
  rw [e, d.var] at h1
  injection h1 with h1
  injection h1 with _ ht
  exact absurd ht (by decide)
theorem Duo.ne2 (d : Duo w0 w g h Ab cb A c zs us) {X : Option Addr} {cx : Nat} {xs : List UInt8} (hX : Own w X cx xs) : blk X ≠ some h := by
  intro e
  obtain ⟨cur, hc⟩ := hX.type h e
  rw [d.var] at hc
  injection hc with hc
  injection hc with _ ht
  exact absurd ht (by decide)
theorem Duo.ne3 (d : Duo w0 w g h Ab cb A c zs us) {X : Option Addr} {cx : Nat} {xs : List UInt8} (hX : Own w X cx xs) : blk X ≠ some g := by
  intro e
  obtain ⟨cur, hc⟩ := hX.type g e
  rw [d.bld.obj] at hc
  injection hc with hc
  injection hc with _ ht
  exact absurd ht (by decide)
theorem Duo.lt (d : Duo w0 w g h Ab cb A c zs us) : h < w.heap.size := (Array.getElem?_eq_some_iff.1 d.var).1
/-- what turns nothing that was there -/
theorem Duo.next (d : Duo w0 w g h Ab cb A c zs us) (hb : Below w.heap.size w w') : Duo w0 w' g h Ab cb A c zs us :=
  ⟨d.bld.keep (S := fun _ => False) (Chg.of_below hb) (fun h => h) (fun _ _ h => h), (hb.block h d.lt).trans d.var, d.own.keep (S := fun _ => False) (Chg.of_below hb) (fun _ _ h => h), d.sep, d.bel.trans (hb.mono d.bel.size), d.hg, d.hh, d.hAb, d.hA⟩
theorem Duo.drew (d : Duo w0 w g h Ab cb A c zs us) : Duo w0 w.drew g h Ab cb A c zs us := d.next (Below.refl _ w).drew
theorem Duo.alloc (d : Duo w0 w g h Ab cb A c zs us) (o : Obj) : Duo w0 (w.alloc o) g h Ab cb A c zs us := d.next ((Below.refl _ w).alloc (Nat.le_refl _) o)
/-- what appends to the builder -/
theorem Duo.grew (d : Duo w0 w g h Ab cb A c zs us) {ys : List UInt8} (hG : Grew w g Ab ys w') : ∃ Ab' cb', Duo w0 w' g h Ab' cb' A c ys us := by
  obtain ⟨A', c', hb, hc, hr⟩ := hG
  refine ⟨A', c', hb, hc.obj d.var (fun e => ?_), d.own.keep hc (fun k hk e => ?_), fun k hk e => ?_, d.bel.trans (hc.below (fun k hk => ?_) d.bel.size), d.hg, d.hh, fun k hk => ?_, d.hA⟩
  · rcases e with e | e
    · exact d.ne e.symm
    · exact d.ne2 d.bld.own e
  · rcases e with e | e
    · exact d.ne3 d.own (e ▸ hk)
    · exact d.sep k e hk
  · rcases hr k hk with h1 | h1
    · exact d.sep k h1 e
    · have := d.own.lt k e; omega
  · rcases hk with hk | hk
    · have := d.hg; omega
    · exact d.hAb k hk
  · rcases hr k hk with h1 | h1
    · exact d.hAb k h1
    · exact Nat.le_trans d.bel.size h1
/-- what the reference's variable is set to: a row of its own, or the one that is there -/
theorem Duo.set_ (d : Duo w0 w g h Ab cb A c zs us) {A' : Option Addr} {c' : Nat} {vs : List UInt8} (ho : Own w A' c' vs) (hs : ∀ k, blk Ab = some k → blk A' ≠ some k) (hA' : ∀ k, blk A' = some k → w0.heap.size ≤ k) :
    Duo w0 (w.setCell ⟨h, 0, none⟩ (.slice A' vs.length c')) g h Ab cb A' c' zs vs := by
  have hc : Chg (fun k => k = h) w (w.setCell ⟨h, 0, none⟩ (.slice A' vs.length c')) := (Chg.refl (fun k => k = h) w).setCell (p := ⟨h, 0, none⟩) (.inl rfl) _
  refine ⟨d.bld.keep hc d.ne (fun k hk e => d.ne2 d.bld.own (e ▸ hk)), ?_, ho.keep hc (fun k hk e => d.ne2 ho (e ▸ hk)), hs, d.bel.setCell (by exact d.hh) _, d.hg, d.hh, d.hAb, hA'⟩
  simp [World.setCell, Array.getElem?_modify, d.var]
end

/-- both hold the same bytes -/
def Both (w0 w : World) (g h : Nat) (zs us : List UInt8) : Prop := ∃ Ab cb A c, Duo w0 w g h Ab cb A c zs us
section
variable {w0 w w' : World} {g h : Nat} {zs us : List UInt8}
theorem Both.next (d : Both w0 w g h zs us) (hb : Below w.heap.size w w') : Both w0 w' g h zs us := by
  obtain ⟨_, _, _, _, d⟩ := d; exact ⟨_, _, _, _, d.next hb⟩
theorem Both.drew (d : Both w0 w g h zs us) : Both w0 w.drew g h zs us := d.next (Below.refl _ w).drew
theorem Both.bel (d : Both w0 w g h zs us) : Below w0.heap.size w0 w := by obtain ⟨_, _, _, _, d⟩ := d; exact d.bel
end

theorem bothU8 (w0 w : World) (g h : Nat) (zs us : List UInt8) (d : Both w0 w g h zs us) (x : Nat) (hx : x < 18446744073709551616) (hlen : zs.length + 1 ≤ 140737488355328) :
    Calls Try.prog 19 #[.pointer (some ⟨g, 0, none⟩), .int .u8 (x : Int)] w fun e w' => e = .returned (.tuple #[]) ∧ Both w0 w' g h (zs ++ leB x 1) us := by
  obtain ⟨Ab, cb, A, c, d⟩ := d
  exact (putU8 g cb Ab zs x w d.bld hx hlen).mono fun _ _ ⟨he, hG⟩ => ⟨he, by obtain ⟨_, _, h⟩ := d.grew hG; exact ⟨_, _, _, _, h⟩⟩
theorem bothU16 (w0 w : World) (g h : Nat) (zs us : List UInt8) (d : Both w0 w g h zs us) (x : Nat) (hx : x < 18446744073709551616) (hlen : zs.length + 2 ≤ 140737488355328) :
    Calls Try.prog 18 #[.pointer (some ⟨g, 0, none⟩), .int .u16 (x : Int)] w fun e w' => e = .returned (.tuple #[]) ∧ Both w0 w' g h (zs ++ leB x 2) us := by
  obtain ⟨Ab, cb, A, c, d⟩ := d
  exact (putU16 g cb Ab zs x w d.bld hx hlen).mono fun _ _ ⟨he, hG⟩ => ⟨he, by obtain ⟨_, _, h⟩ := d.grew hG; exact ⟨_, _, _, _, h⟩⟩
theorem bothU32 (w0 w : World) (g h : Nat) (zs us : List UInt8) (d : Both w0 w g h zs us) (x : Nat) (hx : x < 18446744073709551616) (hlen : zs.length + 4 ≤ 140737488355328) :
    Calls Try.prog 17 #[.pointer (some ⟨g, 0, none⟩), .int .u32 (x : Int)] w fun e w' => e = .returned (.tuple #[]) ∧ Both w0 w' g h (zs ++ leB x 4) us := by
  obtain ⟨Ab, cb, A, c, d⟩ := d
  exact (putU32 g cb Ab zs x w d.bld hx hlen).mono fun _ _ ⟨he, hG⟩ => ⟨he, by obtain ⟨_, _, h⟩ := d.grew hG; exact ⟨_, _, _, _, h⟩⟩
theorem bothU64 (w0 w : World) (g h : Nat) (zs us : List UInt8) (d : Both w0 w g h zs us) (x : Nat) (hx : x < 18446744073709551616) (hlen : zs.length + 8 ≤ 140737488355328) :
    Calls Try.prog 16 #[.pointer (some ⟨g, 0, none⟩), .int .u64 (x : Int)] w fun e w' => e = .returned (.tuple #[]) ∧ Both w0 w' g h (zs ++ leB x 8) us := by
  obtain ⟨Ab, cb, A, c, d⟩ := d
  exact (putU64 g cb Ab zs x w d.bld hx hlen).mono fun _ _ ⟨he, hG⟩ => ⟨he, by obtain ⟨_, _, h⟩ := d.grew hG; exact ⟨_, _, _, _, h⟩⟩
theorem bothAdd (w0 w : World) (g h : Nat) (zs us : List UInt8) (d : Both w0 w g h zs us) (X : Option Addr) (m cx : Nat) (ys : List UInt8) (hm : ys.length = m) (hR : Rd w0 w0.heap.size X ys) (hlen : zs.length + ys.length ≤ 140737488355328) :
    Calls Try.prog 20 #[.pointer (some ⟨g, 0, none⟩), .slice X m cx] w fun e w' => e = .returned (.tuple #[]) ∧ Both w0 w' g h (zs ++ ys) us := by
  obtain ⟨Ab, cb, A, c, d⟩ := d
  exact (Add_any g cb Ab zs w0.heap.size X m cx ys w d.bld hm (hR.below d.bel) hlen).mono fun _ _ ⟨he, hG⟩ => ⟨he, by obtain ⟨_, _, h⟩ := d.grew hG; exact ⟨_, _, _, _, h⟩⟩

/-- the bytes behind n zeros, and whether there were so many -/
def zerosV (zs : List UInt8) (n : Int) : List UInt8 × Bool := if n < 0 ∨ 16777216 - (zs.length : Int) < n then (zs, false) else (zs ++ List.replicate n.toNat 0, true)
def alignV (zs : List UInt8) (n : Int) : List UInt8 × Bool := if n < 1 then (zs, false) else if (zs.length : Int) % n = 0 then (zs, true) else zerosV zs (n - (zs.length : Int) % n)

set_option maxHeartbeats 400000 in
theorem Zeros_no (g c : Nat) (A : Option Addr) (xs : List UInt8) (n : Int) (w : World) (hb : Bld w g A c xs) (hl : xs.length ≤ 16777216) (h : n < 0 ∨ 16777216 - (xs.length : Int) < n) :
    Calls Try.prog 27 #[.pointer (some ⟨g, 0, none⟩), .int .i64 n] w fun e w' => e = .returned (.bool false) ∧ w = w' := by
  have hc := hb.cell
  clear hb
  by_cases h0 : n < 0
  · have d0 : decide (n < 0) = true := decide_eq_true h0
    go_enter Try.func27, Try.ntmps27
    go_wp2
    go_ret
    exact ⟨rfl, rfl⟩
  · have d0 : decide (n < 0) = false := decide_eq_false h0
    have d1 : decide (16777216 - (xs.length : Int) < n) = true := decide_eq_true (by omega)
    have hw : IntKind.i64.wrap (16777216 - (xs.length : Int)) = 16777216 - (xs.length : Int) := IntWalk.i64_in _ (by omega)
    go_enter Try.func27, Try.ntmps27
    go_wp2
    go_ret
    exact ⟨rfl, rfl⟩

theorem bothZeros (w0 w : World) (g h : Nat) (zs us : List UInt8) (d : Both w0 w g h zs us) (n : Int) (hl : zs.length ≤ 16777216) :
    Calls Try.prog 27 #[.pointer (some ⟨g, 0, none⟩), .int .i64 n] w fun e w' => e = .returned (.bool (zerosV zs n).2) ∧ Both w0 w' g h (zerosV zs n).1 us := by
  obtain ⟨Ab, cb, A, c, d⟩ := d
  by_cases h : n < 0 ∨ 16777216 - (zs.length : Int) < n
  · unfold zerosV
    rw [if_pos h]
    exact (Zeros_no g cb Ab zs n w d.bld hl h).mono fun _ _ ⟨he, hw⟩ => ⟨he, hw ▸ ⟨_, _, _, _, d⟩⟩
  · obtain ⟨k, rfl⟩ : ∃ k : Nat, n = (k : Int) := ⟨n.toNat, by omega⟩
    unfold zerosV
    rw [if_neg h]
    exact (Zeros_any g cb Ab zs k w d.bld (by omega)).mono fun _ _ ⟨he, hG⟩ => ⟨he, by obtain ⟨_, _, h⟩ := d.grew hG; exact ⟨_, _, _, _, h⟩⟩

set_option maxHeartbeats 800000 in
theorem bothAlign (w0 w : World) (g h : Nat) (zs us : List UInt8) (d : Both w0 w g h zs us) (n : Int) (hn : -9223372036854775808 ≤ n ∧ n ≤ 9223372036854775807) (hl : zs.length ≤ 16777216) :
    Calls Try.prog 28 #[.pointer (some ⟨g, 0, none⟩), .int .i64 n] w fun e w' => e = .returned (.bool (alignV zs n).2) ∧ Both w0 w' g h (alignV zs n).1 us := by
  obtain ⟨Ab, cb, A, c, d0⟩ := id d
  have hc := d0.bld.cell
  clear d0
  by_cases h1 : n < 1
  · have d1 : decide (n < 1) = true := decide_eq_true h1
    have HV : Hid (alignV zs n = (zs, false)) := by show _ = _; unfold alignV; rw [if_pos h1]
    have HD := Lib.hid d
    clear d
    go_enter Try.func28, Try.ntmps28
    go_wp2
    go_ret
    rw [HV.out]
    exact ⟨rfl, HD.out⟩
  · have d1 : decide (n < 1) = false := decide_eq_false h1
    have hz : ¬ n = 0 := by omega
    have hr0 := Int.emod_nonneg (zs.length : Int) hz
    have hr1 := Int.emod_lt_of_pos (zs.length : Int) (show 0 < n by omega)
    by_cases h2 : (zs.length : Int) % n = 0
    · have HV : Hid (alignV zs n = (zs, true)) := by show _ = _; unfold alignV; rw [if_neg h1, if_pos h2]
      have HD := Lib.hid d
      clear d hr0 hr1 hz
      go_enter Try.func28, Try.ntmps28
      go_wp2
      go_ret
      rw [HV.out]
      exact ⟨rfl, HD.out⟩
    · have HV : Hid (alignV zs n = zerosV zs (n - (zs.length : Int) % n)) := by show _ = _; unfold alignV; rw [if_neg h1, if_neg h2]
      have HD := Lib.hid d
      have d2 : decide (0 < (zs.length : Int) % n) = true := decide_eq_true (by omega)
      clear d h2 hz
      go_enter Try.func28, Try.ntmps28
      go_wp2_with fail
      refine (bothZeros w0 w g h zs us HD.out (n - (zs.length : Int) % n) hl).mono ?_
      rintro e w1 ⟨rfl, hb⟩
      go_wp2_with fail
      go_ret
      rw [HV.out]
      exact ⟨rfl, hb⟩
end Go.Proofs.Ytlofceojchlmgaa
