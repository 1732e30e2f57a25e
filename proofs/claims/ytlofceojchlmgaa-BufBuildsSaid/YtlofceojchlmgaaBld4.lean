/-
  One call on a builder and on the reference's bytes: Add, Zeros, Align.
-/
import Derived.Test.YtlofceojchlmgaaBld3
import Derived.Deep.RegionLaw
namespace Go.Proofs.Ytlofceojchlmgaa
set_option linter.unusedVariables false
open Go.RowKit

set_option maxRecDepth 100000 in
set_option maxHeartbeats 1600000 in
theorem do_4 (w0 w : World) (g h : Nat) (zs : List UInt8) (hd : Both w0 w g h zs zs) (n : Int) (x : Int) (X : Option Addr) (m cx : Nat) (data : List UInt8) (hm : data.length = m) (hR : Rd w0 w0.heap.size X data) (hlen : zs.length ≤ 1000000) (hl2 : m ≤ 1000) :
    Calls Try.prog 31 #[.pointer (some ⟨g, 0, none⟩), .pointer (some ⟨h, 0, none⟩), .agg #[.int .i64 4, .int .i64 n, .int .u64 x, .slice X m cx]] w (Done w0 g h (zs ++ data)) := by
  obtain ⟨Ab, cb, A, c, d⟩ := hd
  obtain ⟨d1, hbox, n1, n2, n3⟩ := d.boxed (.cells #[.int .i64 4, .int .i64 n, .int .u64 x, .slice X m cx] 60)
  have hbl : w.heap.size < (w.alloc (.cells #[.int .i64 4, .int .i64 n, .int .u64 x, .slice X m cx] 60)).heap.size := by simp
  have HD1 := Lib.hid d1
  have HBX := Lib.hid hbox
  have HN := Lib.hid (And.intro n1 (And.intro n2 n3))
  have HR := Lib.hid hR
  have HM := Lib.hid hm
  clear d d1 hbox n1 n2 n3 hR hm
  go_enter Try.func31, Try.ntmps31
  go_wp2_with fail
  refine (Add_any g cb Ab zs w0.heap.size X m cx data _ HD1.out.bld HM.out (HR.out.below HD1.out.bel) (by have := HM.out; omega)).mono ?_
  rintro e w2 ⟨rfl, hG⟩
  have hbox2 := hG.obj HBX.out HN.out.1 HN.out.2.1
  obtain ⟨A2, c2, d2⟩ := HD1.out.grew hG
  obtain ⟨k0, k1, k2, k3⟩ := four_cells hbox2
  have hc := d2.cell
  have hf := d2.frozen
  have hb2 : w.heap.size < w2.heap.size := (Array.getElem?_eq_some_iff.1 hbox2).1
  have hca : ∀ o, (w2.alloc o).cell? ⟨h, 0, none⟩ = some (.slice A zs.length c) := fun o => (d2.alloc o).cell
  have hka : ∀ o, (w2.alloc o).cell? ⟨w.heap.size, 3, none⟩ = some (.slice X m cx) := fun o => (World.cell?_alloc_lt w2 o _ hb2).trans k3
  have HD2 := Lib.hid d2.drew
  have HB2 := Lib.hid hbox2
  clear hG d2 hbox2 HBX
  generalize hb : w.heap.size = b at *
  go_wp2_with fail
  go_region_law (first
    | (refine step_app rfl (.tmp 116) (.tmp 119) 22 rfl Try.underlying22 infoU8 (some ⟨w2.heap.size, 0, none⟩) 0 0 [] rfl rfl (Own.empty w2.drew) w2.drew.heap.size A zs.length c zs rfl rfl (HD2.out.own.rd.alloc (Nat.le_refl _) _) (by simp; omega) ?_; intro A3 c3 w3 hown hg hat hnn; rw [List.nil_append] at hown ⊢; have HK3 := Lib.hid (Kept.of_new (w := w2.drew) (cs := #[]) hown hg hat); have k3' := (HK3.out.bel.cell (p := ⟨b, 3, none⟩) hb2).trans k3; clear hown hg hat hnn)
    | (refine step_app rfl (.tmp 120) (.tmp 122) 22 rfl Try.underlying22 infoU8 A3 zs.length c3 zs rfl rfl HK3.out.own w0.heap.size X m cx data HM.out rfl (HR.out.below (HD2.out.bel.trans (HK3.out.bel.mono HD2.out.bel.size))) (by have := HM.out; omega) ?_; intro A4 c4 w4 hown4 hg4 hat4 hnn4; have HK4 := Lib.hid (HK3.out.grown0 hown4 hg4 hat4); have hc4 := (HD2.out.next HK4.out.bel).cell; have hf4 := (HD2.out.next HK4.out.bel).frozen; have HD4 := Lib.hid (HD2.out.got HK4.out.own (.inr HK4.out.fresh) HK4.out.bel); clear hown4 hg4 hat4 hnn4))
  all_goals
    go_wp2
    go_ret
    have h3 := HD4.out
    rw [List.length_append] at h3
    exact ⟨rfl, _, _, _, _, h3⟩

set_option maxRecDepth 100000 in
set_option maxHeartbeats 1600000 in
theorem do_5 (w0 w : World) (g h : Nat) (zs : List UInt8) (hd : Both w0 w g h zs zs) (n : Int) (x : Int) (X : Option Addr) (m cx : Nat) (hn : -9223372036854775808 ≤ n ∧ n ≤ 9223372036854775807) (hlen : zs.length ≤ 1000000) :
    Calls Try.prog 31 #[.pointer (some ⟨g, 0, none⟩), .pointer (some ⟨h, 0, none⟩), .agg #[.int .i64 5, .int .i64 n, .int .u64 x, .slice X m cx]] w (Done w0 g h (zerosV zs n).1) := by
  obtain ⟨Ab, cb, A, c, d⟩ := hd
  have hh := d.boxed (.cells #[.int .i64 5, .int .i64 n, .int .u64 x, .slice X m cx] 60)
  obtain ⟨w1, hw1⟩ : ∃ w1, w1 = w.alloc (.cells #[.int .i64 5, .int .i64 n, .int .u64 x, .slice X m cx] 60) := ⟨_, rfl⟩
  have HW1 := Lib.hid hw1
  have hbl : w.heap.size < w1.heap.size := by rw [hw1]; simp
  rw [← hw1] at hh
  obtain ⟨d1, hbox, n1, n2, n3⟩ := hh
  clear hw1
  have HB := Lib.hid (fun (w' : World) us (hb : Both w0 w' g h zs us) => (bothZeros w0 w' g h zs us hb n (by omega)))
  have HZ := Lib.hid (fun (w' : World) (hO : Own w' A c zs) => (refZeros_any A c zs.length zs n w' rfl hO (by omega)))
  obtain ⟨k0, k1, k2, k3⟩ := four_cells hbox
  have hc := d1.cell
  have hf := d1.frozen
  have HD1 := Lib.hid d1.drew
  have HN := Lib.hid n3
  clear d d1 hbox n1 n2 n3
  generalize zerosV zs n = r at *
  obtain ⟨ys, bo⟩ := r
  have HO : Hid (∀ bb : Bool, (bb == bb) = true) := by intro bb; cases bb <;> rfl
  go_enter Try.func31, Try.ntmps31
  go_wp2_with fail
  rw [← HW1.out]
  clear HW1
  generalize hb : w.heap.size = b at *
  go_region_with (first
    | (go_at_call 46; refine (HZ.out w1.drew HD1.out.own).mono ?_; rintro e w3 ⟨A3, c3, rfl, ho3, hA3, hb3⟩; have hc3 := (HD1.out.next hb3).cell; have hf3 := (HD1.out.next hb3).frozen; have k1' := (World.cell?_setCell_other w3 ⟨h, 0, none⟩ ⟨b, 1, none⟩ (.slice A3 ys.length c3) (fun e => by cases e)).trans ((hb3.cell (p := ⟨b, 1, none⟩) hbl).trans k1); have HD3 := Lib.hid (HD1.out.got ho3 hA3 hb3); clear ho3 hA3 hb3))
  all_goals
    go_wp2_with fail
    refine (HB.out _ _ ⟨_, _, _, _, HD3.out⟩).mono ?_
    rintro e w4 ⟨rfl, hb4⟩
    go_wp2_with fail
    go_ret
    exact ⟨by simp, hb4⟩
set_option maxRecDepth 100000 in
set_option maxHeartbeats 1600000 in
theorem do_6 (w0 w : World) (g h : Nat) (zs : List UInt8) (hd : Both w0 w g h zs zs) (n : Int) (x : Int) (X : Option Addr) (m cx : Nat) (hn : -9223372036854775808 ≤ n ∧ n ≤ 9223372036854775807) (hlen : zs.length ≤ 1000000) :
    Calls Try.prog 31 #[.pointer (some ⟨g, 0, none⟩), .pointer (some ⟨h, 0, none⟩), .agg #[.int .i64 6, .int .i64 n, .int .u64 x, .slice X m cx]] w (Done w0 g h (alignV zs n).1) := by
  obtain ⟨Ab, cb, A, c, d⟩ := hd
  have hh := d.boxed (.cells #[.int .i64 6, .int .i64 n, .int .u64 x, .slice X m cx] 60)
  obtain ⟨w1, hw1⟩ : ∃ w1, w1 = w.alloc (.cells #[.int .i64 6, .int .i64 n, .int .u64 x, .slice X m cx] 60) := ⟨_, rfl⟩
  have HW1 := Lib.hid hw1
  have hbl : w.heap.size < w1.heap.size := by rw [hw1]; simp
  rw [← hw1] at hh
  obtain ⟨d1, hbox, n1, n2, n3⟩ := hh
  clear hw1
  have HB := Lib.hid (fun (w' : World) us (hb : Both w0 w' g h zs us) => (bothAlign w0 w' g h zs us hb n hn (by omega)))
  have HZ := Lib.hid (fun (w' : World) (hO : Own w' A c zs) => (refAlign_any A c zs.length zs n w' rfl hO (by omega) hn))
  obtain ⟨k0, k1, k2, k3⟩ := four_cells hbox
  have hc := d1.cell
  have hf := d1.frozen
  have HD1 := Lib.hid d1.drew
  have HN := Lib.hid n3
  clear d d1 hbox n1 n2 n3
  generalize alignV zs n = r at *
  obtain ⟨ys, bo⟩ := r
  have HO : Hid (∀ bb : Bool, (bb == bb) = true) := by intro bb; cases bb <;> rfl
  go_enter Try.func31, Try.ntmps31
  go_wp2_with fail
  rw [← HW1.out]
  clear HW1
  generalize hb : w.heap.size = b at *
  go_region_with (first
    | (go_at_call 47; refine (HZ.out w1.drew HD1.out.own).mono ?_; rintro e w3 ⟨A3, c3, rfl, ho3, hA3, hb3⟩; have hc3 := (HD1.out.next hb3).cell; have hf3 := (HD1.out.next hb3).frozen; have k1' := (World.cell?_setCell_other w3 ⟨h, 0, none⟩ ⟨b, 1, none⟩ (.slice A3 ys.length c3) (fun e => by cases e)).trans ((hb3.cell (p := ⟨b, 1, none⟩) hbl).trans k1); have HD3 := Lib.hid (HD1.out.got ho3 hA3 hb3); clear ho3 hA3 hb3))
  all_goals
    go_wp2_with fail
    refine (HB.out _ _ ⟨_, _, _, _, HD3.out⟩).mono ?_
    rintro e w4 ⟨rfl, hb4⟩
    go_wp2_with fail
    go_ret
    exact ⟨by simp, hb4⟩
end Go.Proofs.Ytlofceojchlmgaa
