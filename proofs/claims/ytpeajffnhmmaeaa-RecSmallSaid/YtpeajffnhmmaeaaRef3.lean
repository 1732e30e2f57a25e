/-
  Contracts of the reference's Region, LinkBytes.
-/
import Derived.Test.YtpeajffnhmmaeaaRef1
import Derived.Test.YtpeajffnhmmaeaaHeldZ
namespace Go.Proofs.Ytpeajffnhmmaeaa
set_option linter.unusedVariables false
open Go.RowKit

set_option maxRecDepth 100000 in
set_option maxHeartbeats 1000000 in
theorem refRegion_any (x y z t : Nat) (b : Bool) (w : World) (hx : x < 18446744073709551616) (hy : y < 18446744073709551616) (hz : z < 65536) (ht : t < 256) :
    Calls Try.prog 31 #[.agg #[.int .u64 (x : Int), .int .u64 (y : Int), .int .u16 (z : Int), .int .u8 (t : Int), .bool b]] w (NumOK w (regB x y z t b) 24) := by
  obtain ⟨q, hq⟩ : ∃ q : Nat, q = (if b then 1 else 0) := ⟨_, rfl⟩
  have hq1 : q ≤ 1 := by rw [hq]; split <;> omega
  have HBIT := Lib.hid (fun w' => bit_any b w')
  rw [← hq] at HBIT
  have HREG : Hid (regB x y z t b = leB x 8 ++ leB y 8 ++ leB z 2 ++ leB t 1 ++ leB q 1 ++ List.replicate 4 0) := by show _ = _; unfold regB; rw [← hq]
  clear hq
  obtain ⟨w1, hw1⟩ : ∃ w1, w1 = w.alloc (.cells #[.int .u64 (x : Int), .int .u64 (y : Int), .int .u16 (z : Int), .int .u8 (t : Int), .bool b] 50) := ⟨_, rfl⟩
  have hbox := heap_alloc_new w (.cells #[.int .u64 (x : Int), .int .u64 (y : Int), .int .u16 (z : Int), .int .u8 (t : Int), .bool b] 50)
  rw [← hw1] at hbox
  have hbw : Below w.heap.size w w1 := by rw [hw1]; exact (Below.refl _ w).alloc (Nat.le_refl _) _
  have HW1 := Lib.hid hw1
  have hS : ∀ w', Below w1.heap.size w1 w' → w'.cell? ⟨w.heap.size, 0, none⟩ = some (.int .u64 (x : Int)) ∧ w'.cell? ⟨w.heap.size, 1, none⟩ = some (.int .u64 (y : Int)) ∧ w'.cell? ⟨w.heap.size, 2, none⟩ = some (.int .u16 (z : Int)) ∧ w'.cell? ⟨w.heap.size, 3, none⟩ = some (.int .u8 (t : Int)) ∧ w'.cell? ⟨w.heap.size, 4, none⟩ = some (.bool b) :=
    fun w' hb => row5_cells ((hb.block _ (Array.getElem?_eq_some_iff.1 hbox).1).trans hbox)
  have HS := Lib.hid hS
  have HB := Lib.hid hbw
  have K0 := Lib.hid (Kept.nil w1).drew
  have L0 : Hid (([] : List UInt8).length = 0) := rfl
  have hsz := hbw.size
  have hw_z : IntKind.u64.wrap (z : Int) = (z : Int) := IntWalk.u64_in _ (by omega)
  have hw_t : IntKind.u64.wrap (t : Int) = (t : Int) := IntWalk.u64_in _ (by omega)
  clear hw1 hbox hS hbw
  go_enter Try.func31, Try.ntmps31
  go_wp2_with fail
  rw [← HW1.out]
  clear HW1
  generalize hbk : w.heap.size = bk at *
  have HBK := Lib.hid hbk
  clear hbk
  refine wp_region_Z (fun w' => w'.cell? ⟨bk, 0, none⟩ = some (.int .u64 (x : Int)) ∧ w'.cell? ⟨bk, 1, none⟩ = some (.int .u64 (y : Int)) ∧ w'.cell? ⟨bk, 2, none⟩ = some (.int .u16 (z : Int)) ∧ w'.cell? ⟨bk, 3, none⟩ = some (.int .u8 (t : Int)) ∧ w'.cell? ⟨bk, 4, none⟩ = some (.bool b)) 10 (by kernel_rfl) ?_
  have hS := HS.out _ K0.out.bel
  refine anyZ_take 0 (.pointer (some ⟨bk, 0, none⟩)) rfl (by kernel_rfl) (by kernel_rfl) (by kernel_rfl) (by kernel_rfl) (fun _ _ _ h => h) (by rfl) hS (fun w' hSw => by obtain ⟨s0, s1, s2, s3, s4⟩ := hSw; go_simp) ?_
  refine anyZ_take 1 (.int .u64 (x : Int)) rfl (by kernel_rfl) (by kernel_rfl) (by kernel_rfl) (by kernel_rfl) (fun _ _ _ h => h) (by rfl) hS (fun w' hSw => by obtain ⟨s0, s1, s2, s3, s4⟩ := hSw; go_simp) ?_
  refine anyZ_take 3 (.pointer (some ⟨bk, 1, none⟩)) rfl (by kernel_rfl) (by kernel_rfl) (by kernel_rfl) (by kernel_rfl) (fun _ _ _ h => h) (by rfl) hS (fun w' hSw => by obtain ⟨s0, s1, s2, s3, s4⟩ := hSw; go_simp) ?_
  refine anyZ_take 4 (.int .u64 (y : Int)) rfl (by kernel_rfl) (by kernel_rfl) (by kernel_rfl) (by kernel_rfl) (fun _ _ _ h => h) (by rfl) hS (fun w' hSw => by obtain ⟨s0, s1, s2, s3, s4⟩ := hSw; go_simp) ?_
  refine anyZ_take 6 (.pointer (some ⟨bk, 2, none⟩)) rfl (by kernel_rfl) (by kernel_rfl) (by kernel_rfl) (by kernel_rfl) (fun _ _ _ h => h) (by rfl) hS (fun w' hSw => by obtain ⟨s0, s1, s2, s3, s4⟩ := hSw; go_simp) ?_
  refine anyZ_take 7 (.int .u16 (z : Int)) rfl (by kernel_rfl) (by kernel_rfl) (by kernel_rfl) (by kernel_rfl) (fun _ _ _ h => h) (by rfl) hS (fun w' hSw => by obtain ⟨s0, s1, s2, s3, s4⟩ := hSw; go_simp) ?_
  refine anyZ_take 8 (.int .u64 (z : Int)) rfl (by kernel_rfl) (by kernel_rfl) (by kernel_rfl) (by kernel_rfl) (fun _ _ _ h => h) (by rfl) hS (fun w' hSw => by obtain ⟨s0, s1, s2, s3, s4⟩ := hSw; go_simp) ?_
  clear hS
  refine anyZ_next 2 rfl (by kernel_rfl) (fun K hK => ?_)
  rw [if_pos (by rfl)]
  go_simp
  refine (K0.out.num 0 L0.out x 8 (by omega) (by omega) (by omega)).mono ?_
  rintro e w10 ⟨A1, c1, rfl, k1, l1⟩
  have K1 := Lib.hid k1
  have L1 := Lib.hid l1
  clear k1 l1
  go_simp
  refine hK _ _ (fun _ => HS.out _ K1.out.bel) ?_
  clear hK K
  refine anyZ_next 5 rfl (by kernel_rfl) (fun K hK => ?_)
  rw [if_pos (by rfl)]
  go_simp
  refine (K1.out.num 8 L1.out y 8 (by omega) (by omega) (by omega)).mono ?_
  rintro e w11 ⟨A2, c2, rfl, k2, l2⟩
  have K2 := Lib.hid k2
  have L2 := Lib.hid l2
  clear k2 l2
  go_simp
  refine hK _ _ (fun _ => HS.out _ K2.out.bel) ?_
  clear hK K
  refine anyZ_next 9 rfl (by kernel_rfl) (fun K hK => ?_)
  rw [if_pos (by rfl)]
  go_simp
  refine (K2.out.num 16 L2.out z 2 (by omega) (by omega) (by omega)).mono ?_
  rintro e w12 ⟨A3, c3, rfl, k3, l3⟩
  have K3 := Lib.hid k3
  have L3 := Lib.hid l3
  clear k3 l3
  go_simp
  refine hK _ _ (fun _ => HS.out _ K3.out.bel) ?_
  clear hK K
  refine anyZ_next 10 rfl (by kernel_rfl) (fun K hK => ?_)
  rw [if_pos (by rfl)]
  go_simp
  refine hK _ _ (fun h => absurd rfl h) ?_
  clear hK K
  refine anyZ_done (by kernel_rfl) ?_ _
  go_wp2_with fail
  refine wp_region_Z (fun w' => w'.cell? ⟨bk, 0, none⟩ = some (.int .u64 (x : Int)) ∧ w'.cell? ⟨bk, 1, none⟩ = some (.int .u64 (y : Int)) ∧ w'.cell? ⟨bk, 2, none⟩ = some (.int .u16 (z : Int)) ∧ w'.cell? ⟨bk, 3, none⟩ = some (.int .u8 (t : Int)) ∧ w'.cell? ⟨bk, 4, none⟩ = some (.bool b)) 10 (by kernel_rfl) ?_
  have hS := HS.out _ K3.out.drew.bel
  have K3d := Lib.hid K3.out.drew
  refine anyZ_take 0 (.slice A3 18 c3) rfl (by kernel_rfl) (by kernel_rfl) (by kernel_rfl) (by kernel_rfl) (fun _ _ _ h => h) (by rfl) hS (fun w' hSw => by obtain ⟨s0, s1, s2, s3, s4⟩ := hSw; go_simp) ?_
  refine anyZ_take 1 (.pointer (some ⟨bk, 3, none⟩)) rfl (by kernel_rfl) (by kernel_rfl) (by kernel_rfl) (by kernel_rfl) (fun _ _ _ h => h) (by rfl) hS (fun w' hSw => by obtain ⟨s0, s1, s2, s3, s4⟩ := hSw; go_simp) ?_
  refine anyZ_take 2 (.int .u8 (t : Int)) rfl (by kernel_rfl) (by kernel_rfl) (by kernel_rfl) (by kernel_rfl) (fun _ _ _ h => h) (by rfl) hS (fun w' hSw => by obtain ⟨s0, s1, s2, s3, s4⟩ := hSw; go_simp) ?_
  refine anyZ_take 3 (.int .u64 (t : Int)) rfl (by kernel_rfl) (by kernel_rfl) (by kernel_rfl) (by kernel_rfl) (fun _ _ _ h => h) (by rfl) hS (fun w' hSw => by obtain ⟨s0, s1, s2, s3, s4⟩ := hSw; go_simp) ?_
  refine anyZ_take 5 (.pointer (some ⟨bk, 4, none⟩)) rfl (by kernel_rfl) (by kernel_rfl) (by kernel_rfl) (by kernel_rfl) (fun _ _ _ h => h) (by rfl) hS (fun w' hSw => by obtain ⟨s0, s1, s2, s3, s4⟩ := hSw; go_simp) ?_
  refine anyZ_take 6 (.bool b) rfl (by kernel_rfl) (by kernel_rfl) (by kernel_rfl) (by kernel_rfl) (fun _ _ _ h => h) (by rfl) hS (fun w' hSw => by obtain ⟨s0, s1, s2, s3, s4⟩ := hSw; go_simp) ?_
  clear hS
  refine anyZ_next 4 rfl (by kernel_rfl) (fun K hK => ?_)
  rw [if_pos (by rfl)]
  go_simp
  refine (K3d.out.num 18 L3.out t 1 (by omega) (by omega) (by omega)).mono ?_
  rintro e w13 ⟨A4, c4, rfl, k4, l4⟩
  have K4 := Lib.hid k4
  have L4 := Lib.hid l4
  clear k4 l4
  go_simp
  refine hK _ _ (fun _ => HS.out _ K4.out.bel) ?_
  clear hK K
  refine anyZ_next 7 rfl (by kernel_rfl) (fun K hK => ?_)
  rw [if_pos (by rfl)]
  go_simp
  refine (HBIT.out _).mono ?_
  rintro e w7b ⟨rfl, rfl⟩
  go_simp
  refine hK _ _ (fun _ => HS.out _ K4.out.bel) ?_
  clear hK K
  refine anyZ_next 8 rfl (by kernel_rfl) (fun K hK => ?_)
  rw [if_pos (by rfl)]
  go_simp
  refine (K4.out.num 19 L4.out q 1 (by omega) (by omega) (by omega)).mono ?_
  rintro e w14 ⟨A5, c5, rfl, k5, l5⟩
  have K5 := Lib.hid k5
  have L5 := Lib.hid l5
  clear k5 l5
  go_simp
  refine hK _ _ (fun _ => HS.out _ K5.out.bel) ?_
  clear hK K
  refine anyZ_next 9 rfl (by kernel_rfl) (fun K hK => ?_)
  rw [if_pos (by rfl)]
  go_simp
  refine (K5.out.pad 20 L5.out 4 (by omega) (by omega)).mono ?_
  rintro e w15 ⟨A6, c6, rfl, k6, l6⟩
  have K6 := Lib.hid k6
  have L6 := Lib.hid l6
  clear k6 l6
  go_simp
  refine hK _ _ (fun _ => HS.out _ K6.out.bel) ?_
  clear hK K
  refine anyZ_next 10 rfl (by kernel_rfl) (fun K hK => ?_)
  rw [if_pos (by rfl)]
  go_simp
  refine hK _ _ (fun h => absurd rfl h) ?_
  clear hK K
  refine anyZ_done (by kernel_rfl) ?_ _
  go_wp2_with fail
  go_ret
  rw [HREG.out]
  exact ⟨A6, c6, rfl, ⟨K6.out.own, fun q hq => (by rw [HBK.out]; exact Nat.le_trans hsz (K6.out.fresh q hq)), by rw [HBK.out]; exact HB.out.trans (K6.out.bel.mono hsz)⟩, L6.out⟩
set_option maxRecDepth 100000 in
set_option maxHeartbeats 1000000 in
theorem refLinkBytes_any (x y : Nat) (w : World) (hx : x < 65536) (hy : y < 65536) :
    Calls Try.prog 33 #[.agg #[.int .u16 (x : Int), .int .u16 (y : Int)]] w (NumOK w (linkB x y) 8) := by
  obtain ⟨w1, hw1⟩ : ∃ w1, w1 = w.alloc (.cells #[.int .u16 (x : Int), .int .u16 (y : Int)] 62) := ⟨_, rfl⟩
  have hbox := heap_alloc_new w (.cells #[.int .u16 (x : Int), .int .u16 (y : Int)] 62)
  rw [← hw1] at hbox
  have hbw : Below w.heap.size w w1 := by rw [hw1]; exact (Below.refl _ w).alloc (Nat.le_refl _) _
  have HW1 := Lib.hid hw1
  have hS : ∀ w', Below w1.heap.size w1 w' → w'.cell? ⟨w.heap.size, 0, none⟩ = some (.int .u16 (x : Int)) ∧ w'.cell? ⟨w.heap.size, 1, none⟩ = some (.int .u16 (y : Int)) :=
    fun w' hb => row2_cells ((hb.block _ (Array.getElem?_eq_some_iff.1 hbox).1).trans hbox)
  have HS := Lib.hid hS
  have HB := Lib.hid hbw
  have K0 := Lib.hid (Kept.nil w1).drew
  have L0 : Hid (([] : List UInt8).length = 0) := rfl
  have hsz := hbw.size
  have hw_x : IntKind.u64.wrap (x : Int) = (x : Int) := IntWalk.u64_in _ (by omega)
  have hw_y : IntKind.u64.wrap (y : Int) = (y : Int) := IntWalk.u64_in _ (by omega)
  clear hw1 hbox hS hbw
  go_enter Try.func33, Try.ntmps33
  go_wp2_with fail
  rw [← HW1.out]
  clear HW1
  generalize hbk : w.heap.size = bk at *
  have HBK := Lib.hid hbk
  clear hbk
  refine wp_region_Z (fun w' => w'.cell? ⟨bk, 0, none⟩ = some (.int .u16 (x : Int)) ∧ w'.cell? ⟨bk, 1, none⟩ = some (.int .u16 (y : Int))) 9 (by kernel_rfl) ?_
  have hS := HS.out _ K0.out.bel
  refine anyZ_take 0 (.pointer (some ⟨bk, 0, none⟩)) rfl (by kernel_rfl) (by kernel_rfl) (by kernel_rfl) (by kernel_rfl) (fun _ _ _ h => h) (by rfl) hS (fun w' hSw => by obtain ⟨s0, s1⟩ := hSw; go_simp) ?_
  refine anyZ_take 1 (.int .u16 (x : Int)) rfl (by kernel_rfl) (by kernel_rfl) (by kernel_rfl) (by kernel_rfl) (fun _ _ _ h => h) (by rfl) hS (fun w' hSw => by obtain ⟨s0, s1⟩ := hSw; go_simp) ?_
  refine anyZ_take 2 (.int .u64 (x : Int)) rfl (by kernel_rfl) (by kernel_rfl) (by kernel_rfl) (by kernel_rfl) (fun _ _ _ h => h) (by rfl) hS (fun w' hSw => by obtain ⟨s0, s1⟩ := hSw; go_simp) ?_
  refine anyZ_take 4 (.pointer (some ⟨bk, 1, none⟩)) rfl (by kernel_rfl) (by kernel_rfl) (by kernel_rfl) (by kernel_rfl) (fun _ _ _ h => h) (by rfl) hS (fun w' hSw => by obtain ⟨s0, s1⟩ := hSw; go_simp) ?_
  refine anyZ_take 5 (.int .u16 (y : Int)) rfl (by kernel_rfl) (by kernel_rfl) (by kernel_rfl) (by kernel_rfl) (fun _ _ _ h => h) (by rfl) hS (fun w' hSw => by obtain ⟨s0, s1⟩ := hSw; go_simp) ?_
  refine anyZ_take 6 (.int .u64 (y : Int)) rfl (by kernel_rfl) (by kernel_rfl) (by kernel_rfl) (by kernel_rfl) (fun _ _ _ h => h) (by rfl) hS (fun w' hSw => by obtain ⟨s0, s1⟩ := hSw; go_simp) ?_
  clear hS
  refine anyZ_next 3 rfl (by kernel_rfl) (fun K hK => ?_)
  rw [if_pos (by rfl)]
  go_simp
  refine (K0.out.num 0 L0.out x 2 (by omega) (by omega) (by omega)).mono ?_
  rintro e w10 ⟨A1, c1, rfl, k1, l1⟩
  have K1 := Lib.hid k1
  have L1 := Lib.hid l1
  clear k1 l1
  go_simp
  refine hK _ _ (fun _ => HS.out _ K1.out.bel) ?_
  clear hK K
  refine anyZ_next 7 rfl (by kernel_rfl) (fun K hK => ?_)
  rw [if_pos (by rfl)]
  go_simp
  refine (K1.out.num 2 L1.out y 2 (by omega) (by omega) (by omega)).mono ?_
  rintro e w11 ⟨A2, c2, rfl, k2, l2⟩
  have K2 := Lib.hid k2
  have L2 := Lib.hid l2
  clear k2 l2
  go_simp
  refine hK _ _ (fun _ => HS.out _ K2.out.bel) ?_
  clear hK K
  refine anyZ_next 8 rfl (by kernel_rfl) (fun K hK => ?_)
  rw [if_pos (by rfl)]
  go_simp
  refine (K2.out.pad 4 L2.out 4 (by omega) (by omega)).mono ?_
  rintro e w12 ⟨A3, c3, rfl, k3, l3⟩
  have K3 := Lib.hid k3
  have L3 := Lib.hid l3
  clear k3 l3
  go_simp
  refine hK _ _ (fun _ => HS.out _ K3.out.bel) ?_
  clear hK K
  refine anyZ_next 9 rfl (by kernel_rfl) (fun K hK => ?_)
  rw [if_pos (by rfl)]
  go_simp
  refine hK _ _ (fun h => absurd rfl h) ?_
  clear hK K
  refine anyZ_done (by kernel_rfl) ?_ _
  go_wp2_with fail
  go_ret
  exact ⟨A3, c3, rfl, ⟨K3.out.own, fun q hq => (by rw [HBK.out]; exact Nat.le_trans hsz (K3.out.fresh q hq)), by rw [HBK.out]; exact HB.out.trans (K3.out.bel.mono hsz)⟩, L3.out⟩
end Go.Proofs.Ytpeajffnhmmaeaa
