/-
  Contracts of the reference's Window, HeadBytes.
-/
import Derived.Test.YtpeajffnhmmaeaaRef1
import Derived.Test.YtpeajffnhmmaeaaHeldZ
namespace Go.Proofs.Ytpeajffnhmmaeaa
set_option linter.unusedVariables false
open Go.RowKit

set_option maxRecDepth 100000 in
set_option maxHeartbeats 1000000 in
theorem refWindow_any (x y z : Nat) (w : World) (hx : x < 18446744073709551616) (hy : y < 18446744073709551616) (hz : z < 65536) :
    Calls Try.prog 30 #[.agg #[.int .u64 (x : Int), .int .u64 (y : Int), .int .u16 (z : Int)]] w (NumOK w (winB x y z) 24) := by
  obtain ⟨w1, hw1⟩ : ∃ w1, w1 = w.alloc (.cells #[.int .u64 (x : Int), .int .u64 (y : Int), .int .u16 (z : Int)] 58) := ⟨_, rfl⟩
  have hbox := heap_alloc_new w (.cells #[.int .u64 (x : Int), .int .u64 (y : Int), .int .u16 (z : Int)] 58)
  rw [← hw1] at hbox
  have hbw : Below w.heap.size w w1 := by rw [hw1]; exact (Below.refl _ w).alloc (Nat.le_refl _) _
  have HW1 := Lib.hid hw1
  have hS : ∀ w', Below w1.heap.size w1 w' → w'.cell? ⟨w.heap.size, 0, none⟩ = some (.int .u64 (x : Int)) ∧ w'.cell? ⟨w.heap.size, 1, none⟩ = some (.int .u64 (y : Int)) ∧ w'.cell? ⟨w.heap.size, 2, none⟩ = some (.int .u16 (z : Int)) :=
    fun w' hb => row3_cells ((hb.block _ (Array.getElem?_eq_some_iff.1 hbox).1).trans hbox)
  have HS := Lib.hid hS
  have HB := Lib.hid hbw
  have K0 := Lib.hid (Kept.nil w1).drew
  have L0 : Hid (([] : List UInt8).length = 0) := rfl
  have hsz := hbw.size
  have hw_z : IntKind.u64.wrap (z : Int) = (z : Int) := IntWalk.u64_in _ (by omega)
  clear hw1 hbox hS hbw
  go_enter Try.func30, Try.ntmps30
  go_wp2_with fail
  rw [← HW1.out]
  clear HW1
  generalize hbk : w.heap.size = bk at *
  have HBK := Lib.hid hbk
  clear hbk
  refine wp_region_Z (fun w' => w'.cell? ⟨bk, 0, none⟩ = some (.int .u64 (x : Int)) ∧ w'.cell? ⟨bk, 1, none⟩ = some (.int .u64 (y : Int)) ∧ w'.cell? ⟨bk, 2, none⟩ = some (.int .u16 (z : Int))) 11 (by kernel_rfl) ?_
  have hS := HS.out _ K0.out.bel
  refine anyZ_take 0 (.pointer (some ⟨bk, 0, none⟩)) rfl (by kernel_rfl) (by kernel_rfl) (by kernel_rfl) (by kernel_rfl) (fun _ _ _ h => h) (by rfl) hS (fun w' hSw => by obtain ⟨s0, s1, s2⟩ := hSw; go_simp) ?_
  refine anyZ_take 1 (.int .u64 (x : Int)) rfl (by kernel_rfl) (by kernel_rfl) (by kernel_rfl) (by kernel_rfl) (fun _ _ _ h => h) (by rfl) hS (fun w' hSw => by obtain ⟨s0, s1, s2⟩ := hSw; go_simp) ?_
  refine anyZ_take 3 (.pointer (some ⟨bk, 1, none⟩)) rfl (by kernel_rfl) (by kernel_rfl) (by kernel_rfl) (by kernel_rfl) (fun _ _ _ h => h) (by rfl) hS (fun w' hSw => by obtain ⟨s0, s1, s2⟩ := hSw; go_simp) ?_
  refine anyZ_take 4 (.int .u64 (y : Int)) rfl (by kernel_rfl) (by kernel_rfl) (by kernel_rfl) (by kernel_rfl) (fun _ _ _ h => h) (by rfl) hS (fun w' hSw => by obtain ⟨s0, s1, s2⟩ := hSw; go_simp) ?_
  refine anyZ_take 6 (.pointer (some ⟨bk, 2, none⟩)) rfl (by kernel_rfl) (by kernel_rfl) (by kernel_rfl) (by kernel_rfl) (fun _ _ _ h => h) (by rfl) hS (fun w' hSw => by obtain ⟨s0, s1, s2⟩ := hSw; go_simp) ?_
  refine anyZ_take 7 (.int .u16 (z : Int)) rfl (by kernel_rfl) (by kernel_rfl) (by kernel_rfl) (by kernel_rfl) (fun _ _ _ h => h) (by rfl) hS (fun w' hSw => by obtain ⟨s0, s1, s2⟩ := hSw; go_simp) ?_
  refine anyZ_take 8 (.int .u64 (z : Int)) rfl (by kernel_rfl) (by kernel_rfl) (by kernel_rfl) (by kernel_rfl) (fun _ _ _ h => h) (by rfl) hS (fun w' hSw => by obtain ⟨s0, s1, s2⟩ := hSw; go_simp) ?_
  clear hS
  refine anyZ_next 2 rfl (by kernel_rfl) (fun K hK => ?_)
  rw [if_pos (by rfl)]
  go_simp
  refine (K0.out.num 0 L0.out x 8 (by omega) (by omega) (by omega)).mono ?_
  rintro e w10 ⟨A1, c1, rfl, k1, l1⟩
  have K1 := Lib.hid k1
  have L1 := Lib.hid l1
  clear k1 l1
  go_simp
  refine hK _ _ (fun _ => HS.out _ K1.out.bel) ?_
  clear hK K
  refine anyZ_next 5 rfl (by kernel_rfl) (fun K hK => ?_)
  rw [if_pos (by rfl)]
  go_simp
  refine (K1.out.num 8 L1.out y 8 (by omega) (by omega) (by omega)).mono ?_
  rintro e w11 ⟨A2, c2, rfl, k2, l2⟩
  have K2 := Lib.hid k2
  have L2 := Lib.hid l2
  clear k2 l2
  go_simp
  refine hK _ _ (fun _ => HS.out _ K2.out.bel) ?_
  clear hK K
  refine anyZ_next 9 rfl (by kernel_rfl) (fun K hK => ?_)
  rw [if_pos (by rfl)]
  go_simp
  refine (K2.out.num 16 L2.out z 2 (by omega) (by omega) (by omega)).mono ?_
  rintro e w12 ⟨A3, c3, rfl, k3, l3⟩
  have K3 := Lib.hid k3
  have L3 := Lib.hid l3
  clear k3 l3
  go_simp
  refine hK _ _ (fun _ => HS.out _ K3.out.bel) ?_
  clear hK K
  refine anyZ_next 10 rfl (by kernel_rfl) (fun K hK => ?_)
  rw [if_pos (by rfl)]
  go_simp
  refine (K3.out.pad 18 L3.out 6 (by omega) (by omega)).mono ?_
  rintro e w13 ⟨A4, c4, rfl, k4, l4⟩
  have K4 := Lib.hid k4
  have L4 := Lib.hid l4
  clear k4 l4
  go_simp
  refine hK _ _ (fun _ => HS.out _ K4.out.bel) ?_
  clear hK K
  refine anyZ_next 11 rfl (by kernel_rfl) (fun K hK => ?_)
  rw [if_pos (by rfl)]
  go_simp
  refine hK _ _ (fun h => absurd rfl h) ?_
  clear hK K
  refine anyZ_done (by kernel_rfl) ?_ _
  go_wp2_with fail
  go_ret
  exact ⟨A4, c4, rfl, ⟨K4.out.own, fun q hq => (by rw [HBK.out]; exact Nat.le_trans hsz (K4.out.fresh q hq)), by rw [HBK.out]; exact HB.out.trans (K4.out.bel.mono hsz)⟩, L4.out⟩
set_option maxRecDepth 100000 in
set_option maxHeartbeats 1000000 in
theorem refHeadBytes_any (x y z : Nat) (w : World) (hx : x < 65536) (hy : y < 65536) (hz : z < 65536) :
    Calls Try.prog 32 #[.agg #[.int .u16 (x : Int), .int .u16 (y : Int), .int .u16 (z : Int)]] w (NumOK w (headB x y z) 8) := by
  obtain ⟨w1, hw1⟩ : ∃ w1, w1 = w.alloc (.cells #[.int .u16 (x : Int), .int .u16 (y : Int), .int .u16 (z : Int)] 60) := ⟨_, rfl⟩
  have hbox := heap_alloc_new w (.cells #[.int .u16 (x : Int), .int .u16 (y : Int), .int .u16 (z : Int)] 60)
  rw [← hw1] at hbox
  have hbw : Below w.heap.size w w1 := by rw [hw1]; exact (Below.refl _ w).alloc (Nat.le_refl _) _
  have HW1 := Lib.hid hw1
  have hS : ∀ w', Below w1.heap.size w1 w' → w'.cell? ⟨w.heap.size, 0, none⟩ = some (.int .u16 (x : Int)) ∧ w'.cell? ⟨w.heap.size, 1, none⟩ = some (.int .u16 (y : Int)) ∧ w'.cell? ⟨w.heap.size, 2, none⟩ = some (.int .u16 (z : Int)) :=
    fun w' hb => row3_cells ((hb.block _ (Array.getElem?_eq_some_iff.1 hbox).1).trans hbox)
  have HS := Lib.hid hS
  have HB := Lib.hid hbw
  have K0 := Lib.hid (Kept.nil w1).drew
  have L0 : Hid (([] : List UInt8).length = 0) := rfl
  have hsz := hbw.size
  have hw_x : IntKind.u64.wrap (x : Int) = (x : Int) := IntWalk.u64_in _ (by omega)
  have hw_y : IntKind.u64.wrap (y : Int) = (y : Int) := IntWalk.u64_in _ (by omega)
  have hw_z : IntKind.u64.wrap (z : Int) = (z : Int) := IntWalk.u64_in _ (by omega)
  clear hw1 hbox hS hbw
  go_enter Try.func32, Try.ntmps32
  go_wp2_with fail
  rw [← HW1.out]
  clear HW1
  generalize hbk : w.heap.size = bk at *
  have HBK := Lib.hid hbk
  clear hbk
  refine wp_region_Z (fun w' => w'.cell? ⟨bk, 0, none⟩ = some (.int .u16 (x : Int)) ∧ w'.cell? ⟨bk, 1, none⟩ = some (.int .u16 (y : Int)) ∧ w'.cell? ⟨bk, 2, none⟩ = some (.int .u16 (z : Int))) 13 (by kernel_rfl) ?_
  have hS := HS.out _ K0.out.bel
  refine anyZ_take 0 (.pointer (some ⟨bk, 0, none⟩)) rfl (by kernel_rfl) (by kernel_rfl) (by kernel_rfl) (by kernel_rfl) (fun _ _ _ h => h) (by rfl) hS (fun w' hSw => by obtain ⟨s0, s1, s2⟩ := hSw; go_simp) ?_
  refine anyZ_take 1 (.int .u16 (x : Int)) rfl (by kernel_rfl) (by kernel_rfl) (by kernel_rfl) (by kernel_rfl) (fun _ _ _ h => h) (by rfl) hS (fun w' hSw => by obtain ⟨s0, s1, s2⟩ := hSw; go_simp) ?_
  refine anyZ_take 2 (.int .u64 (x : Int)) rfl (by kernel_rfl) (by kernel_rfl) (by kernel_rfl) (by kernel_rfl) (fun _ _ _ h => h) (by rfl) hS (fun w' hSw => by obtain ⟨s0, s1, s2⟩ := hSw; go_simp) ?_
  refine anyZ_take 4 (.pointer (some ⟨bk, 1, none⟩)) rfl (by kernel_rfl) (by kernel_rfl) (by kernel_rfl) (by kernel_rfl) (fun _ _ _ h => h) (by rfl) hS (fun w' hSw => by obtain ⟨s0, s1, s2⟩ := hSw; go_simp) ?_
  refine anyZ_take 5 (.int .u16 (y : Int)) rfl (by kernel_rfl) (by kernel_rfl) (by kernel_rfl) (by kernel_rfl) (fun _ _ _ h => h) (by rfl) hS (fun w' hSw => by obtain ⟨s0, s1, s2⟩ := hSw; go_simp) ?_
  refine anyZ_take 6 (.int .u64 (y : Int)) rfl (by kernel_rfl) (by kernel_rfl) (by kernel_rfl) (by kernel_rfl) (fun _ _ _ h => h) (by rfl) hS (fun w' hSw => by obtain ⟨s0, s1, s2⟩ := hSw; go_simp) ?_
  refine anyZ_take 8 (.pointer (some ⟨bk, 2, none⟩)) rfl (by kernel_rfl) (by kernel_rfl) (by kernel_rfl) (by kernel_rfl) (fun _ _ _ h => h) (by rfl) hS (fun w' hSw => by obtain ⟨s0, s1, s2⟩ := hSw; go_simp) ?_
  refine anyZ_take 9 (.int .u16 (z : Int)) rfl (by kernel_rfl) (by kernel_rfl) (by kernel_rfl) (by kernel_rfl) (fun _ _ _ h => h) (by rfl) hS (fun w' hSw => by obtain ⟨s0, s1, s2⟩ := hSw; go_simp) ?_
  refine anyZ_take 10 (.int .u64 (z : Int)) rfl (by kernel_rfl) (by kernel_rfl) (by kernel_rfl) (by kernel_rfl) (fun _ _ _ h => h) (by rfl) hS (fun w' hSw => by obtain ⟨s0, s1, s2⟩ := hSw; go_simp) ?_
  clear hS
  refine anyZ_next 3 rfl (by kernel_rfl) (fun K hK => ?_)
  rw [if_pos (by rfl)]
  go_simp
  refine (K0.out.num 0 L0.out x 2 (by omega) (by omega) (by omega)).mono ?_
  rintro e w10 ⟨A1, c1, rfl, k1, l1⟩
  have K1 := Lib.hid k1
  have L1 := Lib.hid l1
  clear k1 l1
  go_simp
  refine hK _ _ (fun _ => HS.out _ K1.out.bel) ?_
  clear hK K
  refine anyZ_next 7 rfl (by kernel_rfl) (fun K hK => ?_)
  rw [if_pos (by rfl)]
  go_simp
  refine (K1.out.num 2 L1.out y 2 (by omega) (by omega) (by omega)).mono ?_
  rintro e w11 ⟨A2, c2, rfl, k2, l2⟩
  have K2 := Lib.hid k2
  have L2 := Lib.hid l2
  clear k2 l2
  go_simp
  refine hK _ _ (fun _ => HS.out _ K2.out.bel) ?_
  clear hK K
  refine anyZ_next 11 rfl (by kernel_rfl) (fun K hK => ?_)
  rw [if_pos (by rfl)]
  go_simp
  refine (K2.out.num 4 L2.out z 2 (by omega) (by omega) (by omega)).mono ?_
  rintro e w12 ⟨A3, c3, rfl, k3, l3⟩
  have K3 := Lib.hid k3
  have L3 := Lib.hid l3
  clear k3 l3
  go_simp
  refine hK _ _ (fun _ => HS.out _ K3.out.bel) ?_
  clear hK K
  refine anyZ_next 12 rfl (by kernel_rfl) (fun K hK => ?_)
  rw [if_pos (by rfl)]
  go_simp
  refine (K3.out.pad 6 L3.out 2 (by omega) (by omega)).mono ?_
  rintro e w13 ⟨A4, c4, rfl, k4, l4⟩
  have K4 := Lib.hid k4
  have L4 := Lib.hid l4
  clear k4 l4
  go_simp
  refine hK _ _ (fun _ => HS.out _ K4.out.bel) ?_
  clear hK K
  refine anyZ_next 13 rfl (by kernel_rfl) (fun K hK => ?_)
  rw [if_pos (by rfl)]
  go_simp
  refine hK _ _ (fun h => absurd rfl h) ?_
  clear hK K
  refine anyZ_done (by kernel_rfl) ?_ _
  go_wp2_with fail
  go_ret
  exact ⟨A4, c4, rfl, ⟨K4.out.own, fun q hq => (by rw [HBK.out]; exact Nat.le_trans hsz (K4.out.fresh q hq)), by rw [HBK.out]; exact HB.out.trans (K4.out.bel.mono hsz)⟩, L4.out⟩
end Go.Proofs.Ytpeajffnhmmaeaa
