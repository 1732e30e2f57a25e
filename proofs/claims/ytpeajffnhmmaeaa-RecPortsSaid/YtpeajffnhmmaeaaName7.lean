/-
  Contract of the reference's Partition.
-/
import Derived.Test.YtpeajffnhmmaeaaName6
namespace Go.Proofs.Ytpeajffnhmmaeaa
set_option linter.unusedVariables false
open Go.RowKit

theorem partB_len (x : Nat) (s : ByteArray) (p d : Nat) : (partB x s p d).length = 56 := by simp [partB, leB_length, padL_len]
set_option maxRecDepth 100000 in
set_option maxHeartbeats 1000000 in
theorem refPartition_any (x : Nat) (s : ByteArray) (p d : Nat) (w : World) (hx : x < 65536) (hs : vldP s) (hp : p < 18446744073709551616) (hd : d < 18446744073709551616) :
    Calls Try.prog 35 #[.agg #[.int .u16 (x : Int), .string s, .int .u64 (p : Int), .int .u64 (d : Int)]] w (NumOK w (partB x s p d) 56) := by
  obtain ⟨w1, hw1⟩ : ∃ w1, w1 = w.alloc (.cells #[.int .u16 (x : Int), .string s, .int .u64 (p : Int), .int .u64 (d : Int)] 45) := ⟨_, rfl⟩
  have hbox := heap_alloc_new w (.cells #[.int .u16 (x : Int), .string s, .int .u64 (p : Int), .int .u64 (d : Int)] 45)
  rw [← hw1] at hbox
  have hbw : Below w.heap.size w w1 := by rw [hw1]; exact (Below.refl _ w).alloc (Nat.le_refl _) _
  have HW1 := Lib.hid hw1
  obtain ⟨bk, hbk⟩ : ∃ bk, bk = w.heap.size := ⟨_, rfl⟩
  rw [← hbk] at hbox
  have hS : ∀ w', Below w1.heap.size w1 w' → w'.cell? ⟨bk, 0, none⟩ = some (.int .u16 (x : Int)) ∧ w'.cell? ⟨bk, 1, none⟩ = some (.string s) ∧ w'.cell? ⟨bk, 2, none⟩ = some (.int .u64 (p : Int)) ∧ w'.cell? ⟨bk, 3, none⟩ = some (.int .u64 (d : Int)) :=
    fun w' hb => row4_cells ((hb.block _ (Array.getElem?_eq_some_iff.1 hbox).1).trans hbox)
  have HS := Lib.hid hS
  have HBK := Lib.hid hbk
  have HB := Lib.hid hbw
  have K0 := Lib.hid (Kept.nil w1).drew
  have L0 : Hid (([] : List UInt8).length = 0) := rfl
  have HVS := Lib.hid hs
  have hs30 : s.size ≤ 30 := hs.2.1
  have hsz := hbw.size
  have hw_x : IntKind.u64.wrap (x : Int) = (x : Int) := IntWalk.u64_in _ (by omega)
  have hw_s : IntKind.u64.wrap (s.size : Int) = (s.size : Int) := IntWalk.u64_in _ (by omega)
  clear hw1 hbox hS hbw hs hbk
  have HE : Hid (partB x s p d = [] ++ leB x 2 ++ leB s.size 1 ++ List.replicate 1 0 ++ padL s ++ List.replicate 6 0 ++ leB p 8 ++ leB d 8) := rfl
  rw [HE.out]
  clear HE
  go_enter Try.func35, Try.ntmps35
  go_wp2_with fail
  rw [← HBK.out, ← HW1.out]
  clear HW1
  refine wp_region_Z (fun w' => w'.cell? ⟨bk, 0, none⟩ = some (.int .u16 (x : Int)) ∧ w'.cell? ⟨bk, 1, none⟩ = some (.string s) ∧ w'.cell? ⟨bk, 2, none⟩ = some (.int .u64 (p : Int)) ∧ w'.cell? ⟨bk, 3, none⟩ = some (.int .u64 (d : Int))) 10 (by kernel_rfl) ?_
  have hS := HS.out _ K0.out.bel
  refine anyZ_take 0 (.pointer (some ⟨bk, 0, none⟩)) rfl (by kernel_rfl) (by kernel_rfl) (by kernel_rfl) (by kernel_rfl) (fun _ _ _ h => h) (by rfl) hS (fun w' hSw => by obtain ⟨s0, s1, s2, s3⟩ := hSw; go_simp) ?_
  refine anyZ_take 1 (.int .u16 (x : Int)) rfl (by kernel_rfl) (by kernel_rfl) (by kernel_rfl) (by kernel_rfl) (fun _ _ _ h => h) (by rfl) hS (fun w' hSw => by obtain ⟨s0, s1, s2, s3⟩ := hSw; go_simp) ?_
  refine anyZ_take 2 (.int .u64 (x : Int)) rfl (by kernel_rfl) (by kernel_rfl) (by kernel_rfl) (by kernel_rfl) (fun _ _ _ h => h) (by rfl) hS (fun w' hSw => by obtain ⟨s0, s1, s2, s3⟩ := hSw; go_simp) ?_
  refine anyZ_take 4 (.pointer (some ⟨bk, 1, none⟩)) rfl (by kernel_rfl) (by kernel_rfl) (by kernel_rfl) (by kernel_rfl) (fun _ _ _ h => h) (by rfl) hS (fun w' hSw => by obtain ⟨s0, s1, s2, s3⟩ := hSw; go_simp) ?_
  refine anyZ_take 5 (.string s) rfl (by kernel_rfl) (by kernel_rfl) (by kernel_rfl) (by kernel_rfl) (fun _ _ _ h => h) (by rfl) hS (fun w' hSw => by obtain ⟨s0, s1, s2, s3⟩ := hSw; go_simp) ?_
  refine anyZ_take 6 (.int .i64 (s.size : Int)) rfl (by kernel_rfl) (by kernel_rfl) (by kernel_rfl) (by kernel_rfl) (fun _ _ _ h => h) (by rfl) hS (fun w' hSw => by obtain ⟨s0, s1, s2, s3⟩ := hSw; go_simp) ?_
  refine anyZ_take 7 (.int .u64 (s.size : Int)) rfl (by kernel_rfl) (by kernel_rfl) (by kernel_rfl) (by kernel_rfl) (fun _ _ _ h => h) (by rfl) hS (fun w' hSw => by obtain ⟨s0, s1, s2, s3⟩ := hSw; go_simp) ?_
  clear hS
  refine anyZ_next 3 rfl (by kernel_rfl) (fun K hK => ?_)
  rw [if_pos (by rfl)]
  go_simp
  refine (K0.out.num 0 L0.out x 2 (by omega) (by omega) (by omega)).mono ?_
  rintro e w10 ⟨A1, c1, rfl, k1, l1⟩
  have K1 := Lib.hid k1
  have L1 := Lib.hid l1
  clear k1 l1
  go_simp
  refine hK _ _ (fun _ => HS.out _ K1.out.bel) ?_
  clear hK K
  refine anyZ_next 8 rfl (by kernel_rfl) (fun K hK => ?_)
  rw [if_pos (by rfl)]
  go_simp
  refine (K1.out.num 2 L1.out s.size 1 (by omega) (by omega) (by omega)).mono ?_
  rintro e w11 ⟨A2, c2, rfl, k2, l2⟩
  have K2 := Lib.hid k2
  have L2 := Lib.hid l2
  clear k2 l2
  go_simp
  refine hK _ _ (fun _ => HS.out _ K2.out.bel) ?_
  clear hK K
  refine anyZ_next 9 rfl (by kernel_rfl) (fun K hK => ?_)
  rw [if_pos (by rfl)]
  go_simp
  refine (K2.out.pad 3 L2.out 1 (by omega) (by omega)).mono ?_
  rintro e w12 ⟨A3, c3, rfl, k3, l3⟩
  have K3 := Lib.hid k3
  have L3 := Lib.hid l3
  clear k3 l3
  go_simp
  refine hK _ _ (fun _ => HS.out _ K3.out.bel) ?_
  clear hK K
  refine anyZ_next 10 rfl (by kernel_rfl) (fun K hK => ?_)
  rw [if_pos (by rfl)]
  go_simp
  refine hK _ _ (fun h => absurd rfl h) ?_
  clear hK K
  refine anyZ_done (by kernel_rfl) ?_ _
  obtain ⟨s0, s1, s2, s3⟩ := HS.out _ K3.out.bel
  go_wp2_with fail
  refine (K3.out.text 4 L3.out s HVS.out (by omega)).mono ?_
  rintro e w13 ⟨A4, c4, rfl, k4, l4⟩
  have K4 := Lib.hid k4
  have L4 := Lib.hid l4
  clear k4 l4 s0 s1 s2 s3
  go_wp2_with fail
  refine (K4.out.pad 34 L4.out 6 (by omega) (by omega)).mono ?_
  rintro e w14 ⟨A5, c5, rfl, k5, l5⟩
  have K5 := Lib.hid k5.drew
  have L5 := Lib.hid l5
  clear k5 l5
  go_wp2_with fail
  refine wp_region_Z (fun w' => w'.cell? ⟨bk, 0, none⟩ = some (.int .u16 (x : Int)) ∧ w'.cell? ⟨bk, 1, none⟩ = some (.string s) ∧ w'.cell? ⟨bk, 2, none⟩ = some (.int .u64 (p : Int)) ∧ w'.cell? ⟨bk, 3, none⟩ = some (.int .u64 (d : Int))) 7 (by kernel_rfl) ?_
  have hS := HS.out _ K5.out.bel
  refine anyZ_take 0 (.slice A5 40 c5) rfl (by kernel_rfl) (by kernel_rfl) (by kernel_rfl) (by kernel_rfl) (fun _ _ _ h => h) (by rfl) hS (fun w' hSw => by obtain ⟨s0, s1, s2, s3⟩ := hSw; go_simp) ?_
  refine anyZ_take 1 (.pointer (some ⟨bk, 2, none⟩)) rfl (by kernel_rfl) (by kernel_rfl) (by kernel_rfl) (by kernel_rfl) (fun _ _ _ h => h) (by rfl) hS (fun w' hSw => by obtain ⟨s0, s1, s2, s3⟩ := hSw; go_simp) ?_
  refine anyZ_take 2 (.int .u64 (p : Int)) rfl (by kernel_rfl) (by kernel_rfl) (by kernel_rfl) (by kernel_rfl) (fun _ _ _ h => h) (by rfl) hS (fun w' hSw => by obtain ⟨s0, s1, s2, s3⟩ := hSw; go_simp) ?_
  refine anyZ_take 4 (.pointer (some ⟨bk, 3, none⟩)) rfl (by kernel_rfl) (by kernel_rfl) (by kernel_rfl) (by kernel_rfl) (fun _ _ _ h => h) (by rfl) hS (fun w' hSw => by obtain ⟨s0, s1, s2, s3⟩ := hSw; go_simp) ?_
  refine anyZ_take 5 (.int .u64 (d : Int)) rfl (by kernel_rfl) (by kernel_rfl) (by kernel_rfl) (by kernel_rfl) (fun _ _ _ h => h) (by rfl) hS (fun w' hSw => by obtain ⟨s0, s1, s2, s3⟩ := hSw; go_simp) ?_
  clear hS
  refine anyZ_next 3 rfl (by kernel_rfl) (fun K hK => ?_)
  rw [if_pos (by rfl)]
  go_simp
  refine (K5.out.num 40 L5.out p 8 (by omega) (by omega) (by omega)).mono ?_
  rintro e w15 ⟨A6, c6, rfl, k6, l6⟩
  have K6 := Lib.hid k6
  have L6 := Lib.hid l6
  clear k6 l6
  go_simp
  refine hK _ _ (fun _ => HS.out _ K6.out.bel) ?_
  clear hK K
  refine anyZ_next 6 rfl (by kernel_rfl) (fun K hK => ?_)
  rw [if_pos (by rfl)]
  go_simp
  refine (K6.out.num 48 L6.out d 8 (by omega) (by omega) (by omega)).mono ?_
  rintro e w16 ⟨A7, c7, rfl, k7, l7⟩
  have K7 := Lib.hid k7
  have L7 := Lib.hid l7
  clear k7 l7
  go_simp
  refine hK _ _ (fun _ => HS.out _ K7.out.bel) ?_
  clear hK K
  refine anyZ_next 7 rfl (by kernel_rfl) (fun K hK => ?_)
  rw [if_pos (by rfl)]
  go_simp
  refine hK _ _ (fun h => absurd rfl h) ?_
  clear hK K
  refine anyZ_done (by kernel_rfl) ?_ _
  go_wp2_with fail
  go_ret
  exact ⟨A7, c7, rfl, ⟨K7.out.own, fun q hq => Nat.le_trans hsz (K7.out.fresh q hq), HB.out.trans (K7.out.bel.mono hsz)⟩, L7.out⟩
end Go.Proofs.Ytpeajffnhmmaeaa
