/-
  Contract of the reference's Port.
-/
import Derived.Test.YtpeajffnhmmaeaaName9
namespace Go.Proofs.Ytpeajffnhmmaeaa
set_option linter.unusedVariables false
open Go.RowKit

set_option maxRecDepth 100000 in
set_option maxHeartbeats 1600000 in
theorem refPort_any (x y : Nat) (s : ByteArray) (o q : Bool) (z : Nat) (w : World) (hx : x < 65536) (hy : y < 65536) (hs : vldP s) (hz : z < 4294967296) :
    Calls Try.prog 17 #[.agg #[.int .u16 (x : Int), .int .u16 (y : Int), .string s, .bool o, .bool q, .int .u32 (z : Int)]] w (NumOK w (portB x y s o q z) 48) := by
  obtain ⟨w1, hw1⟩ : ∃ w1, w1 = w.alloc (.cells #[.int .u16 (x : Int), .int .u16 (y : Int), .string s, .bool o, .bool q, .int .u32 (z : Int)] 26) := ⟨_, rfl⟩
  have hbox := heap_alloc_new w (.cells #[.int .u16 (x : Int), .int .u16 (y : Int), .string s, .bool o, .bool q, .int .u32 (z : Int)] 26)
  rw [← hw1] at hbox
  have hbw : Below w.heap.size w w1 := by rw [hw1]; exact (Below.refl _ w).alloc (Nat.le_refl _) _
  have HW1 := Lib.hid hw1
  obtain ⟨bk, hbk⟩ : ∃ bk, bk = w.heap.size := ⟨_, rfl⟩
  rw [← hbk] at hbox
  have hS : ∀ w', Below w1.heap.size w1 w' → w'.cell? ⟨bk, 0, none⟩ = some (.int .u16 (x : Int)) ∧ w'.cell? ⟨bk, 1, none⟩ = some (.int .u16 (y : Int)) ∧ w'.cell? ⟨bk, 2, none⟩ = some (.string s) ∧ w'.cell? ⟨bk, 3, none⟩ = some (.bool o) ∧ w'.cell? ⟨bk, 4, none⟩ = some (.bool q) ∧ w'.cell? ⟨bk, 5, none⟩ = some (.int .u32 (z : Int)) :=
    fun w' hb => row6_cells ((hb.block _ (Array.getElem?_eq_some_iff.1 hbox).1).trans hbox)
  have HS := Lib.hid hS
  have HBK := Lib.hid hbk
  have HB := Lib.hid hbw
  have K0 := Lib.hid (Kept.nil w1).drew
  have L0 : Hid (([] : List UInt8).length = 0) := rfl
  have HVS := Lib.hid hs
  have hs30 : s.size ≤ 30 := hs.2.1
  have hsz := hbw.size
  have hw_x : IntKind.u64.wrap (x : Int) = (x : Int) := IntWalk.u64_in _ (by omega)
  have hw_y : IntKind.u64.wrap (y : Int) = (y : Int) := IntWalk.u64_in _ (by omega)
  have hw_z : IntKind.u64.wrap (z : Int) = (z : Int) := IntWalk.u64_in _ (by omega)
  have hw_s : IntKind.u64.wrap (s.size : Int) = (s.size : Int) := IntWalk.u64_in _ (by omega)
  clear hw1 hbox hS hbw hs hbk
  have HE : Hid (portB x y s o q z = [] ++ leB x 2 ++ leB y 2 ++ leB s.size 1 ++ leB (flB o q) 1 ++ List.replicate 2 0 ++ leB z 4 ++ padL s ++ List.replicate 6 0) := rfl
  rw [HE.out]
  clear HE
  have HFB : Hid (flB o q = (if o then 1 else 0) + 2 * (if q then 1 else 0)) := rfl
  have hn1 : (if o then 1 else 0 : Nat) ≤ 1 := by cases o <;> decide
  have hn2 : (if q then 1 else 0 : Nat) ≤ 1 := by cases q <;> decide
  have HFO := Lib.hid (fun u => bit_any o u)
  have HFQ := Lib.hid (fun u => bit_any q u)
  generalize (if o then 1 else 0 : Nat) = n1 at *
  generalize (if q then 1 else 0 : Nat) = n2 at *
  generalize flB o q = fl at *
  have hfl : fl < 4 := by have := HFB.out; omega
  have HFL : Hid ((n1 : Int) + 2 * (n2 : Int) = (fl : Int)) := by show _ = _; have := HFB.out; omega
  have hw_m : IntKind.u64.wrap (2 * (n2 : Int)) = 2 * (n2 : Int) := IntWalk.u64_in _ (by omega)
  have hw_a : IntKind.u64.wrap ((n1 : Int) + 2 * (n2 : Int)) = (n1 : Int) + 2 * (n2 : Int) := IntWalk.u64_in _ (by omega)
  go_enter Try.func17, Try.ntmps17
  go_wp2_with fail
  rw [← HBK.out, ← HW1.out]
  clear HW1
  refine wp_region_Z (fun w' => w'.cell? ⟨bk, 0, none⟩ = some (.int .u16 (x : Int)) ∧ w'.cell? ⟨bk, 1, none⟩ = some (.int .u16 (y : Int)) ∧ w'.cell? ⟨bk, 2, none⟩ = some (.string s) ∧ w'.cell? ⟨bk, 3, none⟩ = some (.bool o) ∧ w'.cell? ⟨bk, 4, none⟩ = some (.bool q) ∧ w'.cell? ⟨bk, 5, none⟩ = some (.int .u32 (z : Int))) 13 (by kernel_rfl) ?_
  have hS := HS.out _ K0.out.bel
  refine anyZ_take 0 (.pointer (some ⟨bk, 0, none⟩)) rfl (by kernel_rfl) (by kernel_rfl) (by kernel_rfl) (by kernel_rfl) (fun _ _ _ h => h) (by rfl) hS (fun w' hSw => by obtain ⟨s0, s1, s2, s3, s4, s5⟩ := hSw; go_simp) ?_
  refine anyZ_take 1 (.int .u16 (x : Int)) rfl (by kernel_rfl) (by kernel_rfl) (by kernel_rfl) (by kernel_rfl) (fun _ _ _ h => h) (by rfl) hS (fun w' hSw => by obtain ⟨s0, s1, s2, s3, s4, s5⟩ := hSw; go_simp) ?_
  refine anyZ_take 2 (.int .u64 (x : Int)) rfl (by kernel_rfl) (by kernel_rfl) (by kernel_rfl) (by kernel_rfl) (fun _ _ _ h => h) (by rfl) hS (fun w' hSw => by obtain ⟨s0, s1, s2, s3, s4, s5⟩ := hSw; go_simp) ?_
  refine anyZ_take 4 (.pointer (some ⟨bk, 1, none⟩)) rfl (by kernel_rfl) (by kernel_rfl) (by kernel_rfl) (by kernel_rfl) (fun _ _ _ h => h) (by rfl) hS (fun w' hSw => by obtain ⟨s0, s1, s2, s3, s4, s5⟩ := hSw; go_simp) ?_
  refine anyZ_take 5 (.int .u16 (y : Int)) rfl (by kernel_rfl) (by kernel_rfl) (by kernel_rfl) (by kernel_rfl) (fun _ _ _ h => h) (by rfl) hS (fun w' hSw => by obtain ⟨s0, s1, s2, s3, s4, s5⟩ := hSw; go_simp) ?_
  refine anyZ_take 6 (.int .u64 (y : Int)) rfl (by kernel_rfl) (by kernel_rfl) (by kernel_rfl) (by kernel_rfl) (fun _ _ _ h => h) (by rfl) hS (fun w' hSw => by obtain ⟨s0, s1, s2, s3, s4, s5⟩ := hSw; go_simp) ?_
  refine anyZ_take 8 (.pointer (some ⟨bk, 2, none⟩)) rfl (by kernel_rfl) (by kernel_rfl) (by kernel_rfl) (by kernel_rfl) (fun _ _ _ h => h) (by rfl) hS (fun w' hSw => by obtain ⟨s0, s1, s2, s3, s4, s5⟩ := hSw; go_simp) ?_
  refine anyZ_take 9 (.string s) rfl (by kernel_rfl) (by kernel_rfl) (by kernel_rfl) (by kernel_rfl) (fun _ _ _ h => h) (by rfl) hS (fun w' hSw => by obtain ⟨s0, s1, s2, s3, s4, s5⟩ := hSw; go_simp) ?_
  refine anyZ_take 10 (.int .i64 (s.size : Int)) rfl (by kernel_rfl) (by kernel_rfl) (by kernel_rfl) (by kernel_rfl) (fun _ _ _ h => h) (by rfl) hS (fun w' hSw => by obtain ⟨s0, s1, s2, s3, s4, s5⟩ := hSw; go_simp) ?_
  refine anyZ_take 11 (.int .u64 (s.size : Int)) rfl (by kernel_rfl) (by kernel_rfl) (by kernel_rfl) (by kernel_rfl) (fun _ _ _ h => h) (by rfl) hS (fun w' hSw => by obtain ⟨s0, s1, s2, s3, s4, s5⟩ := hSw; go_simp) ?_
  clear hS
  refine anyZ_next 3 rfl (by kernel_rfl) (fun K hK => ?_)
  rw [if_pos (by rfl)]
  go_simp
  refine (K0.out.num 0 L0.out x 2 (by omega) (by omega) (by omega)).mono ?_
  rintro e v1 ⟨A1, c1, rfl, k1, l1⟩
  have K1 := Lib.hid k1
  have L1 := Lib.hid l1
  clear k1 l1
  go_simp
  refine hK _ _ (fun _ => HS.out _ K1.out.bel) ?_
  clear hK K
  refine anyZ_next 7 rfl (by kernel_rfl) (fun K hK => ?_)
  rw [if_pos (by rfl)]
  go_simp
  refine (K1.out.num 2 L1.out y 2 (by omega) (by omega) (by omega)).mono ?_
  rintro e v2 ⟨A2, c2, rfl, k2, l2⟩
  have K2 := Lib.hid k2
  have L2 := Lib.hid l2
  clear k2 l2
  go_simp
  refine hK _ _ (fun _ => HS.out _ K2.out.bel) ?_
  clear hK K
  refine anyZ_next 12 rfl (by kernel_rfl) (fun K hK => ?_)
  rw [if_pos (by rfl)]
  go_simp
  refine (K2.out.num 4 L2.out s.size 1 (by omega) (by omega) (by omega)).mono ?_
  rintro e v3 ⟨A3, c3, rfl, k3, l3⟩
  have K3 := Lib.hid k3
  have L3 := Lib.hid l3
  clear k3 l3
  go_simp
  refine hK _ _ (fun _ => HS.out _ K3.out.bel) ?_
  clear hK K
  refine anyZ_next 13 rfl (by kernel_rfl) (fun K hK => ?_)
  rw [if_pos (by rfl)]
  go_simp
  refine hK _ _ (fun h => absurd rfl h) ?_
  clear hK K
  refine anyZ_done (by kernel_rfl) ?_ _
  go_wp2_with fail
  have K3d := Lib.hid K3.out.drew
  refine wp_region_Z (fun w' => w'.cell? ⟨bk, 0, none⟩ = some (.int .u16 (x : Int)) ∧ w'.cell? ⟨bk, 1, none⟩ = some (.int .u16 (y : Int)) ∧ w'.cell? ⟨bk, 2, none⟩ = some (.string s) ∧ w'.cell? ⟨bk, 3, none⟩ = some (.bool o) ∧ w'.cell? ⟨bk, 4, none⟩ = some (.bool q) ∧ w'.cell? ⟨bk, 5, none⟩ = some (.int .u32 (z : Int))) 11 (by kernel_rfl) ?_
  have hS := HS.out _ K3d.out.bel
  refine anyZ_take 0 (.slice A3 5 c3) rfl (by kernel_rfl) (by kernel_rfl) (by kernel_rfl) (by kernel_rfl) (fun _ _ _ h => h) (by rfl) hS (fun w' hSw => by obtain ⟨s0, s1, s2, s3, s4, s5⟩ := hSw; go_simp) ?_
  refine anyZ_take 1 (.pointer (some ⟨bk, 3, none⟩)) rfl (by kernel_rfl) (by kernel_rfl) (by kernel_rfl) (by kernel_rfl) (fun _ _ _ h => h) (by rfl) hS (fun w' hSw => by obtain ⟨s0, s1, s2, s3, s4, s5⟩ := hSw; go_simp) ?_
  refine anyZ_take 2 (.bool o) rfl (by kernel_rfl) (by kernel_rfl) (by kernel_rfl) (by kernel_rfl) (fun _ _ _ h => h) (by rfl) hS (fun w' hSw => by obtain ⟨s0, s1, s2, s3, s4, s5⟩ := hSw; go_simp) ?_
  refine anyZ_take 4 (.pointer (some ⟨bk, 4, none⟩)) rfl (by kernel_rfl) (by kernel_rfl) (by kernel_rfl) (by kernel_rfl) (fun _ _ _ h => h) (by rfl) hS (fun w' hSw => by obtain ⟨s0, s1, s2, s3, s4, s5⟩ := hSw; go_simp) ?_
  refine anyZ_take 5 (.bool q) rfl (by kernel_rfl) (by kernel_rfl) (by kernel_rfl) (by kernel_rfl) (fun _ _ _ h => h) (by rfl) hS (fun w' hSw => by obtain ⟨s0, s1, s2, s3, s4, s5⟩ := hSw; go_simp) ?_
  clear hS
  refine anyZ_next 3 rfl (by kernel_rfl) (fun K hK => ?_)
  rw [if_pos (by rfl)]
  go_simp
  refine (HFO.out _).mono ?_
  rintro e vv ⟨rfl, rfl⟩
  go_simp
  refine hK _ _ (fun _ => HS.out _ K3d.out.bel) ?_
  clear hK K
  refine anyZ_next 6 rfl (by kernel_rfl) (fun K hK => ?_)
  rw [if_pos (by rfl)]
  go_simp
  refine (HFQ.out _).mono ?_
  rintro e vv ⟨rfl, rfl⟩
  go_simp
  refine hK _ _ (fun _ => HS.out _ K3d.out.bel) ?_
  clear hK K
  refine anyZ_next 7 rfl (by kernel_rfl) (fun K hK => ?_)
  rw [if_pos (by rfl)]
  go_simp
  refine hK _ _ (fun _ => HS.out _ K3d.out.bel) ?_
  clear hK K
  refine anyZ_next 8 rfl (by kernel_rfl) (fun K hK => ?_)
  rw [if_pos (by rfl)]
  go_simp
  refine hK _ _ (fun _ => HS.out _ K3d.out.bel) ?_
  clear hK K
  refine anyZ_next 9 rfl (by kernel_rfl) (fun K hK => ?_)
  rw [if_pos (by rfl)]
  go_simp
  rw [HFL.out]
  refine (K3d.out.num 5 L3.out fl 1 (by omega) (by omega) (by omega)).mono ?_
  rintro e v4 ⟨A4, c4, rfl, k4, l4⟩
  have K4 := Lib.hid k4
  have L4 := Lib.hid l4
  clear k4 l4
  go_simp
  refine hK _ _ (fun _ => HS.out _ K4.out.bel) ?_
  clear hK K
  refine anyZ_next 10 rfl (by kernel_rfl) (fun K hK => ?_)
  rw [if_pos (by rfl)]
  go_simp
  refine (K4.out.pad 6 L4.out 2 (by omega) (by omega)).mono ?_
  rintro e v5 ⟨A5, c5, rfl, k5, l5⟩
  have K5 := Lib.hid k5
  have L5 := Lib.hid l5
  clear k5 l5
  go_simp
  refine hK _ _ (fun _ => HS.out _ K5.out.bel) ?_
  clear hK K
  refine anyZ_next 11 rfl (by kernel_rfl) (fun K hK => ?_)
  rw [if_pos (by rfl)]
  go_simp
  refine hK _ _ (fun h => absurd rfl h) ?_
  clear hK K
  refine anyZ_done (by kernel_rfl) ?_ _
  go_wp2_with fail
  have K5d := Lib.hid K5.out.drew
  refine wp_region_Z (fun w' => w'.cell? ⟨bk, 0, none⟩ = some (.int .u16 (x : Int)) ∧ w'.cell? ⟨bk, 1, none⟩ = some (.int .u16 (y : Int)) ∧ w'.cell? ⟨bk, 2, none⟩ = some (.string s) ∧ w'.cell? ⟨bk, 3, none⟩ = some (.bool o) ∧ w'.cell? ⟨bk, 4, none⟩ = some (.bool q) ∧ w'.cell? ⟨bk, 5, none⟩ = some (.int .u32 (z : Int))) 9 (by kernel_rfl) ?_
  have hS := HS.out _ K5d.out.bel
  refine anyZ_take 0 (.slice A5 8 c5) rfl (by kernel_rfl) (by kernel_rfl) (by kernel_rfl) (by kernel_rfl) (fun _ _ _ h => h) (by rfl) hS (fun w' hSw => by obtain ⟨s0, s1, s2, s3, s4, s5⟩ := hSw; go_simp) ?_
  refine anyZ_take 1 (.pointer (some ⟨bk, 5, none⟩)) rfl (by kernel_rfl) (by kernel_rfl) (by kernel_rfl) (by kernel_rfl) (fun _ _ _ h => h) (by rfl) hS (fun w' hSw => by obtain ⟨s0, s1, s2, s3, s4, s5⟩ := hSw; go_simp) ?_
  refine anyZ_take 2 (.int .u32 (z : Int)) rfl (by kernel_rfl) (by kernel_rfl) (by kernel_rfl) (by kernel_rfl) (fun _ _ _ h => h) (by rfl) hS (fun w' hSw => by obtain ⟨s0, s1, s2, s3, s4, s5⟩ := hSw; go_simp) ?_
  refine anyZ_take 3 (.int .u64 (z : Int)) rfl (by kernel_rfl) (by kernel_rfl) (by kernel_rfl) (by kernel_rfl) (fun _ _ _ h => h) (by rfl) hS (fun w' hSw => by obtain ⟨s0, s1, s2, s3, s4, s5⟩ := hSw; go_simp) ?_
  refine anyZ_take 5 (.pointer (some ⟨bk, 2, none⟩)) rfl (by kernel_rfl) (by kernel_rfl) (by kernel_rfl) (by kernel_rfl) (fun _ _ _ h => h) (by rfl) hS (fun w' hSw => by obtain ⟨s0, s1, s2, s3, s4, s5⟩ := hSw; go_simp) ?_
  refine anyZ_take 6 (.string s) rfl (by kernel_rfl) (by kernel_rfl) (by kernel_rfl) (by kernel_rfl) (fun _ _ _ h => h) (by rfl) hS (fun w' hSw => by obtain ⟨s0, s1, s2, s3, s4, s5⟩ := hSw; go_simp) ?_
  clear hS
  refine anyZ_next 4 rfl (by kernel_rfl) (fun K hK => ?_)
  rw [if_pos (by rfl)]
  go_simp
  refine (K5d.out.num 8 L5.out z 4 (by omega) (by omega) (by omega)).mono ?_
  rintro e v6 ⟨A6, c6, rfl, k6, l6⟩
  have K6 := Lib.hid k6
  have L6 := Lib.hid l6
  clear k6 l6
  go_simp
  refine hK _ _ (fun _ => HS.out _ K6.out.bel) ?_
  clear hK K
  refine anyZ_next 7 rfl (by kernel_rfl) (fun K hK => ?_)
  rw [if_pos (by rfl)]
  go_simp
  refine (K6.out.text 12 L6.out s HVS.out (by omega)).mono ?_
  rintro e v7 ⟨A7, c7, rfl, k7, l7⟩
  have K7 := Lib.hid k7
  have L7 := Lib.hid l7
  clear k7 l7
  go_simp
  refine hK _ _ (fun _ => HS.out _ K7.out.bel) ?_
  clear hK K
  refine anyZ_next 8 rfl (by kernel_rfl) (fun K hK => ?_)
  rw [if_pos (by rfl)]
  go_simp
  refine (K7.out.pad 42 L7.out 6 (by omega) (by omega)).mono ?_
  rintro e v8 ⟨A8, c8, rfl, k8, l8⟩
  have K8 := Lib.hid k8
  have L8 := Lib.hid l8
  clear k8 l8
  go_simp
  refine hK _ _ (fun _ => HS.out _ K8.out.bel) ?_
  clear hK K
  refine anyZ_next 9 rfl (by kernel_rfl) (fun K hK => ?_)
  rw [if_pos (by rfl)]
  go_simp
  refine hK _ _ (fun h => absurd rfl h) ?_
  clear hK K
  refine anyZ_done (by kernel_rfl) ?_ _
  go_wp2_with fail
  go_ret
  exact ⟨A8, c8, rfl, ⟨K8.out.own, fun q hq => Nat.le_trans hsz (K8.out.fresh q hq), HB.out.trans (K8.out.bel.mono hsz)⟩, L8.out⟩
end Go.Proofs.Ytpeajffnhmmaeaa
