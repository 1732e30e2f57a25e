/-
  Contracts of PutPort and of the reference's Port.
-/
import Derived.Test.YtpeajffnhmmaeaaName6
import Derived.Test.YtpeajffnhmmaeaaRecR
namespace Go.Proofs.Ytpeajffnhmmaeaa
set_option linter.unusedVariables false
open Go.RowKit

def flB (o q : Bool) : Nat := (if o then 1 else 0) + 2 * (if q then 1 else 0)
theorem flB_lt (o q : Bool) : flB o q < 4 := by cases o <;> cases q <;> decide
noncomputable def portB (x y : Nat) (s : ByteArray) (o q : Bool) (z : Nat) : List UInt8 := leB x 2 ++ leB y 2 ++ leB s.size 1 ++ leB (flB o q) 1 ++ List.replicate 2 0 ++ leB z 4 ++ padL s ++ List.replicate 6 0
theorem portB_len (x y : Nat) (s : ByteArray) (o q : Bool) (z : Nat) : (portB x y s o q z).length = 48 := by simp [portB, leB_length, padL_len]
theorem Put.drew {w wi : World} {g : Nat} {A : Option Addr} {o : Obj} {zs : List UInt8} (h : Put w g A o zs wi) : Put w g A o zs wi.drew := by
  obtain ⟨A', c', h1, h2, h3, h4, h5, h6⟩ := h
  refine ⟨A', c', h1.keep (S := fun _ => False) (Chg.of_below ((Below.refl _ wi).drew)) (fun h => h) (fun _ _ h => h), h2.trans (T := fun _ => False) (Chg.of_below ((Below.refl _ wi).drew)) (fun _ _ h => h.elim), h3, h4, h5, h6⟩
set_option maxRecDepth 100000 in
set_option maxHeartbeats 1600000 in
theorem PutPort_any (g c : Nat) (A : Option Addr) (zs : List UInt8) (x y : Nat) (s : ByteArray) (o q : Bool) (z : Nat) (w : World) (hb : Bld w g A c zs) (hx : x < 65536) (hy : y < 65536) (hs : s.size ≤ 30) (hz : z < 4294967296) (hlen : zs.length ≤ 90000) :
    Calls Try.prog 12 #[.pointer (some ⟨g, 0, none⟩), .agg #[.int .u16 (x : Int), .int .u16 (y : Int), .string s, .bool o, .bool q, .int .u32 (z : Int)]] w fun e w' => e = .returned (.tuple #[]) ∧ Grew w g A (zs ++ portB x y s o q z) w' := by
  have P0 := Lib.hid (Put.start hb (.cells #[.int .u16 (x : Int), .int .u16 (y : Int), .string s, .bool o, .bool q, .int .u32 (z : Int)] 26))
  have HL := Lib.hid (padL_len s)
  have hwz : IntKind.u8.wrap (s.size : Int) = (s.size : Int) := IntWalk.u8_in _ (by omega)
  have HE : Hid (∀ w' , Grew w g A (zs ++ leB x 2 ++ leB y 2 ++ leB s.size 1 ++ leB (flB o q) 1 ++ List.replicate 2 0 ++ leB z 4 ++ padL s ++ List.replicate 6 0) w' → Grew w g A (zs ++ portB x y s o q z) w') := by
    intro w' h
    unfold portB
    simpa only [List.append_assoc] using h
  have HF : Hid (bits .or .u8 (if o then 1 else 0) (if q then 2 else 0) = ((flB o q : Nat) : Int)) := by show _ = _; cases o <;> cases q <;> kernel_rfl
  have hfl := flB_lt o q
  have HFO := Lib.hid (fun u => flag_any o 1 u)
  have HFQ := Lib.hid (fun u => flag_any q 2 u)
  generalize (if o then (1 : Int) else 0) = f1 at *
  generalize (if q then (2 : Int) else 0) = f2 at *
  generalize flB o q = fl at *
  obtain ⟨bk, hbk⟩ : ∃ bk, bk = w.heap.size := ⟨_, rfl⟩
  have HBK := Lib.hid hbk
  clear hb hbk
  go_enter Try.func12, Try.ntmps12
  go_wp2_with fail
  refine (P0.out.U16 x (by omega) (by omega)).mono ?_
  rintro e w1 ⟨rfl, h1⟩
  obtain ⟨k1, k2, k3, k4, k5, k6⟩ := row6_cells h1.box
  have P1 := Lib.hid h1
  clear h1 P0
  go_wp2_with fail
  refine (P1.out.U16 y (by omega) (by simp [leB_length]; omega)).mono ?_
  rintro e w2 ⟨rfl, h2⟩
  clear k1 k2 k3 k4 k5 k6
  obtain ⟨k1, k2, k3, k4, k5, k6⟩ := row6_cells h2.box
  have P2 := Lib.hid h2
  clear h2 P1
  go_wp2_with fail
  refine (P2.out.U8 s.size (by omega) (by simp [leB_length]; omega)).mono ?_
  rintro e w3 ⟨rfl, h3⟩
  clear k1 k2 k3 k4 k5 k6
  have P3 := Lib.hid h3.drew
  clear h3 P2
  go_wp2_with fail
  rw [← HBK.out]
  refine wp_region_Z (fun w' => w'.cell? ⟨bk, 0, none⟩ = some (.int .u16 (x : Int)) ∧ w'.cell? ⟨bk, 1, none⟩ = some (.int .u16 (y : Int)) ∧ w'.cell? ⟨bk, 2, none⟩ = some (.string s) ∧ w'.cell? ⟨bk, 3, none⟩ = some (.bool o) ∧ w'.cell? ⟨bk, 4, none⟩ = some (.bool q) ∧ w'.cell? ⟨bk, 5, none⟩ = some (.int .u32 (z : Int))) 100 (by kernel_rfl) ?_
  have hS : (fun w' => w'.cell? ⟨bk, 0, none⟩ = some (.int .u16 (x : Int)) ∧ w'.cell? ⟨bk, 1, none⟩ = some (.int .u16 (y : Int)) ∧ w'.cell? ⟨bk, 2, none⟩ = some (.string s) ∧ w'.cell? ⟨bk, 3, none⟩ = some (.bool o) ∧ w'.cell? ⟨bk, 4, none⟩ = some (.bool q) ∧ w'.cell? ⟨bk, 5, none⟩ = some (.int .u32 (z : Int))) w3.drew := by
    show w3.drew.cell? _ = _ ∧ _
    rw [HBK.out]
    exact row6_cells P3.out.box
  refine anyZ_take 0 (.pointer (some ⟨g, 0, none⟩)) rfl (by kernel_rfl) (by kernel_rfl) (by kernel_rfl) (by kernel_rfl) (fun _ _ _ h => h) (by rfl) hS (fun w' hSw => by obtain ⟨s0, s1, s2, s3, s4, s5⟩ := hSw; go_simp) ?_
  refine anyZ_take 1 (.pointer (some ⟨bk, 3, none⟩)) rfl (by kernel_rfl) (by kernel_rfl) (by kernel_rfl) (by kernel_rfl) (fun _ _ _ h => h) (by rfl) hS (fun w' hSw => by obtain ⟨s0, s1, s2, s3, s4, s5⟩ := hSw; go_simp) ?_
  refine anyZ_take 2 (.bool o) rfl (by kernel_rfl) (by kernel_rfl) (by kernel_rfl) (by kernel_rfl) (fun _ _ _ h => h) (by rfl) hS (fun w' hSw => by obtain ⟨s0, s1, s2, s3, s4, s5⟩ := hSw; go_simp) ?_
  refine anyZ_take 4 (.pointer (some ⟨bk, 4, none⟩)) rfl (by kernel_rfl) (by kernel_rfl) (by kernel_rfl) (by kernel_rfl) (fun _ _ _ h => h) (by rfl) hS (fun w' hSw => by obtain ⟨s0, s1, s2, s3, s4, s5⟩ := hSw; go_simp) ?_
  refine anyZ_take 5 (.bool q) rfl (by kernel_rfl) (by kernel_rfl) (by kernel_rfl) (by kernel_rfl) (fun _ _ _ h => h) (by rfl) hS (fun w' hSw => by obtain ⟨s0, s1, s2, s3, s4, s5⟩ := hSw; go_simp) ?_
  refine anyZ_next 3 rfl (by kernel_rfl) (fun K hK => ?_)
  rw [if_pos (by rfl)]
  go_simp
  refine (HFO.out _).mono ?_
  rintro e w4 ⟨rfl, rfl⟩
  go_simp
  refine hK _ _ (fun _ => hS) ?_
  clear hK K
  refine anyZ_next 6 rfl (by kernel_rfl) (fun K hK => ?_)
  rw [if_pos (by rfl)]
  go_simp
  refine (HFQ.out _).mono ?_
  rintro e w4 ⟨rfl, rfl⟩
  go_simp
  refine hK _ _ (fun _ => hS) ?_
  clear hK K
  refine anyZ_next 7 rfl (by kernel_rfl) (fun K hK => ?_)
  rw [if_pos (by rfl)]
  go_simp
  refine hK _ _ (fun _ => hS) ?_
  clear hK K
  refine anyZ_next 8 rfl (by kernel_rfl) (fun K hK => ?_)
  rw [if_pos (by rfl)]
  go_simp
  rw [HF.out]
  refine (P3.out.U8 fl (by omega) (by simp [leB_length]; omega)).mono ?_
  rintro e w4 ⟨rfl, h4⟩
  have P4 := Lib.hid h4
  clear h4 P3
  go_simp
  refine hK _ _ (fun _ => by rw [HBK.out]; exact row6_cells P4.out.box) ?_
  clear hK K hS
  refine anyZ_done (by kernel_rfl) ?_ _
  go_wp2_with fail
  refine (P4.out.zeros 2 (by simp [leB_length]; omega)).mono ?_
  rintro e w5 ⟨rfl, h5⟩
  have B5 := h5.box
  rw [← HBK.out] at B5
  obtain ⟨k1, k2, k3, k4, k5, k6⟩ := row6_cells B5
  have P5 := Lib.hid h5
  clear h5 P4
  go_wp2_with fail
  refine (P5.out.U32 z (by omega) (by simp [leB_length]; omega)).mono ?_
  rintro e w6 ⟨rfl, h6⟩
  clear k1 k2 k3 k4 k5 k6
  have B6 := h6.box
  rw [← HBK.out] at B6
  obtain ⟨k1, k2, k3, k4, k5, k6⟩ := row6_cells B6
  have P6 := Lib.hid h6
  clear h6 P5
  go_wp2_with fail
  refine (P6.out.text s (by omega) (by simp [leB_length]; omega)).mono ?_
  rintro e w7 ⟨rfl, h7⟩
  clear k1 k2 k3 k4 k5 k6
  have P7 := Lib.hid h7
  clear h7 P6
  go_wp2_with fail
  refine (P7.out.zeros 6 (by have := HL.out; simp [leB_length]; omega)).mono ?_
  rintro e w8 ⟨rfl, h8⟩
  have P8 := Lib.hid (HE.out _ h8.grew)
  clear h8 P7
  go_wp2_with fail
  go_end0
  exact ⟨rfl, P8.out⟩
end Go.Proofs.Ytpeajffnhmmaeaa
