/-
  Rds8 Rds9, merged.
-/
import Derived.Test.YtpeajffnhmmaeaaRdsC
namespace Go.Proofs.Ytpeajffnhmmaeaa
set_option linter.unusedVariables false
open Go.RowKit

noncomputable def recPort (xs : List UInt8) : Array Value := #[.int .u16 ((numV xs 0 2 : Nat) : Int), .int .u16 ((numV xs 2 2 : Nat) : Int), .string (nmS xs 4 12), .bool (((xs.getD 5 0).toNat : Int).tmod 2 == 1), .bool (decide (2 ≤ ((xs.getD 5 0).toNat : Int))), .int .u32 ((numV xs 8 4 : Nat) : Int)]
set_option maxRecDepth 100000 in
set_option maxHeartbeats 600000 in
theorem refGetPort_any (B : Nat) (A : Option Addr) (c : Nat) (xs : List UInt8) (w : World) (hR : Rd w B A xs) (hB : B ≤ w.heap.size) (hc : xs.length ≤ c) (hn : c ≤ 9223372036854775807) (hl : 42 ≤ xs.length) :
    Calls Try.prog 40 #[.slice A xs.length c] w (RefOK (recPort xs) w) := by
  obtain ⟨bb, o, cn, hA, hbb, hcell, hcn, HCN⟩ := hR.byte (k := 5) (by omega)
  subst hA
  have hb0 := (Below.refl w.heap.size w).alloc (Nat.le_refl _) (.cells #[.int .u16 0, .int .u16 0, .string ⟨#[]⟩, .bool false, .bool false, .int .u32 0] 26)
  have R0 := Lib.hid (heap_alloc_new w (.cells #[.int .u16 0, .int .u16 0, .string ⟨#[]⟩, .bool false, .bool false, .int .u32 0] 26))
  have X0 := Lib.hid (hR.alloc hB (.cells #[.int .u16 0, .int .u16 0, .string ⟨#[]⟩, .bool false, .bool false, .int .u32 0] 26))
  have C0 := Lib.hid ((hb0.cell (p := ⟨bb, o + 5, none⟩) (by show bb < _; omega)).trans hcell)
  have HC := Lib.hid hc
  have HN := Lib.hid hn
  have HL := Lib.hid hl
  obtain ⟨n0, h0⟩ : ∃ n : Nat, n = numV xs 0 2 := ⟨_, rfl⟩
  obtain ⟨n1, h1⟩ : ∃ n : Nat, n = numV xs 2 2 := ⟨_, rfl⟩
  obtain ⟨n2, h2⟩ : ∃ n : Nat, n = numV xs 8 4 := ⟨_, rfl⟩
  obtain ⟨s, hs⟩ : ∃ s, s = nmS xs 4 12 := ⟨_, rfl⟩
  have l0 : n0 < 65536 := by rw [h0]; exact numV_lt xs 0 2
  have l1 : n1 < 65536 := by rw [h1]; exact numV_lt xs 2 2
  have l2 : n2 < 4294967296 := by rw [h2]; exact numV_lt xs 8 4
  have e0 : IntKind.u16.wrap (n0 : Int) = n0 := IntWalk.u16_in _ (by omega)
  have e1 : IntKind.u16.wrap (n1 : Int) = n1 := IntWalk.u16_in _ (by omega)
  have e2 : IntKind.u32.wrap (n2 : Int) = n2 := IntWalk.u32_in _ (by omega)
  have H0 := Lib.hid h0
  have H1 := Lib.hid h1
  have H2 := Lib.hid h2
  have HS := Lib.hid hs
  have HV := Lib.hid (show recPort xs = #[.int .u16 (n0 : Int), .int .u16 (n1 : Int), .string s, .bool ((cn : Int).tmod 2 == 1), .bool (decide (2 ≤ (cn : Int))), .int .u32 (n2 : Int)] from by unfold recPort; rw [h0, h1, h2, hs, HCN.out])
  have hz0 : (w.alloc (.cells #[.int .u16 0, .int .u16 0, .string ⟨#[]⟩, .bool false, .bool false, .int .u32 0] 26)).heap.size = w.heap.size + 1 := by simp
  have B0 := Lib.hid hb0
  have hi1 : (5 : Int) < xs.length := by omega
  have e3 : IntKind.u8.wrap ((cn : Int).tmod 2) = (cn : Int).tmod 2 := by
    rw [Int.tmod_eq_emod_of_nonneg (by omega)]
    exact IntWalk.u8_in _ (by omega)
  clear hR hc hn h0 h1 h2 hcell hb0 HCN hl hs
  rw [HV.out]
  go_enter Try.func40, Try.ntmps40
  go_upto_region 1 with fail
  generalize w.alloc (.cells #[.int .u16 0, .int .u16 0, .string ⟨#[]⟩, .bool false, .bool false, .int .u32 0] 26) = w0 at *
  generalize hb : w.heap.size = b at *
  have HB := Lib.hid hb
  clear hb
  go_wp2_with fail
  refine (refName_any B _ c xs 4 12 w0 X0.out (by omega) HC.out HN.out (by have := HL.out; omega) (by have := HL.out; omega)).mono ?_
  rintro e w1 ⟨rfl, hb1⟩
  rw [show unpS (part xs 12 30) ((xs.getD 4 0).toNat : Int) = s from HS.out.symm]
  have R1 := Lib.hid ((hb1.block b (by omega)).trans R0.out)
  have C1 := Lib.hid ((hb1.cell (p := ⟨bb, o + 5, none⟩) (by show bb < _; omega)).trans C0.out)
  have X1 := Lib.hid (X0.out.after (by omega) hb1)
  have B1 := Lib.hid (B0.out.trans (hb1.mono (by omega)))
  clear hb1 R0 X0 B0 C0
  go_upto_region 2 with fail
  have hS : w1.drew.cell? ⟨bb, o + 5, none⟩ = some (.int .u8 (cn : Int)) ∧ Rd w1.drew B (some ⟨bb, o, none⟩) xs := ⟨C1.out, X1.out⟩
  have R2 := Lib.hid (show w1.drew.heap[b]? = some (.cells #[.int .u16 0, .int .u16 0, .string ⟨#[]⟩, .bool false, .bool false, .int .u32 0] 26 (0, 0)) from R1.out)
  have B2 := Lib.hid (show Below b w w1.drew from ⟨B1.out.os, B1.out.tape, B1.out.output, B1.out.size, B1.out.block⟩)
  clear C1 X1 R1 B1
  refine wp_region_Z (fun u => u.cell? ⟨bb, o + 5, none⟩ = some (.int .u8 (cn : Int)) ∧ Rd u B (some ⟨bb, o, none⟩) xs) 100 (by kernel_rfl) ?_
  generalize w1.drew = w2 at *
  refine anyZ_take 0 (.slice (some ⟨bb, o, none⟩) xs.length c) rfl (by kernel_rfl) (by kernel_rfl) (by kernel_rfl) (by kernel_rfl) (fun _ _ _ h => h) (by rfl) hS (fun w' hSw => by obtain ⟨hc1, _⟩ := hSw; go_simp) ?_
  refine anyZ_take 3 (.slice (some ⟨bb, o, none⟩) xs.length c) rfl (by kernel_rfl) (by kernel_rfl) (by kernel_rfl) (by kernel_rfl) (fun _ _ _ h => h) (by rfl) hS (fun w' hSw => by obtain ⟨hc1, _⟩ := hSw; go_simp) ?_
  refine anyZ_take 6 (.string s) rfl (by kernel_rfl) (by kernel_rfl) (by kernel_rfl) (by kernel_rfl) (fun _ _ _ h => h) (by rfl) hS (fun w' hSw => by obtain ⟨hc1, _⟩ := hSw; go_simp) ?_
  refine anyZ_take 7 (.slice (some ⟨bb, o, none⟩) xs.length c) rfl (by kernel_rfl) (by kernel_rfl) (by kernel_rfl) (by kernel_rfl) (fun _ _ _ h => h) (by rfl) hS (fun w' hSw => by obtain ⟨hc1, _⟩ := hSw; go_simp) ?_
  refine anyZ_take 8 (.pointer (some ⟨bb, o + 5, none⟩)) rfl (by kernel_rfl) (by kernel_rfl) (by kernel_rfl) (by kernel_rfl) (fun _ _ _ h => h) (by rfl) hS (fun w' hSw => by obtain ⟨hc1, _⟩ := hSw; go_simp) ?_
  refine anyZ_take 9 (.int .u8 (cn : Int)) rfl (by kernel_rfl) (by kernel_rfl) (by kernel_rfl) (by kernel_rfl) (fun _ _ _ h => h) (by rfl) hS (fun w' hSw => by obtain ⟨hc1, _⟩ := hSw; go_simp) ?_
  refine anyZ_take 10 (.int .u8 ((cn : Int).tmod 2)) rfl (by kernel_rfl) (by kernel_rfl) (by kernel_rfl) (by kernel_rfl) (fun _ _ _ h => h) (by rfl) hS (fun w' hSw => by obtain ⟨hc1, _⟩ := hSw; go_simp) ?_
  refine anyZ_take 11 (.bool ((cn : Int).tmod 2 == 1)) rfl (by kernel_rfl) (by kernel_rfl) (by kernel_rfl) (by kernel_rfl) (fun _ _ _ h => h) (by rfl) hS (fun w' hSw => by obtain ⟨hc1, _⟩ := hSw; go_simp) ?_
  refine anyZ_take 12 (.slice (some ⟨bb, o, none⟩) xs.length c) rfl (by kernel_rfl) (by kernel_rfl) (by kernel_rfl) (by kernel_rfl) (fun _ _ _ h => h) (by rfl) hS (fun w' hSw => by obtain ⟨hc1, _⟩ := hSw; go_simp) ?_
  refine anyZ_take 13 (.pointer (some ⟨bb, o + 5, none⟩)) rfl (by kernel_rfl) (by kernel_rfl) (by kernel_rfl) (by kernel_rfl) (fun _ _ _ h => h) (by rfl) hS (fun w' hSw => by obtain ⟨hc1, _⟩ := hSw; go_simp) ?_
  refine anyZ_take 14 (.int .u8 (cn : Int)) rfl (by kernel_rfl) (by kernel_rfl) (by kernel_rfl) (by kernel_rfl) (fun _ _ _ h => h) (by rfl) hS (fun w' hSw => by obtain ⟨hc1, _⟩ := hSw; go_simp) ?_
  refine anyZ_take 15 (.bool (decide (2 ≤ (cn : Int)))) rfl (by kernel_rfl) (by kernel_rfl) (by kernel_rfl) (by kernel_rfl) (fun _ _ _ h => h) (by rfl) hS (fun w' hSw => by obtain ⟨hc1, _⟩ := hSw; go_simp) ?_
  refine anyZ_take 16 (.slice (some ⟨bb, o, none⟩) xs.length c) rfl (by kernel_rfl) (by kernel_rfl) (by kernel_rfl) (by kernel_rfl) (fun _ _ _ h => h) (by rfl) hS (fun w' hSw => by obtain ⟨hc1, _⟩ := hSw; go_simp) ?_
  refine anyZ_next 1 rfl (by kernel_rfl) (fun K hK => ?_)
  rw [if_pos (by rfl)]
  go_simp
  refine (refAt_any B _ c xs 0 2 _ hS.2 HC.out HN.out (by omega) (by omega)).mono ?_
  rintro e w' ⟨rfl, rfl⟩
  rw [← H0.out]
  go_simp
  refine hK _ _ (fun _ => hS) ?_
  clear hK K
  refine anyZ_take 2 (.int .u16 (n0 : Int)) rfl (by kernel_rfl) (by kernel_rfl) (by kernel_rfl) (by kernel_rfl) (fun _ _ _ h => h) (by rfl) hS (fun w' hSw => by obtain ⟨hc1, _⟩ := hSw; go_simp) ?_
  refine anyZ_next 4 rfl (by kernel_rfl) (fun K hK => ?_)
  rw [if_pos (by rfl)]
  go_simp
  refine (refAt_any B _ c xs 2 2 _ hS.2 HC.out HN.out (by omega) (by omega)).mono ?_
  rintro e w' ⟨rfl, rfl⟩
  rw [← H1.out]
  go_simp
  refine hK _ _ (fun _ => hS) ?_
  clear hK K
  refine anyZ_take 5 (.int .u16 (n1 : Int)) rfl (by kernel_rfl) (by kernel_rfl) (by kernel_rfl) (by kernel_rfl) (fun _ _ _ h => h) (by rfl) hS (fun w' hSw => by obtain ⟨hc1, _⟩ := hSw; go_simp) ?_
  refine anyZ_next 17 rfl (by kernel_rfl) (fun K hK => ?_)
  rw [if_pos (by rfl)]
  go_simp
  refine (refAt_any B _ c xs 8 4 _ hS.2 HC.out HN.out (by omega) (by omega)).mono ?_
  rintro e w' ⟨rfl, rfl⟩
  rw [← H2.out]
  go_simp
  refine hK _ _ (fun _ => hS) ?_
  clear hK K
  refine anyZ_take 18 (.int .u32 (n2 : Int)) rfl (by kernel_rfl) (by kernel_rfl) (by kernel_rfl) (by kernel_rfl) (fun _ _ _ h => h) (by rfl) hS (fun w' hSw => by obtain ⟨hc1, _⟩ := hSw; go_simp) ?_
  refine anyZ_take 19 (.agg #[.int .u16 (n0 : Int), .int .u16 (n1 : Int), .string s, .bool ((cn : Int).tmod 2 == 1), .bool (decide (2 ≤ (cn : Int))), .int .u32 (n2 : Int)]) rfl (by kernel_rfl) (by kernel_rfl) (by kernel_rfl) (by kernel_rfl) (fun _ _ _ h => h) (by rfl) hS (fun w' hSw => by obtain ⟨hc1, _⟩ := hSw; go_simp) ?_
  refine anyZ_next 20 rfl (by kernel_rfl) (fun K hK => ?_)
  rw [if_pos (by rfl)]
  refine wp_put_row 26 (.tmp 2) (.tmp 29) rfl b #[.int .u16 (n0 : Int), .int .u16 (n1 : Int), .string s, .bool ((cn : Int).tmod 2 == 1), .bool (decide (2 ≤ (cn : Int))), .int .u32 (n2 : Int)] rfl rfl 26 _ R2.out (by kernel_rfl) rfl (by simp [Value.oneCell']) ?_
  refine hK _ _ (fun _ => ⟨(World.cell?_of_block (setRow_other _ b bb _ (by omega))).trans hS.1, hS.2.keep fun p hp => World.cell?_of_block (setRow_other _ b p.block _ (by omega))⟩) ?_
  clear hK K
  refine anyZ_done (by kernel_rfl) ?_ _
  go_wp2
  refine bodyPost_ret (v := .agg _) (results_one rfl _ b _ _ (0, 0) _ rfl (setRow_heap _ b _ _ _ (0, 0) R2.out) Try.underlying26 rfl (by kernel_rfl)) rfl ⟨rfl, by rw [HB.out]; exact setRow_below B2.out (Nat.le_refl _) _⟩
end Go.Proofs.Ytpeajffnhmmaeaa
namespace Go.Proofs.Ytpeajffnhmmaeaa
set_option linter.unusedVariables false
open Go.RowKit

theorem fltC_zero {x y : Int} : fltC x y = 0 ↔ x = 0 ∧ y = 0 := by
  unfold fltC
  split
  · rename_i h; simp [h]
  · rename_i h; simp [h]
theorem recLink_part {xs : List UInt8} {a : Nat} (hx : a + 8 ≤ xs.length) : recLink (part xs a 8) = valLink xs a := by
  unfold recLink valLink
  rw [show numV (part xs a 8) 0 2 = numV xs (a : Int) 2 from numV_part (k := 0) (m := 2) (by omega) hx, show numV (part xs a 8) 2 2 = numV xs ((a : Int) + 2) 2 from numV_part (k := 2) (m := 2) (by omega) hx]
theorem recHead_part {xs : List UInt8} {a : Nat} (hx : a + 8 ≤ xs.length) : recHead (part xs a 8) = valHead xs a := by
  unfold recHead valHead
  rw [show numV (part xs a 8) 0 2 = numV xs (a : Int) 2 from numV_part (k := 0) (m := 2) (by omega) hx, show numV (part xs a 8) 2 2 = numV xs ((a : Int) + 2) 2 from numV_part (k := 2) (m := 2) (by omega) hx,
    show numV (part xs a 8) 4 2 = numV xs ((a : Int) + 4) 2 from numV_part (k := 4) (m := 2) (by omega) hx]
theorem recWindow_part {xs : List UInt8} {a : Nat} (hx : a + 24 ≤ xs.length) : recWindow (part xs a 24) = valWindow xs a := by
  unfold recWindow valWindow
  rw [show numV (part xs a 24) 0 8 = numV xs (a : Int) 8 from numV_part (k := 0) (m := 8) (by omega) hx, show numV (part xs a 24) 8 8 = numV xs ((a : Int) + 8) 8 from numV_part (k := 8) (m := 8) (by omega) hx,
    show numV (part xs a 24) 16 2 = numV xs ((a : Int) + 16) 2 from numV_part (k := 16) (m := 2) (by omega) hx]
theorem recRegion_part {xs : List UInt8} {a : Nat} (hx : a + 24 ≤ xs.length) : recRegion (part xs a 24) = valRegion xs a := by
  unfold recRegion valRegion
  rw [show numV (part xs a 24) 0 8 = numV xs (a : Int) 8 from numV_part (k := 0) (m := 8) (by omega) hx, show numV (part xs a 24) 8 8 = numV xs ((a : Int) + 8) 8 from numV_part (k := 8) (m := 8) (by omega) hx,
    show numV (part xs a 24) 16 2 = numV xs ((a : Int) + 16) 2 from numV_part (k := 16) (m := 2) (by omega) hx, part_getD (by omega), part_getD (by omega),
    show numV xs ((a : Int) + 18) 1 = _ from numV_one (k := a + 18) (by omega), show numV xs ((a : Int) + 19) 1 = _ from numV_one (k := a + 19) (by omega)]
theorem recPartition_part {xs : List UInt8} {a : Nat} (hx : a + 56 ≤ xs.length) : recPartition (part xs a 56) = valPartition xs a := by
  unfold recPartition valPartition
  rw [show numV (part xs a 56) 0 2 = numV xs (a : Int) 2 from numV_part (k := 0) (m := 2) (by omega) hx, show numV (part xs a 56) 40 8 = numV xs ((a : Int) + 40) 8 from numV_part (k := 40) (m := 8) (by omega) hx,
    show numV (part xs a 56) 48 8 = numV xs ((a : Int) + 48) 8 from numV_part (k := 48) (m := 8) (by omega) hx, ← nameS_part (xs := xs) (a := a) (z := 56) (ln := 2) (off := 4) (by omega) (by omega) hx]
  rfl
theorem flags4 : ∀ n : Nat, n < 4 → (bits .and .u8 (n : Int) 1 != 0) = ((n : Int).tmod 2 == 1) ∧ (bits .and .u8 (n : Int) 2 != 0) = decide (2 ≤ (n : Int)) := by decide
theorem recPort_part {xs : List UInt8} {a : Nat} (hx : a + 48 ≤ xs.length) (h : codePort xs a = 0) : recPort (part xs a 48) = valPort xs a := by
  have hn : (xs.getD (a + 5) 0).toNat < 4 := by
    have h1 := (fltC_zero.1 h).1
    unfold FCPort mstC wrC at h1
    rw [show numV xs ((a : Int) + 5) 1 = _ from numV_one (k := a + 5) (by omega)] at h1
    by_cases h3 : (3 : Int) < ((xs.getD (a + 5) 0).toNat : Int)
    · rw [if_pos h3] at h1
      split at h1 <;> omega
    · omega
  obtain ⟨f1, f2⟩ := flags4 _ hn
  unfold recPort valPort
  rw [show numV (part xs a 48) 0 2 = numV xs (a : Int) 2 from numV_part (k := 0) (m := 2) (by omega) hx, show numV (part xs a 48) 2 2 = numV xs ((a : Int) + 2) 2 from numV_part (k := 2) (m := 2) (by omega) hx,
    show numV (part xs a 48) 8 4 = numV xs ((a : Int) + 8) 4 from numV_part (k := 8) (m := 4) (by omega) hx, ← nameS_part (xs := xs) (a := a) (z := 48) (ln := 4) (off := 12) (by omega) (by omega) hx, part_getD (by omega),
    show numV xs ((a : Int) + 5) 1 = _ from numV_one (k := a + 5) (by omega), f1, f2]
  rfl

/-- what the reference says of a record of section 6 -/
noncomputable def outLink (xs : List UInt8) (a : Int) : Array Value := if (chkV 6 xs a).1 = 0 then recLink (part xs a.toNat 8) else #[.int .u16 0, .int .u16 0]
theorem GetLink_rd (A : Option Addr) (c : Nat) (xs : List UInt8) (a : Int) (w : World) (hR : Rd w w.heap.size A xs) (hc : xs.length ≤ c) (hn : c ≤ 9223372036854775807) (hl : xs.length ≤ 500) (ha : -9223372036854775808 ≤ a ∧ a ≤ 9223372036854775807) :
    Calls Try.prog 29 #[.slice A xs.length c, .int .i64 a] w (GetOK (outLink xs a) (chkV 6 xs a).1 (chkV 6 xs a).2 w) := by
  cases hx : exB a 8 xs.length with
  | false =>
    have hv : chkV 6 xs a = (8, a) := by unfold chkV; rw [show ((szR 6 : Nat) : Int) = 8 from rfl, hx]; simp
    have ho : outLink xs a = #[.int .u16 0, .int .u16 0] := by unfold outLink; rw [hv]; exact if_neg (show ¬ (8 : Int) = 0 by decide)
    rw [hv, ho]
    exact GetLink_no A xs.length c a w (by omega) ha hx
  | true =>
    obtain ⟨x1, x2, x3, x4⟩ := exB_iff.1 hx
    obtain ⟨a, rfl⟩ := Int.eq_ofNat_of_zero_le x1
    have hv : chkV 6 xs a = (codeLink xs a, placeLink xs a) := by
      unfold chkV
      rw [show ((szR 6 : Nat) : Int) = 8 from rfl, hx, if_pos rfl, Int.toNat_natCast]
      exact chkLink xs a
    have ho : outLink xs a = resLink xs a := by
      unfold outLink
      rw [hv, Int.toNat_natCast]
      unfold resLink
      by_cases h0 : codeLink xs a = 0
      · rw [if_pos h0, if_pos (fltC_zero.1 h0)]
        exact recLink_part (by omega)
      · rw [if_neg h0, if_neg (fun h => h0 (fltC_zero.2 h))]
    rw [hv, ho]
    exact GetLink_yes w.heap.size A c xs a w hR (Nat.le_refl _) hc hn (by omega) (by omega)
/-- what the reference says of a record of section 5 -/
noncomputable def outHead (xs : List UInt8) (a : Int) : Array Value := if (chkV 5 xs a).1 = 0 then recHead (part xs a.toNat 8) else #[.int .u16 0, .int .u16 0, .int .u16 0]
theorem GetHead_rd (A : Option Addr) (c : Nat) (xs : List UInt8) (a : Int) (w : World) (hR : Rd w w.heap.size A xs) (hc : xs.length ≤ c) (hn : c ≤ 9223372036854775807) (hl : xs.length ≤ 500) (ha : -9223372036854775808 ≤ a ∧ a ≤ 9223372036854775807) :
    Calls Try.prog 28 #[.slice A xs.length c, .int .i64 a] w (GetOK (outHead xs a) (chkV 5 xs a).1 (chkV 5 xs a).2 w) := by
  cases hx : exB a 8 xs.length with
  | false =>
    have hv : chkV 5 xs a = (8, a) := by unfold chkV; rw [show ((szR 5 : Nat) : Int) = 8 from rfl, hx]; simp
    have ho : outHead xs a = #[.int .u16 0, .int .u16 0, .int .u16 0] := by unfold outHead; rw [hv]; exact if_neg (show ¬ (8 : Int) = 0 by decide)
    rw [hv, ho]
    exact GetHead_no A xs.length c a w (by omega) ha hx
  | true =>
    obtain ⟨x1, x2, x3, x4⟩ := exB_iff.1 hx
    obtain ⟨a, rfl⟩ := Int.eq_ofNat_of_zero_le x1
    have hv : chkV 5 xs a = (codeHead xs a, placeHead xs a) := by
      unfold chkV
      rw [show ((szR 5 : Nat) : Int) = 8 from rfl, hx, if_pos rfl, Int.toNat_natCast]
      exact chkHead xs a
    have ho : outHead xs a = resHead xs a := by
      unfold outHead
      rw [hv, Int.toNat_natCast]
      unfold resHead
      by_cases h0 : codeHead xs a = 0
      · rw [if_pos h0, if_pos (fltC_zero.1 h0)]
        exact recHead_part (by omega)
      · rw [if_neg h0, if_neg (fun h => h0 (fltC_zero.2 h))]
    rw [hv, ho]
    exact GetHead_yes w.heap.size A c xs a w hR (Nat.le_refl _) hc hn (by omega) (by omega)
/-- what the reference says of a record of section 2 -/
noncomputable def outWindow (xs : List UInt8) (a : Int) : Array Value := if (chkV 2 xs a).1 = 0 then recWindow (part xs a.toNat 24) else #[.int .u64 0, .int .u64 0, .int .u16 0]
theorem GetWindow_rd (A : Option Addr) (c : Nat) (xs : List UInt8) (a : Int) (w : World) (hR : Rd w w.heap.size A xs) (hc : xs.length ≤ c) (hn : c ≤ 9223372036854775807) (hl : xs.length ≤ 500) (ha : -9223372036854775808 ≤ a ∧ a ≤ 9223372036854775807) :
    Calls Try.prog 27 #[.slice A xs.length c, .int .i64 a] w (GetOK (outWindow xs a) (chkV 2 xs a).1 (chkV 2 xs a).2 w) := by
  cases hx : exB a 24 xs.length with
  | false =>
    have hv : chkV 2 xs a = (8, a) := by unfold chkV; rw [show ((szR 2 : Nat) : Int) = 24 from rfl, hx]; simp
    have ho : outWindow xs a = #[.int .u64 0, .int .u64 0, .int .u16 0] := by unfold outWindow; rw [hv]; exact if_neg (show ¬ (8 : Int) = 0 by decide)
    rw [hv, ho]
    exact GetWindow_no A xs.length c a w (by omega) ha hx
  | true =>
    obtain ⟨x1, x2, x3, x4⟩ := exB_iff.1 hx
    obtain ⟨a, rfl⟩ := Int.eq_ofNat_of_zero_le x1
    have hv : chkV 2 xs a = (codeWindow xs a, placeWindow xs a) := by
      unfold chkV
      rw [show ((szR 2 : Nat) : Int) = 24 from rfl, hx, if_pos rfl, Int.toNat_natCast]
      exact chkWindow xs a
    have ho : outWindow xs a = resWindow xs a := by
      unfold outWindow
      rw [hv, Int.toNat_natCast]
      unfold resWindow
      by_cases h0 : codeWindow xs a = 0
      · rw [if_pos h0, if_pos (fltC_zero.1 h0)]
        exact recWindow_part (by omega)
      · rw [if_neg h0, if_neg (fun h => h0 (fltC_zero.2 h))]
    rw [hv, ho]
    exact GetWindow_yes w.heap.size A c xs a w hR (Nat.le_refl _) hc hn (by omega) (by omega)
/-- what the reference says of a record of section 3 -/
noncomputable def outRegion (xs : List UInt8) (a : Int) : Array Value := if (chkV 3 xs a).1 = 0 then recRegion (part xs a.toNat 24) else #[.int .u64 0, .int .u64 0, .int .u16 0, .int .u8 0, .bool false]
theorem GetRegion_rd (A : Option Addr) (c : Nat) (xs : List UInt8) (a : Int) (w : World) (hR : Rd w w.heap.size A xs) (hc : xs.length ≤ c) (hn : c ≤ 9223372036854775807) (hl : xs.length ≤ 500) (ha : -9223372036854775808 ≤ a ∧ a ≤ 9223372036854775807) :
    Calls Try.prog 20 #[.slice A xs.length c, .int .i64 a] w (GetOK (outRegion xs a) (chkV 3 xs a).1 (chkV 3 xs a).2 w) := by
  cases hx : exB a 24 xs.length with
  | false =>
    have hv : chkV 3 xs a = (8, a) := by unfold chkV; rw [show ((szR 3 : Nat) : Int) = 24 from rfl, hx]; simp
    have ho : outRegion xs a = #[.int .u64 0, .int .u64 0, .int .u16 0, .int .u8 0, .bool false] := by unfold outRegion; rw [hv]; exact if_neg (show ¬ (8 : Int) = 0 by decide)
    rw [hv, ho]
    exact GetRegion_no A xs.length c a w (by omega) ha hx
  | true =>
    obtain ⟨x1, x2, x3, x4⟩ := exB_iff.1 hx
    obtain ⟨a, rfl⟩ := Int.eq_ofNat_of_zero_le x1
    have hv : chkV 3 xs a = (codeRegion xs a, placeRegion xs a) := by
      unfold chkV
      rw [show ((szR 3 : Nat) : Int) = 24 from rfl, hx, if_pos rfl, Int.toNat_natCast]
      exact chkRegion xs a (by omega)
    have ho : outRegion xs a = resRegion xs a := by
      unfold outRegion
      rw [hv, Int.toNat_natCast]
      unfold resRegion
      by_cases h0 : codeRegion xs a = 0
      · rw [if_pos h0, if_pos (fltC_zero.1 h0)]
        exact recRegion_part (by omega)
      · rw [if_neg h0, if_neg (fun h => h0 (fltC_zero.2 h))]
    rw [hv, ho]
    exact GetRegion_yes w.heap.size A c xs a w hR (Nat.le_refl _) hc hn (by omega) (by omega)
/-- what the reference says of a record of section 1 -/
noncomputable def outPartition (xs : List UInt8) (a : Int) : Array Value := if (chkV 1 xs a).1 = 0 then recPartition (part xs a.toNat 56) else #[.int .u16 0, .string ⟨#[]⟩, .int .u64 0, .int .u64 0]
theorem GetPartition_rd (A : Option Addr) (c : Nat) (xs : List UInt8) (a : Int) (w : World) (hR : Rd w w.heap.size A xs) (hc : xs.length ≤ c) (hn : c ≤ 9223372036854775807) (hl : xs.length ≤ 500) (ha : -9223372036854775808 ≤ a ∧ a ≤ 9223372036854775807) :
    Calls Try.prog 18 #[.slice A xs.length c, .int .i64 a] w (GetOK (outPartition xs a) (chkV 1 xs a).1 (chkV 1 xs a).2 w) := by
  cases hx : exB a 56 xs.length with
  | false =>
    have hv : chkV 1 xs a = (8, a) := by unfold chkV; rw [show ((szR 1 : Nat) : Int) = 56 from rfl, hx]; simp
    have ho : outPartition xs a = #[.int .u16 0, .string ⟨#[]⟩, .int .u64 0, .int .u64 0] := by unfold outPartition; rw [hv]; exact if_neg (show ¬ (8 : Int) = 0 by decide)
    rw [hv, ho]
    exact GetPartition_no A xs.length c a w (by omega) ha hx
  | true =>
    obtain ⟨x1, x2, x3, x4⟩ := exB_iff.1 hx
    obtain ⟨a, rfl⟩ := Int.eq_ofNat_of_zero_le x1
    have hv : chkV 1 xs a = (codePartition xs a, placePartition xs a) := by
      unfold chkV
      rw [show ((szR 1 : Nat) : Int) = 56 from rfl, hx, if_pos rfl, Int.toNat_natCast]
      exact chkPartition xs a (by omega)
    have ho : outPartition xs a = resPartition xs a := by
      unfold outPartition
      rw [hv, Int.toNat_natCast]
      unfold resPartition
      by_cases h0 : codePartition xs a = 0
      · rw [if_pos h0, if_pos (fltC_zero.1 h0)]
        exact recPartition_part (by omega)
      · rw [if_neg h0, if_neg (fun h => h0 (fltC_zero.2 h))]
    rw [hv, ho]
    exact GetPartition_yes w.heap.size A c xs a w hR (Nat.le_refl _) hc hn (by omega) (by omega)
/-- what the reference says of a record of section 4 -/
noncomputable def outPort (xs : List UInt8) (a : Int) : Array Value := if (chkV 4 xs a).1 = 0 then recPort (part xs a.toNat 48) else #[.int .u16 0, .int .u16 0, .string ⟨#[]⟩, .bool false, .bool false, .int .u32 0]
theorem GetPort_rd (A : Option Addr) (c : Nat) (xs : List UInt8) (a : Int) (w : World) (hR : Rd w w.heap.size A xs) (hc : xs.length ≤ c) (hn : c ≤ 9223372036854775807) (hl : xs.length ≤ 500) (ha : -9223372036854775808 ≤ a ∧ a ≤ 9223372036854775807) :
    Calls Try.prog 13 #[.slice A xs.length c, .int .i64 a] w (GetOK (outPort xs a) (chkV 4 xs a).1 (chkV 4 xs a).2 w) := by
  cases hx : exB a 48 xs.length with
  | false =>
    have hv : chkV 4 xs a = (8, a) := by unfold chkV; rw [show ((szR 4 : Nat) : Int) = 48 from rfl, hx]; simp
    have ho : outPort xs a = #[.int .u16 0, .int .u16 0, .string ⟨#[]⟩, .bool false, .bool false, .int .u32 0] := by unfold outPort; rw [hv]; exact if_neg (show ¬ (8 : Int) = 0 by decide)
    rw [hv, ho]
    exact GetPort_no A xs.length c a w (by omega) ha hx
  | true =>
    obtain ⟨x1, x2, x3, x4⟩ := exB_iff.1 hx
    obtain ⟨a, rfl⟩ := Int.eq_ofNat_of_zero_le x1
    have hv : chkV 4 xs a = (codePort xs a, placePort xs a) := by
      unfold chkV
      rw [show ((szR 4 : Nat) : Int) = 48 from rfl, hx, if_pos rfl, Int.toNat_natCast]
      exact chkPort xs a (by omega)
    have ho : outPort xs a = resPort xs a := by
      unfold outPort
      rw [hv, Int.toNat_natCast]
      unfold resPort
      by_cases h0 : codePort xs a = 0
      · rw [if_pos h0, if_pos (fltC_zero.1 h0)]
        exact recPort_part (by omega) h0
      · rw [if_neg h0, if_neg (fun h => h0 (fltC_zero.2 h))]
    rw [hv, ho]
    exact GetPort_yes w.heap.size A c xs a w hR (Nat.le_refl _) hc hn (by omega) (by omega)

set_option maxRecDepth 20000 in
set_option maxHeartbeats 400000 in
theorem fault_any (B : Nat) (A : Option Addr) (c s : Nat) (xs : List UInt8) (a : Int) (w : World) (hR : Rd w B A xs) (hB : B ≤ w.heap.size) (hc : xs.length ≤ c) (hn : c ≤ 9223372036854775807) (ha : -9223372036854775808 ≤ a ∧ a ≤ 9223372036854775807) (h1 : 1 ≤ s) (h6 : s ≤ 6) :
    Calls Try.prog 36 #[.int .i64 (s : Int), .slice A xs.length c, .int .i64 a] w (RefOK #[.int .i64 (chkV s xs a).1, .int .i64 0, .int .i64 (chkV s xs a).2] w) := by
  have r0 := heap_alloc_new w (.cells #[.int .i64 0, .int .i64 0, .int .i64 0] 34)
  have X0 := Lib.hid (hR.alloc hB (.cells #[.int .i64 0, .int .i64 0, .int .i64 0] 34))
  have R0 := Lib.hid r0
  have B0 := Lib.hid ((Below.refl w.heap.size w).alloc (Nat.le_refl _) (.cells #[.int .i64 0, .int .i64 0, .int .i64 0] 34))
  have hz0 : (w.alloc (.cells #[.int .i64 0, .int .i64 0, .int .i64 0] 34)).heap.size = w.heap.size + 1 := by simp
  clear r0 hR
  go_enter Try.func36, Try.ntmps36
  go_upto_region 1 with fail
  generalize w.alloc (.cells #[.int .i64 0, .int .i64 0, .int .i64 0] 34) = w0 at *
  generalize hb : w.heap.size = b at *
  have HB := Lib.hid hb
  clear hb
  go_wp2_with fail
  refine (Check_any B A c s xs a w0 X0.out (by omega) hc hn ha h1 h6).mono ?_
  rintro e w1 ⟨rfl, hb1⟩
  have R1 := Lib.hid ((hb1.block b (by omega)).trans R0.out)
  have B1 := Lib.hid (B0.out.trans (hb1.mono (by omega)))
  clear hb1 R0 X0 B0
  generalize (chkV s xs a).1 = x at *
  generalize (chkV s xs a).2 = z at *
  go_wp2_with (refine wpList_store_rowTo rfl 34 (.tmp 6) (.tmp 18) rfl rfl b #[.int .i64 x, .int .i64 0, .int .i64 z] rfl rfl 34 _ R1.out (by kernel_rfl) rfl (by simp [Value.oneCell']) ?_)
  refine bodyPost_ret (v := .agg _) (results_one rfl _ b _ _ (0, 0) _ rfl (setRow_heap _ b _ _ _ (0, 0) R1.out) Try.underlying34 rfl (by kernel_rfl)) rfl ⟨rfl, by rw [HB.out]; exact setRow_below B1.out (Nat.le_refl _) _⟩
end Go.Proofs.Ytpeajffnhmmaeaa
