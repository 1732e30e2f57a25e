/-
  Rds6 Rds7, merged.
-/
import Derived.Test.YtpeajffnhmmaeaaRdsB
import Derived.BigQuiet
import Derived.OwnWalkIn
namespace Go.Proofs.Ytpeajffnhmmaeaa
set_option linter.unusedVariables false
open Go.RowKit

theorem results_one {P : Program} {w : World} {fn : Func} {p : Tmp} {ty : TypeId} (h : fn.results = #[.cell p ty]) (tmps : Array Value) (g : Nat) (t : TypeId) (cs : Array Value) (fr : Nat × Nat) (d : TypeDesc)
    (hp : tmps.getD p undef = .pointer (some ⟨g, 0, none⟩)) (hg : w.heap[g]? = some (.cells cs t fr))
    (hu : P.underlying ty = some d) (hd : (match d with | .struct _ | .array _ _ => true | _ => false) = true) (hi : (P.info? ty).map (·.size) = some cs.size) :
    (results fn tmps).run P w = .ok (.agg cs) w := by
  have hp' : tmps[p]?.getD undef = .pointer (some ⟨g, 0, none⟩) := by simpa using hp
  simp [results, h, hp', asAddr, run_loadVar_row w g t ty cs fr d hg hu hd hi]
/-- a record of the reference -/
def RefOK (v : Array Value) (w : World) (e : Ending) (w' : World) : Prop := e = .returned (.agg v) ∧ Below w.heap.size w w'

def recLink (xs : List UInt8) : Array Value := #[.int .u16 ((numV xs 0 2 : Nat) : Int), .int .u16 ((numV xs 2 2 : Nat) : Int)]
set_option maxRecDepth 20000 in
set_option maxHeartbeats 1000000 in
theorem refGetLink_any (B : Nat) (A : Option Addr) (c : Nat) (xs : List UInt8) (w : World) (hR : Rd w B A xs) (hB : B ≤ w.heap.size) (hc : xs.length ≤ c) (hn : c ≤ 9223372036854775807) :
    Calls Try.prog 42 #[.slice A xs.length c] w (RefOK (recLink xs) w) := by
  have HR0 := Lib.hid (hR.alloc hB (.cells #[.int .u16 0, .int .u16 0] 62))
  have HC := Lib.hid hc
  have HN := Lib.hid hn
  obtain ⟨n0, h0⟩ : ∃ n : Nat, n = numV xs 0 2 := ⟨_, rfl⟩
  have l0 : n0 < 65536 := by rw [h0]; exact numV_lt xs 0 2
  have e0 : IntKind.u16.wrap (n0 : Int) = n0 := IntWalk.u16_in _ (by omega)
  have H0 := Lib.hid h0
  obtain ⟨n1, h1⟩ : ∃ n : Nat, n = numV xs 2 2 := ⟨_, rfl⟩
  have l1 : n1 < 65536 := by rw [h1]; exact numV_lt xs 2 2
  have e1 : IntKind.u16.wrap (n1 : Int) = n1 := IntWalk.u16_in _ (by omega)
  have H1 := Lib.hid h1
  have HV := Lib.hid (show recLink xs = #[.int .u16 (n0 : Int), .int .u16 (n1 : Int)] from by unfold recLink; rw [h0, h1])
  clear hR hc hn h0 h1
  rw [HV.out]
  go_enter Try.func42, Try.ntmps42
  go_wp2_with fail
  refine (refAt_any B A c xs 0 2 _ HR0.out HC.out HN.out (by omega) (by omega)).mono ?_
  rintro e w' ⟨rfl, rfl⟩
  rw [← H0.out]
  go_wp2_with fail
  refine (refAt_any B A c xs 2 2 _ HR0.out HC.out HN.out (by omega) (by omega)).mono ?_
  rintro e w' ⟨rfl, rfl⟩
  rw [← H1.out]
  go_wp2
  refine bodyPost_ret (v := .agg _) (results_one rfl _ w.heap.size _ _ (0, 0) _ rfl (heap_alloc_new w _) Try.underlying62 rfl (by kernel_rfl)) rfl ⟨rfl, (Below.refl _ w).alloc (Nat.le_refl _) _⟩

def recHead (xs : List UInt8) : Array Value := #[.int .u16 ((numV xs 0 2 : Nat) : Int), .int .u16 ((numV xs 2 2 : Nat) : Int), .int .u16 ((numV xs 4 2 : Nat) : Int)]
set_option maxRecDepth 20000 in
set_option maxHeartbeats 1000000 in
theorem refGetHead_any (B : Nat) (A : Option Addr) (c : Nat) (xs : List UInt8) (w : World) (hR : Rd w B A xs) (hB : B ≤ w.heap.size) (hc : xs.length ≤ c) (hn : c ≤ 9223372036854775807) :
    Calls Try.prog 41 #[.slice A xs.length c] w (RefOK (recHead xs) w) := by
  have HR0 := Lib.hid (hR.alloc hB (.cells #[.int .u16 0, .int .u16 0, .int .u16 0] 60))
  have HC := Lib.hid hc
  have HN := Lib.hid hn
  obtain ⟨n0, h0⟩ : ∃ n : Nat, n = numV xs 0 2 := ⟨_, rfl⟩
  have l0 : n0 < 65536 := by rw [h0]; exact numV_lt xs 0 2
  have e0 : IntKind.u16.wrap (n0 : Int) = n0 := IntWalk.u16_in _ (by omega)
  have H0 := Lib.hid h0
  obtain ⟨n1, h1⟩ : ∃ n : Nat, n = numV xs 2 2 := ⟨_, rfl⟩
  have l1 : n1 < 65536 := by rw [h1]; exact numV_lt xs 2 2
  have e1 : IntKind.u16.wrap (n1 : Int) = n1 := IntWalk.u16_in _ (by omega)
  have H1 := Lib.hid h1
  obtain ⟨n2, h2⟩ : ∃ n : Nat, n = numV xs 4 2 := ⟨_, rfl⟩
  have l2 : n2 < 65536 := by rw [h2]; exact numV_lt xs 4 2
  have e2 : IntKind.u16.wrap (n2 : Int) = n2 := IntWalk.u16_in _ (by omega)
  have H2 := Lib.hid h2
  have HV := Lib.hid (show recHead xs = #[.int .u16 (n0 : Int), .int .u16 (n1 : Int), .int .u16 (n2 : Int)] from by unfold recHead; rw [h0, h1, h2])
  clear hR hc hn h0 h1 h2
  rw [HV.out]
  go_enter Try.func41, Try.ntmps41
  go_wp2_with fail
  refine (refAt_any B A c xs 0 2 _ HR0.out HC.out HN.out (by omega) (by omega)).mono ?_
  rintro e w' ⟨rfl, rfl⟩
  rw [← H0.out]
  go_wp2_with fail
  refine (refAt_any B A c xs 2 2 _ HR0.out HC.out HN.out (by omega) (by omega)).mono ?_
  rintro e w' ⟨rfl, rfl⟩
  rw [← H1.out]
  go_wp2_with fail
  refine (refAt_any B A c xs 4 2 _ HR0.out HC.out HN.out (by omega) (by omega)).mono ?_
  rintro e w' ⟨rfl, rfl⟩
  rw [← H2.out]
  go_wp2
  refine bodyPost_ret (v := .agg _) (results_one rfl _ w.heap.size _ _ (0, 0) _ rfl (heap_alloc_new w _) Try.underlying60 rfl (by kernel_rfl)) rfl ⟨rfl, (Below.refl _ w).alloc (Nat.le_refl _) _⟩

def recWindow (xs : List UInt8) : Array Value := #[.int .u64 ((numV xs 0 8 : Nat) : Int), .int .u64 ((numV xs 8 8 : Nat) : Int), .int .u16 ((numV xs 16 2 : Nat) : Int)]
set_option maxRecDepth 20000 in
set_option maxHeartbeats 1000000 in
theorem refGetWindow_any (B : Nat) (A : Option Addr) (c : Nat) (xs : List UInt8) (w : World) (hR : Rd w B A xs) (hB : B ≤ w.heap.size) (hc : xs.length ≤ c) (hn : c ≤ 9223372036854775807) :
    Calls Try.prog 38 #[.slice A xs.length c] w (RefOK (recWindow xs) w) := by
  have HR0 := Lib.hid (hR.alloc hB (.cells #[.int .u64 0, .int .u64 0, .int .u16 0] 58))
  have HC := Lib.hid hc
  have HN := Lib.hid hn
  obtain ⟨n0, h0⟩ : ∃ n : Nat, n = numV xs 0 8 := ⟨_, rfl⟩
  have l0 : n0 < 18446744073709551616 := by rw [h0]; exact numV_lt xs 0 8
  have e0 : IntKind.u64.wrap (n0 : Int) = n0 := IntWalk.u64_in _ (by omega)
  have H0 := Lib.hid h0
  obtain ⟨n1, h1⟩ : ∃ n : Nat, n = numV xs 8 8 := ⟨_, rfl⟩
  have l1 : n1 < 18446744073709551616 := by rw [h1]; exact numV_lt xs 8 8
  have e1 : IntKind.u64.wrap (n1 : Int) = n1 := IntWalk.u64_in _ (by omega)
  have H1 := Lib.hid h1
  obtain ⟨n2, h2⟩ : ∃ n : Nat, n = numV xs 16 2 := ⟨_, rfl⟩
  have l2 : n2 < 65536 := by rw [h2]; exact numV_lt xs 16 2
  have e2 : IntKind.u16.wrap (n2 : Int) = n2 := IntWalk.u16_in _ (by omega)
  have H2 := Lib.hid h2
  have HV := Lib.hid (show recWindow xs = #[.int .u64 (n0 : Int), .int .u64 (n1 : Int), .int .u16 (n2 : Int)] from by unfold recWindow; rw [h0, h1, h2])
  clear hR hc hn h0 h1 h2
  rw [HV.out]
  go_enter Try.func38, Try.ntmps38
  go_wp2_with fail
  refine (refAt_any B A c xs 0 8 _ HR0.out HC.out HN.out (by omega) (by omega)).mono ?_
  rintro e w' ⟨rfl, rfl⟩
  rw [← H0.out]
  go_wp2_with fail
  refine (refAt_any B A c xs 8 8 _ HR0.out HC.out HN.out (by omega) (by omega)).mono ?_
  rintro e w' ⟨rfl, rfl⟩
  rw [← H1.out]
  go_wp2_with fail
  refine (refAt_any B A c xs 16 2 _ HR0.out HC.out HN.out (by omega) (by omega)).mono ?_
  rintro e w' ⟨rfl, rfl⟩
  rw [← H2.out]
  go_wp2
  refine bodyPost_ret (v := .agg _) (results_one rfl _ w.heap.size _ _ (0, 0) _ rfl (heap_alloc_new w _) Try.underlying58 rfl (by kernel_rfl)) rfl ⟨rfl, (Below.refl _ w).alloc (Nat.le_refl _) _⟩
end Go.Proofs.Ytpeajffnhmmaeaa
namespace Go.Proofs.Ytpeajffnhmmaeaa
set_option linter.unusedVariables false
open Go.RowKit

theorem wp_put_row {P : Program} {o : Oper} {a : Act} {w : World} {K : Act → World → Prop} {Q : Exit → Act → World → Prop} (ty : TypeId) (x y : Operand) (ho : o.op = .store ty x y)
    (g : Nat) (cells : Array Value) (hx : a.eval x = .pointer (some ⟨g, 0, none⟩)) (hy : a.eval y = .agg cells)
    (t : TypeId) (old : Array Value) (hg : w.heap[g]? = some (.cells old t (0, 0))) (hi : (P.info? ty).map (·.size) = some cells.size)
    (hold : old.size = cells.size) (h1 : cells.all (·.oneCell') = true)
    (h : K (a.put o.dst undef) (w.setRow g cells)) : Oper.wp P o a w K Q := by
  unfold Oper.wp execOp
  simp only [ho, hx, hy, Instr.storeAt, Instr.sureAddr, Sem.run_bind, Sem.run_pure, Result.andThen_ok, run_storeVar_row w g t ty old cells hg hi hold h1]
  exact h
theorem setRow_below {B : Nat} {w w' : World} (h : Below B w w') {g : Nat} (hg : B ≤ g) (cs : Array Value) : Below B w (w'.setRow g cs) :=
  h.trans ⟨rfl, rfl, rfl, by simp [World.setRow], fun j hj => setRow_other w' g j cs (by omega)⟩

noncomputable def recPartition (xs : List UInt8) : Array Value := #[.int .u16 ((numV xs 0 2 : Nat) : Int), .string (nmS xs 2 4), .int .u64 ((numV xs 40 8 : Nat) : Int), .int .u64 ((numV xs 48 8 : Nat) : Int)]
set_option maxRecDepth 20000 in
set_option maxHeartbeats 1000000 in
theorem refGetPartition_any (B : Nat) (A : Option Addr) (c : Nat) (xs : List UInt8) (w : World) (hR : Rd w B A xs) (hB : B ≤ w.heap.size) (hc : xs.length ≤ c) (hn : c ≤ 9223372036854775807) (hl : 34 ≤ xs.length) :
    Calls Try.prog 37 #[.slice A xs.length c] w (RefOK (recPartition xs) w) := by
  have r0 := heap_alloc_new w (.cells #[.int .u16 0, .string ⟨#[]⟩, .int .u64 0, .int .u64 0] 45)
  have HR0 := Lib.hid (hR.alloc hB (.cells #[.int .u16 0, .string ⟨#[]⟩, .int .u64 0, .int .u64 0] 45))
  have HC := Lib.hid hc
  have HN := Lib.hid hn
  have HL := Lib.hid hl
  obtain ⟨n0, h0⟩ : ∃ n : Nat, n = numV xs 0 2 := ⟨_, rfl⟩
  obtain ⟨n1, h1⟩ : ∃ n : Nat, n = numV xs 40 8 := ⟨_, rfl⟩
  obtain ⟨n2, h2⟩ : ∃ n : Nat, n = numV xs 48 8 := ⟨_, rfl⟩
  obtain ⟨s, hs⟩ : ∃ s, s = nmS xs 2 4 := ⟨_, rfl⟩
  have l0 : n0 < 65536 := by rw [h0]; exact numV_lt xs 0 2
  have e0 : IntKind.u16.wrap (n0 : Int) = n0 := IntWalk.u16_in _ (by omega)
  have H0 := Lib.hid h0
  have H1 := Lib.hid h1
  have H2 := Lib.hid h2
  have HS := Lib.hid hs
  have HV := Lib.hid (show recPartition xs = #[.int .u16 (n0 : Int), .string s, .int .u64 (n1 : Int), .int .u64 (n2 : Int)] from by unfold recPartition; rw [h0, h1, h2, hs])
  have R0 := Lib.hid r0
  have hz0 : (w.alloc (.cells #[.int .u16 0, .string ⟨#[]⟩, .int .u64 0, .int .u64 0] 45)).heap.size = w.heap.size + 1 := by simp
  have B0 := Lib.hid ((Below.refl w.heap.size w).alloc (Nat.le_refl _) (.cells #[.int .u16 0, .string ⟨#[]⟩, .int .u64 0, .int .u64 0] 45))
  clear hR hc hn h0 h1 h2 hs r0 hl
  rw [HV.out]
  go_enter Try.func37, Try.ntmps37
  go_upto_region 1 with fail
  generalize w.alloc (.cells #[.int .u16 0, .string ⟨#[]⟩, .int .u64 0, .int .u64 0] 45) = w0 at *
  generalize hb : w.heap.size = b at *
  have HB := Lib.hid hb
  clear hb
  go_wp2_with fail
  refine (refName_any B A c xs 2 4 w0 HR0.out (by omega) HC.out HN.out (by have := HL.out; omega) (by have := HL.out; omega)).mono ?_
  rintro e w1 ⟨rfl, hb1⟩
  rw [show unpS (part xs 4 30) ((xs.getD 2 0).toNat : Int) = s from HS.out.symm]
  have R1 := Lib.hid ((hb1.block b (by omega)).trans R0.out)
  have X1 := Lib.hid (HR0.out.after (by omega) hb1)
  have B1 := Lib.hid (B0.out.trans (hb1.mono (by omega)))
  clear hb1 R0 HR0 B0
  go_wp2_with fail
  refine (refAt_any B A c xs 0 2 _ X1.out HC.out HN.out (by omega) (by omega)).mono ?_
  rintro e w' ⟨rfl, rfl⟩
  rw [← H0.out]
  go_wp2_with fail
  refine (refAt_any B A c xs 40 8 _ X1.out HC.out HN.out (by omega) (by omega)).mono ?_
  rintro e w' ⟨rfl, rfl⟩
  rw [← H1.out]
  go_wp2_with fail
  refine (refAt_any B A c xs 48 8 _ X1.out HC.out HN.out (by omega) (by omega)).mono ?_
  rintro e w' ⟨rfl, rfl⟩
  rw [← H2.out]
  go_wp2_with (refine wpList_store_rowTo rfl 45 (.tmp 2) (.tmp 18) rfl rfl b #[.int .u16 (n0 : Int), .string s, .int .u64 (n1 : Int), .int .u64 (n2 : Int)] rfl rfl 45 _ R1.out (by kernel_rfl) rfl (by simp [Value.oneCell']) ?_)
  refine bodyPost_ret (v := .agg _) (results_one rfl _ b _ _ (0, 0) _ rfl (setRow_heap _ b _ _ _ (0, 0) R1.out) Try.underlying45 rfl (by kernel_rfl)) rfl ⟨rfl, by rw [HB.out]; exact setRow_below B1.out (Nat.le_refl _) _⟩

def recRegion (xs : List UInt8) : Array Value := #[.int .u64 ((numV xs 0 8 : Nat) : Int), .int .u64 ((numV xs 8 8 : Nat) : Int), .int .u16 ((numV xs 16 2 : Nat) : Int), .int .u8 ((xs.getD 18 0).toNat : Int), .bool (((xs.getD 19 0).toNat : Int) == 1)]
set_option maxRecDepth 100000 in
set_option maxHeartbeats 400000 in
theorem refGetRegion_any (B : Nat) (A : Option Addr) (c : Nat) (xs : List UInt8) (w : World) (hR : Rd w B A xs) (hB : B ≤ w.heap.size) (hc : xs.length ≤ c) (hn : c ≤ 9223372036854775807) (hl : xs.length = 24) :
    Calls Try.prog 39 #[.slice A xs.length c] w (RefOK (recRegion xs) w) := by
  obtain ⟨bb, o, cn, hA, hbb, hcell, hcn, HCN⟩ := hR.byte (k := 18) (by omega)
  obtain ⟨bb', o', dn, hA', _, hcell', hdn, HDN⟩ := hR.byte (k := 19) (by omega)
  subst hA
  obtain ⟨rfl, rfl⟩ : bb = bb' ∧ o = o' := by injection hA' with h; injection h with h1 h2; exact ⟨h1, h2⟩
  have hb0 := (Below.refl w.heap.size w).alloc (Nat.le_refl _) (.cells #[.int .u64 0, .int .u64 0, .int .u16 0, .int .u8 0, .bool false] 50)
  have R0 := Lib.hid (heap_alloc_new w (.cells #[.int .u64 0, .int .u64 0, .int .u16 0, .int .u8 0, .bool false] 50))
  have hS0 : (w.alloc (.cells #[.int .u64 0, .int .u64 0, .int .u16 0, .int .u8 0, .bool false] 50)).cell? ⟨bb, o + 18, none⟩ = some (.int .u8 (cn : Int)) ∧ (w.alloc (.cells #[.int .u64 0, .int .u64 0, .int .u16 0, .int .u8 0, .bool false] 50)).cell? ⟨bb, o + 19, none⟩ = some (.int .u8 (dn : Int)) ∧ Rd (w.alloc (.cells #[.int .u64 0, .int .u64 0, .int .u16 0, .int .u8 0, .bool false] 50)) B (some ⟨bb, o, none⟩) xs :=
    ⟨(hb0.cell (p := ⟨bb, o + 18, none⟩) (by show bb < _; omega)).trans hcell, (hb0.cell (p := ⟨bb, o + 19, none⟩) (by show bb < _; omega)).trans hcell', hR.alloc hB _⟩
  have HC := Lib.hid hc
  have HN := Lib.hid hn
  obtain ⟨n0, h0⟩ : ∃ n : Nat, n = numV xs 0 8 := ⟨_, rfl⟩
  obtain ⟨n1, h1⟩ : ∃ n : Nat, n = numV xs 8 8 := ⟨_, rfl⟩
  obtain ⟨n2, h2⟩ : ∃ n : Nat, n = numV xs 16 2 := ⟨_, rfl⟩
  have l0 : n2 < 65536 := by rw [h2]; exact numV_lt xs 16 2
  have e0 : IntKind.u16.wrap (n2 : Int) = n2 := IntWalk.u16_in _ (by omega)
  have H0 := Lib.hid h0
  have H1 := Lib.hid h1
  have H2 := Lib.hid h2
  have HV := Lib.hid (show recRegion xs = #[.int .u64 (n0 : Int), .int .u64 (n1 : Int), .int .u16 (n2 : Int), .int .u8 (cn : Int), .bool ((dn : Int) == 1)] from by unfold recRegion; rw [h0, h1, h2, HCN.out, HDN.out])
  have hz0 : (w.alloc (.cells #[.int .u64 0, .int .u64 0, .int .u16 0, .int .u8 0, .bool false] 50)).heap.size = w.heap.size + 1 := by simp
  have B0 := Lib.hid hb0
  have hi1 : (18 : Int) < xs.length := by omega
  have hi2 : (19 : Int) < xs.length := by omega
  clear hR hc hn h0 h1 h2 hcell hcell' hA' hb0 HCN HDN hl
  rw [HV.out]
  have HS0 := Lib.hid hS0
  clear hS0
  go_enter Try.func39, Try.ntmps39
  go_upto_region 1 with fail
  generalize w.alloc (.cells #[.int .u64 0, .int .u64 0, .int .u16 0, .int .u8 0, .bool false] 50) = w0 at *
  generalize hb : w.heap.size = b at *
  have HB := Lib.hid hb
  clear hb
  have hS : w0.drew.cell? ⟨bb, o + 18, none⟩ = some (.int .u8 (cn : Int)) ∧ w0.drew.cell? ⟨bb, o + 19, none⟩ = some (.int .u8 (dn : Int)) ∧ Rd w0.drew B (some ⟨bb, o, none⟩) xs := HS0.out
  have R1 := Lib.hid (show w0.drew.heap[b]? = some (.cells #[.int .u64 0, .int .u64 0, .int .u16 0, .int .u8 0, .bool false] 50 (0, 0)) from R0.out)
  have B1 := Lib.hid (show Below b w w0.drew from ⟨B0.out.os, B0.out.tape, B0.out.output, B0.out.size, B0.out.block⟩)
  clear HS0 R0 B0
  refine wp_region_Z (fun u => u.cell? ⟨bb, o + 18, none⟩ = some (.int .u8 (cn : Int)) ∧ u.cell? ⟨bb, o + 19, none⟩ = some (.int .u8 (dn : Int)) ∧ Rd u B (some ⟨bb, o, none⟩) xs) 100 (by kernel_rfl) ?_
  generalize w0.drew = w1 at *
  refine anyZ_take 0 (.slice (some ⟨bb, o, none⟩) xs.length c) rfl (by kernel_rfl) (by kernel_rfl) (by kernel_rfl) (by kernel_rfl) (fun _ _ _ h => h) (by rfl) hS (fun w' hSw => by obtain ⟨hc1, hc2, _⟩ := hSw; go_simp) ?_
  refine anyZ_take 2 (.slice (some ⟨bb, o, none⟩) xs.length c) rfl (by kernel_rfl) (by kernel_rfl) (by kernel_rfl) (by kernel_rfl) (fun _ _ _ h => h) (by rfl) hS (fun w' hSw => by obtain ⟨hc1, hc2, _⟩ := hSw; go_simp) ?_
  refine anyZ_take 4 (.slice (some ⟨bb, o, none⟩) xs.length c) rfl (by kernel_rfl) (by kernel_rfl) (by kernel_rfl) (by kernel_rfl) (fun _ _ _ h => h) (by rfl) hS (fun w' hSw => by obtain ⟨hc1, hc2, _⟩ := hSw; go_simp) ?_
  refine anyZ_take 7 (.slice (some ⟨bb, o, none⟩) xs.length c) rfl (by kernel_rfl) (by kernel_rfl) (by kernel_rfl) (by kernel_rfl) (fun _ _ _ h => h) (by rfl) hS (fun w' hSw => by obtain ⟨hc1, hc2, _⟩ := hSw; go_simp) ?_
  refine anyZ_take 8 (.pointer (some ⟨bb, o + 18, none⟩)) rfl (by kernel_rfl) (by kernel_rfl) (by kernel_rfl) (by kernel_rfl) (fun _ _ _ h => h) (by rfl) hS (fun w' hSw => by obtain ⟨hc1, hc2, _⟩ := hSw; go_simp) ?_
  refine anyZ_take 9 (.int .u8 (cn : Int)) rfl (by kernel_rfl) (by kernel_rfl) (by kernel_rfl) (by kernel_rfl) (fun _ _ _ h => h) (by rfl) hS (fun w' hSw => by obtain ⟨hc1, hc2, _⟩ := hSw; go_simp) ?_
  refine anyZ_take 10 (.slice (some ⟨bb, o, none⟩) xs.length c) rfl (by kernel_rfl) (by kernel_rfl) (by kernel_rfl) (by kernel_rfl) (fun _ _ _ h => h) (by rfl) hS (fun w' hSw => by obtain ⟨hc1, hc2, _⟩ := hSw; go_simp) ?_
  refine anyZ_take 11 (.pointer (some ⟨bb, o + 19, none⟩)) rfl (by kernel_rfl) (by kernel_rfl) (by kernel_rfl) (by kernel_rfl) (fun _ _ _ h => h) (by rfl) hS (fun w' hSw => by obtain ⟨hc1, hc2, _⟩ := hSw; go_simp) ?_
  refine anyZ_take 12 (.int .u8 (dn : Int)) rfl (by kernel_rfl) (by kernel_rfl) (by kernel_rfl) (by kernel_rfl) (fun _ _ _ h => h) (by rfl) hS (fun w' hSw => by obtain ⟨hc1, hc2, _⟩ := hSw; go_simp) ?_
  refine anyZ_take 13 (.bool ((dn : Int) == 1)) rfl (by kernel_rfl) (by kernel_rfl) (by kernel_rfl) (by kernel_rfl) (fun _ _ _ h => h) (by rfl) hS (fun w' hSw => by obtain ⟨hc1, hc2, _⟩ := hSw; go_simp) ?_
  refine anyZ_next 1 rfl (by kernel_rfl) (fun K hK => ?_)
  rw [if_pos (by rfl)]
  go_simp
  refine (refAt_any B _ c xs 0 8 _ hS.2.2 HC.out HN.out (by omega) (by omega)).mono ?_
  rintro e w' ⟨rfl, rfl⟩
  rw [← H0.out]
  go_simp
  refine hK _ _ (fun _ => hS) ?_
  clear hK K
  refine anyZ_next 3 rfl (by kernel_rfl) (fun K hK => ?_)
  rw [if_pos (by rfl)]
  go_simp
  refine (refAt_any B _ c xs 8 8 _ hS.2.2 HC.out HN.out (by omega) (by omega)).mono ?_
  rintro e w' ⟨rfl, rfl⟩
  rw [← H1.out]
  go_simp
  refine hK _ _ (fun _ => hS) ?_
  clear hK K
  refine anyZ_next 5 rfl (by kernel_rfl) (fun K hK => ?_)
  rw [if_pos (by rfl)]
  go_simp
  refine (refAt_any B _ c xs 16 2 _ hS.2.2 HC.out HN.out (by omega) (by omega)).mono ?_
  rintro e w' ⟨rfl, rfl⟩
  rw [← H2.out]
  go_simp
  refine hK _ _ (fun _ => hS) ?_
  clear hK K
  refine anyZ_take 6 (.int .u16 (n2 : Int)) rfl (by kernel_rfl) (by kernel_rfl) (by kernel_rfl) (by kernel_rfl) (fun _ _ _ h => h) (by rfl) hS (fun w' hSw => by obtain ⟨hc1, hc2, _⟩ := hSw; go_simp) ?_
  refine anyZ_take 14 (.agg #[.int .u64 (n0 : Int), .int .u64 (n1 : Int), .int .u16 (n2 : Int), .int .u8 (cn : Int), .bool ((dn : Int) == 1)]) rfl (by kernel_rfl) (by kernel_rfl) (by kernel_rfl) (by kernel_rfl) (fun _ _ _ h => h) (by rfl) hS (fun w' hSw => by obtain ⟨hc1, hc2, _⟩ := hSw; go_simp) ?_
  refine anyZ_next 15 rfl (by kernel_rfl) (fun K hK => ?_)
  rw [if_pos (by rfl)]
  refine wp_put_row 50 (.tmp 2) (.tmp 17) rfl b #[.int .u64 (n0 : Int), .int .u64 (n1 : Int), .int .u16 (n2 : Int), .int .u8 (cn : Int), .bool ((dn : Int) == 1)] rfl rfl 50 _ R1.out (by kernel_rfl) rfl (by simp [Value.oneCell']) ?_
  refine hK _ _ (fun _ => ⟨(World.cell?_of_block (setRow_other _ b bb _ (by omega))).trans hS.1, (World.cell?_of_block (setRow_other _ b bb _ (by omega))).trans hS.2.1, hS.2.2.keep fun p hp => World.cell?_of_block (setRow_other _ b p.block _ (by omega))⟩) ?_
  clear hK K
  refine anyZ_done (by kernel_rfl) ?_ _
  go_wp2
  refine bodyPost_ret (v := .agg _) (results_one rfl _ b _ _ (0, 0) _ rfl (setRow_heap _ b _ _ _ (0, 0) R1.out) Try.underlying50 rfl (by kernel_rfl)) rfl ⟨rfl, by rw [HB.out]; exact setRow_below B1.out (Nat.le_refl _) _⟩
end Go.Proofs.Ytpeajffnhmmaeaa
