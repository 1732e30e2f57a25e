/-
  Rds1 Rds2 Rds3, merged.
-/
import Derived.Test.YtpeajffnhmmaeaaName6
import Derived.Test.YtpeajffnhmmaeaaHeldZ
namespace Go.Proofs.Ytpeajffnhmmaeaa
set_option linter.unusedVariables false
open Go.RowKit

theorem refAt_any (B : Nat) (A : Option Addr) (c : Nat) (xs : List UInt8) (a m : Int) (w : World) (hR : Rd w B A xs) (hc : xs.length ≤ c) (hn : c ≤ 9223372036854775807)
    (ha : -9223372036854775808 ≤ a ∧ a ≤ 9223372036854775807) (hm : 0 ≤ m ∧ m ≤ 8) :
    Calls Try.prog 71 #[.slice A xs.length c, .int .i64 a, .int .i64 m] w fun e w' => e = .returned (.int .u64 ((numV xs a m : Nat) : Int)) ∧ w = w' := by
  have H := Lib.hid (refNumber_any B A c xs a m w hR hc hn ha hm)
  clear hR hc hn ha hm
  go_enter Try.func71, Try.ntmps71
  go_wp2_with fail
  refine H.out.mono ?_
  rintro e w' ⟨rfl, rfl⟩
  go_wp2_with fail
  go_ret
  exact ⟨rfl, rfl⟩

theorem unpP_iff {l : List UInt8} {k : Nat} (hl : l.length = 30) (hk : k ≤ 30) : unpP l k ↔ vldP (strB (l.take k)) ∧ ∀ j, k ≤ j → j < 30 → l.getD j 0 = 0 := by
  unfold unpP
  constructor
  · rintro ⟨h1, h2⟩
    refine ⟨h1, fun j hj1 hj2 => ?_⟩
    have e : (l.take k).length = k := by simp; omega
    rw [h2]
    simp only [List.getD, List.getElem?_append_right (show (l.take k).length ≤ j by omega), e]
    rw [List.getElem?_replicate, if_pos (by omega)]
    rfl
  · rintro ⟨h1, h2⟩
    refine ⟨h1, ?_⟩
    apply List.ext_getElem
    · simp; omega
    · intro j g1 g2
      by_cases h : j < k
      · rw [List.getElem_append_left (by simp; omega)]
        simp
      · rw [List.getElem_append_right (by simp; omega)]
        have := h2 j (by omega) (by omega)
        simp [List.getD, g1] at this
        simp [this]

set_option maxRecDepth 100000 in
set_option maxHeartbeats 1000000 in
theorem refUnpad_out (l : List UInt8) (n : Int) (w : World) (h : n < 0 ∨ 30 < n) : Calls Try.prog 93 #[.agg (bvA l), .int .i64 n] w (UnpOK w (unpS l n) (unpB l n)) := by
  obtain ⟨e1, e2⟩ := unp_no (l := l) (n := n) (by omega)
  rw [e1, e2]
  clear e1 e2
  generalize bvA l = cs
  by_cases h0 : n < 0
  · have d0 : decide (n < 0) = true := decide_eq_true h0
    go_enter Try.func93, Try.ntmps93
    go_wp2
    go_ret2
    exact ⟨rfl, (Below.refl _ w).alloc (Nat.le_refl _) _⟩
  · have d0 : decide (n < 0) = false := decide_eq_false h0
    have d1 : decide (30 < n) = true := decide_eq_true (by omega)
    go_enter Try.func93, Try.ntmps93
    go_wp2
    go_ret2
    exact ⟨rfl, (Below.refl _ w).alloc (Nat.le_refl _) _⟩

set_option maxRecDepth 100000 in
set_option maxHeartbeats 2000000 in
theorem refUnpad_in (l : List UInt8) (k : Nat) (w : World) (hl : l.length = 30) (hk : k ≤ 30) : Calls Try.prog 93 #[.agg (bvA l), .int .i64 (k : Int)] w (UnpOK w (unpS l k) (unpB l k)) := by
  have hbox := heap_alloc_new w (.cells (bvA l) 133)
  have hbw : Below w.heap.size w (w.alloc (.cells (bvA l) 133)) := (Below.refl _ w).alloc (Nat.le_refl _) _
  have hcl : ∀ j, j < 30 → ∃ cn : Nat, (w.alloc (.cells (bvA l) 133)).cell? ⟨w.heap.size, j, none⟩ = some (.int .u8 (cn : Int)) ∧ Hid (cn = (l.getD j 0).toNat) := fun j hj => by
    refine ⟨(l.getD j 0).toNat, ?_, rfl⟩
    rw [cell_of_row _ _ j _ _ (0, 0) hbox]
    rw [show (bvA l)[j]? = (bvs l)[j]? from by simp [bvA]]
    exact bvs_get l j (by omega)
  have HCL := Lib.hid hcl
  clear hcl
  have HB := Lib.hid hbw
  have hlt : (l.take k).length = k := by simp; omega
  have hconv := conv_bytes (c := 30) hlt ((Rd.row hbox).take k)
  have d0 : decide ((k : Int) < 0) = false := decide_eq_false (by omega)
  have d1 : decide (30 < (k : Int)) = false := decide_eq_false (by omega)
  have HL := Lib.hid hl
  have HI := Lib.hid (unpP_iff (k := k) hl hk)
  have hss : (strB (l.take k)).size = k := by rw [strB_size, hlt]
  have HV := Lib.hid (fun w' => refValid_any (strB (l.take k)) w' (by omega))
  have HNO : Hid (¬ unpP l k → unpB l k = false ∧ unpS l k = ⟨#[]⟩) := fun h => unp_no (fun hh => h hh.2.2)
  have HYES : Hid (unpP l k → unpB l k = true ∧ unpS l k = strB (l.take k)) := fun h => unp_yes ⟨by omega, by omega, h⟩
  have hk2 : (k : Int) ≤ 30 := by omega
  clear hbox hbw hlt hss
  generalize hcs : bvA l = cs at *
  have HCS := Lib.hid hcs
  clear hcs
  go_enter Try.func93, Try.ntmps93
  go_wp2_with fail
  refine (HV.out _).mono ?_
  rintro e w' ⟨rfl, rfl⟩
  by_cases hv : vldP (strB (l.take k))
  case neg =>
    obtain ⟨e1, e2⟩ := HNO.out (fun h => hv (HI.out.1 h).1)
    rw [vldB_false hv]
    go_wp2
    go_ret2
    exact ⟨by first | (rw [e1, e2]; rfl) | rfl, HB.out⟩
  rw [vldB_true hv]
  have HVV := Lib.hid hv
  clear hv
  go_wp2_with fail
  go_loop [6] (fun i => ∃ j : Nat, k ≤ j ∧ j ≤ 30 ∧ i = .int .i64 (j : Int) ∧ Hid (∀ i, k ≤ i → i < j → l.getD i 0 = 0)) (fun i => 30 - (intOf i).toNat)
  case atStart => exact ⟨k, Nat.le_refl _, hk, rfl, fun i h1 h2 => by omega⟩
  case round =>
    obtain ⟨j, hj0, hj1, rfl, HZ⟩ := hrel
    by_cases hlt : j < 30
    · obtain ⟨cn, hcell, HCN⟩ := HCL.out j hlt
      by_cases h0 : cn = 0
      · subst h0
        go_wp2
        go_round
        case rel =>
          refine ⟨j + 1, by omega, by omega, by go_num, fun i h1 h2 => ?_⟩
          by_cases e : i = j
          · subst e; apply UInt8.toNat_inj.1; rw [← HCN.out]; rfl
          · exact HZ.out i h1 (by omega)
        case measure => simp [intOf]; omega
      · have hne : ((cn : Int) != 0) = true := by simp; omega
        obtain ⟨e1, e2⟩ := HNO.out (fun h => h0 (by rw [HCN.out, (HI.out.1 h).2 j hj0 hlt]; rfl))
        clear h0
        go_wp2
        go_ret2
        exact ⟨by first | (rw [e1, e2]; rfl) | rfl, HB.out⟩
    · obtain rfl : j = 30 := by omega
      obtain ⟨e1, e2⟩ := HYES.out (HI.out.2 ⟨HVV.out, HZ.out⟩)
      go_wp2
      go_ret2
      exact ⟨by first | (rw [e1, e2]; rfl) | rfl, HB.out⟩

theorem refUnpad_any (l : List UInt8) (n : Int) (w : World) (hl : l.length = 30) : Calls Try.prog 93 #[.agg (bvA l), .int .i64 n] w (UnpOK w (unpS l n) (unpB l n)) := by
  by_cases h : n < 0 ∨ 30 < n
  · exact refUnpad_out l n w h
  · obtain ⟨k, rfl⟩ : ∃ k : Nat, n = (k : Int) := ⟨n.toNat, by omega⟩
    exact refUnpad_in l k w hl (by omega)
end Go.Proofs.Ytpeajffnhmmaeaa
namespace Go.Proofs.Ytpeajffnhmmaeaa
set_option linter.unusedVariables false
open Go.RowKit

theorem info30 : (Try.prog.info? 133).map (·.size) = some 30 := by kernel_rfl
/-- 30 bytes, the first i of them copied -/
def cpy (p : List UInt8) (i : Nat) : List UInt8 := p.take i ++ List.replicate (30 - i) 0
theorem cpy_len {p : List UInt8} (hp : p.length = 30) {i : Nat} (hi : i ≤ 30) : (cpy p i).length = 30 := by unfold cpy; simp; omega
theorem cpy_all {p : List UInt8} (hp : p.length = 30) : cpy p 30 = p := by unfold cpy; rw [List.take_of_length_le (by omega)]; simp
theorem cpy_next {p : List UInt8} (hp : p.length = 30) {i : Nat} (hi : i < 30) : (bvA (cpy p i)).setIfInBounds i (bv (p.getD i 0)) = bvA (cpy p (i + 1)) := by
  apply Array.ext_getElem?
  intro j
  have e : ∀ k, k ≤ 30 → (bvA (cpy p k))[j]? = if j < 30 then some (bv (if j < k then p.getD j 0 else 0)) else none := by
    intro k hk
    rw [show (bvA (cpy p k))[j]? = (bvs (cpy p k))[j]? from by simp [bvA]]
    by_cases hj : j < 30
    · rw [if_pos hj, bvs_get _ _ (by rw [cpy_len hp hk]; exact hj)]
      congr 2
      unfold cpy
      by_cases hjk : j < k
      · rw [if_pos hjk]; simp [List.getD, List.getElem?_append_left (show j < (p.take k).length by simp; omega), hjk]
      · rw [if_neg hjk]; simp only [List.getD]; rw [List.getElem?_append_right (by simp; omega), List.getElem?_replicate]; split <;> rfl
    · rw [if_neg hj]
      exact List.getElem?_eq_none (by simp [bvs, cpy_len hp hk]; omega)
  rw [Array.getElem?_setIfInBounds, e i (by omega), e (i + 1) (by omega)]
  have hsz : (bvA (cpy p i)).size = 30 := by simp [bvA, bvs, cpy_len hp (show i ≤ 30 by omega)]
  by_cases hij : i = j
  · subst hij
    rw [if_pos rfl, if_pos (by omega), if_pos hi, if_pos (by omega)]
  · rw [if_neg hij]
    by_cases hj : j < 30
    · rw [if_pos hj, if_pos hj]
      congr 3
      exact propext (by omega)
    · rw [if_neg hj, if_neg hj]
theorem row_put {w : World} {q ty : Nat} {arr : Array Value} {s : Nat × Nat} (hq : w.heap[q]? = some (.cells arr ty s)) (i : Nat) (v : Value) : (w.setCell ⟨q, i, none⟩ v).heap[q]? = some (.cells (arr.setIfInBounds i v) ty s) := by
  simp [World.setCell, Array.getElem?_modify, hq]

set_option maxRecDepth 100000 in
set_option maxHeartbeats 4000000 in
theorem refName_any (B : Nat) (A : Option Addr) (c : Nat) (xs : List UInt8) (ln off : Nat) (w : World) (hR : Rd w B A xs) (hB : B ≤ w.heap.size) (hc : xs.length ≤ c) (hn : c ≤ 9223372036854775807) (h1 : off + 30 ≤ xs.length) (h2 : ln < xs.length) :
    Calls Try.prog 70 #[.slice A xs.length c, .int .i64 (ln : Int), .int .i64 (off : Int)] w (UnpOK w (unpS (part xs off 30) ((xs.getD ln 0).toNat : Int)) (unpB (part xs off 30) ((xs.getD ln 0).toNat : Int))) := by
  have hp : (part xs off 30).length = 30 := part_length h1
  obtain ⟨p, hpp⟩ : ∃ p, p = part xs off 30 := ⟨_, rfl⟩
  rw [← hpp] at hp ⊢
  have HPE : Hid (∀ j, j < 30 → p.getD j 0 = xs.getD (off + j) 0) := fun j hj => by rw [hpp]; unfold part; rw [getD_take _ _ _ hj, getD_drop]
  have r0 := heap_alloc_new w (.cells (bvA (cpy p 0)) 133)
  have R0 := Lib.hid r0
  have B0 := Lib.hid ((Below.refl w.heap.size w).alloc (Nat.le_refl _) (.cells (bvA (cpy p 0)) 133))
  have X0 := Lib.hid (hR.alloc hB (.cells (bvA (cpy p 0)) 133))
  have HPL := Lib.hid hp
  clear hR r0 hpp hp
  go_enter Try.func70, Try.ntmps70
  go_upto_region 2 with fail
  show Code.wp _ _ _ _ (w.alloc (.cells (bvA (cpy p 0)) 133))
  have hz0 : (w.alloc (.cells (bvA (cpy p 0)) 133)).heap.size = w.heap.size + 1 := by simp
  generalize w.alloc (.cells (bvA (cpy p 0)) 133) = w0 at *
  generalize hb : w.heap.size = b at *
  have HB := Lib.hid hb
  have HZ0 := Lib.hid hz0
  clear hb hz0
  go_wp2_with fail
  go_loopw [9] (fun i wr => ∃ k : Nat, k ≤ 30 ∧ i = .int .i64 (k : Int) ∧ wr.heap[b]? = some (.cells (bvA (cpy p k)) 133 (0, 0)) ∧ Below b w wr ∧ Rd wr B A xs ∧ b + 1 ≤ wr.heap.size) (fun i _ => 30 - (intOf i).toNat)
  case atStart => exact ⟨0, by omega, rfl, R0.out, B0.out, X0.out, by have := HZ0.out; omega⟩
  case round =>
    obtain ⟨k, hk, rfl, hr, hbel, hX, hsz⟩ := hrel
    have R1 := Lib.hid hr
    have B1 := Lib.hid hbel
    have X1 := Lib.hid hX
    by_cases hlt : k < 30
    · obtain ⟨bb, o, cn, hA, hbb, hcell, hcn, HCN⟩ := hX.byte (k := off + k) (by omega)
      subst hA
      have hold : wr.cell? ⟨b, k, none⟩ = some (bv ((cpy p k).getD k 0)) := by
        rw [cell_of_row wr b k _ _ (0, 0) hr, show (bvA (cpy p k))[k]? = (bvs (cpy p k))[k]? from by simp [bvA]]
        exact bvs_get _ _ (by rw [cpy_len HPL.out hk]; exact hlt)
      have hfz : wr.frozen? ⟨b, k, none⟩ = false := by simp [World.frozen?, hr]
      have hk30 : (k : Int) < 30 := by omega
      have e1 : IntKind.i64.wrap ((off : Int) + k) = ((off + k : Nat) : Int) := by rw [IntWalk.i64_in _ (by omega)]; omega
      have hnx := row_put hr k (.int .u8 (cn : Int))
      rw [show (Value.int .u8 (cn : Int)) = bv (p.getD k 0) from by rw [HPE.out k hlt]; show _ = Value.int .u8 _; rw [HCN.out], cpy_next HPL.out hlt] at hnx
      have HNX := Lib.hid hnx
      clear hr hbel hX hnx
      go_wp2
      go_roundw
      case rel =>
        refine ⟨k + 1, by omega, by go_num, ?_, B1.out.setCell (p := ⟨b, k, none⟩) (Nat.le_refl _) _, X1.out.setCell (p := ⟨b, k, none⟩) hB _, by simp; omega⟩
        have h := HNX.out
        rwa [show bv (p.getD k 0) = Value.int .u8 (cn : Int) from by rw [HPE.out k hlt]; show Value.int .u8 _ = _; rw [HCN.out]] at h
      case measure => simp [intOf]; omega
    · obtain rfl : k = 30 := by omega
      obtain ⟨bb, o, cn, hA, hbb, hcell, hcn, HCN⟩ := hX.byte (k := ln) h2
      subst hA
      rw [cpy_all HPL.out] at hr
      have hln : (ln : Int) < xs.length := by omega
      have e3 : IntKind.i64.wrap (cn : Int) = cn := IntWalk.i64_in _ (by omega)
      have HU := Lib.hid (fun w' => refUnpad_any p (cn : Int) w' HPL.out)
      have HU2 := Lib.hid (show ((xs.getD ln 0).toNat : Int) = (cn : Int) from by rw [HCN.out])
      clear R1 X1 hbel hX hlt hk HCN
      go_upto_region 6 with fail
      have hS : wr.drew.heap[b]? = some (.cells (bvA p) 133 (0, 0)) ∧ wr.drew.cell? ⟨bb, o + ln, none⟩ = some (.int .u8 (cn : Int)) := ⟨hr, hcell⟩
      have B2 := Lib.hid (show Below b w wr.drew from ⟨B1.out.os, B1.out.tape, B1.out.output, B1.out.size, B1.out.block⟩)
      have hsz2 : b + 1 ≤ wr.drew.heap.size := hsz
      clear hr hcell B1 hsz
      refine wp_region_Z (fun u => u.heap[b]? = some (.cells (bvA p) 133 (0, 0)) ∧ u.cell? ⟨bb, o + ln, none⟩ = some (.int .u8 (cn : Int))) 100 (by kernel_rfl) ?_
      generalize wr.drew = w3 at *
      have hi30 : (Try.prog.info? 133).map (·.size) = some (bvA p).size := by rw [show (bvA p).size = 30 from by simp [bvA, bvs, HPL.out]]; exact info30
      refine anyZ_take 0 (.agg (bvA p)) rfl (by kernel_rfl) (by kernel_rfl) (by kernel_rfl) (by kernel_rfl) (fun _ _ _ h => h) (by rfl) hS ?x7 ?x8
      case x7 => exact (fun w' hw' => exec_load_row 133 (.tmp 8) rfl b rfl 133 (bvA p) (0, 0) _ w' hw'.1 Try.underlying133 rfl hi30)
      refine anyZ_take 1 (.slice (some ⟨bb, o, none⟩) xs.length c) rfl (by kernel_rfl) (by kernel_rfl) (by kernel_rfl) (by kernel_rfl) (fun _ _ _ h => h) (by rfl) hS (fun w' hSw => by obtain ⟨_, hc1⟩ := hSw; go_simp) ?_
      refine anyZ_take 2 (.int .i64 (ln : Int)) rfl (by kernel_rfl) (by kernel_rfl) (by kernel_rfl) (by kernel_rfl) (fun _ _ _ h => h) (by rfl) hS (fun w' hSw => by obtain ⟨_, hc1⟩ := hSw; go_simp) ?_
      refine anyZ_take 3 (.pointer (some ⟨bb, o + ln, none⟩)) rfl (by kernel_rfl) (by kernel_rfl) (by kernel_rfl) (by kernel_rfl) (fun _ _ _ h => h) (by rfl) hS (fun w' hSw => by obtain ⟨_, hc1⟩ := hSw; go_simp) ?_
      refine anyZ_take 4 (.int .u8 (cn : Int)) rfl (by kernel_rfl) (by kernel_rfl) (by kernel_rfl) (by kernel_rfl) (fun _ _ _ h => h) (by rfl) hS (fun w' hSw => by obtain ⟨_, hc1⟩ := hSw; go_simp) ?_
      refine anyZ_take 5 (.int .i64 (cn : Int)) rfl (by kernel_rfl) (by kernel_rfl) (by kernel_rfl) (by kernel_rfl) (fun _ _ _ h => h) (by rfl) hS (fun w' hSw => by obtain ⟨_, hc1⟩ := hSw; go_simp) ?_
      refine anyZ_next 6 rfl (by kernel_rfl) (fun K hK => ?_)
      rw [if_pos (by rfl)]
      go_simp
      refine (HU.out _).mono ?_
      rintro e w4 ⟨rfl, hb4⟩
      have hS4 : w4.heap[b]? = some (.cells (bvA p) 133 (0, 0)) ∧ w4.cell? ⟨bb, o + ln, none⟩ = some (.int .u8 (cn : Int)) := ⟨(hb4.block b (by omega)).trans hS.1, (hb4.cell (p := ⟨bb, o + ln, none⟩) (by show bb < _; omega)).trans hS.2⟩
      have B4 := Lib.hid (B2.out.trans (hb4.mono (by omega)))
      clear hb4 hS
      go_simp
      refine hK _ _ (fun _ => hS4) ?_
      clear hK K
      refine anyZ_take 7 (.string (unpS p (cn : Int))) rfl (by kernel_rfl) (by kernel_rfl) (by kernel_rfl) (by kernel_rfl) (fun _ _ _ h => h) (by rfl) hS4 (fun w' _ => by go_simp) ?_
      refine anyZ_take 8 (.bool (unpB p (cn : Int))) rfl (by kernel_rfl) (by kernel_rfl) (by kernel_rfl) (by kernel_rfl) (fun _ _ _ h => h) (by rfl) hS4 (fun w' _ => by go_simp) ?_
      refine anyZ_take 9 (.string (unpS p (cn : Int))) rfl (by kernel_rfl) (by kernel_rfl) (by kernel_rfl) (by kernel_rfl) (fun _ _ _ h => h) (by rfl) hS4 (fun w' _ => by go_simp) ?_
      refine anyZ_take 10 (.bool (unpB p (cn : Int))) rfl (by kernel_rfl) (by kernel_rfl) (by kernel_rfl) (by kernel_rfl) (fun _ _ _ h => h) (by rfl) hS4 (fun w' _ => by go_simp) ?_
      refine anyZ_done (by kernel_rfl) ?_ _
      go_wp2
      go_ret2
      refine ⟨?_, by rw [HB.out]; exact B4.out⟩
      rw [HU2.out]
      rfl
end Go.Proofs.Ytpeajffnhmmaeaa
namespace Go.Proofs.Ytpeajffnhmmaeaa
set_option linter.unusedVariables false
open Go.RowKit

/-- a name's length and its 30 bytes -/
noncomputable def nmB (xs : List UInt8) (ln off : Nat) : Bool := unpB (part xs off 30) ((xs.getD ln 0).toNat : Int)
noncomputable def nmS (xs : List UInt8) (ln off : Nat) : ByteArray := unpS (part xs off 30) ((xs.getD ln 0).toNat : Int)
/-- the first field without a value of its range, or -1 -/
noncomputable def fldV : Nat → List UInt8 → Int
  | 1, xs => if nmB xs 2 4 = true then -1 else 2
  | 3, xs => if 7 < (xs.getD 18 0).toNat then 18 else if 1 < (xs.getD 19 0).toNat then 19 else -1
  | 4, xs => if nmB xs 4 12 = true then (if 3 < (xs.getD 5 0).toNat then 5 else -1) else 4
  | _, _ => -1
def szR : Nat → Nat
  | 1 => 56
  | 2 => 24
  | 3 => 24
  | 4 => 48
  | 5 => 8
  | 6 => 8
  | _ => 0
def padR : Nat → List (Nat × Nat)
  | 1 => [(3, 4), (34, 40)]
  | 2 => [(18, 24)]
  | 3 => [(20, 24)]
  | 4 => [(6, 8), (42, 48)]
  | 5 => [(6, 8)]
  | _ => [(4, 8)]

set_option maxRecDepth 100000 in
set_option maxHeartbeats 2000000 in
theorem field_any (B : Nat) (A : Option Addr) (c s : Nat) (xs : List UInt8) (w : World) (hR : Rd w B A xs) (hB : B ≤ w.heap.size) (hc : xs.length ≤ c) (hn : c ≤ 9223372036854775807) (h1 : 1 ≤ s) (h6 : s ≤ 6) (hl : xs.length = szR s) :
    Calls Try.prog 91 #[.int .i64 (s : Int), .slice A xs.length c] w fun e w' => e = .returned (.int .i64 (fldV s xs)) ∧ Below w.heap.size w w' := by
  have hs : s = 1 ∨ s = 2 ∨ s = 3 ∨ s = 4 ∨ s = 5 ∨ s = 6 := by omega
  rcases hs with rfl | rfl | rfl | rfl | rfl | rfl
  · have hl2 : xs.length = 56 := hl
    have HN := Lib.hid (refName_any B A c xs 2 4 w hR hB hc hn (by omega) (by omega))
    have hE := Lib.hid (show fldV 1 xs = if nmB xs 2 4 = true then -1 else 2 from rfl)
    rw [show unpB (part xs 4 30) ((xs.getD 2 0).toNat : Int) = nmB xs 2 4 from rfl] at HN
    generalize fldV 1 xs = f at *
    generalize nmB xs 2 4 = b at *
    clear hR hl hl2
    go_enter Try.func91, Try.ntmps91
    go_wp2_with fail
    refine HN.out.mono ?_
    rintro e w' ⟨rfl, hb⟩
    cases b with
    | true =>
      go_wp2
      go_ret
      exact ⟨by rw [hE.out]; rfl, hb⟩
    | false =>
      go_wp2
      go_ret
      exact ⟨by rw [hE.out]; rfl, hb⟩
  · go_enter Try.func91, Try.ntmps91
    go_wp2
    go_ret
    exact ⟨rfl, Below.refl _ _⟩
  · have hl2 : xs.length = 24 := hl
    obtain ⟨bb, o, cn, hA, hbb, hcell, hcn, HCN⟩ := hR.byte (k := 18) (by omega)
    obtain ⟨bb', o', dn, hA', _, hcell', hdn, HDN⟩ := hR.byte (k := 19) (by omega)
    subst hA
    obtain ⟨rfl, rfl⟩ : bb = bb' ∧ o = o' := by injection hA' with h; injection h with h1 h2; exact ⟨h1, h2⟩
    have hE := Lib.hid (show fldV 3 xs = if 7 < (xs.getD 18 0).toNat then 18 else if 1 < (xs.getD 19 0).toNat then 19 else -1 from rfl)
    rw [← HCN.out, ← HDN.out] at hE
    generalize fldV 3 xs = f at *
    have hi1 : (18 : Int) < xs.length := by omega
    have hi2 : (19 : Int) < xs.length := by omega
    clear hR hl hl2 hA'
    by_cases c1 : 7 < cn
    · have d1 : decide (7 < (cn : Int)) = true := decide_eq_true (by omega)
      have hF := Lib.hid (hE.out.trans (if_pos c1))
      go_enter Try.func91, Try.ntmps91
      go_wp2
      go_ret
      exact ⟨by rw [hF.out]; rfl, Below.refl _ _⟩
    · have d1 : decide (7 < (cn : Int)) = false := decide_eq_false (by omega)
      by_cases c2 : 1 < dn
      · have d2 : decide (1 < (dn : Int)) = true := decide_eq_true (by omega)
        have hF := Lib.hid (hE.out.trans ((if_neg c1).trans (if_pos c2)))
        go_enter Try.func91, Try.ntmps91
        go_wp2
        go_ret
        exact ⟨by rw [hF.out]; rfl, Below.refl _ _⟩
      · have d2 : decide (1 < (dn : Int)) = false := decide_eq_false (by omega)
        have hF := Lib.hid (hE.out.trans ((if_neg c1).trans (if_neg c2)))
        go_enter Try.func91, Try.ntmps91
        go_wp2
        go_ret
        exact ⟨by rw [hF.out]; rfl, Below.refl _ _⟩
  · have hl2 : xs.length = 48 := hl
    have HN := Lib.hid (refName_any B A c xs 4 12 w hR hB hc hn (by omega) (by omega))
    have hE := Lib.hid (show fldV 4 xs = if nmB xs 4 12 = true then (if 3 < (xs.getD 5 0).toNat then 5 else -1) else 4 from rfl)
    rw [show unpB (part xs 12 30) ((xs.getD 4 0).toNat : Int) = nmB xs 4 12 from rfl] at HN
    obtain ⟨bb, o, cn, hA, hbb, hcell, hcn, HCN⟩ := hR.byte (k := 5) (by omega)
    subst hA
    rw [← HCN.out] at hE
    generalize fldV 4 xs = f at *
    generalize nmB xs 4 12 = b at *
    have hi1 : (5 : Int) < xs.length := by omega
    clear hR hl hl2
    have hlt : bb < w.heap.size := by omega
    go_enter Try.func91, Try.ntmps91
    go_wp2_with fail
    refine HN.out.mono ?_
    rintro e w' ⟨rfl, hb⟩
    have hcell2 := (hb.cell (p := ⟨bb, o + 5, none⟩) (by show bb < _; omega)).trans hcell
    cases b with
    | false =>
      go_wp2
      go_ret
      exact ⟨by rw [hE.out]; rfl, hb⟩
    | true =>
      by_cases c1 : 3 < cn
      · have d1 : decide (3 < (cn : Int)) = true := decide_eq_true (by omega)
        have hF := Lib.hid (hE.out.trans ((if_pos rfl).trans (if_pos c1)))
        go_wp2
        go_ret
        exact ⟨by rw [hF.out]; rfl, hb⟩
      · have d1 : decide (3 < (cn : Int)) = false := decide_eq_false (by omega)
        have hF := Lib.hid (hE.out.trans ((if_pos rfl).trans (if_neg c1)))
        go_wp2
        go_ret
        exact ⟨by rw [hF.out]; rfl, hb⟩
  · go_enter Try.func91, Try.ntmps91
    go_wp2
    go_ret
    exact ⟨rfl, Below.refl _ _⟩
  · go_enter Try.func91, Try.ntmps91
    go_wp2
    go_ret
    exact ⟨rfl, Below.refl _ _⟩

/-- pairs of numbers in a row of their own -/
def PRow (w : World) (g : Nat) (P : List (Nat × Nat)) : Prop :=
  ∀ (j : Nat) (p : Nat × Nat), P[j]? = some p → g < w.heap.size ∧ w.cell? ⟨g, j * 2, none⟩ = some (.int .i64 (p.1 : Int)) ∧ w.cell? ⟨g, j * 2 + 1, none⟩ = some (.int .i64 (p.2 : Int))
theorem PRow.one (w : World) (t : Nat) (a b : Nat) : PRow (w.alloc (.cells #[.int .i64 (a : Int), .int .i64 (b : Int)] t)) w.heap.size [(a, b)] := by
  intro j p hj
  cases j with
  | zero =>
    obtain rfl : (a, b) = p := by simpa using hj
    refine ⟨by simp, ?_, ?_⟩ <;> (rw [cell_of_row _ _ _ _ _ _ (heap_alloc_new w _)]; rfl)
  | succ j => simp at hj
theorem PRow.two (w : World) (t : Nat) (a b c d : Nat) : PRow (w.alloc (.cells #[.int .i64 (a : Int), .int .i64 (b : Int), .int .i64 (c : Int), .int .i64 (d : Int)] t)) w.heap.size [(a, b), (c, d)] := by
  intro j p hj
  rcases j with _ | _ | j
  · obtain rfl : (a, b) = p := by simpa using hj
    refine ⟨by simp, ?_, ?_⟩ <;> (rw [cell_of_row _ _ _ _ _ _ (heap_alloc_new w _)]; rfl)
  · obtain rfl : (c, d) = p := by simpa using hj
    refine ⟨by simp, ?_, ?_⟩ <;> (rw [cell_of_row _ _ _ _ _ _ (heap_alloc_new w _)]; rfl)
  · simp at hj
set_option maxRecDepth 20000 in
set_option maxHeartbeats 1000000 in
theorem padding_any (s : Nat) (w : World) (h1 : 1 ≤ s) (h6 : s ≤ 6) :
    Calls Try.prog 92 #[.int .i64 (s : Int)] w fun e w' => ∃ g, e = .returned (.slice (some ⟨g, 0, none⟩) (padR s).length (padR s).length) ∧ PRow w' g (padR s) ∧ Below w.heap.size w w' := by
  have hs : s = 1 ∨ s = 2 ∨ s = 3 ∨ s = 4 ∨ s = 5 ∨ s = 6 := by omega
  rcases hs with rfl | rfl | rfl | rfl | rfl | rfl
  · go_enter Try.func92, Try.ntmps92
    go_wp2
    go_ret
    exact ⟨_, rfl, PRow.two w _ 3 4 34 40, (Below.refl _ w).alloc (Nat.le_refl _) _⟩
  · go_enter Try.func92, Try.ntmps92
    go_wp2
    go_ret
    exact ⟨_, rfl, PRow.one w _ 18 24, (Below.refl _ w).alloc (Nat.le_refl _) _⟩
  · go_enter Try.func92, Try.ntmps92
    go_wp2
    go_ret
    exact ⟨_, rfl, PRow.one w _ 20 24, (Below.refl _ w).alloc (Nat.le_refl _) _⟩
  · go_enter Try.func92, Try.ntmps92
    go_wp2
    go_ret
    exact ⟨_, rfl, PRow.two w _ 6 8 42 48, (Below.refl _ w).alloc (Nat.le_refl _) _⟩
  · go_enter Try.func92, Try.ntmps92
    go_wp2
    go_ret
    exact ⟨_, rfl, PRow.one w _ 6 8, (Below.refl _ w).alloc (Nat.le_refl _) _⟩
  · go_enter Try.func92, Try.ntmps92
    go_wp2
    go_ret
    exact ⟨_, rfl, PRow.one w _ 4 8, (Below.refl _ w).alloc (Nat.le_refl _) _⟩
end Go.Proofs.Ytpeajffnhmmaeaa
