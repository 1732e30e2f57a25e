/-
  Contract of name.Unpad.
-/
import Derived.Test.YtpeajffnhmmaeaaName2
import Derived.Test.YtpeajffnhmmaeaaHeldZ
import Derived.Stop.BytesEq
import Derived.Laws.BytesArg
namespace Go.Proofs.Ytpeajffnhmmaeaa
set_option linter.unusedVariables false
open Go.RowKit

/-- the string of some bytes -/
def strB (xs : List UInt8) : ByteArray := ⟨xs.toArray⟩
theorem strOfNums_bytes (xs : List UInt8) : strOfNums (xs.map fun c => (c.toNat : Int)) = strB xs := by
  have h : (strOfNums (xs.map fun c => (c.toNat : Int))).data.toList = xs := by
    rw [strOfNums_data, List.map_map]
    have e : ((fun n : Int => UInt8.ofNat n.toNat) ∘ fun c : UInt8 => (c.toNat : Int)) = id := by
      funext c; simp
    rw [e, List.map_id]
  have h2 : (strOfNums (xs.map fun c => (c.toNat : Int))).data = (strB xs).data := by
    apply Array.toList_inj.1; rw [h]; rfl
  exact ByteArray.ext h2
theorem strB_eq (xs ys : List UInt8) : ((strB xs).toList == (strB ys).toList) = decide (xs = ys) := by
  rw [ByteArray.toList_eq, ByteArray.toList_eq]
  show (xs == ys) = _
  by_cases h : xs = ys
  · subst h; simp
  · rw [decide_eq_false h]; exact beq_eq_false_iff_ne.2 h
theorem conv_bytes {w : World} {B : Nat} {A : Option Addr} {c n : Nat} {xs : List UInt8} (hn : xs.length = n) (hR : Rd w B A xs) : (convert 22 9 (.slice A n c)).run Try.prog w = .ok (.string (strB xs)) w := by
  subst hn
  by_cases h0 : xs = []
  · subst h0
    cases A with
    | none => exact run_convert_bytes_nil w 22 5 Try.underlying22 Try.underlying5 0 c 9 Try.underlying9
    | some ad =>
      have hl : (loadCells ad 0).run Try.prog w = .ok ((([] : List Int)).map (Value.int .u8)).toArray w := by
        have := run_loadCells_list (P := Try.prog) w ad [] (fun j v hv => by simp at hv)
        exact this
      show (convert 22 9 (.slice (some ad) 0 c)).run Try.prog w = _
      rw [run_convert_bytes_string w 22 9 5 _ 0 c Try.underlying22 Try.underlying5 Try.underlying9]
      rw [run_bytesToString w ad 0 c [] hl]
      rfl
  · obtain ⟨b, off, rfl, _, hc⟩ := hR.open_ h0
    rw [← strOfNums_bytes]
    refine run_convert_bytes_arg w 22 5 Try.underlying22 Try.underlying5 b off xs.length c (xs.map fun c => (c.toNat : Int)) (by simp) (fun i hi => ?_) 9 Try.underlying9
    rw [hc i hi]
    simp [bv, List.getD, hi]

theorem Rd.row {w : World} {q ty : Nat} {l : List UInt8} (h : w.heap[q]? = some (.cells (bvA l) ty (0, 0))) : Rd w w.heap.size (some ⟨q, 0, none⟩) l := by
  refine .inr ⟨q, 0, rfl, (Array.getElem?_eq_some_iff.1 h).1, fun j hj => ?_⟩
  rw [Nat.zero_add, cell_of_row w q j _ _ (0, 0) h]
  have := bvs_get l j hj
  simpa [bvA] using this
set_option maxRecDepth 100000 in
theorem run_neq30 (xs ys : List UInt8) (hx : xs.length = 30) (hy : ys.length = 30) (w : World) : (binOp .neq 133 (.agg (bvA xs)) (.agg (bvA ys))).run Try.prog w = .ok (.bool (!(xs == ys))) w := by
  have hb : ∀ zs : List UInt8, bvA zs = (zs.map Extern.Stop.cell).toArray := fun _ => rfl
  rw [run_neq_struct, hb, hb, run_equalIn_bytes (P := Try.prog) w 9998 133 5 30 Try.underlying133 Try.underlying5 (fun _ => rfl) xs ys hx hy]
  rfl
theorem exec_load_row {P : Program} {o : Oper} {a : Act} (ty : TypeId) (x : Operand) (ho : o.op = .load ty x) (g : Nat) (hx : a.eval x = .pointer (some ⟨g, 0, none⟩)) (t : TypeId) (cs : Array Value) (fr : Nat × Nat) (d : TypeDesc) (w : World)
    (hg : w.heap[g]? = some (.cells cs t fr)) (hu : P.underlying ty = some d) (hd : (match d with | .struct _ | .array _ _ => true | _ => false) = true) (hi : (P.info? ty).map (·.size) = some cs.size) :
    (execOp a.eval o).run P w = .ok (.value (.agg cs)) w := by
  unfold execOp
  simp only [ho, hx, Instr.loadAt, Instr.sureAddr, Sem.run_bind, Sem.run_pure, Result.andThen_ok, run_loadVar_row w g t ty cs fr d hg hu hd hi]

/-- the name in 30 bytes -/
def unpP (l : List UInt8) (n : Nat) : Prop := vldP (strB (l.take n)) ∧ l = l.take n ++ List.replicate (30 - n) 0
theorem strB_size (l : List UInt8) : (strB l).size = l.length := by rw [Lib.size_eq]; rfl
theorem padL_iff {l : List UInt8} {n : Nat} (hl : l.length = 30) (hn : n ≤ 30) : (padL (strB (l.take n)) = l ∧ vldP (strB (l.take n))) ↔ unpP l n := by
  unfold unpP padL
  constructor
  · rintro ⟨h1, h2⟩
    rw [if_pos h2, strB_size] at h1
    refine ⟨h2, ?_⟩
    have e : (l.take n).length = n := by simp; omega
    rw [e] at h1
    exact h1.symm
  · rintro ⟨h1, h2⟩
    refine ⟨?_, h1⟩
    have e : (l.take n).length = n := by simp; omega
    rw [if_pos h1, strB_size, e]
    exact h2.symm
open Classical in
noncomputable def unpB (l : List UInt8) (n : Int) : Bool := decide (0 ≤ n ∧ n ≤ 30 ∧ unpP l n.toNat)
open Classical in
noncomputable def unpS (l : List UInt8) (n : Int) : ByteArray := if 0 ≤ n ∧ n ≤ 30 ∧ unpP l n.toNat then strB (l.take n.toNat) else ⟨#[]⟩
theorem unp_no {l : List UInt8} {n : Int} (h : ¬ (0 ≤ n ∧ n ≤ 30 ∧ unpP l n.toNat)) : unpB l n = false ∧ unpS l n = ⟨#[]⟩ := by unfold unpB unpS; simp [h]
theorem unp_yes {l : List UInt8} {n : Int} (h : 0 ≤ n ∧ n ≤ 30 ∧ unpP l n.toNat) : unpB l n = true ∧ unpS l n = strB (l.take n.toNat) := by unfold unpB unpS; simp [h]
def UnpOK (w : World) (s : ByteArray) (b : Bool) (e : Ending) (w' : World) : Prop := e = .returned (.tuple #[.string s, .bool b]) ∧ Below w.heap.size w w'

set_option maxRecDepth 100000 in
set_option maxHeartbeats 1000000 in
theorem Unpad_out (l : List UInt8) (n : Int) (w : World) (h : n < 0 ∨ 30 < n) : Calls Try.prog 81 #[.agg (bvA l), .int .i64 n] w (UnpOK w (unpS l n) (unpB l n)) := by
  obtain ⟨e1, e2⟩ := unp_no (l := l) (n := n) (by omega)
  rw [e1, e2]
  clear e1 e2
  generalize bvA l = cs
  by_cases h0 : n < 0
  · have d0 : decide (n < 0) = true := decide_eq_true h0
    go_enter Try.func81, Try.ntmps81
    go_wp2
    go_ret2
    exact ⟨rfl, (Below.refl _ w).alloc (Nat.le_refl _) _⟩
  · have d0 : decide (n < 0) = false := decide_eq_false h0
    have d1 : decide (30 < n) = true := decide_eq_true (by omega)
    go_enter Try.func81, Try.ntmps81
    go_wp2
    go_ret2
    exact ⟨rfl, (Below.refl _ w).alloc (Nat.le_refl _) _⟩

set_option maxRecDepth 100000 in
set_option maxHeartbeats 2000000 in
theorem Unpad_in (l : List UInt8) (k : Nat) (w : World) (hl : l.length = 30) (hk : k ≤ 30) : Calls Try.prog 81 #[.agg (bvA l), .int .i64 (k : Int)] w (UnpOK w (unpS l k) (unpB l k)) := by
  obtain ⟨w1, hw1⟩ : ∃ w1, w1 = w.alloc (.cells (bvA l) 133) := ⟨_, rfl⟩
  have hbox := heap_alloc_new w (.cells (bvA l) 133)
  have hbw : Below w.heap.size w w1 := by rw [hw1]; exact (Below.refl _ w).alloc (Nat.le_refl _) _
  rw [← hw1] at hbox
  have hsz := hbw.size
  have HBX := Lib.hid hbox
  have HB := Lib.hid hbw
  have HW1 := Lib.hid hw1.symm
  have hlt : (l.take k).length = k := by simp; omega
  have hconv := conv_bytes (c := 30) hlt ((Rd.row hbox).take k)
  rw [hw1] at hconv
  have d0 : decide ((k : Int) < 0) = false := decide_eq_false (by omega)
  have d1 : decide (30 < (k : Int)) = false := decide_eq_false (by omega)
  have HPL := Lib.hid (padL_len (strB (l.take k)))
  have HL := Lib.hid hl
  have HI := Lib.hid (padL_iff (n := k) hl hk)
  have hss : (strB (l.take k)).size = k := by rw [strB_size, hlt]
  have hne := fun w' => run_neq30 (padL (strB (l.take k))) l HPL.out hl w'
  have HP := Lib.hid (fun w' => Pad_any (strB (l.take k)) w' (by omega))
  have HV := Lib.hid (fun w' => Valid_any (strB (l.take k)) w' (by omega))
  have HNO : Hid (¬ unpP l k → unpB l k = false ∧ unpS l k = ⟨#[]⟩) := fun h => unp_no (fun hh => h hh.2.2)
  have HYES : Hid (unpP l k → unpB l k = true ∧ unpS l k = strB (l.take k)) := fun h => unp_yes ⟨by omega, by omega, h⟩
  have hk2 : (k : Int) ≤ 30 := by omega
  clear hw1 hbox hbw hlt hss hl
  generalize unpB l k = ub at *
  generalize unpS l k = us at *
  generalize strB (l.take k) = s at *
  go_enter Try.func81, Try.ntmps81
  go_wp2_with fail
  rw [HW1.out]
  clear HW1 hconv d0 d1
  have HL30 : Hid ((Try.prog.info? 133).map (·.size) = some (bvA l).size) := by show _ = _; rw [infoA, bvA_size, HL.out]
  generalize hb : w.heap.size = b at *
  have HBK := Lib.hid hb
  clear hb
  have hS : ∀ w', Below w1.heap.size w1 w' → w'.heap[b]? = some (.cells (bvA l) 133 (0, 0)) := fun w' h => (h.block _ (Array.getElem?_eq_some_iff.1 HBX.out).1).trans HBX.out
  have HS := Lib.hid hS
  have h0 := HS.out _ ((Below.refl _ w1).drew)
  clear hS
  refine wp_region_Z (fun w' => w'.heap[b]? = some (.cells (bvA l) 133 (0, 0))) 100 (by kernel_rfl) ?_
  refine anyZ_take 0 (.string s) rfl (by kernel_rfl) (by kernel_rfl) (by kernel_rfl) (by kernel_rfl) (fun _ _ _ h => h) (by rfl) h0 (fun w' hSw => by go_simp) ?_
  refine anyZ_take 2 (.agg (bvA l)) rfl (by kernel_rfl) (by kernel_rfl) (by kernel_rfl) (by kernel_rfl) (fun _ _ _ h => h) (by rfl) h0 (fun w' hSw => exec_load_row 133 (.tmp 2) rfl b rfl 133 (bvA l) (0, 0) _ w' hSw Try.underlying133 rfl HL30.out) ?_
  refine anyZ_next 1 rfl (by kernel_rfl) (fun K hK => ?_)
  rw [if_pos (by rfl)]
  go_simp
  refine (HP.out _).mono ?_
  rintro e w3 ⟨rfl, hb3⟩
  have B3 := Lib.hid (((Below.refl _ w1).drew).trans hb3)
  clear hb3
  go_simp
  refine hK _ _ (fun _ => HS.out _ B3.out) ?_
  clear hK K
  have h3 := HS.out _ B3.out
  by_cases he : (padL s == l) = true
  · rw [he] at hne
    refine anyZ_take 3 (.bool false) rfl (by kernel_rfl) (by kernel_rfl) (by kernel_rfl) (by kernel_rfl) (fun _ _ _ h => h) (by rfl) h3 (fun w' hSw => by have hn := hne w'; go_simp) ?_
    refine anyZ_take 4 (.bool false) rfl (by kernel_rfl) (by kernel_rfl) (by kernel_rfl) (by kernel_rfl) (fun _ _ _ h => h) (by rfl) h3 (fun w' hSw => by go_simp) ?_
    refine anyZ_take 5 (.string s) rfl (by kernel_rfl) (by kernel_rfl) (by kernel_rfl) (by kernel_rfl) (fun _ _ _ h => h) (by rfl) h3 (fun w' hSw => by go_simp) ?_
    by_cases hv : vldP s
    · have hy := Lib.hid (HYES.out (HI.out.1 ⟨by simpa using he, hv⟩))
      have HVV := Lib.hid (vldB_true hv)
      clear hv he hne
      refine anyZ_next 6 rfl (by kernel_rfl) (fun K hK => ?_)
      rw [if_pos (by rfl)]
      go_simp
      refine (HV.out _).mono ?_
      rintro e w4 ⟨he4, hb4⟩
      rw [HVV.out] at he4
      subst he4
      have B4 := Lib.hid (B3.out.trans (hb4.mono B3.out.size))
      clear hb4
      go_simp
      refine hK _ _ (fun _ => HS.out _ B4.out) ?_
      clear hK K h3
      have h3 := HS.out _ B4.out
      refine anyZ_take 7 (.bool false) rfl (by kernel_rfl) (by kernel_rfl) (by kernel_rfl) (by kernel_rfl) (fun _ _ _ h => h) (by rfl) h3 (fun w' hSw => by go_simp) ?_
      refine anyZ_take 8 (.bool false) rfl (by kernel_rfl) (by kernel_rfl) (by kernel_rfl) (by kernel_rfl) (fun _ _ _ h => h) (by rfl) h3 (fun w' hSw => by go_simp) ?_
      refine anyZ_done (by kernel_rfl) ?_ _
      go_wp2_with fail
      go_ret2
      exact ⟨by rw [(hy.out).1, (hy.out).2]; rfl, by rw [HBK.out]; exact HB.out.trans ((B4.out).mono hsz)⟩
    · have hy := Lib.hid (HNO.out (fun h => hv (HI.out.2 h).2))
      have HVV := Lib.hid (vldB_false hv)
      clear hv he hne
      refine anyZ_next 6 rfl (by kernel_rfl) (fun K hK => ?_)
      rw [if_pos (by rfl)]
      go_simp
      refine (HV.out _).mono ?_
      rintro e w4 ⟨he4, hb4⟩
      rw [HVV.out] at he4
      subst he4
      have B4 := Lib.hid (B3.out.trans (hb4.mono B3.out.size))
      clear hb4
      go_simp
      refine hK _ _ (fun _ => HS.out _ B4.out) ?_
      clear hK K h3
      have h3 := HS.out _ B4.out
      refine anyZ_take 7 (.bool true) rfl (by kernel_rfl) (by kernel_rfl) (by kernel_rfl) (by kernel_rfl) (fun _ _ _ h => h) (by rfl) h3 (fun w' hSw => by go_simp) ?_
      refine anyZ_take 8 (.bool true) rfl (by kernel_rfl) (by kernel_rfl) (by kernel_rfl) (by kernel_rfl) (fun _ _ _ h => h) (by rfl) h3 (fun w' hSw => by go_simp) ?_
      refine anyZ_done (by kernel_rfl) ?_ _
      go_wp2_with fail
      go_ret2
      exact ⟨by rw [(hy.out).1, (hy.out).2]; rfl, by rw [HBK.out]; exact HB.out.trans ((B4.out).mono hsz)⟩
  · have hf : (padL s == l) = false := by simpa using he
    have hy := Lib.hid (HNO.out (fun h => he (by simpa using (HI.out.2 h).1)))
    rw [hf] at hne
    clear he hf
    refine anyZ_take 3 (.bool true) rfl (by kernel_rfl) (by kernel_rfl) (by kernel_rfl) (by kernel_rfl) (fun _ _ _ h => h) (by rfl) h3 (fun w' hSw => by have hn := hne w'; go_simp) ?_
    refine anyZ_take 4 (.bool true) rfl (by kernel_rfl) (by kernel_rfl) (by kernel_rfl) (by kernel_rfl) (fun _ _ _ h => h) (by rfl) h3 (fun w' hSw => by go_simp) ?_
    refine anyZ_skip 5 rfl (by kernel_rfl) (by kernel_rfl) (by kernel_rfl) (by kernel_rfl) (fun _ _ _ h => h) (by rfl) h3 ?_
    refine anyZ_skip 6 rfl (by kernel_rfl) (by kernel_rfl) (by kernel_rfl) (by kernel_rfl) (fun _ _ _ h => h) (by rfl) h3 ?_
    refine anyZ_skip 7 rfl (by kernel_rfl) (by kernel_rfl) (by kernel_rfl) (by kernel_rfl) (fun _ _ _ h => h) (by rfl) h3 ?_
    refine anyZ_take 8 (.bool true) rfl (by kernel_rfl) (by kernel_rfl) (by kernel_rfl) (by kernel_rfl) (fun _ _ _ h => h) (by rfl) h3 (fun w' hSw => by go_simp) ?_
    refine anyZ_done (by kernel_rfl) ?_ _
    go_wp2_with fail
    go_ret2
    exact ⟨by rw [(hy.out).1, (hy.out).2]; rfl, by rw [HBK.out]; exact HB.out.trans ((B3.out).mono hsz)⟩

theorem Unpad_any (l : List UInt8) (n : Int) (w : World) (hl : l.length = 30) : Calls Try.prog 81 #[.agg (bvA l), .int .i64 n] w (UnpOK w (unpS l n) (unpB l n)) := by
  by_cases h : n < 0 ∨ 30 < n
  · exact Unpad_out l n w h
  · obtain ⟨k, rfl⟩ : ∃ k : Nat, n = (k : Int) := ⟨n.toNat, by omega⟩
    exact Unpad_in l k w hl (by omega)
end Go.Proofs.Ytpeajffnhmmaeaa
