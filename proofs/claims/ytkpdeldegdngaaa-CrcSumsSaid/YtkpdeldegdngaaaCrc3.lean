/-
  Contracts of package crc: Table, Sum.
-/
import Derived.Test.YtkpdeldegdngaaaCrc2
import Derived.Test.YtkpdeldegdngaaaConcat
namespace Go.Proofs.Ytkpdeldegdngaaa
set_option linter.unusedVariables false
open Go.RowKit

section
variable {P : Program} {w : World} {ops : Array Oper} {rest : List Oper} {o : Oper} {a : Act} {Q : Exit → Act → World → Prop}
/-- a new variable whose zero value is known by a name alone -/
theorem wpList_alloc (hg : o.guard = none) (T : TypeId) (ho : o.op = .alloc T) (Z : Array Value) (hz : ∀ w, (zeroValue T).run P w = .ok (.agg Z) w)
    (h : wpList P ops Q rest (a.put o.dst (.pointer (some ⟨w.heap.size, 0, none⟩))) (w.alloc (.cells Z T))) : wpList P ops Q (o :: rest) a w := by
  refine wpList_plain hg fun K hK => ?_
  unfold Oper.wp
  simp [execOp, ho, Instr.alloc, hz w, newVar, Value.cells, Result.andThen]
  exact hK _ _ h
end

def Tb : TypeId := 26
theorem zeroTab (w : World) : (zeroValue 26).run Try.prog w = .ok (.agg (Array.replicate 256 (.int .u32 0))) w := by kernel_rfl
theorem infoTab : (Try.prog.info? 26).map (·.size) = some 256 := by kernel_rfl

/-- the cells of the table -/
def IsTab (cs : Array Value) : Prop := cs.size = 256 ∧ ∀ j, j < 256 → cs[j]? = some (.int .u32 (u32 (CrcP.stepN 8 (BitVec.ofNat 32 j))))
/-- while the table is filled -/
def TabInv (w wr : World) (k : Nat) : Prop :=
  (∃ cur : Array Value, wr.heap[w.heap.size + 1]? = some (.cells cur 26 (0, 0)) ∧ cur.size = 256 ∧ ∀ j, j < k → cur[j]? = some (.int .u32 (u32 (CrcP.stepN 8 (BitVec.ofNat 32 j))))) ∧
  (∃ Z : Array Value, wr.heap[w.heap.size]? = some (.cells Z 26 (0, 0)) ∧ Z.size = 256) ∧ Below w.heap.size w wr
def TabOK (w : World) (e : Ending) (w' : World) : Prop := ∃ cs, e = .returned (.agg cs) ∧ IsTab cs ∧ Below w.heap.size w w'

theorem TabInv.cell {w wr : World} {k j : Nat} (h : TabInv w wr k) (hj : j < 256) : ∃ v, wr.cell? ⟨w.heap.size + 1, j, none⟩ = some v ∧ wr.frozen? ⟨w.heap.size + 1, j, none⟩ = false := by
  obtain ⟨⟨cur, ho, hs, _⟩, _⟩ := h
  exact ⟨cur[j]'(by omega), by rw [cell_of_row wr _ j cur _ (0, 0) ho]; exact Array.getElem?_eq_getElem (by omega), frozen_of_row wr _ j cur _ ho⟩
theorem TabInv.next {w wr : World} {k : Nat} (h : TabInv w wr k) (hk : k < 256) : TabInv w (wr.setCell ⟨w.heap.size + 1, k, none⟩ (.int .u32 (u32 (CrcP.stepN 8 (BitVec.ofNat 32 k))))) (k + 1) := by
  obtain ⟨⟨cur, ho, hs, hc⟩, ⟨Z, hz, hzs⟩, hb⟩ := h
  refine ⟨⟨_, heap_setCell_same wr _ k cur _ _ ho, by simpa using hs, fun j hj => ?_⟩, ⟨Z, (heap_setCell_other wr _ _ _ (by simp)).trans hz, hzs⟩, hb.setCell (by simp) _⟩
  by_cases e : j = k
  · subst e; rw [Array.getElem?_setIfInBounds, if_pos rfl, if_pos (by omega)]
  · rw [Array.getElem?_setIfInBounds, if_neg (fun h => e h.symm)]
    exact hc j (by omega)

set_option maxHeartbeats 800000 in
set_option maxRecDepth 100000 in
theorem Table_any (w : World) : Calls Try.prog 10 #[] w (TabOK w) := by
  obtain ⟨Z, hZ, hZs⟩ : ∃ Z : Array Value, (∀ w, (zeroValue 26).run Try.prog w = .ok (.agg Z) w) ∧ Hid (Z.size = 256) := ⟨_, zeroTab, by show _ = _; simp⟩
  have HZ := Lib.hid hZ
  clear hZ
  go_enter Try.func10, Try.ntmps10
  go_wp2_with (refine wpList_alloc rfl 26 rfl Z HZ.out ?_)
  have hinv : TabInv w ((w.alloc (.cells Z 26)).alloc (.cells Z 26)) 0 :=
    ⟨⟨Z, heap_alloc2_new w _ _, hZs.out, fun j hj => by omega⟩, ⟨Z, heap_alloc2_old w _ _, hZs.out⟩, ((Below.refl _ w).alloc (Nat.le_refl _) _).alloc (by simp) _⟩
  have HI := Lib.hid hinv
  clear hinv
  go_loopw [3] (fun i wr => ∃ k : Nat, k ≤ 256 ∧ i = .int .i64 (k : Int) ∧ TabInv w wr k) (fun i _ => 256 - (intOf i).toNat)
  case atStart => exact ⟨0, Nat.zero_le _, rfl, HI.out⟩
  case round =>
    obtain ⟨k, hk, rfl, hI⟩ := hrel
    by_cases hlt : k < 256
    · obtain ⟨v, hcell, hfr⟩ := hI.cell hlt
      have HT := times_shift (BitVec.ofNat 32 k) 8 wr (by omega)
      rw [u32_ofNat k (by omega)] at HT
      have HT2 := Lib.hid HT
      have HN := Lib.hid (hI.next hlt)
      clear hI HT
      go_wp2_with fail
      refine HT2.out.mono ?_
      rintro e w' ⟨rfl, rfl⟩
      go_wp2_with fail
      go_roundw
      case rel => exact ⟨k + 1, by omega, by go_num, HN.out⟩
      case measure => simp [intOf]; omega
    · have ek : k = 256 := by omega
      subst ek
      obtain ⟨⟨cur, ho, hs, hc⟩, ⟨Z2, hz, hzs⟩, hb⟩ := hI
      have H1 : Hid (wr.heap[w.heap.size + 1]? = some (.cells cur 26 (0, 0))) := ho
      have H2 : Hid (wr.heap[w.heap.size]? = some (.cells Z2 26 (0, 0))) := hz
      have H3 : Hid (IsTab cur) := ⟨hs, hc⟩
      have H4 : Hid ((Try.prog.info? 26).map (·.size) = some cur.size) := by show _ = _; rw [hs]; exact infoTab
      have H5 : Hid (Z2.size = cur.size) := by show _ = _; omega
      have H6 : Hid (cur.all (·.oneCell') = true) := by
        show _ = _
        rw [Array.all_eq_true]
        intro j hj
        have := hc j (by omega)
        rw [Array.getElem?_eq_getElem hj] at this
        rw [Option.some.inj this]
        rfl
      have H7 := Lib.hid hb
      clear ho hz hs hc hzs hb
      go_wp2_with (first
        | (refine wpList_load_row rfl 26 (.tmp 1) rfl (w.heap.size + 1) rfl 26 cur (0, 0) _ H1.out Try.underlying26 rfl H4.out ?_)
        | (refine wpList_store_row rfl 26 (.tmp 0) (.tmp 12) rfl w.heap.size cur rfl rfl 26 Z2 H2.out H4.out H5.out H6.out ?_))
      refine bodyPost_ret (results_cell_row rfl _ _ w.heap.size 26 cur (0, 0) _ rfl (setRow_heap wr _ Z2 cur _ _ H2.out) Try.underlying26 rfl H4.out) rfl ?_
      refine ⟨cur, rfl, H3.out, ?_⟩
      exact H7.out.trans ⟨rfl, rfl, rfl, by simp, fun j hj => setRow_other wr _ j _ (by omega)⟩
end Go.Proofs.Ytkpdeldegdngaaa
