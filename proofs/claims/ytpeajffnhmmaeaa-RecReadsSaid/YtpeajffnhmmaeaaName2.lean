/-
  Contract of name.Pad.
-/
import Derived.Test.YtpeajffnhmmaeaaName1
import Derived.Lib.BufferWrite
import Derived.Deep.Cut
import Derived.Laws.Rows
import Derived.Great.BuildSlice
namespace Go.Proofs.Ytpeajffnhmmaeaa
set_option linter.unusedVariables false
open Go.RowKit

section
variable {P : Program} {w : World} {ops : Array Oper} {rest : List Oper} {o : Oper} {a : Act} {Q : Exit → Act → World → Prop}
/-- copy of a string that fits, into a row -/
theorem wpList_copy_str (hgd : o.guard = none) (d s : Operand) (dT sT elem : TypeId) (ho : o.op = .call { callee := .builtin .copy, args := #[d, s], argTypes := #[dT, sT] })
    (hu : P.underlying dT = some (.slice elem)) (hs : (P.info? elem).map (·.size) = some 1) (g dLen dCap : Nat) (str : ByteArray) (cur : Array Value) (t : TypeId) (hd : a.eval d = .slice (some ⟨g, 0, none⟩) dLen dCap) (hx : a.eval s = .string str)
    (hg : w.heap[g]? = some (.cells cur t (0, 0))) (hle : str.size ≤ dLen) (hfit : str.size ≤ cur.size)
    (h : wpList P ops Q rest (a.put o.dst (goInt str.size)) (w.setRow g (cur.toList.take 0 ++ Lib.byteCells str.data.toList ++ cur.toList.drop (0 + str.size)).toArray)) : wpList P ops Q (o :: rest) a w := by
  refine wpList_plain hgd fun K hK => ?_
  have hr := Lib.run_copy_row_string (P := P) w dT sT o.type elem g 0 dLen dCap str cur t hu hs hg hle (by omega)
  unfold Oper.wp execOp
  simp only [ho, resolve, invoke, builtin, Sem.run_bind, Sem.run_pure, Result.andThen_ok, List.map_toArray, List.map_cons, List.map_nil, hd, hx, hr]
  exact hK _ _ h
end

def bvA (l : List UInt8) : Array Value := (bvs l).toArray
theorem bvA_size (l : List UInt8) : (bvA l).size = l.length := by simp [bvA, bvs_length]
theorem bvA_one (l : List UInt8) : (bvA l).all (·.oneCell') = true := by
  rw [Array.all_eq_true_iff_forall_mem]
  intro v hv
  exact bvs_one l v (by simpa [bvA] using hv)
def zs30 : List UInt8 := List.replicate 30 0
open Classical in
/-- a name with zeros behind it -/
noncomputable def padL (s : ByteArray) : List UInt8 := if vldP s then s.data.toList ++ List.replicate (30 - s.size) 0 else zs30
theorem padL_len (s : ByteArray) : (padL s).length = 30 := by
  unfold padL
  split
  · rename_i h
    rw [List.length_append, List.length_replicate, ← Lib.size_eq]
    have := h.2.1
    omega
  · rfl
theorem byteCells_bvs (l : List UInt8) : Lib.byteCells l = bvs l := rfl
theorem infoA : (Try.prog.info? 133).map (·.size) = some 30 := by kernel_rfl
theorem pad_row (s : ByteArray) (h : vldP s) : ((bvA zs30).toList.take 0 ++ Lib.byteCells s.data.toList ++ (bvA zs30).toList.drop (0 + s.size)).toArray = bvA (padL s) := by
  unfold padL
  rw [if_pos h, byteCells_bvs]
  unfold bvA
  rw [bvs_append]
  congr 1
  simp only [List.take_zero, List.nil_append, Nat.zero_add]
  congr 1
  unfold bvs zs30
  rw [← List.map_drop, List.drop_replicate]

set_option maxRecDepth 100000 in
set_option maxHeartbeats 1000000 in
theorem Pad_any (s : ByteArray) (w : World) (hs : s.size ≤ 9223372036854775807) : Calls Try.prog 76 #[.string s] w fun e w' => e = .returned (.agg (bvA (padL s))) ∧ Below w.heap.size w w' := by
  obtain ⟨w2, hw2⟩ : ∃ w2, w2 = (w.alloc (.cells (bvA zs30) 133)).alloc (.cells (bvA zs30) 133) := ⟨_, rfl⟩
  have hn := two_new w (.cells (bvA zs30) 133) (.cells (bvA zs30) 133)
  have hbw : Below w.heap.size w w2 := by rw [hw2]; exact ((Below.refl _ w).alloc (Nat.le_refl _) _).alloc (by simp) _
  rw [← hw2] at hn
  have HN := Lib.hid hn
  have HB := Lib.hid hbw
  have HW2 : Hid ((w.alloc (.cells #[.int .u8 0, .int .u8 0, .int .u8 0, .int .u8 0, .int .u8 0, .int .u8 0, .int .u8 0, .int .u8 0, .int .u8 0, .int .u8 0, .int .u8 0, .int .u8 0, .int .u8 0, .int .u8 0, .int .u8 0, .int .u8 0, .int .u8 0, .int .u8 0, .int .u8 0, .int .u8 0, .int .u8 0, .int .u8 0, .int .u8 0, .int .u8 0, .int .u8 0, .int .u8 0, .int .u8 0, .int .u8 0, .int .u8 0, .int .u8 0] 133)).alloc (.cells #[.int .u8 0, .int .u8 0, .int .u8 0, .int .u8 0, .int .u8 0, .int .u8 0, .int .u8 0, .int .u8 0, .int .u8 0, .int .u8 0, .int .u8 0, .int .u8 0, .int .u8 0, .int .u8 0, .int .u8 0, .int .u8 0, .int .u8 0, .int .u8 0, .int .u8 0, .int .u8 0, .int .u8 0, .int .u8 0, .int .u8 0, .int .u8 0, .int .u8 0, .int .u8 0, .int .u8 0, .int .u8 0, .int .u8 0, .int .u8 0] 133) = w2) := hw2.symm
  have HP := Lib.hid (padL_len s)
  clear hw2 hn hbw
  go_enter Try.func76, Try.ntmps76
  go_wp2_with fail
  rw [HW2.out]
  clear HW2
  refine (Valid_any s w2 hs).mono ?_
  rintro e w3 ⟨he, hb3⟩
  have N1 := Lib.hid ((hb3.block _ (Array.getElem?_eq_some_iff.1 HN.out.1).1).trans HN.out.1)
  have N2 := Lib.hid ((hb3.block _ (Array.getElem?_eq_some_iff.1 HN.out.2).1).trans HN.out.2)
  have B3 := Lib.hid (HB.out.trans (hb3.mono HB.out.size))
  clear HN HB hb3
  by_cases hv : vldP s
  · rw [vldB_true hv] at he
    subst he
    have HR := Lib.hid (pad_row s hv)
    have hle := hv.2.1
    have HV := Lib.hid hv
    clear hv
    go_upto_region 4 with (refine wpList_copy_str rfl (.tmp 6) (.tmp 7) 22 9 5 rfl Try.underlying22 (by kernel_rfl) (w.heap.size + 1) 30 30 s (bvA zs30) 133 rfl rfl N2.out hle (by rw [bvA_size]; exact hle) ?_; rw [HR.out])
    have M2 := Lib.hid (setRow_heap w3 (w.heap.size + 1) (bvA zs30) (bvA (padL s)) 133 (0, 0) N2.out)
    have M1 := Lib.hid ((setRow_other w3 (w.heap.size + 1) w.heap.size (bvA (padL s)) (by omega)).trans N1.out)
    have C3 : Hid (Below w.heap.size w (w3.setRow (w.heap.size + 1) (bvA (padL s)))) := B3.out.trans ⟨rfl, rfl, rfl, by simp [World.setRow], fun j hj => setRow_other w3 (w.heap.size + 1) j _ (by omega)⟩
    generalize w3.setRow (w.heap.size + 1) (bvA (padL s)) = w4 at *
    refine wp_region_lit ?_
    refine wpList_load_row rfl 133 (.tmp 3) rfl (w.heap.size + 1) rfl 133 (bvA (padL s)) (0, 0) _ M2.out Try.underlying133 rfl (by rw [infoA, bvA_size, HP.out]) ?_
    refine wpList_store_rowTo rfl 133 (.tmp 2) (.tmp 9) rfl rfl w.heap.size (bvA (padL s)) rfl rfl 133 (bvA zs30) M1.out (by rw [infoA, bvA_size, HP.out]) (by rw [bvA_size, bvA_size, HP.out]; rfl) (bvA_one _) ?_
    go_wp2
    refine bodyPost_ret (v := .agg (bvA (padL s))) (results_cell_row rfl _ _ w.heap.size 133 _ (0, 0) _ rfl (setRow_heap w4 w.heap.size (bvA zs30) (bvA (padL s)) 133 (0, 0) M1.out) Try.underlying133 rfl (by rw [infoA, bvA_size, HP.out])) rfl ⟨rfl, ?_⟩
    exact C3.out.trans ⟨rfl, rfl, rfl, by simp [World.setRow], fun j hj => setRow_other w4 w.heap.size j _ (by omega)⟩
  · rw [vldB_false hv] at he
    subst he
    have HZ : Hid (padL s = zs30) := by show _ = _; unfold padL; rw [if_neg hv]
    clear hv
    go_upto_region 4 with fail
    refine wp_region_lit ?_
    refine wpList_load_row rfl 133 (.tmp 3) rfl (w.heap.size + 1) rfl 133 (bvA zs30) (0, 0) _ N2.out Try.underlying133 rfl (by rw [infoA, bvA_size]; rfl) ?_
    refine wpList_store_rowTo rfl 133 (.tmp 2) (.tmp 9) rfl rfl w.heap.size (bvA zs30) rfl rfl 133 (bvA zs30) N1.out (by rw [infoA, bvA_size]; rfl) rfl (bvA_one _) ?_
    go_wp2
    refine bodyPost_ret (v := .agg (bvA zs30)) (results_cell_row rfl _ _ w.heap.size 133 _ (0, 0) _ rfl (setRow_heap w3 w.heap.size (bvA zs30) (bvA zs30) 133 (0, 0) N1.out) Try.underlying133 rfl (by rw [infoA, bvA_size]; rfl)) rfl ⟨by rw [HZ.out], ?_⟩
    exact B3.out.trans ⟨rfl, rfl, rfl, by simp [World.setRow], fun j hj => setRow_other w3 w.heap.size j _ (by omega)⟩
end Go.Proofs.Ytpeajffnhmmaeaa
