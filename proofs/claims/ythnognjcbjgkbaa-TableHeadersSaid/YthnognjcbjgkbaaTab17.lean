/-
  Get: a fault of the fixed fields.
-/
import Derived.Test.YthnognjcbjgkbaaTab6
import Derived.Test.YthnognjcbjgkbaaTab8
import Derived.Test.YthnognjcbjgkbaaTab15
import Derived.Test.YthnognjcbjgkbaaFork
namespace Go.Proofs.Ythnognjcbjgkbaa
set_option linter.unusedVariables false
open Go.RowKit Go.Shelf

/-- what Get hands back -/
def GetOK (xs : List UInt8) (w : World) (e : Ending) (w' : World) : Prop :=
  e = .returned (.tuple #[.agg (getT xs), .agg #[.int .i64 (getV xs).1, .int .i64 0, .int .i64 (getV xs).2]]) ∧ Below w.heap.size w w'

theorem results_row_row {P : Program} {w : World} {fn : Func} {p q : Tmp} {ty tz : TypeId} (h : fn.results = #[.cell p ty, .cell q tz]) (tmps : Array Value) (g k : Nat) (t u : TypeId) (cs ds : Array Value) (fr fs : Nat × Nat) (d d' : TypeDesc)
    (hp : tmps.getD p undef = .pointer (some ⟨g, 0, none⟩)) (hg : w.heap[g]? = some (.cells cs t fr))
    (hu : P.underlying ty = some d) (hd : (match d with | .struct _ | .array _ _ => true | _ => false) = true) (hi : (P.info? ty).map (·.size) = some cs.size)
    (hq : tmps.getD q undef = .pointer (some ⟨k, 0, none⟩)) (hk : w.heap[k]? = some (.cells ds u fs))
    (hu' : P.underlying tz = some d') (hd' : (match d' with | .struct _ | .array _ _ => true | _ => false) = true) (hi' : (P.info? tz).map (·.size) = some ds.size) :
    (results fn tmps).run P w = .ok (.tuple #[.agg cs, .agg ds]) w := by
  have hp' : tmps[p]?.getD undef = .pointer (some ⟨g, 0, none⟩) := by simpa using hp
  have hq' : tmps[q]?.getD undef = .pointer (some ⟨k, 0, none⟩) := by simpa using hq
  simp [results, h, hp', hq', asAddr, run_loadVar_row w g t ty cs fr d hg hu hd hi, run_loadVar_row w k u tz ds fs d' hk hu' hd' hi']
theorem infoF : (Try.prog.info? 47).map (·.size) = some 3 := by kernel_rfl
theorem new3 (w : World) (o1 o2 o3 : Obj) : (((w.alloc o1).alloc o2).alloc o3).heap[w.heap.size]? = some o1 ∧ (((w.alloc o1).alloc o2).alloc o3).heap[w.heap.size + 1]? = some o2 ∧ (((w.alloc o1).alloc o2).alloc o3).heap[w.heap.size + 1 + 1]? = some o3 := by
  have a1 := heap_alloc_new w o1
  have a2 := heap_alloc_new (w.alloc o1) o2
  have a3 := heap_alloc_new ((w.alloc o1).alloc o2) o3
  simp only [World.size_alloc] at a2 a3
  have up : ∀ (W : World) (o o' : Obj) (k : Nat), W.heap[k]? = some o → (W.alloc o').heap[k]? = some o := fun W o o' k h => (Below.heap_alloc W o' k (Array.getElem?_eq_some_iff.1 h).1).trans h
  exact ⟨up _ _ _ _ (up _ _ _ _ a1), up _ _ _ _ a2, a3⟩
def fltA (x z : Int) : Array Value := #[.int .i64 x, .int .i64 0, .int .i64 z]
theorem flt_all (x z : Int) : (fltA x z).all (·.oneCell') = true := by simp [fltA, Value.oneCell']

/-- the three variables that Get begins with -/
structure GtW (W : World) (b : Nat) (A : Option Addr) (n c : Nat) (T : Array Value) (x z : Int) : Prop where
  r0 : W.heap[b]? = some (.cells #[.slice A n c] 50 (0, 0))
  r1 : W.heap[b + 1]? = some (.cells T 25 (0, 0))
  r2 : W.heap[b + 1 + 1]? = some (.cells (fltA x z) 47 (0, 0))
section
variable {W W' : World} {b : Nat} {A : Option Addr} {n c : Nat} {T : Array Value} {x z : Int}
theorem GtW.after (h : GtW W b A n c T x z) (hb : Below W.heap.size W W') : GtW W' b A n c T x z := by
  have up : ∀ {k : Nat} {o : Obj}, W.heap[k]? = some o → W'.heap[k]? = some o := fun {k o} hk => (hb.block k (Array.getElem?_eq_some_iff.1 hk).1).trans hk
  exact ⟨up h.r0, up h.r1, up h.r2⟩
theorem GtW.lt (h : GtW W b A n c T x z) : b + 3 ≤ W.heap.size := by
  have := (Array.getElem?_eq_some_iff.1 h.r2).1
  omega
theorem GtW.tab (h : GtW W b A n c T x z) (T' : Array Value) (hs : T'.size = T.size) : GtW (W.setRow (b + 1) T') b A n c T' x z :=
  ⟨(setRow_other W (b + 1) b T' (by omega)).trans h.r0, setRow_heap W (b + 1) T T' 25 (0, 0) h.r1, (setRow_other W (b + 1) (b + 1 + 1) T' (by omega)).trans h.r2⟩
theorem GtW.flt (h : GtW W b A n c T x z) (x' z' : Int) : GtW (W.setRow (b + 1 + 1) (fltA x' z')) b A n c T x' z' :=
  ⟨(setRow_other W (b + 1 + 1) b _ (by omega)).trans h.r0, (setRow_other W (b + 1 + 1) (b + 1) _ (by omega)).trans h.r1, setRow_heap W (b + 1 + 1) (fltA x z) (fltA x' z') 47 (0, 0) h.r2⟩
theorem GtW.results (h : GtW W b A n c T x z) (hT : T.size = 16) (tmps : Array Value) (h2 : tmps.getD 2 undef = .pointer (some ⟨b + 1, 0, none⟩)) (h3 : tmps.getD 3 undef = .pointer (some ⟨b + 1 + 1, 0, none⟩)) :
    (results Try.f19 tmps).run Try.prog W = .ok (.tuple #[.agg T, .agg (fltA x z)]) W :=
  results_row_row rfl tmps (b + 1) (b + 1 + 1) _ _ T (fltA x z) (0, 0) (0, 0) _ _ h2 h.r1 Try.underlying25 rfl (by rw [hT]; exact infoT) h3 h.r2 Try.underlying47 rfl infoF
end
theorem getT_no {xs : List UInt8} {x z : Int} (h : getV xs = (x, z)) (hx : x ≠ 0) : getT xs = tabZ := by unfold getT; rw [h, if_neg hx]
theorem getV_head {xs : List UInt8} {x z : Int} (h : headV xs = (x, z)) (hx : x ≠ 0) : getV xs = (x, z) := by unfold getV; rw [h, if_pos hx]

set_option maxRecDepth 100000 in
set_option maxHeartbeats 4000000 in
theorem Get_fault (B : Nat) (A : Option Addr) (c : Nat) (xs : List UInt8) (w : World) (hR : Rd w B A xs) (hB : B ≤ w.heap.size) (hc : xs.length ≤ c) (hn : c ≤ 9223372036854775807) (hx : (headV xs).1 ≠ 0) :
    Calls Try.prog 19 #[.slice A xs.length c] w (GetOK xs w) := by
  obtain ⟨x, z, hxz⟩ : ∃ x z, headV xs = (x, z) := ⟨_, _, rfl⟩
  rw [hxz] at hx
  have hx : x ≠ 0 := hx
  have HV := Lib.hid (getV_head hxz hx)
  have HXZ := Lib.hid hxz
  obtain ⟨a0, a1, a2⟩ := new3 w (.cells #[.slice A xs.length c] 50) (.cells tabZ 25) (.cells (fltA 0 0) 47)
  have G0 := Lib.hid (show GtW _ w.heap.size A xs.length c tabZ 0 0 from ⟨a0, a1, a2⟩)
  have HR0 := Lib.hid (((hR.alloc hB (.cells #[.slice A xs.length c] 50)).alloc (by simp; omega) (.cells tabZ 25)).alloc (by simp; omega) (.cells (fltA 0 0) 47))
  have B0 := Lib.hid ((((Below.refl w.heap.size w).alloc (Nat.le_refl _) (.cells #[.slice A xs.length c] 50)).alloc (by simp) (.cells tabZ 25)).alloc (by simp; omega) (.cells (fltA 0 0) 47))
  clear hxz a0 a1 a2 hR
  go_enter Try.func19, Try.ntmps19
  go_upto_region 1 with fail
  rw [show (Obj.cells #[Value.int IntKind.u64 0, Value.int IntKind.i64 0, Value.int IntKind.i64 0, Value.int IntKind.i64 0, Value.int IntKind.i64 0, Value.int IntKind.i64 0, Value.int IntKind.i64 0, Value.int IntKind.i64 0, Value.int IntKind.i64 0, Value.int IntKind.i64 0, Value.int IntKind.i64 0, Value.int IntKind.i64 0, Value.int IntKind.i64 0, Value.int IntKind.i64 0, Value.int IntKind.i64 0, Value.int IntKind.i64 0] 25) = .cells tabZ 25 from rfl,
    show (Obj.cells #[Value.int IntKind.i64 0, Value.int IntKind.i64 0, Value.int IntKind.i64 0] 47) = .cells (fltA 0 0) 47 from rfl]
  generalize (((w.alloc (.cells #[.slice A xs.length c] 50)).alloc (.cells tabZ 25)).alloc (.cells (fltA 0 0) 47)) = w0 at *
  generalize hb : w.heap.size = b at *
  have HB := Lib.hid hb
  clear hb
  obtain ⟨y0, yf⟩ := one_cell G0.out.r0
  have hlt0 := G0.out.lt
  go_wp2_with fail
  refine (head_any B A c xs w0 HR0.out (by omega) hc hn).mono ?_
  rintro e w1 ⟨rfl, hb1⟩
  rw [HXZ.out]
  have G1 := Lib.hid (G0.out.after hb1)
  have B1 := Lib.hid (B0.out.trans (hb1.mono (by omega)))
  clear y0 yf G0 B0 HR0 hb1
  have hne : (x == 0) = false := by simpa using hx
  have hlt1 := G1.out.lt
  go_upto_region 3 with fail
  have hg := heap_alloc_new w1 (.cells (fltA x z) 47)
  have G2 := Lib.hid (G1.out.after ((Below.refl _ w1).alloc (Nat.le_refl _) (.cells (fltA x z) 47)))
  have B2 := Lib.hid (B1.out.alloc (by omega) (.cells (fltA x z) 47))
  rw [show (Obj.cells #[Value.int IntKind.i64 x, Value.int IntKind.i64 0, Value.int IntKind.i64 z] 47) = .cells (fltA x z) 47 from rfl]
  generalize w1.alloc (.cells (fltA x z) 47) = w2 at *
  generalize w1.heap.size = g at *
  clear G1 B1
  refine wp_region_Z (fun u => u.heap[g]? = some (.cells (fltA x z) 47 (0, 0))) 100 (by kernel_rfl) ?_
  have hgd : w2.drew.heap[g]? = some (.cells (fltA x z) 47 (0, 0)) := hg
  have G3 := Lib.hid (G2.out.after (Below.drew' (Below.refl _ w2)))
  have B3 := Lib.hid (Below.drew' B2.out)
  clear G2 B2 hg
  generalize w2.drew = w3 at *
  refine anyZ_take 0 (.agg tabZ) rfl (by kernel_rfl) (by kernel_rfl) (by kernel_rfl) (by kernel_rfl) (fun _ _ _ h => h) (by rfl) hgd (fun w' _ => exec_build _ _ rfl _ (by kernel_rfl)) ?_
  refine anyZ_take 1 (.agg (fltA x z)) rfl (by kernel_rfl) (by kernel_rfl) (by kernel_rfl) (by kernel_rfl) (fun _ _ _ h => h) (by rfl) hgd (fun w' hw' => exec_load_row 47 (.tmp 4) rfl g rfl 47 (fltA x z) (0, 0) _ hw' Try.underlying47 rfl infoF) ?_
  refine anyZ_next 2 rfl (by kernel_rfl) (fun K hK => ?_)
  rw [if_pos (by rfl)]
  refine operWp_store_row 25 (.tmp 2) (.tmp 20) rfl (b + 1) tabZ rfl rfl 25 tabZ G3.out.r1 infoT rfl (tab_all _ _ _ _) ?_
  have G4 := Lib.hid (G3.out.tab tabZ rfl)
  have B4 := Lib.hid (setRow_below B3.out (show b ≤ b + 1 by omega) tabZ)
  have hge : b + 3 ≤ g := hlt1
  have hgd2 := (setRow_other w3 (b + 1) g tabZ (by omega)).trans hgd
  refine hK _ _ (fun _ => hgd2) ?_
  clear hK K
  refine anyZ_next 3 rfl (by kernel_rfl) (fun K hK => ?_)
  rw [if_pos (by rfl)]
  refine operWp_store_row 47 (.tmp 3) (.tmp 21) rfl (b + 1 + 1) (fltA x z) rfl rfl 47 (fltA 0 0) G4.out.r2 infoF rfl (flt_all _ _) ?_
  have G5 := Lib.hid (G4.out.flt x z)
  have B5 := Lib.hid (setRow_below B4.out (show b ≤ b + 1 + 1 by omega) (fltA x z))
  have hgd3 := (setRow_other (w3.setRow (b + 1) tabZ) (b + 1 + 1) g (fltA x z) (by omega)).trans hgd2
  refine hK _ _ (fun _ => hgd3) ?_
  clear hK K
  refine anyZ_done (by kernel_rfl) ?_ _
  go_wp2
  refine bodyPost_ret (v := .tuple #[.agg tabZ, .agg (fltA x z)]) (G5.out.results rfl _ rfl rfl) rfl ⟨?_, by rw [HB.out]; exact B5.out⟩
  rw [HV.out, getT_no HV.out hx]
  rfl
end Go.Proofs.Ythnognjcbjgkbaa
