/-
  One call on a builder and on the reference's bytes: the four numbers.
-/
import Derived.Test.YtlofceojchlmgaaBld2
import Derived.Deep.RegionHeld3
import Derived.Deep.QuietTactic
import Derived.BigQuiet
namespace Go.Proofs.Ytlofceojchlmgaa
set_option linter.unusedVariables false
open Go.RowKit

section
variable {P : Program} {w : World} {ops : Array Oper} {o : Oper} {a : Act} {K : Act → World → Prop} {Q : Exit → Act → World → Prop} {E : Prop}
/-- append to a row of the call's own, as a step of a region that draws -/
theorem step_app (hgd : o.guard = none) (s x : Operand) (T : TypeId) (ho : o.op = .call { callee := .builtin .append, args := #[s, x], argTypes := #[T, T] })
    (ht : P.underlying T = some (.slice U8t)) (hinfo : (P.info? U8t).map (fun i => (i.zero, i.size, i.bytes)) = some (some (.int .u8 0), 1, 1))
    (A : Option Addr) (n c : Nat) (xs : List UInt8) (hn : xs.length = n) (hs : a.eval s = .slice A n c) (hown : Own w A c xs) (B : Nat) (X : Option Addr) (m cx : Nat) (ys : List UInt8) (hm : ys.length = m) (hx : a.eval x = .slice X m cx) (hR : Rd w B X ys) (hlen : xs.length + ys.length ≤ 140737488355328)
    (h : ∀ A' c' w', Own w' A' c' (xs ++ ys) → w.grownBy w' (blk A) → (blk A' = blk A ∨ blk A' = some w.heap.size) → (A' = none → A = none ∧ ys = []) → K (a.put o.dst (.slice A' (xs ++ ys).length c')) w') : if Region.wanted o (yielded ops a.tmps) = true then Oper.wp P o a w K Q else E := by
  subst hn
  have hw : Region.wanted o (yielded ops a.tmps) = true := by simp [Region.wanted, hgd]
  rw [if_pos hw]
  obtain ⟨A', c', w', hr, h2, h3, h4, h5⟩ := run_app (P := P) (w := w) T o.type ht hinfo A c xs hown B X m cx ys hm hR hlen
  unfold Oper.wp execOp
  simp only [ho, resolve, invoke, builtin, Sem.run_bind, Sem.run_pure, Result.andThen_ok, List.map_toArray, List.map_cons, List.map_nil, hs, hx, hr]
  exact h A' c' w' h2 h3 h4 h5
end

theorem four_cells {w : World} {q ty : Nat} {x y z u : Value} (hq : w.heap[q]? = some (.cells #[x, y, z, u] ty (0, 0))) :
    w.cell? ⟨q, 0, none⟩ = some x ∧ w.cell? ⟨q, 1, none⟩ = some y ∧ w.cell? ⟨q, 2, none⟩ = some z ∧ w.cell? ⟨q, 3, none⟩ = some u := by
  refine ⟨?_, ?_, ?_, ?_⟩ <;> (rw [cell_of_row w q _ _ _ (0, 0) hq]; rfl)
theorem Grew.obj {w w' : World} {g : Nat} {A : Option Addr} {zs : List UInt8} (h : Grew w g A zs w') {k : Nat} {o : Obj} (ho : w.heap[k]? = some o) (hg : k ≠ g) (hA : blk A ≠ some k) : w'.heap[k]? = some o := by
  obtain ⟨_, _, _, hc, _⟩ := h
  exact hc.obj ho (fun h => h.elim hg hA)
theorem leB_mod (x m n : Nat) (h : m = 256 ^ n) : leB (x % m) n = leB x n := by
  subst h
  unfold leB
  apply List.map_congr_left
  intro j hj
  have hj : j < n := by simpa using hj
  apply UInt8.toNat_inj.1
  rw [UInt8.toNat_ofNat', UInt8.toNat_ofNat']
  have e : (2 : Nat) ^ (8 * j) = 256 ^ j := by rw [Nat.pow_mul]
  have e2 : (256 : Nat) ^ n = 256 ^ j * (256 * 256 ^ (n - j - 1)) := by
    rw [← Nat.mul_assoc, ← Nat.pow_succ, ← Nat.pow_add]
    congr 1
    omega
  show x % 256 ^ n / 2 ^ (8 * j) % 256 = x / 2 ^ (8 * j) % 256
  rw [e, e2, Nat.mod_mul_right_div_self, Nat.mod_mul_right_mod]

/-- an Op's box, and the state before the call, seen from the box on -/
theorem Duo.boxed {w0 w : World} {g h : Nat} {Ab : Option Addr} {cb : Nat} {A : Option Addr} {c : Nat} {zs us : List UInt8} (d : Duo w0 w g h Ab cb A c zs us) (o : Obj) :
    Duo w0 (w.alloc o) g h Ab cb A c zs us ∧ (w.alloc o).heap[w.heap.size]? = some o ∧ w.heap.size ≠ g ∧ blk Ab ≠ some w.heap.size ∧ w.heap.size ≠ h :=
  ⟨d.alloc o, heap_alloc_new w o, fun e => by have := d.bld.lt; omega, fun e => by have := d.bld.own.lt _ e; omega, fun e => by have := d.lt; omega⟩

/-- what a call leaves -/
def Done (w0 : World) (g h : Nat) (zs : List UInt8) (e : Ending) (w' : World) : Prop := e = .returned (.bool true) ∧ Both w0 w' g h zs zs

set_option maxRecDepth 100000 in
set_option maxHeartbeats 1600000 in
theorem do_0 (w0 w : World) (g h : Nat) (zs : List UInt8) (hd : Both w0 w g h zs zs) (n : Int) (x : Nat) (hx : x < 18446744073709551616) (X : Option Addr) (m cx : Nat) (hlen : zs.length ≤ 1000000) :
    Calls Try.prog 31 #[.pointer (some ⟨g, 0, none⟩), .pointer (some ⟨h, 0, none⟩), .agg #[.int .i64 0, .int .i64 n, .int .u64 (x : Int), .slice X m cx]] w (Done w0 g h (zs ++ leB x 1)) := by
  obtain ⟨Ab, cb, A, c, d⟩ := hd
  obtain ⟨d1, hbox, n1, n2, n3⟩ := d.boxed (.cells #[.int .i64 0, .int .i64 n, .int .u64 (x : Int), .slice X m cx] 60)
  have hbl : w.heap.size < (w.alloc (.cells #[.int .i64 0, .int .i64 n, .int .u64 (x : Int), .slice X m cx] 60)).heap.size := by simp
  have HD1 := Lib.hid d1
  have HBX := Lib.hid hbox
  have HN := Lib.hid (And.intro n1 (And.intro n2 n3))
  have E16 : IntKind.u16.wrap (x : Int) = (x : Int) % 65536 := IntKind.wrap_u16 _
  clear d d1 hbox n1 n2 n3
  go_enter Try.func31, Try.ntmps31
  go_wp2_with fail
  refine (putU8 g cb Ab zs (x % 256) _ HD1.out.bld (by omega) (by omega)).mono ?_
  rintro e w2 ⟨rfl, hG⟩
  rw [(leB_mod x _ 1 rfl)] at hG
  have hbox2 := hG.obj HBX.out HN.out.1 HN.out.2.1
  obtain ⟨A2, c2, d2⟩ := HD1.out.grew hG
  obtain ⟨k0, k1, k2, k3⟩ := four_cells hbox2
  have hc := d2.cell
  have hf := d2.frozen
  have hb2 : w.heap.size < w2.heap.size := (Array.getElem?_eq_some_iff.1 hbox2).1
  have HD2 := Lib.hid d2.drew
  have HB2 := Lib.hid hbox2
  clear hG d2 hbox2 HBX
  generalize hb : w.heap.size = b at *
  go_wp2_with fail
  go_region_with (first
    | (go_at_call 45; refine (refAppend_any w2.drew.heap.size A zs.length c zs x 1 w2.drew rfl HD2.out.own.rd (Nat.le_refl _) (by omega) hx (by omega)).mono ?_; rintro e w3 ⟨A3, c3, rfl, ho3, hf3', hb3⟩; have hc3 := (HD2.out.next hb3).cell; have hf3 := (HD2.out.next hb3).frozen; have HD3 := Lib.hid (HD2.out.got ho3 (.inr hf3') hb3); clear ho3 hf3' hb3))
  all_goals
    go_wp2
    go_ret
    have h3 := HD3.out
    rw [List.length_append] at h3
    exact ⟨rfl, _, _, _, _, h3⟩
set_option maxRecDepth 100000 in
set_option maxHeartbeats 1600000 in
theorem do_1 (w0 w : World) (g h : Nat) (zs : List UInt8) (hd : Both w0 w g h zs zs) (n : Int) (x : Nat) (hx : x < 18446744073709551616) (X : Option Addr) (m cx : Nat) (hlen : zs.length ≤ 1000000) :
    Calls Try.prog 31 #[.pointer (some ⟨g, 0, none⟩), .pointer (some ⟨h, 0, none⟩), .agg #[.int .i64 1, .int .i64 n, .int .u64 (x : Int), .slice X m cx]] w (Done w0 g h (zs ++ leB x 2)) := by
  obtain ⟨Ab, cb, A, c, d⟩ := hd
  obtain ⟨d1, hbox, n1, n2, n3⟩ := d.boxed (.cells #[.int .i64 1, .int .i64 n, .int .u64 (x : Int), .slice X m cx] 60)
  have hbl : w.heap.size < (w.alloc (.cells #[.int .i64 1, .int .i64 n, .int .u64 (x : Int), .slice X m cx] 60)).heap.size := by simp
  have HD1 := Lib.hid d1
  have HBX := Lib.hid hbox
  have HN := Lib.hid (And.intro n1 (And.intro n2 n3))
  have E16 : IntKind.u16.wrap (x : Int) = (x : Int) % 65536 := IntKind.wrap_u16 _
  clear d d1 hbox n1 n2 n3
  go_enter Try.func31, Try.ntmps31
  go_wp2_with fail
  refine (putU16 g cb Ab zs (x % 65536) _ HD1.out.bld (by omega) (by omega)).mono ?_
  rintro e w2 ⟨rfl, hG⟩
  rw [(leB_mod x _ 2 rfl)] at hG
  have hbox2 := hG.obj HBX.out HN.out.1 HN.out.2.1
  obtain ⟨A2, c2, d2⟩ := HD1.out.grew hG
  obtain ⟨k0, k1, k2, k3⟩ := four_cells hbox2
  have hc := d2.cell
  have hf := d2.frozen
  have hb2 : w.heap.size < w2.heap.size := (Array.getElem?_eq_some_iff.1 hbox2).1
  have HD2 := Lib.hid d2.drew
  have HB2 := Lib.hid hbox2
  clear hG d2 hbox2 HBX
  generalize hb : w.heap.size = b at *
  go_wp2_with fail
  go_region_with (first
    | (go_at_call 45; refine (refAppend_any w2.drew.heap.size A zs.length c zs x 2 w2.drew rfl HD2.out.own.rd (Nat.le_refl _) (by omega) hx (by omega)).mono ?_; rintro e w3 ⟨A3, c3, rfl, ho3, hf3', hb3⟩; have hc3 := (HD2.out.next hb3).cell; have hf3 := (HD2.out.next hb3).frozen; have HD3 := Lib.hid (HD2.out.got ho3 (.inr hf3') hb3); clear ho3 hf3' hb3))
  all_goals
    go_wp2
    go_ret
    have h3 := HD3.out
    rw [List.length_append] at h3
    exact ⟨rfl, _, _, _, _, h3⟩
set_option maxRecDepth 100000 in
set_option maxHeartbeats 1600000 in
theorem do_2 (w0 w : World) (g h : Nat) (zs : List UInt8) (hd : Both w0 w g h zs zs) (n : Int) (x : Nat) (hx : x < 18446744073709551616) (X : Option Addr) (m cx : Nat) (hlen : zs.length ≤ 1000000) :
    Calls Try.prog 31 #[.pointer (some ⟨g, 0, none⟩), .pointer (some ⟨h, 0, none⟩), .agg #[.int .i64 2, .int .i64 n, .int .u64 (x : Int), .slice X m cx]] w (Done w0 g h (zs ++ leB x 4)) := by
  obtain ⟨Ab, cb, A, c, d⟩ := hd
  obtain ⟨d1, hbox, n1, n2, n3⟩ := d.boxed (.cells #[.int .i64 2, .int .i64 n, .int .u64 (x : Int), .slice X m cx] 60)
  have hbl : w.heap.size < (w.alloc (.cells #[.int .i64 2, .int .i64 n, .int .u64 (x : Int), .slice X m cx] 60)).heap.size := by simp
  have HD1 := Lib.hid d1
  have HBX := Lib.hid hbox
  have HN := Lib.hid (And.intro n1 (And.intro n2 n3))
  have E16 : IntKind.u16.wrap (x : Int) = (x : Int) % 65536 := IntKind.wrap_u16 _
  clear d d1 hbox n1 n2 n3
  go_enter Try.func31, Try.ntmps31
  go_wp2_with fail
  refine (putU32 g cb Ab zs (x % 4294967296) _ HD1.out.bld (by omega) (by omega)).mono ?_
  rintro e w2 ⟨rfl, hG⟩
  rw [(leB_mod x _ 4 rfl)] at hG
  have hbox2 := hG.obj HBX.out HN.out.1 HN.out.2.1
  obtain ⟨A2, c2, d2⟩ := HD1.out.grew hG
  obtain ⟨k0, k1, k2, k3⟩ := four_cells hbox2
  have hc := d2.cell
  have hf := d2.frozen
  have hb2 : w.heap.size < w2.heap.size := (Array.getElem?_eq_some_iff.1 hbox2).1
  have HD2 := Lib.hid d2.drew
  have HB2 := Lib.hid hbox2
  clear hG d2 hbox2 HBX
  generalize hb : w.heap.size = b at *
  go_wp2_with fail
  go_region_with (first
    | (go_at_call 45; refine (refAppend_any w2.drew.heap.size A zs.length c zs x 4 w2.drew rfl HD2.out.own.rd (Nat.le_refl _) (by omega) hx (by omega)).mono ?_; rintro e w3 ⟨A3, c3, rfl, ho3, hf3', hb3⟩; have hc3 := (HD2.out.next hb3).cell; have hf3 := (HD2.out.next hb3).frozen; have HD3 := Lib.hid (HD2.out.got ho3 (.inr hf3') hb3); clear ho3 hf3' hb3))
  all_goals
    go_wp2
    go_ret
    have h3 := HD3.out
    rw [List.length_append] at h3
    exact ⟨rfl, _, _, _, _, h3⟩
set_option maxRecDepth 100000 in
set_option maxHeartbeats 1600000 in
theorem do_3 (w0 w : World) (g h : Nat) (zs : List UInt8) (hd : Both w0 w g h zs zs) (n : Int) (x : Nat) (hx : x < 18446744073709551616) (X : Option Addr) (m cx : Nat) (hlen : zs.length ≤ 1000000) :
    Calls Try.prog 31 #[.pointer (some ⟨g, 0, none⟩), .pointer (some ⟨h, 0, none⟩), .agg #[.int .i64 3, .int .i64 n, .int .u64 (x : Int), .slice X m cx]] w (Done w0 g h (zs ++ leB x 8)) := by
  obtain ⟨Ab, cb, A, c, d⟩ := hd
  obtain ⟨d1, hbox, n1, n2, n3⟩ := d.boxed (.cells #[.int .i64 3, .int .i64 n, .int .u64 (x : Int), .slice X m cx] 60)
  have hbl : w.heap.size < (w.alloc (.cells #[.int .i64 3, .int .i64 n, .int .u64 (x : Int), .slice X m cx] 60)).heap.size := by simp
  have HD1 := Lib.hid d1
  have HBX := Lib.hid hbox
  have HN := Lib.hid (And.intro n1 (And.intro n2 n3))
  have E16 : IntKind.u16.wrap (x : Int) = (x : Int) % 65536 := IntKind.wrap_u16 _
  clear d d1 hbox n1 n2 n3
  go_enter Try.func31, Try.ntmps31
  go_wp2_with fail
  refine (putU64 g cb Ab zs (x) _ HD1.out.bld (by omega) (by omega)).mono ?_
  rintro e w2 ⟨rfl, hG⟩
  rw [(show leB x 8 = leB x 8 from rfl)] at hG
  have hbox2 := hG.obj HBX.out HN.out.1 HN.out.2.1
  obtain ⟨A2, c2, d2⟩ := HD1.out.grew hG
  obtain ⟨k0, k1, k2, k3⟩ := four_cells hbox2
  have hc := d2.cell
  have hf := d2.frozen
  have hb2 : w.heap.size < w2.heap.size := (Array.getElem?_eq_some_iff.1 hbox2).1
  have HD2 := Lib.hid d2.drew
  have HB2 := Lib.hid hbox2
  clear hG d2 hbox2 HBX
  generalize hb : w.heap.size = b at *
  go_wp2_with fail
  go_region_with (first
    | (go_at_call 45; refine (refAppend_any w2.drew.heap.size A zs.length c zs x 8 w2.drew rfl HD2.out.own.rd (Nat.le_refl _) (by omega) hx (by omega)).mono ?_; rintro e w3 ⟨A3, c3, rfl, ho3, hf3', hb3⟩; have hc3 := (HD2.out.next hb3).cell; have hf3 := (HD2.out.next hb3).frozen; have HD3 := Lib.hid (HD2.out.got ho3 (.inr hf3') hb3); clear ho3 hf3' hb3))
  all_goals
    go_wp2
    go_ret
    have h3 := HD3.out
    rw [List.length_append] at h3
    exact ⟨rfl, _, _, _, _, h3⟩
end Go.Proofs.Ytlofceojchlmgaa
