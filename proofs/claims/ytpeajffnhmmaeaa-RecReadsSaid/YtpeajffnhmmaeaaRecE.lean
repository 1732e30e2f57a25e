/-
  The reader's wrong and most; a Get function under way.
-/
import Derived.Test.YtpeajffnhmmaeaaRecD
import Derived.Test.YtpeajffnhmmaeaaRec7
namespace Go.Proofs.Ytpeajffnhmmaeaa
set_option linter.unusedVariables false
open Go.RowKit

def wrC (fc : Int) : Int := if fc = 0 then 15 else fc
def wrA (fc fa p : Int) : Int := if fc = 0 then p else fa
def mstC (fc x lim : Int) : Int := if lim < x then wrC fc else fc
def mstA (fc fa x lim p : Int) : Int := if lim < x then wrA fc fa p else fa
theorem wrC_clean {fc fa p : Int} (h : Clean 15 fc fa) : Clean 15 (wrC fc) (wrA fc fa p) := by
  rcases h with ⟨rfl, rfl⟩ | rfl <;> right <;> rfl
theorem mstC_clean {fc fa x lim p : Int} (h : Clean 15 fc fa) : Clean 15 (mstC fc x lim) (mstA fc fa x lim p) := by
  unfold mstC mstA
  split
  · exact wrC_clean h
  · exact h
theorem zeroC_clean {dc da z : Int} (h : Clean 14 dc da) : Clean 14 (zeroC dc z) (zeroA dc da z) := by
  unfold zeroC zeroA
  split
  · right; rfl
  · exact h

set_option maxRecDepth 20000 in
set_option maxHeartbeats 400000 in
theorem wrong_any (A : Option Addr) (n c : Nat) (a off fc fa dc da : Int) (r : Nat) (w : World) (hr : Rdr w r A n c a fc fa dc da) (ha : -9223372036854775808 ≤ a + off ∧ a + off ≤ 9223372036854775807) (hf : Clean 15 fc fa) :
    Calls Try.prog 83 #[.pointer (some ⟨r, 0, none⟩), .int .i64 off] w fun e w' => e = .returned (.tuple #[]) ∧ Rdr w' r A n c a (wrC fc) (wrA fc fa (a + off)) dc da ∧ Chg (· = r) w w' := by
  obtain ⟨h0, h1, h2, h3, h4, h5, h6, h7⟩ := hr.cells
  have HR := Lib.hid hr
  have hfz := hr.frozen
  have hw : IntKind.i64.wrap (a + off) = a + off := IntWalk.i64_in _ (by omega)
  clear hr
  rcases hf with ⟨rfl, rfl⟩ | rfl
  · go_enter Try.func83, Try.ntmps83
    go_wp2
    go_end0
    exact ⟨rfl, HR.out.field 15 (a + off), (Chg.refl _ w).three _ _ _ _ _ _⟩
  · go_enter Try.func83, Try.ntmps83
    go_wp2
    go_end0
    exact ⟨rfl, HR.out, Chg.refl _ w⟩

set_option maxRecDepth 20000 in
set_option maxHeartbeats 400000 in
theorem most_any (B : Nat) (A : Option Addr) (c : Nat) (xs : List UInt8) (a off fc fa dc da : Int) (lim : Nat) (r : Nat) (w : World) (hr : Rdr w r A xs.length c a fc fa dc da) (hR : Rd w B A xs) (hc : xs.length ≤ c) (hn : c ≤ 9223372036854775807)
    (ha : -9223372036854775808 ≤ a + off ∧ a + off ≤ 9223372036854775807) (hf : Clean 15 fc fa) :
    Calls Try.prog 55 #[.pointer (some ⟨r, 0, none⟩), .int .i64 off, .int .u8 (lim : Int)] w fun e w' =>
      e = .returned (.int .u8 ((numV xs (a + off) 1 : Nat) : Int)) ∧ Rdr w' r A xs.length c a (mstC fc (numV xs (a + off) 1) lim) (mstA fc fa (numV xs (a + off) 1) lim (a + off)) dc da ∧ Chg (· = r) w w' := by
  have H := Lib.hid (rd_u8 B A c xs a off fc fa dc da r w hr hR hc hn ha)
  have HW := Lib.hid (fun q => wrong_any A xs.length c a off fc fa dc da r (w.drewN q) (hr.drewN q) ha hf)
  have HR := Lib.hid hr
  generalize numV xs (a + off) 1 = x at *
  clear hR hr
  by_cases hx : (lim : Int) < (x : Int)
  · have e1 : mstC fc x lim = wrC fc := by unfold mstC; rw [if_pos hx]
    have e2 : mstA fc fa x lim (a + off) = wrA fc fa (a + off) := by unfold mstA; rw [if_pos hx]
    have E1 := Lib.hid e1
    have E2 := Lib.hid e2
    rw [E1.out, E2.out]
    have hd : decide (lim < x) = true := decide_eq_true (by omega)
    clear e1 e2
    go_enter Try.func55, Try.ntmps55
    go_wp2_with fail
    refine H.out.mono ?_
    rintro e w1 ⟨rfl, q, rfl⟩
    go_wp2_with fail
    refine (HW.out q).mono ?_
    rintro e w2 ⟨rfl, hr2, hc2⟩
    have HR2 := Lib.hid hr2
    have HC2 := Lib.hid hc2
    clear hr2 hc2
    go_wp2_with fail
    go_ret
    exact ⟨rfl, HR2.out, ((Chg.refl _ w).drewN q).trans HC2.out (fun _ _ h => h)⟩
  · have e1 : mstC fc x lim = fc := by unfold mstC; rw [if_neg hx]
    have e2 : mstA fc fa x lim (a + off) = fa := by unfold mstA; rw [if_neg hx]
    have E1 := Lib.hid e1
    have E2 := Lib.hid e2
    rw [E1.out, E2.out]
    have hd : decide (lim < x) = false := decide_eq_false (by omega)
    clear e1 e2
    go_enter Try.func55, Try.ntmps55
    go_wp2_with fail
    refine H.out.mono ?_
    rintro e w1 ⟨rfl, q, rfl⟩
    go_wp2_with fail
    go_ret
    exact ⟨rfl, HR.out.drewN q, (Chg.refl _ w).drewN q⟩

/-- a Get function under way: the reader; the two result variables, as they were made -/
structure GSt (w wi : World) (Z : Array Value) (ty : Nat) (r : Nat) (A : Option Addr) (n c : Nat) (a fc fa dc da : Int) : Prop where
  rd : Rdr wi r A n c a fc fa dc da
  q1 : wi.heap[w.heap.size]? = some (.cells Z ty (0, 0))
  q2 : wi.heap[w.heap.size + 1]? = some (.cells #[.int .i64 0, .int .i64 0, .int .i64 0] 34 (0, 0))
  bel : Below w.heap.size w wi
  far : w.heap.size + 2 ≤ r
/-- .. and what is left of it behind done -/
structure GEnd (w wi : World) (Z : Array Value) (ty : Nat) : Prop where
  q1 : wi.heap[w.heap.size]? = some (.cells Z ty (0, 0))
  q2 : wi.heap[w.heap.size + 1]? = some (.cells #[.int .i64 0, .int .i64 0, .int .i64 0] 34 (0, 0))
  bel : Below w.heap.size w wi
section
variable {w wi w' : World} {Z : Array Value} {ty r n c : Nat} {A : Option Addr} {a fc fa dc da fc' fa' dc' da' : Int}
theorem GSt.lt (h : GSt w wi Z ty r A n c a fc fa dc da) : w.heap.size + 1 < wi.heap.size := (Array.getElem?_eq_some_iff.1 h.q2).1
theorem GSt.chg (h : GSt w wi Z ty r A n c a fc fa dc da) (hr : Rdr w' r A n c a fc' fa' dc' da') (hc : Chg (· = r) wi w') : GSt w w' Z ty r A n c a fc' fa' dc' da' := by
  have hf := h.far
  exact ⟨hr, hc.obj h.q1 (fun e => by omega), hc.obj h.q2 (fun e => by omega), h.bel.trans (hc.below (fun k e => by omega) h.bel.size), hf⟩
theorem GSt.next (h : GSt w wi Z ty r A n c a fc fa dc da) (hb : Below wi.heap.size wi w') : GSt w w' Z ty r A n c a fc fa dc da :=
  ⟨h.rd.below hb, (hb.block _ (Array.getElem?_eq_some_iff.1 h.q1).1).trans h.q1, (hb.block _ (Array.getElem?_eq_some_iff.1 h.q2).1).trans h.q2, h.bel.trans (hb.mono h.bel.size), h.far⟩
theorem GSt.alloc (h : GSt w wi Z ty r A n c a fc fa dc da) (o : Obj) : GSt w (wi.alloc o) Z ty r A n c a fc fa dc da := h.next ((Below.refl _ wi).alloc (Nat.le_refl _) o)
theorem GSt.drewN (h : GSt w wi Z ty r A n c a fc fa dc da) (q : Nat) : GSt w (wi.drewN q) Z ty r A n c a fc fa dc da := ⟨h.rd.drewN q, h.q1, h.q2, ⟨h.bel.os, h.bel.tape, h.bel.output, h.bel.size, h.bel.block⟩, h.far⟩
theorem GSt.end_ (h : GSt w wi Z ty r A n c a fc fa dc da) (hb : Below wi.heap.size wi w') : GEnd w w' Z ty := let g := h.next hb; ⟨g.q1, g.q2, g.bel⟩
theorem GSt.start {o1 o2 : Obj} (h1 : o1 = .cells Z ty) (h2 : o2 = .cells #[.int .i64 0, .int .i64 0, .int .i64 0] 34) (h : Rdr w' r A n c a 0 0 0 0) (hr : ((w.alloc o1).alloc o2).heap.size ≤ r) (hb : Below ((w.alloc o1).alloc o2).heap.size ((w.alloc o1).alloc o2) w') : GSt w w' Z ty r A n c a 0 0 0 0 := by
  subst h1; subst h2
  exact ⟨h, (hb.block w.heap.size (by simp; omega)).trans (two_new w _ _).1, (hb.block (w.heap.size + 1) (by simp)).trans (two_new w _ _).2, (((Below.refl _ w).alloc (Nat.le_refl _) _).alloc (by simp) _).trans (hb.mono (by simp; omega)), by simpa using hr⟩
end
section
variable {w wi : World} {Z : Array Value} {ty r c : Nat} {A : Option Addr} {a fc fa dc da : Int} {B : Nat} {xs : List UInt8}
theorem GSt.zero (h : GSt w wi Z ty r A xs.length c a fc fa dc da) (hR : Rd w B A xs) (hB : B ≤ w.heap.size) (hc : xs.length ≤ c) (hn : c ≤ 9223372036854775807) (off m : Int)
    (ha : -9223372036854775808 ≤ a + off ∧ a + off ≤ 9223372036854775807) (hm : -9223372036854775808 ≤ m ∧ m ≤ 9223372036854775807) (hd : Clean 14 dc da) :
    Calls Try.prog 51 #[.pointer (some ⟨r, 0, none⟩), .int .i64 off, .int .i64 m] wi fun e w' => e = .returned (.tuple #[]) ∧ GSt w w' Z ty r A xs.length c a fc fa (zeroC dc (dirtyV xs (a + off) m)) (zeroA dc da (dirtyV xs (a + off) m)) :=
  (zero_any B A c xs a off m fc fa dc da r wi h.rd (hR.after hB h.bel) hc hn ha hm hd).mono fun _ _ ⟨he, hr, hch⟩ => ⟨he, h.chg hr hch⟩
theorem GSt.most (h : GSt w wi Z ty r A xs.length c a fc fa dc da) (hR : Rd w B A xs) (hB : B ≤ w.heap.size) (hc : xs.length ≤ c) (hn : c ≤ 9223372036854775807) (off : Int) (lim : Nat)
    (ha : -9223372036854775808 ≤ a + off ∧ a + off ≤ 9223372036854775807) (hf : Clean 15 fc fa) :
    Calls Try.prog 55 #[.pointer (some ⟨r, 0, none⟩), .int .i64 off, .int .u8 (lim : Int)] wi fun e w' => e = .returned (.int .u8 ((numV xs (a + off) 1 : Nat) : Int)) ∧
      GSt w w' Z ty r A xs.length c a (mstC fc (numV xs (a + off) 1) lim) (mstA fc fa (numV xs (a + off) 1) lim (a + off)) dc da :=
  (most_any B A c xs a off fc fa dc da lim r wi h.rd (hR.after hB h.bel) hc hn ha hf).mono fun _ _ ⟨he, hr, hch⟩ => ⟨he, h.chg hr hch⟩
theorem GSt.u8 (h : GSt w wi Z ty r A xs.length c a fc fa dc da) (hR : Rd w B A xs) (hB : B ≤ w.heap.size) (hc : xs.length ≤ c) (hn : c ≤ 9223372036854775807) (off : Int)
    (ha : -9223372036854775808 ≤ a + off ∧ a + off ≤ 9223372036854775807) :
    Calls Try.prog 82 #[.pointer (some ⟨r, 0, none⟩), .int .i64 off] wi fun e w' => e = .returned (.int .u8 ((numV xs (a + off) 1 : Nat) : Int)) ∧ GSt w w' Z ty r A xs.length c a fc fa dc da :=
  (rd_u8 B A c xs a off fc fa dc da r wi h.rd (hR.after hB h.bel) hc hn ha).mono fun _ _ ⟨he, q, hq⟩ => ⟨he, hq ▸ h.drewN q⟩
theorem GSt.u16 (h : GSt w wi Z ty r A xs.length c a fc fa dc da) (hR : Rd w B A xs) (hB : B ≤ w.heap.size) (hc : xs.length ≤ c) (hn : c ≤ 9223372036854775807) (off : Int)
    (ha : -9223372036854775808 ≤ a + off ∧ a + off ≤ 9223372036854775807) :
    Calls Try.prog 52 #[.pointer (some ⟨r, 0, none⟩), .int .i64 off] wi fun e w' => e = .returned (.int .u16 ((numV xs (a + off) 2 : Nat) : Int)) ∧ GSt w w' Z ty r A xs.length c a fc fa dc da :=
  (rd_u16 B A c xs a off fc fa dc da r wi h.rd (hR.after hB h.bel) hc hn ha).mono fun _ _ ⟨he, q, hq⟩ => ⟨he, hq ▸ h.drewN q⟩
theorem GSt.u32 (h : GSt w wi Z ty r A xs.length c a fc fa dc da) (hR : Rd w B A xs) (hB : B ≤ w.heap.size) (hc : xs.length ≤ c) (hn : c ≤ 9223372036854775807) (off : Int)
    (ha : -9223372036854775808 ≤ a + off ∧ a + off ≤ 9223372036854775807) :
    Calls Try.prog 54 #[.pointer (some ⟨r, 0, none⟩), .int .i64 off] wi fun e w' => e = .returned (.int .u32 ((numV xs (a + off) 4 : Nat) : Int)) ∧ GSt w w' Z ty r A xs.length c a fc fa dc da :=
  (rd_u32 B A c xs a off fc fa dc da r wi h.rd (hR.after hB h.bel) hc hn ha).mono fun _ _ ⟨he, q, hq⟩ => ⟨he, hq ▸ h.drewN q⟩
theorem GSt.u64 (h : GSt w wi Z ty r A xs.length c a fc fa dc da) (hR : Rd w B A xs) (hB : B ≤ w.heap.size) (hc : xs.length ≤ c) (hn : c ≤ 9223372036854775807) (off : Int)
    (ha : -9223372036854775808 ≤ a + off ∧ a + off ≤ 9223372036854775807) :
    Calls Try.prog 63 #[.pointer (some ⟨r, 0, none⟩), .int .i64 off] wi fun e w' => e = .returned (.int .u64 ((numV xs (a + off) 8 : Nat) : Int)) ∧ GSt w w' Z ty r A xs.length c a fc fa dc da :=
  (rd_u64 B A c xs a off fc fa dc da r wi h.rd (hR.after hB h.bel) hc hn ha).mono fun _ _ ⟨he, q, hq⟩ => ⟨he, hq ▸ h.drewN q⟩
end
end Go.Proofs.Ytpeajffnhmmaeaa
