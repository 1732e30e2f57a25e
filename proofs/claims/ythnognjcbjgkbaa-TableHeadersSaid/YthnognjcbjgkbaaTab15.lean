/-
  What a header answers, in plain words; contracts of bytes.Equal, bytes.HasPrefix, the reference's at.
-/
import Derived.Test.YthnognjcbjgkbaaTab9
import Derived.Test.YthnognjcbjgkbaaDirty
import Derived.Laws.BytesArg
import Derived.Lib.SlBytesConst
namespace Go.Proofs.Ythnognjcbjgkbaa
set_option linter.unusedVariables false
open Go.RowKit

/-- the counts and the offsets that a header's table names -/
def cntX (xs : List UInt8) (s : Nat) : Int := if s = 0 then 0 else (numV xs (28 + 8 * (s : Int)) 4 : Nat)
def offX (xs : List UInt8) (s : Nat) : Int := (numV xs (24 + 8 * (s : Int)) 4 : Nat)
def magic4 : List UInt8 := [70, 78, 83, 84]
/-- the fixed fields: a code and an offset -/
def headV (xs : List UInt8) : Int × Int :=
  if xs.length < 84 then (8, xs.length) else if xs.take 4 ≠ magic4 then (9, 0) else if numV xs 4 2 ≠ 1 then (10, 4) else if numV xs 6 2 ≠ 80 then (13, 6) else if numV xs 8 4 ≠ xs.length then (11, 8)
  else if 0 ≤ dirtyV xs 12 4 then (14, dirtyV xs 12 4) else if 0 ≤ dirtyV xs 24 8 then (14, dirtyV xs 24 8) else (0, 0)
/-- the entries of the sections k + 1 .. k + n -/
def secX (xs : List UInt8) : Nat → Nat → Int × Int
  | _, 0 => (0, 0)
  | k, n + 1 => if limT (k + 1) < cntX xs (k + 1) then (7, 28 + 8 * ((k + 1 : Nat) : Int)) else if offX xs (k + 1) ≠ offT (cntX xs) k then (13, 24 + 8 * ((k + 1 : Nat) : Int)) else secX xs (k + 1) n
def getV (xs : List UInt8) : Int × Int :=
  if (headV xs).1 ≠ 0 then headV xs else if (secX xs 0 6).1 ≠ 0 then secX xs 0 6 else if totT (cntX xs) ≠ xs.length then (11, 8) else (0, 0)
def getT (xs : List UInt8) : Array Value := if (getV xs).1 = 0 then tabT (numV xs 16 8 : Nat) (cntX xs) else tabZ

theorem three_after {w : World} {q ty : Nat} {a b c : Value} (hq : w.heap[q]? = some (.cells #[a, b, c] ty (0, 0))) (x y z : Value) :
    (((w.setCell ⟨q, 0, none⟩ x).setCell ⟨q, 1, none⟩ y).setCell ⟨q, 2, none⟩ z).heap[q]? = some (.cells #[x, y, z] ty (0, 0)) := by
  simp [World.setCell, Array.getElem?_modify, hq]
theorem three_cells {w : World} {q ty : Nat} {x y z : Value} (hq : w.heap[q]? = some (.cells #[x, y, z] ty (0, 0))) :
    w.cell? ⟨q, 0, none⟩ = some x ∧ w.cell? ⟨q, 1, none⟩ = some y ∧ w.cell? ⟨q, 2, none⟩ = some z := by
  refine ⟨?_, ?_, ?_⟩ <;> (rw [cell_of_row w q _ _ _ (0, 0) hq]; rfl)
theorem three_below {B q : Nat} {w w1 : World} (h : Below B w w1) (hq : B ≤ q) (x y z : Value) : Below B w (((w1.setCell ⟨q, 0, none⟩ x).setCell ⟨q, 1, none⟩ y).setCell ⟨q, 2, none⟩ z) :=
  ((h.setCell hq x).setCell hq y).setCell hq z

/-- the string of some bytes -/
def strB (xs : List UInt8) : ByteArray := ⟨xs.toArray⟩
theorem strOfNums_bytes (xs : List UInt8) : strOfNums (xs.map fun c => (c.toNat : Int)) = strB xs := by
  have h : (strOfNums (xs.map fun c => (c.toNat : Int))).data.toList = xs := by
    rw [strOfNums_data, List.map_map]
    have e : ((fun n : Int => UInt8.ofNat n.toNat) ∘ fun c : UInt8 => (c.toNat : Int)) = id := by
      funext c; simp
    rw [e, List.map_id]
  have h2 : (strOfNums (xs.map fun c => (c.toNat : Int))).data = (strB xs).data := by
    apply Array.toList_inj.1; rw [h]; rfl
  exact ByteArray.ext h2
theorem strB_eq (xs ys : List UInt8) : ((strB xs).toList == (strB ys).toList) = decide (xs = ys) := by
  rw [ByteArray.toList_eq, ByteArray.toList_eq]
  show (xs == ys) = _
  by_cases h : xs = ys
  · subst h; simp
  · rw [decide_eq_false h]; exact beq_eq_false_iff_ne.2 h
theorem conv_bytes {w : World} {B : Nat} {A : Option Addr} {c n : Nat} {xs : List UInt8} (hn : xs.length = n) (hR : Rd w B A xs) : (convert 44 9 (.slice A n c)).run Try.prog w = .ok (.string (strB xs)) w := by
  subst hn
  by_cases h0 : xs = []
  · subst h0
    cases A with
    | none => exact run_convert_bytes_nil w 44 5 Try.underlying44 Try.underlying5 0 c 9 Try.underlying9
    | some ad =>
      have hl : (loadCells ad 0).run Try.prog w = .ok ((([] : List Int)).map (Value.int .u8)).toArray w := by
        have := run_loadCells_list (P := Try.prog) w ad [] (fun j v hv => by simp at hv)
        exact this
      show (convert 44 9 (.slice (some ad) 0 c)).run Try.prog w = _
      rw [run_convert_bytes_string w 44 9 5 _ 0 c Try.underlying44 Try.underlying5 Try.underlying9]
      rw [run_bytesToString w ad 0 c [] hl]
      rfl
  · obtain ⟨b, off, rfl, _, hc⟩ := hR.open_ h0
    rw [← strOfNums_bytes]
    refine run_convert_bytes_arg w 44 5 Try.underlying44 Try.underlying5 b off xs.length c (xs.map fun c => (c.toNat : Int)) (by simp) (fun i hi => ?_) 9 Try.underlying9
    rw [hc i hi]
    simp [bv, List.getD, hi]

theorem bytesEqual_any (B1 B2 : Nat) (A1 A2 : Option Addr) (n1 c1 n2 c2 : Nat) (xs ys : List UInt8) (w : World) (h1 : xs.length = n1) (h2 : ys.length = n2) (hR1 : Rd w B1 A1 xs) (hR2 : Rd w B2 A2 ys) :
    Calls Try.prog 56 #[.slice A1 n1 c1, .slice A2 n2 c2] w fun e w' => e = .returned (.bool (decide (xs = ys))) ∧ w = w' := by
  have k1 := conv_bytes (c := c1) h1 hR1
  have k2 := conv_bytes (c := c2) h2 hR2
  have E := Lib.hid (strB_eq xs ys)
  clear h1 h2 hR1 hR2
  go_enter Try.func56, Try.ntmps56
  go_wp2
  go_ret
  refine ⟨?_, rfl⟩
  rw [← E.out]
  rfl

theorem HasPrefix_any (B1 B2 : Nat) (A1 A2 : Option Addr) (c1 c2 : Nat) (xs ys : List UInt8) (w : World) (hR1 : Rd w B1 A1 xs) (hR2 : Rd w B2 A2 ys) (hc : xs.length ≤ c1) (hn : c1 ≤ 9223372036854775807) (hle : ys.length ≤ xs.length) :
    Calls Try.prog 47 #[.slice A1 xs.length c1, .slice A2 ys.length c2] w fun e w' => e = .returned (.bool (decide (xs.take ys.length = ys))) ∧ w = w' := by
  have H := Lib.hid (fun A c => bytesEqual_any B1 B2 A A2 ys.length c ys.length c2 (xs.take ys.length) ys w (by simp; omega) rfl)
  go_enter Try.func47, Try.ntmps47
  go_wp2_with fail
  refine (H.out A1 c1 (hR1.take _) hR2).mono ?_
  rintro e w' ⟨rfl, rfl⟩
  go_wp2
  go_ret
  exact ⟨rfl, rfl⟩

theorem refAt_any (B : Nat) (A : Option Addr) (c : Nat) (xs : List UInt8) (a m : Int) (w : World) (hR : Rd w B A xs) (hc : xs.length ≤ c) (hn : c ≤ 9223372036854775807)
    (ha : -9223372036854775808 ≤ a ∧ a ≤ 9223372036854775807) (hm : 0 ≤ m ∧ m ≤ 8) :
    Calls Try.prog 37 #[.slice A xs.length c, .int .i64 a, .int .i64 m] w fun e w' => e = .returned (.int .u64 ((numV xs a m : Nat) : Int)) ∧ w = w' := by
  have H := Lib.hid (refNumber_any B A c xs a m w hR hc hn ha hm)
  clear hR hc hn ha hm
  go_enter Try.func37, Try.ntmps37
  go_wp2_with fail
  refine H.out.mono ?_
  rintro e w' ⟨rfl, rfl⟩
  go_wp2_with fail
  go_ret
  exact ⟨rfl, rfl⟩

/-- what head hands back -/
def HeadOK (xs : List UInt8) (w : World) (e : Ending) (w' : World) : Prop :=
  e = .returned (.agg #[.int .i64 (headV xs).1, .int .i64 0, .int .i64 (headV xs).2]) ∧ Below w.heap.size w w'

theorem Rd.lit4 (w : World) (t : Nat) (fr : Nat × Nat) : Rd (w.alloc (.cells #[.int .u8 70, .int .u8 78, .int .u8 83, .int .u8 84] t fr)) (w.heap.size + 1) (some ⟨w.heap.size, 0, none⟩) magic4 := by
  refine .inr ⟨_, 0, rfl, by omega, fun j hj => ?_⟩
  rw [Nat.zero_add, cell_of_row _ _ _ _ _ _ (heap_alloc_new w _)]
  have : j = 0 ∨ j = 1 ∨ j = 2 ∨ j = 3 := by simp [magic4] at hj; omega
  rcases this with rfl | rfl | rfl | rfl <;> rfl

set_option maxRecDepth 100000 in
set_option maxHeartbeats 4000000 in
theorem head_any (B : Nat) (A : Option Addr) (c : Nat) (xs : List UInt8) (w : World) (hR : Rd w B A xs) (hB : B ≤ w.heap.size) (hc : xs.length ≤ c) (hn : c ≤ 9223372036854775807) :
    Calls Try.prog 34 #[.slice A xs.length c] w (HeadOK xs w) := by
  have hret : ∀ (x z : Int) (a : Act) (wf : World), wf.heap[w.heap.size]? = some (.cells #[.int .i64 x, .int .i64 0, .int .i64 z] 47 (0, 0)) → Below w.heap.size w wf → headV xs = (x, z) → a.defers = [] → a.tmps.getD 2 undef = .pointer (some ⟨w.heap.size, 0, none⟩) →
      bodyPost Try.prog Try.f34 (HeadOK xs w) .ret a wf := by
    intro x z a wf hh hb hE hd h2
    obtain ⟨p0, p1, p2⟩ := three_cells hh
    have h2' : a.tmps[2]?.getD undef = .pointer (some ⟨w.heap.size, 0, none⟩) := by simpa using h2
    refine bodyPost_ret (v := .agg #[.int .i64 x, .int .i64 0, .int .i64 z]) (by simp [results, Try.results34, go_sem, h2', asAddr, p0, p1, p2]) hd ⟨by rw [hE], hb⟩
  have HRT := Lib.hid hret
  have r0 := heap_alloc_new w (.cells #[.int .i64 0, .int .i64 0, .int .i64 0] 47)
  have b0 := (Below.refl w.heap.size w).alloc (Nat.le_refl _) (.cells #[.int .i64 0, .int .i64 0, .int .i64 0] 47)
  have HR0 := Lib.hid (hR.alloc hB (.cells #[.int .i64 0, .int .i64 0, .int .i64 0] 47))
  have R0 := Lib.hid r0
  have B0 := Lib.hid b0
  have HC := Lib.hid hc
  have HN := Lib.hid hn
  clear hret hR b0
  obtain ⟨y0, y1, y2⟩ := three_cells r0
  clear r0
  by_cases a1 : xs.length < 84
  · have hE := Lib.hid (show headV xs = (8, (xs.length : Int)) from by unfold headV; rw [if_pos a1])
    go_enter Try.func34, Try.ntmps34
    go_wp2
    exact HRT.out 8 _ _ _ (heap_alloc_new w _) ((Below.refl _ w).alloc (Nat.le_refl _) _) hE.out rfl rfl
  obtain ⟨n4, h4⟩ : ∃ n : Nat, n = numV xs 4 2 := ⟨_, rfl⟩
  obtain ⟨n6, h6⟩ : ∃ n : Nat, n = numV xs 6 2 := ⟨_, rfl⟩
  obtain ⟨n8, h8⟩ : ∃ n : Nat, n = numV xs 8 4 := ⟨_, rfl⟩
  obtain ⟨p, hp⟩ : ∃ p : Int, p = dirtyV xs 12 4 := ⟨_, rfl⟩
  obtain ⟨q, hq⟩ : ∃ q : Int, q = dirtyV xs 24 8 := ⟨_, rfl⟩
  have h8l : n8 < 4294967296 := by rw [h8]; exact numV_lt xs 8 4
  have hE : headV xs = if xs.length < 84 then (8, (xs.length : Int)) else if xs.take 4 ≠ magic4 then (9, 0) else if n4 ≠ 1 then (10, 4) else if n6 ≠ 80 then (13, 6) else if n8 ≠ xs.length then (11, 8)
      else if 0 ≤ p then (14, p) else if 0 ≤ q then (14, q) else (0, 0) := by unfold headV; rw [h4, h6, h8, hp, hq]
  rw [if_neg a1] at hE
  have H4 := Lib.hid h4
  have H6 := Lib.hid h6
  have H8 := Lib.hid h8
  have HP := Lib.hid hp
  have HQ := Lib.hid hq
  have HE := Lib.hid hE
  have u1 : IntKind.u64.wrap (n8 : Int) = n8 := IntWalk.u64_in _ (by omega)
  have u2 : IntKind.u64.wrap (xs.length : Int) = xs.length := IntWalk.u64_in _ (by omega)
  have HL := Lib.hid a1
  clear h4 h6 h8 hp hq hE
  go_enter Try.func34, Try.ntmps34
  go_wp2_with fail
  refine (U16_any B A c xs 4 _ HR0.out HC.out HN.out (by omega)).mono ?_
  rintro e w' ⟨rfl, rfl⟩
  rw [← H4.out]
  go_wp2_with fail
  refine (U16_any B A c xs 6 _ HR0.out HC.out HN.out (by omega)).mono ?_
  rintro e w' ⟨rfl, rfl⟩
  rw [← H6.out]
  go_wp2_with fail
  refine (U32_any B A c xs 8 _ HR0.out HC.out HN.out (by omega)).mono ?_
  rintro e w' ⟨rfl, rfl⟩
  rw [← H8.out]
  go_upto_region 6 with fail
  have hz0 : (w.alloc (.cells #[.int .i64 0, .int .i64 0, .int .i64 0] 47)).heap.size = w.heap.size + 1 := by simp
  generalize w.alloc (.cells #[.int .i64 0, .int .i64 0, .int .i64 0] 47) = w0 at *
  have HZ0 := Lib.hid hz0
  clear hz0
  have kc := fun (w : World) (C : Array Value) (n c : Nat) => Lib.run_convert_bytes_const (P := Try.prog) w 44 5 C n c Try.underlying44 Try.underlying5
  go_wp2_with fail
  refine (HasPrefix_any B (w0.heap.size + 1) A (some ⟨w0.heap.size, 0, none⟩) c 4 xs magic4 _ (HR0.out.alloc (by have := HZ0.out; omega) _) (Rd.lit4 w0 _ _) HC.out HN.out (by have := HL.out; simp [magic4]; omega)).mono ?_
  rintro e w' ⟨rfl, rfl⟩
  have hz0 := HZ0.out
  have R1 := Lib.hid ((Below.heap_alloc w0 (.cells #[.int .u8 70, .int .u8 78, .int .u8 83, .int .u8 84] 5 (4, 5)) w.heap.size (by omega)).trans R0.out)
  have B1 := Lib.hid (B0.out.alloc (by omega) (.cells #[.int .u8 70, .int .u8 78, .int .u8 83, .int .u8 84] 5 (4, 5)))
  have HR1 := Lib.hid (HR0.out.alloc (by omega) (.cells #[.int .u8 70, .int .u8 78, .int .u8 83, .int .u8 84] 5 (4, 5)))
  have hz1 : (w0.alloc (.cells #[.int .u8 70, .int .u8 78, .int .u8 83, .int .u8 84] 5 (4, 5))).heap.size = w.heap.size + 2 := by simp; omega
  generalize w0.alloc (.cells #[.int .u8 70, .int .u8 78, .int .u8 83, .int .u8 84] 5 (4, 5)) = w1 at *
  have HZ1 := Lib.hid hz1
  clear hz1
  clear y0 y1 y2 R0 B0 HR0 hz0 kc
  obtain ⟨y0, y1, y2⟩ := three_cells R1.out
  have yf := tab_free R1.out
  by_cases a2 : xs.take magic4.length = magic4
  case neg =>
    have hE := Lib.hid (HE.out.trans (if_pos a2))
    rw [decide_eq_false a2]
    go_wp2
    exact HRT.out _ _ _ _ (three_after R1.out _ _ _) (three_below B1.out (Nat.le_refl _) _ _ _) hE.out rfl rfl
  have HE2 := Lib.hid (HE.out.trans (if_neg (fun h => h a2)))
  rw [decide_eq_true a2]
  clear a2
  by_cases a3 : n4 = 1
  case neg =>
    have hE := Lib.hid (HE2.out.trans (if_pos a3))
    have d3 : ((n4 : Int) != 1) = true := by simp; omega
    go_wp2
    exact HRT.out _ _ _ _ (three_after R1.out _ _ _) (three_below B1.out (Nat.le_refl _) _ _ _) hE.out rfl rfl
  have HE3 := Lib.hid (HE2.out.trans (if_neg (fun h => h a3)))
  subst a3
  by_cases a4 : n6 = 80
  case neg =>
    have hE := Lib.hid (HE3.out.trans (if_pos a4))
    have d3 : ((n6 : Int) != 80) = true := by simp; omega
    go_wp2
    exact HRT.out _ _ _ _ (three_after R1.out _ _ _) (three_below B1.out (Nat.le_refl _) _ _ _) hE.out rfl rfl
  have HE4 := Lib.hid (HE3.out.trans (if_neg (fun h => h a4)))
  subst a4
  by_cases a5 : n8 = xs.length
  case neg =>
    have hE := Lib.hid (HE4.out.trans (if_pos a5))
    have d3 : ((n8 : Int) != (xs.length : Int)) = true := by simp; omega
    go_wp2
    exact HRT.out _ _ _ _ (three_after R1.out _ _ _) (three_below B1.out (Nat.le_refl _) _ _ _) hE.out rfl rfl
  have HE5 := Lib.hid (HE4.out.trans (if_neg (fun h => h a5)))
  subst a5
  clear y0 y1 y2 yf
  go_wp2_with fail
  have rp := heap_alloc_new w1 (.cells #[.int .i64 12, .int .i64 4, .int .i64 24, .int .i64 8] 33)
  have R2 := Lib.hid ((Below.heap_alloc w1 (.cells #[.int .i64 12, .int .i64 4, .int .i64 24, .int .i64 8] 33) w.heap.size (by have := HZ1.out; omega)).trans R1.out)
  have B2 := Lib.hid (B1.out.alloc (by have := HZ1.out; omega) (.cells #[.int .i64 12, .int .i64 4, .int .i64 24, .int .i64 8] 33))
  have HR2 := Lib.hid (HR1.out.alloc (by have := HZ1.out; omega) (.cells #[.int .i64 12, .int .i64 4, .int .i64 24, .int .i64 8] 33))
  have hz2 : (w1.alloc (.cells #[.int .i64 12, .int .i64 4, .int .i64 24, .int .i64 8] 33)).heap.size = w1.heap.size + 1 := by simp
  generalize w1.alloc (.cells #[.int .i64 12, .int .i64 4, .int .i64 24, .int .i64 8] 33) = w2 at *
  generalize hk1 : w1.heap.size = k1 at *
  have RP := Lib.hid rp
  have HZ2 := Lib.hid hz2
  clear rp hz2 R1 B1 HR1
  go_loopw [60] (fun i wr => ∃ k : Nat, k ≤ 2 ∧ i = .int .i64 (k : Int) ∧ (1 ≤ k → p < 0) ∧ (2 ≤ k → q < 0) ∧ wr.heap[w.heap.size]? = some (.cells #[.int .i64 0, .int .i64 0, .int .i64 0] 47 (0, 0)) ∧
    wr.heap[k1]? = some (.cells #[.int .i64 12, .int .i64 4, .int .i64 24, .int .i64 8] 33 (0, 0)) ∧ Below w.heap.size w wr ∧ Rd wr B A xs ∧ w2.heap.size ≤ wr.heap.size) (fun i _ => 3 - (intOf i).toNat)
  case atStart => exact ⟨0, by omega, rfl, fun h => by omega, fun h => by omega, R2.out, RP.out, B2.out, HR2.out, Nat.le_refl _⟩
  case round =>
    obtain ⟨k, hk, rfl, hp1, hq1, hr, hr1, hb, hR, hsz⟩ := hrel
    have hlw : w.heap.size + 3 ≤ wr.heap.size := by have := HZ2.out; have := HZ1.out; omega
    have R3 := Lib.hid hr
    have P3 := Lib.hid hr1
    have B3 := Lib.hid hb
    have X3 := Lib.hid hR
    have c0 : ∀ j, wr.cell? ⟨k1, j, none⟩ = (#[.int .i64 12, .int .i64 4, .int .i64 24, .int .i64 8] : Array Value)[j]? := fun j => cell_of_row wr k1 j _ _ (0, 0) hr1
    have c1 : wr.cell? ⟨k1, 0, none⟩ = some (.int .i64 12) := c0 0
    have c2 : wr.cell? ⟨k1, 1, none⟩ = some (.int .i64 4) := c0 1
    have c3 : wr.cell? ⟨k1, 2, none⟩ = some (.int .i64 24) := c0 2
    have c4 : wr.cell? ⟨k1, 3, none⟩ = some (.int .i64 8) := c0 3
    obtain ⟨y0, y1, y2⟩ := three_cells hr
    have yf := tab_free hr
    clear c0 hr hr1 hb hR
    have hk3 : k = 0 ∨ k = 1 ∨ k = 2 := by omega
    rcases hk3 with rfl | rfl | rfl
    · rw [show (((0 : Nat) : Int)) = 0 from rfl]
      go_wp2_with fail
      have hl5 : w.heap.size ≤ wr.heap.size := by omega
      have R4 := Lib.hid ((Below.heap_alloc wr (.cells #[.int .i64 12, .int .i64 4] 33) w.heap.size (by omega)).trans R3.out)
      have P4 := Lib.hid ((Below.heap_alloc wr (.cells #[.int .i64 12, .int .i64 4] 33) k1 (by have := (Array.getElem?_eq_some_iff.1 P3.out).1; omega)).trans P3.out)
      have B4 := Lib.hid (B3.out.alloc (by omega) (.cells #[.int .i64 12, .int .i64 4] 33))
      have X4 := Lib.hid (X3.out.alloc (by omega) (.cells #[.int .i64 12, .int .i64 4] 33))
      have hz4 : (wr.alloc (.cells #[.int .i64 12, .int .i64 4] 33)).heap.size = wr.heap.size + 1 := by simp
      generalize wr.alloc (.cells #[.int .i64 12, .int .i64 4] 33) = w4 at *
      refine (Dirty_any B A c xs 12 4 _ X4.out HC.out HN.out (by omega) (by omega)).mono ?_
      rintro e w' ⟨rfl, rfl⟩
      rw [← HP.out]
      clear y0 y1 y2 yf
      obtain ⟨y0, y1, y2⟩ := three_cells R4.out
      have yf := tab_free R4.out
      clear c1 c2 c3 c4
      by_cases d : 0 ≤ p
      · have hd : decide (0 ≤ p) = true := decide_eq_true d
        have hE := Lib.hid (HE5.out.trans (if_pos d))
        go_wp2
        exact HRT.out _ _ _ _ (three_after R4.out _ _ _) (three_below B4.out (Nat.le_refl _) _ _ _) hE.out rfl rfl
      · have hd : decide (0 ≤ p) = false := decide_eq_false d
        go_wp2
        go_roundw
        case rel => exact ⟨0 + 1, by omega, rfl, fun _ => by omega, fun _ => by omega, R4.out, P4.out, B4.out, X4.out, by omega⟩
        case measure => simp [intOf]
    · rw [show (((1 : Nat) : Int)) = 1 from rfl]
      go_wp2_with fail
      have hl5 : w.heap.size ≤ wr.heap.size := by omega
      have R4 := Lib.hid ((Below.heap_alloc wr (.cells #[.int .i64 24, .int .i64 8] 33) w.heap.size (by omega)).trans R3.out)
      have P4 := Lib.hid ((Below.heap_alloc wr (.cells #[.int .i64 24, .int .i64 8] 33) k1 (by have := (Array.getElem?_eq_some_iff.1 P3.out).1; omega)).trans P3.out)
      have B4 := Lib.hid (B3.out.alloc (by omega) (.cells #[.int .i64 24, .int .i64 8] 33))
      have X4 := Lib.hid (X3.out.alloc (by omega) (.cells #[.int .i64 24, .int .i64 8] 33))
      have hz4 : (wr.alloc (.cells #[.int .i64 24, .int .i64 8] 33)).heap.size = wr.heap.size + 1 := by simp
      generalize wr.alloc (.cells #[.int .i64 24, .int .i64 8] 33) = w4 at *
      refine (Dirty_any B A c xs 24 8 _ X4.out HC.out HN.out (by omega) (by omega)).mono ?_
      rintro e w' ⟨rfl, rfl⟩
      rw [← HQ.out]
      clear y0 y1 y2 yf
      obtain ⟨y0, y1, y2⟩ := three_cells R4.out
      have yf := tab_free R4.out
      clear c1 c2 c3 c4
      by_cases d : 0 ≤ q
      · have hd : decide (0 ≤ q) = true := decide_eq_true d
        have hE := Lib.hid ((HE5.out.trans (if_neg (by have := hp1 (by omega); omega))).trans (if_pos d))
        go_wp2
        exact HRT.out _ _ _ _ (three_after R4.out _ _ _) (three_below B4.out (Nat.le_refl _) _ _ _) hE.out rfl rfl
      · have hd : decide (0 ≤ q) = false := decide_eq_false d
        go_wp2
        go_roundw
        case rel => exact ⟨1 + 1, by omega, rfl, fun _ => by omega, fun _ => by omega, R4.out, P4.out, B4.out, X4.out, by omega⟩
        case measure => simp [intOf]
    · rw [show (((2 : Nat) : Int)) = 2 from rfl]
      have hE := Lib.hid ((HE5.out.trans (if_neg (by have := hp1 (by omega); omega))).trans (if_neg (by have := hq1 (by omega); omega)))
      go_wp2
      exact HRT.out _ _ _ _ (three_after R3.out _ _ _) (three_below B3.out (Nat.le_refl _) _ _ _) hE.out rfl rfl
end Go.Proofs.Ythnognjcbjgkbaa
