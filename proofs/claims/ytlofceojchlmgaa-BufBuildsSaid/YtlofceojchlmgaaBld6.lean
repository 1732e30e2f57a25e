/-
  The calls on a builder, plainly; contracts of do and few.
-/
import Derived.Test.YtlofceojchlmgaaBld5
namespace Go.Proofs.Ytlofceojchlmgaa
set_option linter.unusedVariables false
open Go.RowKit

/-- a call, as it came in -/
structure OpD where
  kd : Int
  n : Int
  x : Nat
  X : Option Addr
  m : Nat
  cx : Nat
  data : List UInt8
def OpD.Ok (w : World) (o : OpD) : Prop := (-9223372036854775808 ≤ o.n ∧ o.n ≤ 9223372036854775807) ∧ o.x < 18446744073709551616 ∧ o.data.length = o.m ∧ Rd w w.heap.size o.X o.data
/-- the bytes after a call -/
def OpD.stepV (o : OpD) (zs : List UInt8) : List UInt8 :=
  if o.kd = 0 then zs ++ leB o.x 1 else if o.kd = 1 then zs ++ leB o.x 2 else if o.kd = 2 then zs ++ leB o.x 4 else if o.kd = 3 then zs ++ leB o.x 8 else if o.kd = 4 then zs ++ o.data
  else if o.kd = 5 then (zerosV zs o.n).1 else if o.kd = 6 then (alignV zs o.n).1 else (setV zs o.n o.x).1
/-- too much is asked -/
def OpD.much (o : OpD) : Prop := 100 < o.m ∨ (o.kd = 5 ∨ o.kd = 6) ∧ 1000 < o.n ∧ o.n < 33554432

theorem zerosV_len (zs : List UInt8) (n : Int) (h : n ≤ 1000 ∨ 33554432 ≤ n ∨ 16777216 - (zs.length : Int) < n) : (zerosV zs n).1.length ≤ zs.length + 1000 := by
  unfold zerosV
  split
  · simp
  · simp
    omega
theorem alignV_len (zs : List UInt8) (n : Int) (h : n ≤ 1000 ∨ 33554432 ≤ n) (hl : zs.length ≤ 1000000) : (alignV zs n).1.length ≤ zs.length + 1000 := by
  unfold alignV
  split
  · simp
  · split
    · simp
    · refine zerosV_len zs _ ?_
      have hr0 := Int.emod_nonneg (zs.length : Int) (show ¬ n = 0 by omega)
      rcases h with h | h
      · left; omega
      · right; right
        rw [Int.emod_eq_of_lt (by omega) (by omega)]
        omega
theorem OpD.step_len (o : OpD) (zs : List UInt8) (hm : ¬ o.much) (hd : o.data.length = o.m) (hl : zs.length ≤ 1000000) : (o.stepV zs).length ≤ zs.length + 1000 := by
  unfold OpD.much at hm
  unfold OpD.stepV
  split
  · simp [leB_length]
  split
  · simp [leB_length]
  split
  · simp [leB_length]
  split
  · simp [leB_length]
  split
  · simp; omega
  split
  · exact zerosV_len zs _ (by omega)
  split
  · exact alignV_len zs _ (by omega) hl
  · unfold setV
    split
    · simp only [setK_length]; omega
    · show zs.length ≤ _; omega

theorem do_any (w0 w : World) (g h : Nat) (zs : List UInt8) (hd : Both w0 w g h zs zs) (o : OpD) (ho : o.Ok w0) (hm : ¬ o.much) (hl : zs.length ≤ 1000000) :
    Calls Try.prog 31 #[.pointer (some ⟨g, 0, none⟩), .pointer (some ⟨h, 0, none⟩), .agg #[.int .i64 o.kd, .int .i64 o.n, .int .u64 (o.x : Int), .slice o.X o.m o.cx]] w (Done w0 g h (o.stepV zs)) := by
  obtain ⟨h1, h2, h3, h4⟩ := ho
  obtain ⟨kd, n, x, X, m, cx, data⟩ := o
  simp only at *
  unfold OpD.stepV OpD.much at *
  simp only at *
  by_cases e0 : kd = 0
  · subst e0; rw [if_pos rfl]; exact do_0 w0 w g h zs hd n x h2 X m cx hl
  rw [if_neg e0]
  by_cases e1 : kd = 1
  · subst e1; rw [if_pos rfl]; exact do_1 w0 w g h zs hd n x h2 X m cx hl
  rw [if_neg e1]
  by_cases e2 : kd = 2
  · subst e2; rw [if_pos rfl]; exact do_2 w0 w g h zs hd n x h2 X m cx hl
  rw [if_neg e2]
  by_cases e3 : kd = 3
  · subst e3; rw [if_pos rfl]; exact do_3 w0 w g h zs hd n x h2 X m cx hl
  rw [if_neg e3]
  by_cases e4 : kd = 4
  · subst e4; rw [if_pos rfl]; exact do_4 w0 w g h zs hd n x X m cx data h3 h4 hl (by omega)
  rw [if_neg e4]
  by_cases e5 : kd = 5
  · subst e5; rw [if_pos rfl]; exact do_5 w0 w g h zs hd n x X m cx h1 hl
  rw [if_neg e5]
  by_cases e6 : kd = 6
  · subst e6; rw [if_pos rfl]; exact do_6 w0 w g h zs hd n x X m cx h1 hl
  rw [if_neg e6]
  have b0 : (kd == 0) = false := by simpa using e0
  have b1 : (kd == 1) = false := by simpa using e1
  have b2 : (kd == 2) = false := by simpa using e2
  have b3 : (kd == 3) = false := by simpa using e3
  have b4 : (kd == 4) = false := by simpa using e4
  have b5 : (kd == 5) = false := by simpa using e5
  have b6 : (kd == 6) = false := by simpa using e6
  unfold setV
  cases hX : exB n 4 zs.length with
  | false => rw [if_neg (by simp)]; exact do_no w0 w g h zs hd kd n x X m cx h1 hl b0 b1 b2 b3 b4 b5 b6 hX
  | true =>
    rw [if_pos rfl]
    obtain ⟨a1, a2, a3, a4⟩ := exB_iff.1 hX
    obtain ⟨k, rfl⟩ := Int.eq_ofNat_of_zero_le a1
    exact do_yes w0 w g h zs hd kd k x X m cx h2 hl b0 b1 b2 b3 b4 b5 b6 (by omega)

/-- the slice of calls at S reads as os -/
def RdO (w : World) (B : Nat) (S : Option Addr) (os : List OpD) : Prop :=
  os = [] ∨ ∃ b off, S = some ⟨b, off, none⟩ ∧ b < B ∧ ∀ (i : Nat) (o : OpD), os[i]? = some o →
    w.cell? ⟨b, off + i * 4, none⟩ = some (.int .i64 o.kd) ∧ w.cell? ⟨b, off + i * 4 + 1, none⟩ = some (.int .i64 o.n) ∧ w.cell? ⟨b, off + i * 4 + 2, none⟩ = some (.int .u64 (o.x : Int)) ∧ w.cell? ⟨b, off + i * 4 + 3, none⟩ = some (.slice o.X o.m o.cx)
theorem RdO.below {w w' : World} {B : Nat} {S : Option Addr} {os : List OpD} (h : RdO w B S os) (hb : Below B w w') : RdO w' B S os := by
  rcases h with h | ⟨b, off, e, hB, hc⟩
  · exact .inl h
  · exact .inr ⟨b, off, e, hB, fun i o ho => by
      obtain ⟨c0, c1, c2, c3⟩ := hc i o ho
      exact ⟨(hb.cell (p := ⟨b, off + i * 4, none⟩) hB).trans c0, (hb.cell (p := ⟨b, off + i * 4 + 1, none⟩) hB).trans c1, (hb.cell (p := ⟨b, off + i * 4 + 2, none⟩) hB).trans c2, (hb.cell (p := ⟨b, off + i * 4 + 3, none⟩) hB).trans c3⟩⟩
theorem RdO.at_ {w : World} {B : Nat} {S : Option Addr} {os : List OpD} (h : RdO w B S os) {i : Nat} (hi : i < os.length) : ∃ b off, S = some ⟨b, off, none⟩ ∧ b < B ∧
    w.cell? ⟨b, off + i * 4, none⟩ = some (.int .i64 (os[i]'hi).kd) ∧ w.cell? ⟨b, off + i * 4 + 1, none⟩ = some (.int .i64 (os[i]'hi).n) ∧ w.cell? ⟨b, off + i * 4 + 2, none⟩ = some (.int .u64 ((os[i]'hi).x : Int)) ∧ w.cell? ⟨b, off + i * 4 + 3, none⟩ = some (.slice (os[i]'hi).X (os[i]'hi).m (os[i]'hi).cx) := by
  rcases h with h | ⟨b, off, e, hB, hc⟩
  · subst h; simp at hi
  · exact ⟨b, off, e, hB, hc i _ (List.getElem?_eq_getElem hi)⟩

/-- the calls are few -/
def FewP (os : List OpD) : Prop := (∀ o ∈ os, ¬ o.much) ∧ os.length ≤ 60
def FewOK (os : List OpD) (w : World) (e : Ending) (w' : World) : Prop := ∃ bo : Bool, e = .returned (.bool bo) ∧ (bo = true ↔ FewP os) ∧ Below w.heap.size w w'
set_option maxHeartbeats 1600000 in
theorem few_any (S : Option Addr) (len cs : Nat) (os : List OpD) (w : World) (hlen : os.length = len) (hR : RdO w w.heap.size S os) (hl : len ≤ 9223372036854775807) :
    Calls Try.prog 30 #[.slice S len cs] w (FewOK os w) := by
  have HL := Lib.hid hlen
  have HR := Lib.hid hR
  clear hlen hR
  go_enter Try.func30, Try.ntmps30
  go_wp2_with fail
  go_loopw [7, 4] (fun i v wr => ∃ k : Nat, k ≤ len ∧ i = .int .i64 (k : Int) ∧ (∀ o ∈ os.take k, ¬ o.much) ∧ Below w.heap.size w wr) (fun i _ _ => len - (intOf i).toNat)
  case atStart => exact ⟨0, Nat.zero_le _, rfl, by simp, Below.refl _ _⟩
  case round =>
    obtain ⟨k, hk, rfl, hno, hB⟩ := hrel
    have HNO := Lib.hid hno
    have HB := Lib.hid hB
    clear hno hB
    by_cases hlt : k < len
    · have hkl : k < os.length := by rw [HL.out]; exact hlt
      obtain ⟨b, off, rfl, hb, c0, c1, c2, c3⟩ := (HR.out.below HB.out).at_ hkl
      have HO : Hid (os.take (k + 1) = os.take k ++ [os[k]]) := List.take_succ_eq_append_getElem hkl
      have HM : Hid (os[k].much ↔ 100 < os[k].m ∨ (os[k].kd = 5 ∨ os[k].kd = 6) ∧ 1000 < os[k].n ∧ os[k].n < 33554432) := Iff.rfl
      have HI : Hid (os[k] ∈ os) := List.getElem_mem hkl
      generalize os[k] = o at *
      obtain ⟨kd, n, x, X, m, cx, data⟩ := o
      simp only at c0 c1 c2 c3 HM
      clear hkl
      have HK : Hid (¬ (100 < m ∨ (kd = 5 ∨ kd = 6) ∧ 1000 < n ∧ n < 33554432) → ∀ o ∈ os.take (k + 1), ¬ o.much) := by
        intro hn o' ho'
        rw [HO.out] at ho'
        rcases List.mem_append.1 ho' with h | h
        · exact HNO.out o' h
        · rw [List.mem_singleton.1 h]
          exact fun hm => hn (HM.out.1 hm)
      have HF : Hid (100 < m ∨ (kd = 5 ∨ kd = 6) ∧ 1000 < n ∧ n < 33554432 → ¬ FewP os) := fun hm hf => hf.1 _ HI.out (HM.out.2 hm)
      clear HO HM HI HNO
      go_wp2
      all_goals first
        | (go_ret
           exact ⟨false, rfl, ⟨fun h => (by cases h), fun h => absurd h (HF.out (by omega))⟩, HB.out.alloc HB.out.size _⟩)
        | (go_roundw
           case rel => exact ⟨k + 1, by omega, by go_num, HK.out (by omega), HB.out.alloc HB.out.size _⟩
           case measure => simp [intOf]; omega)
    · obtain rfl : k = len := by omega
      have HF : Hid (∀ z : Int, (z = (k : Int)) → (decide (z ≤ 60) = true ↔ FewP os)) := by
        intro z hz
        rw [decide_eq_true_iff]
        have hn := HNO.out
        rw [List.take_of_length_le (by rw [HL.out]; exact Nat.le_refl _)] at hn
        refine ⟨fun h => ⟨hn, by rw [HL.out]; omega⟩, fun h => ?_⟩
        have := h.2
        rw [HL.out] at this
        omega
      clear HNO
      go_wp2_with fail
      go_ret
      exact ⟨_, rfl, HF.out _ rfl, HB.out⟩
end Go.Proofs.Ytlofceojchlmgaa
