/-
  Contracts of slices.Clone and slices.Backward.
-/
import Derived.RangeFuncNested
import Derived.RangeFuncBound
import Derived.RangeFuncCalls
import Derived.RangeFuncLeaves
import Derived.RangeFuncFrom
import Derived.Shelf.Abstract
import Derived.Shelf.RegionOpen
import Derived.OwnWalkIn
import Derived.TacticsInMore
import Derived.LoopNIn
import Derived.LoopIn
import Derived.Test.YtkpdeldegdngaaaCrc5
import Derived.Test.YtkpdeldegdngaaaStg
namespace Go.Proofs.Ytkpdeldegdngaaa
set_option linter.unusedVariables false
open Go.RowKit Go.Shelf
attribute [local go_sem] Oper.semAt_some

set_option maxHeartbeats 400000 in
theorem Clone_any (B : Nat) (X : Option Addr) (m cx : Nat) (xs : List UInt8) (w : World) (hm : xs.length = m) (hR : Rd w B X xs) (hB : B ≤ w.heap.size) (hlen : xs.length ≤ 140737488355328) :
    Calls Try.prog 31 #[.slice X m cx] w (Made w xs) := by
  have hnil := fun w => Lib.run_eql_slice_nil (P := Try.prog) w 24 U8t X m cx 0 0 Try.underlying24
  cases X with
  | none =>
    have hx : xs = [] := by
      rcases hR with h | ⟨_, _, h, _⟩
      · exact h
      · cases h
    subst hx
    go_enter Try.func31, Try.ntmps31
    go_wp2
    go_ret
    exact ⟨none, 0, rfl, Own.nil _, (fun k h => by cases h), Below.refl _ _⟩
  | some ad =>
    have H := Lib.hid hR
    clear hR
    have HM := Lib.hid hm
    clear hm
    go_enter Try.func31, Try.ntmps31
    go_wp2_with (at_builtin; refine wpList_app rfl (.tmp 5) (.tmp 6) 24 rfl Try.underlying24 infoU8c (some ⟨w.heap.size, 0, none⟩) 0 0 [] rfl rfl (Own.empty w) B (some ad) m cx xs HM.out rfl (H.out.alloc hB _) (by simpa using hlen) ?_; intro A' c' w' hown hg hat hnn)
    go_ret
    have hb : Below w.heap.size w w' := ((Below.refl _ w).alloc (Nat.le_refl _) _).grown hg (by simp) (fun k e => Nat.le_of_eq (Option.some.inj e))
    refine ⟨A', c', rfl, by simpa using hown, fun k hk => ?_, hb⟩
    rcases hat with h | h
    · rw [hk] at h; injection h with h; simp at h; omega
    · rw [hk] at h; injection h with h; simp at h; omega

theorem Backward_any (v : Value) (A : Option Addr) (n c : Nat) (w : World) : Calls Try.prog 29 #[.slice A n c] w fun e w' => e = .returned (.func (.func 33) #[] #[.pointer (some ⟨w.heap.size, 0, none⟩)]) ∧ w' = w.alloc (.cells #[.slice A n c] 24) := by
  go_enter Try.func29, Try.ntmps29
  go_wp2
  go_ret
  exact ⟨rfl, rfl⟩

/-- what the iterator hands to a round: the index, the byte -/
abbrev encB (x : Nat × UInt8) : Array Value := #[.int .i64 (x.1 : Int), .int .u8 (x.2.toNat : Int)]
/-- the first k rounds -/
def upB (xs : List UInt8) (k : Nat) : List (Nat × UInt8) := (List.range k).map (fun j => (xs.length - 1 - j, xs.getD (xs.length - 1 - j) 0))
theorem upB_succ (xs : List UInt8) (k : Nat) : upB xs (k + 1) = upB xs k ++ [(xs.length - 1 - k, xs.getD (xs.length - 1 - k) 0)] := by simp [upB, List.range_succ]
theorem upB_length (xs : List UInt8) (k : Nat) : (upB xs k).length = k := by simp [upB]
theorem upB_all (xs : List UInt8) : (upB xs xs.length).map (·.2) = xs.reverse := by
  apply List.ext_getElem
  · simp [upB]
  · intro i h1 h2
    have : i < xs.length := by simpa [upB] using h1
    simp [upB, List.getD, List.getElem_reverse, show xs.length - 1 - i < xs.length from by omega]

/-- what a round keeps: what lay below n1, and the iterator's variable -/
def KpB (n1 Bs : Nat) (W W' : World) : Prop := Below n1 W W' ∧ ∀ o, W.heap[Bs]? = some o → W'.heap[Bs]? = some o
theorem KpB_t {n1 Bs : Nat} {A B C : World} (h : KpB n1 Bs A B) (k : KpB n1 Bs B C) : KpB n1 Bs A C := ⟨h.1.trans k.1, fun o ho => k.2 o (h.2 o ho)⟩
theorem KpB_b {n1 Bs : Nat} {w : World} (hn : n1 ≤ w.heap.size) (hb : Bs < w.heap.size) (W : World) (l : Nat) (o o' : Obj) (hl : w.heap.size ≤ l) (h : W.heap[l]? = some o) (h1 : o.isCells = false) (h2 : o.isWalk = false) : KpB n1 Bs W (W.putObj l o') :=
  ⟨belowK_b hn W l o o' hl h h1 h2, fun u hu => (World.putObj_heap_other (by omega)).trans hu⟩

set_option maxRecDepth 100000 in
set_option maxHeartbeats 2000000 in
theorem backward_stops (m n1 Bs c n : Nat) (A : Option Addr) (xs : List UInt8) (hm : 1 ≤ m) (w : World) (hn : xs.length = n) (hl : n ≤ 140737488355328) (hBs : Bs < w.heap.size) (hn1 : n1 ≤ w.heap.size)
    (hc : w.heap[Bs]? = some (.cells #[.slice A n c] 24 (0, 0))) (hR : Rd w n1 A xs) :
    SeqStopsK Fence.wide m Try.prog 33 #[.pointer (some ⟨Bs, 0, none⟩)] encB (KpB n1 Bs) (fun ys => ys.map (·.2) = xs.reverse) (fun _ => True) n w := fun l J Jx W hW hJ hJx hY h0 => by
  have hc0 : W.heap[Bs]? = some (.cells #[.slice A n c] 24 (0, 0)) := (hW.block Bs hBs).trans hc
  have hR0 : Rd W n1 A xs := hR.after hn1 hW
  have hcell : W.cell? ⟨Bs, 0, none⟩ = some (.slice A n c) := by rw [cell_of_row W _ 0 _ _ (0, 0) hc0]; rfl
  refine callsIn_of_wp Try.func33 rfl trivial ?_ rfl
  simp only [Try.ntmps33, List.size_toArray, List.length_cons, List.length_nil, Nat.reduceAdd, Nat.reduceSub, Array.replicate_succ, Array.replicate_zero, List.push_toArray, List.append_toArray, List.nil_append, List.cons_append]
  gi_wp2
  gi_loopw [3] (fun i wr => ∃ k : Nat, k ≤ n ∧ i = .int .i64 ((n : Int) - 1 - (k : Int)) ∧ J (upB xs k) wr ∧ wr.heap[Bs]? = some (.cells #[.slice A n c] 24 (0, 0)) ∧ Rd wr n1 A xs) (fun i _ => (intOf i + 1).toNat)
  case atStart => exact ⟨0, Nat.zero_le _, by simp, h0, hc0, hR0⟩
  case round =>
    obtain ⟨k, hk, rfl, hJs, hrow, hRw⟩ := hrel
    clear hcell hc0 hR0 hc hR
    have hcell : wr.cell? ⟨Bs, 0, none⟩ = some (.slice A n c) := by rw [cell_of_row wr _ 0 _ _ (0, 0) hrow]; rfl
    by_cases hlt : k < n
    · obtain ⟨j, hj⟩ : ∃ j : Nat, j = n - 1 - k := ⟨_, rfl⟩
      have ej : ((n : Int) - 1 - (k : Int)) = (j : Int) := by omega
      rw [ej]
      have hjn : (j : Int) < (n : Int) := by omega
      obtain ⟨b, off, cn, rfl, hb, hcl, hcn, HC⟩ := hRw.byte (k := j) (by rw [hn]; omega)
      obtain ⟨fn, tmps, assign, body, hy, hR⟩ := hY _ (j, xs.getD j 0) wr hJs (by rw [upB_length]; exact hlt)
      dsimp only [encB] at hy
      rw [← HC.out] at hy
      have HJ := Lib.hid hj
      have HROW := Lib.hid hrow
      have HRW := Lib.hid hRw
      have HY := Lib.hid hY
      clear hj hrow hRw hY
      gi_wp2
      refine hR.mono ?_
      rintro e W3 (⟨rfl, hJ3, hk3⟩ | ⟨rfl, hJx3⟩)
      · have F3 := hk3.2 _ HROW.out
        have R3 := HRW.out.below hk3.1
        gi_wp2
        go_roundw
        case rel => exact ⟨k + 1, by omega, by have := HJ.out; congr 1; push_cast; omega, by rw [upB_succ, hn, ← HJ.out]; exact hJ3, F3, R3⟩
        case measure => simp [intOf] <;> omega
      · gi_wp2
        refine bodyPost_ret (results_none rfl _ _ _) rfl ?_
        exact ⟨⟨_, rfl⟩, .inr ⟨_, trivial, hJx3⟩⟩
    · obtain rfl : k = n := by omega
      rw [show (k : Int) - 1 - (k : Int) = -1 from by omega]
      gi_wp2
      go_end0
      exact ⟨⟨_, rfl⟩, .inl ⟨_, by rw [← hn]; exact upB_all xs, hJs⟩⟩
end Go.Proofs.Ytkpdeldegdngaaa
