/-
  Names, plainly; contract of name.Valid.
-/
import Derived.Test.YtpeajffnhmmaeaaShelf9
import Derived.Test.YtpeajffnhmmaeaaRecE
namespace Go.Proofs.Ytpeajffnhmmaeaa
set_option linter.unusedVariables false
open Go.RowKit

/-- a rune that no name has -/
def pR (r : Nat) : Bool := decide (r < 32) || decide (126 < r)
theorem pR_true {r : Nat} (h : r < 32 ∨ 126 < r) : pR r = true := by unfold pR; simp; omega
theorem pR_false {r : Nat} (h : 32 ≤ r ∧ r ≤ 126) : pR r = false := by unfold pR; simp; omega
theorem decode_small (s : ByteArray) (i : Nat) (h : (s.get! i).toNat < 128) : Utf8.decode s i = ((s.get! i).toNat, 1) := by
  unfold Utf8.decode
  simp [h]
theorem decode_large (s : ByteArray) (i : Nat) (h : 128 ≤ (s.get! i).toNat) : 128 ≤ (Utf8.decode s i).1 := by
  unfold Utf8.decode
  have h0 : ¬ (s.get! (i + 0)).toNat < 128 := by simpa using h
  simp only [h0, if_false]
  repeat' split
  all_goals first
    | (simp only [Utf8.runeError]; omega)
    | (simp only at *; omega)
    | (simp_all; omega)
/-- the byte is one of a name -/
def okC (c : UInt8) : Prop := 32 ≤ c.toNat ∧ c.toNat ≤ 126
theorem idx_from (s : ByteArray) : ∀ (f pos : Nat), s.size ≤ pos + f → (Lib.idxFuncFrom pR true s f pos = -1 ↔ ∀ i, pos ≤ i → i < s.size → okC (s.get! i))
  | 0, pos, h => ⟨fun _ i h1 h2 => by omega, fun _ => rfl⟩
  | f + 1, pos, h => by
    unfold Lib.idxFuncFrom
    by_cases hp : pos < s.size
    · rw [if_pos hp]
      by_cases hok : okC (s.get! pos)
      · have hd := decode_small s pos (by unfold okC at hok; omega)
        rw [hd]
        simp only
        rw [pR_false hok, if_neg (by simp), idx_from s f (pos + 1) (by omega)]
        refine ⟨fun h i h1 h2 => ?_, fun h i h1 h2 => h i (by omega) h2⟩
        by_cases e : i = pos
        · subst e; exact hok
        · exact h i (by omega) h2
      · have ht : pR (Utf8.decode s pos).1 = true := by
          by_cases hs : (s.get! pos).toNat < 128
          · rw [decode_small s pos hs]
            exact pR_true (by unfold okC at hok; simp only; omega)
          · have := decode_large s pos (by omega)
            exact pR_true (by omega)
        rw [if_pos ht]
        refine ⟨fun h => by omega, fun h => absurd (h pos (Nat.le_refl _) hp) hok⟩
    · rw [if_neg hp]
      exact ⟨fun _ i h1 h2 => by omega, fun _ => rfl⟩
def okS (s : ByteArray) : Prop := ∀ i, i < s.size → okC (s.get! i)
theorem idx_all (s : ByteArray) : (0 ≤ Lib.idxFunc pR true s) ↔ ¬ okS s := by
  have h := idx_from s s.size 0 (by omega)
  have hr := Lib.idxFunc_range pR true s
  unfold Lib.idxFunc at *
  unfold okS
  constructor
  · intro h0 hall
    have := h.2 (fun i _ hi => hall i hi)
    omega
  · intro hn
    rcases hr with h1 | h1
    · exact absurd (fun i hi => h.1 h1 i (Nat.zero_le _) hi) hn
    · exact h1.1
/-- a name -/
def vldP (s : ByteArray) : Prop := 1 ≤ s.size ∧ s.size ≤ 30 ∧ okS s
open Classical in
noncomputable def vldB (s : ByteArray) : Bool := decide (vldP s)
theorem vldB_true {s : ByteArray} (h : vldP s) : vldB s = true := by unfold vldB; simp [h]
theorem vldB_false {s : ByteArray} (h : ¬ vldP s) : vldB s = false := by unfold vldB; simp [h]
theorem vldB_iff {s : ByteArray} : vldB s = true ↔ vldP s := by unfold vldB; simp

theorem pred_valid (w : World) : PredAt Try.prog 106 #[] encR pR w := by
  intro W r _
  unfold FnGives
  by_cases h1 : r < 32
  · have d1 : decide ((r : Int) < 32) = true := decide_eq_true (by omega)
    rw [show pR r = true from pR_true (.inl h1)]
    go_enter Try.func106, Try.ntmps106
    go_wp2
    go_ret
    exact ⟨rfl, 0, rfl⟩
  by_cases h2 : 126 < r
  · have d1 : decide ((r : Int) < 32) = false := decide_eq_false (by omega)
    have d2 : decide (126 < (r : Int)) = true := decide_eq_true (by omega)
    rw [show pR r = true from pR_true (.inr h2)]
    go_enter Try.func106, Try.ntmps106
    go_wp2
    go_ret
    exact ⟨rfl, 0, rfl⟩
  · have d1 : decide ((r : Int) < 32) = false := decide_eq_false (by omega)
    have d2 : decide (126 < (r : Int)) = false := decide_eq_false (by omega)
    rw [show pR r = false from pR_false (by omega)]
    go_enter Try.func106, Try.ntmps106
    go_wp2
    go_ret
    exact ⟨rfl, 0, rfl⟩

set_option maxRecDepth 20000 in
set_option maxHeartbeats 400000 in
theorem Valid_any (s : ByteArray) (w : World) (hs : s.size ≤ 9223372036854775807) : Calls Try.prog 95 #[.string s] w fun e w' => e = .returned (.bool (vldB s)) ∧ Below w.heap.size w w' := by
  have HC := Lib.hid (Try.strings_ContainsFunc 106 #[] (enters_of Try.func106 (by kernel_rfl) rfl) pR s w (pred_valid w))
  have HV : Hid (∀ b : Bool, 1 ≤ s.size → s.size ≤ 30 → (b = true ↔ ¬ okS s) → vldB s = !b) := by
    intro b h1 h2 hb
    rw [Bool.eq_iff_iff, vldB_iff]
    unfold vldP
    cases b
    · simp at hb
      simp [h1, h2, hb]
    · simp at hb
      simp [hb]
  have HI : Hid ((decide (0 ≤ Lib.idxFunc pR true s)) = true ↔ ¬ okS s) := by
    show _ ↔ _
    rw [decide_eq_true_iff]
    exact idx_all s
  have HE : Hid (∀ b : Bool, 1 ≤ s.size → s.size ≤ 30 → b = decide (0 ≤ Lib.idxFunc pR true s) → vldB s = !b) := fun b h1 h2 hb => HV.out b h1 h2 (by rw [hb]; exact HI.out)
  have HN : Hid (¬ (1 ≤ s.size ∧ s.size ≤ 30) → vldB s = false) := fun h => vldB_false (fun hv => h ⟨hv.1, hv.2.1⟩)
  generalize decide (0 ≤ Lib.idxFunc pR true s) = bo at *
  clear HV HI
  by_cases h0 : s.size = 0
  · have e0 : s = ⟨#[]⟩ := by
      obtain ⟨a⟩ := s
      congr 1
      exact Array.eq_empty_of_size_eq_zero h0
    have e1 : vldB s = false := HN.out (by omega)
    rw [e1]
    subst e0
    clear HC HE HN h0 e1
    go_enter Try.func95, Try.ntmps95
    go_wp2
    go_ret
    exact ⟨rfl, Below.refl _ _⟩
  · have hne : s.toList.isEmpty = false := by
      rw [ByteArray.toList_eq]
      cases hl : s.data.toList with
      | nil => exact absurd (show s.size = 0 from by rw [Lib.size_eq, hl]; rfl) h0
      | cons a l => rfl
    have hne2 : s.toList ≠ [] := by
      intro e
      rw [e] at hne
      cases hne
    by_cases h30 : (s.size : Int) ≤ 30
    · have E1 := Lib.hid (HE.out bo (by omega) (by omega) rfl)
      rw [E1.out]
      clear E1
      cases bo
      · go_enter Try.func95, Try.ntmps95
        go_wp2_with fail
        refine HC.out.mono ?_
        rintro e w1 ⟨rfl, hb⟩
        go_wp2
        go_ret
        exact ⟨rfl, hb⟩
      · go_enter Try.func95, Try.ntmps95
        go_wp2_with fail
        refine HC.out.mono ?_
        rintro e w1 ⟨rfl, hb⟩
        go_wp2
        go_ret
        exact ⟨rfl, hb⟩
    · have d1 : decide ((s.size : Int) ≤ 30) = false := decide_eq_false h30
      have e1 : vldB s = false := HN.out (by omega)
      rw [e1]
      clear HC HE HN e1
      go_enter Try.func95, Try.ntmps95
      go_wp2
      go_ret
      exact ⟨rfl, Below.refl _ _⟩
end Go.Proofs.Ytpeajffnhmmaeaa
