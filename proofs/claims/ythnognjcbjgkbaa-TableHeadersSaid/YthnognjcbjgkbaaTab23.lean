/-
  What a reader finds in a header that Header has written, in plain words.
-/
import Derived.Test.YthnognjcbjgkbaaTab20
import Derived.Test.YthnognjcbjgkbaaBOk
namespace Go.Proofs.Ythnognjcbjgkbaa
set_option linter.unusedVariables false
open Go.RowKit Go.Shelf

theorem nzV_zeros (m : Nat) : nzV (List.replicate m 0) = -1 := nz_none _ (fun i hi => by simp at hi; simp [List.getD, hi])
theorem dirty_mid (a c : List UInt8) (m : Nat) (n k : Int) (hn : n = a.length) (hk : k = m) : dirtyV (a ++ List.replicate m 0 ++ c) n k = -1 := by
  subst hn; subst hk
  unfold dirtyV
  rw [if_pos (exB_mid a (List.replicate m 0) c _ _ rfl (by simp)), Int.toNat_natCast, Int.toNat_natCast]
  have := part_mid a (List.replicate m 0) c
  rw [List.length_replicate] at this
  rw [this, nzV_zeros, if_pos (by omega)]

section
variable {tot fr : Nat} {o c : Nat → Int} {zs : List UInt8}
theorem hdr_num (a : List UInt8) (x m : Nat) (r : List UInt8) (n k : Int) (hn : n = a.length) (hk : k = m) (hx : x < 256 ^ m) (h : hdrB tot fr o c ++ zs = a ++ leB x m ++ r) : numV (hdrB tot fr o c ++ zs) n k = x := by
  rw [h, numV_mid a r x m n k hn hk, Nat.mod_eq_of_lt hx]
theorem head_hdr (ht : tot < 4294967296) (hl : 80 + zs.length = tot) (h84 : 84 ≤ tot) : headV (hdrB tot fr o c ++ zs) = (0, 0) := by
  have hlen : (hdrB tot fr o c ++ zs).length = tot := by rw [List.length_append, hdrB_len]; exact hl
  have e1 : (leB 1 2 : List UInt8) = [1, 0] := by decide
  have e2 : (leB 80 2 : List UInt8) = [80, 0] := by decide
  have e3 : (leB 0 4 : List UInt8) = List.replicate 4 0 := by decide
  have e4 : (leB 0 8 : List UInt8) = List.replicate 8 0 := by decide
  have n4 : numV (hdrB tot fr o c ++ zs) 4 2 = 1 := hdr_num [70, 78, 83, 84] 1 2 ([80, 0] ++ leB tot 4 ++ leB 0 4 ++ leB fr 8 ++ leB 0 8 ++ entsB o c 6 ++ zs) 4 2 rfl rfl (by decide) (by rw [e1]; simp [hdrB, fixB])
  have n6 : numV (hdrB tot fr o c ++ zs) 6 2 = 80 := hdr_num [70, 78, 83, 84, 1, 0] 80 2 (leB tot 4 ++ leB 0 4 ++ leB fr 8 ++ leB 0 8 ++ entsB o c 6 ++ zs) 6 2 rfl rfl (by decide) (by rw [e2]; simp [hdrB, fixB])
  have n8 : numV (hdrB tot fr o c ++ zs) 8 4 = tot := hdr_num [70, 78, 83, 84, 1, 0, 80, 0] tot 4 (leB 0 4 ++ leB fr 8 ++ leB 0 8 ++ entsB o c 6 ++ zs) 8 4 rfl rfl (by omega) (by simp [hdrB, fixB])
  have d12 : dirtyV (hdrB tot fr o c ++ zs) 12 4 = -1 := by
    have := dirty_mid ([70, 78, 83, 84, 1, 0, 80, 0] ++ leB tot 4) (leB fr 8 ++ leB 0 8 ++ entsB o c 6 ++ zs) 4 12 4 (by simp [leB_length]) rfl
    rw [← this, ← e3]; simp [hdrB, fixB]
  have d24 : dirtyV (hdrB tot fr o c ++ zs) 24 8 = -1 := by
    have := dirty_mid ([70, 78, 83, 84, 1, 0, 80, 0] ++ leB tot 4 ++ leB 0 4 ++ leB fr 8) (entsB o c 6 ++ zs) 8 24 8 (by simp [leB_length]) rfl
    rw [← this, ← e4]; simp [hdrB, fixB]
  have tk : (hdrB tot fr o c ++ zs).take 4 = magic4 := by simp [hdrB, fixB, magic4]
  unfold headV
  rw [hlen, tk, n4, n6, n8, d12, d24, if_neg (by omega), if_neg (by simp), if_neg (by simp), if_neg (by simp), if_neg (by simp), if_neg (by decide), if_neg (by decide)]
theorem frame_hdr (hf : fr < 18446744073709551616) : numV (hdrB tot fr o c ++ zs) 16 8 = fr :=
  hdr_num ([70, 78, 83, 84, 1, 0, 80, 0] ++ leB tot 4 ++ leB 0 4) fr 8 (leB 0 8 ++ entsB o c 6 ++ zs) 16 8 (by simp [leB_length]) rfl (by omega) (by simp [hdrB, fixB])
theorem ents_split (o c : Nat → Int) (k : Nat) : ∀ n, k ≤ n → ∃ r, entsB o c n = entsB o c k ++ r
  | 0, h => ⟨[], by rw [Nat.le_zero.1 h]; rfl⟩
  | n + 1, h => by
    by_cases e : k = n + 1
    · exact ⟨[], by rw [e]; simp⟩
    · obtain ⟨r, hr⟩ := ents_split o c k n (by omega)
      exact ⟨r ++ leB (o (n + 1)).toNat 4 ++ leB (c (n + 1)).toNat 4, by
        show entsB o c n ++ leB (o (n + 1)).toNat 4 ++ leB (c (n + 1)).toNat 4 = _
        rw [hr]; simp⟩
theorem off_hdr (k : Nat) (hk : k < 6) (h0 : 0 ≤ o (k + 1) ∧ o (k + 1) < 4294967296) : offX (hdrB tot fr o c ++ zs) (k + 1) = o (k + 1) := by
  obtain ⟨r, hr⟩ := ents_split o c (k + 1) 6 (by omega)
  unfold offX
  rw [hdr_num (fixB tot fr ++ entsB o c k) (o (k + 1)).toNat 4 (leB (c (k + 1)).toNat 4 ++ r ++ zs) _ 4 (by rw [List.length_append, fixB_len, entsB_len]; omega) rfl (by omega) (by
    unfold hdrB; rw [hr]; simp [entsB])]
  omega
theorem cnt_hdr (k : Nat) (hk : k < 6) (h0 : 0 ≤ c (k + 1) ∧ c (k + 1) < 4294967296) : cntX (hdrB tot fr o c ++ zs) (k + 1) = c (k + 1) := by
  obtain ⟨r, hr⟩ := ents_split o c (k + 1) 6 (by omega)
  unfold cntX
  rw [if_neg (by omega), hdr_num (fixB tot fr ++ entsB o c k ++ leB (o (k + 1)).toNat 4) (c (k + 1)).toNat 4 (r ++ zs) _ 4 (by rw [List.length_append, List.length_append, fixB_len, entsB_len, leB_length]; omega) rfl (by omega) (by
    unfold hdrB; rw [hr]; simp [entsB])]
  omega
end
theorem offT_same {c c' : Nat → Int} : ∀ {k : Nat}, (∀ s, 1 ≤ s → s ≤ k → c s = c' s) → offT c k = offT c' k
  | 0, _ => rfl
  | k + 1, h => by
    show al (offT c k + c (k + 1) * szT (k + 1)) = al (offT c' k + c' (k + 1) * szT (k + 1))
    rw [offT_same (fun s a b => h s a (by omega)), h (k + 1) (by omega) (by omega)]

/-- a header of a layout, and what its total asks for behind it -/
def fullB (fr : Nat) (c : Nat → Int) : List UInt8 := hdrB (totT c) fr (offO c) (cntO c) ++ List.replicate ((totT c).toNat - 80) 0
theorem tot_range {c : Nat → Int} (h : okT c 6) : 84 ≤ totT c ∧ totT c ≤ 1000000 := by
  have := offT_range c 6 h
  unfold totT; omega
theorem fullB_len (fr : Nat) {c : Nat → Int} (h : okT c 6) : (fullB fr c).length = (totT c).toNat := by
  have := tot_range h
  unfold fullB; rw [List.length_append, hdrB_len, List.length_replicate]; omega
theorem offO_range {c : Nat → Int} (h : okT c 6) : ∀ s, s < 7 → 0 ≤ offO c s ∧ offO c s < 4294967296 := by
  intro s hs
  unfold offO
  split
  · omega
  · have := offT_range c (s - 1) (fun k a b => h k a (by omega)); omega
theorem cntO_range {c : Nat → Int} (h : okT c 6) : ∀ s, s < 7 → 0 ≤ cntO c s ∧ cntO c s < 4294967296 := by
  intro s hs
  unfold cntO
  split
  · omega
  · have := h s (by omega) (by omega); have := limT_range s; omega
theorem full_get {fr : Nat} {c : Nat → Int} (hf : fr < 18446744073709551616) (h : okT c 6) : getV (fullB fr c) = (0, 0) ∧ getT (fullB fr c) = tabT fr c := by
  have hr := tot_range h
  have hlen := fullB_len fr h
  obtain ⟨t, ht⟩ := Int.eq_ofNat_of_zero_le (show 0 ≤ totT c by omega)
  have hH : headV (fullB fr c) = (0, 0) := by
    unfold fullB; rw [ht, Int.toNat_natCast]
    exact head_hdr (by omega) (by rw [List.length_replicate]; omega) (by omega)
  have hC : ∀ s, 1 ≤ s → s ≤ 6 → cntX (fullB fr c) s = c s := by
    intro s a b
    obtain ⟨k, rfl⟩ : ∃ k, s = k + 1 := ⟨s - 1, by omega⟩
    unfold fullB; rw [ht]
    rw [cnt_hdr k (by omega) (cntO_range h (k + 1) (by omega))]
    unfold cntO; rw [if_neg (by omega)]
  have hO : ∀ k, k < 6 → offX (fullB fr c) (k + 1) = offT c k := by
    intro k hk
    unfold fullB; rw [ht]
    rw [off_hdr k hk (offO_range h (k + 1) (by omega))]
    unfold offO; rw [if_neg (by omega)]; rfl
  have hOT : ∀ k, k ≤ 6 → offT (cntX (fullB fr c)) k = offT c k := fun k hk => offT_same fun s a b => hC s a (by omega)
  have hS : ∀ n k, k + n = 6 → secX (fullB fr c) k n = (0, 0) := by
    intro n
    induction n with
    | zero => intro k _; rfl
    | succ n ih =>
      intro k hk
      unfold secX
      rw [hC (k + 1) (by omega) (by omega), hO k (by omega), hOT k (by omega), if_neg (by have := (h (k + 1) (by omega) (by omega)).2; omega), if_neg (by simp)]
      exact ih (k + 1) (by omega)
  have hT : totT (cntX (fullB fr c)) = totT c := by unfold totT; rw [hOT 6 (by omega)]
  have hV : getV (fullB fr c) = (0, 0) := by
    unfold getV
    rw [hH, hS 6 0 rfl, hT, hlen, if_neg (by simp), if_neg (by simp), if_neg (by omega)]
  refine ⟨hV, ?_⟩
  unfold getT
  rw [hV, if_pos rfl]
  have hfr : numV (fullB fr c) 16 8 = fr := by unfold fullB; rw [ht]; exact frame_hdr hf
  rw [hfr]
  unfold tabT
  rw [hT]
  unfold tabA offO cntO
  simp only [hOT 0 (by omega), hOT 1 (by omega), hOT 2 (by omega), hOT 3 (by omega), hOT 4 (by omega), hOT 5 (by omega), hC 1 (by omega) (by omega), hC 2 (by omega) (by omega), hC 3 (by omega) (by omega), hC 4 (by omega) (by omega), hC 5 (by omega) (by omega), hC 6 (by omega) (by omega), Nat.add_sub_cancel, Nat.reduceSub, Nat.reduceEqDiff, if_true, if_false, reduceIte]
  try rfl
end Go.Proofs.Ythnognjcbjgkbaa
