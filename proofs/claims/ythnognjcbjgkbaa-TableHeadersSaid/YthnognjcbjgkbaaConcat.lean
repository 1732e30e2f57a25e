/-
  Contracts of slices.Grow at nil and of slices.Concat at slices of bytes.
-/
import Derived.Test.YthnognjcbjgkbaaChecked
import Derived.Test.YthnognjcbjgkbaaZeros
import Derived.WalkLawsBesides
namespace Go.Proofs.Ythnognjcbjgkbaa
set_option linter.unusedVariables false
open Go.RowKit

theorem infoU8c : (Try.prog.info? U8t).map (fun i => (i.zero, i.size, i.bytes)) = some (some (.int .u8 0), 1, 1) := by kernel_rfl

theorem map_add_zero (A : Option Addr) : A.map (·.add 0) = A := by cases A <;> simp [Addr.add]

section
variable {P : Program} {w : World} {ops : Array Oper} {rest : List Oper} {o : Oper} {a : Act} {Q : Exit → Act → World → Prop}
/-- 'x[:h]': the address stays -/
theorem wpList_upto (hg : o.guard = none) (x h : Operand) (T : TypeId) (hop : o.op = .slice T x none (some h) none) (hT : P.underlying T = some (.slice (P.elem T))) (hsz : (P.info? (P.elem T)).map (·.size) = some 1)
    (A : Option Addr) (n c hn : Nat) (hx : a.eval x = .slice A n c) (hh : a.eval h = .int .i64 (hn : Int)) (h2 : hn ≤ c)
    (hK : wpList P ops Q rest (a.put o.dst (.slice A hn c)) w) : wpList P ops Q (o :: rest) a w := by
  refine wpList_plain hg fun K hK' => ?_
  have hs := size_of_info hsz w
  unfold Oper.wp
  simp only [execOp, hop, Option.map_some, Option.map_none, hx, hh, Sem.run_bind, Sem.run_pure, run_sliceAt_slice (P := P) (w := w) T _ _ _ _ hT, run_slice_h (P := P) (w := w) T A n c hT .i64 hn (by omega) (by omega), hs, Result.andThen, sliced, Int.toNat_natCast, Nat.mul_one, Nat.sub_zero, map_add_zero, ite_self]
  exact hK' _ _ hK
end

/-- a slice of bytes that is handed on -/
structure Sl where
  A : Option Addr
  c : Nat
  xs : List UInt8
def Sl.val (s : Sl) : Value := .slice s.A s.xs.length s.c
/-- the slice of slices at 'S' reads as L -/
def RdS (w : World) (B : Nat) (S : Option Addr) (L : List Sl) : Prop :=
  (L = [] ∨ ∃ b off, S = some ⟨b, off, none⟩ ∧ b < B ∧ ∀ j s, L[j]? = some s → w.cell? ⟨b, off + j, none⟩ = some s.val) ∧ ∀ s ∈ L, Rd w B s.A s.xs
theorem RdS.below {w w' : World} {B : Nat} {S : Option Addr} {L : List Sl} (h : RdS w B S L) (hb : Below B w w') : RdS w' B S L := by
  refine ⟨?_, fun s hs => (h.2 s hs).below hb⟩
  rcases h.1 with h | ⟨b, off, e, hb', hc⟩
  · exact .inl h
  · exact .inr ⟨b, off, e, hb', fun j s hs => (hb.cell (p := ⟨b, off + j, none⟩) hb').trans (hc j s hs)⟩
/-- all bytes of the slices -/
def catS (L : List Sl) : List UInt8 := (L.map (·.xs)).flatten
theorem catS_take (L : List Sl) (k : Nat) (s : Sl) (h : L[k]? = some s) : catS (L.take (k + 1)) = catS (L.take k) ++ s.xs := by
  unfold catS
  have hk : k < L.length := (List.getElem?_eq_some_iff.1 h).1
  have e : L[k] = s := (List.getElem?_eq_some_iff.1 h).2
  rw [List.take_succ_eq_append_getElem hk, List.map_append, List.flatten_append, e]
  simp
theorem catS_le (L : List Sl) (k : Nat) : (catS (L.take k)).length ≤ (catS L).length := by
  have : catS L = catS (L.take k) ++ catS (L.drop k) := by
    unfold catS; rw [← List.flatten_append, ← List.map_append, List.take_append_drop]
  rw [this, List.length_append]; omega

/-- what Grow leaves at nil -/
def Grown0 (w : World) (e : Ending) (w' : World) : Prop := ∃ A c, e = .returned (.slice A 0 c) ∧ Own w' A c [] ∧ Fresh w A ∧ Below w.heap.size w w'

set_option maxRecDepth 20000 in
set_option maxHeartbeats 400000 in
theorem Grow_nil (n : Nat) (w : World) (hn : n ≤ 140737488355328) : Calls Try.prog 44 #[.slice none 0 0, .int .i64 (n : Int)] w (Grown0 w) := by
  by_cases h0 : n = 0
  · subst h0
    go_enter Try.func44, Try.ntmps44
    go_wp2_with fail
    go_ret
    exact ⟨none, 0, rfl, Own.nil _, (fun k h => by cases h), Below.refl _ _⟩
  · have hpos : (0 : Int) < (n : Int) := by omega
    clear h0
    go_enter Try.func44, Try.ntmps44
    go_wp2_with (first
      | (at_builtin; refine wpList_app_zeros rfl (.tmp 20) (.tmp 21) 44 3 rfl .i64 .i64 Try.underlying44 Try.underlying3 infoU8c none 0 0 [] rfl rfl (Own.nil w) n rfl (by simpa using hn) ?_; intro A' c' w' hown hg hat; have HO := Lib.hid hown; clear hown)
      | (refine wpList_upto rfl (.tmp 22) (.tmp 24) 44 rfl rfl (by kernel_rfl) A' _ c' 0 rfl rfl (Nat.zero_le _) ?_))
    go_ret
    have hb : Below w.heap.size w w' := (Below.refl _ w).grown hg (Nat.le_refl _) (fun k e => by cases e)
    refine ⟨A', c', rfl, ?_, fun k hk => ?_, hb⟩
    · rcases HO.out.form with ⟨rfl, rfl, _⟩ | ⟨g, cur, rfl, hgg, h1, h2, h3, h4⟩
      · exact Own.nil _
      · exact ⟨by simp [bvs], .inr ⟨g, c', cur, rfl, Nat.zero_le _, hgg, Nat.zero_le _, h2, by omega, by simp [bvs]⟩⟩
    · rcases hat with h | h
      · rw [hk] at h; cases h
      · exact Nat.le_of_eq (Option.some.inj (h.symm.trans hk))

/-- what Concat leaves -/
def MadeC (w : World) (L : List Sl) (e : Ending) (w' : World) : Prop :=
  ∃ A c, e = .returned (.slice A (catS L).length c) ∧ Own w' A c (catS L) ∧ Fresh w A ∧ Below w.heap.size w w'

set_option maxRecDepth 20000 in
set_option maxHeartbeats 1600000 in
theorem Concat_any (S : Option Addr) (n cs : Nat) (L : List Sl) (w : World) (hn : L.length = n) (hR : RdS w w.heap.size S L) (hl : n ≤ 9223372036854775807) (hlen : (catS L).length ≤ 140737488355328) :
    Calls Try.prog 27 #[.slice S n cs] w (MadeC w L) := by
  have HN := Lib.hid hn
  have HR := Lib.hid hR
  have HT := Lib.hid (catS_take L)
  have HLE := Lib.hid (catS_le L)
  clear hn
  go_enter Try.func27, Try.ntmps27
  go_wp2_with fail
  go_loop [3, 11] (fun z i => ∃ k : Nat, k ≤ n ∧ i = .int .i64 (k : Int) ∧ z = .int .i64 ((catS (L.take k)).length : Int)) (fun _ i => n - (intOf i).toNat)
  case atStart => exact ⟨0, Nat.zero_le _, rfl, by simp [catS]⟩
  case round =>
    obtain ⟨k, hk, rfl, rfl⟩ := hrel
    have hle := HLE.out k
    have hle1 := HLE.out (k + 1)
    by_cases hlt : k < n
    · obtain ⟨s, hs⟩ : ∃ s, L[k]? = some s := ⟨_, List.getElem?_eq_getElem (by rw [HN.out]; exact hlt)⟩
      have HE := Lib.hid (HT.out k s hs)
      obtain ⟨b, off, rfl, hb, hc⟩ : ∃ b off, S = some ⟨b, off, none⟩ ∧ b < w.heap.size ∧ ∀ j s, L[j]? = some s → w.cell? ⟨b, off + j, none⟩ = some s.val := by
        rcases HR.out.1 with h | h
        · rw [h] at hs; simp at hs
        · exact h
      have hcell : w.cell? ⟨b, off + k, none⟩ = some (.slice s.A s.xs.length s.c) := hc k s hs
      rw [HE.out, List.length_append] at hle1
      clear hc hs hR
      go_wp2
      go_round
      case rel => exact ⟨k + 1, by omega, by go_num, by rw [HE.out, List.length_append]; go_num⟩
      case measure => simp [intOf]; omega
    · have ek : k = n := by omega
      have HK : Hid (catS (L.take k) = catS L) := by show _ = _; rw [List.take_of_length_le (by rw [HN.out]; omega)]
      rw [HK.out] at *
      clear hle1 hle HLE
      go_wp2_with fail
      refine (Grow_nil _ w hlen).mono ?_
      rintro e w1 ⟨A1, c1, rfl, ho1, hf1, hb1⟩
      have HO1 := Lib.hid ho1
      have HF1 : Hid (∀ k, blk A1 = some k → w.heap.size ≤ k) := hf1
      clear ho1 hf1 ek hk hlt HK
      go_wp2_with fail
      go_loopw [6, 27] (fun z i wr => ∃ (k : Nat) (A : Option Addr) (c : Nat), k ≤ n ∧ i = .int .i64 (k : Int) ∧ z = .slice A (catS (L.take k)).length c ∧ Own wr A c (catS (L.take k)) ∧ Hid (∀ k, blk A = some k → w.heap.size ≤ k) ∧ Below w.heap.size w wr) (fun _ i _ => n - (intOf i).toNat)
      case atStart => exact ⟨0, A1, c1, Nat.zero_le _, rfl, by simp [catS], by simpa [catS] using HO1.out, HF1.out, hb1⟩
      case round =>
        obtain ⟨k, A, c, hk, rfl, rfl, hO, HF, hB⟩ := hrel
        have HO := Lib.hid hO
        have HB := Lib.hid hB
        clear hO hB hb1 HO1 HF1
        by_cases hlt : k < n
        · obtain ⟨s, hs⟩ : ∃ s, L[k]? = some s := ⟨_, List.getElem?_eq_getElem (by rw [HN.out]; exact hlt)⟩
          have HE := Lib.hid (HT.out k s hs)
          have hle1 := catS_le L (k + 1)
          rw [HE.out, List.length_append] at hle1
          have HRS := Lib.hid (HR.out.below HB.out)
          have HRX := Lib.hid (HRS.out.2 s (List.mem_of_getElem? hs))
          obtain ⟨b, off, rfl, hb, hc⟩ : ∃ b off, S = some ⟨b, off, none⟩ ∧ b < w.heap.size ∧ ∀ j s, L[j]? = some s → wr.cell? ⟨b, off + j, none⟩ = some s.val := by
            rcases HRS.out.1 with h | h
            · rw [h] at hs; simp at hs
            · exact h
          have hcell : wr.cell? ⟨b, off + k, none⟩ = some (.slice s.A s.xs.length s.c) := hc k s hs
          clear hc hs hR
          go_wp2_with (at_builtin; refine wpList_app rfl (.tmp 31) (.tmp 32) 44 rfl Try.underlying44 infoU8c A (catS (L.take k)).length c (catS (L.take k)) rfl rfl HO.out w.heap.size s.A s.xs.length s.c s.xs rfl rfl HRX.out (by omega) ?_; intro A' c' w' hown hg hat hnn; have HO' := Lib.hid hown; have HF' : Hid (∀ k, blk A' = some k → w.heap.size ≤ k) := (by intro k' hk'; rcases hat with h | h; exact HF.out k' (h.symm.trans hk'); exact Nat.le_trans HB.out.size (Nat.le_of_eq (Option.some.inj (h.symm.trans hk')))); have HB' := Lib.hid (HB.out.grown hg HB.out.size HF.out); clear hown hg hat hnn)
          go_roundw
          case rel => exact ⟨k + 1, A', c', by omega, by go_num, by rw [HE.out]; simp, by rw [HE.out]; exact HO'.out, HF'.out, HB'.out⟩
          case measure => simp [intOf]; omega
        · have HK : Hid (catS (L.take k) = catS L) := by show _ = _; rw [List.take_of_length_le (by rw [HN.out]; omega)]
          go_wp2_with fail
          go_ret
          refine ⟨A, c, by rw [← HK.out]; rfl, by rw [← HK.out]; exact HO.out, HF.out, HB.out⟩
end Go.Proofs.Ythnognjcbjgkbaa
