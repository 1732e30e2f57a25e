/-
  Contracts of package crc: Sum, little; the reference's Seal.
-/
import Derived.Test.YtkpdeldegdngaaaCrc3
namespace Go.Proofs.Ytkpdeldegdngaaa
set_option linter.unusedVariables false
open Go.RowKit

theorem fold_get (l : List Value) : ∀ (n : Nat) (z : Array Value), n + l.length ≤ z.size →
    ((l.zipIdx n).foldl (fun acc (p : Value × Nat) => acc.setIfInBounds (0 + p.2) p.1) z).size = z.size ∧
    ∀ i, ((l.zipIdx n).foldl (fun acc (p : Value × Nat) => acc.setIfInBounds (0 + p.2) p.1) z)[i]? = if n ≤ i ∧ i < n + l.length then l[i - n]? else z[i]? := by
  induction l with
  | nil => intro n z _; refine ⟨rfl, fun i => ?_⟩; rw [if_neg (by simp only [List.length_nil]; omega)]; rfl
  | cons v l ih =>
    intro n z h
    have h1 := ih (n + 1) (z.setIfInBounds (0 + n) v) (by simp at h ⊢; omega)
    simp only [List.zipIdx_cons, List.foldl_cons]
    refine ⟨by rw [h1.1]; simp, fun i => ?_⟩
    rw [h1.2 i]
    simp only [List.length_cons] at h ⊢
    by_cases e : i = n
    · subst e
      rw [if_neg (by omega), if_pos (by omega), Array.getElem?_setIfInBounds, if_pos (by omega), if_pos (by omega)]
      simp
    · by_cases e2 : n + 1 ≤ i ∧ i < n + 1 + l.length
      · rw [if_pos e2, if_pos (by omega), show i - n = (i - (n + 1)) + 1 by omega]; simp
      · rw [if_neg e2, if_neg (by omega), Array.getElem?_setIfInBounds, if_neg (by omega)]
theorem fold_all (cs z : Array Value) (h : z.size = cs.size) : cs.zipIdx.foldl (fun acc (p : Value × Nat) => acc.setIfInBounds (0 + p.2) p.1) z = cs := by
  rw [← Array.foldl_toList]
  have e : cs.zipIdx.toList = cs.toList.zipIdx 0 := by simp
  rw [e]
  have h1 := fold_get cs.toList 0 z (by simp; omega)
  apply Array.ext_getElem?
  intro i
  rw [h1.2 i]
  by_cases hi : i < cs.size
  · rw [if_pos (by simp; omega)]; simp
  · rw [if_neg (by simp; omega), Array.getElem?_eq_none (by omega), Array.getElem?_eq_none (by omega)]

theorem built_machine (cs : Array Value) (h : cs.size = 256) : Try.prog.built 48 [(0, .agg cs)] = some cs := by
  have h1 : ∀ v, Try.prog.built 48 [(0, v)] = Instr.fill (fun i => (#[(0, 256)] : Array (Nat × Nat))[i]?) (Array.replicate 256 (.int .u32 0)) [(0, v)] := fun v => by kernel_rfl
  rw [h1]
  have h2 : (0 + cs.size > (Array.replicate 256 (Value.int .u32 0)).size) = False := by simp; omega
  unfold Instr.fill
  simp only [Value.cells, List.getElem?_toArray, List.getElem?_cons_zero, h, ne_eq, not_true_eq_false, decide_false, Bool.false_or, Instr.fill]
  rw [if_neg (by simp)]
  congr 1
  exact fold_all cs _ (by simp; omega)

section
variable {P : Program} {w : World} {ops : Array Oper} {rest : List Oper} {o : Oper} {a : Act} {Q : Exit → Act → World → Prop}
/-- a struct of one field is built, its cells by name -/
theorem wpList_build1 (hg : o.guard = none) (t : TypeId) (x : Operand) (ho : o.op = .build t #[(0, x)]) (v : Value) (hx : a.eval x = v) (cells : Array Value) (hb : P.built t [(0, v)] = some cells)
    (h : wpList P ops Q rest (a.put o.dst (.agg cells)) w) : wpList P ops Q (o :: rest) a w := by
  refine wpList_plain hg fun K hK => ?_
  have hr := run_build (P := P) w t #[(0, v)] cells hb
  unfold Oper.wp execOp
  simp only [ho, List.map_toArray, List.map_cons, List.map_nil, hx, Sem.run_bind, hr, Result.andThen_ok]
  exact hK _ _ h
end

set_option maxRecDepth 100000 in
set_option maxHeartbeats 800000 in
theorem Sum_any (S : Option Addr) (n c : Nat) (L : List Sl) (w : World) (hn : L.length = n) (hR : RdS w w.heap.size S L) (hl : n ≤ 9223372036854775807) (hx : ∀ s ∈ L, s.xs.length ≤ 9223372036854775807) :
    Calls Try.prog 11 #[.slice S n c] w fun e w' => e = .returned (.int .u32 (u32 (CrcP.sum (catS L)))) ∧ Below w.heap.size w w' := by
  have HN := Lib.hid hn
  have HR := Lib.hid hR
  have HX := Lib.hid hx
  have HT := Lib.hid (catS_take L)
  have H1 : Hid (u32 CrcP.ones = 4294967295) := by show _ = _; decide
  clear hn hR hx
  go_enter Try.func11, Try.ntmps11
  go_wp2_with fail
  refine (Table_any _).mono ?_
  rintro e w1 ⟨tab, rfl, htab, hb1⟩
  have HB := Lib.hid (built_machine tab htab.1)
  have HM : Hid (Mach (w1.alloc (.cells tab 48)) w1.heap.size) := ⟨tab, heap_alloc_new w1 _, htab.2⟩
  have HW := Lib.hid (hb1.alloc hb1.size (.cells tab 48))
  have HR1 := Lib.hid (HR.out.below HW.out)
  clear htab hb1
  go_wp2_with (refine wpList_build1 rfl 48 (.tmp 8) rfl (.agg tab) rfl tab HB.out ?_)
  go_loop [5, 15] (fun x i => ∃ k : Nat, k ≤ n ∧ i = .int .i64 (k : Int) ∧ x = .int .u32 (u32 (CrcP.feed CrcP.ones (catS (L.take k))))) (fun _ i => n - (intOf i).toNat)
  case atStart => exact ⟨0, Nat.zero_le _, rfl, by rw [List.take_zero]; show _ = Value.int .u32 (u32 CrcP.ones); rw [H1.out]⟩
  case round =>
    obtain ⟨k, hk, rfl, rfl⟩ := hrel
    by_cases hlt : k < n
    · obtain ⟨s, hs⟩ : ∃ s, L[k]? = some s := ⟨_, List.getElem?_eq_getElem (by rw [HN.out]; exact hlt)⟩
      have HE := Lib.hid (HT.out k s hs)
      have HRX := Lib.hid (HR1.out.2 s (List.mem_of_getElem? hs))
      have HLX := Lib.hid (HX.out s (List.mem_of_getElem? hs))
      obtain ⟨b, off, rfl, hb, hc⟩ : ∃ b off, S = some ⟨b, off, none⟩ ∧ b < w.heap.size ∧ ∀ j s, L[j]? = some s → (w1.alloc (.cells tab 48)).cell? ⟨b, off + j, none⟩ = some s.val := by
        rcases HR1.out.1 with h | h
        · rw [h] at hs; simp at hs
        · exact h
      have hcell : (w1.alloc (.cells tab 48)).cell? ⟨b, off + k, none⟩ = some (.slice s.A s.xs.length s.c) := hc k s hs
      clear hc hs
      go_wp2_with fail
      refine (feed_any w1.heap.size _ w.heap.size s.A s.c s.xs.length s.xs _ rfl HRX.out HLX.out HM.out).mono ?_
      rintro e w' ⟨rfl, rfl⟩
      go_wp2_with fail
      go_round
      case rel => exact ⟨k + 1, by omega, by go_num, by rw [HE.out, CrcP.feed_append]⟩
      case measure => simp [intOf]; omega
    · have ek : k = n := by omega
      have HK : Hid (catS (L.take k) = catS L) := by show _ = _; rw [List.take_of_length_le (by rw [HN.out]; omega)]
      have HE : Hid (bits .xor .u32 IntKind.u32.max (u32 (CrcP.feed CrcP.ones (catS (L.take k)))) = u32 (CrcP.sum (catS L))) := by
        show _ = _
        rw [HK.out, CrcP.sum_def, ← u32_xor_bv, H1.out]
        rfl
      clear ek
      go_wp2_with fail
      go_ret
      exact ⟨by rw [← HE.out]; rfl, HW.out⟩

/-- one slice alone -/
theorem catS_one (A : Option Addr) (c : Nat) (xs : List UInt8) : catS [⟨A, c, xs⟩] = xs := by simp [catS]
theorem RdS.one {w : World} {B : Nat} {A : Option Addr} {c : Nat} {xs : List UInt8} (T : TypeId) (hR : Rd w B A xs) (hB : B ≤ w.heap.size) :
    RdS (w.alloc (.cells #[.slice A xs.length c] T)) (w.alloc (.cells #[.slice A xs.length c] T)).heap.size (some ⟨w.heap.size, 0, none⟩) [⟨A, c, xs⟩] := by
  refine ⟨.inr ⟨w.heap.size, 0, rfl, by simp, fun j s hs => ?_⟩, fun s hs => ?_⟩
  · have hj : j = 0 := by
      have := (List.getElem?_eq_some_iff.1 hs).1
      simpa using this
    subst hj
    simp at hs
    subst hs
    rw [Nat.add_zero, World.cell?_alloc_at (w := w) _ _ _ _ rfl]
    rfl
  · simp at hs
    subst hs
    exact (hR.alloc hB _).more (by simp; omega)
end Go.Proofs.Ytkpdeldegdngaaa
