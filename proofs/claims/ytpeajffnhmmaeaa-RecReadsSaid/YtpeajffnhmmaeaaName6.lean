/-
  Contracts of the reference's Valid (names), text, Partition.
-/
import Derived.Test.YtpeajffnhmmaeaaName5
import Derived.Test.YtpeajffnhmmaeaaClr
namespace Go.Proofs.Ytpeajffnhmmaeaa
set_option linter.unusedVariables false
open Go.RowKit

theorem get_bang (s : ByteArray) (k : Nat) (h : k < s.size) : s.get! k = s[k]'h := by
  show s.data[k]! = _
  rw [getElem!_pos s.data k h]
  rfl
set_option maxRecDepth 20000 in
set_option maxHeartbeats 800000 in
theorem refValid_any (s : ByteArray) (w : World) (hs : s.size ≤ 9223372036854775807) : Calls Try.prog 9 #[.string s] w fun e w' => e = .returned (.bool (vldB s)) ∧ w = w' := by
  have HT : Hid ((∀ j, j < s.size → okC (s.get! j)) → ∀ b1 b2 : Bool, b1 = decide ((1 : Int) ≤ (s.size : Int)) → b2 = decide ((s.size : Int) ≤ 30) → vldB s = (b1 && b2)) := by
    intro h b1 b2 e1 e2
    rw [Bool.eq_iff_iff, vldB_iff, e1, e2]
    simp only [vldP, okS, Bool.and_eq_true, decide_eq_true_eq]
    constructor
    · rintro ⟨a, b, c⟩; exact ⟨by omega, by omega⟩
    · rintro ⟨a, b⟩; exact ⟨by omega, by omega, h⟩
  have HF : Hid (∀ k, k < s.size → ¬ okC (s.get! k) → vldB s = false) := fun k h1 h2 => vldB_false fun h => h2 (h.2.2 k h1)
  generalize vldB s = bo at *
  go_enter Try.func9, Try.ntmps9
  go_wp2_with fail
  go_loopw [3] (fun i wr => ∃ (k : Nat), k ≤ s.size ∧ i = .int .i64 (k : Int) ∧ w = wr ∧ ∀ j, j < k → okC (s.get! j)) (fun i _ => s.size - (intOf i).toNat)
  case atStart => exact ⟨0, Nat.zero_le _, rfl, rfl, fun j h => absurd h (Nat.not_lt_zero _)⟩
  case round =>
    obtain ⟨k, hk, rfl, rfl, hok⟩ := hrel
    have HOK := Lib.hid hok
    clear hok
    by_cases hlt : k < s.size
    · have hix : (0 : Int) ≤ (k : Int) ∧ (k : Int) < (s.size : Int) := ⟨by omega, by omega⟩
      have HG := Lib.hid (get_bang s k hlt)
      have hkn : (k : Int).toNat = k := Int.toNat_natCast k
      have HQ : Hid (∀ x, s[k]'hlt = x → okC x → ∀ j, j < k + 1 → okC (s.get! j)) := by
        intro x hx ho j hj
        by_cases e : j = k
        · subst e; rw [HG.out, hx]; exact ho
        · exact HOK.out j (by omega)
      have HN : Hid (∀ x, s[k]'hlt = x → ¬ okC x → bo = false) := fun x hx ho => HF.out k hlt (by rw [HG.out, hx]; exact ho)
      generalize hx : s[k]'hlt = x at *
      have HX := Lib.hid hx
      by_cases h1 : x.toNat < 32
      · have d1 : decide ((x.toNat : Int) < 32) = true := decide_eq_true (by omega)
        have E := Lib.hid (HN.out x rfl (fun h => by unfold okC at h; omega))
        go_wp2_with fail
        go_ret
        exact ⟨by rw [E.out]; rfl, rfl⟩
      · have d1 : decide ((x.toNat : Int) < 32) = false := decide_eq_false (by omega)
        by_cases h2 : 126 < x.toNat
        · have d2 : decide ((126 : Int) < (x.toNat : Int)) = true := decide_eq_true (by omega)
          have E := Lib.hid (HN.out x rfl (fun h => by unfold okC at h; omega))
          go_wp2_with fail
          go_ret
          exact ⟨by rw [E.out]; rfl, rfl⟩
        · have d2 : decide ((126 : Int) < (x.toNat : Int)) = false := decide_eq_false (by omega)
          have E := Lib.hid (HQ.out x rfl ⟨by omega, by omega⟩)
          go_wp2_with fail
          go_roundw
          case rel => exact ⟨k + 1, by omega, by go_num, by first | rfl | trivial, E.out⟩
          case measure => simp [intOf]; omega
    · have ek : k = s.size := by omega
      subst ek
      have E := Lib.hid (HT.out HOK.out _ _ rfl rfl)
      by_cases h1 : (1 : Int) ≤ (s.size : Int)
      · have d1 : decide ((1 : Int) ≤ (s.size : Int)) = true := decide_eq_true h1
        go_wp2_with fail
        go_ret
        exact ⟨by rw [E.out, d1]; rfl, rfl⟩
      · have d1 : decide ((1 : Int) ≤ (s.size : Int)) = false := decide_eq_false h1
        go_wp2_with fail
        go_ret
        exact ⟨by rw [E.out, d1]; rfl, rfl⟩

section
variable {P : Program} {w : World} {ops : Array Oper} {rest : List Oper} {o : Oper} {a : Act} {Q : Exit → Act → World → Prop}
theorem strCells_bvs (s : ByteArray) : Lib.strCells s = bvs s.data.toList := rfl
theorem strData_len (s : ByteArray) : s.data.toList.length = s.size := by rw [Lib.size_eq]
/-- 'append(b, s...)': s a string, b of a block made since w0 -/
theorem wpList_app_str (hgd : o.guard = none) (s x : Operand) (T U : TypeId) (ho : o.op = .call { callee := .builtin .append, args := #[s, x], argTypes := #[T, U] })
    (ht : P.underlying T = some (.slice U8t)) (hu : P.underlying U = some .string) (hinfo : (P.info? U8t).map (fun i => (i.zero, i.size, i.bytes)) = some (some (.int .u8 0), 1, 1))
    (w0 : World) (A : Option Addr) (n c : Nat) (xs : List UInt8) (hn : xs.length = n) (hs : a.eval s = .slice A n c) (hK : Kept w0 w A c xs) (str : ByteArray) (hx : a.eval x = .string str) (hlen : xs.length + str.size ≤ 140737488355328)
    (h : ∀ A' c' w', Kept w0 w' A' c' (xs ++ str.data.toList) → wpList P ops Q rest (a.put o.dst (.slice A' (xs ++ str.data.toList).length c')) w') : wpList P ops Q (o :: rest) a w := by
  subst hn
  obtain ⟨i, hi, hz, hsz, hb⟩ := info_parts hinfo
  have hown : w.ownsRow w0.heap.size U8t 1 (.slice A xs.length c) xs.length (bvs xs) := by
    refine ⟨hK.own.1, ?_⟩
    rcases hK.own.2 with h | ⟨g, cap, cur, e, _, r⟩
    · exact .inl h
    · injection e with e1 e2 e3
      subst e1
      exact .inr ⟨g, cap, cur, by rw [e3], hK.fresh g rfl, r⟩
  refine Lib.wpList_append_own_string w hgd s x T U ho w0.heap.size U8t i ht hu hi hz hsz hb _ xs.length (bvs xs) hs hown str hx (by unfold maxLen; omega) (by omega) hK.bel.size ?_
  intro v' w' h2 h3 _
  have e : ∃ A' c', v' = .slice A' (xs ++ str.data.toList).length c' := by
    rcases h2.2 with ⟨rfl, h0⟩ | ⟨g, cap, cur, rfl, _⟩
    · exact ⟨none, 0, by rw [List.length_append, strData_len, h0]⟩
    · exact ⟨_, cap, by rw [List.length_append, strData_len]⟩
  obtain ⟨A', c', rfl⟩ := e
  refine h A' c' w' ⟨?_, fun k hk => ?_, hK.bel.grown h3 hK.bel.size (fun k e => hK.fresh k (by rw [ownBlock_slice] at e; exact e))⟩
  · have h2' : w'.ownsRow w0.heap.size U8t 1 (.slice A' (xs ++ str.data.toList).length c') (xs ++ str.data.toList).length (bvs (xs ++ str.data.toList)) := by
      rw [bvs_append, List.length_append, strData_len]
      rw [List.length_append, strData_len] at h2
      exact h2
    refine ⟨h2'.1, ?_⟩
    rcases h2'.2 with h | ⟨g, cap, cur, e, _, r⟩
    · exact .inl h
    · exact .inr ⟨g, cap, cur, e, Nat.zero_le _, r⟩
  · rcases h2.2 with ⟨e, _⟩ | ⟨g, cap, cur, e, hg, _⟩
    · injection e with e1 _ _
      subst e1
      cases hk
    · injection e with e1 _ _
      subst e1
      cases hk
      exact hg
end

set_option maxRecDepth 20000 in
set_option maxHeartbeats 800000 in
theorem Kept.text {w wi : World} {A : Option Addr} {c : Nat} {xs : List UInt8} (h : Kept w wi A c xs) (m : Nat) (hm : xs.length = m) (s : ByteArray) (hs : vldP s) (hl : m ≤ 90000) :
    Calls Try.prog 61 #[.slice A m c, .string s] wi (NumOK w (xs ++ padL s) (m + 30)) := by
  have HK := Lib.hid h
  have HM := Lib.hid hm
  have hs30 : s.size ≤ 30 := hs.2.1
  have HL : Hid ((xs ++ s.data.toList).length = m + s.size) := by show _ = _; rw [List.length_append, strData_len, hm]
  have HP : Hid (padL s = s.data.toList ++ List.replicate (30 - s.size) 0) := by show _ = _; unfold padL; rw [if_pos hs]
  have hw : IntKind.i64.wrap (30 - (s.size : Int)) = ((30 - s.size : Nat) : Int) := by
    rw [show (30 : Int) - (s.size : Int) = ((30 - s.size : Nat) : Int) by omega]
    exact IntWalk.i64_in _ (by omega)
  clear h hm hs
  go_enter Try.func61, Try.ntmps61
  go_wp2_with (first
    | (at_builtin; refine wpList_app rfl (.tmp 5) (.tmp 6) 22 rfl Try.underlying22 infoU8 (some ⟨wi.heap.size, 0, none⟩) 0 0 [] rfl rfl (Own.empty wi) wi.heap.size A m c xs HM.out rfl (HK.out.own.rd.alloc (Nat.le_refl _) _) (by have := HM.out; simp; omega) ?_; intro A1 c1 w1 hown hg hat hnn; rw [List.nil_append] at hown ⊢; have HK1 := Lib.hid (Kept.of_new (w := wi) (cs := #[]) hown hg hat); clear hown hg hat hnn)
    | (at_builtin; refine wpList_app_str rfl (.tmp 7) (.tmp 8) 22 9 rfl Try.underlying22 Try.underlying9 infoU8 wi A1 xs.length c1 xs rfl rfl HK1.out s rfl (by have := HM.out; omega) ?_; intro A2 c2 w2 hK2; rw [HL.out]; have HK2 := Lib.hid hK2; clear hK2))
  refine (HK2.out.pad (m + s.size) HL.out (30 - s.size) (by omega) (by omega)).mono ?_
  rintro e w3 ⟨A3, c3, rfl, k3, l3⟩
  have HK3 := Lib.hid k3
  have L3 := Lib.hid l3
  clear k3 l3
  go_wp2_with fail
  go_ret
  refine ⟨A3, c3, by rw [show m + 30 = m + s.size + (30 - s.size) by omega]; rfl, ?_, by rw [HP.out, ← List.append_assoc, L3.out]; omega⟩
  rw [HP.out, ← List.append_assoc]
  exact HK.out.of_made HK3.out.own HK3.out.fresh HK3.out.bel
end Go.Proofs.Ytpeajffnhmmaeaa
