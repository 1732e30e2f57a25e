/-
  Contract of Forge.
-/
import Derived.Test.YtkpdeldegdngaaaCrc8
import Derived.Test.YtkpdeldegdngaaaStgR
import Derived.RangeFuncBox
import Derived.Deep.Cut
namespace Go.Proofs.Ytkpdeldegdngaaa
set_option linter.unusedVariables false
open Go.RowKit Go.Shelf
attribute [local go_sem] Oper.semAt_some atS upS

theorem row_kept {W W' : World} {row : Option Nat} {q : Nat} {cs : Array Value} {ty : Nat} {s : Nat × Nat} (h : W.heap[q]? = some (.cells cs ty s)) (hg : W.grownBy W' row) (hr : ∀ r, row = some r → ∃ o : Obj, W.heap[r]? = some o ∧ o.isCells = false) :
    W'.heap[q]? = some (.cells cs ty s) := by
  refine (hg.block q (Array.getElem?_eq_some_iff.1 h).1 (fun e => ?_)).trans h
  obtain ⟨o, ho, hc⟩ := hr q e.symm
  rw [h] at ho
  obtain rfl := Option.some.inj ho
  cases hc
/-- bytes are copied into a row of the call's own -/
theorem Own.copy {w : World} {g c : Nat} {xs : List UInt8} (h : Own w (some ⟨g, 0, none⟩) c xs) : ∃ cur : Array Value, w.heap[g]? = some (.cells cur U8t (0, 0)) ∧ xs.length ≤ cur.size ∧
    ∀ (a : Nat) (ys : List UInt8), a + ys.length ≤ xs.length → Own (w.setRow g (cur.toList.take a ++ bvs ys ++ cur.toList.drop (a + ys.length)).toArray) (some ⟨g, 0, none⟩) c (xs.take a ++ ys ++ xs.drop (a + ys.length)) := by
  rcases h.form with ⟨e, _⟩ | ⟨g', cur, e, hg, h1, h2, hcs, ht⟩
  · cases e
  · injection e with e
    injection e with e _ _
    subst e
    refine ⟨cur, hg, by omega, fun a ys hay => ?_⟩
    have hlen : (xs.take a ++ ys ++ xs.drop (a + ys.length)).length = xs.length := by simp; omega
    have hcat : cur.toList = bvs xs ++ cur.toList.drop xs.length := by rw [← ht, List.take_append_drop]
    have hb : (bvs xs).length = xs.length := bvs_length xs
    refine ⟨by rw [bvs_length, Nat.mul_one], .inr ⟨g, c, (cur.toList.take a ++ bvs ys ++ cur.toList.drop (a + ys.length)).toArray, rfl, Nat.zero_le _, setRow_heap w g cur _ U8t (0, 0) hg, by omega, h2, ?_, ?_⟩⟩
    · simp [bvs_length]; omega
    · have e1 : cur.toList.take a = bvs (xs.take a) := by
        rw [hcat, List.take_append_of_le_length (by omega)]
        unfold bvs; rw [List.map_take]
      have e2 : cur.toList.drop (a + ys.length) = bvs (xs.drop (a + ys.length)) ++ cur.toList.drop xs.length := by
        conv => lhs; rw [hcat]
        rw [List.drop_append_of_le_length (by omega)]
        unfold bvs; rw [List.map_drop]
      simp only [e1, e2]
      have e3 : bvs (xs.take a) ++ bvs ys ++ (bvs (xs.drop (a + ys.length)) ++ cur.toList.drop xs.length) = bvs (xs.take a ++ ys ++ xs.drop (a + ys.length)) ++ cur.toList.drop xs.length := by
        simp [bvs_append, List.append_assoc]
      rw [e3]
      simp only [Nat.mul_one]
      exact List.take_left' (bvs_length _)

set_option maxHeartbeats 400000 in
theorem little_det (r : BitVec 32) (w : World) : Calls Try.prog 27 #[.int .u32 (u32 r)] w fun e w' => e = .returned (.slice (some ⟨w.heap.size, 0, none⟩) 4 4) ∧ w' = w.alloc (.cells (bvs (CrcP.little r)).toArray U8t) := by
  obtain ⟨n, hn, hlt, HN⟩ := u32_open r
  rw [hn]
  have HB := Lib.hid (bvs_little r n HN.out)
  clear hn
  rw [← HB.out]
  go_enter Try.func27, Try.ntmps27
  go_wp2
  go_ret
  exact ⟨rfl, rfl⟩

theorem atS_copy {F : Fence} {n : Nat} {P : Program} {o : Oper} {a : Act} {C : World → Prop} {w w' : World} (d s : Operand) (dT sT : TypeId) (ho : o.op = .call { callee := .builtin .copy, args := #[d, s], argTypes := #[dT, sT] }) (dv sv k : Value)
    (hd : a.eval d = dv) (hs : a.eval s = sv) (hrun : (Builtin.copy_ #[dT, sT] o.type #[dv, sv]).run P w = .ok k w') (hC : C w') : atS F n P o a C w k := by
  unfold atS
  simp [execOp, ho, resolve, invoke, builtin, hd, hs, hrun, Result.andThen, upS]
  exact hC

/-- the register, calculated back through what has come -/
def unfB (r : BitVec 32) (pre : List (Nat × UInt8)) : BitVec 32 := (pre.map (·.2)).foldl CrcP.unupd r
theorem unfB_snoc (r : BitVec 32) (pre : List (Nat × UInt8)) (x : Nat × UInt8) : unfB r (pre ++ [x]) = CrcP.unupd (unfB r pre) x.2 := by simp [unfB]
theorem unfB_all (r : BitVec 32) (xs : List UInt8) (pre : List (Nat × UInt8)) (h : pre.map (·.2) = xs.reverse) : unfB r pre = CrcP.unfeed r xs := by
  unfold unfB CrcP.unfeed
  rw [h, List.foldl_reverse]
/-- the register's variable -/
def RegB (q : Nat) (r : BitVec 32) (pre : List (Nat × UInt8)) (W : World) : Prop := W.heap[q + 1]? = some (.cells #[.int .u32 (u32 (unfB r pre))] 42 (0, 0))
theorem RegB.kept {W W' : World} {row : Option Nat} {q : Nat} {r : BitVec 32} {pre : List (Nat × UInt8)} (h : RegB q r pre W) (hg : W.grownBy W' row) (hr : ∀ r, row = some r → ∃ o : Obj, W.heap[r]? = some o ∧ o.isCells = false) : RegB q r pre W' := row_kept h hg hr
theorem one_cell {w : World} {q ty : Nat} {x : Value} (hq : w.heap[q]? = some (.cells #[x] ty (0, 0))) : w.cell? ⟨q, 0, none⟩ = some x ∧ w.frozen? ⟨q, 0, none⟩ = false := by
  refine ⟨?_, by simp [World.frozen?, hq]⟩
  rw [cell_of_row w q _ _ _ (0, 0) hq]; rfl
theorem row_set {w : World} {q ty : Nat} {arr : Array Value} {s : Nat × Nat} (hq : w.heap[q]? = some (.cells arr ty s)) (i : Nat) (v : Value) : (w.setCell ⟨q, i, none⟩ v).heap[q]? = some (.cells (arr.setIfInBounds i v) ty s) := by
  simp [World.setCell, Array.getElem?_modify, hq]
def forgeV (xs : List UInt8) (a : Nat) (s : BitVec 32) : List UInt8 :=
  xs.take a ++ CrcP.little (CrcP.feed CrcP.ones (xs.take a) ^^^ CrcP.unstepN 32 (CrcP.unfeed (~~~ s) (xs.drop (a + 4)))) ++ xs.drop (a + 4)

def ForgeOK (w : World) (xs : List UInt8) (a : Nat) (s : BitVec 32) (e : Ending) (w' : World) : Prop :=
  ∃ A c, e = .returned (.tuple #[.slice A xs.length c, .bool true]) ∧ Own w' A c (forgeV xs a s) ∧ Fresh w A ∧ Below w.heap.size w w'

set_option maxRecDepth 100000 in
set_option maxHeartbeats 2000000 in
theorem Forge_eq (A : Option Addr) (c n a : Nat) (xs : List UInt8) (s : BitVec 32) (w : World) (hn : xs.length = n) (hR : Rd w w.heap.size A xs) (hc : n ≤ c) (hl : n ≤ 100000) (ha : a + 4 ≤ n) (hk : (a : Int) + 4 = (c : Int)) :
    Calls Try.prog 20 #[.slice A n c, .int .i64 (a : Int), .int .u32 (u32 s)] w (ForgeOK w xs a s) := by
  have H1 : Hid (u32 CrcP.ones = 4294967295) := by show _ = _; decide
  have d1 : decide ((a : Int) < 0) = false := decide_eq_false (by omega)
  have d2 : decide ((n : Int) - 4 < (a : Int)) = false := decide_eq_false (by omega)
  have HR := Lib.hid hR
  have HN := Lib.hid hn
  have HC := Lib.hid hc
  have HR2 : Hid (Rd w w.heap.size A (xs.drop c)) := by
    have := hR.part c xs.length c (by omega)
    rw [List.take_of_length_le (by simp)] at this
    first
      | (rw [if_pos rfl] at this; exact this)
      | (rw [if_neg (by assumption)] at this; exact this)
  have HL2 : Hid ((xs.drop c).length = 0) := by show _ = _; simp; omega
  have hns : bits .xor .u32 IntKind.u32.max (u32 s) = u32 (~~~ s) := by rw [CrcP.not_eq, ← u32_xor_bv, H1.out]; rfl
  clear hR hn
  refine (callsIn_wide (n := 3)).1 ?_
  refine callsIn_of_wp_marks Try.func20 rfl trivial ?_ rfl
  simp only [Try.ntmps20, List.size_toArray, List.length_cons, List.length_nil, Nat.reduceAdd, Nat.reduceSub, Array.replicate_succ, Array.replicate_zero, List.push_toArray, List.append_toArray, List.nil_append, List.cons_append]
  refine wpIn_wide.2 ?_
  go_wp2_with fail
  refine (Table_any _).mono ?_
  rintro e w1 ⟨tab, rfl, htab, hb1⟩
  have HB := Lib.hid (built_machine tab htab.1)
  have HM : Hid (Mach (w1.alloc (.cells tab 48)) w1.heap.size) := ⟨tab, heap_alloc_new w1 _, htab.2⟩
  have HW := Lib.hid (hb1.alloc hb1.size (.cells tab 48))
  have HR1 := Lib.hid (HR.out.below HW.out)
  have hq := hb1.size
  clear htab hb1 d1 d2
  go_wp2_with (first
    | (refine wpList_build1 rfl 48 (.tmp 23) rfl (.agg tab) rfl tab HB.out ?_)
    | (refine wpList_upto rfl (.tmp 28) (.tmp 29) 24 rfl rfl (by kernel_rfl) A n c a rfl rfl (by have := HC.out; omega) ?_))
  rw [← H1.out]
  refine (feed_any w1.heap.size CrcP.ones w.heap.size A c a (xs.take a) _ (by have := HN.out; simp; omega) (HR1.out.take a) (by omega) HM.out).mono ?_
  rintro e w2 ⟨rfl, rfl⟩
  have hl1 := HW.out.size
  go_wp2_with fail
  refine (Backward_any .nilFunc A 0 0 _).mono ?_
  rintro e w3 ⟨rfl, rfl⟩
  go_wp2_with fail
  have hsz : (((w1.alloc (.cells tab 48)).alloc (.cells #[.int .u32 (u32 (~~~ s))] 42)).alloc (.cells #[.slice A 0 0] 24)).heap.size = w1.heap.size + 3 := by simp
  have hB0 : Below w.heap.size w (((w1.alloc (.cells tab 48)).alloc (.cells #[.int .u32 (u32 (~~~ s))] 42)).alloc (.cells #[.slice A 0 0] 24)) := (HW.out.alloc HW.out.size _).alloc (by have := HW.out.size; simp at this ⊢; omega) _
  have q1 : (((w1.alloc (.cells tab 48)).alloc (.cells #[.int .u32 (u32 (~~~ s))] 42)).alloc (.cells #[.slice A 0 0] 24)).heap[w1.heap.size + 1]? = some (.cells #[.int .u32 (u32 (~~~ s))] 42 (0, 0)) := by
    have h := heap_alloc_new (w1.alloc (.cells tab 48)) (.cells #[.int .u32 (u32 (~~~ s))] 42)
    rw [World.size_alloc] at h
    exact (Below.heap_alloc _ _ _ (by simp)).trans h
  have q2 : (((w1.alloc (.cells tab 48)).alloc (.cells #[.int .u32 (u32 (~~~ s))] 42)).alloc (.cells #[.slice A 0 0] 24)).heap[w1.heap.size + 1 + 1]? = some (.cells #[.slice A 0 0] 24 (0, 0)) := by
    have h := heap_alloc_new ((w1.alloc (.cells tab 48)).alloc (.cells #[.int .u32 (u32 (~~~ s))] 42)) (.cells #[.slice A 0 0] 24)
    rwa [World.size_alloc, World.size_alloc] at h
  clear HM HB HW HR1
  generalize ((w1.alloc (.cells tab 48)).alloc (.cells #[.int .u32 (u32 (~~~ s))] 42)).alloc (.cells #[.slice A 0 0] 24) = w0 at *
  generalize w1.heap.size = q at *
  have HQ1 := Lib.hid q1
  clear q1 hns
  refine (wpIn_wide (n := 3)).1 ?_
  refine wpIn_rangeFunc_ownF rfl (by omega) (gf := 33) (lb := #[.pointer (some ⟨q + 1 + 1, 0, none⟩)]) rfl trivial (enters_of Try.func33 (by kernel_rfl) rfl)
    (backward_stops 2 w.heap.size (q + 1 + 1) 0 0 A (xs.drop c) (by omega) w0 HL2.out (by omega) (by omega) (by omega) q2 (HR2.out.below hB0)) KpB_t (KpB_b (by omega) (by omega)) (Below.refl _ _) (fun _ => rfl)
    (fun pre W => RegB q (~~~ s) pre W ∧ Below w.heap.size w W)
    (fun _ _ _ => False)
    (OwnFrom.and (Own.from (fun s A B row hs hg hr => hs.kept hg hr) _) (ownFrom_below (by omega) (by omega)))
    (fun _ _ _ _ _ hs _ _ => hs)
    ⟨HQ1.out, hB0⟩
    (fun x => { tmps := #[.slice A n c, .int .i64 (a : Int), .int .u32 (u32 s), undef, undef, undef, .slice none 0 0, .bool false, .pointer (some ⟨q, 0, none⟩), .int .u32 (u32 (CrcP.feed CrcP.ones (xs.take a))), .pointer (some ⟨q + 1, 0, none⟩), undef, .int .u8 (x.2.toNat : Int), undef, .int .i64 (a : Int), .bool false, .bool false, .int .i64 (a : Int), .slice A n c, .int .i64 (n : Int), .int .i64 ((n : Int) - 4), .bool false, .bool false, .agg tab, .agg tab, .pointer (some ⟨q, 0, none⟩), .pointer (some ⟨q, 0, none⟩), .func (.func 23) #[.pointer (some ⟨q, 0, none⟩)] #[], .slice A n c, .int .i64 (a : Int), .slice A a c, .int .u32 (u32 (CrcP.feed CrcP.ones (xs.take a))), .int .u32 (u32 s), .int .u32 (u32 (~~~ s)), .slice A n c, .int .i64 (a : Int), .int .i64 (c : Int), .slice A 0 0, .func (.func 33) #[] #[.pointer (some ⟨q + 1 + 1, 0, none⟩)], .int .i64 (x.1 : Int), .int .u8 (x.2.toNat : Int), undef, undef, undef, undef, undef, undef, undef, undef, undef, undef, undef, undef, undef, undef, undef, undef, undef, undef], defers := [] }) ?assign ?body ?done ?stop
  case assign =>
    intro l x W K hK
    gi_wp2
    exact hK
  case body =>
    rintro l pre x W ⟨hF, hB⟩ hlen
    first | exact absurd hlen (by omega) | skip
    all_goals
      dsimp only
      have HB := Lib.hid hB
      have HF := Lib.hid hF
      obtain ⟨y0, yf⟩ := one_cell hF
      have HN2 := Lib.hid (unfB_snoc (~~~ s) pre x)
      have HI : Hid (∀ r : BitVec 32, bits .xor .u32 (u32 (CrcP.unstepN 8 r)) (x.2.toNat : Int) = u32 (CrcP.unupd r x.2)) := by
        show ∀ r, _ = _
        intro r
        rw [u32_byte x.2 _ rfl, u32_xor_bv]
        rfl
      obtain ⟨cn, hcn⟩ : ∃ cn : Nat, cn = x.2.toNat := ⟨_, rfl⟩
      rw [← hcn] at HI ⊢
      have hc256 : cn < 256 := by rw [hcn]; exact UInt8.toNat_lt _
      have HF2 : Hid (W.heap[q + 1]? = some (.cells #[.int .u32 (u32 (unfB (~~~ s) pre))] 42 (0, 0))) := hF
      generalize unfB (~~~ s) pre = r at *
      clear hF hB hcn
      gi_wp2_with (refine ⟨trivial, ?_⟩; gi_at_call 21; refine (CallsIn.inRound l (callsIn_wide.2 (times_unshift r 8 _ (by omega)))).mono ?_; rintro e w' ⟨rfl, rfl⟩)
      rw [HI.out, ← HN2.out]
      exact ⟨KeepsOthers.setCell _ _ _, ⟨(Below.refl w.heap.size W).setCell (by show w.heap.size ≤ q + 1; omega) _, fun o ho => (Below.heap_setCell _ _ _ _ (by show q + 1 + 1 ≠ q + 1; omega)).trans ho⟩, row_set HF2.out 0 _, HB.out.setCell (by show w.heap.size ≤ q + 1; omega) _⟩
  case done =>
    rintro D ys W hD hys ⟨hF, hB⟩ hK
    have hF2 : W.heap[q + 1]? = some (.cells #[.int .u32 (u32 (CrcP.unfeed (~~~ s) (xs.drop (a + 4))))] 42 (0, 0)) := by
      have h : W.heap[q + 1]? = some (.cells #[.int .u32 (u32 (unfB (~~~ s) ys))] 42 (0, 0)) := hF
      rw [unfB_all _ _ _ hys, show c = a + 4 from by omega] at h
      exact h
    have HB := Lib.hid hB
    have HF := Lib.hid hF2
    obtain ⟨y0, yf⟩ := one_cell hF2
    have HK := Lib.hid hK
    have HV : Hid (forgeV xs a s = xs.take a ++ CrcP.little (CrcP.feed CrcP.ones (xs.take a) ^^^ CrcP.unstepN 32 (CrcP.unfeed (~~~ s) (xs.drop (a + 4)))) ++ xs.drop (a + 4)) := rfl
    generalize CrcP.unfeed (~~~ s) (xs.drop (a + 4)) = r at *
    generalize CrcP.feed CrcP.ones (xs.take a) = f at *
    clear hF hF2 hB hK hys
    go_wp2_with fail
    refine (times_unshift r 32 _ (by omega)).mono ?_
    rintro e w' ⟨rfl, rfl⟩
    go_wp2_with fail
    have B1 : Below w.heap.size w (W.setCell ⟨q + 1, 0, none⟩ (.int .u32 (u32 (CrcP.unstepN 32 r)))) := HB.out.setCell (by show w.heap.size ≤ q + 1; omega) _
    have F1 := row_set HF.out 0 (.int .u32 (u32 (CrcP.unstepN 32 r)))
    have K1 := (KeepsOthers.setCell W ⟨q + 1, 0, none⟩ (.int .u32 (u32 (CrcP.unstepN 32 r)))).same D _ HK.out rfl
    clear y0 yf
    generalize W.setCell ⟨q + 1, 0, none⟩ (.int .u32 (u32 (CrcP.unstepN 32 r))) = W1 at *
    refine (Clone_any w.heap.size A n c xs W1 HN.out (HR.out.below B1) B1.size (by have := HN.out; omega)).mono ?_
    rintro e w4 ⟨A3, c3, rfl, hO, hFr, hb4⟩
    obtain ⟨g, hg⟩ : ∃ g, A3 = some ⟨g, 0, none⟩ := by
      rcases hO.form with ⟨_, _, h⟩ | ⟨g, _, h, _⟩
      · have := HN.out; rw [h] at this; simp at this; omega
      · exact ⟨g, h⟩
    subst hg
    have F4 := (hb4.block (q + 1) (Array.getElem?_eq_some_iff.1 F1).1).trans F1
    have K4 := (hb4.block D (Array.getElem?_eq_some_iff.1 K1).1).trans K1
    have B4 := B1.trans (hb4.mono B1.size)
    have hle := hO.le
    rw [HN.out] at hle
    have hgW : W1.heap.size ≤ g := hFr g rfl
    have hO4 : Own (w4.drew.alloc (.cells (bvs (CrcP.little (f ^^^ CrcP.unstepN 32 r))).toArray U8t)) (some ⟨g, 0, none⟩) c3 xs := Own.alloc (w := w4.drew) hO _
    obtain ⟨cur, hcur, hcs, hcopy⟩ := hO4.copy
    have hcp := hcopy a (CrcP.little (f ^^^ CrcP.unstepN 32 r)) (by have := HN.out; show a + 4 ≤ xs.length; omega)
    have hX : bits .xor .u32 (u32 f) (u32 (CrcP.unstepN 32 r)) = u32 (f ^^^ CrcP.unstepN 32 r) := u32_xor_bv _ _
    obtain ⟨o, ho⟩ : ∃ o, o = Obj.cells (bvs (CrcP.little (f ^^^ CrcP.unstepN 32 r))).toArray U8t := ⟨_, rfl⟩
    obtain ⟨R, hR⟩ : ∃ R, R = (cur.toList.take a ++ bvs (CrcP.little (f ^^^ CrcP.unstepN 32 r)) ++ cur.toList.drop (a + (CrcP.little (f ^^^ CrcP.unstepN 32 r)).length)).toArray := ⟨_, rfl⟩
    rw [← ho] at hcur hcp
    rw [← hR] at hcp
    obtain ⟨DD, hDD⟩ : ∃ DD : Bool → Bool → World → Prop, DD = fun p q w' => (q = true → p = true) ∧ w' = (if q then (w4.drew.alloc o).setRow g R else if p then w4.drew.alloc o else w4.drew) := ⟨_, rfl⟩
    have hk4 : ∀ p q' w', DD p q' w' → w'.cell? ⟨q + 1, 0, none⟩ = some (.int .u32 (u32 (CrcP.unstepN 32 r))) := fun p q' w' h => by
      rw [hDD] at h
      have hx : w'.heap[q + 1]? = some (.cells #[.int .u32 (u32 (CrcP.unstepN 32 r))] 42 (0, 0)) := by
        have hlt := (Array.getElem?_eq_some_iff.1 F4).1
        have hlt1 := (Array.getElem?_eq_some_iff.1 F1).1
        rw [h.2]
        cases q' <;> cases p
        · exact F4
        · exact (Below.heap_alloc w4.drew o (q + 1) hlt).trans F4
        · exact (setRow_other _ g (q + 1) R (by omega)).trans ((Below.heap_alloc w4.drew o (q + 1) hlt).trans F4)
        · exact (setRow_other _ g (q + 1) R (by omega)).trans ((Below.heap_alloc w4.drew o (q + 1) hlt).trans F4)
      exact (one_cell hx).1
    have hinv : ∀ {L w' k}, DD (Came L 6) (Came L 7) w' → k ≠ 6 → k ≠ 7 → DD (Came (Next L k) 6) (Came (Next L k) 7) w' := fun h h6 h7 => by rw [Came_ne h6, Came_ne h7]; exact h
    have h0' : DD (Came (Array.replicate 8 false) 6) (Came (Array.replicate 8 false) 7) w4.drew := by rw [hDD]; exact ⟨fun h => (by cases h), rfl⟩
    have h6 : ∀ q' w', DD false q' w' → w' = w4.drew ∧ q' = false := fun q' w' h => by
      rw [hDD] at h
      cases q'
      · exact ⟨h.2, rfl⟩
      · exact absurd (h.1 rfl) (by decide)
    have h6' : DD true false (w4.drew.alloc o) := by rw [hDD]; exact ⟨fun _ => rfl, rfl⟩
    have h7 : ∀ w', DD true false w' → w' = w4.drew.alloc o := fun w' h => by rw [hDD] at h; exact h.2
    have h7' : DD true true ((w4.drew.alloc o).setRow g R) := by rw [hDD]; exact ⟨fun _ => rfl, rfl⟩
    have h8 : ∀ w', DD true true w' → w' = (w4.drew.alloc o).setRow g R := fun w' h => by rw [hDD] at h; exact h.2
    have hca : ¬ c3 = a := by omega
    have hal : a ≤ xs.length := by have := HN.out; omega
    have hac : (a : Int) ≤ (c3 : Int) := by omega
    have hfol : Try.prog.follows Departure.mixedOrders = true := by kernel_rfl
    have HO := Lib.hid ho
    have HRR := Lib.hid hR
    have HCP := Lib.hid hcp
    have HCUR := Lib.hid hcur
    have HD1 := Lib.hid (Array.getElem?_eq_some_iff.1 K1).1
    have hwW : w.heap.size ≤ W1.heap.size := B1.size
    clear hDD ho hR hcp hcur hcopy F1 K1 B1 hb4 hO4 hO hFr
    go_wp2_with fail
    refine (wpIn_wide (n := 3)).1 ?_
    refine wpIn_region_stageR (fun L w' => DD (Came L 6) (Came L 7) w') (fun L i => i = 7 → Came L 6 = true) hfol rfl (by kernel_rfl) h0' (fun L i h e => by subst e; exact came_of_ready h rfl (e := ⟨6, .data⟩) (by simp) rfl) ?_
    repeat (refine lexR_step (fun K hK => ?_); go_simp; refine ⟨_, fun L w' hL h => ⟨rfl, hinv h (by decide) (by decide)⟩, hK _ ?_⟩; clear hK K)
    refine lexR_step (fun K hK => ?_); go_simp; refine ⟨.int .u32 (u32 (CrcP.unstepN 32 r)), fun L w' hL h => ?_, hK _ ?_⟩; · rw [hk4 _ _ w' h]; exact ⟨rfl, hinv h (by decide) (by decide)⟩
    clear hK K
    repeat (refine lexR_step (fun K hK => ?_); go_simp; refine ⟨_, fun L w' hL h => ⟨rfl, hinv h (by decide) (by decide)⟩, hK _ ?_⟩; clear hK K)
    refine lexR_step (fun K hK => ?_); go_simp; refine ⟨.slice (some ⟨w4.heap.size, 0, none⟩) 4 4, fun L w' hL h => ⟨trivial, ?_⟩, hK _ ?_⟩
    · rw [Came_open hL] at h
      obtain ⟨e1, e2⟩ := h6 _ _ h
      rw [e1]
      refine (callsIn_wide.2 (little_det (f ^^^ CrcP.unstepN 32 r) w4.drew)).mono ?_
      rintro e w5 ⟨rfl, rfl⟩
      refine ⟨rfl, ?_⟩
      rw [Came_same hL, Came_ne (by decide), e2, ← HO.out]
      exact h6'
    clear hK K
    refine lexR_step (fun K hK => ⟨goInt 4, fun L w' hL hRd h => ⟨fun _ _ => trivial, ?_⟩, hK _ ?_⟩)
    · rw [hRd rfl, Came_open hL] at h
      have e1 := h7 _ h
      rw [if_pos (by rfl)]
      have hrun := run_copy_row (P := Try.prog) w' 24 24 3 U8t g a (xs.length - a) (c3 - a) ⟨w4.heap.size, 0, none⟩ 4 4 cur U8t (bvs (CrcP.little (f ^^^ CrcP.unstepN 32 r))) Try.underlying24 (by kernel_rfl) (by rw [e1]; exact HCUR.out) (by rw [bvs_length]; have := HN.out; show 4 = min 4 (xs.length - a); omega)
        (fun j v hj => by
          have hx : (w4.drew.alloc o).heap[w4.heap.size]? = some (.cells (bvs (CrcP.little (f ^^^ CrcP.unstepN 32 r))).toArray U8t (0, 0)) := by rw [HO.out]; exact heap_alloc_new w4.drew _
          rw [e1, add_lit, Nat.zero_add, cell_of_row _ _ j _ _ (0, 0) hx]
          simpa using hj)
        (by rw [bvs_length]; have := HN.out; show a + 4 ≤ cur.size; omega) (bvs_one _)
      rw [bvs_length] at hrun
      have hL7 : Open L 7 := hL
      have hfin : DD (Came (Next L 7) 6) (Came (Next L 7) 7) (w'.setRow g (cur.toList.take a ++ bvs (CrcP.little (f ^^^ CrcP.unstepN 32 r)) ++ cur.toList.drop (a + (CrcP.little (f ^^^ CrcP.unstepN 32 r)).length)).toArray) := by
        rw [Came_ne (by decide), hRd rfl, Came_same hL7, e1, ← HRR.out]
        exact h7'
      exact atS_copy (.tmp 52) (.tmp 56) 24 24 rfl _ _ _ rfl rfl hrun hfin
    refine lexR_nil ?_
    intro w5 hw5
    have e5 := h8 _ hw5
    have hlt4 := (Array.getElem?_eq_some_iff.1 K4).1
    have hD1 : D < W1.heap.size := HD1.out
    have K5 : w5.heap[D]? = some (.deferred (some [])) := by
      rw [e5]
      exact (setRow_other _ g D R (by omega)).trans ((Below.heap_alloc w4.drew o D hlt4).trans K4)
    have O5 : Own w5 (some ⟨g, 0, none⟩) c3 (forgeV xs a s) := by
      rw [e5, HV.out]
      exact HCP.out
    have B5 : Below w.heap.size w w5 := by
      rw [e5]
      have hd : Below w.heap.size w w4.drew := ⟨B4.os, B4.tape, B4.output, B4.size, B4.block⟩
      exact below_setRow (hd.alloc hd.size o) (by have := B4.size; omega) R
    have HO5 := Lib.hid O5
    have HB5 := Lib.hid B5
    have HK5 := Lib.hid K5
    clear hw5 e5 h8 h7' h7 h6' h6 h0' hinv hk4 HCP HCUR HRR HO F4 K4 B4 O5 B5 K5
    go_wp2
    refine ⟨by simp, .inl ⟨_, _, rfl, run_takeDeferred HK5.out, ?_⟩⟩
    refine ⟨.tuple #[.slice (some ⟨g, 0, none⟩) xs.length c3, .bool true], by simp [results, Try.results20, go_sem], some ⟨g, 0, none⟩, c3, rfl, ownsRow_putObj HO5.out _ HK5.out rfl, fresh_new _ _ (by omega), HB5.out.trans (belowK_b (w := w) (Nat.le_refl _) w5 D _ _ (by omega) HK5.out rfl rfl)⟩
  case stop =>
    rintro D d pre W _ _ h _
    exact h.elim
set_option maxRecDepth 100000 in
set_option maxHeartbeats 2000000 in
theorem Forge_ne (A : Option Addr) (c n a : Nat) (xs : List UInt8) (s : BitVec 32) (w : World) (hn : xs.length = n) (hR : Rd w w.heap.size A xs) (hc : n ≤ c) (hl : n ≤ 100000) (ha : a + 4 ≤ n) (k : Nat) (hk : (a : Int) + 4 = (k : Int)) (he : ¬ c = k) :
    Calls Try.prog 20 #[.slice A n c, .int .i64 (a : Int), .int .u32 (u32 s)] w (ForgeOK w xs a s) := by
  have H1 : Hid (u32 CrcP.ones = 4294967295) := by show _ = _; decide
  have d1 : decide ((a : Int) < 0) = false := decide_eq_false (by omega)
  have d2 : decide ((n : Int) - 4 < (a : Int)) = false := decide_eq_false (by omega)
  have HR := Lib.hid hR
  have HN := Lib.hid hn
  have HC := Lib.hid hc
  have HR2 : Hid (Rd w w.heap.size (A.map (·.add k)) (xs.drop k)) := by
    have := hR.part k xs.length c (by omega)
    rw [List.take_of_length_le (by simp)] at this
    first
      | (rw [if_pos rfl] at this; exact this)
      | (rw [if_neg (by assumption)] at this; exact this)
  have HL2 : Hid ((xs.drop k).length = (n - k)) := by show _ = _; simp; omega
  have hns : bits .xor .u32 IntKind.u32.max (u32 s) = u32 (~~~ s) := by rw [CrcP.not_eq, ← u32_xor_bv, H1.out]; rfl
  clear hR hn
  refine (callsIn_wide (n := 3)).1 ?_
  refine callsIn_of_wp_marks Try.func20 rfl trivial ?_ rfl
  simp only [Try.ntmps20, List.size_toArray, List.length_cons, List.length_nil, Nat.reduceAdd, Nat.reduceSub, Array.replicate_succ, Array.replicate_zero, List.push_toArray, List.append_toArray, List.nil_append, List.cons_append]
  refine wpIn_wide.2 ?_
  go_wp2_with fail
  refine (Table_any _).mono ?_
  rintro e w1 ⟨tab, rfl, htab, hb1⟩
  have HB := Lib.hid (built_machine tab htab.1)
  have HM : Hid (Mach (w1.alloc (.cells tab 48)) w1.heap.size) := ⟨tab, heap_alloc_new w1 _, htab.2⟩
  have HW := Lib.hid (hb1.alloc hb1.size (.cells tab 48))
  have HR1 := Lib.hid (HR.out.below HW.out)
  have hq := hb1.size
  clear htab hb1 d1 d2
  go_wp2_with (first
    | (refine wpList_build1 rfl 48 (.tmp 23) rfl (.agg tab) rfl tab HB.out ?_)
    | (refine wpList_upto rfl (.tmp 28) (.tmp 29) 24 rfl rfl (by kernel_rfl) A n c a rfl rfl (by have := HC.out; omega) ?_))
  rw [← H1.out]
  refine (feed_any w1.heap.size CrcP.ones w.heap.size A c a (xs.take a) _ (by have := HN.out; simp; omega) (HR1.out.take a) (by omega) HM.out).mono ?_
  rintro e w2 ⟨rfl, rfl⟩
  have hl1 := HW.out.size
  go_wp2_with fail
  refine (Backward_any .nilFunc (A.map (·.add k)) (n - k) (c - k) _).mono ?_
  rintro e w3 ⟨rfl, rfl⟩
  go_wp2_with fail
  have hsz : (((w1.alloc (.cells tab 48)).alloc (.cells #[.int .u32 (u32 (~~~ s))] 42)).alloc (.cells #[.slice (A.map (·.add k)) (n - k) (c - k)] 24)).heap.size = w1.heap.size + 3 := by simp
  have hB0 : Below w.heap.size w (((w1.alloc (.cells tab 48)).alloc (.cells #[.int .u32 (u32 (~~~ s))] 42)).alloc (.cells #[.slice (A.map (·.add k)) (n - k) (c - k)] 24)) := (HW.out.alloc HW.out.size _).alloc (by have := HW.out.size; simp at this ⊢; omega) _
  have q1 : (((w1.alloc (.cells tab 48)).alloc (.cells #[.int .u32 (u32 (~~~ s))] 42)).alloc (.cells #[.slice (A.map (·.add k)) (n - k) (c - k)] 24)).heap[w1.heap.size + 1]? = some (.cells #[.int .u32 (u32 (~~~ s))] 42 (0, 0)) := by
    have h := heap_alloc_new (w1.alloc (.cells tab 48)) (.cells #[.int .u32 (u32 (~~~ s))] 42)
    rw [World.size_alloc] at h
    exact (Below.heap_alloc _ _ _ (by simp)).trans h
  have q2 : (((w1.alloc (.cells tab 48)).alloc (.cells #[.int .u32 (u32 (~~~ s))] 42)).alloc (.cells #[.slice (A.map (·.add k)) (n - k) (c - k)] 24)).heap[w1.heap.size + 1 + 1]? = some (.cells #[.slice (A.map (·.add k)) (n - k) (c - k)] 24 (0, 0)) := by
    have h := heap_alloc_new ((w1.alloc (.cells tab 48)).alloc (.cells #[.int .u32 (u32 (~~~ s))] 42)) (.cells #[.slice (A.map (·.add k)) (n - k) (c - k)] 24)
    rwa [World.size_alloc, World.size_alloc] at h
  clear HM HB HW HR1
  generalize ((w1.alloc (.cells tab 48)).alloc (.cells #[.int .u32 (u32 (~~~ s))] 42)).alloc (.cells #[.slice (A.map (·.add k)) (n - k) (c - k)] 24) = w0 at *
  generalize w1.heap.size = q at *
  have HQ1 := Lib.hid q1
  clear q1 hns
  refine (wpIn_wide (n := 3)).1 ?_
  refine wpIn_rangeFunc_ownF rfl (by omega) (gf := 33) (lb := #[.pointer (some ⟨q + 1 + 1, 0, none⟩)]) rfl trivial (enters_of Try.func33 (by kernel_rfl) rfl)
    (backward_stops 2 w.heap.size (q + 1 + 1) (c - k) (n - k) (A.map (·.add k)) (xs.drop k) (by omega) w0 HL2.out (by omega) (by omega) (by omega) q2 (HR2.out.below hB0)) KpB_t (KpB_b (by omega) (by omega)) (Below.refl _ _) (fun _ => rfl)
    (fun pre W => RegB q (~~~ s) pre W ∧ Below w.heap.size w W)
    (fun _ _ _ => False)
    (OwnFrom.and (Own.from (fun s A B row hs hg hr => hs.kept hg hr) _) (ownFrom_below (by omega) (by omega)))
    (fun _ _ _ _ _ hs _ _ => hs)
    ⟨HQ1.out, hB0⟩
    (fun x => { tmps := #[.slice A n c, .int .i64 (a : Int), .int .u32 (u32 s), undef, undef, undef, .slice none 0 0, .bool false, .pointer (some ⟨q, 0, none⟩), .int .u32 (u32 (CrcP.feed CrcP.ones (xs.take a))), .pointer (some ⟨q + 1, 0, none⟩), undef, .int .u8 (x.2.toNat : Int), undef, .int .i64 (a : Int), .bool false, .bool false, .int .i64 (a : Int), .slice A n c, .int .i64 (n : Int), .int .i64 ((n : Int) - 4), .bool false, .bool false, .agg tab, .agg tab, .pointer (some ⟨q, 0, none⟩), .pointer (some ⟨q, 0, none⟩), .func (.func 23) #[.pointer (some ⟨q, 0, none⟩)] #[], .slice A n c, .int .i64 (a : Int), .slice A a c, .int .u32 (u32 (CrcP.feed CrcP.ones (xs.take a))), .int .u32 (u32 s), .int .u32 (u32 (~~~ s)), .slice A n c, .int .i64 (a : Int), .int .i64 (k : Int), .slice (A.map (·.add k)) (n - k) (c - k), .func (.func 33) #[] #[.pointer (some ⟨q + 1 + 1, 0, none⟩)], .int .i64 (x.1 : Int), .int .u8 (x.2.toNat : Int), undef, undef, undef, undef, undef, undef, undef, undef, undef, undef, undef, undef, undef, undef, undef, undef, undef, undef], defers := [] }) ?assign ?body ?done ?stop
  case assign =>
    intro l x W K hK
    gi_wp2
    exact hK
  case body =>
    rintro l pre x W ⟨hF, hB⟩ hlen
    first | exact absurd hlen (by omega) | skip
    all_goals
      dsimp only
      have HB := Lib.hid hB
      have HF := Lib.hid hF
      obtain ⟨y0, yf⟩ := one_cell hF
      have HN2 := Lib.hid (unfB_snoc (~~~ s) pre x)
      have HI : Hid (∀ r : BitVec 32, bits .xor .u32 (u32 (CrcP.unstepN 8 r)) (x.2.toNat : Int) = u32 (CrcP.unupd r x.2)) := by
        show ∀ r, _ = _
        intro r
        rw [u32_byte x.2 _ rfl, u32_xor_bv]
        rfl
      obtain ⟨cn, hcn⟩ : ∃ cn : Nat, cn = x.2.toNat := ⟨_, rfl⟩
      rw [← hcn] at HI ⊢
      have hc256 : cn < 256 := by rw [hcn]; exact UInt8.toNat_lt _
      have HF2 : Hid (W.heap[q + 1]? = some (.cells #[.int .u32 (u32 (unfB (~~~ s) pre))] 42 (0, 0))) := hF
      generalize unfB (~~~ s) pre = r at *
      clear hF hB hcn
      gi_wp2_with (refine ⟨trivial, ?_⟩; gi_at_call 21; refine (CallsIn.inRound l (callsIn_wide.2 (times_unshift r 8 _ (by omega)))).mono ?_; rintro e w' ⟨rfl, rfl⟩)
      rw [HI.out, ← HN2.out]
      exact ⟨KeepsOthers.setCell _ _ _, ⟨(Below.refl w.heap.size W).setCell (by show w.heap.size ≤ q + 1; omega) _, fun o ho => (Below.heap_setCell _ _ _ _ (by show q + 1 + 1 ≠ q + 1; omega)).trans ho⟩, row_set HF2.out 0 _, HB.out.setCell (by show w.heap.size ≤ q + 1; omega) _⟩
  case done =>
    rintro D ys W hD hys ⟨hF, hB⟩ hK
    have hF2 : W.heap[q + 1]? = some (.cells #[.int .u32 (u32 (CrcP.unfeed (~~~ s) (xs.drop (a + 4))))] 42 (0, 0)) := by
      have h : W.heap[q + 1]? = some (.cells #[.int .u32 (u32 (unfB (~~~ s) ys))] 42 (0, 0)) := hF
      rw [unfB_all _ _ _ hys, show k = a + 4 from by omega] at h
      exact h
    have HB := Lib.hid hB
    have HF := Lib.hid hF2
    obtain ⟨y0, yf⟩ := one_cell hF2
    have HK := Lib.hid hK
    have HV : Hid (forgeV xs a s = xs.take a ++ CrcP.little (CrcP.feed CrcP.ones (xs.take a) ^^^ CrcP.unstepN 32 (CrcP.unfeed (~~~ s) (xs.drop (a + 4)))) ++ xs.drop (a + 4)) := rfl
    generalize CrcP.unfeed (~~~ s) (xs.drop (a + 4)) = r at *
    generalize CrcP.feed CrcP.ones (xs.take a) = f at *
    clear hF hF2 hB hK hys
    go_wp2_with fail
    refine (times_unshift r 32 _ (by omega)).mono ?_
    rintro e w' ⟨rfl, rfl⟩
    go_wp2_with fail
    have B1 : Below w.heap.size w (W.setCell ⟨q + 1, 0, none⟩ (.int .u32 (u32 (CrcP.unstepN 32 r)))) := HB.out.setCell (by show w.heap.size ≤ q + 1; omega) _
    have F1 := row_set HF.out 0 (.int .u32 (u32 (CrcP.unstepN 32 r)))
    have K1 := (KeepsOthers.setCell W ⟨q + 1, 0, none⟩ (.int .u32 (u32 (CrcP.unstepN 32 r)))).same D _ HK.out rfl
    clear y0 yf
    generalize W.setCell ⟨q + 1, 0, none⟩ (.int .u32 (u32 (CrcP.unstepN 32 r))) = W1 at *
    refine (Clone_any w.heap.size A n c xs W1 HN.out (HR.out.below B1) B1.size (by have := HN.out; omega)).mono ?_
    rintro e w4 ⟨A3, c3, rfl, hO, hFr, hb4⟩
    obtain ⟨g, hg⟩ : ∃ g, A3 = some ⟨g, 0, none⟩ := by
      rcases hO.form with ⟨_, _, h⟩ | ⟨g, _, h, _⟩
      · have := HN.out; rw [h] at this; simp at this; omega
      · exact ⟨g, h⟩
    subst hg
    have F4 := (hb4.block (q + 1) (Array.getElem?_eq_some_iff.1 F1).1).trans F1
    have K4 := (hb4.block D (Array.getElem?_eq_some_iff.1 K1).1).trans K1
    have B4 := B1.trans (hb4.mono B1.size)
    have hle := hO.le
    rw [HN.out] at hle
    have hgW : W1.heap.size ≤ g := hFr g rfl
    have hO4 : Own (w4.drew.alloc (.cells (bvs (CrcP.little (f ^^^ CrcP.unstepN 32 r))).toArray U8t)) (some ⟨g, 0, none⟩) c3 xs := Own.alloc (w := w4.drew) hO _
    obtain ⟨cur, hcur, hcs, hcopy⟩ := hO4.copy
    have hcp := hcopy a (CrcP.little (f ^^^ CrcP.unstepN 32 r)) (by have := HN.out; show a + 4 ≤ xs.length; omega)
    have hX : bits .xor .u32 (u32 f) (u32 (CrcP.unstepN 32 r)) = u32 (f ^^^ CrcP.unstepN 32 r) := u32_xor_bv _ _
    obtain ⟨o, ho⟩ : ∃ o, o = Obj.cells (bvs (CrcP.little (f ^^^ CrcP.unstepN 32 r))).toArray U8t := ⟨_, rfl⟩
    obtain ⟨R, hR⟩ : ∃ R, R = (cur.toList.take a ++ bvs (CrcP.little (f ^^^ CrcP.unstepN 32 r)) ++ cur.toList.drop (a + (CrcP.little (f ^^^ CrcP.unstepN 32 r)).length)).toArray := ⟨_, rfl⟩
    rw [← ho] at hcur hcp
    rw [← hR] at hcp
    obtain ⟨DD, hDD⟩ : ∃ DD : Bool → Bool → World → Prop, DD = fun p q w' => (q = true → p = true) ∧ w' = (if q then (w4.drew.alloc o).setRow g R else if p then w4.drew.alloc o else w4.drew) := ⟨_, rfl⟩
    have hk4 : ∀ p q' w', DD p q' w' → w'.cell? ⟨q + 1, 0, none⟩ = some (.int .u32 (u32 (CrcP.unstepN 32 r))) := fun p q' w' h => by
      rw [hDD] at h
      have hx : w'.heap[q + 1]? = some (.cells #[.int .u32 (u32 (CrcP.unstepN 32 r))] 42 (0, 0)) := by
        have hlt := (Array.getElem?_eq_some_iff.1 F4).1
        have hlt1 := (Array.getElem?_eq_some_iff.1 F1).1
        rw [h.2]
        cases q' <;> cases p
        · exact F4
        · exact (Below.heap_alloc w4.drew o (q + 1) hlt).trans F4
        · exact (setRow_other _ g (q + 1) R (by omega)).trans ((Below.heap_alloc w4.drew o (q + 1) hlt).trans F4)
        · exact (setRow_other _ g (q + 1) R (by omega)).trans ((Below.heap_alloc w4.drew o (q + 1) hlt).trans F4)
      exact (one_cell hx).1
    have hinv : ∀ {L w' k}, DD (Came L 6) (Came L 7) w' → k ≠ 6 → k ≠ 7 → DD (Came (Next L k) 6) (Came (Next L k) 7) w' := fun h h6 h7 => by rw [Came_ne h6, Came_ne h7]; exact h
    have h0' : DD (Came (Array.replicate 8 false) 6) (Came (Array.replicate 8 false) 7) w4.drew := by rw [hDD]; exact ⟨fun h => (by cases h), rfl⟩
    have h6 : ∀ q' w', DD false q' w' → w' = w4.drew ∧ q' = false := fun q' w' h => by
      rw [hDD] at h
      cases q'
      · exact ⟨h.2, rfl⟩
      · exact absurd (h.1 rfl) (by decide)
    have h6' : DD true false (w4.drew.alloc o) := by rw [hDD]; exact ⟨fun _ => rfl, rfl⟩
    have h7 : ∀ w', DD true false w' → w' = w4.drew.alloc o := fun w' h => by rw [hDD] at h; exact h.2
    have h7' : DD true true ((w4.drew.alloc o).setRow g R) := by rw [hDD]; exact ⟨fun _ => rfl, rfl⟩
    have h8 : ∀ w', DD true true w' → w' = (w4.drew.alloc o).setRow g R := fun w' h => by rw [hDD] at h; exact h.2
    have hca : ¬ c3 = a := by omega
    have hal : a ≤ xs.length := by have := HN.out; omega
    have hac : (a : Int) ≤ (c3 : Int) := by omega
    have hfol : Try.prog.follows Departure.mixedOrders = true := by kernel_rfl
    have HO := Lib.hid ho
    have HRR := Lib.hid hR
    have HCP := Lib.hid hcp
    have HCUR := Lib.hid hcur
    have HD1 := Lib.hid (Array.getElem?_eq_some_iff.1 K1).1
    have hwW : w.heap.size ≤ W1.heap.size := B1.size
    clear hDD ho hR hcp hcur hcopy F1 K1 B1 hb4 hO4 hO hFr
    go_wp2_with fail
    refine (wpIn_wide (n := 3)).1 ?_
    refine wpIn_region_stageR (fun L w' => DD (Came L 6) (Came L 7) w') (fun L i => i = 7 → Came L 6 = true) hfol rfl (by kernel_rfl) h0' (fun L i h e => by subst e; exact came_of_ready h rfl (e := ⟨6, .data⟩) (by simp) rfl) ?_
    repeat (refine lexR_step (fun K hK => ?_); go_simp; refine ⟨_, fun L w' hL h => ⟨rfl, hinv h (by decide) (by decide)⟩, hK _ ?_⟩; clear hK K)
    refine lexR_step (fun K hK => ?_); go_simp; refine ⟨.int .u32 (u32 (CrcP.unstepN 32 r)), fun L w' hL h => ?_, hK _ ?_⟩; · rw [hk4 _ _ w' h]; exact ⟨rfl, hinv h (by decide) (by decide)⟩
    clear hK K
    repeat (refine lexR_step (fun K hK => ?_); go_simp; refine ⟨_, fun L w' hL h => ⟨rfl, hinv h (by decide) (by decide)⟩, hK _ ?_⟩; clear hK K)
    refine lexR_step (fun K hK => ?_); go_simp; refine ⟨.slice (some ⟨w4.heap.size, 0, none⟩) 4 4, fun L w' hL h => ⟨trivial, ?_⟩, hK _ ?_⟩
    · rw [Came_open hL] at h
      obtain ⟨e1, e2⟩ := h6 _ _ h
      rw [e1]
      refine (callsIn_wide.2 (little_det (f ^^^ CrcP.unstepN 32 r) w4.drew)).mono ?_
      rintro e w5 ⟨rfl, rfl⟩
      refine ⟨rfl, ?_⟩
      rw [Came_same hL, Came_ne (by decide), e2, ← HO.out]
      exact h6'
    clear hK K
    refine lexR_step (fun K hK => ⟨goInt 4, fun L w' hL hRd h => ⟨fun _ _ => trivial, ?_⟩, hK _ ?_⟩)
    · rw [hRd rfl, Came_open hL] at h
      have e1 := h7 _ h
      rw [if_pos (by rfl)]
      have hrun := run_copy_row (P := Try.prog) w' 24 24 3 U8t g a (xs.length - a) (c3 - a) ⟨w4.heap.size, 0, none⟩ 4 4 cur U8t (bvs (CrcP.little (f ^^^ CrcP.unstepN 32 r))) Try.underlying24 (by kernel_rfl) (by rw [e1]; exact HCUR.out) (by rw [bvs_length]; have := HN.out; show 4 = min 4 (xs.length - a); omega)
        (fun j v hj => by
          have hx : (w4.drew.alloc o).heap[w4.heap.size]? = some (.cells (bvs (CrcP.little (f ^^^ CrcP.unstepN 32 r))).toArray U8t (0, 0)) := by rw [HO.out]; exact heap_alloc_new w4.drew _
          rw [e1, add_lit, Nat.zero_add, cell_of_row _ _ j _ _ (0, 0) hx]
          simpa using hj)
        (by rw [bvs_length]; have := HN.out; show a + 4 ≤ cur.size; omega) (bvs_one _)
      rw [bvs_length] at hrun
      have hL7 : Open L 7 := hL
      have hfin : DD (Came (Next L 7) 6) (Came (Next L 7) 7) (w'.setRow g (cur.toList.take a ++ bvs (CrcP.little (f ^^^ CrcP.unstepN 32 r)) ++ cur.toList.drop (a + (CrcP.little (f ^^^ CrcP.unstepN 32 r)).length)).toArray) := by
        rw [Came_ne (by decide), hRd rfl, Came_same hL7, e1, ← HRR.out]
        exact h7'
      exact atS_copy (.tmp 52) (.tmp 56) 24 24 rfl _ _ _ rfl rfl hrun hfin
    refine lexR_nil ?_
    intro w5 hw5
    have e5 := h8 _ hw5
    have hlt4 := (Array.getElem?_eq_some_iff.1 K4).1
    have hD1 : D < W1.heap.size := HD1.out
    have K5 : w5.heap[D]? = some (.deferred (some [])) := by
      rw [e5]
      exact (setRow_other _ g D R (by omega)).trans ((Below.heap_alloc w4.drew o D hlt4).trans K4)
    have O5 : Own w5 (some ⟨g, 0, none⟩) c3 (forgeV xs a s) := by
      rw [e5, HV.out]
      exact HCP.out
    have B5 : Below w.heap.size w w5 := by
      rw [e5]
      have hd : Below w.heap.size w w4.drew := ⟨B4.os, B4.tape, B4.output, B4.size, B4.block⟩
      exact below_setRow (hd.alloc hd.size o) (by have := B4.size; omega) R
    have HO5 := Lib.hid O5
    have HB5 := Lib.hid B5
    have HK5 := Lib.hid K5
    clear hw5 e5 h8 h7' h7 h6' h6 h0' hinv hk4 HCP HCUR HRR HO F4 K4 B4 O5 B5 K5
    go_wp2
    refine ⟨by simp, .inl ⟨_, _, rfl, run_takeDeferred HK5.out, ?_⟩⟩
    refine ⟨.tuple #[.slice (some ⟨g, 0, none⟩) xs.length c3, .bool true], by simp [results, Try.results20, go_sem], some ⟨g, 0, none⟩, c3, rfl, ownsRow_putObj HO5.out _ HK5.out rfl, fresh_new _ _ (by omega), HB5.out.trans (belowK_b (w := w) (Nat.le_refl _) w5 D _ _ (by omega) HK5.out rfl rfl)⟩
  case stop =>
    rintro D d pre W _ _ h _
    exact h.elim
end Go.Proofs.Ytkpdeldegdngaaa
