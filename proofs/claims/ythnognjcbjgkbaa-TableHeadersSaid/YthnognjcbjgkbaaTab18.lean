/-
  The entries of a header's table, section by section in whatever order the rounds come: plain words; the variables of Get.
-/
import Derived.Test.YthnognjcbjgkbaaTab17
namespace Go.Proofs.Ythnognjcbjgkbaa
set_option linter.unusedVariables false
open Go.RowKit Go.Shelf

/-- the entries of the sections that have come are right -/
def okG (xs : List UInt8) (pre : List (Fin 6)) : Prop :=
  ∀ (i : Nat) (h : i < pre.length), cntX xs (pre[i].val + 1) ≤ limT (pre[i].val + 1) ∧ offX xs (pre[i].val + 1) = (foldT (cntX xs) (pre.take i)).2.2
theorem okG_nil (xs : List UInt8) : okG xs [] := fun i h => by simp at h
theorem okG_snoc {xs : List UInt8} {pre : List (Fin 6)} {x : Fin 6} : okG xs (pre ++ [x]) ↔ okG xs pre ∧ cntX xs (x.val + 1) ≤ limT (x.val + 1) ∧ offX xs (x.val + 1) = (foldT (cntX xs) pre).2.2 := by
  constructor
  · intro h
    refine ⟨fun i hi => ?_, ?_⟩
    · have := h i (by simp; omega)
      rw [List.getElem_append_left hi, List.take_append_of_le_length (by omega)] at this
      exact this
    · have := h pre.length (by simp)
      rw [List.getElem_append_right (Nat.le_refl _), List.take_left'  rfl] at this
      simpa using this
  · rintro ⟨h1, h2⟩ i hi
    by_cases e : i < pre.length
    · rw [List.getElem_append_left e, List.take_append_of_le_length (by omega)]
      exact h1 i e
    · have e2 : i = pre.length := by simp at hi; omega
      subst e2
      rw [List.getElem_append_right (Nat.le_refl _), List.take_left' rfl]
      simpa using h2
theorem cntX_pos (xs : List UInt8) (s : Nat) : 0 ≤ cntX xs s := by unfold cntX; split <;> omega
theorem okG_okL {xs : List UInt8} : ∀ {pre : List (Fin 6)}, okG xs pre → okL (cntX xs) pre := by
  intro pre h k hk
  obtain ⟨i, hi, rfl⟩ := List.getElem_of_mem hk
  exact ⟨cntX_pos _ _, (h i hi).1⟩
theorem foldT_up (c : Nat → Int) : ∀ j, j ≤ 6 → (foldT c (upT j)).2.2 = offT c j
  | 0, _ => rfl
  | j + 1, h => by
    rw [upT_succ (k := j) (by omega), foldT_snoc]
    show al ((foldT c (upT j)).2.2 + c (j + 1) * szT (j + 1)) = _
    rw [foldT_up c j (by omega)]
    rfl
theorem secX_succ (xs : List UInt8) (k n : Nat) : secX xs k (n + 1) = if limT (k + 1) < cntX xs (k + 1) then (7, 28 + 8 * ((k + 1 : Nat) : Int)) else if offX xs (k + 1) ≠ offT (cntX xs) k then (13, 24 + 8 * ((k + 1 : Nat) : Int)) else secX xs (k + 1) n := rfl
theorem secX_skip {xs : List UInt8} : ∀ j, j ≤ 6 → okG xs (upT j) → secX xs 0 6 = secX xs j (6 - j)
  | 0, _, _ => rfl
  | j + 1, hj, h => by
    rw [upT_succ (k := j) (by omega)] at h
    obtain ⟨h1, h2, h3⟩ := okG_snoc.1 h
    rw [foldT_up _ j (by omega)] at h3
    rw [secX_skip j (by omega) h1, show 6 - j = (6 - (j + 1)) + 1 from by omega, secX_succ, if_neg (by simpa using h2), if_neg (fun h => h h3)]
theorem secX_done {xs : List UInt8} (h : okG xs (upT 6)) : secX xs 0 6 = (0, 0) := (secX_skip 6 (Nat.le_refl _) h).trans rfl
/-- a fault of an entry -/
def badG (xs : List UInt8) (q : List (Fin 6)) (x : Fin 6) (v z : Int) : Prop :=
  (limT (x.val + 1) < cntX xs (x.val + 1) ∧ v = 7 ∧ z = 28 + 8 * ((x.val + 1 : Nat) : Int)) ∨ (¬ limT (x.val + 1) < cntX xs (x.val + 1) ∧ offX xs (x.val + 1) ≠ (foldT (cntX xs) q).2.2 ∧ v = 13 ∧ z = 24 + 8 * ((x.val + 1 : Nat) : Int))
theorem secX_bad {xs : List UInt8} {q : List (Fin 6)} {x : Fin 6} {k : Nat} {v z : Int} (hk : 1 ≤ k) (h6 : k ≤ 6) (hp : q ++ [x] = upT k) (h : okG xs q) (hb : badG xs q x v z) : secX xs 0 6 = (v, z) ∧ v ≠ 0 := by
  obtain ⟨j, rfl⟩ : ∃ j, k = j + 1 := ⟨k - 1, by omega⟩
  rw [upT_succ (k := j) (by omega)] at hp
  obtain ⟨h1, h2⟩ := List.append_inj' hp rfl
  obtain rfl : x = ⟨j, by omega⟩ := by simpa using h2
  subst h1
  rw [secX_skip j (by omega) h, show 6 - j = (6 - (j + 1)) + 1 from by omega, secX_succ]
  unfold badG at hb
  rw [foldT_up _ j (by omega)] at hb
  rcases hb with ⟨a, rfl, rfl⟩ | ⟨a, b, rfl, rfl⟩
  · exact ⟨if_pos a, by decide⟩
  · exact ⟨(if_neg a).trans (if_pos b), by decide⟩
theorem cntO_X (xs : List UInt8) : cntO (cntX xs) = cntX xs := by
  funext s
  unfold cntO cntX
  split <;> rfl
theorem fold_cnt (c : Nat → Int) : cntA (foldT c (upT 6)).2.1 = cntA (cntO c) := by
  rw [upT_all]
  rfl
theorem getV_sec {xs : List UInt8} {x z : Int} (h0 : headV xs = (0, 0)) (h : secX xs 0 6 = (x, z)) (hx : x ≠ 0) : getV xs = (x, z) := by unfold getV; rw [h0, if_neg (fun h => h rfl), h, if_pos hx]
theorem getV_len {xs : List UInt8} (h0 : headV xs = (0, 0)) (h : secX xs 0 6 = (0, 0)) (hl : totT (cntX xs) ≠ xs.length) : getV xs = (11, 8) := by unfold getV; rw [h0, if_neg (fun h => h rfl), h, if_neg (fun h => h rfl), if_pos hl]
theorem getV_ok {xs : List UInt8} (h0 : headV xs = (0, 0)) (h : secX xs 0 6 = (0, 0)) (hl : totT (cntX xs) = xs.length) : getV xs = (0, 0) := by unfold getV; rw [h0, if_neg (fun h => h rfl), h, if_neg (fun h => h rfl), if_neg (fun h => h hl)]
theorem getT_ok {xs : List UInt8} (h : getV xs = (0, 0)) : getT xs = tabT (numV xs 16 8 : Nat) (cntX xs) := by unfold getT; rw [h, if_pos rfl]

theorem GtW.kept {W W' : World} {row : Option Nat} {b : Nat} {A : Option Addr} {n c : Nat} {T : Array Value} {x z : Int} (h : GtW W b A n c T x z) (hg : W.grownBy W' row) (hr : ∀ r, row = some r → ∃ o : Obj, W.heap[r]? = some o ∧ o.isCells = false) : GtW W' b A n c T x z :=
  ⟨row_kept h.r0 hg hr, row_kept h.r1 hg hr, row_kept h.r2 hg hr⟩
/-- the variables of Get's loop -/
structure GlW (W : World) (b g : Nat) (A : Option Addr) (n c : Nat) (T : Array Value) (x z fr : Int) (st : (Nat → Int) × (Nat → Int) × Int) : Prop where
  gt : GtW W b A n c T x z
  r5 : W.heap[g + 1]? = some (.cells (tabA fr 0 st.1 st.2.1) 25 (0, 0))
  r6 : W.heap[g + 1 + 1]? = some (.cells #[.int .i64 st.2.2] 3 (0, 0))
  hg : b + 3 ≤ g
section
variable {W W' : World} {row : Option Nat} {b g : Nat} {A : Option Addr} {n c : Nat} {T : Array Value} {x z fr : Int} {st : (Nat → Int) × (Nat → Int) × Int} {o1 c1 : Nat → Int} {n1 : Int}
theorem GlW.kept (h : GlW W b g A n c T x z fr st) (hg : W.grownBy W' row) (hr : ∀ r, row = some r → ∃ o : Obj, W.heap[r]? = some o ∧ o.isCells = false) : GlW W' b g A n c T x z fr st :=
  ⟨h.gt.kept hg hr, row_kept h.r5 hg hr, row_kept h.r6 hg hr, h.hg⟩
theorem GlW.after (h : GlW W b g A n c T x z fr st) (hb : Below W.heap.size W W') : GlW W' b g A n c T x z fr st := by
  have up : ∀ {k : Nat} {o : Obj}, W.heap[k]? = some o → W'.heap[k]? = some o := fun {k o} hk => (hb.block k (Array.getElem?_eq_some_iff.1 hk).1).trans hk
  exact ⟨h.gt.after hb, up h.r5, up h.r6, h.hg⟩
theorem GlW.lt (h : GlW W b g A n c T x z fr st) : g + 3 ≤ W.heap.size := by
  have := (Array.getElem?_eq_some_iff.1 h.r6).1
  omega
theorem GtW.far (h : GtW W b A n c T x z) {q : Nat} (hq : b + 3 ≤ q) (i : Nat) (v : Value) : GtW (W.setCell ⟨q, i, none⟩ v) b A n c T x z :=
  ⟨(Below.heap_setCell _ _ _ _ (by show b ≠ q; omega)).trans h.r0, (Below.heap_setCell _ _ _ _ (by show b + 1 ≠ q; omega)).trans h.r1, (Below.heap_setCell _ _ _ _ (by show b + 1 + 1 ≠ q; omega)).trans h.r2⟩
theorem GlW.off (h : GlW W b g A n c T x z fr (o1, c1, n1)) (s : Nat) (hs : s < 7) (v : Int) : GlW (W.setCell ⟨g + 1, 2 + s, none⟩ (.int .i64 v)) b g A n c T x z fr (upd o1 s v, c1, n1) :=
  ⟨h.gt.far (by have := h.hg; omega) _ _, tab_off h.r5 s hs v, (Below.heap_setCell _ _ _ _ (by show g + 1 + 1 ≠ g + 1; omega)).trans h.r6, h.hg⟩
theorem GlW.cnt (h : GlW W b g A n c T x z fr (o1, c1, n1)) (s : Nat) (hs : s < 7) (v : Int) : GlW (W.setCell ⟨g + 1, 9 + s, none⟩ (.int .i64 v)) b g A n c T x z fr (o1, upd c1 s v, n1) :=
  ⟨h.gt.far (by have := h.hg; omega) _ _, tab_cnt h.r5 s hs v, (Below.heap_setCell _ _ _ _ (by show g + 1 + 1 ≠ g + 1; omega)).trans h.r6, h.hg⟩
theorem GlW.next (h : GlW W b g A n c T x z fr (o1, c1, n1)) (v : Int) : GlW (W.setCell ⟨g + 1 + 1, 0, none⟩ (.int .i64 v)) b g A n c T x z fr (o1, c1, v) :=
  ⟨h.gt.far (by have := h.hg; omega) _ _, (Below.heap_setCell _ _ _ _ (by show g + 1 ≠ g + 1 + 1; omega)).trans h.r5, row_set h.r6 0 _, h.hg⟩
end
theorem tab_frm {w : World} {q ty : Nat} {fr tot : Int} {o c : Nat → Int} (h : w.heap[q]? = some (.cells (tabA fr tot o c) ty (0, 0))) (v : Int) :
    (w.setCell ⟨q, 0, none⟩ (.int .u64 v)).heap[q]? = some (.cells (tabA v tot o c) ty (0, 0)) := by
  rw [row_set h]
  simp [tabA]
end Go.Proofs.Ythnognjcbjgkbaa
