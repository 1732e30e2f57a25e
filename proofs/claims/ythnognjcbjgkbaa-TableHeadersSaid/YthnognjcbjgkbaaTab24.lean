/-
  A region that draws its order: a chain of four operations (a row is made, grown twice, read by a call) beside two variables that may come up at any time.
-/
import Derived.Test.YthnognjcbjgkbaaTab20
import Derived.Test.YthnognjcbjgkbaaZeros
import Derived.Test.YthnognjcbjgkbaaTab17
namespace Go.Proofs.Ythnognjcbjgkbaa
set_option linter.unusedVariables false
open Go Go.RowKit Go.Shelf

section
variable {P : Program} {ops : Array Oper} {Q : Exit → Act → World → Prop} {md : Region.Mode} {S : World → Prop} {z : Nat}
/-- one state after the other: p of the four, the first variable, the second -/
theorem float8 (I : Nat → Bool → Bool → Act → World → Prop) (Lf : Nat → Bool → Bool → Array Bool) (fu : Nat → Bool → Bool → Nat)
    (hstep : ∀ p a b act w, p ≤ 4 → I p a b act w → (∀ p' a' b', p' ≤ 4 → p' + a'.toNat + b'.toNat = p + a.toNat + b.toNat + 1 → ∀ act' w', I p' a' b' act' w' → anyZ P md ops Q S z (fu p' a' b') (Lf p' a' b') act' w') → anyZ P md ops Q S z (fu p a b) (Lf p a b) act w) :
    ∀ n p a b, p ≤ 4 → p + a.toNat + b.toNat + n = 6 → ∀ act w, I p a b act w → anyZ P md ops Q S z (fu p a b) (Lf p a b) act w := by
  intro n
  induction n with
  | zero =>
    intro p a b hp hs act w h
    refine hstep p a b act w hp h fun p' a' b' hp' hs' => ?_
    have : a'.toNat ≤ 1 := by cases a' <;> decide
    have : b'.toNat ≤ 1 := by cases b' <;> decide
    omega
  | succ n ih =>
    intro p a b hp hs act w h
    exact hstep p a b act w hp h fun p' a' b' hp' hs' => ih p' a' b' hp' (by omega)
end
section
variable {P : Program} {w : World} {o : Oper} {a : Act} {K : Act → World → Prop} {Q : Exit → Act → World → Prop}
theorem operWp_app (s x : Operand) (T : TypeId) (ho : o.op = .call { callee := .builtin .append, args := #[s, x], argTypes := #[T, T] })
    (ht : P.underlying T = some (.slice U8t)) (hinfo : (P.info? U8t).map (fun i => (i.zero, i.size, i.bytes)) = some (some (.int .u8 0), 1, 1))
    (A : Option Addr) (n c : Nat) (xs : List UInt8) (hn : xs.length = n) (hs : a.eval s = .slice A n c) (hown : Own w A c xs) (B : Nat) (X : Option Addr) (m cx : Nat) (ys : List UInt8) (hm : ys.length = m) (hx : a.eval x = .slice X m cx) (hR : Rd w B X ys) (hlen : xs.length + ys.length ≤ 140737488355328)
    (h : ∀ A' c' w', Own w' A' c' (xs ++ ys) → w.grownBy w' (blk A) → (blk A' = blk A ∨ blk A' = some w.heap.size) → K (a.put o.dst (.slice A' (n + m) c')) w') : Oper.wp P o a w K Q := by
  subst hn
  obtain ⟨A', c', w', hr, h2, h3, h4, h5⟩ := run_app (P := P) (w := w) T o.type ht hinfo A c xs hown B X m cx ys hm hR hlen
  unfold Oper.wp execOp
  simp only [ho, resolve, invoke, builtin, Sem.run_bind, Sem.run_pure, Result.andThen_ok, List.map_toArray, List.map_cons, List.map_nil, hs, hx, hr]
  have := h A' c' w' h2 h3 h4
  rw [List.length_append, hm]
  exact this
theorem operWp_app_zeros (s x : Operand) (T Tn : TypeId) (kn : IntKind) (ho : o.op = .call { callee := .builtin .append, args := #[s, x], argTypes := #[T, Tn] })
    (ht : P.underlying T = some (.slice U8t)) (htn : P.underlying Tn = some (.int kn)) (hinfo : (P.info? U8t).map (fun i => (i.zero, i.size, i.bytes)) = some (some (.int .u8 0), 1, 1))
    (A : Option Addr) (n c : Nat) (xs : List UInt8) (hn : xs.length = n) (hs : a.eval s = .slice A n c) (hown : Own w A c xs) (kq : IntKind) (k : Nat) (hx : a.eval x = .int kq (k : Int)) (hlen : xs.length + k ≤ 140737488355328)
    (h : ∀ A' c' w', Own w' A' c' (xs ++ List.replicate k 0) → w.grownBy w' (blk A) → (blk A' = blk A ∨ blk A' = some w.heap.size) → K (a.put o.dst (.slice A' (n + k) c')) w') : Oper.wp P o a w K Q := by
  subst hn
  obtain ⟨A', c', w', hr, h2, h3, h4⟩ := run_app_zeros (P := P) (w := w) T Tn o.type kn kq ht htn hinfo A c xs hown k hlen
  unfold Oper.wp execOp
  simp only [ho, resolve, invoke, builtin, Sem.run_bind, Sem.run_pure, Result.andThen_ok, List.map_toArray, List.map_cons, List.map_nil, hs, hx, hr]
  have := h A' c' w' h2 h3 h4
  rw [List.length_append, List.length_replicate]
  exact this
end

/-- what lies there between the operations -/
structure H8 (W : World) (st : Option (Option Addr × Nat × List UInt8)) (v1 v2 : Option Nat) (w : World) : Prop where
  bel : Below W.heap.size W w
  own : ∀ A c xs, st = some (A, c, xs) → Own w A c xs ∧ ∀ k, blk A = some k → W.heap.size ≤ k
  r1 : ∀ g, v1 = some g → W.heap.size ≤ g ∧ w.heap[g]? = some (.cells tabZ 25 (0, 0))
  r2 : ∀ g, v2 = some g → W.heap.size ≤ g ∧ w.heap[g]? = some (.cells (fltA 0 0) 47 (0, 0))
section
variable {W w w' : World} {st : Option (Option Addr × Nat × List UInt8)} {v1 v2 : Option Nat} {A A' : Option Addr} {c c' : Nat} {xs ys : List UInt8}
theorem H8.after (h : H8 W st v1 v2 w) (hb : Below w.heap.size w w') : H8 W st v1 v2 w' := by
  have up : ∀ {k : Nat} {o : Obj}, w.heap[k]? = some o → w'.heap[k]? = some o := fun {k o} hk => (hb.block k (Array.getElem?_eq_some_iff.1 hk).1).trans hk
  exact ⟨h.bel.trans (hb.mono h.bel.size), fun A c xs e => ⟨(h.own A c xs e).1.keep (S := fun _ => False) (Chg.of_below hb) (fun _ _ h => h), (h.own A c xs e).2⟩, fun g e => ⟨(h.r1 g e).1, up (h.r1 g e).2⟩, fun g e => ⟨(h.r2 g e).1, up (h.r2 g e).2⟩⟩
theorem H8.call (h : H8 W st v1 v2 w) (hb : Below w.heap.size w w') : H8 W none v1 v2 w' :=
  ⟨(h.after hb).bel, fun _ _ _ e => (by cases e), (h.after hb).r1, (h.after hb).r2⟩
theorem H8.lay (h : H8 W none v1 v2 w) : H8 W (some (some ⟨w.heap.size, 0, none⟩, 0, [])) v1 v2 (w.alloc (.cells #[] U8t)) := by
  have h1 := h.after ((Below.refl _ w).alloc (Nat.le_refl _) (.cells #[] U8t))
  refine ⟨h1.bel, fun A c xs e => ?_, h1.r1, h1.r2⟩
  cases e
  exact ⟨Own.empty w, fun k hk => by injection hk with hk; subst hk; exact h.bel.size⟩
theorem H8.grow (h : H8 W (some (A, c, xs)) v1 v2 w) (hown : Own w' A' c' ys) (hg : w.grownBy w' (blk A)) (hat : blk A' = blk A ∨ blk A' = some w.heap.size) : H8 W (some (A', c', ys)) v1 v2 w' := by
  obtain ⟨ho, hf⟩ := h.own A c xs rfl
  have up : ∀ (k : Nat) (cs : Array Value) (t : Nat), t ≠ U8t → w.heap[k]? = some (Obj.cells cs t (0, 0)) → w'.heap[k]? = some (Obj.cells cs t (0, 0)) := fun k cs t ht hk =>
    (hg.block k (Array.getElem?_eq_some_iff.1 hk).1 (fun e => by
      obtain ⟨cur, hcur⟩ := ho.type k e.symm
      rw [hk] at hcur; injection hcur with hcur; injection hcur with _ h2; exact ht h2)).trans hk
  refine ⟨h.bel.grown hg h.bel.size (fun k e => hf k e), fun B d zs e => ?_, fun g e => ⟨(h.r1 g e).1, up _ _ _ (by decide) (h.r1 g e).2⟩, fun g e => ⟨(h.r2 g e).1, up _ _ _ (by decide) (h.r2 g e).2⟩⟩
  cases e
  refine ⟨hown, fun k hk => ?_⟩
  rcases hat with e | e
  · exact hf k (e.symm.trans hk)
  · have := Option.some.inj (e.symm.trans hk); have := h.bel.size; omega
theorem H8.var1 (h : H8 W st none v2 w) : H8 W st (some w.heap.size) v2 (w.alloc (.cells tabZ 25)) := by
  have h1 := h.after ((Below.refl _ w).alloc (Nat.le_refl _) (.cells tabZ 25))
  refine ⟨h1.bel, h1.own, fun g e => ?_, h1.r2⟩
  cases e
  exact ⟨h.bel.size, heap_alloc_new w _⟩
theorem H8.var2 (h : H8 W st v1 none w) : H8 W st v1 (some w.heap.size) (w.alloc (.cells (fltA 0 0) 47)) := by
  have h1 := h.after ((Below.refl _ w).alloc (Nat.le_refl _) (.cells (fltA 0 0) 47))
  refine ⟨h1.bel, h1.own, h1.r1, fun g e => ?_⟩
  cases e
  exact ⟨h.bel.size, heap_alloc_new w _⟩
end
def pv (a : Bool) (g : Nat) : Value := if a then .pointer (some ⟨g, 0, none⟩) else undef
def ov (a : Bool) (g : Nat) : Option Nat := if a then some g else none
/-- the state behind p of the four -/
def I8 (F : Value → Value → Value → Value → Value → Value → Value → Value → Value → Act) (W : World) (H Z : List UInt8) (n : Nat) (T : Array Value) : Nat → Bool → Bool → Act → World → Prop
  | 0, a, b, act, w => ∃ g1 g2, act = F (pv a g1) (pv b g2) undef undef undef undef undef undef undef ∧ H8 W none (ov a g1) (ov b g2) w
  | 1, a, b, act, w => ∃ g1 g2 A c, act = F (pv a g1) (pv b g2) undef (.slice A 0 c) undef undef undef undef undef ∧ H8 W (some (A, c, [])) (ov a g1) (ov b g2) w
  | 2, a, b, act, w => ∃ g1 g2 A c x, act = F (pv a g1) (pv b g2) undef x (.slice A 80 c) undef undef undef undef ∧ H8 W (some (A, c, H)) (ov a g1) (ov b g2) w
  | 3, a, b, act, w => ∃ g1 g2 A c x y, act = F (pv a g1) (pv b g2) undef x y (.slice A n c) undef undef undef ∧ H8 W (some (A, c, H ++ Z)) (ov a g1) (ov b g2) w
  | _, a, b, act, w => ∃ g1 g2 x y u, act = F (pv a g1) (pv b g2) (.tuple #[.agg T, .agg (fltA 0 0)]) x y u (.tuple #[.agg T, .agg (fltA 0 0)]) (.agg T) (.agg (fltA 0 0)) ∧ H8 W none (ov a g1) (ov b g2) w
end Go.Proofs.Ythnognjcbjgkbaa
