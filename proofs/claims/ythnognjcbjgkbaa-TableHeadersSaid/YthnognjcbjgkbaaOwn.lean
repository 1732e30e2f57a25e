/-
  Words for a slice of bytes that the call itself has made, frames, and append.
-/
import Derived.Test.YthnognjcbjgkbaaMem
import Derived.WalkSpells
namespace Go.Proofs.Ythnognjcbjgkbaa
set_option linter.unusedVariables false
open Go.RowKit

/-- the type uint8 of this translation -/
abbrev U8t : TypeId := 5

theorem bvs_length (l : List UInt8) : (bvs l).length = l.length := by simp [bvs]
theorem bvs_get (l : List UInt8) (j : Nat) (h : j < l.length) : (bvs l)[j]? = some (bv (l.getD j 0)) := by
  simp [bvs, List.getD, h]
theorem bvs_append (a b : List UInt8) : bvs (a ++ b) = bvs a ++ bvs b := by simp [bvs]
theorem bvs_one (l : List UInt8) : ∀ u ∈ bvs l, u.oneCell' = true := by
  intro u hu
  simp only [bvs, List.mem_map] at hu
  obtain ⟨c, _, rfl⟩ := hu
  rfl

/-- only the blocks of S, and new ones, may have turned -/
structure Chg (S : Nat → Prop) (w w' : World) : Prop where
  os : w'.os = w.os
  tape : w'.tape = w.tape
  output : w'.output = w.output
  size : w.heap.size ≤ w'.heap.size
  block : ∀ k, k < w.heap.size → ¬ S k → w'.heap[k]? = w.heap[k]?

section
variable {S T : Nat → Prop} {w w' a b c : World} {B : Nat}
theorem Chg.refl (S : Nat → Prop) (w : World) : Chg S w w := ⟨rfl, rfl, rfl, Nat.le_refl _, fun _ _ _ => rfl⟩
theorem Chg.mono (h : Chg S a b) (hST : ∀ k, k < a.heap.size → S k → T k) : Chg T a b := ⟨h.os, h.tape, h.output, h.size, fun k hk hn => h.block k hk (fun hs => hn (hST k hk hs))⟩
theorem Chg.trans (h : Chg S a b) (k : Chg T b c) (hT : ∀ i, i < a.heap.size → T i → S i) : Chg S a c :=
  ⟨k.os.trans h.os, k.tape.trans h.tape, k.output.trans h.output, Nat.le_trans h.size k.size,
   fun i hi hn => (k.block i (Nat.lt_of_lt_of_le hi h.size) (fun ht => hn (hT i hi ht))).trans (h.block i hi hn)⟩
theorem Chg.drewN (h : Chg S a w) (n : Nat) : Chg S a (w.drewN n) := ⟨h.os, h.tape, h.output, h.size, h.block⟩
theorem Chg.drew (h : Chg S a w) : Chg S a w.drew := ⟨h.os, h.tape, h.output, h.size, h.block⟩
theorem Chg.alloc (h : Chg S a w) (o : Obj) : Chg S a (w.alloc o) :=
  h.trans (T := fun _ => False) ⟨rfl, rfl, rfl, by simp, fun k hk _ => Below.heap_alloc _ _ _ hk⟩ (fun _ _ h => h.elim)
theorem Chg.setCell (h : Chg S a w) {p : Addr} (hp : S p.block ∨ a.heap.size ≤ p.block) (u : Value) : Chg S a (w.setCell p u) :=
  h.trans (T := fun k => k = p.block) ⟨rfl, rfl, rfl, by simp [World.setCell], fun k _ hn => Below.heap_setCell _ _ _ _ hn⟩ (fun i hi e => by
    subst e
    rcases hp with hp | hp
    · exact hp
    · omega)
theorem Chg.grown (h : Chg S a w) {row : Option Nat} (hg : w.grownBy w' row) (hr : ∀ k, row = some k → S k ∨ a.heap.size ≤ k) : Chg S a w' :=
  h.trans (T := fun k => some k = row) ⟨hg.os, hg.tape, hg.output, hg.size, fun k hk hn => hg.block k hk hn⟩ (fun i hi e => by
    rcases hr i e.symm with h1 | h1
    · exact h1
    · omega)
theorem Chg.below (h : Chg S a b) (hS : ∀ k, S k → B ≤ k) (hB : B ≤ a.heap.size) : Below B a b :=
  ⟨h.os, h.tape, h.output, h.size, fun k hk => h.block k (by omega) (fun hs => by have := hS k hs; omega)⟩
theorem Chg.of_below (h : Below a.heap.size a b) : Chg S a b := ⟨h.os, h.tape, h.output, h.size, fun k hk _ => h.block k hk⟩
/-- a block that is no part of S -/
theorem Chg.obj (h : Chg S a b) {k : Nat} {o : Obj} (ho : a.heap[k]? = some o) (hn : ¬ S k) : b.heap[k]? = some o :=
  (h.block k (Array.getElem?_eq_some_iff.1 ho).1 hn).trans ho
end

/-- the block of a slice's address -/
def blk (A : Option Addr) : Option Nat := A.map (·.block)
theorem ownBlock_slice (A : Option Addr) (n c : Nat) : (Value.slice A n c).ownBlock = blk A := by cases A <;> rfl

/-- the slice '.slice A xs.length c' is the call's own row of the bytes xs -/
def Own (w : World) (A : Option Addr) (c : Nat) (xs : List UInt8) : Prop := w.ownsRow 0 U8t 1 (.slice A xs.length c) xs.length (bvs xs)
/-- made since the world a -/
def Fresh (a : World) (A : Option Addr) : Prop := ∀ k, blk A = some k → a.heap.size ≤ k

section
variable {S : Nat → Prop} {w w' : World} {A : Option Addr} {c : Nat} {xs : List UInt8}
theorem Own.nil (w : World) : Own w none 0 [] := World.ownsRow_nil w 0 U8t 1
theorem Own.form (h : Own w A c xs) : (A = none ∧ c = 0 ∧ xs = []) ∨ ∃ g cur, A = some ⟨g, 0, none⟩ ∧ w.heap[g]? = some (.cells cur U8t (0, 0)) ∧ xs.length ≤ c ∧ c ≤ maxLen ∧ cur.size = c ∧ cur.toList.take xs.length = bvs xs := by
  rcases h.2 with ⟨e, hn⟩ | ⟨g, cap, cur, e, _, hg, h1, h2, h3, h4⟩
  · injection e with e1 e2 e3
    exact .inl ⟨e1, e3, List.eq_nil_of_length_eq_zero hn⟩
  · injection e with e1 e2 e3
    subst e3
    exact .inr ⟨g, cur, e1, hg, h1, h2, by simpa using h3, by simpa using h4⟩
theorem Own.le (h : Own w A c xs) : xs.length ≤ c ∧ c ≤ 9223372036854775807 := by
  rcases h.form with ⟨_, rfl, rfl⟩ | ⟨g, cur, _, _, h1, h2, _⟩
  · simp
  · exact ⟨h1, by unfold maxLen at h2; omega⟩
theorem Own.lt (h : Own w A c xs) : ∀ k, blk A = some k → k < w.heap.size := by
  intro k hk
  rcases h.form with ⟨rfl, _⟩ | ⟨g, cur, rfl, hg, _⟩
  · cases hk
  · injection hk with hk; subst hk; exact (Array.getElem?_eq_some_iff.1 hg).1
theorem Own.type (h : Own w A c xs) : ∀ k, blk A = some k → ∃ cur, w.heap[k]? = some (.cells cur U8t (0, 0)) := by
  intro k hk
  rcases h.form with ⟨rfl, _⟩ | ⟨g, cur, rfl, hg, _⟩
  · cases hk
  · injection hk with hk; subst hk; exact ⟨cur, hg⟩
theorem Own.keep (h : Own w A c xs) (hc : Chg S w w') (hn : ∀ k, blk A = some k → ¬ S k) : Own w' A c xs := by
  refine ⟨h.1, ?_⟩
  rcases h.2 with h2 | ⟨g, cap, cur, hv, hg, hh, r⟩
  · exact Or.inl h2
  · refine Or.inr ⟨g, cap, cur, hv, hg, hc.obj hh (hn g ?_), r⟩
    injection hv with e1; rw [e1]; rfl
theorem Own.drewN (h : Own w A c xs) (n : Nat) : Own (w.drewN n) A c xs := h
theorem Own.alloc (h : Own w A c xs) (o : Obj) : Own (w.alloc o) A c xs := h.keep (S := fun _ => False) ((Chg.refl _ w).alloc o) (fun _ _ h => h)
/-- a row that has just been made -/
theorem Own.made (w : World) (cs : Array Value) (xs : List UInt8) (c : Nat) (hc : cs.size = c) (hm : c ≤ maxLen) (hx : xs.length ≤ c) (ht : cs.toList.take xs.length = bvs xs) :
    Own (w.alloc (.cells cs U8t)) (some ⟨w.heap.size, 0, none⟩) c xs :=
  ⟨by rw [bvs_length]; omega, .inr ⟨w.heap.size, c, cs, rfl, Nat.zero_le _, heap_alloc_new w _, hx, hm, by omega, by simpa using ht⟩⟩
theorem Own.empty (w : World) : Own (w.alloc (.cells #[] U8t)) (some ⟨w.heap.size, 0, none⟩) 0 [] :=
  Own.made w #[] [] 0 rfl (Nat.zero_le _) (Nat.le_refl _) rfl
theorem fresh_new (w : World) (n : Nat) (h : w.heap.size ≤ n) : Fresh w (some ⟨n, 0, none⟩) := by
  intro k hk; injection hk with hk; subst hk; exact h
theorem Rd.one (w : World) (z : Int) (x : UInt8) (hz : z = (x.toNat : Int)) : Rd (w.alloc (.cells #[.int .u8 z] U8t)) (w.heap.size + 1) (some ⟨w.heap.size, 0, none⟩) [x] := by
  subst hz
  refine .inr ⟨w.heap.size, 0, rfl, Nat.lt_succ_self _, fun j hj => ?_⟩
  have hj0 : j = 0 := by simpa using hj
  subst hj0
  rw [Nat.add_zero, World.cell?_alloc_at (w := w) _ _ _ _ rfl]
  rfl
theorem Rd.lit (w : World) (cs : Array Value) (xs : List UInt8) (h : cs.toList.take xs.length = bvs xs) : Rd (w.alloc (.cells cs U8t)) (w.heap.size + 1) (some ⟨w.heap.size, 0, none⟩) xs := by
  refine .inr ⟨w.heap.size, 0, rfl, Nat.lt_succ_self _, fun j hj => ?_⟩
  rw [Nat.zero_add, World.cell?_alloc_at (w := w) _ _ _ _ rfl]
  have h2 := bvs_get xs j hj
  rw [← h, List.getElem?_take, if_pos hj] at h2
  simpa using h2
theorem Own.rd (h : Own w A c xs) : Rd w w.heap.size A xs := by
  rcases h.form with ⟨_, _, rfl⟩ | ⟨g, cur, rfl, hg, h1, _, hcs, ht⟩
  · exact .inl rfl
  · refine .inr ⟨g, 0, rfl, (Array.getElem?_eq_some_iff.1 hg).1, fun j hj => ?_⟩
    rw [Nat.zero_add, cell_of_row w g j cur U8t (0, 0) hg]
    have h2 := bvs_get xs j hj
    rw [← ht, List.getElem?_take, if_pos hj] at h2
    simpa using h2
end

section
variable {P : Program} {w : World} {ops : Array Oper} {rest : List Oper} {o : Oper} {a : Act} {Q : Exit → Act → World → Prop}
/-- 'append(s, x...)': s the call's own, x whatever reads as bytes -/
theorem run_app (T ty : TypeId) (ht : P.underlying T = some (.slice U8t)) (hinfo : (P.info? U8t).map (fun i => (i.zero, i.size, i.bytes)) = some (some (.int .u8 0), 1, 1))
    (A : Option Addr) (c : Nat) (xs : List UInt8) (hown : Own w A c xs) (B : Nat) (X : Option Addr) (m cx : Nat) (ys : List UInt8) (hm : ys.length = m) (hR : Rd w B X ys) (hlen : xs.length + ys.length ≤ 140737488355328) :
    ∃ A' c' w', (Builtin.append_ #[T, T] ty #[.slice A xs.length c, .slice X m cx]).run P w = .ok (.slice A' (xs ++ ys).length c') w' ∧ Own w' A' c' (xs ++ ys) ∧ w.grownBy w' (blk A) ∧ (blk A' = blk A ∨ blk A' = some w.heap.size) ∧ (A' = none → A = none ∧ ys = []) := by
  subst hm
  obtain ⟨i, hi, hz, hs, hb⟩ := info_parts hinfo
  have fin : ∀ v' w', w'.ownsRow 0 U8t 1 v' (xs.length + ys.length) (bvs xs ++ bvs ys) → ∃ A' c', v' = .slice A' (xs ++ ys).length c' ∧ Own w' A' c' (xs ++ ys) := by
    intro v' w' h
    have e : ∃ A' c', v' = .slice A' (xs ++ ys).length c' := by
      rcases h.2 with ⟨rfl, h0⟩ | ⟨g, cap, cur, rfl, _⟩
      · exact ⟨none, 0, by rw [List.length_append, h0]⟩
      · exact ⟨_, cap, by rw [List.length_append]⟩
    obtain ⟨A', c', rfl⟩ := e
    refine ⟨A', c', rfl, ?_⟩
    unfold Own
    rw [bvs_append, List.length_append]
    rw [List.length_append] at h
    exact h
  cases X with
  | none =>
    have hy : ys = [] := by
      rcases hR with h | ⟨_, _, h, _⟩
      · exact h
      · cases h
    subst hy
    have hr := run_append_owned_none (P := P) (w := w) 0 T ty U8t i 1 ht hi (.slice A xs.length c) xs.length (bvs xs) hown
    have hr' : (Builtin.append_ #[T, T] ty #[.slice A xs.length c, .slice none 0 cx]).run P w = .ok (.slice A xs.length c) w := by
      rcases hown.form with ⟨rfl, rfl, rfl⟩ | ⟨g, cur, rfl, hg, h1, h2, _⟩
      · simp [Builtin.append_, run_underlying ht, sizeOf, typeInfo, hi, Builtin.lenOf, Builtin.firstCells]
      · simp [Builtin.append_, run_underlying ht, sizeOf, typeInfo, hi, Builtin.lenOf, Builtin.firstCells, h1, storeCells]
    exact ⟨A, c, w, by simpa using hr', by simpa using hown, World.grownBy.refl w _, .inl rfl, fun h => ⟨h, rfl⟩⟩
  | some ad =>
    have hcells : ∀ j u, (bvs ys)[j]? = some u → w.cell? (ad.add j) = some u := by
      intro j u hu
      have hj : j < ys.length := by
        have := (List.getElem?_eq_some_iff.1 hu).1
        rwa [bvs_length] at this
      rw [bvs_get ys j hj] at hu
      injection hu with hu
      subst hu
      obtain ⟨b, off, e, _, hc⟩ := hR.at_ hj
      injection e with e
      subst e
      rw [add_lit]
      exact hc
    obtain ⟨v', w', hr, h2, h3, h4, h5⟩ := run_append_own_at (P := P) w 0 T ty U8t i (.int .u8 0) 1 1 ht hi hz hs hb rfl (by omega) (.slice A xs.length c) xs.length (bvs xs) hown ad ys.length cx (bvs ys)
      (by rw [bvs_length]; omega) hcells (bvs_one ys) (by unfold maxLen; omega) (by omega) (Nat.zero_le _)
    obtain ⟨A', c', rfl, h6⟩ := fin v' w' h2
    rw [ownBlock_slice, ownBlock_slice] at h5
    rw [ownBlock_slice] at h3
    refine ⟨A', c', w', hr, h6, h3, h5, fun hA => ?_⟩
    subst hA
    rcases h6.form with ⟨_, rfl, hxy⟩ | ⟨g, cur, e, _⟩
    · have hx : xs = [] ∧ ys = [] := by simpa using hxy
      obtain ⟨hx, hy⟩ := hx
      subst hx; subst hy
      have h7 := h4.1 rfl
      obtain ⟨h7, _⟩ := h7
      injection h7 with h7 _ _
      exact ⟨h7, rfl⟩
    · cases e

theorem wpList_app (hgd : o.guard = none) (s x : Operand) (T : TypeId) (ho : o.op = .call { callee := .builtin .append, args := #[s, x], argTypes := #[T, T] })
    (ht : P.underlying T = some (.slice U8t)) (hinfo : (P.info? U8t).map (fun i => (i.zero, i.size, i.bytes)) = some (some (.int .u8 0), 1, 1))
    (A : Option Addr) (n c : Nat) (xs : List UInt8) (hn : xs.length = n) (hs : a.eval s = .slice A n c) (hown : Own w A c xs) (B : Nat) (X : Option Addr) (m cx : Nat) (ys : List UInt8) (hm : ys.length = m) (hx : a.eval x = .slice X m cx) (hR : Rd w B X ys) (hlen : xs.length + ys.length ≤ 140737488355328)
    (h : ∀ A' c' w', Own w' A' c' (xs ++ ys) → w.grownBy w' (blk A) → (blk A' = blk A ∨ blk A' = some w.heap.size) → (A' = none → A = none ∧ ys = []) → wpList P ops Q rest (a.put o.dst (.slice A' (xs ++ ys).length c')) w') : wpList P ops Q (o :: rest) a w := by
  subst hn
  refine wpList_plain hgd fun K hK => ?_
  obtain ⟨A', c', w', hr, h2, h3, h4, h5⟩ := run_app (P := P) (w := w) T o.type ht hinfo A c xs hown B X m cx ys hm hR hlen
  unfold Oper.wp execOp
  simp only [ho, resolve, invoke, builtin, Sem.run_bind, Sem.run_pure, Result.andThen_ok, List.map_toArray, List.map_cons, List.map_nil, hs, hx, hr]
  exact hK _ _ (h A' c' w' h2 h3 h4 h5)
end
end Go.Proofs.Ythnognjcbjgkbaa
