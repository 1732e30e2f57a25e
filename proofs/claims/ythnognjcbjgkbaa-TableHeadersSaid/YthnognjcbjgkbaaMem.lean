/-
  Words for slices of bytes in memory, and the laws that carry them from world to world. No program is named.
-/
import Derived.WalkKit
import Derived.Deep.Draws
import Derived.Deep.AppendLies
import Derived.Laws.OwnMore
import Derived.Laws.CopyOwn
import Derived.Maps.AppendAt
import Derived.OpenShut
namespace Go.Proofs.Ythnognjcbjgkbaa
set_option linter.unusedVariables false
open Go.RowKit

/-- a byte as a value -/
def bv (c : UInt8) : Value := .int .u8 (c.toNat : Int)
def bvs (l : List UInt8) : List Value := l.map bv

/-- THE SLICE AT 'A' READS AS THE BYTES xs, in blocks below B. Nothing is known of A where there is no byte. -/
def Rd (w : World) (B : Nat) (A : Option Addr) (xs : List UInt8) : Prop :=
  xs = [] ∨ ∃ b off, A = some ⟨b, off, none⟩ ∧ b < B ∧ ∀ j, j < xs.length → w.cell? ⟨b, off + j, none⟩ = some (bv (xs.getD j 0))

section
variable {w w' : World} {B B' : Nat} {A : Option Addr} {xs ys : List UInt8}
theorem Rd.nil : Rd w B A [] := .inl rfl
theorem Rd.keep (h : Rd w B A xs) (hk : ∀ p : Addr, p.block < B → w'.cell? p = w.cell? p) : Rd w' B A xs := by
  rcases h with h | ⟨b, off, e, hb, hc⟩
  · exact .inl h
  · exact .inr ⟨b, off, e, hb, fun j hj => (hk _ hb).trans (hc j hj)⟩
theorem Rd.more (h : Rd w B A xs) (hB : B ≤ B') : Rd w B' A xs := by
  rcases h with h | ⟨b, off, e, hb, hc⟩
  · exact .inl h
  · exact .inr ⟨b, off, e, by omega, hc⟩
theorem Rd.below (h : Rd w B A xs) (hb : Below B w w') : Rd w' B A xs := h.keep fun _ hp => hb.cell hp
/-- where all that lay before the call reads as it did -/
theorem Rd.after (h : Rd w B A xs) (hB : B ≤ w.heap.size) (hb : Below w.heap.size w w') : Rd w' B A xs := h.keep fun _ hp => hb.cell (by omega)
theorem Rd.alloc (h : Rd w B A xs) (hB : B ≤ w.heap.size) (o : Obj) : Rd (w.alloc o) B A xs := h.keep fun p hp => World.cell?_alloc_lt w o p (by omega)
theorem Rd.setCell (h : Rd w B A xs) {p : Addr} (hB : B ≤ p.block) (u : Value) : Rd (w.setCell p u) B A xs :=
  h.keep fun q hq => World.cell?_setCell_other w p q u (fun e => by subst e; omega)
theorem Rd.grown (h : Rd w B A xs) {row : Option Nat} (hg : w.grownBy w' row) (hB : B ≤ w.heap.size) (hr : ∀ g, row = some g → B ≤ g) : Rd w' B A xs :=
  h.keep fun p hp => World.cell?_of_block (hg.block p.block (by omega) (fun e => by have := hr _ e.symm; omega))
/-- a byte that is there -/
theorem Rd.at_ (h : Rd w B A xs) {k : Nat} (hk : k < xs.length) : ∃ b off, A = some ⟨b, off, none⟩ ∧ b < B ∧ w.cell? ⟨b, off + k, none⟩ = some (bv (xs.getD k 0)) := by
  rcases h with h | ⟨b, off, e, hb, hc⟩
  · subst h; simp at hk
  · exact ⟨b, off, e, hb, hc k hk⟩
theorem Rd.open_ (h : Rd w B A xs) (hx : xs ≠ []) : ∃ b off, A = some ⟨b, off, none⟩ ∧ b < B ∧ ∀ j, j < xs.length → w.cell? ⟨b, off + j, none⟩ = some (bv (xs.getD j 0)) := by
  rcases h with h | h
  · exact absurd h hx
  · exact h
theorem getD_drop (l : List UInt8) (k j : Nat) : (l.drop k).getD j 0 = l.getD (k + j) 0 := by simp [List.getD]
theorem getD_take (l : List UInt8) (k j : Nat) (h : j < k) : (l.take k).getD j 0 = l.getD j 0 := by simp [List.getD, h]
theorem add_lit (b off k : Nat) : (⟨b, off, none⟩ : Addr).add k = ⟨b, off + k, none⟩ := by
  unfold Addr.add; split <;> simp_all
/-- a part of it, as the walk spells its address -/
theorem Rd.part (h : Rd w B A xs) (k m c : Nat) (hc : xs.length ≤ c) : Rd w B (if c = k then A else A.map (·.add k)) ((xs.drop k).take m) := by
  rcases h with h | ⟨b, off, e, hb, hcell⟩
  · subst h; exact .inl (by simp)
  · subst e
    by_cases hk : c = k
    · exact .inl (by rw [List.drop_of_length_le (by omega)]; simp)
    · rw [if_neg hk]
      refine .inr ⟨b, off + k, by simp [add_lit], hb, fun j hj => ?_⟩
      have hj' : j < m ∧ k + j < xs.length := by simp at hj; omega
      rw [getD_take _ _ _ hj'.1, getD_drop, Nat.add_assoc]
      exact hcell _ hj'.2
theorem Rd.take (h : Rd w B A xs) (m : Nat) : Rd w B A (xs.take m) := by
  rcases h with h | ⟨b, off, e, hb, hcell⟩
  · subst h; exact .inl (by simp)
  · refine .inr ⟨b, off, e, hb, fun j hj => ?_⟩
    have hj' : j < m ∧ j < xs.length := by simp at hj; omega
    rw [getD_take _ _ _ hj'.1]
    exact hcell _ hj'.2
/-- a row of integers that came in -/
theorem bytes_of_ints (zs : List Int) (h : ∀ n ∈ zs, (Lit.int .u8 n).wf = true) : ∃ xs : List UInt8, zs = xs.map fun c => (c.toNat : Int) := by
  induction zs with
  | nil => exact ⟨[], rfl⟩
  | cons z zs ih =>
    obtain ⟨xs, hx⟩ := ih (fun n hn => h n (by simp [hn]))
    have hz := h z (by simp)
    have hb := bounds_u8 hz
    refine ⟨UInt8.ofNat z.toNat :: xs, ?_⟩
    rw [List.map_cons, ← hx]
    congr 1
    rw [UInt8.toNat_ofNat']
    omega
end

/-- a byte, opened for the walk: its number hidden -/
theorem Rd.byte {w : World} {B : Nat} {A : Option Addr} {xs : List UInt8} (h : Rd w B A xs) {k : Nat} (hk : k < xs.length) :
    ∃ b off, ∃ n : Nat, A = some ⟨b, off, none⟩ ∧ b < B ∧ w.cell? ⟨b, off + k, none⟩ = some (.int .u8 (n : Int)) ∧ n < 256 ∧ Hid (n = (xs.getD k 0).toNat) := by
  obtain ⟨b, off, e, hb, hc⟩ := h.at_ hk
  exact ⟨b, off, (xs.getD k 0).toNat, e, hb, hc, UInt8.toNat_lt _, rfl⟩

section
variable {P : Program} {w : World} {ops : Array Oper} {rest : List Oper} {o : Oper} {a : Act} {Q : Exit → Act → World → Prop}
theorem size_of_info {e : TypeId} (hsz : (P.info? e).map (·.size) = some 1) (w : World) : (sizeOf e).run P w = .ok 1 w := by
  cases hi : P.info? e with
  | none => rw [hi] at hsz; cases hsz
  | some i =>
    rw [hi] at hsz
    have : i.size = 1 := by simpa using hsz
    simp [sizeOf, typeInfo, hi, this]

/-- 'x[l:h]' of bytes: the address behind a name -/
theorem wpList_cut (hg : o.guard = none) (x l h : Operand) (T : TypeId) (hop : o.op = .slice T x (some l) (some h) none) (hT : P.underlying T = some (.slice (P.elem T))) (hsz : (P.info? (P.elem T)).map (·.size) = some 1)
    (A : Option Addr) (n c ln hn : Nat) (hx : a.eval x = .slice A n c) (hl : a.eval l = .int .i64 (ln : Int)) (hh : a.eval h = .int .i64 (hn : Int)) (h1 : ln ≤ hn) (h2 : hn ≤ n) (h3 : n ≤ c)
    (B : Nat) (xs : List UInt8) (hxs : xs.length = n) (hR : Rd w B A xs)
    (hK : ∀ A', Rd w B A' ((xs.drop ln).take (hn - ln)) → wpList P ops Q rest (a.put o.dst (.slice A' (hn - ln) (c - ln))) w) : wpList P ops Q (o :: rest) a w := by
  refine wpList_plain hg fun K hK' => ?_
  have hs := size_of_info hsz w
  unfold Oper.wp
  simp only [execOp, hop, Option.map_some, Option.map_none, hx, hl, hh, Sem.run_bind, Sem.run_pure, run_sliceAt_slice (P := P) (w := w) T _ _ _ _ hT, run_slice_lh (P := P) (w := w) T A n c hT .i64 .i64 ln hn (by omega) (by omega) (by omega), hs, Result.andThen, sliced, Int.toNat_natCast, Nat.mul_one]
  exact hK' _ _ (hK _ (hR.part ln (hn - ln) c (by omega)))
end
end Go.Proofs.Ythnognjcbjgkbaa
