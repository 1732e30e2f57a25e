/-
  Contracts of package buf: New, Len, Bytes, Add, put, U8 to U64.
-/
import Derived.Test.YthnognjcbjgkbaaBuf3
namespace Go.Proofs.Ythnognjcbjgkbaa
set_option linter.unusedVariables false
open Go.RowKit

/-- the builder in block g holds the bytes xs -/
structure Bld (w : World) (g : Nat) (A : Option Addr) (c : Nat) (xs : List UInt8) : Prop where
  obj : w.heap[g]? = some (.cells #[.slice A xs.length c] 77 (0, 0))
  own : Own w A c xs

section
variable {S : Nat → Prop} {w w' : World} {g c : Nat} {A : Option Addr} {xs : List UInt8}
theorem Bld.cell (h : Bld w g A c xs) : w.cell? ⟨g, 0, none⟩ = some (.slice A xs.length c) := by rw [cell_of_row w g 0 _ _ (0, 0) h.obj]; rfl
theorem Bld.frozen (h : Bld w g A c xs) : w.frozen? ⟨g, 0, none⟩ = false := by simp [World.frozen?, h.obj]
theorem Bld.lt (h : Bld w g A c xs) : g < w.heap.size := (Array.getElem?_eq_some_iff.1 h.obj).1
theorem Bld.ne (h : Bld w g A c xs) : blk A ≠ some g := by
  intro e
  obtain ⟨cur, hc⟩ := h.own.type g e
  rw [h.obj] at hc
  injection hc with hc
  injection hc with _ ht
  exact absurd ht (by decide)
theorem Bld.keep (h : Bld w g A c xs) (hc : Chg S w w') (hg : ¬ S g) (hA : ∀ k, blk A = some k → ¬ S k) : Bld w' g A c xs :=
  ⟨hc.obj h.obj hg, h.own.keep hc hA⟩
theorem Bld.mid (h : Bld w g A c xs) (hg : w.grownBy w' (blk A)) : w'.cell? ⟨g, 0, none⟩ = some (.slice A xs.length c) ∧ w'.frozen? ⟨g, 0, none⟩ = false ∧ Hid (w'.heap[g]? = some (.cells #[.slice A xs.length c] 77 (0, 0))) := by
  have ho := (hg.block g h.lt (fun e => h.ne e.symm)).trans h.obj
  exact ⟨cell_of_row w' g 0 _ _ (0, 0) ho, by simp [World.frozen?, ho], ho⟩
theorem Bld.drewN (h : Bld w g A c xs) (n : Nat) : Bld (w.drewN n) g A c xs := ⟨h.obj, h.own⟩
theorem Bld.alloc (h : Bld w g A c xs) (o : Obj) : Bld (w.alloc o) g A c xs := h.keep (S := fun _ => False) ((Chg.refl _ w).alloc o) (fun h => h) (fun _ _ h => h)
end

/-- what a call that appends leaves -/
def Grew (w : World) (g : Nat) (A : Option Addr) (zs : List UInt8) (w' : World) : Prop :=
  ∃ A' c', Bld w' g A' c' zs ∧ Chg (fun k => k = g ∨ blk A = some k) w w' ∧ ∀ k, blk A' = some k → blk A = some k ∨ w.heap.size ≤ k
theorem Grew.refl {w : World} {g c : Nat} {A : Option Addr} {xs : List UInt8} (h : Bld w g A c xs) : Grew w g A xs w := ⟨A, c, h, Chg.refl _ _, fun _ hk => .inl hk⟩
theorem Grew.next {w w1 w2 : World} {g : Nat} {A A1 : Option Addr} {zs : List UInt8} (hc1 : Chg (fun k => k = g ∨ blk A = some k) w w1) (hr1 : ∀ k, blk A1 = some k → blk A = some k ∨ w.heap.size ≤ k) (h2 : Grew w1 g A1 zs w2) : Grew w g A zs w2 := by
  obtain ⟨A2, c2, hb2, hc2, hr2⟩ := h2
  refine ⟨A2, c2, hb2, hc1.trans hc2 (fun i hi hs => ?_), fun k hk => ?_⟩
  · rcases hs with hs | hs
    · exact .inl hs
    · rcases hr1 i hs with h1 | h1
      · exact .inr h1
      · omega
  · rcases hr2 k hk with h1 | h1
    · exact hr1 k h1
    · exact .inr (Nat.le_trans hc1.size h1)
/-- the builder was touched through a new block ahead of the call -/
theorem Grew.of_alloc {w w' : World} {o : Obj} {g : Nat} {A : Option Addr} {zs : List UInt8} (h : Grew (w.alloc o) g A zs w') : Grew w g A zs w' := by
  obtain ⟨A', c', hb, hc, hr⟩ := h
  refine ⟨A', c', hb, ((Chg.refl _ w).alloc o).trans hc (fun _ _ h => h), fun k hk => ?_⟩
  rcases hr k hk with h1 | h1
  · exact .inl h1
  · exact .inr (by simp at h1; omega)
theorem Grew.of_drewN {w w' : World} {n : Nat} {g : Nat} {A : Option Addr} {zs : List UInt8} (h : Grew (w.drewN n) g A zs w') : Grew w g A zs w' := by
  obtain ⟨A', c', hb, hc, hr⟩ := h
  exact ⟨A', c', hb, ((Chg.refl _ w).drewN n).trans hc (fun _ _ h => h), hr⟩

/-- what New leaves -/
def NewB (w : World) (xs : List UInt8) (e : Ending) (w' : World) : Prop :=
  ∃ g A c, e = .returned (.pointer (some ⟨g, 0, none⟩)) ∧ Bld w' g A c xs ∧ w.heap.size ≤ g ∧ Fresh w A ∧ Below w.heap.size w w'

set_option maxRecDepth 20000 in
set_option maxHeartbeats 400000 in
theorem New_any (B : Nat) (X : Option Addr) (m cx : Nat) (xs : List UInt8) (w : World) (hm : xs.length = m) (hR : Rd w B X xs) (hB : B ≤ w.heap.size) (hlen : xs.length ≤ 140737488355328) :
    Calls Try.prog 23 #[.slice X m cx] w (NewB w xs) := by
  have H := Lib.hid (Clone_any B X m cx xs w hm hR hB hlen)
  clear hR hm
  go_enter Try.func23, Try.ntmps23
  go_wp2_with fail
  refine H.out.mono ?_
  rintro e w1 ⟨A, c, rfl, hown, hf, hb⟩
  go_wp2_with fail
  go_ret
  exact ⟨w1.heap.size, A, c, rfl, ⟨heap_alloc_new w1 _, hown.alloc _⟩, hb.size, hf, hb.alloc hb.size _⟩

theorem Bytes_any (g c : Nat) (A : Option Addr) (xs : List UInt8) (w : World) (hb : Bld w g A c xs) (hlen : xs.length ≤ 140737488355328) :
    Calls Try.prog 26 #[.pointer (some ⟨g, 0, none⟩)] w (Made w xs) := by
  have hc := hb.cell
  have H := Lib.hid (Clone_any w.heap.size A xs.length c xs w rfl hb.own.rd (Nat.le_refl _) hlen)
  clear hb
  go_enter Try.func26, Try.ntmps26
  go_wp2_with fail
  refine H.out.mono ?_
  rintro e w1 ⟨A, c, rfl, hown, hf, hb⟩
  go_wp2_with fail
  go_ret
  exact ⟨A, c, rfl, hown, hf, hb⟩

set_option maxRecDepth 20000 in
set_option maxHeartbeats 400000 in
theorem Add_any (g c : Nat) (A : Option Addr) (xs : List UInt8) (B : Nat) (X : Option Addr) (m cx : Nat) (ys : List UInt8) (w : World) (hb : Bld w g A c xs) (hm : ys.length = m) (hR : Rd w B X ys) (hlen : xs.length + ys.length ≤ 140737488355328) :
    Calls Try.prog 40 #[.pointer (some ⟨g, 0, none⟩), .slice X m cx] w fun e w' => e = .returned (.tuple #[]) ∧ Grew w g A (xs ++ ys) w' := by
  have hc := hb.cell
  have HB := Lib.hid hb
  have H := Lib.hid hR
  have HM := Lib.hid hm
  clear hR hm hb
  go_enter Try.func40, Try.ntmps40
  go_wp2_with (at_builtin; refine wpList_app rfl (.tmp 10) (.tmp 11) 44 rfl Try.underlying44 infoU8 A xs.length c xs rfl rfl HB.out.own B X m cx ys HM.out rfl H.out hlen ?_; intro A' c' w' hown hg hat hnn; obtain ⟨hcl, hfr, HO⟩ := HB.out.mid hg)
  go_end0
  have c1 := fun u => (Chg.refl (fun k => k = g) w').setCell (p := ⟨g, 0, none⟩) (.inl rfl) u
  have c2 := fun u => ((Chg.refl (fun k => k = g ∨ blk A = some k) w).grown hg (fun k e => .inl (.inr e))).setCell (p := ⟨g, 0, none⟩) (.inl (.inl rfl)) u
  refine ⟨rfl, A', c', ⟨?_, ?_⟩, c2 _, ?_⟩
  · simp [World.setCell, Array.getElem?_modify, HO.out]
  · refine Own.keep hown (c1 _) (fun k hk e => ?_)
    subst e
    rcases hat with h | h
    · exact HB.out.ne (h.symm.trans hk)
    · rw [hk] at h; have h := Option.some.inj h; have := HB.out.lt; omega
  · intro k hk
    rcases hat with h | h
    · exact .inl (h.symm.trans hk)
    · exact .inr (Nat.le_of_eq (Option.some.inj (h.symm.trans hk)))

/-- the first n bytes of a number, the lowest first -/
def leB (x n : Nat) : List UInt8 := (List.range n).map fun j => UInt8.ofNat (x / 2 ^ (8 * j))
theorem leB_succ (x n : Nat) : leB x (n + 1) = leB x n ++ [UInt8.ofNat (x / 2 ^ (8 * n))] := by unfold leB; rw [List.range_succ]; simp
theorem leB_length (x n : Nat) : (leB x n).length = n := by unfold leB; simp

set_option maxRecDepth 20000 in
set_option maxHeartbeats 400000 in
theorem put_u16 (g c : Nat) (A : Option Addr) (xs : List UInt8) (x n : Nat) (w : World) (hb : Bld w g A c xs) (hn : n ≤ 8) (hx : x < 18446744073709551616) (hlen : xs.length + n ≤ 140737488355328) :
    Calls Try.prog 52 #[.pointer (some ⟨g, 0, none⟩), .int .u16 (x : Int), .int .i64 (n : Int), .func (.func 40) #[] #[]] w fun e w' => e = .returned (.tuple #[]) ∧ Grew w g A (xs ++ leB x n) w' := by
  have H := Lib.hid hb
  clear hb
  go_enter Try.func52, Try.ntmps52
  go_wp2_with fail
  go_loopw [10] (fun i wr => ∃ k : Nat, k ≤ n ∧ i = .int .i64 (k : Int) ∧ Grew w g A (xs ++ leB x k) wr) (fun i _ => n - (intOf i).toNat)
  case atStart => exact ⟨0, Nat.zero_le _, rfl, by simpa [leB] using Grew.refl H.out⟩
  case round =>
    obtain ⟨k, hk, rfl, hG⟩ := hrel
    obtain ⟨A1, c1, hb1, hc1, hr1⟩ := hG
    have HB1 := Lib.hid hb1
    clear hb1
    have e8 : (x : Int) / 2 ^ (8 * k) % 256 = ((UInt8.ofNat (x / 2 ^ (8 * k))).toNat : Int) := by
      rw [UInt8.toNat_ofNat']; simp
    have E8 := Lib.hid e8
    clear e8
    by_cases hlt : k < n
    · go_wp2_with fail
      refine (Add_any g c1 A1 (xs ++ leB x k) (wr.heap.size + 1) _ 1 1 [UInt8.ofNat (x / 2 ^ (8 * k))] _ (HB1.out.alloc _) rfl (Rd.one _ _ _ E8.out) (by simp [leB_length]; omega)).mono ?_
      rintro e w2 ⟨rfl, hG2⟩
      have hG3 : Grew w g A (xs ++ leB x (k + 1)) w2 := by
        rw [leB_succ, ← List.append_assoc]
        exact Grew.next hc1 hr1 (Grew.of_alloc hG2)
      clear hG2 hc1 hr1
      go_wp2_with fail
      go_roundw
      case rel => exact ⟨k + 1, by omega, by go_num, hG3⟩
      case measure => simp [intOf]; omega
    · have ek : k = n := by omega
      subst ek
      go_wp2_with fail
      go_end0
      exact ⟨rfl, A1, c1, HB1.out, hc1, hr1⟩
set_option maxRecDepth 20000 in
set_option maxHeartbeats 400000 in
theorem put_u32 (g c : Nat) (A : Option Addr) (xs : List UInt8) (x n : Nat) (w : World) (hb : Bld w g A c xs) (hn : n ≤ 8) (hx : x < 18446744073709551616) (hlen : xs.length + n ≤ 140737488355328) :
    Calls Try.prog 53 #[.pointer (some ⟨g, 0, none⟩), .int .u32 (x : Int), .int .i64 (n : Int), .func (.func 40) #[] #[]] w fun e w' => e = .returned (.tuple #[]) ∧ Grew w g A (xs ++ leB x n) w' := by
  have H := Lib.hid hb
  clear hb
  go_enter Try.func53, Try.ntmps53
  go_wp2_with fail
  go_loopw [10] (fun i wr => ∃ k : Nat, k ≤ n ∧ i = .int .i64 (k : Int) ∧ Grew w g A (xs ++ leB x k) wr) (fun i _ => n - (intOf i).toNat)
  case atStart => exact ⟨0, Nat.zero_le _, rfl, by simpa [leB] using Grew.refl H.out⟩
  case round =>
    obtain ⟨k, hk, rfl, hG⟩ := hrel
    obtain ⟨A1, c1, hb1, hc1, hr1⟩ := hG
    have HB1 := Lib.hid hb1
    clear hb1
    have e8 : (x : Int) / 2 ^ (8 * k) % 256 = ((UInt8.ofNat (x / 2 ^ (8 * k))).toNat : Int) := by
      rw [UInt8.toNat_ofNat']; simp
    have E8 := Lib.hid e8
    clear e8
    by_cases hlt : k < n
    · go_wp2_with fail
      refine (Add_any g c1 A1 (xs ++ leB x k) (wr.heap.size + 1) _ 1 1 [UInt8.ofNat (x / 2 ^ (8 * k))] _ (HB1.out.alloc _) rfl (Rd.one _ _ _ E8.out) (by simp [leB_length]; omega)).mono ?_
      rintro e w2 ⟨rfl, hG2⟩
      have hG3 : Grew w g A (xs ++ leB x (k + 1)) w2 := by
        rw [leB_succ, ← List.append_assoc]
        exact Grew.next hc1 hr1 (Grew.of_alloc hG2)
      clear hG2 hc1 hr1
      go_wp2_with fail
      go_roundw
      case rel => exact ⟨k + 1, by omega, by go_num, hG3⟩
      case measure => simp [intOf]; omega
    · have ek : k = n := by omega
      subst ek
      go_wp2_with fail
      go_end0
      exact ⟨rfl, A1, c1, HB1.out, hc1, hr1⟩
set_option maxRecDepth 20000 in
set_option maxHeartbeats 400000 in
theorem put_u64 (g c : Nat) (A : Option Addr) (xs : List UInt8) (x n : Nat) (w : World) (hb : Bld w g A c xs) (hn : n ≤ 8) (hx : x < 18446744073709551616) (hlen : xs.length + n ≤ 140737488355328) :
    Calls Try.prog 54 #[.pointer (some ⟨g, 0, none⟩), .int .u64 (x : Int), .int .i64 (n : Int), .func (.func 40) #[] #[]] w fun e w' => e = .returned (.tuple #[]) ∧ Grew w g A (xs ++ leB x n) w' := by
  have H := Lib.hid hb
  clear hb
  go_enter Try.func54, Try.ntmps54
  go_wp2_with fail
  go_loopw [10] (fun i wr => ∃ k : Nat, k ≤ n ∧ i = .int .i64 (k : Int) ∧ Grew w g A (xs ++ leB x k) wr) (fun i _ => n - (intOf i).toNat)
  case atStart => exact ⟨0, Nat.zero_le _, rfl, by simpa [leB] using Grew.refl H.out⟩
  case round =>
    obtain ⟨k, hk, rfl, hG⟩ := hrel
    obtain ⟨A1, c1, hb1, hc1, hr1⟩ := hG
    have HB1 := Lib.hid hb1
    clear hb1
    have e8 : (x : Int) / 2 ^ (8 * k) % 256 = ((UInt8.ofNat (x / 2 ^ (8 * k))).toNat : Int) := by
      rw [UInt8.toNat_ofNat']; simp
    have E8 := Lib.hid e8
    clear e8
    by_cases hlt : k < n
    · go_wp2_with fail
      refine (Add_any g c1 A1 (xs ++ leB x k) (wr.heap.size + 1) _ 1 1 [UInt8.ofNat (x / 2 ^ (8 * k))] _ (HB1.out.alloc _) rfl (Rd.one _ _ _ E8.out) (by simp [leB_length]; omega)).mono ?_
      rintro e w2 ⟨rfl, hG2⟩
      have hG3 : Grew w g A (xs ++ leB x (k + 1)) w2 := by
        rw [leB_succ, ← List.append_assoc]
        exact Grew.next hc1 hr1 (Grew.of_alloc hG2)
      clear hG2 hc1 hr1
      go_wp2_with fail
      go_roundw
      case rel => exact ⟨k + 1, by omega, by go_num, hG3⟩
      case measure => simp [intOf]; omega
    · have ek : k = n := by omega
      subst ek
      go_wp2_with fail
      go_end0
      exact ⟨rfl, A1, c1, HB1.out, hc1, hr1⟩
end Go.Proofs.Ythnognjcbjgkbaa
