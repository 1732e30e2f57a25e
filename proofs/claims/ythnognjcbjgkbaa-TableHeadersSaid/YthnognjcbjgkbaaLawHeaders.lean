/-
  What the law TableHeaders computes: true.
-/
import Derived.Test.YthnognjcbjgkbaaTab19
import Derived.Test.YthnognjcbjgkbaaTab22
import Derived.Test.YthnognjcbjgkbaaTab23
import Derived.Test.YthnognjcbjgkbaaLawReads10
import Derived.Test.YthnognjcbjgkbaaEqual
import Derived.Test.YthnognjcbjgkbaaConcat
import Derived.Test.YthnognjcbjgkbaaZeros
import Derived.Test.YthnognjcbjgkbaaTab24
namespace Go.Proofs.Ythnognjcbjgkbaa
set_option linter.unusedVariables false
open Go.RowKit Go.Shelf

/-- the temporaries while region 8 goes on -/
def actH (fr t : Nat) (cs o c : Nat → Int) (A : Option Addr) (n cb b g7 g9 gb : Nat) (A7 : Option Addr) (c7 : Nat) (x45 x47 x48 x49 x13 x14 x43 x44 x46 x50 x51 x52 x53 : Value) : Act :=
  { tmps := #[.int .u64 fr, .agg (cntA cs), .slice A n cb, undef, .pointer (some ⟨b, 0, none⟩), undef, .bool false, .pointer (some ⟨g7, 0, none⟩), .bool true, .pointer (some ⟨g9, 0, none⟩), .bool true, .pointer (some ⟨gb, 0, none⟩), .slice A7 80 c7, x13, x14, .agg #[.int .i64 (cs 0), .int .i64 (cs 1), .int .i64 (cs 2), .int .i64 (cs 3), .int .i64 (cs 4), .int .i64 (cs 5), .int .i64 (cs 6)], .bool true, .bool false, .bool false, .slice A n cb, .int .i64 n, .bool false, .bool false, undef, .tuple #[.agg (tabA (fr : Int) (t : Int) o c), .bool true], .int .u64 fr, .agg #[.int .i64 (cs 0), .int .i64 (cs 1), .int .i64 (cs 2), .int .i64 (cs 3), .int .i64 (cs 4), .int .i64 (cs 5), .int .i64 (cs 6)], .tuple #[.agg (tabA (fr : Int) (t : Int) o c), .bool true], .agg (tabA (fr : Int) (t : Int) o c), .bool true, .tuple #[.agg (tabA (fr : Int) (t : Int) o c), .bool true], .int .u64 fr, .agg #[.int .i64 (cs 0), .int .i64 (cs 1), .int .i64 (cs 2), .int .i64 (cs 3), .int .i64 (cs 4), .int .i64 (cs 5), .int .i64 (cs 6)], .tuple #[.agg (tabA (fr : Int) (t : Int) o c), .bool true], .agg (tabA (fr : Int) (t : Int) o c), .bool true, .slice A n cb, .pointer (some ⟨gb, 0, none⟩), .pointer (some ⟨gb, 0, none⟩), .agg #[.int .u64 fr, .int .i64 t, .int .i64 (o 0), .int .i64 (o 1), .int .i64 (o 2), .int .i64 (o 3), .int .i64 (o 4), .int .i64 (o 5), .int .i64 (o 6), .int .i64 (c 0), .int .i64 (c 1), .int .i64 (c 2), .int .i64 (c 3), .int .i64 (c 4), .int .i64 (c 5), .int .i64 (c 6)], .tuple #[], .agg #[.int .u64 fr, .int .i64 t, .int .i64 (o 0), .int .i64 (o 1), .int .i64 (o 2), .int .i64 (o 3), .int .i64 (o 4), .int .i64 (o 5), .int .i64 (o 6), .int .i64 (c 0), .int .i64 (c 1), .int .i64 (c 2), .int .i64 (c 3), .int .i64 (c 4), .int .i64 (c 5), .int .i64 (c 6)], .slice A7 80 c7, x43, x44, x45, x46, x47, x48, x49, x50, x51, x52, x53, undef, undef, undef, undef, undef, undef, undef, undef, undef, undef, undef, undef, undef, undef, undef, undef, undef, undef, undef, undef], defers := [] }
theorem row_up {w w' : World} {k : Nat} {ob : Obj} (h : w.heap[k]? = some ob) (hb : Below w.heap.size w w') : w'.heap[k]? = some ob := (hb.block k (Array.getElem?_eq_some_iff.1 h).1).trans h
theorem rdS_lit {w : World} {T : TypeId} {L : List Sl} {cs : Array Value} (hcs : cs.toList = L.map Sl.val) (h : ∀ s ∈ L, Rd w w.heap.size s.A s.xs) : RdS (w.alloc (.cells cs T)) (w.alloc (.cells cs T)).heap.size (some ⟨w.heap.size, 0, none⟩) L := by
  refine ⟨.inr ⟨w.heap.size, 0, rfl, by simp, fun j s hj => ?_⟩, fun s hs => ((h s hs).alloc (Nat.le_refl _) _).more (by simp)⟩
  rw [Nat.zero_add, World.cell?_alloc_at (w := w) _ _ _ _ rfl]
  have : cs.toList[j]? = some s.val := by rw [hcs, List.getElem?_map, hj]; rfl
  simpa using this
def Lf8 (p : Nat) (a b : Bool) : Array Bool := #[decide (0 < p), true, decide (1 < p), true, true, true, decide (2 < p), decide (3 < p), decide (3 < p), decide (3 < p), decide (3 < p), a, b, false, false]
def fu8 (p : Nat) (a b : Bool) : Nat := 11 - p - a.toNat - b.toNat - (if p = 4 then 3 else 0)

set_option maxRecDepth 100000 in
set_option maxHeartbeats 8000000 in
theorem TableHeaders_any (fr : Nat) (cs : Nat → Int) (B : Nat) (A : Option Addr) (cb : Nat) (xs : List UInt8) (w : World) (hf : fr < 18446744073709551616) (hR : Rd w w.heap.size A xs) (hc : xs.length ≤ cb) (hn : cb ≤ 9223372036854775807) :
    Calls Try.prog 8 #[.int .u64 (fr : Int), .agg (cntA cs), .slice A xs.length cb] w (AliveOK w) := by
  have r0 := heap_alloc_new w (.cells (cntA cs) 23)
  have b0 := (Below.refl w.heap.size w).alloc (Nat.le_refl _) (.cells (cntA cs) 23)
  have HR0 := Lib.hid (hR.alloc (Nat.le_refl _) (.cells (cntA cs) 23))
  obtain ⟨k0, k1, k2, k3, k4, k5, k6⟩ := seven_cells r0
  have HS := Lib.hid (fun w1 => small_any cs w1)
  have R0 := Lib.hid r0
  have B0 := Lib.hid b0
  have HRW := Lib.hid hR
  clear hR r0 b0
  by_cases hsm : smT cs 6 ∧ xs.length ≤ 100
  case neg =>
    go_enter Try.func8, Try.ntmps8
    go_wp2_with fail
    refine (HS.out _).mono ?_
    rintro e w1 ⟨rfl, hb1⟩
    have B1 := Lib.hid (B0.out.trans (hb1.mono (by simp)))
    clear hb1 k0 k1 k2 k3 k4 k5 k6 R0 B0
    by_cases h1 : smT cs 6
    · have hb := smB_true h1
      have d0 : decide (100 < (xs.length : Int)) = true := decide_eq_true (by by_cases h2 : xs.length ≤ 100; exact absurd ⟨h1, h2⟩ hsm; omega)
      rw [hb]
      clear hb
      go_wp2_with fail
      refine (alive10 _).mono ?_
      rintro e w2 ⟨rfl, hb2⟩
      go_wp2
      go_ret
      exact ⟨rfl, B1.out.trans (hb2.mono B1.out.size)⟩
    · have hb := smB_false h1
      rw [hb]
      clear hb
      go_wp2_with fail
      refine (alive10 _).mono ?_
      rintro e w2 ⟨rfl, hb2⟩
      go_wp2
      go_ret
      exact ⟨rfl, B1.out.trans (hb2.mono B1.out.size)⟩
  obtain ⟨h1, hl⟩ := hsm
  have hok := h1.ok
  have hb := smB_true h1
  have HOK := Lib.hid hok
  clear h1
  have d0 : decide (100 < (xs.length : Int)) = false := decide_eq_false (by omega)
  go_enter Try.func8, Try.ntmps8
  go_wp2_with fail
  refine (HS.out _).mono ?_
  rintro e w1 ⟨rfl, hb1⟩
  rw [hb]
  have B1 := Lib.hid (B0.out.trans (hb1.mono (by simp)))
  have R1 := Lib.hid ((hb1.block w.heap.size (by simp)).trans R0.out)
  clear hb1 k0 k1 k2 k3 k4 k5 k6 R0 B0 HS
  obtain ⟨k0, k1, k2, k3, k4, k5, k6⟩ := seven_cells R1.out
  have hT := fun w1 => For_res (fr : Int) cs w1
  have hT' := fun w1 => refFor_res (fr : Int) cs w1
  rw [tabR_true hok, okB_true hok] at hT hT'
  have hr := tot_range hok
  obtain ⟨t, ht⟩ := Int.eq_ofNat_of_zero_le (show 0 ≤ totT cs by omega)
  have ho := offO_range hok
  have hcn := cntO_range hok
  have hG := full_get hf hok
  unfold fullB tabT at hG
  unfold tabT at hT hT'
  rw [ht] at hT hT' hG hr
  rw [Int.toNat_natCast] at hG
  generalize offO cs = o at *
  generalize cntO cs = c at *
  have HT := Lib.hid hT
  have HT' := Lib.hid hT'
  have HO := Lib.hid ho
  have HC := Lib.hid hcn
  have HG := Lib.hid hG
  have ht1 : 84 ≤ t ∧ t ≤ 1000000 := by omega
  clear hT hT' hok hb ho hcn hG ht hr
  have s1 := store_new (tabA (fr : Int) t o c) rfl (tab_all _ _ _ _) 25
  have s2 := store_new (tabA (fr : Int) t o c) rfl (tab_all _ _ _ _) 28
  have bz : w.heap.size < w1.heap.size := (Array.getElem?_eq_some_iff.1 R1.out).1
  go_wp2_with fail
  refine (HT.out _).mono ?_
  rintro e w2 ⟨rfl, hb2⟩
  have hs2 := hb2.size
  have B2 := Lib.hid ((B1.out.trans (hb2.mono B1.out.size)).alloc (by omega) (.cells (tabA (fr : Int) t o c) 25))
  have R2 := Lib.hid ((Below.heap_alloc w2 (.cells (tabA (fr : Int) t o c) 25) w.heap.size (by omega)).trans ((hb2.block w.heap.size bz).trans R1.out))
  have T2 := Lib.hid (heap_alloc_new w2 (.cells (tabA (fr : Int) t o c) 25))
  clear hb2 k0 k1 k2 k3 k4 k5 k6 R1 B1 HT
  obtain ⟨k0, k1, k2, k3, k4, k5, k6⟩ := seven_cells R2.out
  go_wp2_with fail
  have hl2 : w2.heap.size < (w2.alloc (.cells (tabA (fr : Int) t o c) 25)).heap.size := by simp
  refine (HT'.out _).mono ?_
  rintro e w3 ⟨rfl, hb3⟩
  have hs3 := hb3.size
  have B3 := Lib.hid ((B2.out.trans (hb3.mono B2.out.size)).alloc (by have := B2.out.size; omega) (.cells (tabA (fr : Int) t o c) 28))
  have T3 := Lib.hid ((Below.heap_alloc w3 (.cells (tabA (fr : Int) t o c) 28) w2.heap.size (by omega)).trans ((hb3.block w2.heap.size hl2).trans T2.out))
  have U3 := Lib.hid (heap_alloc_new w3 (.cells (tabA (fr : Int) t o c) 28))
  clear hb3 k0 k1 k2 k3 k4 k5 k6 R2 B2 T2 HT'
  go_upto_region 5 with fail
  clear s1 s2 hs2 hs3 hl2 bz
  generalize w3.alloc (.cells (tabA (fr : Int) t o c) 28) = w4 at *
  generalize w2.heap.size = g7 at *
  generalize w3.heap.size = g9 at *
  have HR4 : Hid (Rd w4 w.heap.size A xs) := HRW.out.below B3.out
  go_wp2_with fail
  refine (New_ok w.heap.size A xs.length cb xs w4 rfl HR4.out B3.out.size (by omega)).mono ?_
  rintro e w5 ⟨gb, rfl, hb5⟩
  have BK5 := Lib.hid hb5
  have P5 := Lib.hid (show Below w4.heap.size w4 w5 by obtain ⟨_, _, _, h, _⟩ := hb5; exact h)
  clear hb5
  obtain ⟨k0, k1, k2, k3, k4, k5, k6, k7, k8, k9, k10, k11, k12, k13, k14, k15⟩ := tab_cells ((P5.out.block g7 (Array.getElem?_eq_some_iff.1 T3.out).1).trans T3.out)
  go_wp2_with fail
  obtain ⟨A5, c5, hbl5, hbe5, hg5, hf5⟩ := BK5.out
  refine (Put_any gb c5 A5 xs t fr o c w5 hbl5 (by omega) (by omega) hf HO.out HC.out).mono ?_
  rintro e w6 ⟨rfl, hgr⟩
  have BK6 := Lib.hid (BOk.grew hbe5 hg5 hf5 hgr)
  clear hbl5 hbe5 hg5 hf5 hgr BK5 P5 k0 k1 k2 k3 k4 k5 k6 k7 k8 k9 k10 k11 k12 k13 k14 k15
  have P6 := Lib.hid (show Below w4.heap.size w4 w6 by obtain ⟨_, _, _, h, _⟩ := BK6.out; exact h)
  obtain ⟨k0, k1, k2, k3, k4, k5, k6, k7, k8, k9, k10, k11, k12, k13, k14, k15⟩ := tab_cells ((P6.out.block g9 (Array.getElem?_eq_some_iff.1 U3.out).1).trans U3.out)
  go_wp2_with fail
  refine (Header_any t fr o c w6 (by omega) hf HO.out HC.out).mono ?_
  rintro e w7 ⟨A7, c7, rfl, ho7, hf7, hb7⟩
  rw [hdrB_len]
  have BK7 := Lib.hid (BK6.out.next hb7)
  have P7 := Lib.hid (P6.out.trans (hb7.mono P6.out.size))
  have O7 := Lib.hid ho7
  have F7 := Lib.hid (fun k hk => Nat.le_trans P6.out.size (hf7 k hk))
  clear ho7 hf7 hb7 BK6 P6 k0 k1 k2 k3 k4 k5 k6 k7 k8 k9 k10 k11 k12 k13 k14 k15
  go_upto_region 8 with fail
  have bk := BK7.out.drewN 1
  have p7 := P7.out.trans ((Below.drew' (Below.refl _ w7)).mono P7.out.size)
  have o7 : Own w7.drew A7 c7 (hdrB t fr o c) := O7.out
  have t7 := (p7.block g7 (Array.getElem?_eq_some_iff.1 T3.out).1).trans T3.out
  have u7 := (p7.block g9 (Array.getElem?_eq_some_iff.1 U3.out).1).trans U3.out
  have h8 : H8 w7.drew none none none w7.drew := ⟨Below.refl _ _, fun _ _ _ e => (by cases e), fun _ e => (by cases e), fun _ e => (by cases e)⟩
  refine wp_region_Z (fun u => u.heap[g9]? = some (.cells (tabA (fr : Int) (t : Int) o c) 28 (0, 0))) 100 (by kernel_rfl) ?_
  rw [show w7.drewN 1 = w7.drew from rfl] at bk
  generalize w7.drew = W at *
  have BK := Lib.hid bk
  have P8 := Lib.hid p7
  have O8 := Lib.hid o7
  have F8 := Lib.hid (show ∀ k, blk A7 = some k → k < W.heap.size from o7.lt)
  have T8 := Lib.hid t7
  have U8 := Lib.hid u7
  have hS : ∀ u : World, Below W.heap.size W u → u.heap[g9]? = some (.cells (tabA (fr : Int) (t : Int) o c) 28 (0, 0)) := fun u hb => (hb.block g9 (Array.getElem?_eq_some_iff.1 U8.out).1).trans U8.out
  have HS8 := Lib.hid hS
  have ew : IntKind.i64.wrap ((t : Int) - 80) = ((t - 80 : Nat) : Int) := by rw [IntWalk.i64_in _ (by omega)]; omega
  have LH : Hid ((hdrB t fr o c).length = 80) := hdrB_len _ _ _ _
  have HGET : Hid (∀ (A' : Option Addr) (c' : Nat) (w' : World), Own w' A' c' (hdrB t fr o c ++ List.replicate (t - 80) 0) → Calls Try.prog 19 #[.slice A' t c'] w' fun e w'' => e = .returned (.tuple #[.agg (tabA (fr : Int) (t : Int) o c), .agg (fltA 0 0)]) ∧ Below w'.heap.size w' w'') := by
    intro A' c' w' ho
    have h1 := Get_any w'.heap.size A' c' (hdrB t fr o c ++ List.replicate (t - 80) 0) w' ho.rd (Nat.le_refl _) ho.le.1 ho.le.2
    have hl : (hdrB t fr o c ++ List.replicate (t - 80) 0).length = t := by rw [List.length_append, LH.out, List.length_replicate]; omega
    rw [hl] at h1
    unfold GetOK at h1
    rw [HG.out.1, HG.out.2] at h1
    exact h1
  clear HG
  generalize hdrB t fr o c = H at *
  clear bk p7 o7 t7 u7 hS BK7 P7 O7 F7
  show anyZ _ _ _ _ _ _ 15 _ _ W
  refine anyZ_take 1 (.slice A7 80 c7) rfl (by kernel_rfl) (by kernel_rfl) (by kernel_rfl) (by kernel_rfl) (fun _ _ _ h => h) (by rfl) U8.out (fun w' _ => by go_simp; try rfl) ?_
  refine anyZ_take 3 (.pointer (some ⟨g9, 1, none⟩)) rfl (by kernel_rfl) (by kernel_rfl) (by kernel_rfl) (by kernel_rfl) (fun _ _ _ h => h) (by rfl) U8.out (fun w' _ => by go_simp; try rfl) ?_
  refine anyZ_take 4 (.int .i64 (t : Int)) rfl (by kernel_rfl) (by kernel_rfl) (by kernel_rfl) (by kernel_rfl) (fun _ _ _ h => h) (by rfl) U8.out (fun w' hw' => by have k0 := tab_one hw'; go_simp; try rfl) ?_
  refine anyZ_take 5 (.int .i64 ((t - 80 : Nat) : Int)) rfl (by kernel_rfl) (by kernel_rfl) (by kernel_rfl) (by kernel_rfl) (fun _ _ _ h => h) (by rfl) U8.out (fun w' _ => by go_simp; try rfl) ?_
  show anyZ _ _ _ _ _ _ (fu8 0 false false) (Lf8 0 false false) (actH fr t cs o c A xs.length cb w.heap.size g7 g9 gb A7 c7 (.slice A7 80 c7) (.pointer (some ⟨g9, 1, none⟩)) (.int .i64 (t : Int)) (.int .i64 ((t - 80 : Nat) : Int)) undef undef undef undef undef undef undef undef undef) W
  refine float8 (I8 (actH fr t cs o c A xs.length cb w.heap.size g7 g9 gb A7 c7 (.slice A7 80 c7) (.pointer (some ⟨g9, 1, none⟩)) (.int .i64 (t : Int)) (.int .i64 ((t - 80 : Nat) : Int))) W H (List.replicate (t - 80) 0) t (tabA (fr : Int) t o c)) Lf8 fu8 ?_ 6 0 false false (by decide) rfl _ _ ⟨0, 0, rfl, h8⟩
  intro p a b act w' hp hI ih
  have hp5 : p = 0 ∨ p = 1 ∨ p = 2 ∨ p = 3 ∨ p = 4 := by omega
  rcases hp5 with rfl | rfl | rfl | rfl | rfl
  · obtain ⟨g1, g2, rfl, hH⟩ := hI
    cases a <;> cases b
    · show anyZ _ _ _ _ _ _ 11 _ _ _
      refine anyZ_three 0 11 12 rfl rfl rfl (by kernel_rfl) (fun K hK => ?_) (fun K hK => ?_) (fun K hK => ?_)
      · rw [if_pos (by rfl)]
        go_simp
        refine hK _ _ (fun _ => HS8.out _ hH.lay.bel) ?_
        exact ih 1 false false (by decide) rfl _ _ ⟨g1, g2, _, _, rfl, hH.lay⟩
      · rw [if_pos (by rfl)]
        go_simp
        refine hK _ _ (fun _ => HS8.out _ hH.var1.bel) ?_
        exact ih 0 true false (by decide) rfl _ _ ⟨w'.heap.size, g2, rfl, hH.var1⟩
      · rw [if_pos (by rfl)]
        go_simp
        refine hK _ _ (fun _ => HS8.out _ hH.var2.bel) ?_
        exact ih 0 false true (by decide) rfl _ _ ⟨g1, w'.heap.size, rfl, hH.var2⟩
    · show anyZ _ _ _ _ _ _ 10 _ _ _
      refine anyZ_two 0 11 rfl rfl (by kernel_rfl) (fun K hK => ?_) (fun K hK => ?_)
      · rw [if_pos (by rfl)]
        go_simp
        refine hK _ _ (fun _ => HS8.out _ hH.lay.bel) ?_
        exact ih 1 false true (by decide) rfl _ _ ⟨g1, g2, _, _, rfl, hH.lay⟩
      · rw [if_pos (by rfl)]
        go_simp
        refine hK _ _ (fun _ => HS8.out _ hH.var1.bel) ?_
        exact ih 0 true true (by decide) rfl _ _ ⟨w'.heap.size, g2, rfl, hH.var1⟩
    · show anyZ _ _ _ _ _ _ 10 _ _ _
      refine anyZ_two 0 12 rfl rfl (by kernel_rfl) (fun K hK => ?_) (fun K hK => ?_)
      · rw [if_pos (by rfl)]
        go_simp
        refine hK _ _ (fun _ => HS8.out _ hH.lay.bel) ?_
        exact ih 1 true false (by decide) rfl _ _ ⟨g1, g2, _, _, rfl, hH.lay⟩
      · rw [if_pos (by rfl)]
        go_simp
        refine hK _ _ (fun _ => HS8.out _ hH.var2.bel) ?_
        exact ih 0 true true (by decide) rfl _ _ ⟨g1, w'.heap.size, rfl, hH.var2⟩
    · show anyZ _ _ _ _ _ _ 9 _ _ _
      refine anyZ_next 0 rfl (by kernel_rfl) (fun K hK => ?_)
      rw [if_pos (by rfl)]
      go_simp
      refine hK _ _ (fun _ => HS8.out _ hH.lay.bel) ?_
      exact ih 1 true true (by decide) rfl _ _ ⟨g1, g2, _, _, rfl, hH.lay⟩
  · obtain ⟨g1, g2, A', c', rfl, hH⟩ := hI
    cases a <;> cases b
    · show anyZ _ _ _ _ _ _ 10 _ _ _
      refine anyZ_three 2 11 12 rfl rfl rfl (by kernel_rfl) (fun K hK => ?_) (fun K hK => ?_) (fun K hK => ?_)
      · rw [if_pos (by rfl)]
        refine operWp_app (.tmp 44) (.tmp 45) 44 rfl Try.underlying44 infoU8 A' 0 c' [] rfl rfl (hH.own _ _ _ rfl).1 W.heap.size A7 80 c7 H LH.out rfl (O8.out.rd.below hH.bel) (by rw [LH.out]; decide) (fun A2 c2 w2 hown hg hat => ?_)
        have h2 := hH.grow hown hg hat
        refine hK _ _ (fun _ => HS8.out _ h2.bel) ?_
        exact ih 2 false false (by decide) rfl _ _ ⟨g1, g2, _, _, _, rfl, h2⟩
      · rw [if_pos (by rfl)]
        go_simp
        refine hK _ _ (fun _ => HS8.out _ hH.var1.bel) ?_
        exact ih 1 true false (by decide) rfl _ _ ⟨w'.heap.size, g2, _, _, rfl, hH.var1⟩
      · rw [if_pos (by rfl)]
        go_simp
        refine hK _ _ (fun _ => HS8.out _ hH.var2.bel) ?_
        exact ih 1 false true (by decide) rfl _ _ ⟨g1, w'.heap.size, _, _, rfl, hH.var2⟩
    · show anyZ _ _ _ _ _ _ 9 _ _ _
      refine anyZ_two 2 11 rfl rfl (by kernel_rfl) (fun K hK => ?_) (fun K hK => ?_)
      · rw [if_pos (by rfl)]
        refine operWp_app (.tmp 44) (.tmp 45) 44 rfl Try.underlying44 infoU8 A' 0 c' [] rfl rfl (hH.own _ _ _ rfl).1 W.heap.size A7 80 c7 H LH.out rfl (O8.out.rd.below hH.bel) (by rw [LH.out]; decide) (fun A2 c2 w2 hown hg hat => ?_)
        have h2 := hH.grow hown hg hat
        refine hK _ _ (fun _ => HS8.out _ h2.bel) ?_
        exact ih 2 false true (by decide) rfl _ _ ⟨g1, g2, _, _, _, rfl, h2⟩
      · rw [if_pos (by rfl)]
        go_simp
        refine hK _ _ (fun _ => HS8.out _ hH.var1.bel) ?_
        exact ih 1 true true (by decide) rfl _ _ ⟨w'.heap.size, g2, _, _, rfl, hH.var1⟩
    · show anyZ _ _ _ _ _ _ 9 _ _ _
      refine anyZ_two 2 12 rfl rfl (by kernel_rfl) (fun K hK => ?_) (fun K hK => ?_)
      · rw [if_pos (by rfl)]
        refine operWp_app (.tmp 44) (.tmp 45) 44 rfl Try.underlying44 infoU8 A' 0 c' [] rfl rfl (hH.own _ _ _ rfl).1 W.heap.size A7 80 c7 H LH.out rfl (O8.out.rd.below hH.bel) (by rw [LH.out]; decide) (fun A2 c2 w2 hown hg hat => ?_)
        have h2 := hH.grow hown hg hat
        refine hK _ _ (fun _ => HS8.out _ h2.bel) ?_
        exact ih 2 true false (by decide) rfl _ _ ⟨g1, g2, _, _, _, rfl, h2⟩
      · rw [if_pos (by rfl)]
        go_simp
        refine hK _ _ (fun _ => HS8.out _ hH.var2.bel) ?_
        exact ih 1 true true (by decide) rfl _ _ ⟨g1, w'.heap.size, _, _, rfl, hH.var2⟩
    · show anyZ _ _ _ _ _ _ 8 _ _ _
      refine anyZ_next 2 rfl (by kernel_rfl) (fun K hK => ?_)
      rw [if_pos (by rfl)]
      refine operWp_app (.tmp 44) (.tmp 45) 44 rfl Try.underlying44 infoU8 A' 0 c' [] rfl rfl (hH.own _ _ _ rfl).1 W.heap.size A7 80 c7 H LH.out rfl (O8.out.rd.below hH.bel) (by rw [LH.out]; decide) (fun A2 c2 w2 hown hg hat => ?_)
      have h2 := hH.grow hown hg hat
      refine hK _ _ (fun _ => HS8.out _ h2.bel) ?_
      exact ih 2 true true (by decide) rfl _ _ ⟨g1, g2, _, _, _, rfl, h2⟩
  · obtain ⟨g1, g2, A', c', x, rfl, hH⟩ := hI
    cases a <;> cases b
    · show anyZ _ _ _ _ _ _ 9 _ _ _
      refine anyZ_three 6 11 12 rfl rfl rfl (by kernel_rfl) (fun K hK => ?_) (fun K hK => ?_) (fun K hK => ?_)
      · rw [if_pos (by rfl)]
        refine operWp_app_zeros (.tmp 46) (.tmp 49) 44 3 .i64 rfl Try.underlying44 Try.underlying3 infoU8 A' 80 c' H LH.out rfl (hH.own _ _ _ rfl).1 .i64 (t - 80) rfl (by rw [LH.out]; omega) (fun A2 c2 w2 hown hg hat => ?_)
        have h2 := hH.grow hown hg hat
        rw [show 80 + (t - 80) = t from by omega]
        refine hK _ _ (fun _ => HS8.out _ h2.bel) ?_
        exact ih 3 false false (by decide) rfl _ _ ⟨g1, g2, _, _, _, _, rfl, h2⟩
      · rw [if_pos (by rfl)]
        go_simp
        refine hK _ _ (fun _ => HS8.out _ hH.var1.bel) ?_
        exact ih 2 true false (by decide) rfl _ _ ⟨w'.heap.size, g2, _, _, _, rfl, hH.var1⟩
      · rw [if_pos (by rfl)]
        go_simp
        refine hK _ _ (fun _ => HS8.out _ hH.var2.bel) ?_
        exact ih 2 false true (by decide) rfl _ _ ⟨g1, w'.heap.size, _, _, _, rfl, hH.var2⟩
    · show anyZ _ _ _ _ _ _ 8 _ _ _
      refine anyZ_two 6 11 rfl rfl (by kernel_rfl) (fun K hK => ?_) (fun K hK => ?_)
      · rw [if_pos (by rfl)]
        refine operWp_app_zeros (.tmp 46) (.tmp 49) 44 3 .i64 rfl Try.underlying44 Try.underlying3 infoU8 A' 80 c' H LH.out rfl (hH.own _ _ _ rfl).1 .i64 (t - 80) rfl (by rw [LH.out]; omega) (fun A2 c2 w2 hown hg hat => ?_)
        have h2 := hH.grow hown hg hat
        rw [show 80 + (t - 80) = t from by omega]
        refine hK _ _ (fun _ => HS8.out _ h2.bel) ?_
        exact ih 3 false true (by decide) rfl _ _ ⟨g1, g2, _, _, _, _, rfl, h2⟩
      · rw [if_pos (by rfl)]
        go_simp
        refine hK _ _ (fun _ => HS8.out _ hH.var1.bel) ?_
        exact ih 2 true true (by decide) rfl _ _ ⟨w'.heap.size, g2, _, _, _, rfl, hH.var1⟩
    · show anyZ _ _ _ _ _ _ 8 _ _ _
      refine anyZ_two 6 12 rfl rfl (by kernel_rfl) (fun K hK => ?_) (fun K hK => ?_)
      · rw [if_pos (by rfl)]
        refine operWp_app_zeros (.tmp 46) (.tmp 49) 44 3 .i64 rfl Try.underlying44 Try.underlying3 infoU8 A' 80 c' H LH.out rfl (hH.own _ _ _ rfl).1 .i64 (t - 80) rfl (by rw [LH.out]; omega) (fun A2 c2 w2 hown hg hat => ?_)
        have h2 := hH.grow hown hg hat
        rw [show 80 + (t - 80) = t from by omega]
        refine hK _ _ (fun _ => HS8.out _ h2.bel) ?_
        exact ih 3 true false (by decide) rfl _ _ ⟨g1, g2, _, _, _, _, rfl, h2⟩
      · rw [if_pos (by rfl)]
        go_simp
        refine hK _ _ (fun _ => HS8.out _ hH.var2.bel) ?_
        exact ih 2 true true (by decide) rfl _ _ ⟨g1, w'.heap.size, _, _, _, rfl, hH.var2⟩
    · show anyZ _ _ _ _ _ _ 7 _ _ _
      refine anyZ_next 6 rfl (by kernel_rfl) (fun K hK => ?_)
      rw [if_pos (by rfl)]
      refine operWp_app_zeros (.tmp 46) (.tmp 49) 44 3 .i64 rfl Try.underlying44 Try.underlying3 infoU8 A' 80 c' H LH.out rfl (hH.own _ _ _ rfl).1 .i64 (t - 80) rfl (by rw [LH.out]; omega) (fun A2 c2 w2 hown hg hat => ?_)
      have h2 := hH.grow hown hg hat
      rw [show 80 + (t - 80) = t from by omega]
      refine hK _ _ (fun _ => HS8.out _ h2.bel) ?_
      exact ih 3 true true (by decide) rfl _ _ ⟨g1, g2, _, _, _, _, rfl, h2⟩
  · obtain ⟨g1, g2, A', c', x, y, rfl, hH⟩ := hI
    cases a <;> cases b
    · show anyZ _ _ _ _ _ _ 8 _ _ _
      refine anyZ_three 7 11 12 rfl rfl rfl (by kernel_rfl) (fun K hK => ?_) (fun K hK => ?_) (fun K hK => ?_)
      · rw [if_pos (by rfl)]
        go_simp
        show Calls _ _ #[.slice A' t c'] _ _
        refine (HGET.out A' c' w' (hH.own _ _ _ rfl).1).mono ?_
        rintro e w2 ⟨rfl, hb⟩
        have h2 := hH.call hb
        refine hK _ _ (fun _ => HS8.out _ h2.bel) ?_
        refine anyZ_take 8 (.tuple #[.agg (tabA (fr : Int) (t : Int) o c), .agg (fltA 0 0)]) rfl (by kernel_rfl) (by kernel_rfl) (by kernel_rfl) (by kernel_rfl) (fun _ _ _ h => h) (by rfl) (HS8.out _ h2.bel) (fun w' _ => by rfl) ?_
        refine anyZ_take 9 (.agg (tabA (fr : Int) (t : Int) o c)) rfl (by kernel_rfl) (by kernel_rfl) (by kernel_rfl) (by kernel_rfl) (fun _ _ _ h => h) (by rfl) (HS8.out _ h2.bel) (fun w' _ => by rfl) ?_
        refine anyZ_take 10 (.agg (fltA 0 0)) rfl (by kernel_rfl) (by kernel_rfl) (by kernel_rfl) (by kernel_rfl) (fun _ _ _ h => h) (by rfl) (HS8.out _ h2.bel) (fun w' _ => by rfl) ?_
        exact ih 4 false false (by decide) rfl _ _ ⟨g1, g2, _, _, _, rfl, h2⟩
      · rw [if_pos (by rfl)]
        go_simp
        refine hK _ _ (fun _ => HS8.out _ hH.var1.bel) ?_
        exact ih 3 true false (by decide) rfl _ _ ⟨w'.heap.size, g2, _, _, _, _, rfl, hH.var1⟩
      · rw [if_pos (by rfl)]
        go_simp
        refine hK _ _ (fun _ => HS8.out _ hH.var2.bel) ?_
        exact ih 3 false true (by decide) rfl _ _ ⟨g1, w'.heap.size, _, _, _, _, rfl, hH.var2⟩
    · show anyZ _ _ _ _ _ _ 7 _ _ _
      refine anyZ_two 7 11 rfl rfl (by kernel_rfl) (fun K hK => ?_) (fun K hK => ?_)
      · rw [if_pos (by rfl)]
        go_simp
        show Calls _ _ #[.slice A' t c'] _ _
        refine (HGET.out A' c' w' (hH.own _ _ _ rfl).1).mono ?_
        rintro e w2 ⟨rfl, hb⟩
        have h2 := hH.call hb
        refine hK _ _ (fun _ => HS8.out _ h2.bel) ?_
        refine anyZ_take 8 (.tuple #[.agg (tabA (fr : Int) (t : Int) o c), .agg (fltA 0 0)]) rfl (by kernel_rfl) (by kernel_rfl) (by kernel_rfl) (by kernel_rfl) (fun _ _ _ h => h) (by rfl) (HS8.out _ h2.bel) (fun w' _ => by rfl) ?_
        refine anyZ_take 9 (.agg (tabA (fr : Int) (t : Int) o c)) rfl (by kernel_rfl) (by kernel_rfl) (by kernel_rfl) (by kernel_rfl) (fun _ _ _ h => h) (by rfl) (HS8.out _ h2.bel) (fun w' _ => by rfl) ?_
        refine anyZ_take 10 (.agg (fltA 0 0)) rfl (by kernel_rfl) (by kernel_rfl) (by kernel_rfl) (by kernel_rfl) (fun _ _ _ h => h) (by rfl) (HS8.out _ h2.bel) (fun w' _ => by rfl) ?_
        exact ih 4 false true (by decide) rfl _ _ ⟨g1, g2, _, _, _, rfl, h2⟩
      · rw [if_pos (by rfl)]
        go_simp
        refine hK _ _ (fun _ => HS8.out _ hH.var1.bel) ?_
        exact ih 3 true true (by decide) rfl _ _ ⟨w'.heap.size, g2, _, _, _, _, rfl, hH.var1⟩
    · show anyZ _ _ _ _ _ _ 7 _ _ _
      refine anyZ_two 7 12 rfl rfl (by kernel_rfl) (fun K hK => ?_) (fun K hK => ?_)
      · rw [if_pos (by rfl)]
        go_simp
        show Calls _ _ #[.slice A' t c'] _ _
        refine (HGET.out A' c' w' (hH.own _ _ _ rfl).1).mono ?_
        rintro e w2 ⟨rfl, hb⟩
        have h2 := hH.call hb
        refine hK _ _ (fun _ => HS8.out _ h2.bel) ?_
        refine anyZ_take 8 (.tuple #[.agg (tabA (fr : Int) (t : Int) o c), .agg (fltA 0 0)]) rfl (by kernel_rfl) (by kernel_rfl) (by kernel_rfl) (by kernel_rfl) (fun _ _ _ h => h) (by rfl) (HS8.out _ h2.bel) (fun w' _ => by rfl) ?_
        refine anyZ_take 9 (.agg (tabA (fr : Int) (t : Int) o c)) rfl (by kernel_rfl) (by kernel_rfl) (by kernel_rfl) (by kernel_rfl) (fun _ _ _ h => h) (by rfl) (HS8.out _ h2.bel) (fun w' _ => by rfl) ?_
        refine anyZ_take 10 (.agg (fltA 0 0)) rfl (by kernel_rfl) (by kernel_rfl) (by kernel_rfl) (by kernel_rfl) (fun _ _ _ h => h) (by rfl) (HS8.out _ h2.bel) (fun w' _ => by rfl) ?_
        exact ih 4 true false (by decide) rfl _ _ ⟨g1, g2, _, _, _, rfl, h2⟩
      · rw [if_pos (by rfl)]
        go_simp
        refine hK _ _ (fun _ => HS8.out _ hH.var2.bel) ?_
        exact ih 3 true true (by decide) rfl _ _ ⟨g1, w'.heap.size, _, _, _, _, rfl, hH.var2⟩
    · show anyZ _ _ _ _ _ _ 6 _ _ _
      refine anyZ_next 7 rfl (by kernel_rfl) (fun K hK => ?_)
      rw [if_pos (by rfl)]
      go_simp
      show Calls _ _ #[.slice A' t c'] _ _
      refine (HGET.out A' c' w' (hH.own _ _ _ rfl).1).mono ?_
      rintro e w2 ⟨rfl, hb⟩
      have h2 := hH.call hb
      refine hK _ _ (fun _ => HS8.out _ h2.bel) ?_
      refine anyZ_take 8 (.tuple #[.agg (tabA (fr : Int) (t : Int) o c), .agg (fltA 0 0)]) rfl (by kernel_rfl) (by kernel_rfl) (by kernel_rfl) (by kernel_rfl) (fun _ _ _ h => h) (by rfl) (HS8.out _ h2.bel) (fun w' _ => by rfl) ?_
      refine anyZ_take 9 (.agg (tabA (fr : Int) (t : Int) o c)) rfl (by kernel_rfl) (by kernel_rfl) (by kernel_rfl) (by kernel_rfl) (fun _ _ _ h => h) (by rfl) (HS8.out _ h2.bel) (fun w' _ => by rfl) ?_
      refine anyZ_take 10 (.agg (fltA 0 0)) rfl (by kernel_rfl) (by kernel_rfl) (by kernel_rfl) (by kernel_rfl) (fun _ _ _ h => h) (by rfl) (HS8.out _ h2.bel) (fun w' _ => by rfl) ?_
      exact ih 4 true true (by decide) rfl _ _ ⟨g1, g2, _, _, _, rfl, h2⟩
  · obtain ⟨g1, g2, x, y, u, rfl, hH⟩ := hI
    cases a <;> cases b
    · show anyZ _ _ _ _ _ _ 4 _ _ _
      refine anyZ_two 11 12 rfl rfl (by kernel_rfl) (fun K hK => ?_) (fun K hK => ?_)
      · rw [if_pos (by rfl)]
        go_simp
        refine hK _ _ (fun _ => HS8.out _ hH.var1.bel) ?_
        exact ih 4 true false (by decide) rfl _ _ ⟨w'.heap.size, g2, _, _, _, rfl, hH.var1⟩
      · rw [if_pos (by rfl)]
        go_simp
        refine hK _ _ (fun _ => HS8.out _ hH.var2.bel) ?_
        exact ih 4 false true (by decide) rfl _ _ ⟨g1, w'.heap.size, _, _, _, rfl, hH.var2⟩
    · show anyZ _ _ _ _ _ _ 3 _ _ _
      refine anyZ_next 11 rfl (by kernel_rfl) (fun K hK => ?_)
      rw [if_pos (by rfl)]
      go_simp
      refine hK _ _ (fun _ => HS8.out _ hH.var1.bel) ?_
      exact ih 4 true true (by decide) rfl _ _ ⟨w'.heap.size, g2, _, _, _, rfl, hH.var1⟩
    · show anyZ _ _ _ _ _ _ 3 _ _ _
      refine anyZ_next 12 rfl (by kernel_rfl) (fun K hK => ?_)
      rw [if_pos (by rfl)]
      go_simp
      refine hK _ _ (fun _ => HS8.out _ hH.var2.bel) ?_
      exact ih 4 true true (by decide) rfl _ _ ⟨g1, w'.heap.size, _, _, _, rfl, hH.var2⟩
    · show anyZ _ _ _ _ _ _ 2 _ _ _
      obtain ⟨l1, r1⟩ := hH.r1 g1 rfl
      obtain ⟨l2, r2⟩ := hH.r2 g2 rfl
      have hne : g2 ≠ g1 := by rintro rfl; rw [r1] at r2; injection r2 with r2; injection r2 with _ r3; exact absurd r3 (by decide)
      have hlt9 := (Array.getElem?_eq_some_iff.1 U8.out).1
      refine anyZ_next 13 rfl (by kernel_rfl) (fun K hK => ?_)
      rw [if_pos (by rfl)]
      refine operWp_store_row 25 (.tmp 13) (.tmp 52) rfl g1 (tabA (fr : Int) (t : Int) o c) rfl rfl 25 tabZ r1 infoT rfl (tab_all _ _ _ _) ?_
      have b1 := setRow_below hH.bel l1 (tabA (fr : Int) (t : Int) o c)
      have q2 := (setRow_other w' g1 g2 (tabA (fr : Int) (t : Int) o c) hne).trans r2
      have q1 := setRow_heap w' g1 tabZ (tabA (fr : Int) (t : Int) o c) 25 (0, 0) r1
      refine hK _ _ (fun _ => HS8.out _ b1) ?_
      clear hK K
      refine anyZ_next 14 rfl (by kernel_rfl) (fun K hK => ?_)
      rw [if_pos (by rfl)]
      refine operWp_store_row 47 (.tmp 14) (.tmp 53) rfl g2 (fltA 0 0) rfl rfl 47 (fltA 0 0) q2 infoF rfl (flt_all _ _) ?_
      have b2 := setRow_below b1 l2 (fltA 0 0)
      have q3 := (setRow_other (w'.setRow g1 (tabA (fr : Int) (t : Int) o c)) g2 g1 (fltA 0 0) (Ne.symm hne)).trans q1
      have q4 := setRow_heap (w'.setRow g1 (tabA (fr : Int) (t : Int) o c)) g2 (fltA 0 0) (fltA 0 0) 47 (0, 0) q2
      refine hK _ _ (fun _ => HS8.out _ b2) ?_
      clear hK K
      refine anyZ_done (by kernel_rfl) ?_ _
      generalize (w'.setRow g1 (tabA (fr : Int) (t : Int) o c)).setRow g2 (fltA 0 0) = w8 at *
      show Exit.then _ _ Exit.normal (actH fr t cs o c A xs.length cb w.heap.size g7 g9 gb A7 c7 (.slice A7 80 c7) (.pointer (some ⟨g9, 1, none⟩)) (.int .i64 (t : Int)) (.int .i64 ((t - 80 : Nat) : Int)) (.pointer (some ⟨g1, 0, none⟩)) (.pointer (some ⟨g2, 0, none⟩)) (.tuple #[.agg (tabA (fr : Int) (t : Int) o c), .agg (fltA 0 0)]) x y u (.tuple #[.agg (tabA (fr : Int) (t : Int) o c), .agg (fltA 0 0)]) (.agg (tabA (fr : Int) (t : Int) o c)) (.agg (fltA 0 0))) w8
      unfold actH
      have K8 := Lib.hid (BK.out.next b2)
      have B8 := Lib.hid (B3.out.trans ((P8.out.trans (b2.mono P8.out.size)).mono B3.out.size))
      have T9 := (b2.block g7 (Array.getElem?_eq_some_iff.1 T8.out).1).trans T8.out
      have OH8 := Lib.hid (O8.out.keep (S := fun _ => False) (Chg.of_below b2) (fun _ _ h => h))
      have Q1 := Lib.hid q3
      have Q2 := Lib.hid q4
      have Q7 := Lib.hid T9
      clear T9 q1 q2 q3 q4 b1 b2 r1 r2 hH ih U8 T8 O8 BK HS8 HGET l1 l2 hne hlt9 F8 h8
      go_wp2_with fail
      refine (alive10 w8).mono ?_
      rintro e w9 ⟨rfl, hb9⟩
      have K9 := Lib.hid (K8.out.next hb9)
      have B9 := Lib.hid (B8.out.trans (hb9.mono B8.out.size))
      have OH9 := Lib.hid (OH8.out.keep (S := fun _ => False) (Chg.of_below hb9) (fun _ _ h => h))
      have S1 := Lib.hid (row_up Q1.out hb9)
      have S2 := Lib.hid (row_up Q2.out hb9)
      have S7 := Lib.hid (row_up Q7.out hb9)
      clear hb9 K8 B8 OH8 Q1 Q2 Q7
      have LXH : Hid ((xs ++ H).length ≤ 200) := by show _ ≤ _; rw [List.length_append, LH.out]; omega
      go_wp2_with fail
      obtain ⟨Ab, cb2, hbl, _⟩ := K9.out
      refine (Bytes_any gb cb2 Ab (xs ++ H) w9 hbl (by have := LXH.out; omega)).mono ?_
      rintro e w10 ⟨A10, c10, rfl, ho10, _, hb10⟩
      clear hbl
      have O10 := Lib.hid ho10
      have B10 := Lib.hid (B9.out.trans (hb10.mono B9.out.size))
      have OH10 := Lib.hid (OH9.out.keep (S := fun _ => False) (Chg.of_below hb10) (fun _ _ h => h))
      have S1' := Lib.hid (row_up S1.out hb10)
      have S2' := Lib.hid (row_up S2.out hb10)
      have S7' := Lib.hid (row_up S7.out hb10)
      have X10 := Lib.hid ((HRW.out.below B10.out).more B10.out.size)
      obtain ⟨nb, hnb⟩ : ∃ nb, nb = (xs ++ H).length := ⟨_, rfl⟩
      have HNB := Lib.hid hnb
      rw [← hnb]
      have RL := Lib.hid (rdS_lit (w := w10) (T := 44) (L := [⟨A, cb, xs⟩, ⟨A7, c7, H⟩]) (cs := #[.slice A xs.length cb, .slice A7 80 c7]) (by simp [Sl.val, LH.out]) (fun s hs => by
        rcases List.mem_cons.1 hs with rfl | hs
        · exact X10.out
        · obtain rfl := List.mem_singleton.1 hs
          exact OH10.out.rd))
      have b11 := (Below.refl w10.heap.size w10).alloc (Nat.le_refl _) (.cells #[.slice A xs.length cb, .slice A7 80 c7] 44)
      have B11 := Lib.hid b11
      have hca : catS [⟨A, cb, xs⟩, ⟨A7, c7, H⟩] = xs ++ H := by simp [catS]
      have HCA := Lib.hid hca
      clear hb10 ho10 hnb b11 hca K9 S1 S2 S7 B9 OH9 X10
      go_wp2_with fail
      refine (Concat_any (some ⟨w10.heap.size, 0, none⟩) 2 2 [⟨A, cb, xs⟩, ⟨A7, c7, H⟩] _ rfl RL.out (by decide) (by rw [HCA.out]; have := LXH.out; omega)).mono ?_
      rintro e w12 ⟨A12, c12, rfl, ho12, _, hb12⟩
      rw [HCA.out] at ho12 ⊢
      rw [← HNB.out]
      have hbb := B11.out.trans (hb12.mono (by simp))
      have O12 := Lib.hid ho12
      have O10' := Lib.hid (O10.out.keep (S := fun _ => False) (Chg.of_below hbb) (fun _ _ h => h))
      have B12 := Lib.hid (B10.out.trans (hbb.mono B10.out.size))
      have V1 := row_up S1'.out hbb
      have V2 := row_up S2'.out hbb
      have V7 := row_up S7'.out hbb
      clear ho12 hb12 hbb O10 B10 OH10 S1' S2' S7' RL B11 HCA
      go_wp2_with fail
      have hnb2 : nb ≤ 200 := by rw [HNB.out]; exact LXH.out
      refine (Equal_any w12.heap.size A10 c10 (xs ++ H) w12.heap.size A12 c12 (xs ++ H) nb nb w12 HNB.out.symm HNB.out.symm O10'.out.rd O12.out.rd (by omega) (by omega)).mono ?_
      rintro e w13 ⟨rfl, d, rfl⟩
      obtain ⟨z0, z1, z2, z3, z4, z5, z6, z7, z8, z9, z10, z11, z12, z13, z14, z15⟩ := tab_cells (w := w12.drewN d) V1
      obtain ⟨v0, v1, v2, v3, v4, v5, v6, v7, v8, v9, v10, v11, v12, v13, v14, v15⟩ := tab_cells (w := w12.drewN d) V7
      obtain ⟨f0, f1, f2⟩ := three_cells (w := w12.drewN d) V2
      have BE := Lib.hid (show Below w.heap.size w (w12.drewN d) from ⟨B12.out.os, B12.out.tape, B12.out.output, B12.out.size, B12.out.block⟩)
      clear V1 V2 V7 B12 O12 O10' HNB LXH
      generalize w12.drewN d = w14 at *
      have e1 := eq7_lit (o 0) (o 1) (o 2) (o 3) (o 4) (o 5) (o 6)
      have e2 := eq7_lit (c 0) (c 1) (c 2) (c 3) (c 4) (c 5) (c 6)
      have d1 : decide (xs ++ H = xs ++ H) = true := decide_eq_true rfl
      rw [d1]
      go_wp2
      go_ret
      exact ⟨by simp, BE.out⟩
end Go.Proofs.Ythnognjcbjgkbaa
