/-
  What the law RecOnce computes: true.
-/
import Derived.Test.YtpeajffnhmmaeaaOnce2
import Derived.Test.YtpeajffnhmmaeaaEqual
import Derived.Test.YtpeajffnhmmaeaaAlive09
namespace Go.Proofs.Ytpeajffnhmmaeaa
set_option linter.unusedVariables false
open Go.RowKit

theorem row5_cellsO {w : World} {q ty : Nat} {x0 x1 x2 x3 x4 : Value} (hq : w.heap[q]? = some (.cells #[x0, x1, x2, x3, x4] ty (0, 0))) :
    w.cell? ⟨q, 0, none⟩ = some x0 ∧ w.cell? ⟨q, 1, none⟩ = some x1 ∧ w.cell? ⟨q, 2, none⟩ = some x2 ∧ w.cell? ⟨q, 3, none⟩ = some x3 ∧ w.cell? ⟨q, 4, none⟩ = some x4 := by
  refine ⟨?_, ?_, ?_, ?_, ?_⟩ <;> (rw [cell_of_row w q _ _ _ (0, 0) hq]; rfl)
theorem PutRegion_okO (w wi : World) (g : Nat) (zs : List UInt8) (h : BOk w wi g zs) (x y z t : Nat) (b : Bool) (hx : x < 18446744073709551616) (hy : y < 18446744073709551616) (hz : z < 65536) (ht : t < 256) (hlen : zs.length ≤ 100000) :
    Calls Try.prog 21 #[.pointer (some ⟨g, 0, none⟩), .agg #[.int .u64 (x : Int), .int .u64 (y : Int), .int .u16 (z : Int), .int .u8 (t : Int), .bool b]] wi fun e w' => e = .returned (.tuple #[]) ∧ BOk w w' g (zs ++ regB x y z t b) := by
  obtain ⟨A, c, h1, h2, h3, h4⟩ := h
  exact (PutRegion_any g c A zs x y z t b wi h1 hx hy hz ht (by omega)).mono fun _ _ ⟨he, hG⟩ => ⟨he, BOk.grew h2 h3 h4 (by simpa only [regB, List.append_assoc] using hG)⟩
theorem PutPartition_okO (w wi : World) (g : Nat) (zs : List UInt8) (h : BOk w wi g zs) (x : Nat) (s : ByteArray) (p d : Nat) (hx : x < 65536) (hs : s.size ≤ 30) (hp : p < 18446744073709551616) (hd : d < 18446744073709551616) (hlen : zs.length ≤ 90000) :
    Calls Try.prog 19 #[.pointer (some ⟨g, 0, none⟩), .agg #[.int .u16 (x : Int), .string s, .int .u64 (p : Int), .int .u64 (d : Int)]] wi fun e w' => e = .returned (.tuple #[]) ∧ BOk w w' g (zs ++ partB x s p d) := by
  obtain ⟨A, c, h1, h2, h3, h4⟩ := h
  exact (PutPartition_any g c A zs x s p d wi h1 hx hs hp hd (by omega)).mono fun _ _ ⟨he, hG⟩ => ⟨he, BOk.grew h2 h3 h4 hG⟩
theorem PutPort_okO (w wi : World) (g : Nat) (zs : List UInt8) (h : BOk w wi g zs) (x y : Nat) (s : ByteArray) (o q : Bool) (z : Nat) (hx : x < 65536) (hy : y < 65536) (hs : s.size ≤ 30) (hz : z < 4294967296) (hlen : zs.length ≤ 90000) :
    Calls Try.prog 12 #[.pointer (some ⟨g, 0, none⟩), .agg #[.int .u16 (x : Int), .int .u16 (y : Int), .string s, .bool o, .bool q, .int .u32 (z : Int)]] wi fun e w' => e = .returned (.tuple #[]) ∧ BOk w w' g (zs ++ portB x y s o q z) := by
  obtain ⟨A, c, h1, h2, h3, h4⟩ := h
  exact (PutPort_any g c A zs x y s o q z wi h1 hx hy hs hz (by omega)).mono fun _ _ ⟨he, hG⟩ => ⟨he, BOk.grew h2 h3 h4 hG⟩
structure StO (w u : World) (A : Option Addr) (xs : List UInt8) : Prop where
  rd : Rd u w.heap.size A xs
  bel : Below w.heap.size w u
theorem StO.next {w u u' : World} {A : Option Addr} {xs : List UInt8} (h : StO w u A xs) (hb : Below u.heap.size u u') : StO w u' A xs :=
  ⟨h.rd.below (hb.mono h.bel.size), h.bel.trans (hb.mono h.bel.size)⟩
set_option maxRecDepth 100000 in
set_option maxHeartbeats 8000000 in
theorem RecOnce_main (A : Option Addr) (c : Nat) (xs : List UInt8) (w : World) (hR : Rd w w.heap.size A xs) (hc : xs.length ≤ c) (hn : c ≤ 9223372036854775807) (hl : xs.length ≤ 500) :
    Calls Try.prog 4 #[.slice A xs.length c] w (AliveOK w) := by
  obtain ⟨u0, hu0⟩ : ∃ u0, u0 = w := ⟨_, rfl⟩
  have ST0 : Hid (StO w u0 A xs) := by show StO w u0 A xs; rw [hu0]; exact ⟨hR, Below.refl _ _⟩
  have hd0 : decide ((500 : Int) < (xs.length : Int)) = false := decide_eq_false (by omega)
  have HU := Lib.hid hu0
  clear hR hu0
  go_enter Try.func4, Try.ntmps4
  go_wp2_with fail
  rw [← HU.out]
  refine (New_ok u0.heap.size none 0 0 [] u0 rfl Rd.nil (Nat.le_refl _) (by simp)).mono ?_
  rintro e v0 ⟨b0, rfl, hB0⟩
  have HB0 := Lib.hid hB0
  have SA0 := Lib.hid (ST0.out.next hB0.bel)
  clear hB0
  go_wp2_with fail
  refine (GetPartition_all A c xs v0 (SA0.out.rd.more SA0.out.bel.size) hc hn hl).mono ?_
  rintro e r0 ⟨hb0, hbad0 | hgood0⟩
  · obtain ⟨y00, y10, y20, y30, fc0, fa0, hfc0, rfl⟩ := hbad0
    have d1 : (fc0 == 0) = false := by simpa using hfc0
    have d2 : decide (fc0 = 0) = false := decide_eq_false hfc0
    have ST1 := Lib.hid (SA0.out.next ((hb0.alloc hb0.size (.cells #[.int .u16 y00, .string y10, .int .u64 y20, .int .u64 y30] 45)).alloc (by have := hb0.size; simp; omega) (.cells #[.int .i64 fc0, .int .i64 0, .int .i64 fa0] 34)))
    obtain ⟨j0, j1, j2⟩ := row3_cells (two_new r0 (.cells #[.int .u16 y00, .string y10, .int .u64 y20, .int .u64 y30] 45) (.cells #[.int .i64 fc0, .int .i64 0, .int .i64 fa0] 34)).2
    go_wp2_with fail
    clear j0 j1 j2 d1 d2 hb0 HB0 SA0 ST0
    generalize ((r0.alloc (.cells #[.int .u16 y00, .string y10, .int .u64 y20, .int .u64 y30] 45)).alloc (.cells #[.int .i64 fc0, .int .i64 0, .int .i64 fa0] 34)) = u1 at *
    refine (New_ok u1.heap.size none 0 0 [] u1 rfl Rd.nil (Nat.le_refl _) (by simp)).mono ?_
    rintro e v1 ⟨b1, rfl, hB1⟩
    have HB1 := Lib.hid hB1
    have SA1 := Lib.hid (ST1.out.next hB1.bel)
    clear hB1
    go_wp2_with fail
    refine (GetPort_all A c xs v1 (SA1.out.rd.more SA1.out.bel.size) hc hn hl).mono ?_
    rintro e r1 ⟨hb1, hbad1 | hgood1⟩
    · obtain ⟨y01, y11, y21, y31, y41, y51, fc1, fa1, hfc1, rfl⟩ := hbad1
      have d1 : (fc1 == 0) = false := by simpa using hfc1
      have d2 : decide (fc1 = 0) = false := decide_eq_false hfc1
      have ST2 := Lib.hid (SA1.out.next ((hb1.alloc hb1.size (.cells #[.int .u16 y01, .int .u16 y11, .string y21, .bool y31, .bool y41, .int .u32 y51] 26)).alloc (by have := hb1.size; simp; omega) (.cells #[.int .i64 fc1, .int .i64 0, .int .i64 fa1] 34)))
      obtain ⟨j0, j1, j2⟩ := row3_cells (two_new r1 (.cells #[.int .u16 y01, .int .u16 y11, .string y21, .bool y31, .bool y41, .int .u32 y51] 26) (.cells #[.int .i64 fc1, .int .i64 0, .int .i64 fa1] 34)).2
      go_wp2_with fail
      clear j0 j1 j2 d1 d2 hb1 HB1 SA1 ST1
      generalize ((r1.alloc (.cells #[.int .u16 y01, .int .u16 y11, .string y21, .bool y31, .bool y41, .int .u32 y51] 26)).alloc (.cells #[.int .i64 fc1, .int .i64 0, .int .i64 fa1] 34)) = u2 at *
      refine (New_ok u2.heap.size none 0 0 [] u2 rfl Rd.nil (Nat.le_refl _) (by simp)).mono ?_
      rintro e v2 ⟨b2, rfl, hB2⟩
      have HB2 := Lib.hid hB2
      have SA2 := Lib.hid (ST2.out.next hB2.bel)
      clear hB2
      go_wp2_with fail
      refine (GetRegion_all A c xs v2 (SA2.out.rd.more SA2.out.bel.size) hc hn hl).mono ?_
      rintro e r2 ⟨hb2, hbad2 | hgood2⟩
      · obtain ⟨y02, y12, y22, y32, y42, fc2, fa2, hfc2, rfl⟩ := hbad2
        have d1 : (fc2 == 0) = false := by simpa using hfc2
        have d2 : decide (fc2 = 0) = false := decide_eq_false hfc2
        have ST3 := Lib.hid (SA2.out.next ((hb2.alloc hb2.size (.cells #[.int .u64 y02, .int .u64 y12, .int .u16 y22, .int .u8 y32, .bool y42] 50)).alloc (by have := hb2.size; simp; omega) (.cells #[.int .i64 fc2, .int .i64 0, .int .i64 fa2] 34)))
        obtain ⟨j0, j1, j2⟩ := row3_cells (two_new r2 (.cells #[.int .u64 y02, .int .u64 y12, .int .u16 y22, .int .u8 y32, .bool y42] 50) (.cells #[.int .i64 fc2, .int .i64 0, .int .i64 fa2] 34)).2
        go_wp2_with fail
        clear j0 j1 j2 d1 d2 hb2 HB2 SA2 ST2
        generalize ((r2.alloc (.cells #[.int .u64 y02, .int .u64 y12, .int .u16 y22, .int .u8 y32, .bool y42] 50)).alloc (.cells #[.int .i64 fc2, .int .i64 0, .int .i64 fa2] 34)) = u3 at *
        refine (alive09 u3).mono ?_
        rintro e w9 ⟨rfl, hb9⟩
        have HE9 := Lib.hid (ST3.out.next hb9)
        clear hb9
        go_wp2
        go_ret
        exact ⟨rfl, HE9.out.bel⟩
      · obtain ⟨x2, y2, z2, t2, b12, rfl, hlen2, g02, g12, g22, g32, g42⟩ := hgood2
        have HA2 := Lib.hid ((hb2.alloc hb2.size (.cells #[.int .u64 (x2 : Int), .int .u64 (y2 : Int), .int .u16 (z2 : Int), .int .u8 (t2 : Int), .bool b12] 50)).alloc (by have := hb2.size; simp; omega) (.cells #[.int .i64 0, .int .i64 0, .int .i64 0] 34))
        obtain ⟨j0, j1, j2⟩ := row3_cells (two_new r2 (.cells #[.int .u64 (x2 : Int), .int .u64 (y2 : Int), .int .u16 (z2 : Int), .int .u8 (t2 : Int), .bool b12] 50) (.cells #[.int .i64 0, .int .i64 0, .int .i64 0] 34)).2
        obtain ⟨k0, k1, k2, k3, k4⟩ := row5_cellsO (two_new r2 (.cells #[.int .u64 (x2 : Int), .int .u64 (y2 : Int), .int .u16 (z2 : Int), .int .u8 (t2 : Int), .bool b12] 50) (.cells #[.int .i64 0, .int .i64 0, .int .i64 0] 34)).1
        have HN2 := Lib.hid (HB2.out.next HA2.out)
        have HE2 := Lib.hid (g42)
        go_wp2_with fail
        refine (PutRegion_okO u2 _ b2 [] (HN2.out) x2 y2 z2 t2 b12 g02 g12 g22 g32 (by simp)).mono ?_
        rintro e p2' ⟨rfl, hB3⟩
        rw [List.nil_append, HE2.out] at hB3
        have ST32 := Lib.hid (ST2.out.next hB3.bel)
        have HB32 := Lib.hid (hB3.next (Below.refl _ p2').drew)
        have ST42 := Lib.hid (ST32.out.next (Below.refl _ p2').drew)
        clear hB3 j0 j1 j2 k0 k1 k2 k3 k4 hb2 HB2 SA2 HN2 HA2 g02 g12 g22 g32 g42
        have hmin2 : (if (24 : Int) < (xs.length : Int) then (24 : Int) else (xs.length : Int)) = 24 := by split <;> omega
        have HTL2 : Hid ((xs.take 24).length = 24) := by show _ = _; rw [List.length_take]; omega
        go_wp2_with fail
        refine wp_region_Z (fun _ => True) 100 (by kernel_rfl) ?_
        refine anyZ_take 0 (.pointer (some ⟨b2, 0, none⟩)) rfl (by kernel_rfl) (by kernel_rfl) (by kernel_rfl) (by kernel_rfl) (fun _ _ _ h => h) (by rfl) trivial (fun w' _ => by go_simp) ?_
        refine anyZ_take 2 (.slice A xs.length c) rfl (by kernel_rfl) (by kernel_rfl) (by kernel_rfl) (by kernel_rfl) (fun _ _ _ h => h) (by rfl) trivial (fun w' _ => by go_simp) ?_
        refine anyZ_take 3 (.slice A xs.length c) rfl (by kernel_rfl) (by kernel_rfl) (by kernel_rfl) (by kernel_rfl) (fun _ _ _ h => h) (by rfl) trivial (fun w' _ => by go_simp) ?_
        refine anyZ_take 4 (.int .i64 (xs.length : Int)) rfl (by kernel_rfl) (by kernel_rfl) (by kernel_rfl) (by kernel_rfl) (fun _ _ _ h => h) (by rfl) trivial (fun w' _ => by go_simp) ?_
        refine anyZ_take 5 (.int .i64 24) rfl (by kernel_rfl) (by kernel_rfl) (by kernel_rfl) (by kernel_rfl) (fun _ _ _ h => h) (by rfl) trivial (fun w' _ => by go_simp <;> first | exact hmin2 | (split <;> omega) | omega) ?_
        refine anyZ_take 6 (.slice A 24 c) rfl (by kernel_rfl) (by kernel_rfl) (by kernel_rfl) (by kernel_rfl) (fun _ _ _ h => h) (by rfl) trivial (fun w' _ => exec_upto (.tmp 74) (.tmp 77) 22 rfl rfl (by kernel_rfl) A xs.length c 24 (by go_simp) (by go_simp) (by omega)) ?_
        refine anyZ_next 1 rfl (by kernel_rfl) (fun K hK => ?_)
        rw [if_pos (by rfl)]
        go_simp
        refine (Bytes_ok u2 p2'.drew b2 (xs.take 24) HB32.out (by rw [HTL2.out]; omega)).mono ?_
        rintro e t2' ⟨A2, c2, rfl, ho, hf, hB4⟩
        rw [HTL2.out]
        have ST52 := Lib.hid (ST2.out.next hB4.bel)
        have HO2 := Lib.hid ho
        clear ho hf hB4
        go_simp
        refine hK _ _ (fun _ => trivial) ?_
        clear hK K
        refine anyZ_next 7 rfl (by kernel_rfl) (fun K hK => ?_)
        rw [if_pos (by rfl)]
        go_simp
        refine (Equal_any t2'.heap.size A2 c2 (xs.take 24) w.heap.size A c (xs.take 24) 24 24 t2' HTL2.out HTL2.out HO2.out.rd (ST52.out.rd.take 24) (by omega) (by omega)).mono ?_
        rintro e z2' ⟨rfl, dd2, rfl⟩
        rw [decide_eq_true (Eq.refl (xs.take 24))]
        have ST3 := Lib.hid (ST52.out.next ((Chg.refl (fun _ => False) t2').drewN dd2 |>.below (fun _ h => h.elim) (Nat.le_refl _)))
        go_simp
        refine hK _ _ (fun _ => trivial) ?_
        clear hK K
        refine anyZ_next 8 rfl (by kernel_rfl) (fun K hK => ?_)
        rw [if_pos (by rfl)]
        go_simp
        refine hK _ _ (fun _ => trivial) ?_
        clear hK K
        refine anyZ_done (by kernel_rfl) ?_ _
        go_wp2_with fail
        clear HO2 HB32 ST32 ST42 ST52 ST2 HTL2 hmin2 HE2 hlen2
        generalize t2'.drewN dd2 = u3 at *
        refine (alive09 u3).mono ?_
        rintro e w9 ⟨rfl, hb9⟩
        have HE9 := Lib.hid (ST3.out.next hb9)
        clear hb9
        go_wp2
        go_ret
        exact ⟨rfl, HE9.out.bel⟩
    · obtain ⟨x1, y1, s1, o1, q1, z1, rfl, hlen1, g01, g11, g21, g31, g41⟩ := hgood1
      have HA1 := Lib.hid ((hb1.alloc hb1.size (.cells #[.int .u16 (x1 : Int), .int .u16 (y1 : Int), .string s1, .bool o1, .bool q1, .int .u32 (z1 : Int)] 26)).alloc (by have := hb1.size; simp; omega) (.cells #[.int .i64 0, .int .i64 0, .int .i64 0] 34))
      obtain ⟨j0, j1, j2⟩ := row3_cells (two_new r1 (.cells #[.int .u16 (x1 : Int), .int .u16 (y1 : Int), .string s1, .bool o1, .bool q1, .int .u32 (z1 : Int)] 26) (.cells #[.int .i64 0, .int .i64 0, .int .i64 0] 34)).2
      obtain ⟨k0, k1, k2, k3, k4, k5⟩ := row6_cells (two_new r1 (.cells #[.int .u16 (x1 : Int), .int .u16 (y1 : Int), .string s1, .bool o1, .bool q1, .int .u32 (z1 : Int)] 26) (.cells #[.int .i64 0, .int .i64 0, .int .i64 0] 34)).1
      have HN1 := Lib.hid (HB1.out.next HA1.out)
      have HE1 := Lib.hid (g41)
      go_wp2_with fail
      refine (PutPort_okO u1 _ b1 [] (HN1.out) x1 y1 s1 o1 q1 z1 g01 g11 g21.2.1 g31 (by simp)).mono ?_
      rintro e p1' ⟨rfl, hB3⟩
      rw [List.nil_append, HE1.out] at hB3
      have ST31 := Lib.hid (ST1.out.next hB3.bel)
      have HB31 := Lib.hid (hB3.next (Below.refl _ p1').drew)
      have ST41 := Lib.hid (ST31.out.next (Below.refl _ p1').drew)
      clear hB3 j0 j1 j2 k0 k1 k2 k3 k4 k5 hb1 HB1 SA1 HN1 HA1 g01 g11 g21 g31 g41
      have hmin1 : (if (48 : Int) < (xs.length : Int) then (48 : Int) else (xs.length : Int)) = 48 := by split <;> omega
      have HTL1 : Hid ((xs.take 48).length = 48) := by show _ = _; rw [List.length_take]; omega
      go_wp2_with fail
      refine wp_region_Z (fun _ => True) 100 (by kernel_rfl) ?_
      refine anyZ_take 0 (.pointer (some ⟨b1, 0, none⟩)) rfl (by kernel_rfl) (by kernel_rfl) (by kernel_rfl) (by kernel_rfl) (fun _ _ _ h => h) (by rfl) trivial (fun w' _ => by go_simp) ?_
      refine anyZ_take 2 (.slice A xs.length c) rfl (by kernel_rfl) (by kernel_rfl) (by kernel_rfl) (by kernel_rfl) (fun _ _ _ h => h) (by rfl) trivial (fun w' _ => by go_simp) ?_
      refine anyZ_take 3 (.slice A xs.length c) rfl (by kernel_rfl) (by kernel_rfl) (by kernel_rfl) (by kernel_rfl) (fun _ _ _ h => h) (by rfl) trivial (fun w' _ => by go_simp) ?_
      refine anyZ_take 4 (.int .i64 (xs.length : Int)) rfl (by kernel_rfl) (by kernel_rfl) (by kernel_rfl) (by kernel_rfl) (fun _ _ _ h => h) (by rfl) trivial (fun w' _ => by go_simp) ?_
      refine anyZ_take 5 (.int .i64 48) rfl (by kernel_rfl) (by kernel_rfl) (by kernel_rfl) (by kernel_rfl) (fun _ _ _ h => h) (by rfl) trivial (fun w' _ => by go_simp <;> first | exact hmin1 | (split <;> omega) | omega) ?_
      refine anyZ_take 6 (.slice A 48 c) rfl (by kernel_rfl) (by kernel_rfl) (by kernel_rfl) (by kernel_rfl) (fun _ _ _ h => h) (by rfl) trivial (fun w' _ => exec_upto (.tmp 53) (.tmp 56) 22 rfl rfl (by kernel_rfl) A xs.length c 48 (by go_simp) (by go_simp) (by omega)) ?_
      refine anyZ_next 1 rfl (by kernel_rfl) (fun K hK => ?_)
      rw [if_pos (by rfl)]
      go_simp
      refine (Bytes_ok u1 p1'.drew b1 (xs.take 48) HB31.out (by rw [HTL1.out]; omega)).mono ?_
      rintro e t1' ⟨A1, c1, rfl, ho, hf, hB4⟩
      rw [HTL1.out]
      have ST51 := Lib.hid (ST1.out.next hB4.bel)
      have HO1 := Lib.hid ho
      clear ho hf hB4
      go_simp
      refine hK _ _ (fun _ => trivial) ?_
      clear hK K
      refine anyZ_next 7 rfl (by kernel_rfl) (fun K hK => ?_)
      rw [if_pos (by rfl)]
      go_simp
      refine (Equal_any t1'.heap.size A1 c1 (xs.take 48) w.heap.size A c (xs.take 48) 48 48 t1' HTL1.out HTL1.out HO1.out.rd (ST51.out.rd.take 48) (by omega) (by omega)).mono ?_
      rintro e z1' ⟨rfl, dd1, rfl⟩
      rw [decide_eq_true (Eq.refl (xs.take 48))]
      have ST2 := Lib.hid (ST51.out.next ((Chg.refl (fun _ => False) t1').drewN dd1 |>.below (fun _ h => h.elim) (Nat.le_refl _)))
      go_simp
      refine hK _ _ (fun _ => trivial) ?_
      clear hK K
      refine anyZ_next 8 rfl (by kernel_rfl) (fun K hK => ?_)
      rw [if_pos (by rfl)]
      go_simp
      refine hK _ _ (fun _ => trivial) ?_
      clear hK K
      refine anyZ_done (by kernel_rfl) ?_ _
      go_wp2_with fail
      clear HO1 HB31 ST31 ST41 ST51 ST1 HTL1 hmin1 HE1 hlen1
      generalize t1'.drewN dd1 = u2 at *
      refine (New_ok u2.heap.size none 0 0 [] u2 rfl Rd.nil (Nat.le_refl _) (by simp)).mono ?_
      rintro e v2 ⟨b2, rfl, hB2⟩
      have HB2 := Lib.hid hB2
      have SA2 := Lib.hid (ST2.out.next hB2.bel)
      clear hB2
      go_wp2_with fail
      refine (GetRegion_all A c xs v2 (SA2.out.rd.more SA2.out.bel.size) hc hn hl).mono ?_
      rintro e r2 ⟨hb2, hbad2 | hgood2⟩
      · obtain ⟨y02, y12, y22, y32, y42, fc2, fa2, hfc2, rfl⟩ := hbad2
        have d1 : (fc2 == 0) = false := by simpa using hfc2
        have d2 : decide (fc2 = 0) = false := decide_eq_false hfc2
        have ST3 := Lib.hid (SA2.out.next ((hb2.alloc hb2.size (.cells #[.int .u64 y02, .int .u64 y12, .int .u16 y22, .int .u8 y32, .bool y42] 50)).alloc (by have := hb2.size; simp; omega) (.cells #[.int .i64 fc2, .int .i64 0, .int .i64 fa2] 34)))
        obtain ⟨j0, j1, j2⟩ := row3_cells (two_new r2 (.cells #[.int .u64 y02, .int .u64 y12, .int .u16 y22, .int .u8 y32, .bool y42] 50) (.cells #[.int .i64 fc2, .int .i64 0, .int .i64 fa2] 34)).2
        go_wp2_with fail
        clear j0 j1 j2 d1 d2 hb2 HB2 SA2 ST2
        generalize ((r2.alloc (.cells #[.int .u64 y02, .int .u64 y12, .int .u16 y22, .int .u8 y32, .bool y42] 50)).alloc (.cells #[.int .i64 fc2, .int .i64 0, .int .i64 fa2] 34)) = u3 at *
        refine (alive09 u3).mono ?_
        rintro e w9 ⟨rfl, hb9⟩
        have HE9 := Lib.hid (ST3.out.next hb9)
        clear hb9
        go_wp2
        go_ret
        exact ⟨rfl, HE9.out.bel⟩
      · obtain ⟨x2, y2, z2, t2, b12, rfl, hlen2, g02, g12, g22, g32, g42⟩ := hgood2
        have HA2 := Lib.hid ((hb2.alloc hb2.size (.cells #[.int .u64 (x2 : Int), .int .u64 (y2 : Int), .int .u16 (z2 : Int), .int .u8 (t2 : Int), .bool b12] 50)).alloc (by have := hb2.size; simp; omega) (.cells #[.int .i64 0, .int .i64 0, .int .i64 0] 34))
        obtain ⟨j0, j1, j2⟩ := row3_cells (two_new r2 (.cells #[.int .u64 (x2 : Int), .int .u64 (y2 : Int), .int .u16 (z2 : Int), .int .u8 (t2 : Int), .bool b12] 50) (.cells #[.int .i64 0, .int .i64 0, .int .i64 0] 34)).2
        obtain ⟨k0, k1, k2, k3, k4⟩ := row5_cellsO (two_new r2 (.cells #[.int .u64 (x2 : Int), .int .u64 (y2 : Int), .int .u16 (z2 : Int), .int .u8 (t2 : Int), .bool b12] 50) (.cells #[.int .i64 0, .int .i64 0, .int .i64 0] 34)).1
        have HN2 := Lib.hid (HB2.out.next HA2.out)
        have HE2 := Lib.hid (g42)
        go_wp2_with fail
        refine (PutRegion_okO u2 _ b2 [] (HN2.out) x2 y2 z2 t2 b12 g02 g12 g22 g32 (by simp)).mono ?_
        rintro e p2' ⟨rfl, hB3⟩
        rw [List.nil_append, HE2.out] at hB3
        have ST32 := Lib.hid (ST2.out.next hB3.bel)
        have HB32 := Lib.hid (hB3.next (Below.refl _ p2').drew)
        have ST42 := Lib.hid (ST32.out.next (Below.refl _ p2').drew)
        clear hB3 j0 j1 j2 k0 k1 k2 k3 k4 hb2 HB2 SA2 HN2 HA2 g02 g12 g22 g32 g42
        have hmin2 : (if (24 : Int) < (xs.length : Int) then (24 : Int) else (xs.length : Int)) = 24 := by split <;> omega
        have HTL2 : Hid ((xs.take 24).length = 24) := by show _ = _; rw [List.length_take]; omega
        go_wp2_with fail
        refine wp_region_Z (fun _ => True) 100 (by kernel_rfl) ?_
        refine anyZ_take 0 (.pointer (some ⟨b2, 0, none⟩)) rfl (by kernel_rfl) (by kernel_rfl) (by kernel_rfl) (by kernel_rfl) (fun _ _ _ h => h) (by rfl) trivial (fun w' _ => by go_simp) ?_
        refine anyZ_take 2 (.slice A xs.length c) rfl (by kernel_rfl) (by kernel_rfl) (by kernel_rfl) (by kernel_rfl) (fun _ _ _ h => h) (by rfl) trivial (fun w' _ => by go_simp) ?_
        refine anyZ_take 3 (.slice A xs.length c) rfl (by kernel_rfl) (by kernel_rfl) (by kernel_rfl) (by kernel_rfl) (fun _ _ _ h => h) (by rfl) trivial (fun w' _ => by go_simp) ?_
        refine anyZ_take 4 (.int .i64 (xs.length : Int)) rfl (by kernel_rfl) (by kernel_rfl) (by kernel_rfl) (by kernel_rfl) (fun _ _ _ h => h) (by rfl) trivial (fun w' _ => by go_simp) ?_
        refine anyZ_take 5 (.int .i64 24) rfl (by kernel_rfl) (by kernel_rfl) (by kernel_rfl) (by kernel_rfl) (fun _ _ _ h => h) (by rfl) trivial (fun w' _ => by go_simp <;> first | exact hmin2 | (split <;> omega) | omega) ?_
        refine anyZ_take 6 (.slice A 24 c) rfl (by kernel_rfl) (by kernel_rfl) (by kernel_rfl) (by kernel_rfl) (fun _ _ _ h => h) (by rfl) trivial (fun w' _ => exec_upto (.tmp 74) (.tmp 77) 22 rfl rfl (by kernel_rfl) A xs.length c 24 (by go_simp) (by go_simp) (by omega)) ?_
        refine anyZ_next 1 rfl (by kernel_rfl) (fun K hK => ?_)
        rw [if_pos (by rfl)]
        go_simp
        refine (Bytes_ok u2 p2'.drew b2 (xs.take 24) HB32.out (by rw [HTL2.out]; omega)).mono ?_
        rintro e t2' ⟨A2, c2, rfl, ho, hf, hB4⟩
        rw [HTL2.out]
        have ST52 := Lib.hid (ST2.out.next hB4.bel)
        have HO2 := Lib.hid ho
        clear ho hf hB4
        go_simp
        refine hK _ _ (fun _ => trivial) ?_
        clear hK K
        refine anyZ_next 7 rfl (by kernel_rfl) (fun K hK => ?_)
        rw [if_pos (by rfl)]
        go_simp
        refine (Equal_any t2'.heap.size A2 c2 (xs.take 24) w.heap.size A c (xs.take 24) 24 24 t2' HTL2.out HTL2.out HO2.out.rd (ST52.out.rd.take 24) (by omega) (by omega)).mono ?_
        rintro e z2' ⟨rfl, dd2, rfl⟩
        rw [decide_eq_true (Eq.refl (xs.take 24))]
        have ST3 := Lib.hid (ST52.out.next ((Chg.refl (fun _ => False) t2').drewN dd2 |>.below (fun _ h => h.elim) (Nat.le_refl _)))
        go_simp
        refine hK _ _ (fun _ => trivial) ?_
        clear hK K
        refine anyZ_next 8 rfl (by kernel_rfl) (fun K hK => ?_)
        rw [if_pos (by rfl)]
        go_simp
        refine hK _ _ (fun _ => trivial) ?_
        clear hK K
        refine anyZ_done (by kernel_rfl) ?_ _
        go_wp2_with fail
        clear HO2 HB32 ST32 ST42 ST52 ST2 HTL2 hmin2 HE2 hlen2
        generalize t2'.drewN dd2 = u3 at *
        refine (alive09 u3).mono ?_
        rintro e w9 ⟨rfl, hb9⟩
        have HE9 := Lib.hid (ST3.out.next hb9)
        clear hb9
        go_wp2
        go_ret
        exact ⟨rfl, HE9.out.bel⟩
  · obtain ⟨x0, s0, p0, d0, rfl, hlen0, g00, g10, g20, g30, g40⟩ := hgood0
    have HA0 := Lib.hid ((hb0.alloc hb0.size (.cells #[.int .u16 (x0 : Int), .string s0, .int .u64 (p0 : Int), .int .u64 (d0 : Int)] 45)).alloc (by have := hb0.size; simp; omega) (.cells #[.int .i64 0, .int .i64 0, .int .i64 0] 34))
    obtain ⟨j0, j1, j2⟩ := row3_cells (two_new r0 (.cells #[.int .u16 (x0 : Int), .string s0, .int .u64 (p0 : Int), .int .u64 (d0 : Int)] 45) (.cells #[.int .i64 0, .int .i64 0, .int .i64 0] 34)).2
    obtain ⟨k0, k1, k2, k3⟩ := row4_cells (two_new r0 (.cells #[.int .u16 (x0 : Int), .string s0, .int .u64 (p0 : Int), .int .u64 (d0 : Int)] 45) (.cells #[.int .i64 0, .int .i64 0, .int .i64 0] 34)).1
    have HN0 := Lib.hid (HB0.out.next HA0.out)
    have HE0 := Lib.hid (g40)
    go_wp2_with fail
    refine (PutPartition_okO u0 _ b0 [] (HN0.out) x0 s0 p0 d0 g00 g10.2.1 g20 g30 (by simp)).mono ?_
    rintro e p0' ⟨rfl, hB3⟩
    rw [List.nil_append, HE0.out] at hB3
    have ST30 := Lib.hid (ST0.out.next hB3.bel)
    have HB30 := Lib.hid (hB3.next (Below.refl _ p0').drew)
    have ST40 := Lib.hid (ST30.out.next (Below.refl _ p0').drew)
    clear hB3 j0 j1 j2 k0 k1 k2 k3 hb0 HB0 SA0 HN0 HA0 g00 g10 g20 g30 g40
    have hmin0 : (if (56 : Int) < (xs.length : Int) then (56 : Int) else (xs.length : Int)) = 56 := by split <;> omega
    have HTL0 : Hid ((xs.take 56).length = 56) := by show _ = _; rw [List.length_take]; omega
    go_wp2_with fail
    refine wp_region_Z (fun _ => True) 100 (by kernel_rfl) ?_
    refine anyZ_take 0 (.pointer (some ⟨b0, 0, none⟩)) rfl (by kernel_rfl) (by kernel_rfl) (by kernel_rfl) (by kernel_rfl) (fun _ _ _ h => h) (by rfl) trivial (fun w' _ => by go_simp) ?_
    refine anyZ_take 2 (.slice A xs.length c) rfl (by kernel_rfl) (by kernel_rfl) (by kernel_rfl) (by kernel_rfl) (fun _ _ _ h => h) (by rfl) trivial (fun w' _ => by go_simp) ?_
    refine anyZ_take 3 (.slice A xs.length c) rfl (by kernel_rfl) (by kernel_rfl) (by kernel_rfl) (by kernel_rfl) (fun _ _ _ h => h) (by rfl) trivial (fun w' _ => by go_simp) ?_
    refine anyZ_take 4 (.int .i64 (xs.length : Int)) rfl (by kernel_rfl) (by kernel_rfl) (by kernel_rfl) (by kernel_rfl) (fun _ _ _ h => h) (by rfl) trivial (fun w' _ => by go_simp) ?_
    refine anyZ_take 5 (.int .i64 56) rfl (by kernel_rfl) (by kernel_rfl) (by kernel_rfl) (by kernel_rfl) (fun _ _ _ h => h) (by rfl) trivial (fun w' _ => by go_simp <;> first | exact hmin0 | (split <;> omega) | omega) ?_
    refine anyZ_take 6 (.slice A 56 c) rfl (by kernel_rfl) (by kernel_rfl) (by kernel_rfl) (by kernel_rfl) (fun _ _ _ h => h) (by rfl) trivial (fun w' _ => exec_upto (.tmp 32) (.tmp 35) 22 rfl rfl (by kernel_rfl) A xs.length c 56 (by go_simp) (by go_simp) (by omega)) ?_
    refine anyZ_next 1 rfl (by kernel_rfl) (fun K hK => ?_)
    rw [if_pos (by rfl)]
    go_simp
    refine (Bytes_ok u0 p0'.drew b0 (xs.take 56) HB30.out (by rw [HTL0.out]; omega)).mono ?_
    rintro e t0' ⟨A0, c0, rfl, ho, hf, hB4⟩
    rw [HTL0.out]
    have ST50 := Lib.hid (ST0.out.next hB4.bel)
    have HO0 := Lib.hid ho
    clear ho hf hB4
    go_simp
    refine hK _ _ (fun _ => trivial) ?_
    clear hK K
    refine anyZ_next 7 rfl (by kernel_rfl) (fun K hK => ?_)
    rw [if_pos (by rfl)]
    go_simp
    refine (Equal_any t0'.heap.size A0 c0 (xs.take 56) w.heap.size A c (xs.take 56) 56 56 t0' HTL0.out HTL0.out HO0.out.rd (ST50.out.rd.take 56) (by omega) (by omega)).mono ?_
    rintro e z0' ⟨rfl, dd0, rfl⟩
    rw [decide_eq_true (Eq.refl (xs.take 56))]
    have ST1 := Lib.hid (ST50.out.next ((Chg.refl (fun _ => False) t0').drewN dd0 |>.below (fun _ h => h.elim) (Nat.le_refl _)))
    go_simp
    refine hK _ _ (fun _ => trivial) ?_
    clear hK K
    refine anyZ_next 8 rfl (by kernel_rfl) (fun K hK => ?_)
    rw [if_pos (by rfl)]
    go_simp
    refine hK _ _ (fun _ => trivial) ?_
    clear hK K
    refine anyZ_done (by kernel_rfl) ?_ _
    go_wp2_with fail
    clear HO0 HB30 ST30 ST40 ST50 ST0 HTL0 hmin0 HE0 hlen0
    generalize t0'.drewN dd0 = u1 at *
    refine (New_ok u1.heap.size none 0 0 [] u1 rfl Rd.nil (Nat.le_refl _) (by simp)).mono ?_
    rintro e v1 ⟨b1, rfl, hB1⟩
    have HB1 := Lib.hid hB1
    have SA1 := Lib.hid (ST1.out.next hB1.bel)
    clear hB1
    go_wp2_with fail
    refine (GetPort_all A c xs v1 (SA1.out.rd.more SA1.out.bel.size) hc hn hl).mono ?_
    rintro e r1 ⟨hb1, hbad1 | hgood1⟩
    · obtain ⟨y01, y11, y21, y31, y41, y51, fc1, fa1, hfc1, rfl⟩ := hbad1
      have d1 : (fc1 == 0) = false := by simpa using hfc1
      have d2 : decide (fc1 = 0) = false := decide_eq_false hfc1
      have ST2 := Lib.hid (SA1.out.next ((hb1.alloc hb1.size (.cells #[.int .u16 y01, .int .u16 y11, .string y21, .bool y31, .bool y41, .int .u32 y51] 26)).alloc (by have := hb1.size; simp; omega) (.cells #[.int .i64 fc1, .int .i64 0, .int .i64 fa1] 34)))
      obtain ⟨j0, j1, j2⟩ := row3_cells (two_new r1 (.cells #[.int .u16 y01, .int .u16 y11, .string y21, .bool y31, .bool y41, .int .u32 y51] 26) (.cells #[.int .i64 fc1, .int .i64 0, .int .i64 fa1] 34)).2
      go_wp2_with fail
      clear j0 j1 j2 d1 d2 hb1 HB1 SA1 ST1
      generalize ((r1.alloc (.cells #[.int .u16 y01, .int .u16 y11, .string y21, .bool y31, .bool y41, .int .u32 y51] 26)).alloc (.cells #[.int .i64 fc1, .int .i64 0, .int .i64 fa1] 34)) = u2 at *
      refine (New_ok u2.heap.size none 0 0 [] u2 rfl Rd.nil (Nat.le_refl _) (by simp)).mono ?_
      rintro e v2 ⟨b2, rfl, hB2⟩
      have HB2 := Lib.hid hB2
      have SA2 := Lib.hid (ST2.out.next hB2.bel)
      clear hB2
      go_wp2_with fail
      refine (GetRegion_all A c xs v2 (SA2.out.rd.more SA2.out.bel.size) hc hn hl).mono ?_
      rintro e r2 ⟨hb2, hbad2 | hgood2⟩
      · obtain ⟨y02, y12, y22, y32, y42, fc2, fa2, hfc2, rfl⟩ := hbad2
        have d1 : (fc2 == 0) = false := by simpa using hfc2
        have d2 : decide (fc2 = 0) = false := decide_eq_false hfc2
        have ST3 := Lib.hid (SA2.out.next ((hb2.alloc hb2.size (.cells #[.int .u64 y02, .int .u64 y12, .int .u16 y22, .int .u8 y32, .bool y42] 50)).alloc (by have := hb2.size; simp; omega) (.cells #[.int .i64 fc2, .int .i64 0, .int .i64 fa2] 34)))
        obtain ⟨j0, j1, j2⟩ := row3_cells (two_new r2 (.cells #[.int .u64 y02, .int .u64 y12, .int .u16 y22, .int .u8 y32, .bool y42] 50) (.cells #[.int .i64 fc2, .int .i64 0, .int .i64 fa2] 34)).2
        go_wp2_with fail
        clear j0 j1 j2 d1 d2 hb2 HB2 SA2 ST2
        generalize ((r2.alloc (.cells #[.int .u64 y02, .int .u64 y12, .int .u16 y22, .int .u8 y32, .bool y42] 50)).alloc (.cells #[.int .i64 fc2, .int .i64 0, .int .i64 fa2] 34)) = u3 at *
        refine (alive09 u3).mono ?_
        rintro e w9 ⟨rfl, hb9⟩
        have HE9 := Lib.hid (ST3.out.next hb9)
        clear hb9
        go_wp2
        go_ret
        exact ⟨rfl, HE9.out.bel⟩
      · obtain ⟨x2, y2, z2, t2, b12, rfl, hlen2, g02, g12, g22, g32, g42⟩ := hgood2
        have HA2 := Lib.hid ((hb2.alloc hb2.size (.cells #[.int .u64 (x2 : Int), .int .u64 (y2 : Int), .int .u16 (z2 : Int), .int .u8 (t2 : Int), .bool b12] 50)).alloc (by have := hb2.size; simp; omega) (.cells #[.int .i64 0, .int .i64 0, .int .i64 0] 34))
        obtain ⟨j0, j1, j2⟩ := row3_cells (two_new r2 (.cells #[.int .u64 (x2 : Int), .int .u64 (y2 : Int), .int .u16 (z2 : Int), .int .u8 (t2 : Int), .bool b12] 50) (.cells #[.int .i64 0, .int .i64 0, .int .i64 0] 34)).2
        obtain ⟨k0, k1, k2, k3, k4⟩ := row5_cellsO (two_new r2 (.cells #[.int .u64 (x2 : Int), .int .u64 (y2 : Int), .int .u16 (z2 : Int), .int .u8 (t2 : Int), .bool b12] 50) (.cells #[.int .i64 0, .int .i64 0, .int .i64 0] 34)).1
        have HN2 := Lib.hid (HB2.out.next HA2.out)
        have HE2 := Lib.hid (g42)
        go_wp2_with fail
        refine (PutRegion_okO u2 _ b2 [] (HN2.out) x2 y2 z2 t2 b12 g02 g12 g22 g32 (by simp)).mono ?_
        rintro e p2' ⟨rfl, hB3⟩
        rw [List.nil_append, HE2.out] at hB3
        have ST32 := Lib.hid (ST2.out.next hB3.bel)
        have HB32 := Lib.hid (hB3.next (Below.refl _ p2').drew)
        have ST42 := Lib.hid (ST32.out.next (Below.refl _ p2').drew)
        clear hB3 j0 j1 j2 k0 k1 k2 k3 k4 hb2 HB2 SA2 HN2 HA2 g02 g12 g22 g32 g42
        have hmin2 : (if (24 : Int) < (xs.length : Int) then (24 : Int) else (xs.length : Int)) = 24 := by split <;> omega
        have HTL2 : Hid ((xs.take 24).length = 24) := by show _ = _; rw [List.length_take]; omega
        go_wp2_with fail
        refine wp_region_Z (fun _ => True) 100 (by kernel_rfl) ?_
        refine anyZ_take 0 (.pointer (some ⟨b2, 0, none⟩)) rfl (by kernel_rfl) (by kernel_rfl) (by kernel_rfl) (by kernel_rfl) (fun _ _ _ h => h) (by rfl) trivial (fun w' _ => by go_simp) ?_
        refine anyZ_take 2 (.slice A xs.length c) rfl (by kernel_rfl) (by kernel_rfl) (by kernel_rfl) (by kernel_rfl) (fun _ _ _ h => h) (by rfl) trivial (fun w' _ => by go_simp) ?_
        refine anyZ_take 3 (.slice A xs.length c) rfl (by kernel_rfl) (by kernel_rfl) (by kernel_rfl) (by kernel_rfl) (fun _ _ _ h => h) (by rfl) trivial (fun w' _ => by go_simp) ?_
        refine anyZ_take 4 (.int .i64 (xs.length : Int)) rfl (by kernel_rfl) (by kernel_rfl) (by kernel_rfl) (by kernel_rfl) (fun _ _ _ h => h) (by rfl) trivial (fun w' _ => by go_simp) ?_
        refine anyZ_take 5 (.int .i64 24) rfl (by kernel_rfl) (by kernel_rfl) (by kernel_rfl) (by kernel_rfl) (fun _ _ _ h => h) (by rfl) trivial (fun w' _ => by go_simp <;> first | exact hmin2 | (split <;> omega) | omega) ?_
        refine anyZ_take 6 (.slice A 24 c) rfl (by kernel_rfl) (by kernel_rfl) (by kernel_rfl) (by kernel_rfl) (fun _ _ _ h => h) (by rfl) trivial (fun w' _ => exec_upto (.tmp 74) (.tmp 77) 22 rfl rfl (by kernel_rfl) A xs.length c 24 (by go_simp) (by go_simp) (by omega)) ?_
        refine anyZ_next 1 rfl (by kernel_rfl) (fun K hK => ?_)
        rw [if_pos (by rfl)]
        go_simp
        refine (Bytes_ok u2 p2'.drew b2 (xs.take 24) HB32.out (by rw [HTL2.out]; omega)).mono ?_
        rintro e t2' ⟨A2, c2, rfl, ho, hf, hB4⟩
        rw [HTL2.out]
        have ST52 := Lib.hid (ST2.out.next hB4.bel)
        have HO2 := Lib.hid ho
        clear ho hf hB4
        go_simp
        refine hK _ _ (fun _ => trivial) ?_
        clear hK K
        refine anyZ_next 7 rfl (by kernel_rfl) (fun K hK => ?_)
        rw [if_pos (by rfl)]
        go_simp
        refine (Equal_any t2'.heap.size A2 c2 (xs.take 24) w.heap.size A c (xs.take 24) 24 24 t2' HTL2.out HTL2.out HO2.out.rd (ST52.out.rd.take 24) (by omega) (by omega)).mono ?_
        rintro e z2' ⟨rfl, dd2, rfl⟩
        rw [decide_eq_true (Eq.refl (xs.take 24))]
        have ST3 := Lib.hid (ST52.out.next ((Chg.refl (fun _ => False) t2').drewN dd2 |>.below (fun _ h => h.elim) (Nat.le_refl _)))
        go_simp
        refine hK _ _ (fun _ => trivial) ?_
        clear hK K
        refine anyZ_next 8 rfl (by kernel_rfl) (fun K hK => ?_)
        rw [if_pos (by rfl)]
        go_simp
        refine hK _ _ (fun _ => trivial) ?_
        clear hK K
        refine anyZ_done (by kernel_rfl) ?_ _
        go_wp2_with fail
        clear HO2 HB32 ST32 ST42 ST52 ST2 HTL2 hmin2 HE2 hlen2
        generalize t2'.drewN dd2 = u3 at *
        refine (alive09 u3).mono ?_
        rintro e w9 ⟨rfl, hb9⟩
        have HE9 := Lib.hid (ST3.out.next hb9)
        clear hb9
        go_wp2
        go_ret
        exact ⟨rfl, HE9.out.bel⟩
    · obtain ⟨x1, y1, s1, o1, q1, z1, rfl, hlen1, g01, g11, g21, g31, g41⟩ := hgood1
      have HA1 := Lib.hid ((hb1.alloc hb1.size (.cells #[.int .u16 (x1 : Int), .int .u16 (y1 : Int), .string s1, .bool o1, .bool q1, .int .u32 (z1 : Int)] 26)).alloc (by have := hb1.size; simp; omega) (.cells #[.int .i64 0, .int .i64 0, .int .i64 0] 34))
      obtain ⟨j0, j1, j2⟩ := row3_cells (two_new r1 (.cells #[.int .u16 (x1 : Int), .int .u16 (y1 : Int), .string s1, .bool o1, .bool q1, .int .u32 (z1 : Int)] 26) (.cells #[.int .i64 0, .int .i64 0, .int .i64 0] 34)).2
      obtain ⟨k0, k1, k2, k3, k4, k5⟩ := row6_cells (two_new r1 (.cells #[.int .u16 (x1 : Int), .int .u16 (y1 : Int), .string s1, .bool o1, .bool q1, .int .u32 (z1 : Int)] 26) (.cells #[.int .i64 0, .int .i64 0, .int .i64 0] 34)).1
      have HN1 := Lib.hid (HB1.out.next HA1.out)
      have HE1 := Lib.hid (g41)
      go_wp2_with fail
      refine (PutPort_okO u1 _ b1 [] (HN1.out) x1 y1 s1 o1 q1 z1 g01 g11 g21.2.1 g31 (by simp)).mono ?_
      rintro e p1' ⟨rfl, hB3⟩
      rw [List.nil_append, HE1.out] at hB3
      have ST31 := Lib.hid (ST1.out.next hB3.bel)
      have HB31 := Lib.hid (hB3.next (Below.refl _ p1').drew)
      have ST41 := Lib.hid (ST31.out.next (Below.refl _ p1').drew)
      clear hB3 j0 j1 j2 k0 k1 k2 k3 k4 k5 hb1 HB1 SA1 HN1 HA1 g01 g11 g21 g31 g41
      have hmin1 : (if (48 : Int) < (xs.length : Int) then (48 : Int) else (xs.length : Int)) = 48 := by split <;> omega
      have HTL1 : Hid ((xs.take 48).length = 48) := by show _ = _; rw [List.length_take]; omega
      go_wp2_with fail
      refine wp_region_Z (fun _ => True) 100 (by kernel_rfl) ?_
      refine anyZ_take 0 (.pointer (some ⟨b1, 0, none⟩)) rfl (by kernel_rfl) (by kernel_rfl) (by kernel_rfl) (by kernel_rfl) (fun _ _ _ h => h) (by rfl) trivial (fun w' _ => by go_simp) ?_
      refine anyZ_take 2 (.slice A xs.length c) rfl (by kernel_rfl) (by kernel_rfl) (by kernel_rfl) (by kernel_rfl) (fun _ _ _ h => h) (by rfl) trivial (fun w' _ => by go_simp) ?_
      refine anyZ_take 3 (.slice A xs.length c) rfl (by kernel_rfl) (by kernel_rfl) (by kernel_rfl) (by kernel_rfl) (fun _ _ _ h => h) (by rfl) trivial (fun w' _ => by go_simp) ?_
      refine anyZ_take 4 (.int .i64 (xs.length : Int)) rfl (by kernel_rfl) (by kernel_rfl) (by kernel_rfl) (by kernel_rfl) (fun _ _ _ h => h) (by rfl) trivial (fun w' _ => by go_simp) ?_
      refine anyZ_take 5 (.int .i64 48) rfl (by kernel_rfl) (by kernel_rfl) (by kernel_rfl) (by kernel_rfl) (fun _ _ _ h => h) (by rfl) trivial (fun w' _ => by go_simp <;> first | exact hmin1 | (split <;> omega) | omega) ?_
      refine anyZ_take 6 (.slice A 48 c) rfl (by kernel_rfl) (by kernel_rfl) (by kernel_rfl) (by kernel_rfl) (fun _ _ _ h => h) (by rfl) trivial (fun w' _ => exec_upto (.tmp 53) (.tmp 56) 22 rfl rfl (by kernel_rfl) A xs.length c 48 (by go_simp) (by go_simp) (by omega)) ?_
      refine anyZ_next 1 rfl (by kernel_rfl) (fun K hK => ?_)
      rw [if_pos (by rfl)]
      go_simp
      refine (Bytes_ok u1 p1'.drew b1 (xs.take 48) HB31.out (by rw [HTL1.out]; omega)).mono ?_
      rintro e t1' ⟨A1, c1, rfl, ho, hf, hB4⟩
      rw [HTL1.out]
      have ST51 := Lib.hid (ST1.out.next hB4.bel)
      have HO1 := Lib.hid ho
      clear ho hf hB4
      go_simp
      refine hK _ _ (fun _ => trivial) ?_
      clear hK K
      refine anyZ_next 7 rfl (by kernel_rfl) (fun K hK => ?_)
      rw [if_pos (by rfl)]
      go_simp
      refine (Equal_any t1'.heap.size A1 c1 (xs.take 48) w.heap.size A c (xs.take 48) 48 48 t1' HTL1.out HTL1.out HO1.out.rd (ST51.out.rd.take 48) (by omega) (by omega)).mono ?_
      rintro e z1' ⟨rfl, dd1, rfl⟩
      rw [decide_eq_true (Eq.refl (xs.take 48))]
      have ST2 := Lib.hid (ST51.out.next ((Chg.refl (fun _ => False) t1').drewN dd1 |>.below (fun _ h => h.elim) (Nat.le_refl _)))
      go_simp
      refine hK _ _ (fun _ => trivial) ?_
      clear hK K
      refine anyZ_next 8 rfl (by kernel_rfl) (fun K hK => ?_)
      rw [if_pos (by rfl)]
      go_simp
      refine hK _ _ (fun _ => trivial) ?_
      clear hK K
      refine anyZ_done (by kernel_rfl) ?_ _
      go_wp2_with fail
      clear HO1 HB31 ST31 ST41 ST51 ST1 HTL1 hmin1 HE1 hlen1
      generalize t1'.drewN dd1 = u2 at *
      refine (New_ok u2.heap.size none 0 0 [] u2 rfl Rd.nil (Nat.le_refl _) (by simp)).mono ?_
      rintro e v2 ⟨b2, rfl, hB2⟩
      have HB2 := Lib.hid hB2
      have SA2 := Lib.hid (ST2.out.next hB2.bel)
      clear hB2
      go_wp2_with fail
      refine (GetRegion_all A c xs v2 (SA2.out.rd.more SA2.out.bel.size) hc hn hl).mono ?_
      rintro e r2 ⟨hb2, hbad2 | hgood2⟩
      · obtain ⟨y02, y12, y22, y32, y42, fc2, fa2, hfc2, rfl⟩ := hbad2
        have d1 : (fc2 == 0) = false := by simpa using hfc2
        have d2 : decide (fc2 = 0) = false := decide_eq_false hfc2
        have ST3 := Lib.hid (SA2.out.next ((hb2.alloc hb2.size (.cells #[.int .u64 y02, .int .u64 y12, .int .u16 y22, .int .u8 y32, .bool y42] 50)).alloc (by have := hb2.size; simp; omega) (.cells #[.int .i64 fc2, .int .i64 0, .int .i64 fa2] 34)))
        obtain ⟨j0, j1, j2⟩ := row3_cells (two_new r2 (.cells #[.int .u64 y02, .int .u64 y12, .int .u16 y22, .int .u8 y32, .bool y42] 50) (.cells #[.int .i64 fc2, .int .i64 0, .int .i64 fa2] 34)).2
        go_wp2_with fail
        clear j0 j1 j2 d1 d2 hb2 HB2 SA2 ST2
        generalize ((r2.alloc (.cells #[.int .u64 y02, .int .u64 y12, .int .u16 y22, .int .u8 y32, .bool y42] 50)).alloc (.cells #[.int .i64 fc2, .int .i64 0, .int .i64 fa2] 34)) = u3 at *
        refine (alive09 u3).mono ?_
        rintro e w9 ⟨rfl, hb9⟩
        have HE9 := Lib.hid (ST3.out.next hb9)
        clear hb9
        go_wp2
        go_ret
        exact ⟨rfl, HE9.out.bel⟩
      · obtain ⟨x2, y2, z2, t2, b12, rfl, hlen2, g02, g12, g22, g32, g42⟩ := hgood2
        have HA2 := Lib.hid ((hb2.alloc hb2.size (.cells #[.int .u64 (x2 : Int), .int .u64 (y2 : Int), .int .u16 (z2 : Int), .int .u8 (t2 : Int), .bool b12] 50)).alloc (by have := hb2.size; simp; omega) (.cells #[.int .i64 0, .int .i64 0, .int .i64 0] 34))
        obtain ⟨j0, j1, j2⟩ := row3_cells (two_new r2 (.cells #[.int .u64 (x2 : Int), .int .u64 (y2 : Int), .int .u16 (z2 : Int), .int .u8 (t2 : Int), .bool b12] 50) (.cells #[.int .i64 0, .int .i64 0, .int .i64 0] 34)).2
        obtain ⟨k0, k1, k2, k3, k4⟩ := row5_cellsO (two_new r2 (.cells #[.int .u64 (x2 : Int), .int .u64 (y2 : Int), .int .u16 (z2 : Int), .int .u8 (t2 : Int), .bool b12] 50) (.cells #[.int .i64 0, .int .i64 0, .int .i64 0] 34)).1
        have HN2 := Lib.hid (HB2.out.next HA2.out)
        have HE2 := Lib.hid (g42)
        go_wp2_with fail
        refine (PutRegion_okO u2 _ b2 [] (HN2.out) x2 y2 z2 t2 b12 g02 g12 g22 g32 (by simp)).mono ?_
        rintro e p2' ⟨rfl, hB3⟩
        rw [List.nil_append, HE2.out] at hB3
        have ST32 := Lib.hid (ST2.out.next hB3.bel)
        have HB32 := Lib.hid (hB3.next (Below.refl _ p2').drew)
        have ST42 := Lib.hid (ST32.out.next (Below.refl _ p2').drew)
        clear hB3 j0 j1 j2 k0 k1 k2 k3 k4 hb2 HB2 SA2 HN2 HA2 g02 g12 g22 g32 g42
        have hmin2 : (if (24 : Int) < (xs.length : Int) then (24 : Int) else (xs.length : Int)) = 24 := by split <;> omega
        have HTL2 : Hid ((xs.take 24).length = 24) := by show _ = _; rw [List.length_take]; omega
        go_wp2_with fail
        refine wp_region_Z (fun _ => True) 100 (by kernel_rfl) ?_
        refine anyZ_take 0 (.pointer (some ⟨b2, 0, none⟩)) rfl (by kernel_rfl) (by kernel_rfl) (by kernel_rfl) (by kernel_rfl) (fun _ _ _ h => h) (by rfl) trivial (fun w' _ => by go_simp) ?_
        refine anyZ_take 2 (.slice A xs.length c) rfl (by kernel_rfl) (by kernel_rfl) (by kernel_rfl) (by kernel_rfl) (fun _ _ _ h => h) (by rfl) trivial (fun w' _ => by go_simp) ?_
        refine anyZ_take 3 (.slice A xs.length c) rfl (by kernel_rfl) (by kernel_rfl) (by kernel_rfl) (by kernel_rfl) (fun _ _ _ h => h) (by rfl) trivial (fun w' _ => by go_simp) ?_
        refine anyZ_take 4 (.int .i64 (xs.length : Int)) rfl (by kernel_rfl) (by kernel_rfl) (by kernel_rfl) (by kernel_rfl) (fun _ _ _ h => h) (by rfl) trivial (fun w' _ => by go_simp) ?_
        refine anyZ_take 5 (.int .i64 24) rfl (by kernel_rfl) (by kernel_rfl) (by kernel_rfl) (by kernel_rfl) (fun _ _ _ h => h) (by rfl) trivial (fun w' _ => by go_simp <;> first | exact hmin2 | (split <;> omega) | omega) ?_
        refine anyZ_take 6 (.slice A 24 c) rfl (by kernel_rfl) (by kernel_rfl) (by kernel_rfl) (by kernel_rfl) (fun _ _ _ h => h) (by rfl) trivial (fun w' _ => exec_upto (.tmp 74) (.tmp 77) 22 rfl rfl (by kernel_rfl) A xs.length c 24 (by go_simp) (by go_simp) (by omega)) ?_
        refine anyZ_next 1 rfl (by kernel_rfl) (fun K hK => ?_)
        rw [if_pos (by rfl)]
        go_simp
        refine (Bytes_ok u2 p2'.drew b2 (xs.take 24) HB32.out (by rw [HTL2.out]; omega)).mono ?_
        rintro e t2' ⟨A2, c2, rfl, ho, hf, hB4⟩
        rw [HTL2.out]
        have ST52 := Lib.hid (ST2.out.next hB4.bel)
        have HO2 := Lib.hid ho
        clear ho hf hB4
        go_simp
        refine hK _ _ (fun _ => trivial) ?_
        clear hK K
        refine anyZ_next 7 rfl (by kernel_rfl) (fun K hK => ?_)
        rw [if_pos (by rfl)]
        go_simp
        refine (Equal_any t2'.heap.size A2 c2 (xs.take 24) w.heap.size A c (xs.take 24) 24 24 t2' HTL2.out HTL2.out HO2.out.rd (ST52.out.rd.take 24) (by omega) (by omega)).mono ?_
        rintro e z2' ⟨rfl, dd2, rfl⟩
        rw [decide_eq_true (Eq.refl (xs.take 24))]
        have ST3 := Lib.hid (ST52.out.next ((Chg.refl (fun _ => False) t2').drewN dd2 |>.below (fun _ h => h.elim) (Nat.le_refl _)))
        go_simp
        refine hK _ _ (fun _ => trivial) ?_
        clear hK K
        refine anyZ_next 8 rfl (by kernel_rfl) (fun K hK => ?_)
        rw [if_pos (by rfl)]
        go_simp
        refine hK _ _ (fun _ => trivial) ?_
        clear hK K
        refine anyZ_done (by kernel_rfl) ?_ _
        go_wp2_with fail
        clear HO2 HB32 ST32 ST42 ST52 ST2 HTL2 hmin2 HE2 hlen2
        generalize t2'.drewN dd2 = u3 at *
        refine (alive09 u3).mono ?_
        rintro e w9 ⟨rfl, hb9⟩
        have HE9 := Lib.hid (ST3.out.next hb9)
        clear hb9
        go_wp2
        go_ret
        exact ⟨rfl, HE9.out.bel⟩
end Go.Proofs.Ytpeajffnhmmaeaa
