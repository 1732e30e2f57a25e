/-
  What the law RecPorts computes: true.
-/
import Derived.Test.YtpeajffnhmmaeaaNmSt
import Derived.Test.YtpeajffnhmmaeaaName11
import Derived.Test.YtpeajffnhmmaeaaEqual
import Derived.Test.YtpeajffnhmmaeaaAlive09
namespace Go.Proofs.Ytpeajffnhmmaeaa
set_option linter.unusedVariables false
open Go.RowKit

set_option maxRecDepth 100000 in
set_option maxHeartbeats 4000000 in
theorem RecPorts_main (A : Option Addr) (c : Nat) (xs : List UInt8) (x y : Nat) (s : ByteArray) (o q1 : Bool) (z : Nat) (w : World) (hR : Rd w w.heap.size A xs) (hl : xs.length ≤ 100) (hx : x < 65536) (hy : y < 65536) (hs : vldP s) (hz : z < 4294967296) :
    Calls Try.prog 3 #[.slice A xs.length c, .agg #[.int .u16 (x : Int), .int .u16 (y : Int), .string s, .bool o, .bool q1, .int .u32 (z : Int)]] w (AliveOK w) := by
  obtain ⟨wb, hwb⟩ : ∃ wb, wb = w.alloc (.cells #[.int .u16 (x : Int), .int .u16 (y : Int), .string s, .bool o, .bool q1, .int .u32 (z : Int)] 26) := ⟨_, rfl⟩
  have hrow : wb.heap[w.heap.size]? = some (.cells #[.int .u16 (x : Int), .int .u16 (y : Int), .string s, .bool o, .bool q1, .int .u32 (z : Int)] 26) := by rw [hwb]; exact heap_alloc_new w _
  have hbw : Below w.heap.size w wb := by rw [hwb]; exact (Below.refl _ w).alloc (Nat.le_refl _) _
  have hRb : Rd wb w.heap.size A xs := hR.below hbw
  have HWB := Lib.hid hwb
  have HROW := Lib.hid hrow
  have HRB := Lib.hid hRb
  have HB0 := Lib.hid hbw
  have hsz := hbw.size
  have hs30 : s.size ≤ 30 := hs.2.1
  have hd1 : decide ((100 : Int) < (xs.length : Int)) = false := decide_eq_false (by omega)
  have HV := Lib.hid (vldB_true hs)
  have HXL := Lib.hid hl
  have C1 : Hid (Clear (resPort (xs ++ portB x y s o q1 z) xs.length) #[.int .u16 (x : Int), .int .u16 (y : Int), .string s, .bool o, .bool q1, .int .u32 (z : Int)] (codePort (xs ++ portB x y s o q1 z) xs.length) (placePort (xs ++ portB x y s o q1 z) xs.length)) := by
    show Clear _ _ _ _
    have h := clear_port xs [] x y s o q1 z hx hy hs hz
    simpa only [List.append_nil] using h
  have HREF := Lib.hid (fun u => refPort_any x y s o q1 z u hx hy hs hz)
  have HPUT := Lib.hid (fun w0 wi g zs h hl => PutPort_ok w0 wi g zs h x y s o q1 z hx hy (by omega) hz hl)
  have HPL := Lib.hid (portB_len x y s o q1 z)
  generalize portB x y s o q1 z = pb at *
  obtain ⟨b, hb⟩ : ∃ b, b = w.heap.size := ⟨_, rfl⟩
  rw [← hb] at hrow
  have HBB := Lib.hid hb
  obtain ⟨k0, k1, k2, k3, k4, k5⟩ := row6_cells hrow
  have HROW2 := Lib.hid hrow
  clear hwb hrow hbw hRb hR hs hl hb
  go_enter Try.func3, Try.ntmps3
  go_wp2_with fail
  rw [← HWB.out, ← HBB.out]
  clear HWB
  refine (refValid_any s wb (by omega)).mono ?_
  rintro e w1 ⟨rfl, rfl⟩
  rw [HV.out]
  go_wp2_with fail
  refine (New_ok wb.heap.size A xs.length c xs wb rfl (HRB.out.more hsz) (Nat.le_refl _) (by have := HXL.out; omega)).mono ?_
  rintro e w1 ⟨g, rfl, hB1⟩
  clear k0 k1 k2 k3 k4 k5
  obtain ⟨k0, k1, k2, k3, k4, k5⟩ := row6_cells (row_later HROW2.out hB1.bel)
  have HB1 := Lib.hid hB1
  clear hB1
  go_wp2_with fail
  refine (HPUT.out wb w1 g xs HB1.out (by have := HXL.out; omega)).mono ?_
  rintro e w2 ⟨rfl, hB2⟩
  clear k0 k1 k2 k3 k4 k5
  have G2 := Lib.hid (show NmSt wb w2 A xs g (xs ++ pb) [(b, .cells #[.int .u16 (x : Int), .int .u16 (y : Int), .string s, .bool o, .bool q1, .int .u32 (z : Int)] 26)] from ⟨(HRB.out.more hsz).below hB2.bel, hB2, fun q hq => by
    obtain rfl := List.mem_singleton.1 hq
    exact row_later HROW2.out hB2.bel⟩)
  have HSL : Hid ((xs ++ pb).length = xs.length + 48) := by show _ = _; rw [List.length_append, HPL.out]
  have HSE : Hid (∃ S, S = xs ++ pb) := ⟨_, rfl⟩
  obtain ⟨S, hS0⟩ := HSE.out
  rw [← hS0] at G2 HSL C1
  have HSS := Lib.hid hS0
  clear hB2 HB1 HPUT HSE hS0
  go_wp2_with fail
  refine (Bytes_ok wb w2 g S G2.out.bld (by rw [HSL.out]; have := HXL.out; omega)).mono ?_
  rintro e w3 ⟨A3, c3, rfl, ho3, hf3, hB3⟩
  have G3 := Lib.hid (show NmSt wb w3 A xs g S [(b, .cells #[.int .u16 (x : Int), .int .u16 (y : Int), .string s, .bool o, .bool q1, .int .u32 (z : Int)] 26)] from ⟨(HRB.out.more hsz).below hB3.bel, hB3, fun q hq => by
    obtain rfl := List.mem_singleton.1 hq
    exact row_later HROW2.out hB3.bel⟩)
  have HO3 := Lib.hid ho3.rd
  have HLE := Lib.hid ho3.le
  clear ho3 hf3 hB3 G2
  go_wp2_with fail
  refine (GetPort_yes w3.heap.size A3 c3 S xs.length w3 HO3.out (Nat.le_refl _) HLE.out.1 HLE.out.2 (by rw [HSL.out]; have := HXL.out; omega) (by rw [HSL.out]; have := HXL.out; omega)).mono ?_
  rintro e w4 ⟨he, hb4⟩
  rw [C1.out.1, C1.out.2.1, C1.out.2.2] at he
  subst he
  have G4 := Lib.hid ((G3.out.next hb4).two (.cells #[.int .u16 (x : Int), .int .u16 (y : Int), .string s, .bool o, .bool q1, .int .u32 (z : Int)] 26) (.cells #[.int .i64 0, .int .i64 0, .int .i64 0] 34))
  clear hb4 G3 C1 HO3 HLE
  obtain ⟨q, hq⟩ : ∃ q, q = w4.heap.size := ⟨_, rfl⟩
  go_wp2_with fail
  have HQ := Lib.hid hq
  rw [← hq] at G4
  rw [← HQ.out]
  clear hq
  generalize ((w4.alloc (.cells #[.int .u16 (x : Int), .int .u16 (y : Int), .string s, .bool o, .bool q1, .int .u32 (z : Int)] 26)).alloc (.cells #[.int .i64 0, .int .i64 0, .int .i64 0] 34)) = u4 at *
  have HCC : Hid (∀ u S' rows', NmSt wb u A xs g S' ((q, .cells #[.int .u16 (x : Int), .int .u16 (y : Int), .string s, .bool o, .bool q1, .int .u32 (z : Int)] 26) :: (q + 1, .cells #[.int .i64 0, .int .i64 0, .int .i64 0] 34) :: (b, .cells #[.int .u16 (x : Int), .int .u16 (y : Int), .string s, .bool o, .bool q1, .int .u32 (z : Int)] 26) :: rows') → u.heap[b]? = some (.cells #[.int .u16 (x : Int), .int .u16 (y : Int), .string s, .bool o, .bool q1, .int .u32 (z : Int)] 26) ∧ u.heap[q]? = some (.cells #[.int .u16 (x : Int), .int .u16 (y : Int), .string s, .bool o, .bool q1, .int .u32 (z : Int)] 26) ∧ u.heap[q + 1]? = some (.cells #[.int .i64 0, .int .i64 0, .int .i64 0] 34)) := by
    intro u S' rows' h
    exact ⟨h.rows (b, .cells #[.int .u16 (x : Int), .int .u16 (y : Int), .string s, .bool o, .bool q1, .int .u32 (z : Int)] 26) (by simp), h.rows (q, .cells #[.int .u16 (x : Int), .int .u16 (y : Int), .string s, .bool o, .bool q1, .int .u32 (z : Int)] 26) (by simp), h.rows (q + 1, .cells #[.int .i64 0, .int .i64 0, .int .i64 0] 34) (by simp)⟩
  have G5 := Lib.hid (G4.out.next ((Below.refl _ u4).drew))
  clear G4
  refine wp_region_Z (fun u => u.heap[b]? = some (.cells #[.int .u16 (x : Int), .int .u16 (y : Int), .string s, .bool o, .bool q1, .int .u32 (z : Int)] 26) ∧ u.heap[q]? = some (.cells #[.int .u16 (x : Int), .int .u16 (y : Int), .string s, .bool o, .bool q1, .int .u32 (z : Int)] 26) ∧ u.heap[q + 1]? = some (.cells #[.int .i64 0, .int .i64 0, .int .i64 0] 34)) 100 (by kernel_rfl) ?_
  refine anyZ_next 0 rfl (by kernel_rfl) (fun K hK => ?_)
  rw [if_pos (by rfl)]
  go_simp
  refine (alive09 _).mono ?_
  rintro e w6 ⟨rfl, hb6⟩
  have G6 := Lib.hid (G5.out.next hb6)
  clear hb6 G5
  go_simp
  refine hK _ _ (fun _ => HCC.out _ _ _ G6.out) ?_
  clear hK K
  have hS := HCC.out _ _ _ G6.out
  refine anyZ_take 1 (.bool true) rfl (by kernel_rfl) (by kernel_rfl) (by kernel_rfl) (by kernel_rfl) (fun _ _ _ h => h) (by rfl) hS (fun w' hSw => by obtain ⟨r1, r2, r3⟩ := hSw; obtain ⟨s0, s1, s2, s3, s4, s5⟩ := row6_cells r1; obtain ⟨t0, t1, t2, t3, t4, t5⟩ := row6_cells r2; obtain ⟨v0, v1, v2⟩ := row3_cells r3; go_simp) ?_
  refine anyZ_take 2 (.pointer (some ⟨g, 0, none⟩)) rfl (by kernel_rfl) (by kernel_rfl) (by kernel_rfl) (by kernel_rfl) (fun _ _ _ h => h) (by rfl) hS (fun w' hSw => by obtain ⟨r1, r2, r3⟩ := hSw; obtain ⟨s0, s1, s2, s3, s4, s5⟩ := row6_cells r1; obtain ⟨t0, t1, t2, t3, t4, t5⟩ := row6_cells r2; obtain ⟨v0, v1, v2⟩ := row3_cells r3; go_simp) ?_
  refine anyZ_take 4 (.slice A xs.length c) rfl (by kernel_rfl) (by kernel_rfl) (by kernel_rfl) (by kernel_rfl) (fun _ _ _ h => h) (by rfl) hS (fun w' hSw => by obtain ⟨r1, r2, r3⟩ := hSw; obtain ⟨s0, s1, s2, s3, s4, s5⟩ := row6_cells r1; obtain ⟨t0, t1, t2, t3, t4, t5⟩ := row6_cells r2; obtain ⟨v0, v1, v2⟩ := row3_cells r3; go_simp) ?_
  refine anyZ_take 5 (.agg #[.int .u16 (x : Int), .int .u16 (y : Int), .string s, .bool o, .bool q1, .int .u32 (z : Int)]) rfl (by kernel_rfl) (by kernel_rfl) (by kernel_rfl) (by kernel_rfl) (fun _ _ _ h => h) (by rfl) hS (fun w' hSw => by obtain ⟨r1, r2, r3⟩ := hSw; obtain ⟨s0, s1, s2, s3, s4, s5⟩ := row6_cells r1; obtain ⟨t0, t1, t2, t3, t4, t5⟩ := row6_cells r2; obtain ⟨v0, v1, v2⟩ := row3_cells r3; go_simp) ?_
  clear hS
  refine anyZ_next 3 rfl (by kernel_rfl) (fun K hK => ?_)
  rw [if_pos (by rfl)]
  go_simp
  obtain ⟨gA, gc, hbld, _⟩ := G6.out.bld
  refine (Bytes_any g gc gA S w6 hbld (by rw [HSL.out]; have := HXL.out; omega)).mono ?_
  rintro e w7 ⟨A7, c7, rfl, ho7, hf7, hb7⟩
  have G7 := Lib.hid (G6.out.next hb7)
  have O7 := Lib.hid ho7
  clear ho7 hf7 hb7 G6 hbld
  go_simp
  refine hK _ _ (fun _ => HCC.out _ _ _ G7.out) ?_
  clear hK K
  refine anyZ_next 6 rfl (by kernel_rfl) (fun K hK => ?_)
  rw [if_pos (by rfl)]
  go_simp
  refine (HREF.out w7).mono ?_
  rintro e w8 ⟨A8, c8, rfl, q8, l8⟩
  have G8 := Lib.hid (G7.out.next q8.bel)
  have kp : ∀ {a b : World} {A : Option Addr} {c : Nat} {xs : List UInt8}, Own a A c xs → Below a.heap.size a b → Own b A c xs := fun h hb => h.keep (S := fun _ => False) (Chg.of_below hb) (fun _ _ h => h)
  have O8 := Lib.hid (kp O7.out q8.bel)
  have hcs : (#[.slice A xs.length c, .slice A8 48 c8] : Array Value).toList = ([⟨A, c, xs⟩, ⟨A8, c8, pb⟩] : List Sl).map Sl.val := by
    simp only [Sl.val, List.map_cons, List.map_nil, l8]
  have hL : ∀ s ∈ ([⟨A, c, xs⟩, ⟨A8, c8, pb⟩] : List Sl), Rd w8 w8.heap.size s.A s.xs := by
    intro s hs
    simp only [List.mem_cons, List.not_mem_nil, or_false] at hs
    rcases hs with rfl | rfl
    · exact G8.out.rd.more G8.out.bld.bel.size
    · exact q8.own.rd
  have hcat : catS ([⟨A, c, xs⟩, ⟨A8, c8, pb⟩] : List Sl) = S := by
    rw [HSS.out]
    simp only [catS, List.map_cons, List.map_nil, List.flatten_cons, List.flatten_nil, List.append_nil]
  have HC := Lib.hid (Concat_any (some ⟨w8.heap.size, 0, none⟩) 2 2 _ _ rfl (RdS.lit (T := 22) hcs hL) (by omega) (by rw [hcat, HSL.out]; have := HXL.out; omega))
  have HCAT := Lib.hid hcat
  have GB := Lib.hid (fun o => G8.out.next ((Below.refl _ w8).alloc (Nat.le_refl _) o))
  have OB := Lib.hid (fun o => kp O8.out ((Below.refl _ w8).alloc (Nat.le_refl _) o))
  have HKP := Lib.hid (fun (a b : World) (A : Option Addr) (c : Nat) (xs : List UInt8) (h : Own a A c xs) (hb : Below a.heap.size a b) => kp h hb)
  clear hcs hL hcat kp O7 q8 l8 G7
  go_simp
  refine hK _ _ (fun _ => HCC.out _ _ _ G8.out) ?_
  clear hK K
  refine anyZ_next 7 rfl (by kernel_rfl) (fun K hK => ?_)
  rw [if_pos (by rfl)]
  go_simp
  refine hK _ _ (fun _ => HCC.out _ _ _ (GB.out _)) ?_
  clear hK K
  refine anyZ_next 8 rfl (by kernel_rfl) (fun K hK => ?_)
  rw [if_pos (by rfl)]
  go_simp
  refine HC.out.mono ?_
  rintro e w9 ⟨A9, c9, rfl, ho9, hf9, hb9⟩
  rw [HCAT.out] at ho9 ⊢
  have G9 := Lib.hid ((GB.out _).next hb9)
  have O9 := Lib.hid ho9
  have P9 := Lib.hid (HKP.out _ _ _ _ _ (OB.out _) hb9)
  clear ho9 hf9 hb9 HC HCAT GB OB O8 G8
  go_simp
  refine hK _ _ (fun _ => HCC.out _ _ _ G9.out) ?_
  clear hK K
  refine anyZ_next 9 rfl (by kernel_rfl) (fun K hK => ?_)
  rw [if_pos (by rfl)]
  go_simp
  refine (Equal_any w9.heap.size A7 c7 S w9.heap.size A9 c9 S _ _ w9 rfl rfl P9.out.rd O9.out.rd (by rw [HSL.out]; have := HXL.out; omega) (by rw [HSL.out]; have := HXL.out; omega)).mono ?_
  rintro e w10 ⟨rfl, dd, rfl⟩
  rw [decide_eq_true (Eq.refl S)]
  have G10 := Lib.hid (G9.out.next ((Chg.refl (fun _ => False) w9).drewN dd |>.below (fun _ h => h.elim) (Nat.le_refl _)))
  clear O9 P9 G9
  go_simp
  refine hK _ _ (fun _ => HCC.out _ _ _ G10.out) ?_
  clear hK K
  have hS := HCC.out _ _ _ G10.out
  refine anyZ_next 10 rfl (by kernel_rfl) (fun K hK => ?_)
  rw [if_pos (by rfl)]
  go_simp
  refine hK _ _ (fun _ => HCC.out _ _ _ G10.out) ?_
  clear hK K
  refine anyZ_next 11 rfl (by kernel_rfl) (fun K hK => ?_)
  rw [if_pos (by rfl)]
  go_simp
  refine hK _ _ (fun _ => HCC.out _ _ _ G10.out) ?_
  clear hK K
  refine anyZ_take 12 (.agg #[.int .u16 (x : Int), .int .u16 (y : Int), .string s, .bool o, .bool q1, .int .u32 (z : Int)]) rfl (by kernel_rfl) (by kernel_rfl) (by kernel_rfl) (by kernel_rfl) (fun _ _ _ h => h) (by rfl) hS (fun w' hSw => by obtain ⟨r1, r2, r3⟩ := hSw; obtain ⟨s0, s1, s2, s3, s4, s5⟩ := row6_cells r1; obtain ⟨t0, t1, t2, t3, t4, t5⟩ := row6_cells r2; obtain ⟨v0, v1, v2⟩ := row3_cells r3; go_simp) ?_
  refine anyZ_take 13 (.agg #[.int .u16 (x : Int), .int .u16 (y : Int), .string s, .bool o, .bool q1, .int .u32 (z : Int)]) rfl (by kernel_rfl) (by kernel_rfl) (by kernel_rfl) (by kernel_rfl) (fun _ _ _ h => h) (by rfl) hS (fun w' hSw => by obtain ⟨r1, r2, r3⟩ := hSw; obtain ⟨s0, s1, s2, s3, s4, s5⟩ := row6_cells r1; obtain ⟨t0, t1, t2, t3, t4, t5⟩ := row6_cells r2; obtain ⟨v0, v1, v2⟩ := row3_cells r3; go_simp) ?_
  refine anyZ_next 14 rfl (by kernel_rfl) (fun K hK => ?_)
  rw [if_pos (by rfl)]
  go_simp
  refine hK _ _ (fun _ => HCC.out _ _ _ G10.out) ?_
  clear hK K
  refine anyZ_next 15 rfl (by kernel_rfl) (fun K hK => ?_)
  rw [if_pos (by rfl)]
  go_simp
  refine hK _ _ (fun _ => HCC.out _ _ _ G10.out) ?_
  clear hK K
  refine anyZ_next 16 rfl (by kernel_rfl) (fun K hK => ?_)
  rw [if_pos (by rfl)]
  go_simp
  refine hK _ _ (fun _ => HCC.out _ _ _ G10.out) ?_
  clear hK K
  refine anyZ_take 17 (.agg #[.int .i64 0, .int .i64 0, .int .i64 0]) rfl (by kernel_rfl) (by kernel_rfl) (by kernel_rfl) (by kernel_rfl) (fun _ _ _ h => h) (by rfl) hS (fun w' hSw => by obtain ⟨r1, r2, r3⟩ := hSw; obtain ⟨s0, s1, s2, s3, s4, s5⟩ := row6_cells r1; obtain ⟨t0, t1, t2, t3, t4, t5⟩ := row6_cells r2; obtain ⟨v0, v1, v2⟩ := row3_cells r3; go_simp) ?_
  refine anyZ_take 18 (.agg #[.int .i64 0, .int .i64 0, .int .i64 0]) rfl (by kernel_rfl) (by kernel_rfl) (by kernel_rfl) (by kernel_rfl) (fun _ _ _ h => h) (by rfl) hS (fun w' hSw => by obtain ⟨r1, r2, r3⟩ := hSw; obtain ⟨s0, s1, s2, s3, s4, s5⟩ := row6_cells r1; obtain ⟨t0, t1, t2, t3, t4, t5⟩ := row6_cells r2; obtain ⟨v0, v1, v2⟩ := row3_cells r3; go_simp) ?_
  refine anyZ_next 19 rfl (by kernel_rfl) (fun K hK => ?_)
  rw [if_pos (by rfl)]
  go_simp
  refine hK _ _ (fun _ => HCC.out _ _ _ G10.out) ?_
  clear hK K
  refine anyZ_next 20 rfl (by kernel_rfl) (fun K hK => ?_)
  rw [if_pos (by rfl)]
  go_simp
  refine hK _ _ (fun _ => HCC.out _ _ _ G10.out) ?_
  clear hK K
  clear hS
  refine anyZ_next 21 rfl (by kernel_rfl) (fun K hK => ?_)
  rw [if_pos (by rfl)]
  go_simp
  refine hK _ _ (fun _ => HCC.out _ _ _ G10.out) ?_
  clear hK K
  refine anyZ_done (by kernel_rfl) ?_ _
  have hbel := Lib.hid (HB0.out.trans (G10.out.bld.bel.mono hsz))
  clear G10
  go_wp2
  go_ret
  exact ⟨by simp, hbel.out⟩
end Go.Proofs.Ytpeajffnhmmaeaa
