/-
  One call on a builder and on the reference's bytes: Set32.
-/
import Derived.Test.YtlofceojchlmgaaBld4
import Derived.Test.YtlofceojchlmgaaHeldZ
import Derived.Test.YtlofceojchlmgaaConcat
namespace Go.Proofs.Ytlofceojchlmgaa
set_option linter.unusedVariables false
open Go.RowKit

theorem RdS.lit {w : World} {T : TypeId} {L : List Sl} {cs : Array Value} (hcs : cs.toList = L.map Sl.val) (h : ∀ s ∈ L, Rd w w.heap.size s.A s.xs) : RdS (w.alloc (.cells cs T)) (w.alloc (.cells cs T)).heap.size (some ⟨w.heap.size, 0, none⟩) L := by
  refine ⟨.inr ⟨w.heap.size, 0, rfl, by simp, fun j s hj => ?_⟩, fun s hs => ((h s hs).alloc (Nat.le_refl _) _).more (by simp)⟩
  rw [Nat.zero_add, World.cell?_alloc_at (w := w) _ _ _ _ rfl]
  have : cs.toList[j]? = some s.val := by rw [hcs, List.getElem?_map, hj]; rfl
  simpa using this

theorem below_drewQ {B : Nat} {w w' : World} (h : Below B w w') (n : Nat) : Below B w (w'.drewN n) := ⟨h.os, h.tape, h.output, h.size, h.block⟩
theorem run_upto (A : Option Addr) (n c k : Nat) (hk : k ≤ c) (hkc : (k : Int) ≤ 9223372036854775807) (w : World) : (Instr.slice 22 (.slice A n c) none (some (.int .i64 (k : Int))) none).run Try.prog w = .ok (.slice A k c) w := by
  have hsz := size_of_info (P := Try.prog) (e := Try.prog.elem 22) (by kernel_rfl) w
  rw [run_slice_h (P := Try.prog) (w := w) 22 A n c rfl .i64 (k : Int) (by omega) (by omega), hsz]
  simp only [Result.andThen, sliced, Int.toNat_natCast, Nat.mul_one, Nat.sub_zero, map_add_zero, ite_self]
theorem run_from (A : Option Addr) (n c k : Nat) (z : Int) (hz : z = (k : Int)) (hk : k ≤ n) (w : World) : (Instr.slice 22 (.slice A n c) (some (.int .i64 z)) none none).run Try.prog w = .ok (.slice (if c = k then A else A.map (·.add k)) (n - k) (c - k)) w := by
  subst hz
  have hsz := size_of_info (P := Try.prog) (e := Try.prog.elem 22) (by kernel_rfl) w
  rw [run_slice_l (P := Try.prog) (w := w) 22 A n c rfl .i64 (k : Int) (by omega) (by omega), hsz]
  simp only [Result.andThen, sliced, Int.toNat_natCast, Nat.mul_one]

set_option maxRecDepth 100000 in
set_option maxHeartbeats 1600000 in
theorem do_no (w0 w : World) (g h : Nat) (zs : List UInt8) (hd : Both w0 w g h zs zs) (kd n : Int) (x : Nat) (X : Option Addr) (m cx : Nat) (hn : -9223372036854775808 ≤ n ∧ n ≤ 9223372036854775807) (hlen : zs.length ≤ 1000000)
    (hk0 : (kd == 0) = false) (hk1 : (kd == 1) = false) (hk2 : (kd == 2) = false) (hk3 : (kd == 3) = false) (hk4 : (kd == 4) = false) (hk5 : (kd == 5) = false) (hk6 : (kd == 6) = false) (hX : exB n 4 zs.length = false) :
    Calls Try.prog 31 #[.pointer (some ⟨g, 0, none⟩), .pointer (some ⟨h, 0, none⟩), .agg #[.int .i64 kd, .int .i64 n, .int .u64 (x : Int), .slice X m cx]] w (Done w0 g h zs) := by
  obtain ⟨Ab, cb, A, c, d⟩ := hd
  have hle := d.own.le
  have hh := d.boxed (.cells #[.int .i64 kd, .int .i64 n, .int .u64 (x : Int), .slice X m cx] 60)
  obtain ⟨w1, hw1⟩ : ∃ w1, w1 = w.alloc (.cells #[.int .i64 kd, .int .i64 n, .int .u64 (x : Int), .slice X m cx] 60) := ⟨_, rfl⟩
  have HW1 := Lib.hid hw1
  rw [← hw1] at hh
  obtain ⟨d1, hbox, n1, n2, n3⟩ := hh
  clear hw1
  obtain ⟨k0, k1, k2, k3⟩ := four_cells hbox
  have hc := d1.cell
  have hf := d1.frozen
  have HE := Lib.hid (fun q => refExists_any A zs.length c n 4 (w1.drewN q) (by omega) hn (by omega))
  rw [hX] at HE
  have HD1 := Lib.hid d1
  have HS := Lib.hid (fun w2 (hb : Both w0 w2 g h zs zs) => bothSet32 w0 w2 g h zs zs hb n (x % 4294967296) (by omega) hn (by omega))
  have eV : setV zs n (x % 4294967296) = (zs, false) := by unfold setV; rw [if_neg (by simp [hX])]
  rw [eV] at HS
  clear d d1 hbox n1 n2 n3 hX eV
  go_enter Try.func31, Try.ntmps31
  go_wp2_with fail
  rw [← HW1.out]
  clear HW1
  generalize hb : w.heap.size = b at *
  go_quiet (exact (HE.out _).mono (fun e w'' ⟨he, hw⟩ => ⟨he, _, hw.symm⟩))
  go_wp2_with fail
  refine (HS.out _ ⟨_, _, _, _, HD1.out.next (below_drewQ (Below.refl _ _) nq)⟩).mono ?_
  rintro e w3 ⟨rfl, hb3⟩
  go_wp2_with fail
  go_ret
  exact ⟨rfl, hb3⟩

set_option maxRecDepth 100000 in
set_option maxHeartbeats 4000000 in
theorem do_yes (w0 w : World) (g h : Nat) (zs : List UInt8) (hd : Both w0 w g h zs zs) (kd : Int) (k x : Nat) (X : Option Addr) (m cx : Nat) (hx : x < 18446744073709551616) (hlen : zs.length ≤ 1000000)
    (hk0 : (kd == 0) = false) (hk1 : (kd == 1) = false) (hk2 : (kd == 2) = false) (hk3 : (kd == 3) = false) (hk4 : (kd == 4) = false) (hk5 : (kd == 5) = false) (hk6 : (kd == 6) = false) (hX : k + 4 ≤ zs.length) :
    Calls Try.prog 31 #[.pointer (some ⟨g, 0, none⟩), .pointer (some ⟨h, 0, none⟩), .agg #[.int .i64 kd, .int .i64 (k : Int), .int .u64 (x : Int), .slice X m cx]] w (Done w0 g h (setK zs k x 4)) := by
  obtain ⟨Ab, cb, A, c, d⟩ := hd
  have hle := d.own.le
  have hh := d.boxed (.cells #[.int .i64 kd, .int .i64 (k : Int), .int .u64 (x : Int), .slice X m cx] 60)
  obtain ⟨w1, hw1⟩ : ∃ w1, w1 = w.alloc (.cells #[.int .i64 kd, .int .i64 (k : Int), .int .u64 (x : Int), .slice X m cx] 60) := ⟨_, rfl⟩
  have HW1 := Lib.hid hw1
  rw [← hw1] at hh
  obtain ⟨d1, hbox, n1, n2, n3⟩ := hh
  clear hw1
  have hbl : w.heap.size < w1.heap.size := (Array.getElem?_eq_some_iff.1 hbox).1
  obtain ⟨k0, k1, k2, k3⟩ := four_cells hbox
  have hc := d1.cell
  have hf := d1.frozen
  have HE := Lib.hid (fun q => refExists_any A zs.length c (k : Int) 4 (w1.drewN q) (by omega) (by omega) (by omega))
  rw [exB_true (a := (k : Int)) (n := 4) (len := zs.length) (by omega)] at HE
  have HD1 := Lib.hid d1
  have HBX := Lib.hid hbox
  have HN := Lib.hid n3
  have eV : setV zs (k : Int) (x % 4294967296) = (setK zs k x 4, true) := by
    unfold setV
    rw [if_pos (exB_true (by omega)), setK_four _ _ _ (by simpa using hX), setK_four _ _ _ hX, leB_mod x 4294967296 4 rfl]
    rfl
  have HS := Lib.hid (fun w2 us (hb : Both w0 w2 g h zs us) => bothSet32 w0 w2 g h zs us hb (k : Int) (x % 4294967296) (by omega) (by omega) (by omega))
  rw [eV] at HS
  have HF := Lib.hid (setK_four zs k x hX)
  have hup := run_upto A zs.length c k (by omega) (by omega)
  have hfr := run_from A zs.length c (k + 4) ((k : Int) + 4) (by omega) hX
  obtain ⟨A', hA'⟩ : ∃ A', A' = (if c = k + 4 then A else A.map (·.add (k + 4))) := ⟨_, rfl⟩
  rw [← hA'] at hfr
  have HA' := Lib.hid hA'
  have HLE := Lib.hid hle.1
  have hw4 : IntKind.i64.wrap ((k : Int) + 4) = (k : Int) + 4 := IntWalk.i64_in _ (by omega)
  have HX := Lib.hid hX
  clear d d1 hbox n1 n2 n3 eV hA' hle hX
  go_enter Try.func31, Try.ntmps31
  go_wp2_with fail
  rw [← HW1.out]
  clear HW1
  generalize hb : w.heap.size = b at *
  go_quiet (exact (HE.out _).mono (fun e w'' ⟨he, hw⟩ => ⟨he, _, hw.symm⟩))
  go_wp2_with fail
  have HD2 := Lib.hid (HD1.out.next (below_drewQ (Below.refl _ _) (nq + 1)))
  have k1' : (w1.drewN (nq + 1)).cell? ⟨b, 1, none⟩ = some (.int .i64 (k : Int)) := k1
  have k2' : (w1.drewN (nq + 1)).cell? ⟨b, 2, none⟩ = some (.int .u64 (x : Int)) := k2
  have hc' := HD2.out.cell
  have hb2 : b < (w1.drewN (nq + 1)).heap.size := hbl
  refine wp_region_Z (fun w' => w'.cell? ⟨h, 0, none⟩ = some (.slice A zs.length c) ∧ w'.cell? ⟨b, 1, none⟩ = some (.int .i64 (k : Int)) ∧ w'.cell? ⟨b, 2, none⟩ = some (.int .u64 (x : Int))) 20 (by kernel_rfl) ?_
  show anyZ _ _ _ _ _ _ 21 _ _ (w1.drewN (nq + 1))
  generalize w1.drewN (nq + 1) = w2 at *
  have hS := And.intro hc' (And.intro k1' k2')
  refine anyZ_take 0 (.pointer (some ⟨h, 0, none⟩)) rfl (by kernel_rfl) (by kernel_rfl) (by kernel_rfl) (by kernel_rfl) (fun _ _ _ h => h) (by rfl) hS (fun w' hSw => by obtain ⟨s1, s2, s3⟩ := hSw; go_simp) ?_
  refine anyZ_take 1 (.pointer (some ⟨h, 0, none⟩)) rfl (by kernel_rfl) (by kernel_rfl) (by kernel_rfl) (by kernel_rfl) (fun _ _ _ h => h) (by rfl) hS (fun w' hSw => by obtain ⟨s1, s2, s3⟩ := hSw; go_simp) ?_
  refine anyZ_take 2 (.pointer (some ⟨h, 0, none⟩)) rfl (by kernel_rfl) (by kernel_rfl) (by kernel_rfl) (by kernel_rfl) (fun _ _ _ h => h) (by rfl) hS (fun w' hSw => by obtain ⟨s1, s2, s3⟩ := hSw; go_simp) ?_
  refine anyZ_take 3 (.slice A zs.length c) rfl (by kernel_rfl) (by kernel_rfl) (by kernel_rfl) (by kernel_rfl) (fun _ _ _ h => h) (by rfl) hS (fun w' hSw => by obtain ⟨s1, s2, s3⟩ := hSw; go_simp) ?_
  refine anyZ_take 4 (.pointer (some ⟨b, 1, none⟩)) rfl (by kernel_rfl) (by kernel_rfl) (by kernel_rfl) (by kernel_rfl) (fun _ _ _ h => h) (by rfl) hS (fun w' hSw => by obtain ⟨s1, s2, s3⟩ := hSw; go_simp) ?_
  refine anyZ_take 5 (.int .i64 (k : Int)) rfl (by kernel_rfl) (by kernel_rfl) (by kernel_rfl) (by kernel_rfl) (fun _ _ _ h => h) (by rfl) hS (fun w' hSw => by obtain ⟨s1, s2, s3⟩ := hSw; go_simp) ?_
  refine anyZ_take 6 (.slice A k c) rfl (by kernel_rfl) (by kernel_rfl) (by kernel_rfl) (by kernel_rfl) (fun _ _ _ h => h) (by rfl) hS (fun w' hSw => by obtain ⟨s1, s2, s3⟩ := hSw; go_simp) ?_
  refine anyZ_take 7 (.pointer (some ⟨b, 2, none⟩)) rfl (by kernel_rfl) (by kernel_rfl) (by kernel_rfl) (by kernel_rfl) (fun _ _ _ h => h) (by rfl) hS (fun w' hSw => by obtain ⟨s1, s2, s3⟩ := hSw; go_simp) ?_
  refine anyZ_take 8 (.int .u64 (x : Int)) rfl (by kernel_rfl) (by kernel_rfl) (by kernel_rfl) (by kernel_rfl) (fun _ _ _ h => h) (by rfl) hS (fun w' hSw => by obtain ⟨s1, s2, s3⟩ := hSw; go_simp) ?_
  refine anyZ_take 10 (.pointer (some ⟨h, 0, none⟩)) rfl (by kernel_rfl) (by kernel_rfl) (by kernel_rfl) (by kernel_rfl) (fun _ _ _ h => h) (by rfl) hS (fun w' hSw => by obtain ⟨s1, s2, s3⟩ := hSw; go_simp) ?_
  refine anyZ_take 11 (.pointer (some ⟨h, 0, none⟩)) rfl (by kernel_rfl) (by kernel_rfl) (by kernel_rfl) (by kernel_rfl) (fun _ _ _ h => h) (by rfl) hS (fun w' hSw => by obtain ⟨s1, s2, s3⟩ := hSw; go_simp) ?_
  refine anyZ_take 12 (.slice A zs.length c) rfl (by kernel_rfl) (by kernel_rfl) (by kernel_rfl) (by kernel_rfl) (fun _ _ _ h => h) (by rfl) hS (fun w' hSw => by obtain ⟨s1, s2, s3⟩ := hSw; go_simp) ?_
  refine anyZ_take 13 (.pointer (some ⟨b, 1, none⟩)) rfl (by kernel_rfl) (by kernel_rfl) (by kernel_rfl) (by kernel_rfl) (fun _ _ _ h => h) (by rfl) hS (fun w' hSw => by obtain ⟨s1, s2, s3⟩ := hSw; go_simp) ?_
  refine anyZ_take 14 (.int .i64 (k : Int)) rfl (by kernel_rfl) (by kernel_rfl) (by kernel_rfl) (by kernel_rfl) (fun _ _ _ h => h) (by rfl) hS (fun w' hSw => by obtain ⟨s1, s2, s3⟩ := hSw; go_simp) ?_
  refine anyZ_take 15 (.int .i64 ((k : Int) + 4)) rfl (by kernel_rfl) (by kernel_rfl) (by kernel_rfl) (by kernel_rfl) (fun _ _ _ h => h) (by rfl) hS (fun w' hSw => by obtain ⟨s1, s2, s3⟩ := hSw; go_simp) ?_
  refine anyZ_take 16 (.slice A' (zs.length - (k + 4)) (c - (k + 4))) rfl (by kernel_rfl) (by kernel_rfl) (by kernel_rfl) (by kernel_rfl) (fun _ _ _ h => h) (by rfl) hS (fun w' hSw => by obtain ⟨s1, s2, s3⟩ := hSw; go_simp) ?_
  refine anyZ_next 9 rfl (by kernel_rfl) (fun K hK => ?_)
  rw [if_pos (by rfl)]
  go_simp
  refine (refAppend_any w2.heap.size none 0 0 [] x 4 w2 rfl Rd.nil (Nat.le_refl _) (by omega) hx (by simp)).mono ?_
  rintro e w3 ⟨A3, c3, rfl, ho3, hf3, hb3⟩
  rw [List.nil_append] at ho3
  have k13 := (hb3.cell (p := ⟨b, 1, none⟩) hb2).trans k1'
  have k23 := (hb3.cell (p := ⟨b, 2, none⟩) hb2).trans k2'
  have HD3 := Lib.hid (HD2.out.next hb3)
  have hc3 := HD3.out.cell
  have HO3 := Lib.hid ho3
  have HB3 := Lib.hid hb3
  have hb33 := hb3.size
  clear ho3 hb3
  go_simp
  refine hK _ _ (fun _ => ⟨hc3, k13, k23⟩) ?_
  clear hK K
  have hbb : b < w3.heap.size := by omega
  have hhb := HD3.out.lt
  have hcs : (#[.slice A k c, .slice A3 (leB x 4).length c3, .slice A' (zs.length - (k + 4)) (c - (k + 4))] : Array Value).toList = ([⟨A, c, zs.take k⟩, ⟨A3, c3, leB x 4⟩, ⟨A', c - (k + 4), zs.drop (k + 4)⟩] : List Sl).map Sl.val := by
    have := HX.out
    simp [Sl.val]
    omega
  have hL : ∀ s ∈ ([⟨A, c, zs.take k⟩, ⟨A3, c3, leB x 4⟩, ⟨A', c - (k + 4), zs.drop (k + 4)⟩] : List Sl), Rd w3 w3.heap.size s.A s.xs := by
    intro s hs
    simp only [List.mem_cons, List.not_mem_nil, or_false] at hs
    rcases hs with rfl | rfl | rfl
    · exact HD3.out.own.rd.take k
    · exact HO3.out.rd
    · have h3 := HD3.out.own.rd.part (k + 4) (zs.length - (k + 4)) c HLE.out
      rw [List.take_of_length_le (by simp), ← HA'.out] at h3
      exact h3
  have hcat : catS [⟨A, c, zs.take k⟩, ⟨A3, c3, leB x 4⟩, ⟨A', c - (k + 4), zs.drop (k + 4)⟩] = setK zs k x 4 := by
    rw [HF.out]
    simp [catS]
  have hkl : (setK zs k x 4).length ≤ 140737488355328 := by rw [setK_length]; omega
  have HC := Lib.hid (Concat_any (some ⟨w3.heap.size, 0, none⟩) 3 3 _ _ rfl (RdS.lit (T := 22) hcs hL) (by omega) (by rw [hcat]; exact hkl))
  have HCAT := Lib.hid hcat
  have hc4 : ∀ o, (w3.alloc o).cell? ⟨h, 0, none⟩ = some (.slice A zs.length c) := fun o => (World.cell?_alloc_lt w3 o ⟨h, 0, none⟩ hhb).trans hc3
  have k14 : ∀ o, (w3.alloc o).cell? ⟨b, 1, none⟩ = some (.int .i64 (k : Int)) := fun o => (World.cell?_alloc_lt w3 o ⟨b, 1, none⟩ hbb).trans k13
  have k24 : ∀ o, (w3.alloc o).cell? ⟨b, 2, none⟩ = some (.int .u64 (x : Int)) := fun o => (World.cell?_alloc_lt w3 o ⟨b, 2, none⟩ hbb).trans k23
  have HD4 := Lib.hid (fun o => HD3.out.alloc o)
  clear hcs hL hcat hkl
  refine anyZ_next 17 rfl (by kernel_rfl) (fun K hK => ?_)
  rw [if_pos (by rfl)]
  go_simp
  refine hK _ _ (fun _ => ⟨hc4 _, k14 _, k24 _⟩) ?_
  clear hK K
  refine anyZ_next 18 rfl (by kernel_rfl) (fun K hK => ?_)
  rw [if_pos (by rfl)]
  go_simp
  refine HC.out.mono ?_
  rintro e w5 ⟨A5, c5, rfl, ho5, hf5, hb5⟩
  rw [HCAT.out] at ho5 ⊢
  have hc5 := ((HD4.out _).next hb5).cell
  have hfr5 := ((HD4.out _).next hb5).frozen
  have k15 := (hb5.cell (p := ⟨b, 1, none⟩) (by simp; omega)).trans (k14 _)
  have k25 := (hb5.cell (p := ⟨b, 2, none⟩) (by simp; omega)).trans (k24 _)
  have HD6 := Lib.hid ((HD4.out _).got ho5 (.inr hf5) hb5)
  have hS5 := And.intro hc5 (And.intro k15 k25)
  have k16 := fun u => (World.cell?_setCell_other w5 ⟨h, 0, none⟩ ⟨b, 1, none⟩ u (fun e => by cases e)).trans k15
  have k26 := fun u => (World.cell?_setCell_other w5 ⟨h, 0, none⟩ ⟨b, 2, none⟩ u (fun e => by cases e)).trans k25
  clear ho5 hf5 hb5
  go_simp
  refine hK _ _ (fun _ => hS5) ?_
  clear hK K
  refine anyZ_take 19 (.pointer (some ⟨h, 0, none⟩)) rfl (by kernel_rfl) (by kernel_rfl) (by kernel_rfl) (by kernel_rfl) (fun _ _ _ h => h) (by rfl) hS5 (fun w' hSw => by obtain ⟨s1, s2, s3⟩ := hSw; go_simp) ?_
  refine anyZ_next 20 rfl (by kernel_rfl) (fun K hK => ?_)
  rw [if_pos (by rfl)]
  go_simp
  refine hK _ _ (fun h => absurd rfl h) ?_
  clear hK K
  refine anyZ_done (by kernel_rfl) ?_ _
  go_wp2_with fail
  refine (HS.out _ _ ⟨_, _, _, _, HD6.out⟩).mono ?_
  rintro e w7 ⟨rfl, hb7⟩
  go_wp2_with fail
  go_ret
  exact ⟨rfl, hb7⟩
end Go.Proofs.Ytlofceojchlmgaa
