/-
  What the law TableLimits computes: true.
-/
import Derived.Test.YthnognjcbjgkbaaTab21
import Derived.Test.YthnognjcbjgkbaaLawReads10
namespace Go.Proofs.Ythnognjcbjgkbaa
set_option linter.unusedVariables false
open Go.RowKit Go.Shelf

set_option maxRecDepth 100000 in
set_option maxHeartbeats 1000000 in
theorem TableLimits_any (x : Int) (w : World) (hx : 0 ≤ x ∧ x ≤ 255) : Calls Try.prog 7 #[.int .u8 x] w (AliveOK w) := by
  obtain ⟨s, hs⟩ : ∃ s : Nat, 1 + x % 6 = (s : Int) := ⟨(1 + x % 6).toNat, by omega⟩
  have hsr : 1 ≤ s ∧ s ≤ 6 := by omega
  have HS := Lib.hid hs
  obtain ⟨h1, h6⟩ := hsr
  have hs7 : (s : Int) < 7 := by omega
  have hl := limN_le s
  obtain ⟨L, hL⟩ : ∃ L : Nat, L = limN s := ⟨_, rfl⟩
  have HL := Lib.hid hL
  rw [← hL] at hl
  clear hs hL
  have z0 : (Value.agg (cntA zeroF)) = .agg #[.int .i64 0, .int .i64 0, .int .i64 0, .int .i64 0, .int .i64 0, .int .i64 0, .int .i64 0] := rfl
  go_enter Try.func7, Try.ntmps7
  go_wp2_with fail
  rw [HS.out]
  refine (Limit_any (s : Int) _).mono ?_
  rintro e w' ⟨rfl, rfl⟩
  rw [limN_limV, ← HL.out]
  have R0 := heap_alloc_new w (.cells (cntA zeroF) 23)
  have k0 := cnt_cell R0 s (by omega)
  have kf := tab_free R0 s
  have kz : (w.alloc (.cells #[.int .i64 0, .int .i64 0, .int .i64 0, .int .i64 0, .int .i64 0, .int .i64 0, .int .i64 0] 23)) = w.alloc (.cells (cntA zeroF) 23) := rfl
  rw [kz]
  clear kz R0
  go_upto_region 4 with fail
  clear k0 kf
  rw [cntA_set _ s (by omega)]
  obtain ⟨c1, hc1⟩ : ∃ c : Nat → Int, c = upd zeroF s (L : Int) := ⟨_, rfl⟩
  rw [← hc1]
  have R1 := Lib.hid (heap_alloc_new w (.cells (cntA c1) 23))
  have B1 := Lib.hid ((Below.refl w.heap.size w).alloc (Nat.le_refl _) (.cells (cntA c1) 23))
  generalize w.alloc (.cells (cntA c1) 23) = w1 at *
  have hcs : c1 s = (L : Int) := by rw [hc1, upd_same]
  have hok : okT c1 6 := by rw [hc1, HL.out]; exact okT_lim h1 h6
  have CS := Lib.hid hcs
  clear hc1 hcs
  have hA := fun w1 => For_res 5 c1 w1
  rw [tabR_true hok, okB_true hok] at hA
  have hcc : cntO c1 s = (L : Int) := by unfold cntO; rw [if_neg (by omega)]; exact CS.out
  have CC := Lib.hid hcc
  unfold tabT at hA
  generalize totT c1 = t1 at hA
  generalize offO c1 = o1 at hA
  generalize cntO c1 = cc at *
  have HA := Lib.hid hA
  clear hA hcc hok
  have s1 := store_new (tabA 5 t1 o1 cc) rfl (tab_all _ _ _ _) 25
  obtain ⟨k0, k1, k2, k3, k4, k5, k6⟩ := seven_cells R1.out
  have bz : w.heap.size < w1.heap.size := (Array.getElem?_eq_some_iff.1 R1.out).1
  go_wp2_with fail
  refine (HA.out _).mono ?_
  rintro e w2 ⟨rfl, hb2⟩
  clear k0 k1 k2 k3 k4 k5 k6
  have hs2 := hb2.size
  have B2 := Lib.hid ((B1.out.trans (hb2.mono B1.out.size)).alloc (by omega) (.cells (tabA 5 t1 o1 cc) 25))
  have R2 := Lib.hid ((Below.heap_alloc w2 (.cells (tabA 5 t1 o1 cc) 25) w.heap.size (by omega)).trans ((hb2.block w.heap.size bz).trans R1.out))
  have T2 := Lib.hid (heap_alloc_new w2 (.cells (tabA 5 t1 o1 cc) 25))
  have g2 : w.heap.size < w2.heap.size := by omega
  clear hb2 R1 B1 bz
  go_upto_region 5 with fail
  generalize hW3 : w2.alloc (.cells (tabA 5 t1 o1 cc) 25) = w3 at *
  obtain ⟨gt, hgt⟩ : ∃ gt, gt = w2.heap.size := ⟨_, rfl⟩
  rw [← hgt] at T2 g2 ⊢
  clear hW3 hgt hs2 s1
  have k0 := cnt_cell R2.out s (by omega)
  rw [CS.out] at k0
  have kf := tab_free R2.out s
  go_upto_region 6 with fail
  have R3 := Lib.hid (cnt_set R2.out s (by omega) ((L : Int) + 1))
  have B3 := Lib.hid (B2.out.setCell (p := ⟨w.heap.size, s, none⟩) (Nat.le_refl _) (.int .i64 ((L : Int) + 1)))
  have T3 := Lib.hid ((Below.heap_setCell w3 ⟨w.heap.size, s, none⟩ (.int .i64 ((L : Int) + 1)) gt (by show gt ≠ w.heap.size; omega)).trans T2.out)
  clear k0 kf R2 B2 T2
  generalize w3.setCell ⟨w.heap.size, s, none⟩ (.int .i64 ((L : Int) + 1)) = w4 at *
  obtain ⟨c2, hc2⟩ : ∃ c : Nat → Int, c = upd c1 s ((L : Int) + 1) := ⟨_, rfl⟩
  rw [← hc2] at R3
  have hok : ¬ okT c2 6 := by rw [hc2, HL.out]; exact not_okT_lim h1 h6 c1
  have CS2 : Hid (c2 s = (L : Int) + 1) := by show _ = _; rw [hc2, upd_same]
  have hA := fun w1 => For_res 5 c2 w1
  rw [tabR_false hok, okB_false hok] at hA
  have HA2 := Lib.hid hA
  clear hA hok hc2 CS HA
  have s2 := store_new tabZ rfl (tab_all _ _ _ _) 25
  obtain ⟨k0, k1, k2, k3, k4, k5, k6⟩ := seven_cells R3.out
  have bz : gt < w4.heap.size := (Array.getElem?_eq_some_iff.1 T3.out).1
  go_wp2_with fail
  refine (HA2.out _).mono ?_
  rintro e w5 ⟨rfl, hb5⟩
  clear k0 k1 k2 k3 k4 k5 k6
  have hs5 := hb5.size
  have B5 := Lib.hid ((B3.out.trans (hb5.mono B3.out.size)).alloc (by omega) (.cells tabZ 25))
  have R5 := Lib.hid ((Below.heap_alloc w5 (.cells tabZ 25) w.heap.size (by omega)).trans ((hb5.block w.heap.size (by omega)).trans R3.out))
  have T5 := Lib.hid ((Below.heap_alloc w5 (.cells tabZ 25) gt (by omega)).trans ((hb5.block gt bz).trans T3.out))
  have U5 := Lib.hid (heap_alloc_new w5 (.cells tabZ 25))
  clear hb5 R3 B3 T3 HA2
  go_upto_region 7 with fail
  have g5 : gt < w5.heap.size := by omega
  generalize w5.alloc (.cells tabZ 25) = w6 at *
  generalize w5.heap.size = gu at *
  clear s2 hs5
  have hz := tab_cells (o := fun _ => 0) (c := fun _ => 0) U5.out
  obtain ⟨k0, k1, k2, k3, k4, k5, k6, k7, k8, k9, k10, k11, k12, k13, k14, k15⟩ := hz
  have hT := fun w1 => refFor_res 5 zeroF w1
  have hok : okT zeroF 6 := ok0
  rw [tabR_true hok, okB_true hok] at hT
  unfold tabT at hT
  rw [totT_zero] at hT
  have HT := Lib.hid hT
  clear hT hok U5
  have e1 := eq7_lit 0 0 0 0 0 0 0
  go_upto_region 9 with fail
  clear k0 k1 k2 k3 k4 k5 k6 k7 k8 k9 k10 k11 k12 k13 k14 k15 e1
  have s3 := store_new (tabA 5 84 (offO zeroF) (cntO zeroF)) rfl (tab_all _ _ _ _) 28
  obtain ⟨H, hH⟩ : ∃ H : List UInt8, H = hdrB 84 5 (offO zeroF) (cntO zeroF) := ⟨_, rfl⟩
  have hl8 : H.length = 80 := by rw [hH, hdrB_len]
  have hD := fun w1 => Header_any 84 5 (offO zeroF) (cntO zeroF) w1 (by omega) (by omega) offO_zero cntO_zero
  have hH' : hdrB ((84 : Nat) : Int) ((5 : Nat) : Int) (offO zeroF) (cntO zeroF) = H := hH.symm
  rw [hH'] at hD
  have HH := Lib.hid hH
  have HD := Lib.hid hD
  have LH := Lib.hid hl8
  clear hH hH' hl8 hD
  generalize offO zeroF = oz at HT HD s3
  generalize cntO zeroF = cz at HT HD s3
  have g6 : gt < w6.heap.size := (Array.getElem?_eq_some_iff.1 T5.out).1
  go_wp2_with fail
  refine (HT.out _).mono ?_
  rintro e w7 ⟨rfl, hb7⟩
  have hs7' := hb7.size
  have B7 := Lib.hid ((B5.out.trans (hb7.mono B5.out.size)).alloc (by omega) (.cells (tabA 5 84 oz cz) 28))
  have R7 := Lib.hid ((Below.heap_alloc w7 (.cells (tabA 5 84 oz cz) 28) w.heap.size (by omega)).trans ((hb7.block w.heap.size (by omega)).trans R5.out))
  have T7 := Lib.hid ((Below.heap_alloc w7 (.cells (tabA 5 84 oz cz) 28) gt (by omega)).trans ((hb7.block gt g6).trans T5.out))
  have V7 := Lib.hid (heap_alloc_new w7 (.cells (tabA 5 84 oz cz) 28))
  have g7 : gt < w7.heap.size := by omega
  clear hb7 R5 B5 T5
  go_upto_region 10 with fail
  clear s3 hs7' g6 HT
  generalize w7.alloc (.cells (tabA 5 84 oz cz) 28) = w8 at *
  generalize w7.heap.size = gv at *
  obtain ⟨k0, k1, k2, k3, k4, k5, k6, k7, k8, k9, k10, k11, k12, k13, k14, k15⟩ := tab_cells V7.out
  have g8 : gt < w8.heap.size := (Array.getElem?_eq_some_iff.1 T7.out).1
  go_wp2_with fail
  refine (HD.out _).mono ?_
  rintro e w9 ⟨A9, c9, rfl, ho, hf, hb9⟩
  rw [LH.out]
  have HO := Lib.hid ho
  have HF := Lib.hid hf
  have HB := Lib.hid hb9
  clear ho hf hb9 k0 k1 k2 k3 k4 k5 k6 k7 k8 k9 k10 k11 k12 k13 k14 k15 V7 HD
  go_upto_region 11 with (at_builtin; go_loud (refine wpList_app rfl (.tmp 54) (.tmp 55) 44 rfl Try.underlying44 infoU8 A9 80 c9 H LH.out rfl (HO.out.alloc _) (w9.heap.size + 1) _ 4 4 [0, 0, 0, 0] rfl rfl (Rd.lit w9 #[.int .u8 0, .int .u8 0, .int .u8 0, .int .u8 0] [0, 0, 0, 0] rfl) (by rw [LH.out]; decide) ?_); intro A10 c10 w10 hown hg hat hnn; have hbg : Hid (Below w8.heap.size w8 w10) := (HB.out.alloc HB.out.size _).grown hg (by have := HB.out.size; simp; omega) (fun k e => HF.out k e); have hfr : Hid (Fresh w8 A10) := fun k hk => by (rcases hat with h | h; exact HF.out k (h ▸ hk); (have h7 := Option.some.inj (h.symm.trans hk); have := HB.out.size; simp at h7; omega)))
  have HO10 := Lib.hid hown
  clear hown hg hat hnn HO HF HB
  have l10 : Hid ((H ++ [0, 0, 0, 0]).length = 84) := by show _ = _; rw [List.length_append, LH.out]; rfl
  have bw : w.heap.size < w8.heap.size := by omega
  have R10 := (hbg.out.block w.heap.size bw).trans R7.out
  have T10 := Lib.hid ((hbg.out.block gt g8).trans T7.out)
  have B10 := Lib.hid (B7.out.trans (hbg.out.mono B7.out.size))
  have G10 := Lib.hid (show gt < w10.heap.size from Nat.lt_of_lt_of_le g8 hbg.out.size)
  have k0 := cnt_cell R10 s (by omega)
  rw [CS2.out] at k0
  have FR : Hid (∀ k, blk A10 = some k → gt < k) := fun k hk => Nat.lt_of_lt_of_le g8 (hfr.out k hk)
  clear R10 hbg hfr R7 T7 B7 CS2 g7 g8 bw
  go_upto_region 12 with fail
  rw [show H.length + 4 = 84 from by rw [LH.out]]
  obtain ⟨X, hX⟩ : ∃ X : List UInt8, X = H ++ [0, 0, 0, 0] := ⟨_, rfl⟩
  rw [← hX] at HO10 l10
  have HX := Lib.hid hX
  clear hX k0
  obtain ⟨g, n1, rfl, c0, f0, hn1, hh1⟩ := HO10.out.byteAt (k := 28 + 8 * s) (by rw [l10.out]; omega)
  obtain ⟨g', n2, hgg, c1', f1, hn2, hh2⟩ := HO10.out.byteAt (k := 29 + 8 * s) (by rw [l10.out]; omega)
  obtain rfl : g = g' := by injection hgg with h; injection h
  have e28 : (28 + 8 * (s : Int)).toNat = 28 + 8 * s := by omega
  have e29 : (29 + 8 * (s : Int)).toNat = 29 + 8 * s := by omega
  have r28 : 28 + 8 * (s : Int) < 84 := by omega
  have r29 : 29 + 8 * (s : Int) < 84 := by omega
  have O1 := Lib.hid (HO10.out.set_ (28 + 8 * s) (UInt8.ofNat ((L + 1) % 256)) (((L : Int) + 1) % 256) (by rw [UInt8.toNat_ofNat']; omega))
  have O2 := Lib.hid (O1.out.set_ (29 + 8 * s) (UInt8.ofNat ((L + 1) / 256)) (((L : Int) + 1) / 256) (by rw [UInt8.toNat_ofNat']; omega))
  clear hgg hh1 hh2
  go_upto_region 13 with fail
  have B11 := Lib.hid ((B10.out.setCell (p := ⟨g, 28 + 8 * s, none⟩) (by have := FR.out g rfl; show w.heap.size ≤ g; omega) (.int .u8 (((L : Int) + 1) % 256))).setCell (p := ⟨g, 29 + 8 * s, none⟩) (by have := FR.out g rfl; show w.heap.size ≤ g; omega) (.int .u8 (((L : Int) + 1) / 256)))
  have T11 := Lib.hid ((Below.heap_setCell (w10.setCell ⟨g, 28 + 8 * s, none⟩ (.int .u8 (((L : Int) + 1) % 256))) ⟨g, 29 + 8 * s, none⟩ (.int .u8 (((L : Int) + 1) / 256)) gt (by have := FR.out g rfl; show gt ≠ g; omega)).trans ((Below.heap_setCell w10 ⟨g, 28 + 8 * s, none⟩ (.int .u8 (((L : Int) + 1) % 256)) gt (by have := FR.out g rfl; show gt ≠ g; omega)).trans T10.out))
  have hYV : getV ((X.set (28 + 8 * s) (UInt8.ofNat ((L + 1) % 256))).set (29 + 8 * s) (UInt8.ofNat ((L + 1) / 256))) = (7, 28 + 8 * (s : Int)) := by
    rw [HX.out, HH.out, HL.out]
    exact limB_get s h1 h6
  have hYL : ((X.set (28 + 8 * s) (UInt8.ofNat ((L + 1) % 256))).set (29 + 8 * s) (UInt8.ofNat ((L + 1) / 256))).length = 84 := by rw [List.length_set, List.length_set, l10.out]
  have hYT : getT ((X.set (28 + 8 * s) (UInt8.ofNat ((L + 1) % 256))).set (29 + 8 * s) (UInt8.ofNat ((L + 1) / 256))) = tabZ := by unfold getT; rw [hYV]; rfl
  generalize (X.set (28 + 8 * s) (UInt8.ofNat ((L + 1) % 256))).set (29 + 8 * s) (UInt8.ofNat ((L + 1) / 256)) = Y at *
  have hs11 : w10.heap.size ≤ ((w10.setCell ⟨g, 28 + 8 * s, none⟩ (.int .u8 (((L : Int) + 1) % 256))).setCell ⟨g, 29 + 8 * s, none⟩ (.int .u8 (((L : Int) + 1) / 256))).heap.size := by simp [World.setCell]
  generalize (w10.setCell ⟨g, 28 + 8 * s, none⟩ (.int .u8 (((L : Int) + 1) % 256))).setCell ⟨g, 29 + 8 * s, none⟩ (.int .u8 (((L : Int) + 1) / 256)) = w11 at *
  have hG := Get_any w11.heap.size (some ⟨g, 0, none⟩) c10 Y w11 O2.out.rd (Nat.le_refl _) O2.out.le.1 O2.out.le.2
  have hOK : GetOK Y w11 = fun e w' => e = .returned (.tuple #[.agg tabZ, .agg (fltA 7 (28 + 8 * (s : Int)))]) ∧ Below w11.heap.size w11 w' := by
    unfold GetOK; rw [hYT, hYV]; rfl
  rw [hYL, hOK] at hG
  have g11 : gt < w11.heap.size := by have := G10.out; omega
  have HG := Lib.hid hG
  clear hG hOK hYV hYL hYT O2 O1 HO10 hs11 T10 B10 G10 FR HX l10 c0 c1' f0 f1 e28 e29 r28 r29
  go_wp2_with fail
  refine HG.out.mono ?_
  rintro e w12 ⟨rfl, hb12⟩
  have hs12 := hb12.size
  have hb2 := (B11.out.trans (hb12.mono B11.out.size)).trans ((((Below.refl w12.heap.size w12).alloc (Nat.le_refl _) (.cells tabZ 25)).alloc (by simp) (.cells (fltA 0 0) 47)).mono (by have := B11.out.size; omega))
  have r1 := (Below.heap_alloc (w12.alloc (.cells tabZ 25)) (.cells (fltA 0 0) 47) w12.heap.size (by simp)).trans (heap_alloc_new w12 (.cells tabZ 25))
  have r2 := heap_alloc_new (w12.alloc (.cells tabZ 25)) (.cells (fltA 0 0) 47)
  rw [World.size_alloc] at r2
  have r2' := (setRow_other ((w12.alloc (.cells tabZ 25)).alloc (.cells (fltA 0 0) 47)) w12.heap.size (w12.heap.size + 1) tabZ (by omega)).trans r2
  have R2 := Lib.hid (setRow_heap _ (w12.heap.size + 1) (fltA 0 0) (fltA 7 (28 + 8 * (s : Int))) 47 (0, 0) r2')
  have T2 := Lib.hid ((setRow_other (((w12.alloc (.cells tabZ 25)).alloc (.cells (fltA 0 0) 47)).setRow w12.heap.size tabZ) (w12.heap.size + 1) gt (fltA 7 (28 + 8 * (s : Int))) (by omega)).trans ((setRow_other ((w12.alloc (.cells tabZ 25)).alloc (.cells (fltA 0 0) 47)) w12.heap.size gt tabZ (by omega)).trans ((Below.heap_alloc (w12.alloc (.cells tabZ 25)) (.cells (fltA 0 0) 47) gt (by simp; omega)).trans ((Below.heap_alloc w12 (.cells tabZ 25) gt (by omega)).trans ((hb12.block gt g11).trans T11.out)))))
  have hww : w.heap.size ≤ w12.heap.size := Nat.le_trans B11.out.size hs12
  have B2 := Lib.hid (setRow_below (setRow_below hb2 hww tabZ) (show w.heap.size ≤ w12.heap.size + 1 from Nat.le_succ_of_le hww) (fltA 7 (28 + 8 * (s : Int))))
  have RA := Lib.hid r1
  have RB := Lib.hid r2'
  clear hb12 hb2 r1 r2 r2' B11 T11 HG
  go_upto_region 14 with (first | (refine wpList_store_rowTo rfl 25 (.tmp 13) (.tmp 79) rfl rfl w12.heap.size tabZ rfl rfl 25 tabZ RA.out infoT rfl (tab_all _ _ _ _) ?_) | (refine wpList_store_rowTo rfl 47 (.tmp 14) (.tmp 80) rfl rfl (w12.heap.size + 1) (fltA 7 (28 + 8 * (s : Int))) rfl rfl 47 (fltA 0 0) RB.out infoF rfl (flt_all _ _) ?_))
  rw [show (Obj.cells #[Value.int IntKind.u64 0, Value.int IntKind.i64 0, Value.int IntKind.i64 0, Value.int IntKind.i64 0, Value.int IntKind.i64 0, Value.int IntKind.i64 0, Value.int IntKind.i64 0, Value.int IntKind.i64 0, Value.int IntKind.i64 0, Value.int IntKind.i64 0, Value.int IntKind.i64 0, Value.int IntKind.i64 0, Value.int IntKind.i64 0, Value.int IntKind.i64 0, Value.int IntKind.i64 0, Value.int IntKind.i64 0] 25) = .cells tabZ 25 from rfl, show (Obj.cells #[Value.int IntKind.i64 0, Value.int IntKind.i64 0, Value.int IntKind.i64 0] 47) = .cells (fltA 0 0) 47 from rfl]
  generalize ((((w12.alloc (.cells tabZ 25)).alloc (.cells (fltA 0 0) 47)).setRow w12.heap.size tabZ).setRow (w12.heap.size + 1) (fltA 7 (28 + 8 * (s : Int)))) = w13 at *
  generalize w12.heap.size = q at *
  have hl1 := (Array.getElem?_eq_some_iff.1 R2.out).1
  have hl2 := (Array.getElem?_eq_some_iff.1 T2.out).1
  clear RA RB hww hs12 g11
  go_wp2_with fail
  refine (alive10 w13).mono ?_
  rintro e w14 ⟨rfl, hb14⟩
  have q1 := (hb14.block gt hl2).trans T2.out
  have q2 := (hb14.block (q + 1) hl1).trans R2.out
  have B14 := Lib.hid (B2.out.trans (hb14.mono B2.out.size))
  have t0 := (tab_cell q1 s (by omega)).2
  rw [CC.out] at t0
  obtain ⟨f0, f1, f2⟩ := three_cells q2
  clear hb14 q1 q2 R2 T2 B2 hl1 hl2
  have e1 : ((L : Int) + 1 - 1) = (L : Int) := by omega
  go_wp2
  go_ret
  exact ⟨by simp, B14.out⟩
end Go.Proofs.Ythnognjcbjgkbaa
