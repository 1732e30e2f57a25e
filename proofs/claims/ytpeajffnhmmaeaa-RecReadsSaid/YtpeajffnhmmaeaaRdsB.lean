/-
  Rds4 Rds5, merged.
-/
import Derived.Test.YtpeajffnhmmaeaaRdsA
import Derived.Test.YtpeajffnhmmaeaaRecH
import Derived.Test.YtpeajffnhmmaeaaRecI
import Derived.Test.YtpeajffnhmmaeaaRecJ
import Derived.Test.YtpeajffnhmmaeaaRecK
import Derived.Test.YtpeajffnhmmaeaaRecL
import Derived.Test.YtpeajffnhmmaeaaRecM
namespace Go.Proofs.Ytpeajffnhmmaeaa
set_option linter.unusedVariables false
open Go.RowKit

theorem dirty_hit {xs : List UInt8} {a m k : Nat} (h : a + m ≤ xs.length) (h1 : a ≤ k) (h2 : k < a + m) (hz : ∀ j, a ≤ j → j < k → xs.getD j 0 = 0) (hk : xs.getD k 0 ≠ 0) : dirtyV xs a m = k := by
  have e : nzV (part xs a m) = ((k - a : Nat) : Int) := by
    refine nz_found _ _ (by rw [part_length h]; omega) (fun i hi => ?_) ?_
    · unfold part; rw [getD_take _ _ _ (by omega), getD_drop]; exact hz _ (by omega) (by omega)
    · unfold part; rw [getD_take _ _ _ (by omega), getD_drop, show a + (k - a) = k from by omega]; exact hk
  unfold dirtyV
  rw [if_pos (exB_true (by omega)), Int.toNat_natCast, Int.toNat_natCast, e, if_neg (by omega)]
  omega
theorem dirty_clean {xs : List UInt8} {a m : Nat} (h : a + m ≤ xs.length) (hz : ∀ j, a ≤ j → j < a + m → xs.getD j 0 = 0) : dirtyV xs a m = -1 := by
  have e : nzV (part xs a m) = -1 := by
    refine nz_none _ (fun i hi => ?_)
    rw [part_length h] at hi
    unfold part; rw [getD_take _ _ _ (by omega), getD_drop]; exact hz _ (by omega) (by omega)
  unfold dirtyV
  rw [if_pos (exB_true (by omega)), Int.toNat_natCast, Int.toNat_natCast, e, if_pos (by omega)]
/-- the first byte of the padding that is not zero -/
def chkD (xs : List UInt8) (a : Nat) : List (Nat × Nat) → Int × Int
  | [] => (0, 0)
  | p :: r => if 0 ≤ dirtyV xs ((a + p.1 : Nat) : Int) ((p.2 - p.1 : Nat) : Int) then (14, dirtyV xs ((a + p.1 : Nat) : Int) ((p.2 - p.1 : Nat) : Int)) else chkD xs a r
noncomputable def chkN (s : Nat) (xs : List UInt8) (a : Nat) : Int × Int :=
  if 0 ≤ fldV s (part xs a (szR s)) then (15, (a : Int) + fldV s (part xs a (szR s))) else chkD xs a (padR s)
noncomputable def chkV (s : Nat) (xs : List UInt8) (a : Int) : Int × Int := if exB a (szR s) xs.length = true then chkN s xs a.toNat else (8, a)
theorem fldV_range (s : Nat) (xs : List UInt8) : -1 ≤ fldV s xs ∧ fldV s xs ≤ 19 := by
  unfold fldV
  split <;> (repeat' split) <;> omega
theorem fldV_lt {s : Nat} (h1 : 1 ≤ s) (h6 : s ≤ 6) (xs : List UInt8) : fldV s xs < szR s := by
  have hs : s = 1 ∨ s = 2 ∨ s = 3 ∨ s = 4 ∨ s = 5 ∨ s = 6 := by omega
  rcases hs with rfl | rfl | rfl | rfl | rfl | rfl
  · show (if nmB xs 2 4 = true then (-1 : Int) else 2) < (56 : Nat)
    split <;> omega
  · show (-1 : Int) < (24 : Nat)
    omega
  · show (if 7 < (xs.getD 18 0).toNat then (18 : Int) else if 1 < (xs.getD 19 0).toNat then 19 else -1) < (24 : Nat)
    (repeat' split) <;> omega
  · show (if nmB xs 4 12 = true then (if 3 < (xs.getD 5 0).toNat then (5 : Int) else -1) else 4) < (48 : Nat)
    (repeat' split) <;> omega
  · show (-1 : Int) < (8 : Nat)
    omega
  · show (-1 : Int) < (8 : Nat)
    omega
theorem padR_len (s : Nat) : (padR s).length ≤ 2 := by
  unfold padR
  split <;> simp
theorem padR_ok {s : Nat} (h1 : 1 ≤ s) (h6 : s ≤ 6) : ∀ p ∈ padR s, p.1 ≤ p.2 ∧ p.2 ≤ szR s := by
  have hs : s = 1 ∨ s = 2 ∨ s = 3 ∨ s = 4 ∨ s = 5 ∨ s = 6 := by omega
  rcases hs with rfl | rfl | rfl | rfl | rfl | rfl <;> decide
theorem sizeV_szR {s : Nat} (h1 : 1 ≤ s) (h6 : s ≤ 6) : sizeV (s : Int) = ((szR s : Nat) : Int) := by
  have hs : s = 1 ∨ s = 2 ∨ s = 3 ∨ s = 4 ∨ s = 5 ∨ s = 6 := by omega
  rcases hs with rfl | rfl | rfl | rfl | rfl | rfl <;> rfl
theorem szR_range {s : Nat} (h1 : 1 ≤ s) (h6 : s ≤ 6) : 8 ≤ szR s ∧ szR s ≤ 56 := by
  have hs : s = 1 ∨ s = 2 ∨ s = 3 ∨ s = 4 ∨ s = 5 ∨ s = 6 := by omega
  rcases hs with rfl | rfl | rfl | rfl | rfl | rfl <;> decide
theorem drop_get {α : Type} {l : List α} {j : Nat} {g : α} (h : l[j]? = some g) : l.drop j = g :: l.drop (j + 1) := by
  obtain ⟨h1, h2⟩ := List.getElem?_eq_some_iff.1 h
  rw [List.drop_eq_getElem_cons h1, h2]

def ChkOK (v : Int × Int) (w : World) (e : Ending) (w' : World) : Prop := e = .returned (.tuple #[.int .i64 v.1, .int .i64 v.2]) ∧ Below w.heap.size w w'
set_option maxRecDepth 100000 in
set_option maxHeartbeats 4000000 in
theorem Check_any (B : Nat) (A : Option Addr) (c s : Nat) (xs : List UInt8) (a : Int) (w : World) (hR : Rd w B A xs) (hB : B ≤ w.heap.size) (hc : xs.length ≤ c) (hn : c ≤ 9223372036854775807) (ha : -9223372036854775808 ≤ a ∧ a ≤ 9223372036854775807) (h1 : 1 ≤ s) (h6 : s ≤ 6) :
    Calls Try.prog 69 #[.int .i64 (s : Int), .slice A xs.length c, .int .i64 a] w (ChkOK (chkV s xs a) w) := by
  have hS := fun w1 => refSize_any (s : Int) w1
  rw [sizeV_szR h1 h6] at hS
  obtain ⟨z, hz⟩ : ∃ z, z = szR s := ⟨_, rfl⟩
  obtain ⟨z1, z2⟩ := szR_range h1 h6
  rw [← hz] at hS z1 z2
  have HS := Lib.hid hS
  have HX := Lib.hid (refExists_any A xs.length c a (z : Int) w (by omega) ha (by omega))
  clear hS
  cases hx : exB a z xs.length with
  | false =>
    have hv : chkV s xs a = (8, a) := by unfold chkV; rw [← hz, hx]; simp
    rw [hv]
    have HX2 := Lib.hid hx
    clear hx hv hR hz
    go_enter Try.func69, Try.ntmps69
    go_wp2_with fail
    refine (HS.out _).mono ?_
    rintro e w' ⟨rfl, rfl⟩
    go_wp2_with fail
    refine HX.out.mono ?_
    rintro e w' ⟨rfl, rfl⟩
    rw [HX2.out]
    go_wp2
    go_ret2
    exact ⟨rfl, Below.refl _ _⟩
  | true =>
    obtain ⟨x1, x2, x3, x4⟩ := exB_iff.1 hx
    obtain ⟨a, rfl⟩ := Int.eq_ofNat_of_zero_le x1
    have hv : chkV s xs a = chkN s xs a := by unfold chkV; rw [← hz, hx, if_pos rfl, Int.toNat_natCast]
    rw [hv]
    have HX2 := Lib.hid hx
    have hle : a + z ≤ xs.length := by omega
    have hpl : (part xs a z).length = z := part_length hle
    have hpe : part xs a z = List.take (a + z - a) (List.drop a xs) := by unfold part; rw [show a + z - a = z from by omega]
    have hge : ∀ k, k < z → (part xs a z).getD k 0 = xs.getD (a + k) 0 := fun k hk => by unfold part; rw [getD_take _ _ _ hk, getD_drop]
    have HCN := Lib.hid (show chkN s xs a = if 0 ≤ fldV s (part xs a z) then (15, (a : Int) + fldV s (part xs a z)) else chkD xs a (padR s) from by rw [hz]; rfl)
    have hfr := fldV_range s (part xs a z)
    have hfl := fldV_lt h1 h6 (part xs a z)
    rw [← hz] at hfl
    have hpn := padR_len s
    have HF := Lib.hid (fun (A' : Option Addr) (c' : Nat) (w' : World) (hR' : Rd w' B A' (part xs a z)) (hB' : B ≤ w'.heap.size) (hc' : z ≤ c') (hn' : c' ≤ 9223372036854775807) =>
      field_any B A' c' s (part xs a z) w' hR' hB' (by rw [hpl]; exact hc') hn' h1 h6 (by rw [hpl]; exact hz))
    rw [hpl] at HF
    have HP := Lib.hid (fun w' => padding_any s w' h1 h6)
    have HPK := Lib.hid (fun p hp => padR_ok h1 h6 p hp)
    rw [← hz] at HPK
    have HPE := Lib.hid hpe
    have HPL := Lib.hid hpl
    have HGE := Lib.hid hge
    generalize chkN s xs a = v at *
    generalize part xs a z = R at *
    generalize fldV s R = f at *
    clear hx hv hz hpl hpe hge x1 x2 x3 x4
    have e1 : IntKind.i64.wrap ((a : Int) + z) = ((a + z : Nat) : Int) := by rw [IntWalk.i64_in _ (by omega)]; omega
    go_enter Try.func69, Try.ntmps69
    go_wp2_with fail
    refine (HS.out _).mono ?_
    rintro e w' ⟨rfl, rfl⟩
    go_wp2_with fail
    refine HX.out.mono ?_
    rintro e w' ⟨rfl, rfl⟩
    rw [HX2.out]
    go_wp2_with fail
    refine (HS.out _).mono ?_
    rintro e w' ⟨rfl, rfl⟩
    go_wp2_with (refine wpList_cut rfl (.tmp 20) (.tmp 21) (.tmp 25) 22 rfl rfl (by kernel_rfl) A xs.length c a (a + z) rfl rfl rfl (by omega) hle hc B xs rfl hR ?_; intro A' hA'; rw [← HPE.out] at hA')
    refine (HF.out A' (c - a) w hA' hB (by omega) (by omega)).mono ?_
    rintro e w1 ⟨rfl, hb1⟩
    have X1 := Lib.hid (hA'.after hB hb1)
    have B1 := Lib.hid hb1
    clear hA' hR hb1
    by_cases hf : 0 ≤ f
    · have d1 : decide (0 ≤ f) = true := decide_eq_true hf
      have hv := Lib.hid (HCN.out.trans (if_pos hf))
      have e2 : IntKind.i64.wrap ((a : Int) + f) = a + f := IntWalk.i64_in _ (by omega)
      go_wp2
      go_ret2
      exact ⟨by rw [hv.out]; rfl, B1.out⟩
    have d1 : decide (0 ≤ f) = false := decide_eq_false hf
    have HV := Lib.hid (HCN.out.trans (if_neg hf))
    clear hf HCN
    go_wp2_with fail
    refine (HP.out _).mono ?_
    rintro e w2 ⟨g, rfl, hP, hb2⟩
    have X2 := Lib.hid (X1.out.after (Nat.le_trans hB B1.out.size) hb2)
    have B2 := Lib.hid (B1.out.trans (hb2.mono B1.out.size))
    have HPR := Lib.hid hP
    clear hb2 X1 B1 hP d1
    generalize padR s = P at *
    go_wp2_with fail
    go_loop [11] (fun i => ∃ j : Nat, j ≤ P.length ∧ i = .int .i64 (j : Int) ∧ Hid (v = chkD xs a (P.drop j))) (fun i => P.length - (intOf i).toNat)
    case atStart => exact ⟨0, Nat.zero_le _, rfl, HV.out⟩
    case round =>
      obtain ⟨j, hj, rfl, HJ⟩ := hrel
      by_cases hlt : j < P.length
      · obtain ⟨p, hp⟩ : ∃ p, P[j]? = some p := ⟨P[j], List.getElem?_eq_getElem hlt⟩
        obtain ⟨hg, g0, g1⟩ := HPR.out j p hp
        have hok := HPK.out p (List.mem_of_getElem? hp)
        have hdr := drop_get hp
        obtain ⟨p0, p1⟩ := p
        simp only at g0 g1 hok
        have HD := Lib.hid (show v = if 0 ≤ dirtyV xs ((a + p0 : Nat) : Int) ((p1 - p0 : Nat) : Int) then (14, dirtyV xs ((a + p0 : Nat) : Int) ((p1 - p0 : Nat) : Int)) else chkD xs a (P.drop (j + 1)) from by rw [HJ.out, hdr]; rfl)
        clear hdr hp
        go_wp2_with fail
        go_loop [12] (fun i => ∃ k : Nat, p0 ≤ k ∧ k ≤ p1 ∧ i = .int .i64 (k : Int) ∧ Hid (∀ i, p0 ≤ i → i < k → R.getD i 0 = 0)) (fun i => p1 - (intOf i).toNat)
        case atStart => exact ⟨p0, Nat.le_refl _, hok.1, rfl, fun i a1 a2 => by omega⟩
        case round =>
          obtain ⟨k, hk0, hk1, rfl, HZ⟩ := hrel
          by_cases hlt2 : k < p1
          · obtain ⟨bb, o, cn, hA, hbb, hcell, hcn, HCN⟩ := X2.out.byte (k := k) (by rw [HPL.out]; omega)
            subst hA
            have hki : (k : Int) < z := by omega
            by_cases h0 : cn = 0
            · subst h0
              go_wp2
              go_round
              case rel =>
                refine ⟨k + 1, by omega, by omega, by go_num, fun i a1 a2 => ?_⟩
                by_cases e : i = k
                · subst e; apply UInt8.toNat_inj.1; rw [← HCN.out]; rfl
                · exact HZ.out i a1 (by omega)
              case measure => simp [intOf]; omega
            · have hne : ((cn : Int) != 0) = true := by simp; omega
              have hh := dirty_hit (xs := xs) (a := a + p0) (m := p1 - p0) (k := a + k) (by omega) (by omega) (by omega) (fun i a1 a2 => by
                have := HZ.out (i - a) (by omega) (by omega)
                rwa [HGE.out _ (by omega), show a + (i - a) = i from by omega] at this) (fun h => h0 (by rw [HCN.out, HGE.out k (by omega), h]; rfl))
              have hv := HD.out
              rw [hh, if_pos (by omega)] at hv
              have HV2 := Lib.hid hv
              have e2 : IntKind.i64.wrap ((a : Int) + k) = ((a + k : Nat) : Int) := by rw [IntWalk.i64_in _ (by omega)]; omega
              clear hh hv h0
              go_wp2
              go_ret2
              exact ⟨by rw [HV2.out]; first | rfl | simp, B2.out⟩
          · obtain rfl : k = p1 := by omega
            have hh := dirty_clean (xs := xs) (a := a + p0) (m := k - p0) (by omega) (fun i a1 a2 => by
              have := HZ.out (i - a) (by omega) (by omega)
              rwa [HGE.out _ (by omega), show a + (i - a) = i from by omega] at this)
            have hv := HD.out
            rw [hh, if_neg (by omega)] at hv
            have HV2 := Lib.hid hv
            clear hh hv
            go_wp2
            go_round
            case rel => exact ⟨j + 1, by omega, by go_num, HV2⟩
            case measure => simp [intOf]; omega
      · obtain rfl : j = P.length := by omega
        have hv := HJ.out
        rw [List.drop_length] at hv
        have HV2 := Lib.hid hv
        clear hv
        go_wp2
        go_ret2
        exact ⟨by rw [HV2.out]; rfl, B2.out⟩
end Go.Proofs.Ytpeajffnhmmaeaa
namespace Go.Proofs.Ytpeajffnhmmaeaa
set_option linter.unusedVariables false
open Go.RowKit

theorem part_part {xs : List UInt8} {a z k m : Nat} (h : k + m ≤ z) : part (part xs a z) k m = part xs (a + k) m := by
  unfold part
  rw [List.drop_take, List.take_take, List.drop_drop, Nat.min_eq_left (by omega)]
theorem part_getD {xs : List UInt8} {a z k : Nat} (h : k < z) : (part xs a z).getD k 0 = xs.getD (a + k) 0 := by
  unfold part
  rw [getD_take _ _ _ h, getD_drop]
theorem numV_nat {xs : List UInt8} {a m : Nat} (h : a + m ≤ xs.length) : numV xs (a : Int) (m : Int) = le (part xs a m) := by
  rw [numV_yes (exB_true (by omega)), Int.toNat_natCast, Int.toNat_natCast]
theorem numV_part {xs : List UInt8} {a z k m : Nat} (h : k + m ≤ z) (hx : a + z ≤ xs.length) : numV (part xs a z) (k : Int) (m : Int) = numV xs ((a + k : Nat) : Int) (m : Int) := by
  rw [numV_nat (by rw [part_length hx]; omega), numV_nat (by omega), part_part h]
theorem numV_one {xs : List UInt8} {k : Nat} (h : k < xs.length) : numV xs (k : Int) 1 = (xs.getD k 0).toNat := by
  have := numV_nat (xs := xs) (a := k) (m := 1) (by omega)
  rw [show ((1 : Nat) : Int) = 1 from rfl] at this
  rw [this]
  have e : part xs k 1 = [xs.getD k 0] := by
    unfold part
    rw [drop_getD xs k h]
    rfl
  rw [e]
  simp [le]
theorem nameB_part {xs : List UInt8} {a z ln off : Nat} (h1 : ln < z) (h2 : off + 30 ≤ z) (hx : a + z ≤ xs.length) : nameB xs ((a : Int) + ln) ((a : Int) + off) = nmB (part xs a z) ln off := by
  unfold nameB nmB
  rw [part_part h2, part_getD h1, show ((a : Int) + off).toNat = a + off from by omega, show ((a : Int) + ln) = ((a + ln : Nat) : Int) from by omega, numV_one (by omega)]
theorem nameS_part {xs : List UInt8} {a z ln off : Nat} (h1 : ln < z) (h2 : off + 30 ≤ z) (hx : a + z ≤ xs.length) : nameS xs ((a : Int) + ln) ((a : Int) + off) = nmS (part xs a z) ln off := by
  unfold nameS nmS
  rw [part_part h2, part_getD h1, show ((a : Int) + off).toNat = a + off from by omega, show ((a : Int) + ln) = ((a + ln : Nat) : Int) from by omega, numV_one (by omega)]

theorem chkLink (xs : List UInt8) (a : Nat) : chkN 6 xs a = (codeLink xs a, placeLink xs a) := by
  have e0 : fldV 6 (part xs a (szR 6)) = -1 := rfl
  have e1 : chkD xs a (padR 6) = if 0 ≤ dirtyV xs ((a : Int) + 4) 4 then (14, dirtyV xs ((a : Int) + 4) 4) else (0, 0) := rfl
  unfold chkN
  rw [e0, if_neg (by decide), e1]
  unfold codeLink placeLink FCLink FALink DCLink DALink fltC fltA zeroC zeroA
  generalize dirtyV xs ((a : Int) + 4) 4 = d
  by_cases h : 0 ≤ d <;> simp [h]
theorem chkHead (xs : List UInt8) (a : Nat) : chkN 5 xs a = (codeHead xs a, placeHead xs a) := by
  have e0 : fldV 5 (part xs a (szR 5)) = -1 := rfl
  have e1 : chkD xs a (padR 5) = if 0 ≤ dirtyV xs ((a : Int) + 6) 2 then (14, dirtyV xs ((a : Int) + 6) 2) else (0, 0) := rfl
  unfold chkN
  rw [e0, if_neg (by decide), e1]
  unfold codeHead placeHead FCHead FAHead DCHead DAHead fltC fltA zeroC zeroA
  generalize dirtyV xs ((a : Int) + 6) 2 = d
  by_cases h : 0 ≤ d <;> simp [h]
theorem chkWindow (xs : List UInt8) (a : Nat) : chkN 2 xs a = (codeWindow xs a, placeWindow xs a) := by
  have e0 : fldV 2 (part xs a (szR 2)) = -1 := rfl
  have e1 : chkD xs a (padR 2) = if 0 ≤ dirtyV xs ((a : Int) + 18) 6 then (14, dirtyV xs ((a : Int) + 18) 6) else (0, 0) := rfl
  unfold chkN
  rw [e0, if_neg (by decide), e1]
  unfold codeWindow placeWindow FCWindow FAWindow DCWindow DAWindow fltC fltA zeroC zeroA
  generalize dirtyV xs ((a : Int) + 18) 6 = d
  by_cases h : 0 ≤ d <;> simp [h]
theorem chkRegion (xs : List UInt8) (a : Nat) (hx : a + 24 ≤ xs.length) : chkN 3 xs a = (codeRegion xs a, placeRegion xs a) := by
  have e0 : fldV 3 (part xs a 24) = if 7 < ((part xs a 24).getD 18 0).toNat then 18 else if 1 < ((part xs a 24).getD 19 0).toNat then 19 else -1 := rfl
  have e1 : chkD xs a (padR 3) = if 0 ≤ dirtyV xs ((a : Int) + 20) 4 then (14, dirtyV xs ((a : Int) + 20) 4) else (0, 0) := rfl
  rw [part_getD (by omega), part_getD (by omega)] at e0
  unfold chkN
  rw [show szR 3 = 24 from rfl, e0, e1]
  unfold codeRegion placeRegion FCRegion FARegion DCRegion DARegion fltC fltA zeroC zeroA mstC mstA wrC wrA
  rw [show (a : Int) + 18 = ((a + 18 : Nat) : Int) from by omega, show (a : Int) + 19 = ((a + 19 : Nat) : Int) from by omega, numV_one (by omega), numV_one (by omega)]
  generalize dirtyV xs ((a : Int) + 20) 4 = d
  generalize (xs.getD (a + 18) 0).toNat = m
  generalize (xs.getD (a + 19) 0).toNat = n
  by_cases h1 : 7 < m
  · have h1' : (7 : Int) < (m : Int) := by omega
    by_cases h2 : 1 < n
    · have h2' : (1 : Int) < (n : Int) := by omega
      simp [h1, h1', h2, h2']
    · have h2' : ¬ (1 : Int) < (n : Int) := by omega
      simp [h1, h1', h2, h2']
  · have h1' : ¬ (7 : Int) < (m : Int) := by omega
    by_cases h2 : 1 < n
    · have h2' : (1 : Int) < (n : Int) := by omega
      simp [h1, h1', h2, h2']
    · have h2' : ¬ (1 : Int) < (n : Int) := by omega
      by_cases h : 0 ≤ d <;> simp [h, h1, h1', h2, h2']
theorem chkPartition (xs : List UInt8) (a : Nat) (hx : a + 56 ≤ xs.length) : chkN 1 xs a = (codePartition xs a, placePartition xs a) := by
  have e0 : fldV 1 (part xs a 56) = if nmB (part xs a 56) 2 4 = true then -1 else 2 := rfl
  have e1 : chkD xs a (padR 1) = if 0 ≤ dirtyV xs ((a : Int) + 3) 1 then (14, dirtyV xs ((a : Int) + 3) 1) else if 0 ≤ dirtyV xs ((a : Int) + 34) 6 then (14, dirtyV xs ((a : Int) + 34) 6) else (0, 0) := rfl
  have hn := nameB_part (xs := xs) (a := a) (z := 56) (ln := 2) (off := 4) (by omega) (by omega) hx
  rw [← hn] at e0
  unfold chkN
  rw [show szR 1 = 56 from rfl, e0, e1]
  unfold codePartition placePartition FCPartition FAPartition DCPartition DAPartition fltC fltA zeroC zeroA nmC nmA wrC wrA
  show (if 0 ≤ (if nameB xs ((a : Int) + 2) ((a : Int) + 4) = true then (-1 : Int) else 2) then _ else _) = _
  generalize dirtyV xs ((a : Int) + 3) 1 = d
  generalize dirtyV xs ((a : Int) + 34) 6 = f
  cases nameB xs ((a : Int) + 2) ((a : Int) + 4)
  · simp
  · by_cases h : 0 ≤ d
    · simp [h]
    · by_cases h2 : 0 ≤ f <;> simp [h, h2]
theorem chkPort (xs : List UInt8) (a : Nat) (hx : a + 48 ≤ xs.length) : chkN 4 xs a = (codePort xs a, placePort xs a) := by
  have e0 : fldV 4 (part xs a 48) = if nmB (part xs a 48) 4 12 = true then (if 3 < ((part xs a 48).getD 5 0).toNat then 5 else -1) else 4 := rfl
  have e1 : chkD xs a (padR 4) = if 0 ≤ dirtyV xs ((a : Int) + 6) 2 then (14, dirtyV xs ((a : Int) + 6) 2) else if 0 ≤ dirtyV xs ((a : Int) + 42) 6 then (14, dirtyV xs ((a : Int) + 42) 6) else (0, 0) := rfl
  have hn := nameB_part (xs := xs) (a := a) (z := 48) (ln := 4) (off := 12) (by omega) (by omega) hx
  rw [← hn, part_getD (by omega)] at e0
  unfold chkN
  rw [show szR 4 = 48 from rfl, e0, e1]
  unfold codePort placePort FCPort FAPort DCPort DAPort fltC fltA zeroC zeroA mstC mstA nmC nmA wrC wrA
  rw [show (a : Int) + 5 = ((a + 5 : Nat) : Int) from by omega, numV_one (by omega)]
  show (if 0 ≤ (if nameB xs ((a : Int) + 4) ((a : Int) + 12) = true then (if 3 < (xs.getD (a + 5) 0).toNat then (5 : Int) else -1) else 4) then _ else _) = _
  generalize dirtyV xs ((a : Int) + 6) 2 = d
  generalize dirtyV xs ((a : Int) + 42) 6 = f
  generalize (xs.getD (a + 5) 0).toNat = n
  by_cases h3 : 3 < n
  · have h3' : (3 : Int) < (n : Int) := by omega
    cases nameB xs ((a : Int) + 4) ((a : Int) + 12) <;> simp [h3, h3']
  · have h3' : ¬ (3 : Int) < (n : Int) := by omega
    cases nameB xs ((a : Int) + 4) ((a : Int) + 12)
    · simp [h3, h3']
    · by_cases h : 0 ≤ d
      · simp [h, h3, h3']
      · by_cases h2 : 0 ≤ f <;> simp [h, h2, h3, h3']
end Go.Proofs.Ytpeajffnhmmaeaa
