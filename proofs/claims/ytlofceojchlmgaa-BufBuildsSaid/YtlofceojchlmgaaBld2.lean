/-
  Contract of (*Builder).Set32.
-/
import Derived.Test.YtlofceojchlmgaaBld1
import Derived.RegionTactic
import Derived.ChangeAlike
namespace Go.Proofs.Ytlofceojchlmgaa
set_option linter.unusedVariables false
open Go.RowKit

/-- four bytes replaced, k of them done -/
def setK (zs : List UInt8) (n x : Nat) : Nat → List UInt8
  | 0 => zs
  | k + 1 => (setK zs n x k).set (n + k) (UInt8.ofNat (x / 2 ^ (8 * k)))
theorem setK_length (zs : List UInt8) (n x k : Nat) : (setK zs n x k).length = zs.length := by
  induction k with
  | zero => rfl
  | succ k ih => simp [setK, ih]
def setV (zs : List UInt8) (n : Int) (x : Nat) : List UInt8 × Bool := if exB n 4 zs.length = true then (setK zs n.toNat x 4, true) else (zs, false)
theorem setK_get (zs : List UInt8) (n x : Nat) : ∀ (k : Nat), n + k ≤ zs.length → ∀ i, (setK zs n x k)[i]? = if n ≤ i ∧ i < n + k then some (UInt8.ofNat (x / 2 ^ (8 * (i - n)))) else zs[i]?
  | 0, _, i => by rw [if_neg (by omega)]; rfl
  | k + 1, h, i => by
    rw [setK, List.getElem?_set, setK_get zs n x k (by omega)]
    have hl := setK_length zs n x k
    by_cases e : n + k = i
    · subst e
      rw [if_pos rfl, if_pos (by omega), if_pos (by omega)]
      rw [show n + k - n = k from by omega]
    · rw [if_neg e]
      by_cases h2 : n ≤ i ∧ i < n + k
      · rw [if_pos h2, if_pos (by omega)]
      · rw [if_neg h2, if_neg (by omega)]
theorem setK_four (zs : List UInt8) (n x : Nat) (h : n + 4 ≤ zs.length) : setK zs n x 4 = zs.take n ++ leB x 4 ++ zs.drop (n + 4) := by
  apply List.ext_getElem?
  intro i
  rw [setK_get zs n x 4 h]
  have hl := leB_length x 4
  by_cases h1 : i < n
  · rw [if_neg (by omega), List.append_assoc, List.getElem?_append_left (by simp; omega), List.getElem?_take, if_pos h1]
  · by_cases h2 : i < n + 4
    · rw [if_pos (by omega), List.append_assoc, List.getElem?_append_right (by simp; omega), List.getElem?_append_left (by simp [hl]; omega)]
      simp only [List.length_take, Nat.min_eq_left (show n ≤ zs.length by omega)]
      have hj : i - n < 4 := by omega
      unfold leB
      rw [List.getElem?_map, List.getElem?_range hj]
      rfl
    · rw [if_neg (by omega), List.getElem?_append_right (by simp [hl]; omega), List.getElem?_drop]
      congr 1
      simp [hl]
      omega

set_option maxHeartbeats 400000 in
theorem Set32_no (g c : Nat) (A : Option Addr) (zs : List UInt8) (n x : Int) (w : World) (hb : Bld w g A c zs) (hn : -9223372036854775808 ≤ n ∧ n ≤ 9223372036854775807) (hl : zs.length ≤ 140737488355328) (h : exB n 4 zs.length = false) :
    Calls Try.prog 29 #[.pointer (some ⟨g, 0, none⟩), .int .i64 n, .int .u32 x] w fun e w' => e = .returned (.bool false) ∧ w = w' := by
  have hc := hb.cell
  have H := Lib.hid (exists_any A zs.length c n 4 w (by omega) hn (by omega))
  have HX := Lib.hid h
  clear hb h
  go_enter Try.func29, Try.ntmps29
  go_wp2_with fail
  refine H.out.mono ?_
  rintro e w' ⟨rfl, rfl⟩
  rw [HX.out]
  go_wp2_with fail
  go_ret
  exact ⟨rfl, rfl⟩

theorem Bld.set_ {w : World} {g gb c : Nat} {zs : List UInt8} (h : Bld w g (some ⟨gb, 0, none⟩) c zs) (k : Nat) (x : UInt8) (z : Int) (hz : z = (x.toNat : Int)) : Bld (w.setCell ⟨gb, k, none⟩ (.int .u8 z)) g (some ⟨gb, 0, none⟩) c (zs.set k x) := by
  have hne : g ≠ gb := fun e => h.ne (by rw [e]; rfl)
  refine ⟨?_, h.own.set_ k x z hz⟩
  rw [List.length_set]
  exact (Below.heap_setCell _ _ _ _ (by show g ≠ gb; exact hne)).trans h.obj

theorem Bld.drew' {w : World} {g c : Nat} {A : Option Addr} {zs : List UInt8} (h : Bld w g A c zs) : Bld w.drew g A c zs := ⟨h.obj, h.own⟩

set_option maxHeartbeats 1600000 in
theorem Set32_yes (g c gb : Nat) (zs : List UInt8) (n x : Nat) (w : World) (hb : Bld w g (some ⟨gb, 0, none⟩) c zs) (hx : x < 4294967296) (hl : zs.length ≤ 140737488355328) (h : n + 4 ≤ zs.length) :
    Calls Try.prog 29 #[.pointer (some ⟨g, 0, none⟩), .int .i64 (n : Int), .int .u32 (x : Int)] w fun e w' => e = .returned (.bool true) ∧ Bld w' g (some ⟨gb, 0, none⟩) c (setK zs n x 4) ∧ Chg (fun k => k = gb) w w' := by
  have hc := hb.cell
  have HB := Lib.hid hb
  have H := Lib.hid (exists_any (some ⟨gb, 0, none⟩) zs.length c (n : Int) 4 w (by omega) (by omega) (by omega))
  have HX := Lib.hid (exB_true (a := (n : Int)) (n := 4) (len := zs.length) (by omega))
  have HL := Lib.hid (setK_length zs n x)
  have HS : Hid (∀ k, setK zs n x (k + 1) = (setK zs n x k).set (n + k) (UInt8.ofNat (x / 2 ^ (8 * k)))) := fun _ => rfl
  clear hb
  go_enter Try.func29, Try.ntmps29
  go_wp2_with fail
  refine H.out.mono ?_
  rintro e w' ⟨rfl, rfl⟩
  rw [HX.out]
  clear hc
  go_wp2_with fail
  go_loopw [19] (fun i wr => ∃ k : Nat, k ≤ 4 ∧ i = .int .i64 (k : Int) ∧ Bld wr g (some ⟨gb, 0, none⟩) c (setK zs n x k) ∧ Chg (fun k => k = gb) w wr) (fun i _ => 4 - (intOf i).toNat)
  case atStart => exact ⟨0, Nat.zero_le _, rfl, HB.out, Chg.refl _ _⟩
  case round =>
    obtain ⟨k, hk, rfl, hb1, hc1⟩ := hrel
    have HB1 := Lib.hid hb1
    have HC1 := Lib.hid hc1
    have hcell := hb1.cell
    rw [HL.out] at hcell
    by_cases hlt : k < 4
    · obtain ⟨g2, cn, e2, hbyte, hfr, hcn, HCN⟩ := hb1.own.byteAt (k := n + k) (by rw [HL.out]; omega)
      injection e2 with e2
      injection e2 with e2 _ _
      subst e2
      have hi0 : ((n : Int) + (k : Int)) < (zs.length : Int) := by omega
      have hw1 : IntKind.i64.wrap ((n : Int) + (k : Int)) = (n : Int) + (k : Int) := IntWalk.i64_in _ (by omega)
      have hnat : ((n : Int) + (k : Int)).toNat = n + k := by omega
      clear hb1 hc1
      go_wp2_with fail
      obtain ⟨wz, rfl⟩ : ∃ wz : World, wz = wr := ⟨_, rfl⟩
      go_region
      go_wp2
      go_roundw
      case rel =>
        refine ⟨k + 1, by omega, by go_num, ?_, (HC1.out.setCell (p := ⟨gb, n + k, none⟩) (.inl rfl) _).drew⟩
        rw [HS.out]
        refine Bld.drew' (Bld.set_ HB1.out (n + k) _ _ ?_)
        rw [UInt8.toNat_ofNat']
        simp
      case measure => simp [intOf]; omega
    · obtain rfl : k = 4 := by omega
      clear hb1 hc1
      go_wp2_with fail
      go_ret
      exact ⟨rfl, HB1.out, HC1.out⟩

theorem bothSet32 (w0 w : World) (g h : Nat) (zs us : List UInt8) (d : Both w0 w g h zs us) (n : Int) (x : Nat) (hx : x < 4294967296) (hn : -9223372036854775808 ≤ n ∧ n ≤ 9223372036854775807) (hl : zs.length ≤ 140737488355328) :
    Calls Try.prog 29 #[.pointer (some ⟨g, 0, none⟩), .int .i64 n, .int .u32 (x : Int)] w fun e w' => e = .returned (.bool (setV zs n x).2) ∧ Both w0 w' g h (setV zs n x).1 us := by
  obtain ⟨Ab, cb, A, c, d⟩ := d
  unfold setV
  cases hX : exB n 4 zs.length with
  | false =>
    rw [if_neg (by simp)]
    exact (Set32_no g cb Ab zs n x w d.bld hn hl hX).mono fun _ _ ⟨he, hw⟩ => ⟨he, hw ▸ ⟨_, _, _, _, d⟩⟩
  | true =>
    rw [if_pos rfl]
    obtain ⟨h1, h2, h3, h4⟩ := exB_iff.1 hX
    obtain ⟨k, rfl⟩ := Int.eq_ofNat_of_zero_le h1
    obtain ⟨gb, rfl⟩ : ∃ gb, Ab = some ⟨gb, 0, none⟩ := by
      rcases d.bld.own.form with ⟨_, _, h⟩ | ⟨gb, _, h, _⟩
      · rw [h] at h4; simp at h4; omega
      · exact ⟨gb, h⟩
    refine (Set32_yes g cb gb zs k x w d.bld hx hl (by omega)).mono ?_
    rintro e w' ⟨rfl, hb, hc⟩
    have hgb : h ≠ gb := fun e => d.ne2 d.bld.own (by rw [e]; rfl)
    exact ⟨rfl, _, _, _, _, ⟨hb, (hc.obj d.var hgb), d.own.keep hc (fun k hk e => d.sep gb rfl (e ▸ hk)), d.sep, d.bel.trans (hc.below (fun k hk => by subst hk; exact d.hAb _ rfl) d.bel.size), d.hg, d.hh, d.hAb, d.hA⟩⟩
end Go.Proofs.Ytlofceojchlmgaa
