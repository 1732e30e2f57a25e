/-
  What the law BufBuilds computes: true.
-/
import Derived.Test.YtlofceojchlmgaaBld6
import Derived.Test.YtlofceojchlmgaaAlive03
namespace Go.Proofs.Ytlofceojchlmgaa
set_option linter.unusedVariables false
open Go.RowKit

theorem Duo.start {w w1 w2 : World} {g : Nat} {zs us : List UInt8} {A : Option Addr} {c : Nat} (hB : BOk w w1 g zs) (hK : Kept w1 w2 A c us) :
    Both w (w2.alloc (.cells #[.slice A us.length c] 22)) g w2.heap.size zs us := by
  obtain ⟨Ab, cb, h1, h2, h3, h4⟩ := hB
  have hlt := h1.lt
  have hlt2 := h1.own.lt
  have hs := h2.size
  have hs2 := hK.bel.size
  have b2 := h1.keep (S := fun _ => False) (Chg.of_below hK.bel) (fun h => h) (fun _ _ h => h)
  refine ⟨Ab, cb, A, c, ⟨b2.alloc _, heap_alloc_new w2 _, hK.own.alloc _, fun k hk e => ?_, (h2.trans (hK.bel.mono hs)).alloc (by omega) _, h3, by omega, h4, fun k hk => by have := hK.fresh k hk; omega⟩⟩
  have := hK.fresh k e
  have := hlt2 k hk
  omega

set_option maxRecDepth 100000 in
set_option maxHeartbeats 4000000 in
theorem BufBuilds_few (A : Option Addr) (c : Nat) (xs : List UInt8) (S : Option Addr) (len cs : Nat) (os : List OpD) (w : World) (hR : Rd w w.heap.size A xs) (hlen : os.length = len) (hO : RdO w w.heap.size S os) (hok : ∀ o ∈ os, o.Ok w) (hl : len ≤ 9223372036854775807)
    (h1 : (xs.length : Int) ≤ 300) (hF : FewP os) :
    Calls Try.prog 7 #[.slice A xs.length c, .slice S len cs] w (AliveOK w) := by
  have HR := Lib.hid hR
  have HL := Lib.hid hlen
  have HO := Lib.hid hO
  have HOK := Lib.hid hok
  have HF := Lib.hid hF
  have h60 : len ≤ 60 := by rw [← hlen]; exact hF.2
  clear hR hlen hO hok hF hl
  go_enter Try.func7, Try.ntmps7
  go_wp2_with fail
  refine (few_any S len cs os w HL.out HO.out (by omega)).mono ?_
  rintro e w1 ⟨bo, rfl, hbo, hb1⟩
  obtain rfl : bo = true := hbo.2 HF.out
  have HB1 := Lib.hid hb1
  clear hbo hb1
  go_wp2_with fail
  refine (New_ok w1.heap.size A xs.length c xs w1 rfl ((HR.out.below HB1.out).more HB1.out.size) (Nat.le_refl _) (by omega)).mono ?_
  rintro e w2 ⟨g, rfl, hb2⟩
  have HB2 := Lib.hid (hb2.early HB1.out)
  clear hb2 HB1
  have hs2 := HB2.out.bel.size
  go_wp2_with (at_builtin; refine wpList_app rfl (.tmp 22) (.tmp 23) 22 rfl Try.underlying22 infoU8 (some ⟨w2.heap.size, 0, none⟩) 0 0 [] rfl rfl (Own.empty w2) w.heap.size A xs.length c xs rfl rfl ((HR.out.below HB2.out.bel).alloc hs2 _) (by simp; omega) ?_; intro A3 c3 w3 hown hg hat hnn; rw [List.nil_append] at hown ⊢; have HK3 := Lib.hid (Kept.of_new (w := w2) (cs := #[]) hown hg hat); clear hown hg hat hnn)
  have HD := Lib.hid (Duo.start HB2.out HK3.out)
  clear HB2 HK3
  generalize w3.heap.size = h at *
  go_loopw [27, 8] (fun i v wr => ∃ (k : Nat) (zs : List UInt8), k ≤ len ∧ i = .int .i64 (k : Int) ∧ zs.length ≤ 300 + 1000 * k ∧ Both w wr g h zs zs) (fun i _ _ => len - (intOf i).toNat)
  case atStart => exact ⟨0, xs, Nat.zero_le _, rfl, by omega, HD.out⟩
  case round =>
    obtain ⟨k, zs, hk, rfl, hz, hB⟩ := hrel
    have HB := Lib.hid hB
    clear hB HD
    by_cases hlt : k < len
    · have hkl : k < os.length := by rw [HL.out]; exact hlt
      obtain ⟨b, off, rfl, hb, c0, c1, c2, c3⟩ := (HO.out.below HB.out.bel).at_ hkl
      have HM := Lib.hid (os[k].step_len zs (HF.out.1 _ (List.getElem_mem hkl)) (HOK.out _ (List.getElem_mem hkl)).2.2.1 (by omega))
      have HDO := Lib.hid (fun w' (hb : Both w w' g h zs zs) => do_any w w' g h zs hb os[k] (HOK.out _ (List.getElem_mem hkl)) (HF.out.1 _ (List.getElem_mem hkl)) (by omega))
      generalize os[k] = o at *
      generalize o.stepV zs = zs' at *
      have hbs := HB.out.bel.size
      clear hkl
      go_wp2_with fail
      have HBB := Lib.hid ((HB.out.next ((Below.refl _ wr).alloc (Nat.le_refl _) (.cells #[.int .i64 o.kd, .int .i64 o.n, .int .u64 (o.x : Int), .slice o.X o.m o.cx] 60))).drew)
      go_region_with (first
        | (go_at_call 31; refine (HDO.out _ HBB.out).mono ?_; rintro e w4 ⟨rfl, Ab4, cb4, A4, c4, d4⟩; have hc4 := d4.cell; have HD4 := Lib.hid d4; clear d4)
        | (go_at_call 15; refine (Len_any g cb4 Ab4 zs' w4 HD4.out.bld).mono ?_; rintro e w' ⟨rfl, rfl⟩))
      all_goals
        go_wp2
        go_roundw
        case rel => exact ⟨k + 1, zs', by omega, by go_num, by have := HM.out; omega, _, _, _, _, HD4.out⟩
        case measure => simp [intOf]; omega
    · obtain ⟨Ab, cb, Aw, cw, d⟩ := HB.out
      have hcd := d.cell
      have HD := Lib.hid d.drew
      have hzl : zs.length ≤ 1000000 := by omega
      clear d HB
      go_wp2_with fail
      go_region_with (first
        | (go_at_call 8; refine (alive03 _).mono ?_; rintro e w4 ⟨rfl, hb4⟩; have HD4 := Lib.hid (HD.out.next hb4); have hc4 := HD4.out.cell; clear hb4)
        | (go_at_call 21; refine (Bytes_any g cb Ab zs w4 HD4.out.bld (by omega)).mono ?_; rintro e w5 ⟨A5, c5, rfl, ho5, hf5, hb5⟩; have HD5 := Lib.hid (HD4.out.next hb5); have hc5 := HD5.out.cell; have HO5 := Lib.hid ho5; clear hb5 hf5 ho5)
        | (go_at_call 23; refine (Equal_any w5.heap.size A5 c5 zs w5.heap.size Aw cw zs zs.length zs.length w5 rfl rfl HO5.out.rd HD5.out.own.rd (by omega) (by omega)).mono ?_; rintro e w' ⟨rfl, d, rfl⟩; rw [decide_eq_true (Eq.refl zs)]))
      all_goals
        go_wp2
        go_ret
        exact ⟨rfl, below_drewQ HD5.out.bel _⟩

set_option maxHeartbeats 800000 in
theorem BufBuilds_any (A : Option Addr) (c : Nat) (xs : List UInt8) (S : Option Addr) (len cs : Nat) (os : List OpD) (w : World) (hR : Rd w w.heap.size A xs) (hlen : os.length = len) (hO : RdO w w.heap.size S os) (hok : ∀ o ∈ os, o.Ok w) (hl : len ≤ 9223372036854775807) :
    Calls Try.prog 7 #[.slice A xs.length c, .slice S len cs] w (AliveOK w) := by
  by_cases h1 : (xs.length : Int) ≤ 300
  · by_cases hF : FewP os
    · exact BufBuilds_few A c xs S len cs os w hR hlen hO hok hl h1 hF
    · have HF := Lib.hid hF
      have H := Lib.hid (few_any S len cs os w hlen hO hl)
      clear hR hlen hO hok hF
      go_enter Try.func7, Try.ntmps7
      go_wp2_with fail
      refine H.out.mono ?_
      rintro e w1 ⟨bo, rfl, hbo, hb1⟩
      obtain rfl : bo = false := by
        cases bo
        · rfl
        · exact absurd (hbo.1 rfl) HF.out
      have HB1 := Lib.hid hb1
      clear hbo hb1
      go_wp2_with fail
      refine (alive03 _).mono ?_
      rintro e w2 ⟨rfl, hb2⟩
      go_wp2
      go_ret
      exact ⟨rfl, HB1.out.trans (hb2.mono HB1.out.size)⟩
  · have d1 : decide ((300 : Int) < (xs.length : Int)) = true := decide_eq_true (by omega)
    clear hR hlen hO hok
    go_enter Try.func7, Try.ntmps7
    go_wp2_with fail
    refine (alive03 _).mono ?_
    rintro e w2 ⟨rfl, hb2⟩
    go_wp2
    go_ret
    exact ⟨rfl, hb2⟩
end Go.Proofs.Ytlofceojchlmgaa
