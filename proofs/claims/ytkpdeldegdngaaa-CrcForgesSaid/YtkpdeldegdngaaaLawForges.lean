/-
  What the law CrcForges computes: true.
-/
import Derived.Test.YtkpdeldegdngaaaCrc10
import Derived.Test.YtkpdeldegdngaaaAlive02
namespace Go.Proofs.Ytkpdeldegdngaaa
set_option linter.unusedVariables false
open Go.RowKit Go.Shelf

set_option maxRecDepth 100000 in
set_option maxHeartbeats 1600000 in
theorem CrcForges_no (A : Option Addr) (c : Nat) (a : Int) (xs : List UInt8) (s : BitVec 32) (w : World) (hR : Rd w w.heap.size A xs) (hc : xs.length ≤ c) (h1 : (xs.length : Int) ≤ 300) (ha : a < 0 ∨ (xs.length : Int) - 4 < a) :
    Calls Try.prog 7 #[.slice A xs.length c, .int .i64 a, .int .u32 (u32 s)] w (AliveOK w) := by
  have HR := Lib.hid hR
  have d0 : decide ((300 : Int) < (xs.length : Int)) = false := decide_eq_false (by omega)
  have HA := Lib.hid ha
  clear hR
  by_cases hneg : a < 0
  · have d1 : decide (a < 0) = true := decide_eq_true hneg
    clear ha
    go_enter Try.func7, Try.ntmps7
    go_wp2_with (at_builtin; refine wpList_app rfl (.tmp 14) (.tmp 15) 24 rfl Try.underlying24 infoU8c (some ⟨w.heap.size, 0, none⟩) 0 0 [] rfl rfl (Own.empty w) w.heap.size A xs.length c xs rfl rfl (HR.out.alloc (Nat.le_refl _) _) (by simp; omega) ?_; intro A1 c1 w1 hown hg hat hnn)
    have B1 : Below w.heap.size w w1 := ((Below.refl _ w).alloc (Nat.le_refl _) _).grown hg (by simp) (fun k e => Nat.le_of_eq (Option.some.inj e))
    clear hown hg hat hnn
    go_wp2_with fail
    refine (Forge_no A1 c1 _ a _ w1 (by omega) (by have := HA.out; omega)).mono ?_
    rintro e w2 ⟨rfl, rfl⟩
    go_wp2_with fail
    refine (alive02 _).mono ?_
    rintro e w3 ⟨rfl, hb3⟩
    go_wp2
    go_ret
    exact ⟨rfl, B1.trans (hb3.mono B1.size)⟩
  · have d1 : decide (a < 0) = false := decide_eq_false hneg
    have d2 : decide ((xs.length : Int) - 4 < a) = true := decide_eq_true (by omega)
    clear ha
    go_enter Try.func7, Try.ntmps7
    go_wp2_with (at_builtin; refine wpList_app rfl (.tmp 14) (.tmp 15) 24 rfl Try.underlying24 infoU8c (some ⟨w.heap.size, 0, none⟩) 0 0 [] rfl rfl (Own.empty w) w.heap.size A xs.length c xs rfl rfl (HR.out.alloc (Nat.le_refl _) _) (by simp; omega) ?_; intro A1 c1 w1 hown hg hat hnn)
    have B1 : Below w.heap.size w w1 := ((Below.refl _ w).alloc (Nat.le_refl _) _).grown hg (by simp) (fun k e => Nat.le_of_eq (Option.some.inj e))
    clear hown hg hat hnn
    go_wp2_with fail
    refine (Forge_no A1 c1 _ a _ w1 (by omega) (by have := HA.out; omega)).mono ?_
    rintro e w2 ⟨rfl, rfl⟩
    go_wp2_with fail
    refine (alive02 _).mono ?_
    rintro e w3 ⟨rfl, hb3⟩
    go_wp2
    go_ret
    exact ⟨rfl, B1.trans (hb3.mono B1.size)⟩

set_option maxHeartbeats 800000 in
theorem CrcForges_big (A : Option Addr) (c : Nat) (a : Int) (xs : List UInt8) (s : BitVec 32) (w : World) (h1 : ¬ (xs.length : Int) ≤ 300) :
    Calls Try.prog 7 #[.slice A xs.length c, .int .i64 a, .int .u32 (u32 s)] w (AliveOK w) := by
  have d1 : decide ((300 : Int) < (xs.length : Int)) = true := decide_eq_true (by omega)
  go_enter Try.func7, Try.ntmps7
  go_wp2_with fail
  refine (alive02 _).mono ?_
  rintro e w1 ⟨rfl, hb1⟩
  go_wp2_with fail
  go_ret
  exact ⟨rfl, hb1⟩
set_option maxRecDepth 100000 in
set_option maxHeartbeats 2000000 in
theorem CrcForges_yes (A : Option Addr) (c a : Nat) (xs : List UInt8) (s : BitVec 32) (w : World) (hR : Rd w w.heap.size A xs) (hc : xs.length ≤ c) (h1 : (xs.length : Int) ≤ 300) (ha : a + 4 ≤ xs.length) :
    Calls Try.prog 7 #[.slice A xs.length c, .int .i64 (a : Int), .int .u32 (u32 s)] w (AliveOK w) := by
  have HR := Lib.hid hR
  have HC := Lib.hid hc
  have d0 : decide ((300 : Int) < (xs.length : Int)) = false := decide_eq_false (by omega)
  have d1 : decide ((a : Int) < 0) = false := decide_eq_false (by omega)
  have d2 : decide ((xs.length : Int) - 4 < (a : Int)) = false := decide_eq_false (by omega)
  clear hR hc
  go_enter Try.func7, Try.ntmps7
  go_wp2_with (at_builtin; refine wpList_app rfl (.tmp 14) (.tmp 15) 24 rfl Try.underlying24 infoU8c (some ⟨w.heap.size, 0, none⟩) 0 0 [] rfl rfl (Own.empty w) w.heap.size A xs.length c xs rfl rfl (HR.out.alloc (Nat.le_refl _) _) (by simp; omega) ?_; intro A1 c1 w1 hown hg hat hnn)
  have B1 : Below w.heap.size w w1 := ((Below.refl _ w).alloc (Nat.le_refl _) _).grown hg (by simp) (fun k e => Nat.le_of_eq (Option.some.inj e))
  have HO1 : Hid (Own w1 A1 c1 xs) := hown
  clear hown hg hat hnn
  go_wp2_with fail
  refine (Forge_yes A1 c1 xs.length a xs s w1 rfl HO1.out.rd HO1.out.le.1 (by omega) ha).mono ?_
  rintro e w2 ⟨A2, c2, rfl, ho2, hf2, hb2⟩
  have B2 : Below w.heap.size w w2 := B1.trans (hb2.mono B1.size)
  have HO1b := Lib.hid (HO1.out.keep (S := fun _ => False) (Chg.of_below hb2) (fun _ _ h => h))
  have HS : Hid (CrcP.sum (forgeV xs a s) = s) := forgeV_sum xs a s
  have HL : Hid ((forgeV xs a s).length = xs.length) := forgeV_length xs a s ha
  have HT : Hid ((forgeV xs a s).take a = xs.take a) := forgeV_take xs a s ha
  have HD : Hid ((forgeV xs a s).drop (a + 4) = xs.drop (a + 4)) := forgeV_drop xs a s ha
  generalize forgeV xs a s = fs at *
  have HO2 : Hid (Own w2 A2 c2 fs) := ho2
  have HOc : fs.length ≤ c2 := ho2.le.1
  clear ho2 hf2 hb2 HO1 B1
  go_wp2_with fail
  refine (refSum_any w2.heap.size A2 c2 xs.length fs w2 HL.out HO2.out.rd (by omega)).mono ?_
  rintro e w3 ⟨rfl, rfl⟩
  rw [HS.out]
  go_wp2_with fail
  refine (Equal_any _ A1 c1 xs _ A c xs _ _ w2 rfl rfl HO1b.out.rd (HR.out.below B2) (by omega) (by omega)).mono ?_
  rintro e w4 ⟨rfl, d4, rfl⟩
  rw [decide_eq_true (Eq.refl xs)]
  go_wp2_with fail
  have B4 := below_drewN' B2 d4
  have HX : Hid (Rd (w2.drewN d4) w.heap.size A xs) := HR.out.below B4
  have HY := Lib.hid (HO2.out.drewN d4).rd
  generalize w2.drewN d4 = wd at *
  clear HO2 HO1b B2 HR HS
  have HLX : Hid ((xs.take a).length = a) := by show _ = _; simp; omega
  have HLY : Hid ((fs.take a).length = a) := by rw [HT.out]; exact HLX
  have HXT := Lib.hid (HX.out.take a)
  have HYT := Lib.hid (HY.out.take a)
  rw [HT.out] at HYT
  have HC2 : Hid (fs.length ≤ c2) := HOc
  have g1 := HC.out
  have g2 := HC2.out
  rw [HL.out] at g2
  obtain ⟨k, hkk⟩ : ∃ k : Nat, k = a + 4 := ⟨_, rfl⟩
  have hk : (a : Int) + 4 = (k : Int) := by omega
  have g3 : a ≤ xs.length := by omega
  have g4 : k ≤ xs.length := by omega
  have HP : Hid (Rd wd w.heap.size (if c = k then A else A.map (·.add k)) (xs.drop k)) := by
    have := HX.out.part k xs.length c g1
    rwa [List.take_of_length_le (by simp)] at this
  have HQ : Hid (Rd wd wd.heap.size (if c2 = k then A2 else A2.map (·.add k)) (xs.drop k)) := by
    have := HY.out.part k fs.length c2 HC2.out
    rwa [List.take_of_length_le (by simp), hkk, HD.out, ← hkk] at this
  have HLD : Hid ((xs.drop k).length = xs.length - k) := by show _ = _; simp
  have HB4 := Lib.hid B4
  clear HY HX HC HC2 HOc HD HT HL HLY B4 hkk
  by_cases e2 : c2 = k <;> by_cases e1 : c = k
  · simp only [e1, e2, if_true, if_false] at HP HQ
    (subst e2)
    (subst e1)
    have j0 : (0 : Int) ≤ (a : Int) := by omega
    have j1 : (a : Int) ≤ (c : Int) := by omega
    have j2 : (a : Int) ≤ (c : Int) := by omega
    have j3 : (a : Int) ≤ (xs.length : Int) := by omega
    have j4 : IntKind.i64.wrap (c : Int) = (c : Int) := IntWalk.i64_in _ (by omega)
    have j5 : (0 : Int) ≤ (c : Int) := by omega
    have j6 : (c : Int) ≤ (xs.length : Int) := by omega
    have j8 : (xs.length : Int) ≤ (c : Int) := by omega
    have j9 : (xs.length : Int) ≤ (c : Int) := by omega
    have HBW : Hid (∀ w5 : World, Below wd.heap.size wd w5 → Below w.heap.size w w5) := fun w5 h => HB4.out.trans (h.mono HB4.out.size)
    have hfol : Try.prog.follows Departure.mixedOrders = true := by kernel_rfl
    have HEq : ∀ (n : Nat) (ys : List UInt8) (P Q : Option Addr) (u v : Nat), Hid (ys.length = n) → Hid (Rd wd wd.heap.size P ys) → Hid (Rd wd w.heap.size Q ys) → n ≤ 300 → ∀ w', Below wd.heap.size wd w' →
        CallsIn .wide 2 Try.prog 15 #[.slice P n u, .slice Q n v] w' (fun e w'' => e = .returned (.bool true) ∧ Below wd.heap.size wd w'') := fun n ys P Q u v hl hp hq hn w' hb =>
      (callsIn_wide (n := 2)).2 ((Equal_any _ P u ys _ Q v ys n n w' hl.out hl.out (hp.out.after (Nat.le_refl _) hb) (hq.out.after HB4.out.size hb) (by omega) (by omega)).mono (by
        rintro e w6 ⟨rfl, d6, rfl⟩
        exact ⟨by simp, below_drewN' hb d6⟩))
    refine (wpIn_wide (n := 3)).1 ?_
    refine wpIn_region_class (fun w' => Below wd.heap.size wd w') hfol rfl (by kernel_rfl) (Below.refl _ wd).drew ?_
    refine wpQuietIn_step (fun _ _ _ _ => trivial) (fun K hK => ?_); go_simp
    refine ⟨.bool true, fun w5 hb => (callsIn_wide (n := 2)).2 ((alive02 w5).mono (by rintro e w6 ⟨rfl, hb5⟩; exact ⟨rfl, hb.trans (hb5.mono hb.size)⟩)), hK _ ?_⟩
    clear hK K
    repeat (refine wpQuietIn_step (fun _ _ _ _ => trivial) (fun K hK => ?_); go_simp; first | (refine ⟨_, fun _ _ => rfl, hK _ ?_⟩; clear hK K) | (refine hK _ ?_; clear hK K))
    refine wpQuietIn_step (fun _ _ _ _ => trivial) (fun K hK => ?_); go_simp
    refine ⟨.bool true, HEq a (xs.take a) A2 A c c HLX HYT HXT (by omega), hK _ ?_⟩
    clear hK K
    repeat (refine wpQuietIn_step (fun _ _ _ _ => trivial) (fun K hK => ?_); go_simp; first | (refine ⟨_, fun _ _ => rfl, hK _ ?_⟩; clear hK K) | (refine hK _ ?_; clear hK K))
    refine wpQuietIn_step (fun _ _ _ _ => trivial) (fun K hK => ?_); go_simp
    refine ⟨.bool true, HEq 0 [] _ _ _ _ (Lib.hid rfl) (Lib.hid Rd.nil) (Lib.hid Rd.nil) (by omega), hK _ ?_⟩
    clear hK K
    repeat (refine wpQuietIn_step (fun _ _ _ _ => trivial) (fun K hK => ?_); go_simp; first | (refine ⟨_, fun _ _ => rfl, hK _ ?_⟩; clear hK K) | (refine hK _ ?_; clear hK K))
    refine wpQuietIn_nil ?_
    intro w9 hb9
    have HB9 := Lib.hid (HBW.out w9 hb9)
    clear hb9 hfol HEq HBW
    go_wp2
    go_ret
    exact ⟨rfl, HB9.out⟩
  · simp only [e1, e2, if_true, if_false] at HP HQ
    (subst e2)
    (skip)
    have j0 : (0 : Int) ≤ (a : Int) := by omega
    have j1 : (a : Int) ≤ (c : Int) := by omega
    have j2 : (a : Int) ≤ (c2 : Int) := by omega
    have j3 : (a : Int) ≤ (xs.length : Int) := by omega
    have j4 : IntKind.i64.wrap (c2 : Int) = (c2 : Int) := IntWalk.i64_in _ (by omega)
    have j5 : (0 : Int) ≤ (c2 : Int) := by omega
    have j6 : (c2 : Int) ≤ (xs.length : Int) := by omega
    have j8 : (xs.length : Int) ≤ (c : Int) := by omega
    have j9 : (xs.length : Int) ≤ (c2 : Int) := by omega
    have HBW : Hid (∀ w5 : World, Below wd.heap.size wd w5 → Below w.heap.size w w5) := fun w5 h => HB4.out.trans (h.mono HB4.out.size)
    have hfol : Try.prog.follows Departure.mixedOrders = true := by kernel_rfl
    have HEq : ∀ (n : Nat) (ys : List UInt8) (P Q : Option Addr) (u v : Nat), Hid (ys.length = n) → Hid (Rd wd wd.heap.size P ys) → Hid (Rd wd w.heap.size Q ys) → n ≤ 300 → ∀ w', Below wd.heap.size wd w' →
        CallsIn .wide 2 Try.prog 15 #[.slice P n u, .slice Q n v] w' (fun e w'' => e = .returned (.bool true) ∧ Below wd.heap.size wd w'') := fun n ys P Q u v hl hp hq hn w' hb =>
      (callsIn_wide (n := 2)).2 ((Equal_any _ P u ys _ Q v ys n n w' hl.out hl.out (hp.out.after (Nat.le_refl _) hb) (hq.out.after HB4.out.size hb) (by omega) (by omega)).mono (by
        rintro e w6 ⟨rfl, d6, rfl⟩
        exact ⟨by simp, below_drewN' hb d6⟩))
    refine (wpIn_wide (n := 3)).1 ?_
    refine wpIn_region_class (fun w' => Below wd.heap.size wd w') hfol rfl (by kernel_rfl) (Below.refl _ wd).drew ?_
    refine wpQuietIn_step (fun _ _ _ _ => trivial) (fun K hK => ?_); go_simp
    refine ⟨.bool true, fun w5 hb => (callsIn_wide (n := 2)).2 ((alive02 w5).mono (by rintro e w6 ⟨rfl, hb5⟩; exact ⟨rfl, hb.trans (hb5.mono hb.size)⟩)), hK _ ?_⟩
    clear hK K
    repeat (refine wpQuietIn_step (fun _ _ _ _ => trivial) (fun K hK => ?_); go_simp; first | (refine ⟨_, fun _ _ => rfl, hK _ ?_⟩; clear hK K) | (refine hK _ ?_; clear hK K))
    refine wpQuietIn_step (fun _ _ _ _ => trivial) (fun K hK => ?_); go_simp
    refine ⟨.bool true, HEq a (xs.take a) A2 A c2 c HLX HYT HXT (by omega), hK _ ?_⟩
    clear hK K
    repeat (refine wpQuietIn_step (fun _ _ _ _ => trivial) (fun K hK => ?_); go_simp; first | (refine ⟨_, fun _ _ => rfl, hK _ ?_⟩; clear hK K) | (refine hK _ ?_; clear hK K))
    refine wpQuietIn_step (fun _ _ _ _ => trivial) (fun K hK => ?_); go_simp
    refine ⟨.bool true, HEq 0 [] _ _ _ _ (Lib.hid rfl) (Lib.hid Rd.nil) (Lib.hid Rd.nil) (by omega), hK _ ?_⟩
    clear hK K
    repeat (refine wpQuietIn_step (fun _ _ _ _ => trivial) (fun K hK => ?_); go_simp; first | (refine ⟨_, fun _ _ => rfl, hK _ ?_⟩; clear hK K) | (refine hK _ ?_; clear hK K))
    refine wpQuietIn_nil ?_
    intro w9 hb9
    have HB9 := Lib.hid (HBW.out w9 hb9)
    clear hb9 hfol HEq HBW
    go_wp2
    go_ret
    exact ⟨rfl, HB9.out⟩
  · simp only [e1, e2, if_true, if_false] at HP HQ
    (skip)
    (subst e1)
    have j0 : (0 : Int) ≤ (a : Int) := by omega
    have j1 : (a : Int) ≤ (c : Int) := by omega
    have j2 : (a : Int) ≤ (c2 : Int) := by omega
    have j3 : (a : Int) ≤ (xs.length : Int) := by omega
    have j4 : IntKind.i64.wrap (c : Int) = (c : Int) := IntWalk.i64_in _ (by omega)
    have j5 : (0 : Int) ≤ (c : Int) := by omega
    have j6 : (c : Int) ≤ (xs.length : Int) := by omega
    have j8 : (xs.length : Int) ≤ (c : Int) := by omega
    have j9 : (xs.length : Int) ≤ (c2 : Int) := by omega
    have HBW : Hid (∀ w5 : World, Below wd.heap.size wd w5 → Below w.heap.size w w5) := fun w5 h => HB4.out.trans (h.mono HB4.out.size)
    have hfol : Try.prog.follows Departure.mixedOrders = true := by kernel_rfl
    have HEq : ∀ (n : Nat) (ys : List UInt8) (P Q : Option Addr) (u v : Nat), Hid (ys.length = n) → Hid (Rd wd wd.heap.size P ys) → Hid (Rd wd w.heap.size Q ys) → n ≤ 300 → ∀ w', Below wd.heap.size wd w' →
        CallsIn .wide 2 Try.prog 15 #[.slice P n u, .slice Q n v] w' (fun e w'' => e = .returned (.bool true) ∧ Below wd.heap.size wd w'') := fun n ys P Q u v hl hp hq hn w' hb =>
      (callsIn_wide (n := 2)).2 ((Equal_any _ P u ys _ Q v ys n n w' hl.out hl.out (hp.out.after (Nat.le_refl _) hb) (hq.out.after HB4.out.size hb) (by omega) (by omega)).mono (by
        rintro e w6 ⟨rfl, d6, rfl⟩
        exact ⟨by simp, below_drewN' hb d6⟩))
    refine (wpIn_wide (n := 3)).1 ?_
    refine wpIn_region_class (fun w' => Below wd.heap.size wd w') hfol rfl (by kernel_rfl) (Below.refl _ wd).drew ?_
    refine wpQuietIn_step (fun _ _ _ _ => trivial) (fun K hK => ?_); go_simp
    refine ⟨.bool true, fun w5 hb => (callsIn_wide (n := 2)).2 ((alive02 w5).mono (by rintro e w6 ⟨rfl, hb5⟩; exact ⟨rfl, hb.trans (hb5.mono hb.size)⟩)), hK _ ?_⟩
    clear hK K
    repeat (refine wpQuietIn_step (fun _ _ _ _ => trivial) (fun K hK => ?_); go_simp; first | (refine ⟨_, fun _ _ => rfl, hK _ ?_⟩; clear hK K) | (refine hK _ ?_; clear hK K))
    refine wpQuietIn_step (fun _ _ _ _ => trivial) (fun K hK => ?_); go_simp
    refine ⟨.bool true, HEq a (xs.take a) A2 A c2 c HLX HYT HXT (by omega), hK _ ?_⟩
    clear hK K
    repeat (refine wpQuietIn_step (fun _ _ _ _ => trivial) (fun K hK => ?_); go_simp; first | (refine ⟨_, fun _ _ => rfl, hK _ ?_⟩; clear hK K) | (refine hK _ ?_; clear hK K))
    refine wpQuietIn_step (fun _ _ _ _ => trivial) (fun K hK => ?_); go_simp
    refine ⟨.bool true, HEq 0 [] _ _ _ _ (Lib.hid rfl) (Lib.hid Rd.nil) (Lib.hid Rd.nil) (by omega), hK _ ?_⟩
    clear hK K
    repeat (refine wpQuietIn_step (fun _ _ _ _ => trivial) (fun K hK => ?_); go_simp; first | (refine ⟨_, fun _ _ => rfl, hK _ ?_⟩; clear hK K) | (refine hK _ ?_; clear hK K))
    refine wpQuietIn_nil ?_
    intro w9 hb9
    have HB9 := Lib.hid (HBW.out w9 hb9)
    clear hb9 hfol HEq HBW
    go_wp2
    go_ret
    exact ⟨rfl, HB9.out⟩
  · simp only [e1, e2, if_true, if_false] at HP HQ
    (skip)
    (skip)
    have j0 : (0 : Int) ≤ (a : Int) := by omega
    have j1 : (a : Int) ≤ (c : Int) := by omega
    have j2 : (a : Int) ≤ (c2 : Int) := by omega
    have j3 : (a : Int) ≤ (xs.length : Int) := by omega
    have j4 : IntKind.i64.wrap (k : Int) = (k : Int) := IntWalk.i64_in _ (by omega)
    have j5 : (0 : Int) ≤ (k : Int) := by omega
    have j6 : (k : Int) ≤ (xs.length : Int) := by omega
    have j8 : (xs.length : Int) ≤ (c : Int) := by omega
    have j9 : (xs.length : Int) ≤ (c2 : Int) := by omega
    have HBW : Hid (∀ w5 : World, Below wd.heap.size wd w5 → Below w.heap.size w w5) := fun w5 h => HB4.out.trans (h.mono HB4.out.size)
    have hfol : Try.prog.follows Departure.mixedOrders = true := by kernel_rfl
    have HEq : ∀ (n : Nat) (ys : List UInt8) (P Q : Option Addr) (u v : Nat), Hid (ys.length = n) → Hid (Rd wd wd.heap.size P ys) → Hid (Rd wd w.heap.size Q ys) → n ≤ 300 → ∀ w', Below wd.heap.size wd w' →
        CallsIn .wide 2 Try.prog 15 #[.slice P n u, .slice Q n v] w' (fun e w'' => e = .returned (.bool true) ∧ Below wd.heap.size wd w'') := fun n ys P Q u v hl hp hq hn w' hb =>
      (callsIn_wide (n := 2)).2 ((Equal_any _ P u ys _ Q v ys n n w' hl.out hl.out (hp.out.after (Nat.le_refl _) hb) (hq.out.after HB4.out.size hb) (by omega) (by omega)).mono (by
        rintro e w6 ⟨rfl, d6, rfl⟩
        exact ⟨by simp, below_drewN' hb d6⟩))
    refine (wpIn_wide (n := 3)).1 ?_
    refine wpIn_region_class (fun w' => Below wd.heap.size wd w') hfol rfl (by kernel_rfl) (Below.refl _ wd).drew ?_
    refine wpQuietIn_step (fun _ _ _ _ => trivial) (fun K hK => ?_); go_simp
    refine ⟨.bool true, fun w5 hb => (callsIn_wide (n := 2)).2 ((alive02 w5).mono (by rintro e w6 ⟨rfl, hb5⟩; exact ⟨rfl, hb.trans (hb5.mono hb.size)⟩)), hK _ ?_⟩
    clear hK K
    repeat (refine wpQuietIn_step (fun _ _ _ _ => trivial) (fun K hK => ?_); go_simp; first | (refine ⟨_, fun _ _ => rfl, hK _ ?_⟩; clear hK K) | (refine hK _ ?_; clear hK K))
    refine wpQuietIn_step (fun _ _ _ _ => trivial) (fun K hK => ?_); go_simp
    refine ⟨.bool true, HEq a (xs.take a) A2 A c2 c HLX HYT HXT (by omega), hK _ ?_⟩
    clear hK K
    repeat (refine wpQuietIn_step (fun _ _ _ _ => trivial) (fun K hK => ?_); go_simp; first | (refine ⟨_, fun _ _ => rfl, hK _ ?_⟩; clear hK K) | (refine hK _ ?_; clear hK K))
    refine wpQuietIn_step (fun _ _ _ _ => trivial) (fun K hK => ?_); go_simp
    refine ⟨.bool true, HEq (xs.length - k) (xs.drop k) _ _ _ _ HLD HQ HP (by omega), hK _ ?_⟩
    clear hK K
    repeat (refine wpQuietIn_step (fun _ _ _ _ => trivial) (fun K hK => ?_); go_simp; first | (refine ⟨_, fun _ _ => rfl, hK _ ?_⟩; clear hK K) | (refine hK _ ?_; clear hK K))
    refine wpQuietIn_nil ?_
    intro w9 hb9
    have HB9 := Lib.hid (HBW.out w9 hb9)
    clear hb9 hfol HEq HBW
    go_wp2
    go_ret
    exact ⟨rfl, HB9.out⟩

theorem CrcForges_any (A : Option Addr) (c : Nat) (xs : List UInt8) (a z : Int) (w : World) (hR : Rd w w.heap.size A xs) (hc : xs.length ≤ c) (ha : -9223372036854775808 ≤ a ∧ a ≤ 9223372036854775807) (hz : 0 ≤ z ∧ z ≤ 4294967295) :
    Calls Try.prog 7 #[.slice A xs.length c, .int .i64 a, .int .u32 z] w (AliveOK w) := by
  obtain ⟨s, rfl⟩ : ∃ s : BitVec 32, z = u32 s := ⟨BitVec.ofNat 32 z.toNat, by unfold u32; simp; omega⟩
  by_cases h1 : (xs.length : Int) ≤ 300
  · by_cases h2 : a < 0 ∨ (xs.length : Int) - 4 < a
    · exact CrcForges_no A c a xs s w hR hc h1 h2
    · obtain ⟨n, rfl⟩ : ∃ n : Nat, a = (n : Int) := ⟨a.toNat, by omega⟩
      exact CrcForges_yes A c n xs s w hR hc h1 (by omega)
  · exact CrcForges_big A c a xs s w h1
end Go.Proofs.Ytkpdeldegdngaaa
