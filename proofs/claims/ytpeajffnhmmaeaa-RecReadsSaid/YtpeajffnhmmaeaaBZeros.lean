/-
  Contract of (*Builder).Zeros.
-/
import Derived.Test.YtpeajffnhmmaeaaBOk
import Derived.Test.YtpeajffnhmmaeaaZeros
namespace Go.Proofs.Ytpeajffnhmmaeaa
set_option linter.unusedVariables false
open Go.RowKit

set_option maxRecDepth 20000 in
set_option maxHeartbeats 400000 in
theorem Zeros_any (g c : Nat) (A : Option Addr) (xs : List UInt8) (n : Nat) (w : World) (hb : Bld w g A c xs) (hlen : xs.length + n ≤ 16777216) :
    Calls Try.prog 47 #[.pointer (some ⟨g, 0, none⟩), .int .i64 (n : Int)] w fun e w' => e = .returned (.bool true) ∧ Grew w g A (xs ++ List.replicate n 0) w' := by
  have hc := hb.cell
  have HB := Lib.hid hb
  clear hb
  go_enter Try.func47, Try.ntmps47
  go_wp2_with (at_builtin; refine wpList_app_zeros rfl (.tmp 25) (.tmp 26) 22 3 rfl .i64 .i64 Try.underlying22 Try.underlying3 infoU8 A xs.length c xs rfl rfl HB.out.own n rfl (by omega) ?_; intro A' c' w' hown hg hat; obtain ⟨hcl, hfr, HO⟩ := HB.out.mid hg)
  go_ret
  have c1 := fun u => (Chg.refl (fun k => k = g) w').setCell (p := ⟨g, 0, none⟩) (.inl rfl) u
  have c2 := fun u => ((Chg.refl (fun k => k = g ∨ blk A = some k) w).grown hg (fun k e => .inl (.inr e))).setCell (p := ⟨g, 0, none⟩) (.inl (.inl rfl)) u
  refine ⟨rfl, A', c', ⟨?_, ?_⟩, c2 _, ?_⟩
  · simp [World.setCell, Array.getElem?_modify, HO.out]
  · refine Own.keep hown (c1 _) (fun k hk e => ?_)
    subst e
    rcases hat with h | h
    · exact HB.out.ne (h.symm.trans hk)
    · rw [hk] at h; have h := Option.some.inj h; have := HB.out.lt; omega
  · intro k hk
    rcases hat with h | h
    · exact .inl (h.symm.trans hk)
    · exact .inr (Nat.le_of_eq (Option.some.inj (h.symm.trans hk)))

theorem Zeros_ok (w wi : World) (g : Nat) (zs : List UInt8) (h : BOk w wi g zs) (n : Nat) (hlen : zs.length + n ≤ 16777216) :
    Calls Try.prog 47 #[.pointer (some ⟨g, 0, none⟩), .int .i64 (n : Int)] wi fun e w' => e = .returned (.bool true) ∧ BOk w w' g (zs ++ List.replicate n 0) := by
  obtain ⟨A, c, h1, h2, h3, h4⟩ := h
  exact (Zeros_any g c A zs n wi h1 hlen).mono fun _ _ ⟨he, hG⟩ => ⟨he, BOk.grew h2 h3 h4 hG⟩
end Go.Proofs.Ytpeajffnhmmaeaa
