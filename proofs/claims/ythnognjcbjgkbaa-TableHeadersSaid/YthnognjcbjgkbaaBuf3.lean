/-
  Contracts of package buf: the builder (New, Len, Bytes, Add, put, U8 to U64); slices.Clone.
-/
import Derived.Test.YthnognjcbjgkbaaChecked
import Derived.Test.YthnognjcbjgkbaaOwn
import Derived.Lib.Hide
import Derived.WalkLawsBesides
namespace Go.Proofs.Ythnognjcbjgkbaa
set_option linter.unusedVariables false
open Go.RowKit

theorem infoU8 : (Try.prog.info? U8t).map (fun i => (i.zero, i.size, i.bytes)) = some (some (.int .u8 0), 1, 1) := by kernel_rfl

/-- what a call that makes a slice of bytes leaves -/
def Made (w : World) (xs : List UInt8) (e : Ending) (w' : World) : Prop :=
  ∃ A c, e = .returned (.slice A xs.length c) ∧ Own w' A c xs ∧ Fresh w A ∧ Below w.heap.size w w'

set_option maxRecDepth 20000 in
set_option maxHeartbeats 400000 in
theorem Clone_any (B : Nat) (X : Option Addr) (m cx : Nat) (xs : List UInt8) (w : World) (hm : xs.length = m) (hR : Rd w B X xs) (hB : B ≤ w.heap.size) (hlen : xs.length ≤ 140737488355328) :
    Calls Try.prog 39 #[.slice X m cx] w (Made w xs) := by
  have hnil := fun w => Lib.run_eql_slice_nil (P := Try.prog) w 44 U8t X m cx 0 0 Try.underlying44
  cases X with
  | none =>
    have hx : xs = [] := by
      rcases hR with h | ⟨_, _, h, _⟩
      · exact h
      · cases h
    subst hx
    go_enter Try.func39, Try.ntmps39
    go_wp2
    go_ret
    exact ⟨none, 0, rfl, Own.nil _, (fun k h => by cases h), Below.refl _ _⟩
  | some ad =>
    have H := Lib.hid hR
    clear hR
    have HM := Lib.hid hm
    clear hm
    go_enter Try.func39, Try.ntmps39
    go_wp2_with (at_builtin; refine wpList_app rfl (.tmp 5) (.tmp 6) 44 rfl Try.underlying44 infoU8 (some ⟨w.heap.size, 0, none⟩) 0 0 [] rfl rfl (Own.empty w) B (some ad) m cx xs HM.out rfl (H.out.alloc hB _) (by simpa using hlen) ?_; intro A' c' w' hown hg hat hnn)
    go_ret
    have hb : Below w.heap.size w w' := ((Below.refl _ w).alloc (Nat.le_refl _) _).grown hg (by simp) (fun k e => Nat.le_of_eq (Option.some.inj e))
    refine ⟨A', c', rfl, by simpa using hown, fun k hk => ?_, hb⟩
    rcases hat with h | h
    · rw [hk] at h; injection h with h; simp at h; omega
    · rw [hk] at h; injection h with h; simp at h; omega
end Go.Proofs.Ythnognjcbjgkbaa
