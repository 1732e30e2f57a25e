/-
  No cell of these rows narrows 'for every input' (looked for: loops, veiled, ifaces, maps, wideKeys, modest, calm, conditions, laid).
  DERIVED. THE GIVEN ROWS OF THIS SEAT. 5 by the template 'for every input the law returns true; each argument reads behind the call as it read before'; 0 by the template 'total and deterministic' (their statements: YtlofceojchlmgaaTotals.lean).
  GIVEN WITH THE SEED: the statements are not yours to turn. If you find one false, say at which input.
  Laid BY PROGRAM, IN A SANDBOX (cutbox-rows.mjs): the forced cells as the released guide's own fill.sh prints them over the translation 95576407b722b0e7… (all of the seat's roots in one cut). By AI agents, Wed Nov 11 2026. No macro, syntax, notation, axiom, sorry.
-/
import Derived.Test.YtlofceojchlmgaaChecked
import GoSem.Claim
import GoSem.ClaimJoined
import GoSem.ClaimMapViews
import Derived.JoinedTies
import Derived.KernelRfl
namespace Go.Proofs.Ytlofceojchlmgaa
/- THE CELL 'sum', in the pinned program and in every row, IS THE sha256 OF THE DUMP (.gsa) THAT YtlofceojchlmgaaProg.lean LOADS. Nothing in Lean hashes anything: it is a label: what it is worth is what the hold of that sum in a sandbox is worth. -/
noncomputable def Try.pinned : Pinned := { name := "ytlofceojchlmgaa", sum := "95576407b722b0e7e970601239d2aac7d12565933b5f930ed3cfdb3f190625bf", checked := Try.checked }
namespace Rows
def none {H : Type} : Left H := { results := [], args := [] }

/-- 'fenestralaw03.BufReads': WHATEVER THE INPUT: true; the input reads as it did. -/
def bufReadsSpec : ChangeSpec := { name := "bufReads", fn := fun _ => fun
  | [d1, d2] => { results := [.lit (.bool true)], args := [d1, d2] }
  | _ => none }
def bufReadsRow : OpenClaim := { program := "ytlofceojchlmgaa", sum := "95576407b722b0e7e970601239d2aac7d12565933b5f930ed3cfdb3f190625bf", func := "fenestra/fenestralaw03.BufReads", spec := "bufReads", unfollowed := true, recurses := true, apart := false }
def BufReadsSaid : Prop := bufReadsRow.holds Try.pinned (OpenSpec.ofChange bufReadsSpec)

/-- ITS FALSE NEIGHBOUR: 'it returns false'. Refute it at one input. -/
def bufReadsWrong : ChangeSpec := { name := "bufReads", fn := fun _ => fun
  | [d1, d2] => { results := [.lit (.bool false)], args := [d1, d2] }
  | _ => none }
def BufReadsWrongFalsely : Prop := bufReadsRow.holds Try.pinned (OpenSpec.ofChange bufReadsWrong)

/-- 'fenestralaw03.BufInverse': WHATEVER THE INPUT: true; the input reads as it did. -/
def bufInverseSpec : ChangeSpec := { name := "bufInverse", fn := fun _ => fun
  | [d1, d2, d3] => { results := [.lit (.bool true)], args := [d1, d2, d3] }
  | _ => none }
def bufInverseRow : OpenClaim := { program := "ytlofceojchlmgaa", sum := "95576407b722b0e7e970601239d2aac7d12565933b5f930ed3cfdb3f190625bf", func := "fenestra/fenestralaw03.BufInverse", spec := "bufInverse", unfollowed := true, recurses := true, apart := false }
def BufInverseSaid : Prop := bufInverseRow.holds Try.pinned (OpenSpec.ofChange bufInverseSpec)

/-- ITS FALSE NEIGHBOUR: 'it returns false'. Refute it at one input. -/
def bufInverseWrong : ChangeSpec := { name := "bufInverse", fn := fun _ => fun
  | [d1, d2, d3] => { results := [.lit (.bool false)], args := [d1, d2, d3] }
  | _ => none }
def BufInverseWrongFalsely : Prop := bufInverseRow.holds Try.pinned (OpenSpec.ofChange bufInverseWrong)

/-- 'fenestralaw03.BufParts': WHATEVER THE INPUT: true; the input reads as it did. -/
def bufPartsSpec : ChangeSpec := { name := "bufParts", fn := fun _ => fun
  | [d1, d2, d3] => { results := [.lit (.bool true)], args := [d1, d2, d3] }
  | _ => none }
def bufPartsRow : OpenClaim := { program := "ytlofceojchlmgaa", sum := "95576407b722b0e7e970601239d2aac7d12565933b5f930ed3cfdb3f190625bf", func := "fenestra/fenestralaw03.BufParts", spec := "bufParts", unfollowed := true, recurses := true, apart := false }
def BufPartsSaid : Prop := bufPartsRow.holds Try.pinned (OpenSpec.ofChange bufPartsSpec)

/-- ITS FALSE NEIGHBOUR: 'it returns false'. Refute it at one input. -/
def bufPartsWrong : ChangeSpec := { name := "bufParts", fn := fun _ => fun
  | [d1, d2, d3] => { results := [.lit (.bool false)], args := [d1, d2, d3] }
  | _ => none }
def BufPartsWrongFalsely : Prop := bufPartsRow.holds Try.pinned (OpenSpec.ofChange bufPartsWrong)

/-- 'fenestralaw03.BufKeeps': WHATEVER THE INPUT: true; the input reads as it did. -/
def bufKeepsSpec : ChangeSpec := { name := "bufKeeps", fn := fun _ => fun
  | [d] => { results := [.lit (.bool true)], args := [d] }
  | _ => none }
def bufKeepsRow : OpenClaim := { program := "ytlofceojchlmgaa", sum := "95576407b722b0e7e970601239d2aac7d12565933b5f930ed3cfdb3f190625bf", func := "fenestra/fenestralaw03.BufKeeps", spec := "bufKeeps", unfollowed := true, recurses := true, apart := false }
def BufKeepsSaid : Prop := bufKeepsRow.holds Try.pinned (OpenSpec.ofChange bufKeepsSpec)

/-- ITS FALSE NEIGHBOUR: 'it returns false'. Refute it at one input. -/
def bufKeepsWrong : ChangeSpec := { name := "bufKeeps", fn := fun _ => fun
  | [d] => { results := [.lit (.bool false)], args := [d] }
  | _ => none }
def BufKeepsWrongFalsely : Prop := bufKeepsRow.holds Try.pinned (OpenSpec.ofChange bufKeepsWrong)

/-- 'fenestralaw03.BufBuilds': WHATEVER THE INPUT: true; the input reads as it did. -/
def bufBuildsSpec : ChangeSpec := { name := "bufBuilds", fn := fun _ => fun
  | [d1, d2] => { results := [.lit (.bool true)], args := [d1, d2] }
  | _ => none }
def bufBuildsRow : OpenClaim := { program := "ytlofceojchlmgaa", sum := "95576407b722b0e7e970601239d2aac7d12565933b5f930ed3cfdb3f190625bf", func := "fenestra/fenestralaw03.BufBuilds", spec := "bufBuilds", unfollowed := true, recurses := true, apart := false }
def BufBuildsSaid : Prop := bufBuildsRow.holds Try.pinned (OpenSpec.ofChange bufBuildsSpec)

/-- ITS FALSE NEIGHBOUR: 'it returns false'. Refute it at one input. -/
def bufBuildsWrong : ChangeSpec := { name := "bufBuilds", fn := fun _ => fun
  | [d1, d2] => { results := [.lit (.bool false)], args := [d1, d2] }
  | _ => none }
def BufBuildsWrongFalsely : Prop := bufBuildsRow.holds Try.pinned (OpenSpec.ofChange bufBuildsWrong)

/- THE SECOND FORM. 'bulk': how many values and letters a reading holds, each counted each time it is reached (what is shared counts as often as it is met; a slice's spare places count too). A statement '..UptoSaid' is the law's where the arguments, and the package variables that the reading takes, are together of bulk at most 1048576: NARROWER than '..Said'. Prove '..Said' where nothing that the law and all that it calls make is longer than what came in: it says more and counts as full. Else prove '..UptoSaid'. A law counts once. -/
mutual
def uptoBulk {H : Type} : DataW H → Nat
  | .lit (.string bytes) => bytes.length + 1
  | .lit _ => 1
  | .nil => 1
  | .ptr d => uptoBulk d + 1
  | .slice elems spare => uptoBulkAll elems + uptoBulkAll spare + 1
  | .agg parts => uptoBulkAll parts + 1
  | .iface _ d => uptoBulk d + 1
  | .map entries => uptoBulkEntries entries + 1
  | .held _ => 1
def uptoBulkAll {H : Type} : List (DataW H) → Nat
  | [] => 0
  | d :: r => uptoBulk d + uptoBulkAll r
def uptoBulkEntries {H : Type} : List (Lit × DataW H) → Nat
  | [] => 0
  | x :: r => uptoBulkEntry x + uptoBulkEntries r
def uptoBulkEntry {H : Type} : Lit × DataW H → Nat
  | (.string bytes, d) => bytes.length + uptoBulk d + 1
  | (_, d) => uptoBulk d + 1
 end
def uptoSmall : (H : Type) → List (DataW H) → Bool := fun _ ds => decide (uptoBulkAll ds ≤ 1048576)
def OpenSpec.upto (s : _root_.Go.ChangeSpec) : _root_.Go.OpenSpec := { _root_.Go.OpenSpec.ofChange s with cond := some uptoSmall }

/-- 'fenestralaw03.BufReads', WHERE WHAT IT READS IS OF BULK AT MOST 1048576: true; the input reads as it did. -/
def bufReadsUptoRow : OpenClaim := { program := "ytlofceojchlmgaa", sum := "95576407b722b0e7e970601239d2aac7d12565933b5f930ed3cfdb3f190625bf", func := "fenestra/fenestralaw03.BufReads", spec := "bufReads", unfollowed := true, recurses := true, apart := false, narrowed := true }
def BufReadsUptoSaid : Prop := bufReadsUptoRow.holds Try.pinned (OpenSpec.upto bufReadsSpec)

/-- 'fenestralaw03.BufInverse', WHERE WHAT IT READS IS OF BULK AT MOST 1048576: true; the input reads as it did. -/
def bufInverseUptoRow : OpenClaim := { program := "ytlofceojchlmgaa", sum := "95576407b722b0e7e970601239d2aac7d12565933b5f930ed3cfdb3f190625bf", func := "fenestra/fenestralaw03.BufInverse", spec := "bufInverse", unfollowed := true, recurses := true, apart := false, narrowed := true }
def BufInverseUptoSaid : Prop := bufInverseUptoRow.holds Try.pinned (OpenSpec.upto bufInverseSpec)

/-- 'fenestralaw03.BufParts', WHERE WHAT IT READS IS OF BULK AT MOST 1048576: true; the input reads as it did. -/
def bufPartsUptoRow : OpenClaim := { program := "ytlofceojchlmgaa", sum := "95576407b722b0e7e970601239d2aac7d12565933b5f930ed3cfdb3f190625bf", func := "fenestra/fenestralaw03.BufParts", spec := "bufParts", unfollowed := true, recurses := true, apart := false, narrowed := true }
def BufPartsUptoSaid : Prop := bufPartsUptoRow.holds Try.pinned (OpenSpec.upto bufPartsSpec)

/-- 'fenestralaw03.BufKeeps', WHERE WHAT IT READS IS OF BULK AT MOST 1048576: true; the input reads as it did. -/
def bufKeepsUptoRow : OpenClaim := { program := "ytlofceojchlmgaa", sum := "95576407b722b0e7e970601239d2aac7d12565933b5f930ed3cfdb3f190625bf", func := "fenestra/fenestralaw03.BufKeeps", spec := "bufKeeps", unfollowed := true, recurses := true, apart := false, narrowed := true }
def BufKeepsUptoSaid : Prop := bufKeepsUptoRow.holds Try.pinned (OpenSpec.upto bufKeepsSpec)

/-- 'fenestralaw03.BufBuilds', WHERE WHAT IT READS IS OF BULK AT MOST 1048576: true; the input reads as it did. -/
def bufBuildsUptoRow : OpenClaim := { program := "ytlofceojchlmgaa", sum := "95576407b722b0e7e970601239d2aac7d12565933b5f930ed3cfdb3f190625bf", func := "fenestra/fenestralaw03.BufBuilds", spec := "bufBuilds", unfollowed := true, recurses := true, apart := false, narrowed := true }
def BufBuildsUptoSaid : Prop := bufBuildsUptoRow.holds Try.pinned (OpenSpec.upto bufBuildsSpec)

end Rows
end Go.Proofs.Ytlofceojchlmgaa
