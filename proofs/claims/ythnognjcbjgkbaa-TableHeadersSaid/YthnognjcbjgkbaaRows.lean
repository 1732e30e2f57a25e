/-
  No cell of these rows narrows 'for every input' (looked for: loops, veiled, ifaces, maps, wideKeys, modest, calm, conditions, laid).
  DERIVED. THE GIVEN ROWS OF THIS SEAT. 6 by the template 'for every input the law returns true; each argument reads behind the call as it read before'; 0 by the template 'total and deterministic' (their statements: YthnognjcbjgkbaaTotals.lean).
  GIVEN WITH THE SEED: the statements are not yours to turn. If you find one false, say at which input.
  Laid BY PROGRAM, IN A SANDBOX (cutbox-rows.mjs): the forced cells as the released guide's own fill.sh prints them over the translation 1bdfb847edf61f58… (all of the seat's roots in one cut). By AI agents, Wed Nov 11 2026. No macro, syntax, notation, axiom, sorry.
-/
import Derived.Test.YthnognjcbjgkbaaChecked
import GoSem.Claim
import GoSem.ClaimJoined
import GoSem.ClaimMapViews
import Derived.JoinedTies
import Derived.KernelRfl
namespace Go.Proofs.Ythnognjcbjgkbaa
/- THE CELL 'sum', in the pinned program and in every row, IS THE sha256 OF THE DUMP (.gsa) THAT YthnognjcbjgkbaaProg.lean LOADS. Nothing in Lean hashes anything: it is a label: what it is worth is what the hold of that sum in a sandbox is worth. -/
noncomputable def Try.pinned : Pinned := { name := "ythnognjcbjgkbaa", sum := "1bdfb847edf61f589345b272d5d1a6c2f51799bfac7eebe9e8ec366bc100d033", checked := Try.checked }
namespace Rows
def none {H : Type} : Left H := { results := [], args := [] }

/-- 'fenestralaw10.TableLayouts': WHATEVER THE INPUT: true; the input reads as it did. -/
def tableLayoutsSpec : ChangeSpec := { name := "tableLayouts", fn := fun _ => fun
  | [d1, d2] => { results := [.lit (.bool true)], args := [d1, d2] }
  | _ => none }
def tableLayoutsRow : OpenClaim := { program := "ythnognjcbjgkbaa", sum := "1bdfb847edf61f589345b272d5d1a6c2f51799bfac7eebe9e8ec366bc100d033", func := "fenestra/fenestralaw10.TableLayouts", spec := "tableLayouts", unfollowed := true, recurses := true, apart := false }
def TableLayoutsSaid : Prop := tableLayoutsRow.holds Try.pinned (OpenSpec.ofChange tableLayoutsSpec)

/-- ITS FALSE NEIGHBOUR: 'it returns false'. Refute it at one input. -/
def tableLayoutsWrong : ChangeSpec := { name := "tableLayouts", fn := fun _ => fun
  | [d1, d2] => { results := [.lit (.bool false)], args := [d1, d2] }
  | _ => none }
def TableLayoutsWrongFalsely : Prop := tableLayoutsRow.holds Try.pinned (OpenSpec.ofChange tableLayoutsWrong)

/-- 'fenestralaw10.TableFinds': WHATEVER THE INPUT: true; the input reads as it did. -/
def tableFindsSpec : ChangeSpec := { name := "tableFinds", fn := fun _ => fun
  | [d1, d2, d3] => { results := [.lit (.bool true)], args := [d1, d2, d3] }
  | _ => none }
def tableFindsRow : OpenClaim := { program := "ythnognjcbjgkbaa", sum := "1bdfb847edf61f589345b272d5d1a6c2f51799bfac7eebe9e8ec366bc100d033", func := "fenestra/fenestralaw10.TableFinds", spec := "tableFinds", unfollowed := true, recurses := true, apart := false }
def TableFindsSaid : Prop := tableFindsRow.holds Try.pinned (OpenSpec.ofChange tableFindsSpec)

/-- ITS FALSE NEIGHBOUR: 'it returns false'. Refute it at one input. -/
def tableFindsWrong : ChangeSpec := { name := "tableFinds", fn := fun _ => fun
  | [d1, d2, d3] => { results := [.lit (.bool false)], args := [d1, d2, d3] }
  | _ => none }
def TableFindsWrongFalsely : Prop := tableFindsRow.holds Try.pinned (OpenSpec.ofChange tableFindsWrong)

/-- 'fenestralaw10.TableCovers': WHATEVER THE INPUT: true; the input reads as it did. -/
def tableCoversSpec : ChangeSpec := { name := "tableCovers", fn := fun _ => fun
  | [d] => { results := [.lit (.bool true)], args := [d] }
  | _ => none }
def tableCoversRow : OpenClaim := { program := "ythnognjcbjgkbaa", sum := "1bdfb847edf61f589345b272d5d1a6c2f51799bfac7eebe9e8ec366bc100d033", func := "fenestra/fenestralaw10.TableCovers", spec := "tableCovers", unfollowed := true, recurses := true, apart := false }
def TableCoversSaid : Prop := tableCoversRow.holds Try.pinned (OpenSpec.ofChange tableCoversSpec)

/-- ITS FALSE NEIGHBOUR: 'it returns false'. Refute it at one input. -/
def tableCoversWrong : ChangeSpec := { name := "tableCovers", fn := fun _ => fun
  | [d] => { results := [.lit (.bool false)], args := [d] }
  | _ => none }
def TableCoversWrongFalsely : Prop := tableCoversRow.holds Try.pinned (OpenSpec.ofChange tableCoversWrong)

/-- 'fenestralaw10.TableReads': WHATEVER THE INPUT: true; the input reads as it did. -/
def tableReadsSpec : ChangeSpec := { name := "tableReads", fn := fun _ => fun
  | [d] => { results := [.lit (.bool true)], args := [d] }
  | _ => none }
def tableReadsRow : OpenClaim := { program := "ythnognjcbjgkbaa", sum := "1bdfb847edf61f589345b272d5d1a6c2f51799bfac7eebe9e8ec366bc100d033", func := "fenestra/fenestralaw10.TableReads", spec := "tableReads", unfollowed := true, recurses := true, apart := false }
def TableReadsSaid : Prop := tableReadsRow.holds Try.pinned (OpenSpec.ofChange tableReadsSpec)

/-- ITS FALSE NEIGHBOUR: 'it returns false'. Refute it at one input. -/
def tableReadsWrong : ChangeSpec := { name := "tableReads", fn := fun _ => fun
  | [d] => { results := [.lit (.bool false)], args := [d] }
  | _ => none }
def TableReadsWrongFalsely : Prop := tableReadsRow.holds Try.pinned (OpenSpec.ofChange tableReadsWrong)

/-- 'fenestralaw10.TableLimits': WHATEVER THE INPUT: true; the input reads as it did. -/
def tableLimitsSpec : ChangeSpec := { name := "tableLimits", fn := fun _ => fun
  | [d] => { results := [.lit (.bool true)], args := [d] }
  | _ => none }
def tableLimitsRow : OpenClaim := { program := "ythnognjcbjgkbaa", sum := "1bdfb847edf61f589345b272d5d1a6c2f51799bfac7eebe9e8ec366bc100d033", func := "fenestra/fenestralaw10.TableLimits", spec := "tableLimits", unfollowed := true, recurses := true, apart := false }
def TableLimitsSaid : Prop := tableLimitsRow.holds Try.pinned (OpenSpec.ofChange tableLimitsSpec)

/-- ITS FALSE NEIGHBOUR: 'it returns false'. Refute it at one input. -/
def tableLimitsWrong : ChangeSpec := { name := "tableLimits", fn := fun _ => fun
  | [d] => { results := [.lit (.bool false)], args := [d] }
  | _ => none }
def TableLimitsWrongFalsely : Prop := tableLimitsRow.holds Try.pinned (OpenSpec.ofChange tableLimitsWrong)

/-- 'fenestralaw10.TableHeaders': WHATEVER THE INPUT: true; the input reads as it did. -/
def tableHeadersSpec : ChangeSpec := { name := "tableHeaders", fn := fun _ => fun
  | [d1, d2, d3] => { results := [.lit (.bool true)], args := [d1, d2, d3] }
  | _ => none }
def tableHeadersRow : OpenClaim := { program := "ythnognjcbjgkbaa", sum := "1bdfb847edf61f589345b272d5d1a6c2f51799bfac7eebe9e8ec366bc100d033", func := "fenestra/fenestralaw10.TableHeaders", spec := "tableHeaders", unfollowed := true, recurses := true, apart := false }
def TableHeadersSaid : Prop := tableHeadersRow.holds Try.pinned (OpenSpec.ofChange tableHeadersSpec)

/-- ITS FALSE NEIGHBOUR: 'it returns false'. Refute it at one input. -/
def tableHeadersWrong : ChangeSpec := { name := "tableHeaders", fn := fun _ => fun
  | [d1, d2, d3] => { results := [.lit (.bool false)], args := [d1, d2, d3] }
  | _ => none }
def TableHeadersWrongFalsely : Prop := tableHeadersRow.holds Try.pinned (OpenSpec.ofChange tableHeadersWrong)

/- THE SECOND FORM. 'bulk': how many values and letters a reading holds, each counted each time it is reached (what is shared counts as often as it is met; a slice's spare places count too). A statement '..UptoSaid' is the law's where the arguments, and the package variables that the reading takes, are together of bulk at most 1048576: NARROWER than '..Said'. Prove '..Said' where nothing that the law and all that it calls make is longer than what came in: it says more and counts as full. Else prove '..UptoSaid'. A law counts once. -/
mutual
def uptoBulk {H : Type} : DataW H → Nat
  | .lit (.string bytes) => bytes.length + 1
  | .lit _ => 1
  | .nil => 1
  | .ptr d => uptoBulk d + 1
  | .slice elems spare => uptoBulkAll elems + uptoBulkAll spare + 1
  | .agg parts => uptoBulkAll parts + 1
  | .iface _ d => uptoBulk d + 1
  | .map entries => uptoBulkEntries entries + 1
  | .held _ => 1
def uptoBulkAll {H : Type} : List (DataW H) → Nat
  | [] => 0
  | d :: r => uptoBulk d + uptoBulkAll r
def uptoBulkEntries {H : Type} : List (Lit × DataW H) → Nat
  | [] => 0
  | x :: r => uptoBulkEntry x + uptoBulkEntries r
def uptoBulkEntry {H : Type} : Lit × DataW H → Nat
  | (.string bytes, d) => bytes.length + uptoBulk d + 1
  | (_, d) => uptoBulk d + 1
 end
def uptoSmall : (H : Type) → List (DataW H) → Bool := fun _ ds => decide (uptoBulkAll ds ≤ 1048576)
def OpenSpec.upto (s : _root_.Go.ChangeSpec) : _root_.Go.OpenSpec := { _root_.Go.OpenSpec.ofChange s with cond := some uptoSmall }

/-- 'fenestralaw10.TableLayouts', WHERE WHAT IT READS IS OF BULK AT MOST 1048576: true; the input reads as it did. -/
def tableLayoutsUptoRow : OpenClaim := { program := "ythnognjcbjgkbaa", sum := "1bdfb847edf61f589345b272d5d1a6c2f51799bfac7eebe9e8ec366bc100d033", func := "fenestra/fenestralaw10.TableLayouts", spec := "tableLayouts", unfollowed := true, recurses := true, apart := false, narrowed := true }
def TableLayoutsUptoSaid : Prop := tableLayoutsUptoRow.holds Try.pinned (OpenSpec.upto tableLayoutsSpec)

/-- 'fenestralaw10.TableFinds', WHERE WHAT IT READS IS OF BULK AT MOST 1048576: true; the input reads as it did. -/
def tableFindsUptoRow : OpenClaim := { program := "ythnognjcbjgkbaa", sum := "1bdfb847edf61f589345b272d5d1a6c2f51799bfac7eebe9e8ec366bc100d033", func := "fenestra/fenestralaw10.TableFinds", spec := "tableFinds", unfollowed := true, recurses := true, apart := false, narrowed := true }
def TableFindsUptoSaid : Prop := tableFindsUptoRow.holds Try.pinned (OpenSpec.upto tableFindsSpec)

/-- 'fenestralaw10.TableCovers', WHERE WHAT IT READS IS OF BULK AT MOST 1048576: true; the input reads as it did. -/
def tableCoversUptoRow : OpenClaim := { program := "ythnognjcbjgkbaa", sum := "1bdfb847edf61f589345b272d5d1a6c2f51799bfac7eebe9e8ec366bc100d033", func := "fenestra/fenestralaw10.TableCovers", spec := "tableCovers", unfollowed := true, recurses := true, apart := false, narrowed := true }
def TableCoversUptoSaid : Prop := tableCoversUptoRow.holds Try.pinned (OpenSpec.upto tableCoversSpec)

/-- 'fenestralaw10.TableReads', WHERE WHAT IT READS IS OF BULK AT MOST 1048576: true; the input reads as it did. -/
def tableReadsUptoRow : OpenClaim := { program := "ythnognjcbjgkbaa", sum := "1bdfb847edf61f589345b272d5d1a6c2f51799bfac7eebe9e8ec366bc100d033", func := "fenestra/fenestralaw10.TableReads", spec := "tableReads", unfollowed := true, recurses := true, apart := false, narrowed := true }
def TableReadsUptoSaid : Prop := tableReadsUptoRow.holds Try.pinned (OpenSpec.upto tableReadsSpec)

/-- 'fenestralaw10.TableLimits', WHERE WHAT IT READS IS OF BULK AT MOST 1048576: true; the input reads as it did. -/
def tableLimitsUptoRow : OpenClaim := { program := "ythnognjcbjgkbaa", sum := "1bdfb847edf61f589345b272d5d1a6c2f51799bfac7eebe9e8ec366bc100d033", func := "fenestra/fenestralaw10.TableLimits", spec := "tableLimits", unfollowed := true, recurses := true, apart := false, narrowed := true }
def TableLimitsUptoSaid : Prop := tableLimitsUptoRow.holds Try.pinned (OpenSpec.upto tableLimitsSpec)

/-- 'fenestralaw10.TableHeaders', WHERE WHAT IT READS IS OF BULK AT MOST 1048576: true; the input reads as it did. -/
def tableHeadersUptoRow : OpenClaim := { program := "ythnognjcbjgkbaa", sum := "1bdfb847edf61f589345b272d5d1a6c2f51799bfac7eebe9e8ec366bc100d033", func := "fenestra/fenestralaw10.TableHeaders", spec := "tableHeaders", unfollowed := true, recurses := true, apart := false, narrowed := true }
def TableHeadersUptoSaid : Prop := tableHeadersUptoRow.holds Try.pinned (OpenSpec.upto tableHeadersSpec)

end Rows
end Go.Proofs.Ythnognjcbjgkbaa
