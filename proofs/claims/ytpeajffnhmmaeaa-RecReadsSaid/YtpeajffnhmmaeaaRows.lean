/-
  No cell of these rows narrows 'for every input' (looked for: loops, veiled, ifaces, maps, wideKeys, modest, calm, conditions, laid).
  DERIVED. THE GIVEN ROWS OF THIS SEAT. 6 by the template 'for every input the law returns true; each argument reads behind the call as it read before'; 0 by the template 'total and deterministic' (their statements: YtpeajffnhmmaeaaTotals.lean).
  GIVEN WITH THE SEED: the statements are not yours to turn. If you find one false, say at which input.
  Laid BY PROGRAM, IN A SANDBOX (cutbox-rows.mjs): the forced cells as the released guide's own fill.sh prints them over the translation 4c66721bb3a81940… (all of the seat's roots in one cut). By AI agents, Wed Nov 11 2026. No macro, syntax, notation, axiom, sorry.
-/
import Derived.Test.YtpeajffnhmmaeaaChecked
import GoSem.Claim
import GoSem.ClaimJoined
import GoSem.ClaimMapViews
import Derived.JoinedTies
import Derived.KernelRfl
namespace Go.Proofs.Ytpeajffnhmmaeaa
/- THE CELL 'sum', in the pinned program and in every row, IS THE sha256 OF THE DUMP (.gsa) THAT YtpeajffnhmmaeaaProg.lean LOADS. Nothing in Lean hashes anything: it is a label: what it is worth is what the hold of that sum in a sandbox is worth. -/
noncomputable def Try.pinned : Pinned := { name := "ytpeajffnhmmaeaa", sum := "4c66721bb3a81940803e5642cf23b5b8845f6e932779fadbcb799e2828f0fd41", checked := Try.checked }
namespace Rows
def none {H : Type} : Left H := { results := [], args := [] }

/-- 'fenestralaw09.RecPorts': WHATEVER THE INPUT: true; the input reads as it did. -/
def recPortsSpec : ChangeSpec := { name := "recPorts", fn := fun _ => fun
  | [d1, d2] => { results := [.lit (.bool true)], args := [d1, d2] }
  | _ => none }
def recPortsRow : OpenClaim := { program := "ytpeajffnhmmaeaa", sum := "4c66721bb3a81940803e5642cf23b5b8845f6e932779fadbcb799e2828f0fd41", func := "fenestra/fenestralaw09.RecPorts", spec := "recPorts", unfollowed := true, recurses := true, apart := false }
def RecPortsSaid : Prop := recPortsRow.holds Try.pinned (OpenSpec.ofChange recPortsSpec)

/-- ITS FALSE NEIGHBOUR: 'it returns false'. Refute it at one input. -/
def recPortsWrong : ChangeSpec := { name := "recPorts", fn := fun _ => fun
  | [d1, d2] => { results := [.lit (.bool false)], args := [d1, d2] }
  | _ => none }
def RecPortsWrongFalsely : Prop := recPortsRow.holds Try.pinned (OpenSpec.ofChange recPortsWrong)

/-- 'fenestralaw09.RecOnce': WHATEVER THE INPUT: true; the input reads as it did. -/
def recOnceSpec : ChangeSpec := { name := "recOnce", fn := fun _ => fun
  | [d] => { results := [.lit (.bool true)], args := [d] }
  | _ => none }
def recOnceRow : OpenClaim := { program := "ytpeajffnhmmaeaa", sum := "4c66721bb3a81940803e5642cf23b5b8845f6e932779fadbcb799e2828f0fd41", func := "fenestra/fenestralaw09.RecOnce", spec := "recOnce", unfollowed := true, recurses := true, apart := false }
def RecOnceSaid : Prop := recOnceRow.holds Try.pinned (OpenSpec.ofChange recOnceSpec)

/-- ITS FALSE NEIGHBOUR: 'it returns false'. Refute it at one input. -/
def recOnceWrong : ChangeSpec := { name := "recOnce", fn := fun _ => fun
  | [d] => { results := [.lit (.bool false)], args := [d] }
  | _ => none }
def RecOnceWrongFalsely : Prop := recOnceRow.holds Try.pinned (OpenSpec.ofChange recOnceWrong)

/-- 'fenestralaw09.RecSizes': WHATEVER THE INPUT: true; the input reads as it did. -/
def recSizesSpec : ChangeSpec := { name := "recSizes", fn := fun _ => fun
  | [d] => { results := [.lit (.bool true)], args := [d] }
  | _ => none }
def recSizesRow : OpenClaim := { program := "ytpeajffnhmmaeaa", sum := "4c66721bb3a81940803e5642cf23b5b8845f6e932779fadbcb799e2828f0fd41", func := "fenestra/fenestralaw09.RecSizes", spec := "recSizes", unfollowed := true, recurses := true, apart := false }
def RecSizesSaid : Prop := recSizesRow.holds Try.pinned (OpenSpec.ofChange recSizesSpec)

/-- ITS FALSE NEIGHBOUR: 'it returns false'. Refute it at one input. -/
def recSizesWrong : ChangeSpec := { name := "recSizes", fn := fun _ => fun
  | [d] => { results := [.lit (.bool false)], args := [d] }
  | _ => none }
def RecSizesWrongFalsely : Prop := recSizesRow.holds Try.pinned (OpenSpec.ofChange recSizesWrong)

/-- 'fenestralaw09.RecSmall': WHATEVER THE INPUT: true; the input reads as it did. -/
def recSmallSpec : ChangeSpec := { name := "recSmall", fn := fun _ => fun
  | [d] => { results := [.lit (.bool true)], args := [d] }
  | _ => none }
def recSmallRow : OpenClaim := { program := "ytpeajffnhmmaeaa", sum := "4c66721bb3a81940803e5642cf23b5b8845f6e932779fadbcb799e2828f0fd41", func := "fenestra/fenestralaw09.RecSmall", spec := "recSmall", unfollowed := true, recurses := true, apart := false }
def RecSmallSaid : Prop := recSmallRow.holds Try.pinned (OpenSpec.ofChange recSmallSpec)

/-- ITS FALSE NEIGHBOUR: 'it returns false'. Refute it at one input. -/
def recSmallWrong : ChangeSpec := { name := "recSmall", fn := fun _ => fun
  | [d] => { results := [.lit (.bool false)], args := [d] }
  | _ => none }
def RecSmallWrongFalsely : Prop := recSmallRow.holds Try.pinned (OpenSpec.ofChange recSmallWrong)

/-- 'fenestralaw09.RecPartitions': WHATEVER THE INPUT: true; the input reads as it did. -/
def recPartitionsSpec : ChangeSpec := { name := "recPartitions", fn := fun _ => fun
  | [d1, d2] => { results := [.lit (.bool true)], args := [d1, d2] }
  | _ => none }
def recPartitionsRow : OpenClaim := { program := "ytpeajffnhmmaeaa", sum := "4c66721bb3a81940803e5642cf23b5b8845f6e932779fadbcb799e2828f0fd41", func := "fenestra/fenestralaw09.RecPartitions", spec := "recPartitions", unfollowed := true, recurses := true, apart := false }
def RecPartitionsSaid : Prop := recPartitionsRow.holds Try.pinned (OpenSpec.ofChange recPartitionsSpec)

/-- ITS FALSE NEIGHBOUR: 'it returns false'. Refute it at one input. -/
def recPartitionsWrong : ChangeSpec := { name := "recPartitions", fn := fun _ => fun
  | [d1, d2] => { results := [.lit (.bool false)], args := [d1, d2] }
  | _ => none }
def RecPartitionsWrongFalsely : Prop := recPartitionsRow.holds Try.pinned (OpenSpec.ofChange recPartitionsWrong)

/-- 'fenestralaw09.RecReads': WHATEVER THE INPUT: true; the input reads as it did. -/
def recReadsSpec : ChangeSpec := { name := "recReads", fn := fun _ => fun
  | [d1, d2] => { results := [.lit (.bool true)], args := [d1, d2] }
  | _ => none }
def recReadsRow : OpenClaim := { program := "ytpeajffnhmmaeaa", sum := "4c66721bb3a81940803e5642cf23b5b8845f6e932779fadbcb799e2828f0fd41", func := "fenestra/fenestralaw09.RecReads", spec := "recReads", unfollowed := true, recurses := true, apart := false }
def RecReadsSaid : Prop := recReadsRow.holds Try.pinned (OpenSpec.ofChange recReadsSpec)

/-- ITS FALSE NEIGHBOUR: 'it returns false'. Refute it at one input. -/
def recReadsWrong : ChangeSpec := { name := "recReads", fn := fun _ => fun
  | [d1, d2] => { results := [.lit (.bool false)], args := [d1, d2] }
  | _ => none }
def RecReadsWrongFalsely : Prop := recReadsRow.holds Try.pinned (OpenSpec.ofChange recReadsWrong)

/- THE SECOND FORM. 'bulk': how many values and letters a reading holds, each counted each time it is reached (what is shared counts as often as it is met; a slice's spare places count too). A statement '..UptoSaid' is the law's where the arguments, and the package variables that the reading takes, are together of bulk at most 1048576: NARROWER than '..Said'. Prove '..Said' where nothing that the law and all that it calls make is longer than what came in: it says more and counts as full. Else prove '..UptoSaid'. A law counts once. -/
mutual
def uptoBulk {H : Type} : DataW H → Nat
  | .lit (.string bytes) => bytes.length + 1
  | .lit _ => 1
  | .nil => 1
  | .ptr d => uptoBulk d + 1
  | .slice elems spare => uptoBulkAll elems + uptoBulkAll spare + 1
  | .agg parts => uptoBulkAll parts + 1
  | .iface _ d => uptoBulk d + 1
  | .map entries => uptoBulkEntries entries + 1
  | .held _ => 1
def uptoBulkAll {H : Type} : List (DataW H) → Nat
  | [] => 0
  | d :: r => uptoBulk d + uptoBulkAll r
def uptoBulkEntries {H : Type} : List (Lit × DataW H) → Nat
  | [] => 0
  | x :: r => uptoBulkEntry x + uptoBulkEntries r
def uptoBulkEntry {H : Type} : Lit × DataW H → Nat
  | (.string bytes, d) => bytes.length + uptoBulk d + 1
  | (_, d) => uptoBulk d + 1
 end
def uptoSmall : (H : Type) → List (DataW H) → Bool := fun _ ds => decide (uptoBulkAll ds ≤ 1048576)
def OpenSpec.upto (s : _root_.Go.ChangeSpec) : _root_.Go.OpenSpec := { _root_.Go.OpenSpec.ofChange s with cond := some uptoSmall }

/-- 'fenestralaw09.RecPorts', WHERE WHAT IT READS IS OF BULK AT MOST 1048576: true; the input reads as it did. -/
def recPortsUptoRow : OpenClaim := { program := "ytpeajffnhmmaeaa", sum := "4c66721bb3a81940803e5642cf23b5b8845f6e932779fadbcb799e2828f0fd41", func := "fenestra/fenestralaw09.RecPorts", spec := "recPorts", unfollowed := true, recurses := true, apart := false, narrowed := true }
def RecPortsUptoSaid : Prop := recPortsUptoRow.holds Try.pinned (OpenSpec.upto recPortsSpec)

/-- 'fenestralaw09.RecOnce', WHERE WHAT IT READS IS OF BULK AT MOST 1048576: true; the input reads as it did. -/
def recOnceUptoRow : OpenClaim := { program := "ytpeajffnhmmaeaa", sum := "4c66721bb3a81940803e5642cf23b5b8845f6e932779fadbcb799e2828f0fd41", func := "fenestra/fenestralaw09.RecOnce", spec := "recOnce", unfollowed := true, recurses := true, apart := false, narrowed := true }
def RecOnceUptoSaid : Prop := recOnceUptoRow.holds Try.pinned (OpenSpec.upto recOnceSpec)

/-- 'fenestralaw09.RecSizes', WHERE WHAT IT READS IS OF BULK AT MOST 1048576: true; the input reads as it did. -/
def recSizesUptoRow : OpenClaim := { program := "ytpeajffnhmmaeaa", sum := "4c66721bb3a81940803e5642cf23b5b8845f6e932779fadbcb799e2828f0fd41", func := "fenestra/fenestralaw09.RecSizes", spec := "recSizes", unfollowed := true, recurses := true, apart := false, narrowed := true }
def RecSizesUptoSaid : Prop := recSizesUptoRow.holds Try.pinned (OpenSpec.upto recSizesSpec)

/-- 'fenestralaw09.RecSmall', WHERE WHAT IT READS IS OF BULK AT MOST 1048576: true; the input reads as it did. -/
def recSmallUptoRow : OpenClaim := { program := "ytpeajffnhmmaeaa", sum := "4c66721bb3a81940803e5642cf23b5b8845f6e932779fadbcb799e2828f0fd41", func := "fenestra/fenestralaw09.RecSmall", spec := "recSmall", unfollowed := true, recurses := true, apart := false, narrowed := true }
def RecSmallUptoSaid : Prop := recSmallUptoRow.holds Try.pinned (OpenSpec.upto recSmallSpec)

/-- 'fenestralaw09.RecPartitions', WHERE WHAT IT READS IS OF BULK AT MOST 1048576: true; the input reads as it did. -/
def recPartitionsUptoRow : OpenClaim := { program := "ytpeajffnhmmaeaa", sum := "4c66721bb3a81940803e5642cf23b5b8845f6e932779fadbcb799e2828f0fd41", func := "fenestra/fenestralaw09.RecPartitions", spec := "recPartitions", unfollowed := true, recurses := true, apart := false, narrowed := true }
def RecPartitionsUptoSaid : Prop := recPartitionsUptoRow.holds Try.pinned (OpenSpec.upto recPartitionsSpec)

/-- 'fenestralaw09.RecReads', WHERE WHAT IT READS IS OF BULK AT MOST 1048576: true; the input reads as it did. -/
def recReadsUptoRow : OpenClaim := { program := "ytpeajffnhmmaeaa", sum := "4c66721bb3a81940803e5642cf23b5b8845f6e932779fadbcb799e2828f0fd41", func := "fenestra/fenestralaw09.RecReads", spec := "recReads", unfollowed := true, recurses := true, apart := false, narrowed := true }
def RecReadsUptoSaid : Prop := recReadsUptoRow.holds Try.pinned (OpenSpec.upto recReadsSpec)

end Rows
end Go.Proofs.Ytpeajffnhmmaeaa
