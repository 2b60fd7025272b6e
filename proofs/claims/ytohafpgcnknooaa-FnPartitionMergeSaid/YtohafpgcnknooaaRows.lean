/-
  No cell of these rows narrows 'for every input' (looked for: loops, veiled, ifaces, maps, wideKeys, modest, calm, conditions, laid).
  DERIVED. THE GIVEN ROWS OF THIS SEAT. 6 by the template 'for every input the law returns true; each argument reads behind the call as it read before'; 0 by the template 'total and deterministic' (their statements: YtohafpgcnknooaaTotals.lean).
  GIVEN WITH THE SEED: the statements are not yours to turn. If you find one false, say at which input.
  Laid BY PROGRAM, IN A SANDBOX (cutbox-rows.mjs): the forced cells as the released guide's own fill.sh prints them over the translation 06bf210ac969b606… (all of the seat's roots in one cut). By AI agents, Wed Nov 11 2026. No macro, syntax, notation, axiom, sorry.
-/
import Derived.Test.YtohafpgcnknooaaChecked
import GoSem.Claim
import GoSem.ClaimJoined
import GoSem.ClaimMapViews
import Derived.JoinedTies
import Derived.KernelRfl
namespace Go.Proofs.Ytohafpgcnknooaa
/- THE CELL 'sum', in the pinned program and in every row, IS THE sha256 OF THE DUMP (.gsa) THAT YtohafpgcnknooaaProg.lean LOADS. Nothing in Lean hashes anything: it is a label: what it is worth is what the hold of that sum in a sandbox is worth. -/
noncomputable def Try.pinned : Pinned := { name := "ytohafpgcnknooaa", sum := "06bf210ac969b606186729e278b78162c155a32b53027a27d79a2af234c61d81", checked := Try.checked }
namespace Rows
def none {H : Type} : Left H := { results := [], args := [] }

/-- 'laws.FnPartitionValid': WHATEVER THE INPUT: true; the input reads as it did. -/
def fnPartitionValidSpec : ChangeSpec := { name := "fnPartitionValid", fn := fun _ => fun
  | [d] => { results := [.lit (.bool true)], args := [d] }
  | _ => none }
def fnPartitionValidRow : OpenClaim := { program := "ytohafpgcnknooaa", sum := "06bf210ac969b606186729e278b78162c155a32b53027a27d79a2af234c61d81", func := "loop.example/rangechains/laws.FnPartitionValid", spec := "fnPartitionValid", recurses := true, apart := false }
def FnPartitionValidSaid : Prop := fnPartitionValidRow.holds Try.pinned (OpenSpec.ofChange fnPartitionValidSpec)

/-- ITS FALSE NEIGHBOUR: 'it returns false'. Refute it at one input. -/
def fnPartitionValidWrong : ChangeSpec := { name := "fnPartitionValid", fn := fun _ => fun
  | [d] => { results := [.lit (.bool false)], args := [d] }
  | _ => none }
def FnPartitionValidWrongFalsely : Prop := fnPartitionValidRow.holds Try.pinned (OpenSpec.ofChange fnPartitionValidWrong)

/-- 'laws.FnPartitionOf': WHATEVER THE INPUT: true; the input reads as it did. -/
def fnPartitionOfSpec : ChangeSpec := { name := "fnPartitionOf", fn := fun _ => fun
  | [d] => { results := [.lit (.bool true)], args := [d] }
  | _ => none }
def fnPartitionOfRow : OpenClaim := { program := "ytohafpgcnknooaa", sum := "06bf210ac969b606186729e278b78162c155a32b53027a27d79a2af234c61d81", func := "loop.example/rangechains/laws.FnPartitionOf", spec := "fnPartitionOf", recurses := true, apart := false }
def FnPartitionOfSaid : Prop := fnPartitionOfRow.holds Try.pinned (OpenSpec.ofChange fnPartitionOfSpec)

/-- ITS FALSE NEIGHBOUR: 'it returns false'. Refute it at one input. -/
def fnPartitionOfWrong : ChangeSpec := { name := "fnPartitionOf", fn := fun _ => fun
  | [d] => { results := [.lit (.bool false)], args := [d] }
  | _ => none }
def FnPartitionOfWrongFalsely : Prop := fnPartitionOfRow.holds Try.pinned (OpenSpec.ofChange fnPartitionOfWrong)

/-- 'laws.FnPartitionFind': WHATEVER THE INPUT: true; the input reads as it did. -/
def fnPartitionFindSpec : ChangeSpec := { name := "fnPartitionFind", fn := fun _ => fun
  | [d] => { results := [.lit (.bool true)], args := [d] }
  | _ => none }
def fnPartitionFindRow : OpenClaim := { program := "ytohafpgcnknooaa", sum := "06bf210ac969b606186729e278b78162c155a32b53027a27d79a2af234c61d81", func := "loop.example/rangechains/laws.FnPartitionFind", spec := "fnPartitionFind", recurses := true, apart := false }
def FnPartitionFindSaid : Prop := fnPartitionFindRow.holds Try.pinned (OpenSpec.ofChange fnPartitionFindSpec)

/-- ITS FALSE NEIGHBOUR: 'it returns false'. Refute it at one input. -/
def fnPartitionFindWrong : ChangeSpec := { name := "fnPartitionFind", fn := fun _ => fun
  | [d] => { results := [.lit (.bool false)], args := [d] }
  | _ => none }
def FnPartitionFindWrongFalsely : Prop := fnPartitionFindRow.holds Try.pinned (OpenSpec.ofChange fnPartitionFindWrong)

/-- 'laws.FnPartitionBounds': WHATEVER THE INPUT: true; the input reads as it did. -/
def fnPartitionBoundsSpec : ChangeSpec := { name := "fnPartitionBounds", fn := fun _ => fun
  | [d] => { results := [.lit (.bool true)], args := [d] }
  | _ => none }
def fnPartitionBoundsRow : OpenClaim := { program := "ytohafpgcnknooaa", sum := "06bf210ac969b606186729e278b78162c155a32b53027a27d79a2af234c61d81", func := "loop.example/rangechains/laws.FnPartitionBounds", spec := "fnPartitionBounds", inPlace := ["internal/bytealg.abigen_runtime_cmpstring"], recurses := true, apart := false }
def FnPartitionBoundsSaid : Prop := fnPartitionBoundsRow.holds Try.pinned (OpenSpec.ofChange fnPartitionBoundsSpec)

/-- ITS FALSE NEIGHBOUR: 'it returns false'. Refute it at one input. -/
def fnPartitionBoundsWrong : ChangeSpec := { name := "fnPartitionBounds", fn := fun _ => fun
  | [d] => { results := [.lit (.bool false)], args := [d] }
  | _ => none }
def FnPartitionBoundsWrongFalsely : Prop := fnPartitionBoundsRow.holds Try.pinned (OpenSpec.ofChange fnPartitionBoundsWrong)

/-- 'laws.FnPartitionMerge': WHATEVER THE INPUT: true; the input reads as it did. -/
def fnPartitionMergeSpec : ChangeSpec := { name := "fnPartitionMerge", fn := fun _ => fun
  | [d] => { results := [.lit (.bool true)], args := [d] }
  | _ => none }
def fnPartitionMergeRow : OpenClaim := { program := "ytohafpgcnknooaa", sum := "06bf210ac969b606186729e278b78162c155a32b53027a27d79a2af234c61d81", func := "loop.example/rangechains/laws.FnPartitionMerge", spec := "fnPartitionMerge", recurses := true, apart := false }
def FnPartitionMergeSaid : Prop := fnPartitionMergeRow.holds Try.pinned (OpenSpec.ofChange fnPartitionMergeSpec)

/-- ITS FALSE NEIGHBOUR: 'it returns false'. Refute it at one input. -/
def fnPartitionMergeWrong : ChangeSpec := { name := "fnPartitionMerge", fn := fun _ => fun
  | [d] => { results := [.lit (.bool false)], args := [d] }
  | _ => none }
def FnPartitionMergeWrongFalsely : Prop := fnPartitionMergeRow.holds Try.pinned (OpenSpec.ofChange fnPartitionMergeWrong)

/-- 'laws.FnPartitionSplit': WHATEVER THE INPUT: true; the input reads as it did. -/
def fnPartitionSplitSpec : ChangeSpec := { name := "fnPartitionSplit", fn := fun _ => fun
  | [d] => { results := [.lit (.bool true)], args := [d] }
  | _ => none }
def fnPartitionSplitRow : OpenClaim := { program := "ytohafpgcnknooaa", sum := "06bf210ac969b606186729e278b78162c155a32b53027a27d79a2af234c61d81", func := "loop.example/rangechains/laws.FnPartitionSplit", spec := "fnPartitionSplit", recurses := true, apart := false }
def FnPartitionSplitSaid : Prop := fnPartitionSplitRow.holds Try.pinned (OpenSpec.ofChange fnPartitionSplitSpec)

/-- ITS FALSE NEIGHBOUR: 'it returns false'. Refute it at one input. -/
def fnPartitionSplitWrong : ChangeSpec := { name := "fnPartitionSplit", fn := fun _ => fun
  | [d] => { results := [.lit (.bool false)], args := [d] }
  | _ => none }
def FnPartitionSplitWrongFalsely : Prop := fnPartitionSplitRow.holds Try.pinned (OpenSpec.ofChange fnPartitionSplitWrong)

/- THE SECOND FORM. 'bulk': how many values and letters a reading holds, each counted each time it is reached (what is shared counts as often as it is met; a slice's spare places count too). A statement '..UptoSaid' is the law's where the arguments, and the package variables that the reading takes, are together of bulk at most 1048576: NARROWER than '..Said'. Prove '..Said' where nothing that the law and all that it calls make is longer than what came in: it says more and counts as full. Else prove '..UptoSaid'. A law counts once. -/
mutual
def uptoBulk {H : Type} : DataW H → Nat
  | .lit (.string bytes) => bytes.length + 1
  | .lit _ => 1
  | .nil => 1
  | .ptr d => uptoBulk d + 1
  | .slice elems spare => uptoBulkAll elems + uptoBulkAll spare + 1
  | .agg parts => uptoBulkAll parts + 1
  | .iface _ d => uptoBulk d + 1
  | .map entries => uptoBulkEntries entries + 1
  | .held _ => 1
def uptoBulkAll {H : Type} : List (DataW H) → Nat
  | [] => 0
  | d :: r => uptoBulk d + uptoBulkAll r
def uptoBulkEntries {H : Type} : List (Lit × DataW H) → Nat
  | [] => 0
  | x :: r => uptoBulkEntry x + uptoBulkEntries r
def uptoBulkEntry {H : Type} : Lit × DataW H → Nat
  | (.string bytes, d) => bytes.length + uptoBulk d + 1
  | (_, d) => uptoBulk d + 1
 end
def uptoSmall : (H : Type) → List (DataW H) → Bool := fun _ ds => decide (uptoBulkAll ds ≤ 1048576)
def OpenSpec.upto (s : _root_.Go.ChangeSpec) : _root_.Go.OpenSpec := { _root_.Go.OpenSpec.ofChange s with cond := some uptoSmall }

/-- 'laws.FnPartitionValid', WHERE WHAT IT READS IS OF BULK AT MOST 1048576: true; the input reads as it did. -/
def fnPartitionValidUptoRow : OpenClaim := { program := "ytohafpgcnknooaa", sum := "06bf210ac969b606186729e278b78162c155a32b53027a27d79a2af234c61d81", func := "loop.example/rangechains/laws.FnPartitionValid", spec := "fnPartitionValid", recurses := true, apart := false, narrowed := true }
def FnPartitionValidUptoSaid : Prop := fnPartitionValidUptoRow.holds Try.pinned (OpenSpec.upto fnPartitionValidSpec)

/-- 'laws.FnPartitionOf', WHERE WHAT IT READS IS OF BULK AT MOST 1048576: true; the input reads as it did. -/
def fnPartitionOfUptoRow : OpenClaim := { program := "ytohafpgcnknooaa", sum := "06bf210ac969b606186729e278b78162c155a32b53027a27d79a2af234c61d81", func := "loop.example/rangechains/laws.FnPartitionOf", spec := "fnPartitionOf", recurses := true, apart := false, narrowed := true }
def FnPartitionOfUptoSaid : Prop := fnPartitionOfUptoRow.holds Try.pinned (OpenSpec.upto fnPartitionOfSpec)

/-- 'laws.FnPartitionFind', WHERE WHAT IT READS IS OF BULK AT MOST 1048576: true; the input reads as it did. -/
def fnPartitionFindUptoRow : OpenClaim := { program := "ytohafpgcnknooaa", sum := "06bf210ac969b606186729e278b78162c155a32b53027a27d79a2af234c61d81", func := "loop.example/rangechains/laws.FnPartitionFind", spec := "fnPartitionFind", recurses := true, apart := false, narrowed := true }
def FnPartitionFindUptoSaid : Prop := fnPartitionFindUptoRow.holds Try.pinned (OpenSpec.upto fnPartitionFindSpec)

/-- 'laws.FnPartitionBounds', WHERE WHAT IT READS IS OF BULK AT MOST 1048576: true; the input reads as it did. -/
def fnPartitionBoundsUptoRow : OpenClaim := { program := "ytohafpgcnknooaa", sum := "06bf210ac969b606186729e278b78162c155a32b53027a27d79a2af234c61d81", func := "loop.example/rangechains/laws.FnPartitionBounds", spec := "fnPartitionBounds", inPlace := ["internal/bytealg.abigen_runtime_cmpstring"], recurses := true, apart := false, narrowed := true }
def FnPartitionBoundsUptoSaid : Prop := fnPartitionBoundsUptoRow.holds Try.pinned (OpenSpec.upto fnPartitionBoundsSpec)

/-- 'laws.FnPartitionMerge', WHERE WHAT IT READS IS OF BULK AT MOST 1048576: true; the input reads as it did. -/
def fnPartitionMergeUptoRow : OpenClaim := { program := "ytohafpgcnknooaa", sum := "06bf210ac969b606186729e278b78162c155a32b53027a27d79a2af234c61d81", func := "loop.example/rangechains/laws.FnPartitionMerge", spec := "fnPartitionMerge", recurses := true, apart := false, narrowed := true }
def FnPartitionMergeUptoSaid : Prop := fnPartitionMergeUptoRow.holds Try.pinned (OpenSpec.upto fnPartitionMergeSpec)

/-- 'laws.FnPartitionSplit', WHERE WHAT IT READS IS OF BULK AT MOST 1048576: true; the input reads as it did. -/
def fnPartitionSplitUptoRow : OpenClaim := { program := "ytohafpgcnknooaa", sum := "06bf210ac969b606186729e278b78162c155a32b53027a27d79a2af234c61d81", func := "loop.example/rangechains/laws.FnPartitionSplit", spec := "fnPartitionSplit", recurses := true, apart := false, narrowed := true }
def FnPartitionSplitUptoSaid : Prop := fnPartitionSplitUptoRow.holds Try.pinned (OpenSpec.upto fnPartitionSplitSpec)

end Rows
end Go.Proofs.Ytohafpgcnknooaa
