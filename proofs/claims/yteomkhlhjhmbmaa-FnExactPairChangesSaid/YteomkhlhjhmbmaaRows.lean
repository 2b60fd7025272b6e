/-
  No cell of these rows narrows 'for every input' (looked for: loops, veiled, ifaces, maps, wideKeys, modest, calm, conditions, laid).
  DERIVED. THE GIVEN ROWS OF THIS SEAT. 12 by the template 'for every input the law returns true; each argument reads behind the call as it read before'; 0 by the template 'total and deterministic' (their statements: YteomkhlhjhmbmaaTotals.lean).
  GIVEN WITH THE SEED: the statements are not yours to turn. If you find one false, say at which input.
  Laid BY PROGRAM, IN A SANDBOX (cutbox-rows.mjs): the forced cells as the released guide's own fill.sh prints them over the translation 8525f8b88e256a73… (all of the seat's roots in one cut). By AI agents, Wed Nov 11 2026. No macro, syntax, notation, axiom, sorry.
-/
import Derived.Test.YteomkhlhjhmbmaaChecked
import GoSem.Claim
import GoSem.ClaimJoined
import GoSem.ClaimMapViews
import Derived.JoinedTies
import Derived.KernelRfl
namespace Go.Proofs.Yteomkhlhjhmbmaa
/- THE CELL 'sum', in the pinned program and in every row, IS THE sha256 OF THE DUMP (.gsa) THAT YteomkhlhjhmbmaaProg.lean LOADS. Nothing in Lean hashes anything: it is a label: what it is worth is what the hold of that sum in a sandbox is worth. -/
noncomputable def Try.pinned : Pinned := { name := "yteomkhlhjhmbmaa", sum := "8525f8b88e256a732b36f5083d245a06c63718cb8c83a22c4a6e51ec6ee6c319", checked := Try.checked }
namespace Rows
def none {H : Type} : Left H := { results := [], args := [] }

/-- 'laws.FnExactPairsMiddle': WHATEVER THE INPUT: true; the input reads as it did. -/
def fnExactPairsMiddleSpec : ChangeSpec := { name := "fnExactPairsMiddle", fn := fun _ => fun
  | [d] => { results := [.lit (.bool true)], args := [d] }
  | _ => none }
def fnExactPairsMiddleRow : OpenClaim := { program := "yteomkhlhjhmbmaa", sum := "8525f8b88e256a732b36f5083d245a06c63718cb8c83a22c4a6e51ec6ee6c319", func := "loop.example/rangechains/laws.FnExactPairsMiddle", spec := "fnExactPairsMiddle", recurses := true, apart := false }
def FnExactPairsMiddleSaid : Prop := fnExactPairsMiddleRow.holds Try.pinned (OpenSpec.ofChange fnExactPairsMiddleSpec)

/-- ITS FALSE NEIGHBOUR: 'it returns false'. Refute it at one input. -/
def fnExactPairsMiddleWrong : ChangeSpec := { name := "fnExactPairsMiddle", fn := fun _ => fun
  | [d] => { results := [.lit (.bool false)], args := [d] }
  | _ => none }
def FnExactPairsMiddleWrongFalsely : Prop := fnExactPairsMiddleRow.holds Try.pinned (OpenSpec.ofChange fnExactPairsMiddleWrong)

/-- 'laws.FnExactPartitionValid': WHATEVER THE INPUT: true; the input reads as it did. -/
def fnExactPartitionValidSpec : ChangeSpec := { name := "fnExactPartitionValid", fn := fun _ => fun
  | [d] => { results := [.lit (.bool true)], args := [d] }
  | _ => none }
def fnExactPartitionValidRow : OpenClaim := { program := "yteomkhlhjhmbmaa", sum := "8525f8b88e256a732b36f5083d245a06c63718cb8c83a22c4a6e51ec6ee6c319", func := "loop.example/rangechains/laws.FnExactPartitionValid", spec := "fnExactPartitionValid", recurses := true, apart := false }
def FnExactPartitionValidSaid : Prop := fnExactPartitionValidRow.holds Try.pinned (OpenSpec.ofChange fnExactPartitionValidSpec)

/-- ITS FALSE NEIGHBOUR: 'it returns false'. Refute it at one input. -/
def fnExactPartitionValidWrong : ChangeSpec := { name := "fnExactPartitionValid", fn := fun _ => fun
  | [d] => { results := [.lit (.bool false)], args := [d] }
  | _ => none }
def FnExactPartitionValidWrongFalsely : Prop := fnExactPartitionValidRow.holds Try.pinned (OpenSpec.ofChange fnExactPartitionValidWrong)

/-- 'laws.FnExactPairsJoin': WHATEVER THE INPUT: true; the input reads as it did. -/
def fnExactPairsJoinSpec : ChangeSpec := { name := "fnExactPairsJoin", fn := fun _ => fun
  | [d1, d2] => { results := [.lit (.bool true)], args := [d1, d2] }
  | _ => none }
def fnExactPairsJoinRow : OpenClaim := { program := "yteomkhlhjhmbmaa", sum := "8525f8b88e256a732b36f5083d245a06c63718cb8c83a22c4a6e51ec6ee6c319", func := "loop.example/rangechains/laws.FnExactPairsJoin", spec := "fnExactPairsJoin", recurses := true, apart := false }
def FnExactPairsJoinSaid : Prop := fnExactPairsJoinRow.holds Try.pinned (OpenSpec.ofChange fnExactPairsJoinSpec)

/-- ITS FALSE NEIGHBOUR: 'it returns false'. Refute it at one input. -/
def fnExactPairsJoinWrong : ChangeSpec := { name := "fnExactPairsJoin", fn := fun _ => fun
  | [d1, d2] => { results := [.lit (.bool false)], args := [d1, d2] }
  | _ => none }
def FnExactPairsJoinWrongFalsely : Prop := fnExactPairsJoinRow.holds Try.pinned (OpenSpec.ofChange fnExactPairsJoinWrong)

/-- 'laws.FnExactPartitionFind': WHATEVER THE INPUT: true; the input reads as it did. -/
def fnExactPartitionFindSpec : ChangeSpec := { name := "fnExactPartitionFind", fn := fun _ => fun
  | [d1, d2] => { results := [.lit (.bool true)], args := [d1, d2] }
  | _ => none }
def fnExactPartitionFindRow : OpenClaim := { program := "yteomkhlhjhmbmaa", sum := "8525f8b88e256a732b36f5083d245a06c63718cb8c83a22c4a6e51ec6ee6c319", func := "loop.example/rangechains/laws.FnExactPartitionFind", spec := "fnExactPartitionFind", recurses := true, apart := false }
def FnExactPartitionFindSaid : Prop := fnExactPartitionFindRow.holds Try.pinned (OpenSpec.ofChange fnExactPartitionFindSpec)

/-- ITS FALSE NEIGHBOUR: 'it returns false'. Refute it at one input. -/
def fnExactPartitionFindWrong : ChangeSpec := { name := "fnExactPartitionFind", fn := fun _ => fun
  | [d1, d2] => { results := [.lit (.bool false)], args := [d1, d2] }
  | _ => none }
def FnExactPartitionFindWrongFalsely : Prop := fnExactPartitionFindRow.holds Try.pinned (OpenSpec.ofChange fnExactPartitionFindWrong)

/-- 'laws.FnExactPairGet': WHATEVER THE INPUT: true; the input reads as it did. -/
def fnExactPairGetSpec : ChangeSpec := { name := "fnExactPairGet", fn := fun _ => fun
  | [d1, d2] => { results := [.lit (.bool true)], args := [d1, d2] }
  | _ => none }
def fnExactPairGetRow : OpenClaim := { program := "yteomkhlhjhmbmaa", sum := "8525f8b88e256a732b36f5083d245a06c63718cb8c83a22c4a6e51ec6ee6c319", func := "loop.example/rangechains/laws.FnExactPairGet", spec := "fnExactPairGet", unfollowed := true, recurses := true, apart := false }
def FnExactPairGetSaid : Prop := fnExactPairGetRow.holds Try.pinned (OpenSpec.ofChange fnExactPairGetSpec)

/-- ITS FALSE NEIGHBOUR: 'it returns false'. Refute it at one input. -/
def fnExactPairGetWrong : ChangeSpec := { name := "fnExactPairGet", fn := fun _ => fun
  | [d1, d2] => { results := [.lit (.bool false)], args := [d1, d2] }
  | _ => none }
def FnExactPairGetWrongFalsely : Prop := fnExactPairGetRow.holds Try.pinned (OpenSpec.ofChange fnExactPairGetWrong)

/-- 'laws.FnExactPagesValid': WHATEVER THE INPUT: true; the input reads as it did. -/
def fnExactPagesValidSpec : ChangeSpec := { name := "fnExactPagesValid", fn := fun _ => fun
  | [d] => { results := [.lit (.bool true)], args := [d] }
  | _ => none }
def fnExactPagesValidRow : OpenClaim := { program := "yteomkhlhjhmbmaa", sum := "8525f8b88e256a732b36f5083d245a06c63718cb8c83a22c4a6e51ec6ee6c319", func := "loop.example/rangechains/laws.FnExactPagesValid", spec := "fnExactPagesValid", recurses := true, apart := false }
def FnExactPagesValidSaid : Prop := fnExactPagesValidRow.holds Try.pinned (OpenSpec.ofChange fnExactPagesValidSpec)

/-- ITS FALSE NEIGHBOUR: 'it returns false'. Refute it at one input. -/
def fnExactPagesValidWrong : ChangeSpec := { name := "fnExactPagesValid", fn := fun _ => fun
  | [d] => { results := [.lit (.bool false)], args := [d] }
  | _ => none }
def FnExactPagesValidWrongFalsely : Prop := fnExactPagesValidRow.holds Try.pinned (OpenSpec.ofChange fnExactPagesValidWrong)

/-- 'laws.FnExactPartitionOf': WHATEVER THE INPUT: true; the input reads as it did. -/
def fnExactPartitionOfSpec : ChangeSpec := { name := "fnExactPartitionOf", fn := fun _ => fun
  | [d] => { results := [.lit (.bool true)], args := [d] }
  | _ => none }
def fnExactPartitionOfRow : OpenClaim := { program := "yteomkhlhjhmbmaa", sum := "8525f8b88e256a732b36f5083d245a06c63718cb8c83a22c4a6e51ec6ee6c319", func := "loop.example/rangechains/laws.FnExactPartitionOf", spec := "fnExactPartitionOf", recurses := true, apart := false }
def FnExactPartitionOfSaid : Prop := fnExactPartitionOfRow.holds Try.pinned (OpenSpec.ofChange fnExactPartitionOfSpec)

/-- ITS FALSE NEIGHBOUR: 'it returns false'. Refute it at one input. -/
def fnExactPartitionOfWrong : ChangeSpec := { name := "fnExactPartitionOf", fn := fun _ => fun
  | [d] => { results := [.lit (.bool false)], args := [d] }
  | _ => none }
def FnExactPartitionOfWrongFalsely : Prop := fnExactPartitionOfRow.holds Try.pinned (OpenSpec.ofChange fnExactPartitionOfWrong)

/-- 'laws.FnExactPairChanges': WHATEVER THE INPUT: true; the input reads as it did. -/
def fnExactPairChangesSpec : ChangeSpec := { name := "fnExactPairChanges", fn := fun _ => fun
  | [d1, d2] => { results := [.lit (.bool true)], args := [d1, d2] }
  | _ => none }
def fnExactPairChangesRow : OpenClaim := { program := "yteomkhlhjhmbmaa", sum := "8525f8b88e256a732b36f5083d245a06c63718cb8c83a22c4a6e51ec6ee6c319", func := "loop.example/rangechains/laws.FnExactPairChanges", spec := "fnExactPairChanges", unfollowed := true, recurses := true, apart := false }
def FnExactPairChangesSaid : Prop := fnExactPairChangesRow.holds Try.pinned (OpenSpec.ofChange fnExactPairChangesSpec)

/-- ITS FALSE NEIGHBOUR: 'it returns false'. Refute it at one input. -/
def fnExactPairChangesWrong : ChangeSpec := { name := "fnExactPairChanges", fn := fun _ => fun
  | [d1, d2] => { results := [.lit (.bool false)], args := [d1, d2] }
  | _ => none }
def FnExactPairChangesWrongFalsely : Prop := fnExactPairChangesRow.holds Try.pinned (OpenSpec.ofChange fnExactPairChangesWrong)

/-- 'laws.FnExactPartitionBounds': WHATEVER THE INPUT: true; the input reads as it did. -/
def fnExactPartitionBoundsSpec : ChangeSpec := { name := "fnExactPartitionBounds", fn := fun _ => fun
  | [d] => { results := [.lit (.bool true)], args := [d] }
  | _ => none }
def fnExactPartitionBoundsRow : OpenClaim := { program := "yteomkhlhjhmbmaa", sum := "8525f8b88e256a732b36f5083d245a06c63718cb8c83a22c4a6e51ec6ee6c319", func := "loop.example/rangechains/laws.FnExactPartitionBounds", spec := "fnExactPartitionBounds", recurses := true, apart := false }
def FnExactPartitionBoundsSaid : Prop := fnExactPartitionBoundsRow.holds Try.pinned (OpenSpec.ofChange fnExactPartitionBoundsSpec)

/-- ITS FALSE NEIGHBOUR: 'it returns false'. Refute it at one input. -/
def fnExactPartitionBoundsWrong : ChangeSpec := { name := "fnExactPartitionBounds", fn := fun _ => fun
  | [d] => { results := [.lit (.bool false)], args := [d] }
  | _ => none }
def FnExactPartitionBoundsWrongFalsely : Prop := fnExactPartitionBoundsRow.holds Try.pinned (OpenSpec.ofChange fnExactPartitionBoundsWrong)

/-- 'laws.FnExactPagesOf': WHATEVER THE INPUT: true; the input reads as it did. -/
def fnExactPagesOfSpec : ChangeSpec := { name := "fnExactPagesOf", fn := fun _ => fun
  | [d] => { results := [.lit (.bool true)], args := [d] }
  | _ => none }
def fnExactPagesOfRow : OpenClaim := { program := "yteomkhlhjhmbmaa", sum := "8525f8b88e256a732b36f5083d245a06c63718cb8c83a22c4a6e51ec6ee6c319", func := "loop.example/rangechains/laws.FnExactPagesOf", spec := "fnExactPagesOf", recurses := true, apart := false }
def FnExactPagesOfSaid : Prop := fnExactPagesOfRow.holds Try.pinned (OpenSpec.ofChange fnExactPagesOfSpec)

/-- ITS FALSE NEIGHBOUR: 'it returns false'. Refute it at one input. -/
def fnExactPagesOfWrong : ChangeSpec := { name := "fnExactPagesOf", fn := fun _ => fun
  | [d] => { results := [.lit (.bool false)], args := [d] }
  | _ => none }
def FnExactPagesOfWrongFalsely : Prop := fnExactPagesOfRow.holds Try.pinned (OpenSpec.ofChange fnExactPagesOfWrong)

/-- 'laws.FnExactPartitionMerge': WHATEVER THE INPUT: true; the input reads as it did. -/
def fnExactPartitionMergeSpec : ChangeSpec := { name := "fnExactPartitionMerge", fn := fun _ => fun
  | [d1, d2] => { results := [.lit (.bool true)], args := [d1, d2] }
  | _ => none }
def fnExactPartitionMergeRow : OpenClaim := { program := "yteomkhlhjhmbmaa", sum := "8525f8b88e256a732b36f5083d245a06c63718cb8c83a22c4a6e51ec6ee6c319", func := "loop.example/rangechains/laws.FnExactPartitionMerge", spec := "fnExactPartitionMerge", recurses := true, apart := false }
def FnExactPartitionMergeSaid : Prop := fnExactPartitionMergeRow.holds Try.pinned (OpenSpec.ofChange fnExactPartitionMergeSpec)

/-- ITS FALSE NEIGHBOUR: 'it returns false'. Refute it at one input. -/
def fnExactPartitionMergeWrong : ChangeSpec := { name := "fnExactPartitionMerge", fn := fun _ => fun
  | [d1, d2] => { results := [.lit (.bool false)], args := [d1, d2] }
  | _ => none }
def FnExactPartitionMergeWrongFalsely : Prop := fnExactPartitionMergeRow.holds Try.pinned (OpenSpec.ofChange fnExactPartitionMergeWrong)

/-- 'laws.FnExactPageFind': WHATEVER THE INPUT: true; the input reads as it did. -/
def fnExactPageFindSpec : ChangeSpec := { name := "fnExactPageFind", fn := fun _ => fun
  | [d1, d2] => { results := [.lit (.bool true)], args := [d1, d2] }
  | _ => none }
def fnExactPageFindRow : OpenClaim := { program := "yteomkhlhjhmbmaa", sum := "8525f8b88e256a732b36f5083d245a06c63718cb8c83a22c4a6e51ec6ee6c319", func := "loop.example/rangechains/laws.FnExactPageFind", spec := "fnExactPageFind", recurses := true, apart := false }
def FnExactPageFindSaid : Prop := fnExactPageFindRow.holds Try.pinned (OpenSpec.ofChange fnExactPageFindSpec)

/-- ITS FALSE NEIGHBOUR: 'it returns false'. Refute it at one input. -/
def fnExactPageFindWrong : ChangeSpec := { name := "fnExactPageFind", fn := fun _ => fun
  | [d1, d2] => { results := [.lit (.bool false)], args := [d1, d2] }
  | _ => none }
def FnExactPageFindWrongFalsely : Prop := fnExactPageFindRow.holds Try.pinned (OpenSpec.ofChange fnExactPageFindWrong)

/- THE SECOND FORM. 'bulk': how many values and letters a reading holds, each counted each time it is reached (what is shared counts as often as it is met; a slice's spare places count too). A statement '..UptoSaid' is the law's where the arguments, and the package variables that the reading takes, are together of bulk at most 1048576: NARROWER than '..Said'. Prove '..Said' where nothing that the law and all that it calls make is longer than what came in: it says more and counts as full. Else prove '..UptoSaid'. A law counts once. -/
mutual
def uptoBulk {H : Type} : DataW H → Nat
  | .lit (.string bytes) => bytes.length + 1
  | .lit _ => 1
  | .nil => 1
  | .ptr d => uptoBulk d + 1
  | .slice elems spare => uptoBulkAll elems + uptoBulkAll spare + 1
  | .agg parts => uptoBulkAll parts + 1
  | .iface _ d => uptoBulk d + 1
  | .map entries => uptoBulkEntries entries + 1
  | .held _ => 1
def uptoBulkAll {H : Type} : List (DataW H) → Nat
  | [] => 0
  | d :: r => uptoBulk d + uptoBulkAll r
def uptoBulkEntries {H : Type} : List (Lit × DataW H) → Nat
  | [] => 0
  | x :: r => uptoBulkEntry x + uptoBulkEntries r
def uptoBulkEntry {H : Type} : Lit × DataW H → Nat
  | (.string bytes, d) => bytes.length + uptoBulk d + 1
  | (_, d) => uptoBulk d + 1
 end
def uptoSmall : (H : Type) → List (DataW H) → Bool := fun _ ds => decide (uptoBulkAll ds ≤ 1048576)
def OpenSpec.upto (s : _root_.Go.ChangeSpec) : _root_.Go.OpenSpec := { _root_.Go.OpenSpec.ofChange s with cond := some uptoSmall }

/-- 'laws.FnExactPairsMiddle', WHERE WHAT IT READS IS OF BULK AT MOST 1048576: true; the input reads as it did. -/
def fnExactPairsMiddleUptoRow : OpenClaim := { program := "yteomkhlhjhmbmaa", sum := "8525f8b88e256a732b36f5083d245a06c63718cb8c83a22c4a6e51ec6ee6c319", func := "loop.example/rangechains/laws.FnExactPairsMiddle", spec := "fnExactPairsMiddle", recurses := true, apart := false, narrowed := true }
def FnExactPairsMiddleUptoSaid : Prop := fnExactPairsMiddleUptoRow.holds Try.pinned (OpenSpec.upto fnExactPairsMiddleSpec)

/-- 'laws.FnExactPartitionValid', WHERE WHAT IT READS IS OF BULK AT MOST 1048576: true; the input reads as it did. -/
def fnExactPartitionValidUptoRow : OpenClaim := { program := "yteomkhlhjhmbmaa", sum := "8525f8b88e256a732b36f5083d245a06c63718cb8c83a22c4a6e51ec6ee6c319", func := "loop.example/rangechains/laws.FnExactPartitionValid", spec := "fnExactPartitionValid", recurses := true, apart := false, narrowed := true }
def FnExactPartitionValidUptoSaid : Prop := fnExactPartitionValidUptoRow.holds Try.pinned (OpenSpec.upto fnExactPartitionValidSpec)

/-- 'laws.FnExactPairsJoin', WHERE WHAT IT READS IS OF BULK AT MOST 1048576: true; the input reads as it did. -/
def fnExactPairsJoinUptoRow : OpenClaim := { program := "yteomkhlhjhmbmaa", sum := "8525f8b88e256a732b36f5083d245a06c63718cb8c83a22c4a6e51ec6ee6c319", func := "loop.example/rangechains/laws.FnExactPairsJoin", spec := "fnExactPairsJoin", recurses := true, apart := false, narrowed := true }
def FnExactPairsJoinUptoSaid : Prop := fnExactPairsJoinUptoRow.holds Try.pinned (OpenSpec.upto fnExactPairsJoinSpec)

/-- 'laws.FnExactPartitionFind', WHERE WHAT IT READS IS OF BULK AT MOST 1048576: true; the input reads as it did. -/
def fnExactPartitionFindUptoRow : OpenClaim := { program := "yteomkhlhjhmbmaa", sum := "8525f8b88e256a732b36f5083d245a06c63718cb8c83a22c4a6e51ec6ee6c319", func := "loop.example/rangechains/laws.FnExactPartitionFind", spec := "fnExactPartitionFind", recurses := true, apart := false, narrowed := true }
def FnExactPartitionFindUptoSaid : Prop := fnExactPartitionFindUptoRow.holds Try.pinned (OpenSpec.upto fnExactPartitionFindSpec)

/-- 'laws.FnExactPairGet', WHERE WHAT IT READS IS OF BULK AT MOST 1048576: true; the input reads as it did. -/
def fnExactPairGetUptoRow : OpenClaim := { program := "yteomkhlhjhmbmaa", sum := "8525f8b88e256a732b36f5083d245a06c63718cb8c83a22c4a6e51ec6ee6c319", func := "loop.example/rangechains/laws.FnExactPairGet", spec := "fnExactPairGet", unfollowed := true, recurses := true, apart := false, narrowed := true }
def FnExactPairGetUptoSaid : Prop := fnExactPairGetUptoRow.holds Try.pinned (OpenSpec.upto fnExactPairGetSpec)

/-- 'laws.FnExactPagesValid', WHERE WHAT IT READS IS OF BULK AT MOST 1048576: true; the input reads as it did. -/
def fnExactPagesValidUptoRow : OpenClaim := { program := "yteomkhlhjhmbmaa", sum := "8525f8b88e256a732b36f5083d245a06c63718cb8c83a22c4a6e51ec6ee6c319", func := "loop.example/rangechains/laws.FnExactPagesValid", spec := "fnExactPagesValid", recurses := true, apart := false, narrowed := true }
def FnExactPagesValidUptoSaid : Prop := fnExactPagesValidUptoRow.holds Try.pinned (OpenSpec.upto fnExactPagesValidSpec)

/-- 'laws.FnExactPartitionOf', WHERE WHAT IT READS IS OF BULK AT MOST 1048576: true; the input reads as it did. -/
def fnExactPartitionOfUptoRow : OpenClaim := { program := "yteomkhlhjhmbmaa", sum := "8525f8b88e256a732b36f5083d245a06c63718cb8c83a22c4a6e51ec6ee6c319", func := "loop.example/rangechains/laws.FnExactPartitionOf", spec := "fnExactPartitionOf", recurses := true, apart := false, narrowed := true }
def FnExactPartitionOfUptoSaid : Prop := fnExactPartitionOfUptoRow.holds Try.pinned (OpenSpec.upto fnExactPartitionOfSpec)

/-- 'laws.FnExactPairChanges', WHERE WHAT IT READS IS OF BULK AT MOST 1048576: true; the input reads as it did. -/
def fnExactPairChangesUptoRow : OpenClaim := { program := "yteomkhlhjhmbmaa", sum := "8525f8b88e256a732b36f5083d245a06c63718cb8c83a22c4a6e51ec6ee6c319", func := "loop.example/rangechains/laws.FnExactPairChanges", spec := "fnExactPairChanges", unfollowed := true, recurses := true, apart := false, narrowed := true }
def FnExactPairChangesUptoSaid : Prop := fnExactPairChangesUptoRow.holds Try.pinned (OpenSpec.upto fnExactPairChangesSpec)

/-- 'laws.FnExactPartitionBounds', WHERE WHAT IT READS IS OF BULK AT MOST 1048576: true; the input reads as it did. -/
def fnExactPartitionBoundsUptoRow : OpenClaim := { program := "yteomkhlhjhmbmaa", sum := "8525f8b88e256a732b36f5083d245a06c63718cb8c83a22c4a6e51ec6ee6c319", func := "loop.example/rangechains/laws.FnExactPartitionBounds", spec := "fnExactPartitionBounds", recurses := true, apart := false, narrowed := true }
def FnExactPartitionBoundsUptoSaid : Prop := fnExactPartitionBoundsUptoRow.holds Try.pinned (OpenSpec.upto fnExactPartitionBoundsSpec)

/-- 'laws.FnExactPagesOf', WHERE WHAT IT READS IS OF BULK AT MOST 1048576: true; the input reads as it did. -/
def fnExactPagesOfUptoRow : OpenClaim := { program := "yteomkhlhjhmbmaa", sum := "8525f8b88e256a732b36f5083d245a06c63718cb8c83a22c4a6e51ec6ee6c319", func := "loop.example/rangechains/laws.FnExactPagesOf", spec := "fnExactPagesOf", recurses := true, apart := false, narrowed := true }
def FnExactPagesOfUptoSaid : Prop := fnExactPagesOfUptoRow.holds Try.pinned (OpenSpec.upto fnExactPagesOfSpec)

/-- 'laws.FnExactPartitionMerge', WHERE WHAT IT READS IS OF BULK AT MOST 1048576: true; the input reads as it did. -/
def fnExactPartitionMergeUptoRow : OpenClaim := { program := "yteomkhlhjhmbmaa", sum := "8525f8b88e256a732b36f5083d245a06c63718cb8c83a22c4a6e51ec6ee6c319", func := "loop.example/rangechains/laws.FnExactPartitionMerge", spec := "fnExactPartitionMerge", recurses := true, apart := false, narrowed := true }
def FnExactPartitionMergeUptoSaid : Prop := fnExactPartitionMergeUptoRow.holds Try.pinned (OpenSpec.upto fnExactPartitionMergeSpec)

/-- 'laws.FnExactPageFind', WHERE WHAT IT READS IS OF BULK AT MOST 1048576: true; the input reads as it did. -/
def fnExactPageFindUptoRow : OpenClaim := { program := "yteomkhlhjhmbmaa", sum := "8525f8b88e256a732b36f5083d245a06c63718cb8c83a22c4a6e51ec6ee6c319", func := "loop.example/rangechains/laws.FnExactPageFind", spec := "fnExactPageFind", recurses := true, apart := false, narrowed := true }
def FnExactPageFindUptoSaid : Prop := fnExactPageFindUptoRow.holds Try.pinned (OpenSpec.upto fnExactPageFindSpec)

end Rows
end Go.Proofs.Yteomkhlhjhmbmaa
