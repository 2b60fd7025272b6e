/-
  No cell of these rows narrows 'for every input' (looked for: loops, veiled, ifaces, maps, wideKeys, modest, calm, conditions, laid).
  DERIVED. THE GIVEN ROWS OF THIS SEAT. 12 by the template 'for every input the law returns true; each argument reads behind the call as it read before'; 0 by the template 'total and deterministic' (their statements: YtebgpbcbbjpbfaaTotals.lean).
  GIVEN WITH THE SEED: the statements are not yours to turn. If you find one false, say at which input.
  Laid BY PROGRAM, IN A SANDBOX (cutbox-rows.mjs): the forced cells as the released guide's own fill.sh prints them over the translation eaec1fb3ddb3a8da… (all of the seat's roots in one cut). By AI agents, Wed Nov 11 2026. No macro, syntax, notation, axiom, sorry.
-/
import Derived.Test.YtebgpbcbbjpbfaaChecked
import GoSem.Claim
import GoSem.ClaimJoined
import GoSem.ClaimMapViews
import Derived.JoinedTies
import Derived.KernelRfl
namespace Go.Proofs.Ytebgpbcbbjpbfaa
/- THE CELL 'sum', in the pinned program and in every row, IS THE sha256 OF THE DUMP (.gsa) THAT YtebgpbcbbjpbfaaProg.lean LOADS. Nothing in Lean hashes anything: it is a label: what it is worth is what the hold of that sum in a sandbox is worth. -/
noncomputable def Try.pinned : Pinned := { name := "ytebgpbcbbjpbfaa", sum := "eaec1fb3ddb3a8da7bcdeea05628209a0af0d8f94a8e6a49ebb7ac96e6269cb5", checked := Try.checked }
namespace Rows
def none {H : Type} : Left H := { results := [], args := [] }

/-- 'laws.FnExactPartitionSplit': WHATEVER THE INPUT: true; the input reads as it did. -/
def fnExactPartitionSplitSpec : ChangeSpec := { name := "fnExactPartitionSplit", fn := fun _ => fun
  | [d1, d2] => { results := [.lit (.bool true)], args := [d1, d2] }
  | _ => none }
def fnExactPartitionSplitRow : OpenClaim := { program := "ytebgpbcbbjpbfaa", sum := "eaec1fb3ddb3a8da7bcdeea05628209a0af0d8f94a8e6a49ebb7ac96e6269cb5", func := "loop.example/rangechains/laws.FnExactPartitionSplit", spec := "fnExactPartitionSplit", recurses := true, apart := false }
def FnExactPartitionSplitSaid : Prop := fnExactPartitionSplitRow.holds Try.pinned (OpenSpec.ofChange fnExactPartitionSplitSpec)

/-- ITS FALSE NEIGHBOUR: 'it returns false'. Refute it at one input. -/
def fnExactPartitionSplitWrong : ChangeSpec := { name := "fnExactPartitionSplit", fn := fun _ => fun
  | [d1, d2] => { results := [.lit (.bool false)], args := [d1, d2] }
  | _ => none }
def FnExactPartitionSplitWrongFalsely : Prop := fnExactPartitionSplitRow.holds Try.pinned (OpenSpec.ofChange fnExactPartitionSplitWrong)

/-- 'laws.FnPagesOf': WHATEVER THE INPUT: true; the input reads as it did. -/
def fnPagesOfSpec : ChangeSpec := { name := "fnPagesOf", fn := fun _ => fun
  | [d] => { results := [.lit (.bool true)], args := [d] }
  | _ => none }
def fnPagesOfRow : OpenClaim := { program := "ytebgpbcbbjpbfaa", sum := "eaec1fb3ddb3a8da7bcdeea05628209a0af0d8f94a8e6a49ebb7ac96e6269cb5", func := "loop.example/rangechains/laws.FnPagesOf", spec := "fnPagesOf", recurses := true, apart := false }
def FnPagesOfSaid : Prop := fnPagesOfRow.holds Try.pinned (OpenSpec.ofChange fnPagesOfSpec)

/-- ITS FALSE NEIGHBOUR: 'it returns false'. Refute it at one input. -/
def fnPagesOfWrong : ChangeSpec := { name := "fnPagesOf", fn := fun _ => fun
  | [d] => { results := [.lit (.bool false)], args := [d] }
  | _ => none }
def FnPagesOfWrongFalsely : Prop := fnPagesOfRow.holds Try.pinned (OpenSpec.ofChange fnPagesOfWrong)

/-- 'laws.FnExactPagesValid': WHATEVER THE INPUT: true; the input reads as it did. -/
def fnExactPagesValidSpec : ChangeSpec := { name := "fnExactPagesValid", fn := fun _ => fun
  | [d] => { results := [.lit (.bool true)], args := [d] }
  | _ => none }
def fnExactPagesValidRow : OpenClaim := { program := "ytebgpbcbbjpbfaa", sum := "eaec1fb3ddb3a8da7bcdeea05628209a0af0d8f94a8e6a49ebb7ac96e6269cb5", func := "loop.example/rangechains/laws.FnExactPagesValid", spec := "fnExactPagesValid", recurses := true, apart := false }
def FnExactPagesValidSaid : Prop := fnExactPagesValidRow.holds Try.pinned (OpenSpec.ofChange fnExactPagesValidSpec)

/-- ITS FALSE NEIGHBOUR: 'it returns false'. Refute it at one input. -/
def fnExactPagesValidWrong : ChangeSpec := { name := "fnExactPagesValid", fn := fun _ => fun
  | [d] => { results := [.lit (.bool false)], args := [d] }
  | _ => none }
def FnExactPagesValidWrongFalsely : Prop := fnExactPagesValidRow.holds Try.pinned (OpenSpec.ofChange fnExactPagesValidWrong)

/-- 'laws.FnExactPageFind': WHATEVER THE INPUT: true; the input reads as it did. -/
def fnExactPageFindSpec : ChangeSpec := { name := "fnExactPageFind", fn := fun _ => fun
  | [d1, d2] => { results := [.lit (.bool true)], args := [d1, d2] }
  | _ => none }
def fnExactPageFindRow : OpenClaim := { program := "ytebgpbcbbjpbfaa", sum := "eaec1fb3ddb3a8da7bcdeea05628209a0af0d8f94a8e6a49ebb7ac96e6269cb5", func := "loop.example/rangechains/laws.FnExactPageFind", spec := "fnExactPageFind", recurses := true, apart := false }
def FnExactPageFindSaid : Prop := fnExactPageFindRow.holds Try.pinned (OpenSpec.ofChange fnExactPageFindSpec)

/-- ITS FALSE NEIGHBOUR: 'it returns false'. Refute it at one input. -/
def fnExactPageFindWrong : ChangeSpec := { name := "fnExactPageFind", fn := fun _ => fun
  | [d1, d2] => { results := [.lit (.bool false)], args := [d1, d2] }
  | _ => none }
def FnExactPageFindWrongFalsely : Prop := fnExactPageFindRow.holds Try.pinned (OpenSpec.ofChange fnExactPageFindWrong)

/-- 'laws.FnExactPagesOf': WHATEVER THE INPUT: true; the input reads as it did. -/
def fnExactPagesOfSpec : ChangeSpec := { name := "fnExactPagesOf", fn := fun _ => fun
  | [d] => { results := [.lit (.bool true)], args := [d] }
  | _ => none }
def fnExactPagesOfRow : OpenClaim := { program := "ytebgpbcbbjpbfaa", sum := "eaec1fb3ddb3a8da7bcdeea05628209a0af0d8f94a8e6a49ebb7ac96e6269cb5", func := "loop.example/rangechains/laws.FnExactPagesOf", spec := "fnExactPagesOf", recurses := true, apart := false }
def FnExactPagesOfSaid : Prop := fnExactPagesOfRow.holds Try.pinned (OpenSpec.ofChange fnExactPagesOfSpec)

/-- ITS FALSE NEIGHBOUR: 'it returns false'. Refute it at one input. -/
def fnExactPagesOfWrong : ChangeSpec := { name := "fnExactPagesOf", fn := fun _ => fun
  | [d] => { results := [.lit (.bool false)], args := [d] }
  | _ => none }
def FnExactPagesOfWrongFalsely : Prop := fnExactPagesOfRow.holds Try.pinned (OpenSpec.ofChange fnExactPagesOfWrong)

/-- 'laws.FnExactPagesList': WHATEVER THE INPUT: true; the input reads as it did. -/
def fnExactPagesListSpec : ChangeSpec := { name := "fnExactPagesList", fn := fun _ => fun
  | [d] => { results := [.lit (.bool true)], args := [d] }
  | _ => none }
def fnExactPagesListRow : OpenClaim := { program := "ytebgpbcbbjpbfaa", sum := "eaec1fb3ddb3a8da7bcdeea05628209a0af0d8f94a8e6a49ebb7ac96e6269cb5", func := "loop.example/rangechains/laws.FnExactPagesList", spec := "fnExactPagesList", recurses := true, apart := false }
def FnExactPagesListSaid : Prop := fnExactPagesListRow.holds Try.pinned (OpenSpec.ofChange fnExactPagesListSpec)

/-- ITS FALSE NEIGHBOUR: 'it returns false'. Refute it at one input. -/
def fnExactPagesListWrong : ChangeSpec := { name := "fnExactPagesList", fn := fun _ => fun
  | [d] => { results := [.lit (.bool false)], args := [d] }
  | _ => none }
def FnExactPagesListWrongFalsely : Prop := fnExactPagesListRow.holds Try.pinned (OpenSpec.ofChange fnExactPagesListWrong)

/-- 'laws.FnExactPagesPut': WHATEVER THE INPUT: true; the input reads as it did. -/
def fnExactPagesPutSpec : ChangeSpec := { name := "fnExactPagesPut", fn := fun _ => fun
  | [d1, d2, d3] => { results := [.lit (.bool true)], args := [d1, d2, d3] }
  | _ => none }
def fnExactPagesPutRow : OpenClaim := { program := "ytebgpbcbbjpbfaa", sum := "eaec1fb3ddb3a8da7bcdeea05628209a0af0d8f94a8e6a49ebb7ac96e6269cb5", func := "loop.example/rangechains/laws.FnExactPagesPut", spec := "fnExactPagesPut", unfollowed := true, recurses := true, apart := false }
def FnExactPagesPutSaid : Prop := fnExactPagesPutRow.holds Try.pinned (OpenSpec.ofChange fnExactPagesPutSpec)

/-- ITS FALSE NEIGHBOUR: 'it returns false'. Refute it at one input. -/
def fnExactPagesPutWrong : ChangeSpec := { name := "fnExactPagesPut", fn := fun _ => fun
  | [d1, d2, d3] => { results := [.lit (.bool false)], args := [d1, d2, d3] }
  | _ => none }
def FnExactPagesPutWrongFalsely : Prop := fnExactPagesPutRow.holds Try.pinned (OpenSpec.ofChange fnExactPagesPutWrong)

/-- 'laws.FnExactPagesDrop': WHATEVER THE INPUT: true; the input reads as it did. -/
def fnExactPagesDropSpec : ChangeSpec := { name := "fnExactPagesDrop", fn := fun _ => fun
  | [d1, d2] => { results := [.lit (.bool true)], args := [d1, d2] }
  | _ => none }
def fnExactPagesDropRow : OpenClaim := { program := "ytebgpbcbbjpbfaa", sum := "eaec1fb3ddb3a8da7bcdeea05628209a0af0d8f94a8e6a49ebb7ac96e6269cb5", func := "loop.example/rangechains/laws.FnExactPagesDrop", spec := "fnExactPagesDrop", unfollowed := true, recurses := true, apart := false }
def FnExactPagesDropSaid : Prop := fnExactPagesDropRow.holds Try.pinned (OpenSpec.ofChange fnExactPagesDropSpec)

/-- ITS FALSE NEIGHBOUR: 'it returns false'. Refute it at one input. -/
def fnExactPagesDropWrong : ChangeSpec := { name := "fnExactPagesDrop", fn := fun _ => fun
  | [d1, d2] => { results := [.lit (.bool false)], args := [d1, d2] }
  | _ => none }
def FnExactPagesDropWrongFalsely : Prop := fnExactPagesDropRow.holds Try.pinned (OpenSpec.ofChange fnExactPagesDropWrong)

/-- 'laws.FnPageFind': WHATEVER THE INPUT: true; the input reads as it did. -/
def fnPageFindSpec : ChangeSpec := { name := "fnPageFind", fn := fun _ => fun
  | [d] => { results := [.lit (.bool true)], args := [d] }
  | _ => none }
def fnPageFindRow : OpenClaim := { program := "ytebgpbcbbjpbfaa", sum := "eaec1fb3ddb3a8da7bcdeea05628209a0af0d8f94a8e6a49ebb7ac96e6269cb5", func := "loop.example/rangechains/laws.FnPageFind", spec := "fnPageFind", unfollowed := true, recurses := true, apart := false }
def FnPageFindSaid : Prop := fnPageFindRow.holds Try.pinned (OpenSpec.ofChange fnPageFindSpec)

/-- ITS FALSE NEIGHBOUR: 'it returns false'. Refute it at one input. -/
def fnPageFindWrong : ChangeSpec := { name := "fnPageFind", fn := fun _ => fun
  | [d] => { results := [.lit (.bool false)], args := [d] }
  | _ => none }
def FnPageFindWrongFalsely : Prop := fnPageFindRow.holds Try.pinned (OpenSpec.ofChange fnPageFindWrong)

/-- 'laws.FnPagesPut': WHATEVER THE INPUT: true; the input reads as it did. -/
def fnPagesPutSpec : ChangeSpec := { name := "fnPagesPut", fn := fun _ => fun
  | [d] => { results := [.lit (.bool true)], args := [d] }
  | _ => none }
def fnPagesPutRow : OpenClaim := { program := "ytebgpbcbbjpbfaa", sum := "eaec1fb3ddb3a8da7bcdeea05628209a0af0d8f94a8e6a49ebb7ac96e6269cb5", func := "loop.example/rangechains/laws.FnPagesPut", spec := "fnPagesPut", unfollowed := true, recurses := true, apart := false }
def FnPagesPutSaid : Prop := fnPagesPutRow.holds Try.pinned (OpenSpec.ofChange fnPagesPutSpec)

/-- ITS FALSE NEIGHBOUR: 'it returns false'. Refute it at one input. -/
def fnPagesPutWrong : ChangeSpec := { name := "fnPagesPut", fn := fun _ => fun
  | [d] => { results := [.lit (.bool false)], args := [d] }
  | _ => none }
def FnPagesPutWrongFalsely : Prop := fnPagesPutRow.holds Try.pinned (OpenSpec.ofChange fnPagesPutWrong)

/-- 'laws.FnPagesValid': WHATEVER THE INPUT: true; the input reads as it did. -/
def fnPagesValidSpec : ChangeSpec := { name := "fnPagesValid", fn := fun _ => fun
  | [d] => { results := [.lit (.bool true)], args := [d] }
  | _ => none }
def fnPagesValidRow : OpenClaim := { program := "ytebgpbcbbjpbfaa", sum := "eaec1fb3ddb3a8da7bcdeea05628209a0af0d8f94a8e6a49ebb7ac96e6269cb5", func := "loop.example/rangechains/laws.FnPagesValid", spec := "fnPagesValid", recurses := true, apart := false }
def FnPagesValidSaid : Prop := fnPagesValidRow.holds Try.pinned (OpenSpec.ofChange fnPagesValidSpec)

/-- ITS FALSE NEIGHBOUR: 'it returns false'. Refute it at one input. -/
def fnPagesValidWrong : ChangeSpec := { name := "fnPagesValid", fn := fun _ => fun
  | [d] => { results := [.lit (.bool false)], args := [d] }
  | _ => none }
def FnPagesValidWrongFalsely : Prop := fnPagesValidRow.holds Try.pinned (OpenSpec.ofChange fnPagesValidWrong)

/-- 'laws.FnPagesList': WHATEVER THE INPUT: true; the input reads as it did. -/
def fnPagesListSpec : ChangeSpec := { name := "fnPagesList", fn := fun _ => fun
  | [d] => { results := [.lit (.bool true)], args := [d] }
  | _ => none }
def fnPagesListRow : OpenClaim := { program := "ytebgpbcbbjpbfaa", sum := "eaec1fb3ddb3a8da7bcdeea05628209a0af0d8f94a8e6a49ebb7ac96e6269cb5", func := "loop.example/rangechains/laws.FnPagesList", spec := "fnPagesList", recurses := true, apart := false }
def FnPagesListSaid : Prop := fnPagesListRow.holds Try.pinned (OpenSpec.ofChange fnPagesListSpec)

/-- ITS FALSE NEIGHBOUR: 'it returns false'. Refute it at one input. -/
def fnPagesListWrong : ChangeSpec := { name := "fnPagesList", fn := fun _ => fun
  | [d] => { results := [.lit (.bool false)], args := [d] }
  | _ => none }
def FnPagesListWrongFalsely : Prop := fnPagesListRow.holds Try.pinned (OpenSpec.ofChange fnPagesListWrong)

/- THE SECOND FORM. 'bulk': how many values and letters a reading holds, each counted each time it is reached (what is shared counts as often as it is met; a slice's spare places count too). A statement '..UptoSaid' is the law's where the arguments, and the package variables that the reading takes, are together of bulk at most 1048576: NARROWER than '..Said'. Prove '..Said' where nothing that the law and all that it calls make is longer than what came in: it says more and counts as full. Else prove '..UptoSaid'. A law counts once. -/
mutual
def uptoBulk {H : Type} : DataW H → Nat
  | .lit (.string bytes) => bytes.length + 1
  | .lit _ => 1
  | .nil => 1
  | .ptr d => uptoBulk d + 1
  | .slice elems spare => uptoBulkAll elems + uptoBulkAll spare + 1
  | .agg parts => uptoBulkAll parts + 1
  | .iface _ d => uptoBulk d + 1
  | .map entries => uptoBulkEntries entries + 1
  | .held _ => 1
def uptoBulkAll {H : Type} : List (DataW H) → Nat
  | [] => 0
  | d :: r => uptoBulk d + uptoBulkAll r
def uptoBulkEntries {H : Type} : List (Lit × DataW H) → Nat
  | [] => 0
  | x :: r => uptoBulkEntry x + uptoBulkEntries r
def uptoBulkEntry {H : Type} : Lit × DataW H → Nat
  | (.string bytes, d) => bytes.length + uptoBulk d + 1
  | (_, d) => uptoBulk d + 1
 end
def uptoSmall : (H : Type) → List (DataW H) → Bool := fun _ ds => decide (uptoBulkAll ds ≤ 1048576)
def OpenSpec.upto (s : _root_.Go.ChangeSpec) : _root_.Go.OpenSpec := { _root_.Go.OpenSpec.ofChange s with cond := some uptoSmall }

/-- 'laws.FnExactPartitionSplit', WHERE WHAT IT READS IS OF BULK AT MOST 1048576: true; the input reads as it did. -/
def fnExactPartitionSplitUptoRow : OpenClaim := { program := "ytebgpbcbbjpbfaa", sum := "eaec1fb3ddb3a8da7bcdeea05628209a0af0d8f94a8e6a49ebb7ac96e6269cb5", func := "loop.example/rangechains/laws.FnExactPartitionSplit", spec := "fnExactPartitionSplit", recurses := true, apart := false, narrowed := true }
def FnExactPartitionSplitUptoSaid : Prop := fnExactPartitionSplitUptoRow.holds Try.pinned (OpenSpec.upto fnExactPartitionSplitSpec)

/-- 'laws.FnPagesOf', WHERE WHAT IT READS IS OF BULK AT MOST 1048576: true; the input reads as it did. -/
def fnPagesOfUptoRow : OpenClaim := { program := "ytebgpbcbbjpbfaa", sum := "eaec1fb3ddb3a8da7bcdeea05628209a0af0d8f94a8e6a49ebb7ac96e6269cb5", func := "loop.example/rangechains/laws.FnPagesOf", spec := "fnPagesOf", recurses := true, apart := false, narrowed := true }
def FnPagesOfUptoSaid : Prop := fnPagesOfUptoRow.holds Try.pinned (OpenSpec.upto fnPagesOfSpec)

/-- 'laws.FnExactPagesValid', WHERE WHAT IT READS IS OF BULK AT MOST 1048576: true; the input reads as it did. -/
def fnExactPagesValidUptoRow : OpenClaim := { program := "ytebgpbcbbjpbfaa", sum := "eaec1fb3ddb3a8da7bcdeea05628209a0af0d8f94a8e6a49ebb7ac96e6269cb5", func := "loop.example/rangechains/laws.FnExactPagesValid", spec := "fnExactPagesValid", recurses := true, apart := false, narrowed := true }
def FnExactPagesValidUptoSaid : Prop := fnExactPagesValidUptoRow.holds Try.pinned (OpenSpec.upto fnExactPagesValidSpec)

/-- 'laws.FnExactPageFind', WHERE WHAT IT READS IS OF BULK AT MOST 1048576: true; the input reads as it did. -/
def fnExactPageFindUptoRow : OpenClaim := { program := "ytebgpbcbbjpbfaa", sum := "eaec1fb3ddb3a8da7bcdeea05628209a0af0d8f94a8e6a49ebb7ac96e6269cb5", func := "loop.example/rangechains/laws.FnExactPageFind", spec := "fnExactPageFind", recurses := true, apart := false, narrowed := true }
def FnExactPageFindUptoSaid : Prop := fnExactPageFindUptoRow.holds Try.pinned (OpenSpec.upto fnExactPageFindSpec)

/-- 'laws.FnExactPagesOf', WHERE WHAT IT READS IS OF BULK AT MOST 1048576: true; the input reads as it did. -/
def fnExactPagesOfUptoRow : OpenClaim := { program := "ytebgpbcbbjpbfaa", sum := "eaec1fb3ddb3a8da7bcdeea05628209a0af0d8f94a8e6a49ebb7ac96e6269cb5", func := "loop.example/rangechains/laws.FnExactPagesOf", spec := "fnExactPagesOf", recurses := true, apart := false, narrowed := true }
def FnExactPagesOfUptoSaid : Prop := fnExactPagesOfUptoRow.holds Try.pinned (OpenSpec.upto fnExactPagesOfSpec)

/-- 'laws.FnExactPagesList', WHERE WHAT IT READS IS OF BULK AT MOST 1048576: true; the input reads as it did. -/
def fnExactPagesListUptoRow : OpenClaim := { program := "ytebgpbcbbjpbfaa", sum := "eaec1fb3ddb3a8da7bcdeea05628209a0af0d8f94a8e6a49ebb7ac96e6269cb5", func := "loop.example/rangechains/laws.FnExactPagesList", spec := "fnExactPagesList", recurses := true, apart := false, narrowed := true }
def FnExactPagesListUptoSaid : Prop := fnExactPagesListUptoRow.holds Try.pinned (OpenSpec.upto fnExactPagesListSpec)

/-- 'laws.FnExactPagesPut', WHERE WHAT IT READS IS OF BULK AT MOST 1048576: true; the input reads as it did. -/
def fnExactPagesPutUptoRow : OpenClaim := { program := "ytebgpbcbbjpbfaa", sum := "eaec1fb3ddb3a8da7bcdeea05628209a0af0d8f94a8e6a49ebb7ac96e6269cb5", func := "loop.example/rangechains/laws.FnExactPagesPut", spec := "fnExactPagesPut", unfollowed := true, recurses := true, apart := false, narrowed := true }
def FnExactPagesPutUptoSaid : Prop := fnExactPagesPutUptoRow.holds Try.pinned (OpenSpec.upto fnExactPagesPutSpec)

/-- 'laws.FnExactPagesDrop', WHERE WHAT IT READS IS OF BULK AT MOST 1048576: true; the input reads as it did. -/
def fnExactPagesDropUptoRow : OpenClaim := { program := "ytebgpbcbbjpbfaa", sum := "eaec1fb3ddb3a8da7bcdeea05628209a0af0d8f94a8e6a49ebb7ac96e6269cb5", func := "loop.example/rangechains/laws.FnExactPagesDrop", spec := "fnExactPagesDrop", unfollowed := true, recurses := true, apart := false, narrowed := true }
def FnExactPagesDropUptoSaid : Prop := fnExactPagesDropUptoRow.holds Try.pinned (OpenSpec.upto fnExactPagesDropSpec)

/-- 'laws.FnPageFind', WHERE WHAT IT READS IS OF BULK AT MOST 1048576: true; the input reads as it did. -/
def fnPageFindUptoRow : OpenClaim := { program := "ytebgpbcbbjpbfaa", sum := "eaec1fb3ddb3a8da7bcdeea05628209a0af0d8f94a8e6a49ebb7ac96e6269cb5", func := "loop.example/rangechains/laws.FnPageFind", spec := "fnPageFind", unfollowed := true, recurses := true, apart := false, narrowed := true }
def FnPageFindUptoSaid : Prop := fnPageFindUptoRow.holds Try.pinned (OpenSpec.upto fnPageFindSpec)

/-- 'laws.FnPagesPut', WHERE WHAT IT READS IS OF BULK AT MOST 1048576: true; the input reads as it did. -/
def fnPagesPutUptoRow : OpenClaim := { program := "ytebgpbcbbjpbfaa", sum := "eaec1fb3ddb3a8da7bcdeea05628209a0af0d8f94a8e6a49ebb7ac96e6269cb5", func := "loop.example/rangechains/laws.FnPagesPut", spec := "fnPagesPut", unfollowed := true, recurses := true, apart := false, narrowed := true }
def FnPagesPutUptoSaid : Prop := fnPagesPutUptoRow.holds Try.pinned (OpenSpec.upto fnPagesPutSpec)

/-- 'laws.FnPagesValid', WHERE WHAT IT READS IS OF BULK AT MOST 1048576: true; the input reads as it did. -/
def fnPagesValidUptoRow : OpenClaim := { program := "ytebgpbcbbjpbfaa", sum := "eaec1fb3ddb3a8da7bcdeea05628209a0af0d8f94a8e6a49ebb7ac96e6269cb5", func := "loop.example/rangechains/laws.FnPagesValid", spec := "fnPagesValid", recurses := true, apart := false, narrowed := true }
def FnPagesValidUptoSaid : Prop := fnPagesValidUptoRow.holds Try.pinned (OpenSpec.upto fnPagesValidSpec)

/-- 'laws.FnPagesList', WHERE WHAT IT READS IS OF BULK AT MOST 1048576: true; the input reads as it did. -/
def fnPagesListUptoRow : OpenClaim := { program := "ytebgpbcbbjpbfaa", sum := "eaec1fb3ddb3a8da7bcdeea05628209a0af0d8f94a8e6a49ebb7ac96e6269cb5", func := "loop.example/rangechains/laws.FnPagesList", spec := "fnPagesList", recurses := true, apart := false, narrowed := true }
def FnPagesListUptoSaid : Prop := fnPagesListUptoRow.holds Try.pinned (OpenSpec.upto fnPagesListSpec)

end Rows
end Go.Proofs.Ytebgpbcbbjpbfaa
