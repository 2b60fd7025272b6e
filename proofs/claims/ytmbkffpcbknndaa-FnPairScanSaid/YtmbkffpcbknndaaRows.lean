/-
  No cell of these rows narrows 'for every input' (looked for: loops, veiled, ifaces, maps, wideKeys, modest, calm, conditions, laid).
  DERIVED. THE GIVEN ROWS OF THIS SEAT. 9 by the template 'for every input the law returns true; each argument reads behind the call as it read before'; 0 by the template 'total and deterministic' (their statements: YtmbkffpcbknndaaTotals.lean).
  GIVEN WITH THE SEED: the statements are not yours to turn. If you find one false, say at which input.
  Laid BY PROGRAM, IN A SANDBOX (cutbox-rows.mjs): the forced cells as the released guide's own fill.sh prints them over the translation 491f7803a5ec364e… (all of the seat's roots in one cut). By AI agents, Wed Nov 11 2026. No macro, syntax, notation, axiom, sorry.
-/
import Derived.Test.YtmbkffpcbknndaaChecked
import GoSem.Claim
import GoSem.ClaimJoined
import GoSem.ClaimMapViews
import Derived.JoinedTies
import Derived.KernelRfl
namespace Go.Proofs.Ytmbkffpcbknndaa
/- THE CELL 'sum', in the pinned program and in every row, IS THE sha256 OF THE DUMP (.gsa) THAT YtmbkffpcbknndaaProg.lean LOADS. Nothing in Lean hashes anything: it is a label: what it is worth is what the hold of that sum in a sandbox is worth. -/
noncomputable def Try.pinned : Pinned := { name := "ytmbkffpcbknndaa", sum := "491f7803a5ec364e65387ddd1733c8feadff84993ae0a7496d824e767b81f6df", checked := Try.checked }
namespace Rows
def none {H : Type} : Left H := { results := [], args := [] }

/-- 'laws.FnPairsValid': WHATEVER THE INPUT: true; the input reads as it did. -/
def fnPairsValidSpec : ChangeSpec := { name := "fnPairsValid", fn := fun _ => fun
  | [d] => { results := [.lit (.bool true)], args := [d] }
  | _ => none }
def fnPairsValidRow : OpenClaim := { program := "ytmbkffpcbknndaa", sum := "491f7803a5ec364e65387ddd1733c8feadff84993ae0a7496d824e767b81f6df", func := "loop.example/rangechains/laws.FnPairsValid", spec := "fnPairsValid", recurses := true, apart := false }
def FnPairsValidSaid : Prop := fnPairsValidRow.holds Try.pinned (OpenSpec.ofChange fnPairsValidSpec)

/-- ITS FALSE NEIGHBOUR: 'it returns false'. Refute it at one input. -/
def fnPairsValidWrong : ChangeSpec := { name := "fnPairsValid", fn := fun _ => fun
  | [d] => { results := [.lit (.bool false)], args := [d] }
  | _ => none }
def FnPairsValidWrongFalsely : Prop := fnPairsValidRow.holds Try.pinned (OpenSpec.ofChange fnPairsValidWrong)

/-- 'laws.FnPairGet': WHATEVER THE INPUT: true; the input reads as it did. -/
def fnPairGetSpec : ChangeSpec := { name := "fnPairGet", fn := fun _ => fun
  | [d] => { results := [.lit (.bool true)], args := [d] }
  | _ => none }
def fnPairGetRow : OpenClaim := { program := "ytmbkffpcbknndaa", sum := "491f7803a5ec364e65387ddd1733c8feadff84993ae0a7496d824e767b81f6df", func := "loop.example/rangechains/laws.FnPairGet", spec := "fnPairGet", unfollowed := true, recurses := true, apart := false }
def FnPairGetSaid : Prop := fnPairGetRow.holds Try.pinned (OpenSpec.ofChange fnPairGetSpec)

/-- ITS FALSE NEIGHBOUR: 'it returns false'. Refute it at one input. -/
def fnPairGetWrong : ChangeSpec := { name := "fnPairGet", fn := fun _ => fun
  | [d] => { results := [.lit (.bool false)], args := [d] }
  | _ => none }
def FnPairGetWrongFalsely : Prop := fnPairGetRow.holds Try.pinned (OpenSpec.ofChange fnPairGetWrong)

/-- 'laws.FnPairsMiddle': WHATEVER THE INPUT: true; the input reads as it did. -/
def fnPairsMiddleSpec : ChangeSpec := { name := "fnPairsMiddle", fn := fun _ => fun
  | [d] => { results := [.lit (.bool true)], args := [d] }
  | _ => none }
def fnPairsMiddleRow : OpenClaim := { program := "ytmbkffpcbknndaa", sum := "491f7803a5ec364e65387ddd1733c8feadff84993ae0a7496d824e767b81f6df", func := "loop.example/rangechains/laws.FnPairsMiddle", spec := "fnPairsMiddle", unfollowed := true, recurses := true, apart := false }
def FnPairsMiddleSaid : Prop := fnPairsMiddleRow.holds Try.pinned (OpenSpec.ofChange fnPairsMiddleSpec)

/-- ITS FALSE NEIGHBOUR: 'it returns false'. Refute it at one input. -/
def fnPairsMiddleWrong : ChangeSpec := { name := "fnPairsMiddle", fn := fun _ => fun
  | [d] => { results := [.lit (.bool false)], args := [d] }
  | _ => none }
def FnPairsMiddleWrongFalsely : Prop := fnPairsMiddleRow.holds Try.pinned (OpenSpec.ofChange fnPairsMiddleWrong)

/-- 'laws.FnPairPut': WHATEVER THE INPUT: true; the input reads as it did. -/
def fnPairPutSpec : ChangeSpec := { name := "fnPairPut", fn := fun _ => fun
  | [d] => { results := [.lit (.bool true)], args := [d] }
  | _ => none }
def fnPairPutRow : OpenClaim := { program := "ytmbkffpcbknndaa", sum := "491f7803a5ec364e65387ddd1733c8feadff84993ae0a7496d824e767b81f6df", func := "loop.example/rangechains/laws.FnPairPut", spec := "fnPairPut", unfollowed := true, recurses := true, apart := false }
def FnPairPutSaid : Prop := fnPairPutRow.holds Try.pinned (OpenSpec.ofChange fnPairPutSpec)

/-- ITS FALSE NEIGHBOUR: 'it returns false'. Refute it at one input. -/
def fnPairPutWrong : ChangeSpec := { name := "fnPairPut", fn := fun _ => fun
  | [d] => { results := [.lit (.bool false)], args := [d] }
  | _ => none }
def FnPairPutWrongFalsely : Prop := fnPairPutRow.holds Try.pinned (OpenSpec.ofChange fnPairPutWrong)

/-- 'laws.FnPairDrop': WHATEVER THE INPUT: true; the input reads as it did. -/
def fnPairDropSpec : ChangeSpec := { name := "fnPairDrop", fn := fun _ => fun
  | [d] => { results := [.lit (.bool true)], args := [d] }
  | _ => none }
def fnPairDropRow : OpenClaim := { program := "ytmbkffpcbknndaa", sum := "491f7803a5ec364e65387ddd1733c8feadff84993ae0a7496d824e767b81f6df", func := "loop.example/rangechains/laws.FnPairDrop", spec := "fnPairDrop", unfollowed := true, recurses := true, apart := false }
def FnPairDropSaid : Prop := fnPairDropRow.holds Try.pinned (OpenSpec.ofChange fnPairDropSpec)

/-- ITS FALSE NEIGHBOUR: 'it returns false'. Refute it at one input. -/
def fnPairDropWrong : ChangeSpec := { name := "fnPairDrop", fn := fun _ => fun
  | [d] => { results := [.lit (.bool false)], args := [d] }
  | _ => none }
def FnPairDropWrongFalsely : Prop := fnPairDropRow.holds Try.pinned (OpenSpec.ofChange fnPairDropWrong)

/-- 'laws.FnPairChanges': WHATEVER THE INPUT: true; the input reads as it did. -/
def fnPairChangesSpec : ChangeSpec := { name := "fnPairChanges", fn := fun _ => fun
  | [d] => { results := [.lit (.bool true)], args := [d] }
  | _ => none }
def fnPairChangesRow : OpenClaim := { program := "ytmbkffpcbknndaa", sum := "491f7803a5ec364e65387ddd1733c8feadff84993ae0a7496d824e767b81f6df", func := "loop.example/rangechains/laws.FnPairChanges", spec := "fnPairChanges", unfollowed := true, recurses := true, apart := false }
def FnPairChangesSaid : Prop := fnPairChangesRow.holds Try.pinned (OpenSpec.ofChange fnPairChangesSpec)

/-- ITS FALSE NEIGHBOUR: 'it returns false'. Refute it at one input. -/
def fnPairChangesWrong : ChangeSpec := { name := "fnPairChanges", fn := fun _ => fun
  | [d] => { results := [.lit (.bool false)], args := [d] }
  | _ => none }
def FnPairChangesWrongFalsely : Prop := fnPairChangesRow.holds Try.pinned (OpenSpec.ofChange fnPairChangesWrong)

/-- 'laws.FnPairsJoin': WHATEVER THE INPUT: true; the input reads as it did. -/
def fnPairsJoinSpec : ChangeSpec := { name := "fnPairsJoin", fn := fun _ => fun
  | [d] => { results := [.lit (.bool true)], args := [d] }
  | _ => none }
def fnPairsJoinRow : OpenClaim := { program := "ytmbkffpcbknndaa", sum := "491f7803a5ec364e65387ddd1733c8feadff84993ae0a7496d824e767b81f6df", func := "loop.example/rangechains/laws.FnPairsJoin", spec := "fnPairsJoin", unfollowed := true, recurses := true, apart := false }
def FnPairsJoinSaid : Prop := fnPairsJoinRow.holds Try.pinned (OpenSpec.ofChange fnPairsJoinSpec)

/-- ITS FALSE NEIGHBOUR: 'it returns false'. Refute it at one input. -/
def fnPairsJoinWrong : ChangeSpec := { name := "fnPairsJoin", fn := fun _ => fun
  | [d] => { results := [.lit (.bool false)], args := [d] }
  | _ => none }
def FnPairsJoinWrongFalsely : Prop := fnPairsJoinRow.holds Try.pinned (OpenSpec.ofChange fnPairsJoinWrong)

/-- 'laws.FnPairsIn': WHATEVER THE INPUT: true; the input reads as it did. -/
def fnPairsInSpec : ChangeSpec := { name := "fnPairsIn", fn := fun _ => fun
  | [d] => { results := [.lit (.bool true)], args := [d] }
  | _ => none }
def fnPairsInRow : OpenClaim := { program := "ytmbkffpcbknndaa", sum := "491f7803a5ec364e65387ddd1733c8feadff84993ae0a7496d824e767b81f6df", func := "loop.example/rangechains/laws.FnPairsIn", spec := "fnPairsIn", unfollowed := true, recurses := true, apart := false }
def FnPairsInSaid : Prop := fnPairsInRow.holds Try.pinned (OpenSpec.ofChange fnPairsInSpec)

/-- ITS FALSE NEIGHBOUR: 'it returns false'. Refute it at one input. -/
def fnPairsInWrong : ChangeSpec := { name := "fnPairsIn", fn := fun _ => fun
  | [d] => { results := [.lit (.bool false)], args := [d] }
  | _ => none }
def FnPairsInWrongFalsely : Prop := fnPairsInRow.holds Try.pinned (OpenSpec.ofChange fnPairsInWrong)

/-- 'laws.FnPairScan': WHATEVER THE INPUT: true; the input reads as it did. -/
def fnPairScanSpec : ChangeSpec := { name := "fnPairScan", fn := fun _ => fun
  | [d] => { results := [.lit (.bool true)], args := [d] }
  | _ => none }
def fnPairScanRow : OpenClaim := { program := "ytmbkffpcbknndaa", sum := "491f7803a5ec364e65387ddd1733c8feadff84993ae0a7496d824e767b81f6df", func := "loop.example/rangechains/laws.FnPairScan", spec := "fnPairScan", unfollowed := true, recurses := true, apart := false }
def FnPairScanSaid : Prop := fnPairScanRow.holds Try.pinned (OpenSpec.ofChange fnPairScanSpec)

/-- ITS FALSE NEIGHBOUR: 'it returns false'. Refute it at one input. -/
def fnPairScanWrong : ChangeSpec := { name := "fnPairScan", fn := fun _ => fun
  | [d] => { results := [.lit (.bool false)], args := [d] }
  | _ => none }
def FnPairScanWrongFalsely : Prop := fnPairScanRow.holds Try.pinned (OpenSpec.ofChange fnPairScanWrong)

/- THE SECOND FORM. 'bulk': how many values and letters a reading holds, each counted each time it is reached (what is shared counts as often as it is met; a slice's spare places count too). A statement '..UptoSaid' is the law's where the arguments, and the package variables that the reading takes, are together of bulk at most 1048576: NARROWER than '..Said'. Prove '..Said' where nothing that the law and all that it calls make is longer than what came in: it says more and counts as full. Else prove '..UptoSaid'. A law counts once. -/
mutual
def uptoBulk {H : Type} : DataW H → Nat
  | .lit (.string bytes) => bytes.length + 1
  | .lit _ => 1
  | .nil => 1
  | .ptr d => uptoBulk d + 1
  | .slice elems spare => uptoBulkAll elems + uptoBulkAll spare + 1
  | .agg parts => uptoBulkAll parts + 1
  | .iface _ d => uptoBulk d + 1
  | .map entries => uptoBulkEntries entries + 1
  | .held _ => 1
def uptoBulkAll {H : Type} : List (DataW H) → Nat
  | [] => 0
  | d :: r => uptoBulk d + uptoBulkAll r
def uptoBulkEntries {H : Type} : List (Lit × DataW H) → Nat
  | [] => 0
  | x :: r => uptoBulkEntry x + uptoBulkEntries r
def uptoBulkEntry {H : Type} : Lit × DataW H → Nat
  | (.string bytes, d) => bytes.length + uptoBulk d + 1
  | (_, d) => uptoBulk d + 1
 end
def uptoSmall : (H : Type) → List (DataW H) → Bool := fun _ ds => decide (uptoBulkAll ds ≤ 1048576)
def OpenSpec.upto (s : _root_.Go.ChangeSpec) : _root_.Go.OpenSpec := { _root_.Go.OpenSpec.ofChange s with cond := some uptoSmall }

/-- 'laws.FnPairsValid', WHERE WHAT IT READS IS OF BULK AT MOST 1048576: true; the input reads as it did. -/
def fnPairsValidUptoRow : OpenClaim := { program := "ytmbkffpcbknndaa", sum := "491f7803a5ec364e65387ddd1733c8feadff84993ae0a7496d824e767b81f6df", func := "loop.example/rangechains/laws.FnPairsValid", spec := "fnPairsValid", recurses := true, apart := false, narrowed := true }
def FnPairsValidUptoSaid : Prop := fnPairsValidUptoRow.holds Try.pinned (OpenSpec.upto fnPairsValidSpec)

/-- 'laws.FnPairGet', WHERE WHAT IT READS IS OF BULK AT MOST 1048576: true; the input reads as it did. -/
def fnPairGetUptoRow : OpenClaim := { program := "ytmbkffpcbknndaa", sum := "491f7803a5ec364e65387ddd1733c8feadff84993ae0a7496d824e767b81f6df", func := "loop.example/rangechains/laws.FnPairGet", spec := "fnPairGet", unfollowed := true, recurses := true, apart := false, narrowed := true }
def FnPairGetUptoSaid : Prop := fnPairGetUptoRow.holds Try.pinned (OpenSpec.upto fnPairGetSpec)

/-- 'laws.FnPairsMiddle', WHERE WHAT IT READS IS OF BULK AT MOST 1048576: true; the input reads as it did. -/
def fnPairsMiddleUptoRow : OpenClaim := { program := "ytmbkffpcbknndaa", sum := "491f7803a5ec364e65387ddd1733c8feadff84993ae0a7496d824e767b81f6df", func := "loop.example/rangechains/laws.FnPairsMiddle", spec := "fnPairsMiddle", unfollowed := true, recurses := true, apart := false, narrowed := true }
def FnPairsMiddleUptoSaid : Prop := fnPairsMiddleUptoRow.holds Try.pinned (OpenSpec.upto fnPairsMiddleSpec)

/-- 'laws.FnPairPut', WHERE WHAT IT READS IS OF BULK AT MOST 1048576: true; the input reads as it did. -/
def fnPairPutUptoRow : OpenClaim := { program := "ytmbkffpcbknndaa", sum := "491f7803a5ec364e65387ddd1733c8feadff84993ae0a7496d824e767b81f6df", func := "loop.example/rangechains/laws.FnPairPut", spec := "fnPairPut", unfollowed := true, recurses := true, apart := false, narrowed := true }
def FnPairPutUptoSaid : Prop := fnPairPutUptoRow.holds Try.pinned (OpenSpec.upto fnPairPutSpec)

/-- 'laws.FnPairDrop', WHERE WHAT IT READS IS OF BULK AT MOST 1048576: true; the input reads as it did. -/
def fnPairDropUptoRow : OpenClaim := { program := "ytmbkffpcbknndaa", sum := "491f7803a5ec364e65387ddd1733c8feadff84993ae0a7496d824e767b81f6df", func := "loop.example/rangechains/laws.FnPairDrop", spec := "fnPairDrop", unfollowed := true, recurses := true, apart := false, narrowed := true }
def FnPairDropUptoSaid : Prop := fnPairDropUptoRow.holds Try.pinned (OpenSpec.upto fnPairDropSpec)

/-- 'laws.FnPairChanges', WHERE WHAT IT READS IS OF BULK AT MOST 1048576: true; the input reads as it did. -/
def fnPairChangesUptoRow : OpenClaim := { program := "ytmbkffpcbknndaa", sum := "491f7803a5ec364e65387ddd1733c8feadff84993ae0a7496d824e767b81f6df", func := "loop.example/rangechains/laws.FnPairChanges", spec := "fnPairChanges", unfollowed := true, recurses := true, apart := false, narrowed := true }
def FnPairChangesUptoSaid : Prop := fnPairChangesUptoRow.holds Try.pinned (OpenSpec.upto fnPairChangesSpec)

/-- 'laws.FnPairsJoin', WHERE WHAT IT READS IS OF BULK AT MOST 1048576: true; the input reads as it did. -/
def fnPairsJoinUptoRow : OpenClaim := { program := "ytmbkffpcbknndaa", sum := "491f7803a5ec364e65387ddd1733c8feadff84993ae0a7496d824e767b81f6df", func := "loop.example/rangechains/laws.FnPairsJoin", spec := "fnPairsJoin", unfollowed := true, recurses := true, apart := false, narrowed := true }
def FnPairsJoinUptoSaid : Prop := fnPairsJoinUptoRow.holds Try.pinned (OpenSpec.upto fnPairsJoinSpec)

/-- 'laws.FnPairsIn', WHERE WHAT IT READS IS OF BULK AT MOST 1048576: true; the input reads as it did. -/
def fnPairsInUptoRow : OpenClaim := { program := "ytmbkffpcbknndaa", sum := "491f7803a5ec364e65387ddd1733c8feadff84993ae0a7496d824e767b81f6df", func := "loop.example/rangechains/laws.FnPairsIn", spec := "fnPairsIn", unfollowed := true, recurses := true, apart := false, narrowed := true }
def FnPairsInUptoSaid : Prop := fnPairsInUptoRow.holds Try.pinned (OpenSpec.upto fnPairsInSpec)

/-- 'laws.FnPairScan', WHERE WHAT IT READS IS OF BULK AT MOST 1048576: true; the input reads as it did. -/
def fnPairScanUptoRow : OpenClaim := { program := "ytmbkffpcbknndaa", sum := "491f7803a5ec364e65387ddd1733c8feadff84993ae0a7496d824e767b81f6df", func := "loop.example/rangechains/laws.FnPairScan", spec := "fnPairScan", unfollowed := true, recurses := true, apart := false, narrowed := true }
def FnPairScanUptoSaid : Prop := fnPairScanUptoRow.holds Try.pinned (OpenSpec.upto fnPairScanSpec)

end Rows
end Go.Proofs.Ytmbkffpcbknndaa
