/-
  No cell of these rows narrows 'for every input' (looked for: loops, veiled, ifaces, maps, wideKeys, modest, calm, conditions, laid).
  DERIVED. THE GIVEN ROWS OF THIS SEAT. 8 by the template 'for every input the law returns true; each argument reads behind the call as it read before'; 0 by the template 'total and deterministic' (their statements: YtakgmbeglcehcaaTotals.lean).
  GIVEN WITH THE SEED: the statements are not yours to turn. If you find one false, say at which input.
  Laid BY PROGRAM, IN A SANDBOX (cutbox-rows.mjs): the forced cells as the released guide's own fill.sh prints them over the translation e6eff958586e482a… (all of the seat's roots in one cut). By AI agents, Wed Nov 11 2026. No macro, syntax, notation, axiom, sorry.
-/
import Derived.Test.YtakgmbeglcehcaaChecked
import GoSem.Claim
import GoSem.ClaimJoined
import GoSem.ClaimMapViews
import Derived.JoinedTies
import Derived.KernelRfl
namespace Go.Proofs.Ytakgmbeglcehcaa
/- THE CELL 'sum', in the pinned program and in every row, IS THE sha256 OF THE DUMP (.gsa) THAT YtakgmbeglcehcaaProg.lean LOADS. Nothing in Lean hashes anything: it is a label: what it is worth is what the hold of that sum in a sandbox is worth. -/
noncomputable def Try.pinned : Pinned := { name := "ytakgmbeglcehcaa", sum := "e6eff958586e482a8da675a05a9c148e9d395e81289a5b260a47a65084878a5a", checked := Try.checked }
namespace Rows
def none {H : Type} : Left H := { results := [], args := [] }

/-- 'laws.FnExactPairDrop': WHATEVER THE INPUT: true; the input reads as it did. -/
def fnExactPairDropSpec : ChangeSpec := { name := "fnExactPairDrop", fn := fun _ => fun
  | [d1, d2] => { results := [.lit (.bool true)], args := [d1, d2] }
  | _ => none }
def fnExactPairDropRow : OpenClaim := { program := "ytakgmbeglcehcaa", sum := "e6eff958586e482a8da675a05a9c148e9d395e81289a5b260a47a65084878a5a", func := "loop.example/rangechains/laws.FnExactPairDrop", spec := "fnExactPairDrop", unfollowed := true, recurses := true, apart := false }
def FnExactPairDropSaid : Prop := fnExactPairDropRow.holds Try.pinned (OpenSpec.ofChange fnExactPairDropSpec)

/-- ITS FALSE NEIGHBOUR: 'it returns false'. Refute it at one input. -/
def fnExactPairDropWrong : ChangeSpec := { name := "fnExactPairDrop", fn := fun _ => fun
  | [d1, d2] => { results := [.lit (.bool false)], args := [d1, d2] }
  | _ => none }
def FnExactPairDropWrongFalsely : Prop := fnExactPairDropRow.holds Try.pinned (OpenSpec.ofChange fnExactPairDropWrong)

/-- 'laws.FnExactPairPut': WHATEVER THE INPUT: true; the input reads as it did. -/
def fnExactPairPutSpec : ChangeSpec := { name := "fnExactPairPut", fn := fun _ => fun
  | [d1, d2, d3] => { results := [.lit (.bool true)], args := [d1, d2, d3] }
  | _ => none }
def fnExactPairPutRow : OpenClaim := { program := "ytakgmbeglcehcaa", sum := "e6eff958586e482a8da675a05a9c148e9d395e81289a5b260a47a65084878a5a", func := "loop.example/rangechains/laws.FnExactPairPut", spec := "fnExactPairPut", unfollowed := true, recurses := true, apart := false }
def FnExactPairPutSaid : Prop := fnExactPairPutRow.holds Try.pinned (OpenSpec.ofChange fnExactPairPutSpec)

/-- ITS FALSE NEIGHBOUR: 'it returns false'. Refute it at one input. -/
def fnExactPairPutWrong : ChangeSpec := { name := "fnExactPairPut", fn := fun _ => fun
  | [d1, d2, d3] => { results := [.lit (.bool false)], args := [d1, d2, d3] }
  | _ => none }
def FnExactPairPutWrongFalsely : Prop := fnExactPairPutRow.holds Try.pinned (OpenSpec.ofChange fnExactPairPutWrong)

/-- 'laws.FnExactPagesList': WHATEVER THE INPUT: true; the input reads as it did. -/
def fnExactPagesListSpec : ChangeSpec := { name := "fnExactPagesList", fn := fun _ => fun
  | [d] => { results := [.lit (.bool true)], args := [d] }
  | _ => none }
def fnExactPagesListRow : OpenClaim := { program := "ytakgmbeglcehcaa", sum := "e6eff958586e482a8da675a05a9c148e9d395e81289a5b260a47a65084878a5a", func := "loop.example/rangechains/laws.FnExactPagesList", spec := "fnExactPagesList", recurses := true, apart := false }
def FnExactPagesListSaid : Prop := fnExactPagesListRow.holds Try.pinned (OpenSpec.ofChange fnExactPagesListSpec)

/-- ITS FALSE NEIGHBOUR: 'it returns false'. Refute it at one input. -/
def fnExactPagesListWrong : ChangeSpec := { name := "fnExactPagesList", fn := fun _ => fun
  | [d] => { results := [.lit (.bool false)], args := [d] }
  | _ => none }
def FnExactPagesListWrongFalsely : Prop := fnExactPagesListRow.holds Try.pinned (OpenSpec.ofChange fnExactPagesListWrong)

/-- 'laws.FnExactPairsIn': WHATEVER THE INPUT: true; the input reads as it did. -/
def fnExactPairsInSpec : ChangeSpec := { name := "fnExactPairsIn", fn := fun _ => fun
  | [d1, d2] => { results := [.lit (.bool true)], args := [d1, d2] }
  | _ => none }
def fnExactPairsInRow : OpenClaim := { program := "ytakgmbeglcehcaa", sum := "e6eff958586e482a8da675a05a9c148e9d395e81289a5b260a47a65084878a5a", func := "loop.example/rangechains/laws.FnExactPairsIn", spec := "fnExactPairsIn", unfollowed := true, recurses := true, apart := false }
def FnExactPairsInSaid : Prop := fnExactPairsInRow.holds Try.pinned (OpenSpec.ofChange fnExactPairsInSpec)

/-- ITS FALSE NEIGHBOUR: 'it returns false'. Refute it at one input. -/
def fnExactPairsInWrong : ChangeSpec := { name := "fnExactPairsIn", fn := fun _ => fun
  | [d1, d2] => { results := [.lit (.bool false)], args := [d1, d2] }
  | _ => none }
def FnExactPairsInWrongFalsely : Prop := fnExactPairsInRow.holds Try.pinned (OpenSpec.ofChange fnExactPairsInWrong)

/-- 'laws.FnExactPairScan': WHATEVER THE INPUT: true; the input reads as it did. -/
def fnExactPairScanSpec : ChangeSpec := { name := "fnExactPairScan", fn := fun _ => fun
  | [d1, d2, d3] => { results := [.lit (.bool true)], args := [d1, d2, d3] }
  | _ => none }
def fnExactPairScanRow : OpenClaim := { program := "ytakgmbeglcehcaa", sum := "e6eff958586e482a8da675a05a9c148e9d395e81289a5b260a47a65084878a5a", func := "loop.example/rangechains/laws.FnExactPairScan", spec := "fnExactPairScan", unfollowed := true, recurses := true, apart := false }
def FnExactPairScanSaid : Prop := fnExactPairScanRow.holds Try.pinned (OpenSpec.ofChange fnExactPairScanSpec)

/-- ITS FALSE NEIGHBOUR: 'it returns false'. Refute it at one input. -/
def fnExactPairScanWrong : ChangeSpec := { name := "fnExactPairScan", fn := fun _ => fun
  | [d1, d2, d3] => { results := [.lit (.bool false)], args := [d1, d2, d3] }
  | _ => none }
def FnExactPairScanWrongFalsely : Prop := fnExactPairScanRow.holds Try.pinned (OpenSpec.ofChange fnExactPairScanWrong)

/-- 'laws.FnExactPartitionSplit': WHATEVER THE INPUT: true; the input reads as it did. -/
def fnExactPartitionSplitSpec : ChangeSpec := { name := "fnExactPartitionSplit", fn := fun _ => fun
  | [d1, d2] => { results := [.lit (.bool true)], args := [d1, d2] }
  | _ => none }
def fnExactPartitionSplitRow : OpenClaim := { program := "ytakgmbeglcehcaa", sum := "e6eff958586e482a8da675a05a9c148e9d395e81289a5b260a47a65084878a5a", func := "loop.example/rangechains/laws.FnExactPartitionSplit", spec := "fnExactPartitionSplit", recurses := true, apart := false }
def FnExactPartitionSplitSaid : Prop := fnExactPartitionSplitRow.holds Try.pinned (OpenSpec.ofChange fnExactPartitionSplitSpec)

/-- ITS FALSE NEIGHBOUR: 'it returns false'. Refute it at one input. -/
def fnExactPartitionSplitWrong : ChangeSpec := { name := "fnExactPartitionSplit", fn := fun _ => fun
  | [d1, d2] => { results := [.lit (.bool false)], args := [d1, d2] }
  | _ => none }
def FnExactPartitionSplitWrongFalsely : Prop := fnExactPartitionSplitRow.holds Try.pinned (OpenSpec.ofChange fnExactPartitionSplitWrong)

/-- 'laws.FnExactPagesPut': WHATEVER THE INPUT: true; the input reads as it did. -/
def fnExactPagesPutSpec : ChangeSpec := { name := "fnExactPagesPut", fn := fun _ => fun
  | [d1, d2, d3] => { results := [.lit (.bool true)], args := [d1, d2, d3] }
  | _ => none }
def fnExactPagesPutRow : OpenClaim := { program := "ytakgmbeglcehcaa", sum := "e6eff958586e482a8da675a05a9c148e9d395e81289a5b260a47a65084878a5a", func := "loop.example/rangechains/laws.FnExactPagesPut", spec := "fnExactPagesPut", unfollowed := true, recurses := true, apart := false }
def FnExactPagesPutSaid : Prop := fnExactPagesPutRow.holds Try.pinned (OpenSpec.ofChange fnExactPagesPutSpec)

/-- ITS FALSE NEIGHBOUR: 'it returns false'. Refute it at one input. -/
def fnExactPagesPutWrong : ChangeSpec := { name := "fnExactPagesPut", fn := fun _ => fun
  | [d1, d2, d3] => { results := [.lit (.bool false)], args := [d1, d2, d3] }
  | _ => none }
def FnExactPagesPutWrongFalsely : Prop := fnExactPagesPutRow.holds Try.pinned (OpenSpec.ofChange fnExactPagesPutWrong)

/-- 'laws.FnExactPagesDrop': WHATEVER THE INPUT: true; the input reads as it did. -/
def fnExactPagesDropSpec : ChangeSpec := { name := "fnExactPagesDrop", fn := fun _ => fun
  | [d1, d2] => { results := [.lit (.bool true)], args := [d1, d2] }
  | _ => none }
def fnExactPagesDropRow : OpenClaim := { program := "ytakgmbeglcehcaa", sum := "e6eff958586e482a8da675a05a9c148e9d395e81289a5b260a47a65084878a5a", func := "loop.example/rangechains/laws.FnExactPagesDrop", spec := "fnExactPagesDrop", unfollowed := true, recurses := true, apart := false }
def FnExactPagesDropSaid : Prop := fnExactPagesDropRow.holds Try.pinned (OpenSpec.ofChange fnExactPagesDropSpec)

/-- ITS FALSE NEIGHBOUR: 'it returns false'. Refute it at one input. -/
def fnExactPagesDropWrong : ChangeSpec := { name := "fnExactPagesDrop", fn := fun _ => fun
  | [d1, d2] => { results := [.lit (.bool false)], args := [d1, d2] }
  | _ => none }
def FnExactPagesDropWrongFalsely : Prop := fnExactPagesDropRow.holds Try.pinned (OpenSpec.ofChange fnExactPagesDropWrong)

/- THE SECOND FORM. 'bulk': how many values and letters a reading holds, each counted each time it is reached (what is shared counts as often as it is met; a slice's spare places count too). A statement '..UptoSaid' is the law's where the arguments, and the package variables that the reading takes, are together of bulk at most 1048576: NARROWER than '..Said'. Prove '..Said' where nothing that the law and all that it calls make is longer than what came in: it says more and counts as full. Else prove '..UptoSaid'. A law counts once. -/
mutual
def uptoBulk {H : Type} : DataW H → Nat
  | .lit (.string bytes) => bytes.length + 1
  | .lit _ => 1
  | .nil => 1
  | .ptr d => uptoBulk d + 1
  | .slice elems spare => uptoBulkAll elems + uptoBulkAll spare + 1
  | .agg parts => uptoBulkAll parts + 1
  | .iface _ d => uptoBulk d + 1
  | .map entries => uptoBulkEntries entries + 1
  | .held _ => 1
def uptoBulkAll {H : Type} : List (DataW H) → Nat
  | [] => 0
  | d :: r => uptoBulk d + uptoBulkAll r
def uptoBulkEntries {H : Type} : List (Lit × DataW H) → Nat
  | [] => 0
  | x :: r => uptoBulkEntry x + uptoBulkEntries r
def uptoBulkEntry {H : Type} : Lit × DataW H → Nat
  | (.string bytes, d) => bytes.length + uptoBulk d + 1
  | (_, d) => uptoBulk d + 1
 end
def uptoSmall : (H : Type) → List (DataW H) → Bool := fun _ ds => decide (uptoBulkAll ds ≤ 1048576)
def OpenSpec.upto (s : _root_.Go.ChangeSpec) : _root_.Go.OpenSpec := { _root_.Go.OpenSpec.ofChange s with cond := some uptoSmall }

/-- 'laws.FnExactPairDrop', WHERE WHAT IT READS IS OF BULK AT MOST 1048576: true; the input reads as it did. -/
def fnExactPairDropUptoRow : OpenClaim := { program := "ytakgmbeglcehcaa", sum := "e6eff958586e482a8da675a05a9c148e9d395e81289a5b260a47a65084878a5a", func := "loop.example/rangechains/laws.FnExactPairDrop", spec := "fnExactPairDrop", unfollowed := true, recurses := true, apart := false, narrowed := true }
def FnExactPairDropUptoSaid : Prop := fnExactPairDropUptoRow.holds Try.pinned (OpenSpec.upto fnExactPairDropSpec)

/-- 'laws.FnExactPairPut', WHERE WHAT IT READS IS OF BULK AT MOST 1048576: true; the input reads as it did. -/
def fnExactPairPutUptoRow : OpenClaim := { program := "ytakgmbeglcehcaa", sum := "e6eff958586e482a8da675a05a9c148e9d395e81289a5b260a47a65084878a5a", func := "loop.example/rangechains/laws.FnExactPairPut", spec := "fnExactPairPut", unfollowed := true, recurses := true, apart := false, narrowed := true }
def FnExactPairPutUptoSaid : Prop := fnExactPairPutUptoRow.holds Try.pinned (OpenSpec.upto fnExactPairPutSpec)

/-- 'laws.FnExactPagesList', WHERE WHAT IT READS IS OF BULK AT MOST 1048576: true; the input reads as it did. -/
def fnExactPagesListUptoRow : OpenClaim := { program := "ytakgmbeglcehcaa", sum := "e6eff958586e482a8da675a05a9c148e9d395e81289a5b260a47a65084878a5a", func := "loop.example/rangechains/laws.FnExactPagesList", spec := "fnExactPagesList", recurses := true, apart := false, narrowed := true }
def FnExactPagesListUptoSaid : Prop := fnExactPagesListUptoRow.holds Try.pinned (OpenSpec.upto fnExactPagesListSpec)

/-- 'laws.FnExactPairsIn', WHERE WHAT IT READS IS OF BULK AT MOST 1048576: true; the input reads as it did. -/
def fnExactPairsInUptoRow : OpenClaim := { program := "ytakgmbeglcehcaa", sum := "e6eff958586e482a8da675a05a9c148e9d395e81289a5b260a47a65084878a5a", func := "loop.example/rangechains/laws.FnExactPairsIn", spec := "fnExactPairsIn", unfollowed := true, recurses := true, apart := false, narrowed := true }
def FnExactPairsInUptoSaid : Prop := fnExactPairsInUptoRow.holds Try.pinned (OpenSpec.upto fnExactPairsInSpec)

/-- 'laws.FnExactPairScan', WHERE WHAT IT READS IS OF BULK AT MOST 1048576: true; the input reads as it did. -/
def fnExactPairScanUptoRow : OpenClaim := { program := "ytakgmbeglcehcaa", sum := "e6eff958586e482a8da675a05a9c148e9d395e81289a5b260a47a65084878a5a", func := "loop.example/rangechains/laws.FnExactPairScan", spec := "fnExactPairScan", unfollowed := true, recurses := true, apart := false, narrowed := true }
def FnExactPairScanUptoSaid : Prop := fnExactPairScanUptoRow.holds Try.pinned (OpenSpec.upto fnExactPairScanSpec)

/-- 'laws.FnExactPartitionSplit', WHERE WHAT IT READS IS OF BULK AT MOST 1048576: true; the input reads as it did. -/
def fnExactPartitionSplitUptoRow : OpenClaim := { program := "ytakgmbeglcehcaa", sum := "e6eff958586e482a8da675a05a9c148e9d395e81289a5b260a47a65084878a5a", func := "loop.example/rangechains/laws.FnExactPartitionSplit", spec := "fnExactPartitionSplit", recurses := true, apart := false, narrowed := true }
def FnExactPartitionSplitUptoSaid : Prop := fnExactPartitionSplitUptoRow.holds Try.pinned (OpenSpec.upto fnExactPartitionSplitSpec)

/-- 'laws.FnExactPagesPut', WHERE WHAT IT READS IS OF BULK AT MOST 1048576: true; the input reads as it did. -/
def fnExactPagesPutUptoRow : OpenClaim := { program := "ytakgmbeglcehcaa", sum := "e6eff958586e482a8da675a05a9c148e9d395e81289a5b260a47a65084878a5a", func := "loop.example/rangechains/laws.FnExactPagesPut", spec := "fnExactPagesPut", unfollowed := true, recurses := true, apart := false, narrowed := true }
def FnExactPagesPutUptoSaid : Prop := fnExactPagesPutUptoRow.holds Try.pinned (OpenSpec.upto fnExactPagesPutSpec)

/-- 'laws.FnExactPagesDrop', WHERE WHAT IT READS IS OF BULK AT MOST 1048576: true; the input reads as it did. -/
def fnExactPagesDropUptoRow : OpenClaim := { program := "ytakgmbeglcehcaa", sum := "e6eff958586e482a8da675a05a9c148e9d395e81289a5b260a47a65084878a5a", func := "loop.example/rangechains/laws.FnExactPagesDrop", spec := "fnExactPagesDrop", unfollowed := true, recurses := true, apart := false, narrowed := true }
def FnExactPagesDropUptoSaid : Prop := fnExactPagesDropUptoRow.holds Try.pinned (OpenSpec.upto fnExactPagesDropSpec)

end Rows
end Go.Proofs.Ytakgmbeglcehcaa
