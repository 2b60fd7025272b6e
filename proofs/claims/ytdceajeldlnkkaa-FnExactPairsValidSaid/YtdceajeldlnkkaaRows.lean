/-
  No cell of these rows narrows 'for every input' (looked for: loops, veiled, ifaces, maps, wideKeys, modest, calm, conditions, laid).
  DERIVED. THE GIVEN ROWS OF THIS SEAT. 12 by the template 'for every input the law returns true; each argument reads behind the call as it read before'; 0 by the template 'total and deterministic' (their statements: YtdceajeldlnkkaaTotals.lean).
  GIVEN WITH THE SEED: the statements are not yours to turn. If you find one false, say at which input.
  Laid BY PROGRAM, IN A SANDBOX (cutbox-rows.mjs): the forced cells as the released guide's own fill.sh prints them over the translation ae221ccf5b325e8f… (all of the seat's roots in one cut). By AI agents, Wed Nov 11 2026. No macro, syntax, notation, axiom, sorry.
-/
import Derived.Test.YtdceajeldlnkkaaChecked
import GoSem.Claim
import GoSem.ClaimJoined
import GoSem.ClaimMapViews
import Derived.JoinedTies
import Derived.KernelRfl
namespace Go.Proofs.Ytdceajeldlnkkaa
/- THE CELL 'sum', in the pinned program and in every row, IS THE sha256 OF THE DUMP (.gsa) THAT YtdceajeldlnkkaaProg.lean LOADS. Nothing in Lean hashes anything: it is a label: what it is worth is what the hold of that sum in a sandbox is worth. -/
noncomputable def Try.pinned : Pinned := { name := "ytdceajeldlnkkaa", sum := "ae221ccf5b325e8fc0002425e4113fca6c110a84576df484d81e3e07fef8422e", checked := Try.checked }
namespace Rows
def none {H : Type} : Left H := { results := [], args := [] }

/-- 'laws.FnExactConstants': WHATEVER THE INPUT: true; the input reads as it did. -/
def fnExactConstantsSpec : ChangeSpec := { name := "fnExactConstants", fn := fun _ => fun
  | [] => { results := [.lit (.bool true)], args := [] }
  | _ => none }
def fnExactConstantsRow : OpenClaim := { program := "ytdceajeldlnkkaa", sum := "ae221ccf5b325e8fc0002425e4113fca6c110a84576df484d81e3e07fef8422e", func := "loop.example/rangechains/laws.FnExactConstants", spec := "fnExactConstants", apart := false }
def FnExactConstantsSaid : Prop := fnExactConstantsRow.holds Try.pinned (OpenSpec.ofChange fnExactConstantsSpec)

/-- ITS FALSE NEIGHBOUR: 'it returns false'. Refute it at one input. -/
def fnExactConstantsWrong : ChangeSpec := { name := "fnExactConstants", fn := fun _ => fun
  | [] => { results := [.lit (.bool false)], args := [] }
  | _ => none }
def FnExactConstantsWrongFalsely : Prop := fnExactConstantsRow.holds Try.pinned (OpenSpec.ofChange fnExactConstantsWrong)

/-- 'laws.FnExactKeyValid': WHATEVER THE INPUT: true; the input reads as it did. -/
def fnExactKeyValidSpec : ChangeSpec := { name := "fnExactKeyValid", fn := fun _ => fun
  | [d] => { results := [.lit (.bool true)], args := [d] }
  | _ => none }
def fnExactKeyValidRow : OpenClaim := { program := "ytdceajeldlnkkaa", sum := "ae221ccf5b325e8fc0002425e4113fca6c110a84576df484d81e3e07fef8422e", func := "loop.example/rangechains/laws.FnExactKeyValid", spec := "fnExactKeyValid", recurses := true, apart := false }
def FnExactKeyValidSaid : Prop := fnExactKeyValidRow.holds Try.pinned (OpenSpec.ofChange fnExactKeyValidSpec)

/-- ITS FALSE NEIGHBOUR: 'it returns false'. Refute it at one input. -/
def fnExactKeyValidWrong : ChangeSpec := { name := "fnExactKeyValid", fn := fun _ => fun
  | [d] => { results := [.lit (.bool false)], args := [d] }
  | _ => none }
def FnExactKeyValidWrongFalsely : Prop := fnExactKeyValidRow.holds Try.pinned (OpenSpec.ofChange fnExactKeyValidWrong)

/-- 'laws.FnExactKeyAt': WHATEVER THE INPUT: true; the input reads as it did. -/
def fnExactKeyAtSpec : ChangeSpec := { name := "fnExactKeyAt", fn := fun _ => fun
  | [d] => { results := [.lit (.bool true)], args := [d] }
  | _ => none }
def fnExactKeyAtRow : OpenClaim := { program := "ytdceajeldlnkkaa", sum := "ae221ccf5b325e8fc0002425e4113fca6c110a84576df484d81e3e07fef8422e", func := "loop.example/rangechains/laws.FnExactKeyAt", spec := "fnExactKeyAt", recurses := true, apart := false }
def FnExactKeyAtSaid : Prop := fnExactKeyAtRow.holds Try.pinned (OpenSpec.ofChange fnExactKeyAtSpec)

/-- ITS FALSE NEIGHBOUR: 'it returns false'. Refute it at one input. -/
def fnExactKeyAtWrong : ChangeSpec := { name := "fnExactKeyAt", fn := fun _ => fun
  | [d] => { results := [.lit (.bool false)], args := [d] }
  | _ => none }
def FnExactKeyAtWrongFalsely : Prop := fnExactKeyAtRow.holds Try.pinned (OpenSpec.ofChange fnExactKeyAtWrong)

/-- 'laws.FnExactKeyOrder': WHATEVER THE INPUT: true; the input reads as it did. -/
def fnExactKeyOrderSpec : ChangeSpec := { name := "fnExactKeyOrder", fn := fun _ => fun
  | [d1, d2] => { results := [.lit (.bool true)], args := [d1, d2] }
  | _ => none }
def fnExactKeyOrderRow : OpenClaim := { program := "ytdceajeldlnkkaa", sum := "ae221ccf5b325e8fc0002425e4113fca6c110a84576df484d81e3e07fef8422e", func := "loop.example/rangechains/laws.FnExactKeyOrder", spec := "fnExactKeyOrder", inPlace := ["internal/bytealg.abigen_runtime_cmpstring"], recurses := true, apart := false }
def FnExactKeyOrderSaid : Prop := fnExactKeyOrderRow.holds Try.pinned (OpenSpec.ofChange fnExactKeyOrderSpec)

/-- ITS FALSE NEIGHBOUR: 'it returns false'. Refute it at one input. -/
def fnExactKeyOrderWrong : ChangeSpec := { name := "fnExactKeyOrder", fn := fun _ => fun
  | [d1, d2] => { results := [.lit (.bool false)], args := [d1, d2] }
  | _ => none }
def FnExactKeyOrderWrongFalsely : Prop := fnExactKeyOrderRow.holds Try.pinned (OpenSpec.ofChange fnExactKeyOrderWrong)

/-- 'laws.FnExactKeyNext': WHATEVER THE INPUT: true; the input reads as it did. -/
def fnExactKeyNextSpec : ChangeSpec := { name := "fnExactKeyNext", fn := fun _ => fun
  | [d] => { results := [.lit (.bool true)], args := [d] }
  | _ => none }
def fnExactKeyNextRow : OpenClaim := { program := "ytdceajeldlnkkaa", sum := "ae221ccf5b325e8fc0002425e4113fca6c110a84576df484d81e3e07fef8422e", func := "loop.example/rangechains/laws.FnExactKeyNext", spec := "fnExactKeyNext", recurses := true, apart := false }
def FnExactKeyNextSaid : Prop := fnExactKeyNextRow.holds Try.pinned (OpenSpec.ofChange fnExactKeyNextSpec)

/-- ITS FALSE NEIGHBOUR: 'it returns false'. Refute it at one input. -/
def fnExactKeyNextWrong : ChangeSpec := { name := "fnExactKeyNext", fn := fun _ => fun
  | [d] => { results := [.lit (.bool false)], args := [d] }
  | _ => none }
def FnExactKeyNextWrongFalsely : Prop := fnExactKeyNextRow.holds Try.pinned (OpenSpec.ofChange fnExactKeyNextWrong)

/-- 'laws.FnExactIntervalValid': WHATEVER THE INPUT: true; the input reads as it did. -/
def fnExactIntervalValidSpec : ChangeSpec := { name := "fnExactIntervalValid", fn := fun _ => fun
  | [d] => { results := [.lit (.bool true)], args := [d] }
  | _ => none }
def fnExactIntervalValidRow : OpenClaim := { program := "ytdceajeldlnkkaa", sum := "ae221ccf5b325e8fc0002425e4113fca6c110a84576df484d81e3e07fef8422e", func := "loop.example/rangechains/laws.FnExactIntervalValid", spec := "fnExactIntervalValid", recurses := true, apart := false }
def FnExactIntervalValidSaid : Prop := fnExactIntervalValidRow.holds Try.pinned (OpenSpec.ofChange fnExactIntervalValidSpec)

/-- ITS FALSE NEIGHBOUR: 'it returns false'. Refute it at one input. -/
def fnExactIntervalValidWrong : ChangeSpec := { name := "fnExactIntervalValid", fn := fun _ => fun
  | [d] => { results := [.lit (.bool false)], args := [d] }
  | _ => none }
def FnExactIntervalValidWrongFalsely : Prop := fnExactIntervalValidRow.holds Try.pinned (OpenSpec.ofChange fnExactIntervalValidWrong)

/-- 'laws.FnExactKeyRank': WHATEVER THE INPUT: true; the input reads as it did. -/
def fnExactKeyRankSpec : ChangeSpec := { name := "fnExactKeyRank", fn := fun _ => fun
  | [d] => { results := [.lit (.bool true)], args := [d] }
  | _ => none }
def fnExactKeyRankRow : OpenClaim := { program := "ytdceajeldlnkkaa", sum := "ae221ccf5b325e8fc0002425e4113fca6c110a84576df484d81e3e07fef8422e", func := "loop.example/rangechains/laws.FnExactKeyRank", spec := "fnExactKeyRank", recurses := true, apart := false }
def FnExactKeyRankSaid : Prop := fnExactKeyRankRow.holds Try.pinned (OpenSpec.ofChange fnExactKeyRankSpec)

/-- ITS FALSE NEIGHBOUR: 'it returns false'. Refute it at one input. -/
def fnExactKeyRankWrong : ChangeSpec := { name := "fnExactKeyRank", fn := fun _ => fun
  | [d] => { results := [.lit (.bool false)], args := [d] }
  | _ => none }
def FnExactKeyRankWrongFalsely : Prop := fnExactKeyRankRow.holds Try.pinned (OpenSpec.ofChange fnExactKeyRankWrong)

/-- 'laws.FnExactIntervalHas': WHATEVER THE INPUT: true; the input reads as it did. -/
def fnExactIntervalHasSpec : ChangeSpec := { name := "fnExactIntervalHas", fn := fun _ => fun
  | [d1, d2] => { results := [.lit (.bool true)], args := [d1, d2] }
  | _ => none }
def fnExactIntervalHasRow : OpenClaim := { program := "ytdceajeldlnkkaa", sum := "ae221ccf5b325e8fc0002425e4113fca6c110a84576df484d81e3e07fef8422e", func := "loop.example/rangechains/laws.FnExactIntervalHas", spec := "fnExactIntervalHas", recurses := true, apart := false }
def FnExactIntervalHasSaid : Prop := fnExactIntervalHasRow.holds Try.pinned (OpenSpec.ofChange fnExactIntervalHasSpec)

/-- ITS FALSE NEIGHBOUR: 'it returns false'. Refute it at one input. -/
def fnExactIntervalHasWrong : ChangeSpec := { name := "fnExactIntervalHas", fn := fun _ => fun
  | [d1, d2] => { results := [.lit (.bool false)], args := [d1, d2] }
  | _ => none }
def FnExactIntervalHasWrongFalsely : Prop := fnExactIntervalHasRow.holds Try.pinned (OpenSpec.ofChange fnExactIntervalHasWrong)

/-- 'laws.FnExactIntervalJoin': WHATEVER THE INPUT: true; the input reads as it did. -/
def fnExactIntervalJoinSpec : ChangeSpec := { name := "fnExactIntervalJoin", fn := fun _ => fun
  | [d1, d2] => { results := [.lit (.bool true)], args := [d1, d2] }
  | _ => none }
def fnExactIntervalJoinRow : OpenClaim := { program := "ytdceajeldlnkkaa", sum := "ae221ccf5b325e8fc0002425e4113fca6c110a84576df484d81e3e07fef8422e", func := "loop.example/rangechains/laws.FnExactIntervalJoin", spec := "fnExactIntervalJoin", recurses := true, apart := false }
def FnExactIntervalJoinSaid : Prop := fnExactIntervalJoinRow.holds Try.pinned (OpenSpec.ofChange fnExactIntervalJoinSpec)

/-- ITS FALSE NEIGHBOUR: 'it returns false'. Refute it at one input. -/
def fnExactIntervalJoinWrong : ChangeSpec := { name := "fnExactIntervalJoin", fn := fun _ => fun
  | [d1, d2] => { results := [.lit (.bool false)], args := [d1, d2] }
  | _ => none }
def FnExactIntervalJoinWrongFalsely : Prop := fnExactIntervalJoinRow.holds Try.pinned (OpenSpec.ofChange fnExactIntervalJoinWrong)

/-- 'laws.FnExactIntervalCut': WHATEVER THE INPUT: true; the input reads as it did. -/
def fnExactIntervalCutSpec : ChangeSpec := { name := "fnExactIntervalCut", fn := fun _ => fun
  | [d1, d2] => { results := [.lit (.bool true)], args := [d1, d2] }
  | _ => none }
def fnExactIntervalCutRow : OpenClaim := { program := "ytdceajeldlnkkaa", sum := "ae221ccf5b325e8fc0002425e4113fca6c110a84576df484d81e3e07fef8422e", func := "loop.example/rangechains/laws.FnExactIntervalCut", spec := "fnExactIntervalCut", recurses := true, apart := false }
def FnExactIntervalCutSaid : Prop := fnExactIntervalCutRow.holds Try.pinned (OpenSpec.ofChange fnExactIntervalCutSpec)

/-- ITS FALSE NEIGHBOUR: 'it returns false'. Refute it at one input. -/
def fnExactIntervalCutWrong : ChangeSpec := { name := "fnExactIntervalCut", fn := fun _ => fun
  | [d1, d2] => { results := [.lit (.bool false)], args := [d1, d2] }
  | _ => none }
def FnExactIntervalCutWrongFalsely : Prop := fnExactIntervalCutRow.holds Try.pinned (OpenSpec.ofChange fnExactIntervalCutWrong)

/-- 'laws.FnExactIntervalMeet': WHATEVER THE INPUT: true; the input reads as it did. -/
def fnExactIntervalMeetSpec : ChangeSpec := { name := "fnExactIntervalMeet", fn := fun _ => fun
  | [d1, d2] => { results := [.lit (.bool true)], args := [d1, d2] }
  | _ => none }
def fnExactIntervalMeetRow : OpenClaim := { program := "ytdceajeldlnkkaa", sum := "ae221ccf5b325e8fc0002425e4113fca6c110a84576df484d81e3e07fef8422e", func := "loop.example/rangechains/laws.FnExactIntervalMeet", spec := "fnExactIntervalMeet", recurses := true, apart := false }
def FnExactIntervalMeetSaid : Prop := fnExactIntervalMeetRow.holds Try.pinned (OpenSpec.ofChange fnExactIntervalMeetSpec)

/-- ITS FALSE NEIGHBOUR: 'it returns false'. Refute it at one input. -/
def fnExactIntervalMeetWrong : ChangeSpec := { name := "fnExactIntervalMeet", fn := fun _ => fun
  | [d1, d2] => { results := [.lit (.bool false)], args := [d1, d2] }
  | _ => none }
def FnExactIntervalMeetWrongFalsely : Prop := fnExactIntervalMeetRow.holds Try.pinned (OpenSpec.ofChange fnExactIntervalMeetWrong)

/-- 'laws.FnExactPairsValid': WHATEVER THE INPUT: true; the input reads as it did. -/
def fnExactPairsValidSpec : ChangeSpec := { name := "fnExactPairsValid", fn := fun _ => fun
  | [d] => { results := [.lit (.bool true)], args := [d] }
  | _ => none }
def fnExactPairsValidRow : OpenClaim := { program := "ytdceajeldlnkkaa", sum := "ae221ccf5b325e8fc0002425e4113fca6c110a84576df484d81e3e07fef8422e", func := "loop.example/rangechains/laws.FnExactPairsValid", spec := "fnExactPairsValid", recurses := true, apart := false }
def FnExactPairsValidSaid : Prop := fnExactPairsValidRow.holds Try.pinned (OpenSpec.ofChange fnExactPairsValidSpec)

/-- ITS FALSE NEIGHBOUR: 'it returns false'. Refute it at one input. -/
def fnExactPairsValidWrong : ChangeSpec := { name := "fnExactPairsValid", fn := fun _ => fun
  | [d] => { results := [.lit (.bool false)], args := [d] }
  | _ => none }
def FnExactPairsValidWrongFalsely : Prop := fnExactPairsValidRow.holds Try.pinned (OpenSpec.ofChange fnExactPairsValidWrong)

/- THE SECOND FORM. 'bulk': how many values and letters a reading holds, each counted each time it is reached (what is shared counts as often as it is met; a slice's spare places count too). A statement '..UptoSaid' is the law's where the arguments, and the package variables that the reading takes, are together of bulk at most 1048576: NARROWER than '..Said'. Prove '..Said' where nothing that the law and all that it calls make is longer than what came in: it says more and counts as full. Else prove '..UptoSaid'. A law counts once. -/
mutual
def uptoBulk {H : Type} : DataW H → Nat
  | .lit (.string bytes) => bytes.length + 1
  | .lit _ => 1
  | .nil => 1
  | .ptr d => uptoBulk d + 1
  | .slice elems spare => uptoBulkAll elems + uptoBulkAll spare + 1
  | .agg parts => uptoBulkAll parts + 1
  | .iface _ d => uptoBulk d + 1
  | .map entries => uptoBulkEntries entries + 1
  | .held _ => 1
def uptoBulkAll {H : Type} : List (DataW H) → Nat
  | [] => 0
  | d :: r => uptoBulk d + uptoBulkAll r
def uptoBulkEntries {H : Type} : List (Lit × DataW H) → Nat
  | [] => 0
  | x :: r => uptoBulkEntry x + uptoBulkEntries r
def uptoBulkEntry {H : Type} : Lit × DataW H → Nat
  | (.string bytes, d) => bytes.length + uptoBulk d + 1
  | (_, d) => uptoBulk d + 1
 end
def uptoSmall : (H : Type) → List (DataW H) → Bool := fun _ ds => decide (uptoBulkAll ds ≤ 1048576)
def OpenSpec.upto (s : _root_.Go.ChangeSpec) : _root_.Go.OpenSpec := { _root_.Go.OpenSpec.ofChange s with cond := some uptoSmall }

/-- 'laws.FnExactConstants', WHERE WHAT IT READS IS OF BULK AT MOST 1048576: true; the input reads as it did. -/
def fnExactConstantsUptoRow : OpenClaim := { program := "ytdceajeldlnkkaa", sum := "ae221ccf5b325e8fc0002425e4113fca6c110a84576df484d81e3e07fef8422e", func := "loop.example/rangechains/laws.FnExactConstants", spec := "fnExactConstants", apart := false, narrowed := true }
def FnExactConstantsUptoSaid : Prop := fnExactConstantsUptoRow.holds Try.pinned (OpenSpec.upto fnExactConstantsSpec)

/-- 'laws.FnExactKeyValid', WHERE WHAT IT READS IS OF BULK AT MOST 1048576: true; the input reads as it did. -/
def fnExactKeyValidUptoRow : OpenClaim := { program := "ytdceajeldlnkkaa", sum := "ae221ccf5b325e8fc0002425e4113fca6c110a84576df484d81e3e07fef8422e", func := "loop.example/rangechains/laws.FnExactKeyValid", spec := "fnExactKeyValid", recurses := true, apart := false, narrowed := true }
def FnExactKeyValidUptoSaid : Prop := fnExactKeyValidUptoRow.holds Try.pinned (OpenSpec.upto fnExactKeyValidSpec)

/-- 'laws.FnExactKeyAt', WHERE WHAT IT READS IS OF BULK AT MOST 1048576: true; the input reads as it did. -/
def fnExactKeyAtUptoRow : OpenClaim := { program := "ytdceajeldlnkkaa", sum := "ae221ccf5b325e8fc0002425e4113fca6c110a84576df484d81e3e07fef8422e", func := "loop.example/rangechains/laws.FnExactKeyAt", spec := "fnExactKeyAt", recurses := true, apart := false, narrowed := true }
def FnExactKeyAtUptoSaid : Prop := fnExactKeyAtUptoRow.holds Try.pinned (OpenSpec.upto fnExactKeyAtSpec)

/-- 'laws.FnExactKeyOrder', WHERE WHAT IT READS IS OF BULK AT MOST 1048576: true; the input reads as it did. -/
def fnExactKeyOrderUptoRow : OpenClaim := { program := "ytdceajeldlnkkaa", sum := "ae221ccf5b325e8fc0002425e4113fca6c110a84576df484d81e3e07fef8422e", func := "loop.example/rangechains/laws.FnExactKeyOrder", spec := "fnExactKeyOrder", inPlace := ["internal/bytealg.abigen_runtime_cmpstring"], recurses := true, apart := false, narrowed := true }
def FnExactKeyOrderUptoSaid : Prop := fnExactKeyOrderUptoRow.holds Try.pinned (OpenSpec.upto fnExactKeyOrderSpec)

/-- 'laws.FnExactKeyNext', WHERE WHAT IT READS IS OF BULK AT MOST 1048576: true; the input reads as it did. -/
def fnExactKeyNextUptoRow : OpenClaim := { program := "ytdceajeldlnkkaa", sum := "ae221ccf5b325e8fc0002425e4113fca6c110a84576df484d81e3e07fef8422e", func := "loop.example/rangechains/laws.FnExactKeyNext", spec := "fnExactKeyNext", recurses := true, apart := false, narrowed := true }
def FnExactKeyNextUptoSaid : Prop := fnExactKeyNextUptoRow.holds Try.pinned (OpenSpec.upto fnExactKeyNextSpec)

/-- 'laws.FnExactIntervalValid', WHERE WHAT IT READS IS OF BULK AT MOST 1048576: true; the input reads as it did. -/
def fnExactIntervalValidUptoRow : OpenClaim := { program := "ytdceajeldlnkkaa", sum := "ae221ccf5b325e8fc0002425e4113fca6c110a84576df484d81e3e07fef8422e", func := "loop.example/rangechains/laws.FnExactIntervalValid", spec := "fnExactIntervalValid", recurses := true, apart := false, narrowed := true }
def FnExactIntervalValidUptoSaid : Prop := fnExactIntervalValidUptoRow.holds Try.pinned (OpenSpec.upto fnExactIntervalValidSpec)

/-- 'laws.FnExactKeyRank', WHERE WHAT IT READS IS OF BULK AT MOST 1048576: true; the input reads as it did. -/
def fnExactKeyRankUptoRow : OpenClaim := { program := "ytdceajeldlnkkaa", sum := "ae221ccf5b325e8fc0002425e4113fca6c110a84576df484d81e3e07fef8422e", func := "loop.example/rangechains/laws.FnExactKeyRank", spec := "fnExactKeyRank", recurses := true, apart := false, narrowed := true }
def FnExactKeyRankUptoSaid : Prop := fnExactKeyRankUptoRow.holds Try.pinned (OpenSpec.upto fnExactKeyRankSpec)

/-- 'laws.FnExactIntervalHas', WHERE WHAT IT READS IS OF BULK AT MOST 1048576: true; the input reads as it did. -/
def fnExactIntervalHasUptoRow : OpenClaim := { program := "ytdceajeldlnkkaa", sum := "ae221ccf5b325e8fc0002425e4113fca6c110a84576df484d81e3e07fef8422e", func := "loop.example/rangechains/laws.FnExactIntervalHas", spec := "fnExactIntervalHas", recurses := true, apart := false, narrowed := true }
def FnExactIntervalHasUptoSaid : Prop := fnExactIntervalHasUptoRow.holds Try.pinned (OpenSpec.upto fnExactIntervalHasSpec)

/-- 'laws.FnExactIntervalJoin', WHERE WHAT IT READS IS OF BULK AT MOST 1048576: true; the input reads as it did. -/
def fnExactIntervalJoinUptoRow : OpenClaim := { program := "ytdceajeldlnkkaa", sum := "ae221ccf5b325e8fc0002425e4113fca6c110a84576df484d81e3e07fef8422e", func := "loop.example/rangechains/laws.FnExactIntervalJoin", spec := "fnExactIntervalJoin", recurses := true, apart := false, narrowed := true }
def FnExactIntervalJoinUptoSaid : Prop := fnExactIntervalJoinUptoRow.holds Try.pinned (OpenSpec.upto fnExactIntervalJoinSpec)

/-- 'laws.FnExactIntervalCut', WHERE WHAT IT READS IS OF BULK AT MOST 1048576: true; the input reads as it did. -/
def fnExactIntervalCutUptoRow : OpenClaim := { program := "ytdceajeldlnkkaa", sum := "ae221ccf5b325e8fc0002425e4113fca6c110a84576df484d81e3e07fef8422e", func := "loop.example/rangechains/laws.FnExactIntervalCut", spec := "fnExactIntervalCut", recurses := true, apart := false, narrowed := true }
def FnExactIntervalCutUptoSaid : Prop := fnExactIntervalCutUptoRow.holds Try.pinned (OpenSpec.upto fnExactIntervalCutSpec)

/-- 'laws.FnExactIntervalMeet', WHERE WHAT IT READS IS OF BULK AT MOST 1048576: true; the input reads as it did. -/
def fnExactIntervalMeetUptoRow : OpenClaim := { program := "ytdceajeldlnkkaa", sum := "ae221ccf5b325e8fc0002425e4113fca6c110a84576df484d81e3e07fef8422e", func := "loop.example/rangechains/laws.FnExactIntervalMeet", spec := "fnExactIntervalMeet", recurses := true, apart := false, narrowed := true }
def FnExactIntervalMeetUptoSaid : Prop := fnExactIntervalMeetUptoRow.holds Try.pinned (OpenSpec.upto fnExactIntervalMeetSpec)

/-- 'laws.FnExactPairsValid', WHERE WHAT IT READS IS OF BULK AT MOST 1048576: true; the input reads as it did. -/
def fnExactPairsValidUptoRow : OpenClaim := { program := "ytdceajeldlnkkaa", sum := "ae221ccf5b325e8fc0002425e4113fca6c110a84576df484d81e3e07fef8422e", func := "loop.example/rangechains/laws.FnExactPairsValid", spec := "fnExactPairsValid", recurses := true, apart := false, narrowed := true }
def FnExactPairsValidUptoSaid : Prop := fnExactPairsValidUptoRow.holds Try.pinned (OpenSpec.upto fnExactPairsValidSpec)

end Rows
end Go.Proofs.Ytdceajeldlnkkaa
