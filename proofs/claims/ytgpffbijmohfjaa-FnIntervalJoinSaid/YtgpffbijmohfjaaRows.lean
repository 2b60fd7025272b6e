/-
  No cell of these rows narrows 'for every input' (looked for: loops, veiled, ifaces, maps, wideKeys, modest, calm, conditions, laid).
  DERIVED. THE GIVEN ROWS OF THIS SEAT. 10 by the template 'for every input the law returns true; each argument reads behind the call as it read before'; 0 by the template 'total and deterministic' (their statements: YtgpffbijmohfjaaTotals.lean).
  GIVEN WITH THE SEED: the statements are not yours to turn. If you find one false, say at which input.
  Laid BY PROGRAM, IN A SANDBOX (cutbox-rows.mjs): the forced cells as the released guide's own fill.sh prints them over the translation 616c524830e1b58b… (all of the seat's roots in one cut). By AI agents, Wed Nov 11 2026. No macro, syntax, notation, axiom, sorry.
-/
import Derived.Test.YtgpffbijmohfjaaChecked
import GoSem.Claim
import GoSem.ClaimJoined
import GoSem.ClaimMapViews
import Derived.JoinedTies
import Derived.KernelRfl
namespace Go.Proofs.Ytgpffbijmohfjaa
/- THE CELL 'sum', in the pinned program and in every row, IS THE sha256 OF THE DUMP (.gsa) THAT YtgpffbijmohfjaaProg.lean LOADS. Nothing in Lean hashes anything: it is a label: what it is worth is what the hold of that sum in a sandbox is worth. -/
noncomputable def Try.pinned : Pinned := { name := "ytgpffbijmohfjaa", sum := "616c524830e1b58baf28a446f71a427fa823651b27fb41dd75a0bfa681f3d933", checked := Try.checked }
namespace Rows
def none {H : Type} : Left H := { results := [], args := [] }

/-- 'laws.FnKeyValid': WHATEVER THE INPUT: true; the input reads as it did. -/
def fnKeyValidSpec : ChangeSpec := { name := "fnKeyValid", fn := fun _ => fun
  | [d] => { results := [.lit (.bool true)], args := [d] }
  | _ => none }
def fnKeyValidRow : OpenClaim := { program := "ytgpffbijmohfjaa", sum := "616c524830e1b58baf28a446f71a427fa823651b27fb41dd75a0bfa681f3d933", func := "loop.example/rangechains/laws.FnKeyValid", spec := "fnKeyValid", recurses := true, apart := false }
def FnKeyValidSaid : Prop := fnKeyValidRow.holds Try.pinned (OpenSpec.ofChange fnKeyValidSpec)

/-- ITS FALSE NEIGHBOUR: 'it returns false'. Refute it at one input. -/
def fnKeyValidWrong : ChangeSpec := { name := "fnKeyValid", fn := fun _ => fun
  | [d] => { results := [.lit (.bool false)], args := [d] }
  | _ => none }
def FnKeyValidWrongFalsely : Prop := fnKeyValidRow.holds Try.pinned (OpenSpec.ofChange fnKeyValidWrong)

/-- 'laws.FnKeyOrder': WHATEVER THE INPUT: true; the input reads as it did. -/
def fnKeyOrderSpec : ChangeSpec := { name := "fnKeyOrder", fn := fun _ => fun
  | [d] => { results := [.lit (.bool true)], args := [d] }
  | _ => none }
def fnKeyOrderRow : OpenClaim := { program := "ytgpffbijmohfjaa", sum := "616c524830e1b58baf28a446f71a427fa823651b27fb41dd75a0bfa681f3d933", func := "loop.example/rangechains/laws.FnKeyOrder", spec := "fnKeyOrder", inPlace := ["internal/bytealg.abigen_runtime_cmpstring"], recurses := true, apart := false }
def FnKeyOrderSaid : Prop := fnKeyOrderRow.holds Try.pinned (OpenSpec.ofChange fnKeyOrderSpec)

/-- ITS FALSE NEIGHBOUR: 'it returns false'. Refute it at one input. -/
def fnKeyOrderWrong : ChangeSpec := { name := "fnKeyOrder", fn := fun _ => fun
  | [d] => { results := [.lit (.bool false)], args := [d] }
  | _ => none }
def FnKeyOrderWrongFalsely : Prop := fnKeyOrderRow.holds Try.pinned (OpenSpec.ofChange fnKeyOrderWrong)

/-- 'laws.FnKeyAt': WHATEVER THE INPUT: true; the input reads as it did. -/
def fnKeyAtSpec : ChangeSpec := { name := "fnKeyAt", fn := fun _ => fun
  | [d] => { results := [.lit (.bool true)], args := [d] }
  | _ => none }
def fnKeyAtRow : OpenClaim := { program := "ytgpffbijmohfjaa", sum := "616c524830e1b58baf28a446f71a427fa823651b27fb41dd75a0bfa681f3d933", func := "loop.example/rangechains/laws.FnKeyAt", spec := "fnKeyAt", recurses := true, apart := false }
def FnKeyAtSaid : Prop := fnKeyAtRow.holds Try.pinned (OpenSpec.ofChange fnKeyAtSpec)

/-- ITS FALSE NEIGHBOUR: 'it returns false'. Refute it at one input. -/
def fnKeyAtWrong : ChangeSpec := { name := "fnKeyAt", fn := fun _ => fun
  | [d] => { results := [.lit (.bool false)], args := [d] }
  | _ => none }
def FnKeyAtWrongFalsely : Prop := fnKeyAtRow.holds Try.pinned (OpenSpec.ofChange fnKeyAtWrong)

/-- 'laws.FnKeyRank': WHATEVER THE INPUT: true; the input reads as it did. -/
def fnKeyRankSpec : ChangeSpec := { name := "fnKeyRank", fn := fun _ => fun
  | [d] => { results := [.lit (.bool true)], args := [d] }
  | _ => none }
def fnKeyRankRow : OpenClaim := { program := "ytgpffbijmohfjaa", sum := "616c524830e1b58baf28a446f71a427fa823651b27fb41dd75a0bfa681f3d933", func := "loop.example/rangechains/laws.FnKeyRank", spec := "fnKeyRank", recurses := true, apart := false }
def FnKeyRankSaid : Prop := fnKeyRankRow.holds Try.pinned (OpenSpec.ofChange fnKeyRankSpec)

/-- ITS FALSE NEIGHBOUR: 'it returns false'. Refute it at one input. -/
def fnKeyRankWrong : ChangeSpec := { name := "fnKeyRank", fn := fun _ => fun
  | [d] => { results := [.lit (.bool false)], args := [d] }
  | _ => none }
def FnKeyRankWrongFalsely : Prop := fnKeyRankRow.holds Try.pinned (OpenSpec.ofChange fnKeyRankWrong)

/-- 'laws.FnIntervalValid': WHATEVER THE INPUT: true; the input reads as it did. -/
def fnIntervalValidSpec : ChangeSpec := { name := "fnIntervalValid", fn := fun _ => fun
  | [d] => { results := [.lit (.bool true)], args := [d] }
  | _ => none }
def fnIntervalValidRow : OpenClaim := { program := "ytgpffbijmohfjaa", sum := "616c524830e1b58baf28a446f71a427fa823651b27fb41dd75a0bfa681f3d933", func := "loop.example/rangechains/laws.FnIntervalValid", spec := "fnIntervalValid", recurses := true, apart := false }
def FnIntervalValidSaid : Prop := fnIntervalValidRow.holds Try.pinned (OpenSpec.ofChange fnIntervalValidSpec)

/-- ITS FALSE NEIGHBOUR: 'it returns false'. Refute it at one input. -/
def fnIntervalValidWrong : ChangeSpec := { name := "fnIntervalValid", fn := fun _ => fun
  | [d] => { results := [.lit (.bool false)], args := [d] }
  | _ => none }
def FnIntervalValidWrongFalsely : Prop := fnIntervalValidRow.holds Try.pinned (OpenSpec.ofChange fnIntervalValidWrong)

/-- 'laws.FnKeyNext': WHATEVER THE INPUT: true; the input reads as it did. -/
def fnKeyNextSpec : ChangeSpec := { name := "fnKeyNext", fn := fun _ => fun
  | [d] => { results := [.lit (.bool true)], args := [d] }
  | _ => none }
def fnKeyNextRow : OpenClaim := { program := "ytgpffbijmohfjaa", sum := "616c524830e1b58baf28a446f71a427fa823651b27fb41dd75a0bfa681f3d933", func := "loop.example/rangechains/laws.FnKeyNext", spec := "fnKeyNext", inPlace := ["internal/bytealg.abigen_runtime_cmpstring"], recurses := true, apart := false }
def FnKeyNextSaid : Prop := fnKeyNextRow.holds Try.pinned (OpenSpec.ofChange fnKeyNextSpec)

/-- ITS FALSE NEIGHBOUR: 'it returns false'. Refute it at one input. -/
def fnKeyNextWrong : ChangeSpec := { name := "fnKeyNext", fn := fun _ => fun
  | [d] => { results := [.lit (.bool false)], args := [d] }
  | _ => none }
def FnKeyNextWrongFalsely : Prop := fnKeyNextRow.holds Try.pinned (OpenSpec.ofChange fnKeyNextWrong)

/-- 'laws.FnIntervalHas': WHATEVER THE INPUT: true; the input reads as it did. -/
def fnIntervalHasSpec : ChangeSpec := { name := "fnIntervalHas", fn := fun _ => fun
  | [d] => { results := [.lit (.bool true)], args := [d] }
  | _ => none }
def fnIntervalHasRow : OpenClaim := { program := "ytgpffbijmohfjaa", sum := "616c524830e1b58baf28a446f71a427fa823651b27fb41dd75a0bfa681f3d933", func := "loop.example/rangechains/laws.FnIntervalHas", spec := "fnIntervalHas", recurses := true, apart := false }
def FnIntervalHasSaid : Prop := fnIntervalHasRow.holds Try.pinned (OpenSpec.ofChange fnIntervalHasSpec)

/-- ITS FALSE NEIGHBOUR: 'it returns false'. Refute it at one input. -/
def fnIntervalHasWrong : ChangeSpec := { name := "fnIntervalHas", fn := fun _ => fun
  | [d] => { results := [.lit (.bool false)], args := [d] }
  | _ => none }
def FnIntervalHasWrongFalsely : Prop := fnIntervalHasRow.holds Try.pinned (OpenSpec.ofChange fnIntervalHasWrong)

/-- 'laws.FnIntervalJoin': WHATEVER THE INPUT: true; the input reads as it did. -/
def fnIntervalJoinSpec : ChangeSpec := { name := "fnIntervalJoin", fn := fun _ => fun
  | [d] => { results := [.lit (.bool true)], args := [d] }
  | _ => none }
def fnIntervalJoinRow : OpenClaim := { program := "ytgpffbijmohfjaa", sum := "616c524830e1b58baf28a446f71a427fa823651b27fb41dd75a0bfa681f3d933", func := "loop.example/rangechains/laws.FnIntervalJoin", spec := "fnIntervalJoin", recurses := true, apart := false }
def FnIntervalJoinSaid : Prop := fnIntervalJoinRow.holds Try.pinned (OpenSpec.ofChange fnIntervalJoinSpec)

/-- ITS FALSE NEIGHBOUR: 'it returns false'. Refute it at one input. -/
def fnIntervalJoinWrong : ChangeSpec := { name := "fnIntervalJoin", fn := fun _ => fun
  | [d] => { results := [.lit (.bool false)], args := [d] }
  | _ => none }
def FnIntervalJoinWrongFalsely : Prop := fnIntervalJoinRow.holds Try.pinned (OpenSpec.ofChange fnIntervalJoinWrong)

/-- 'laws.FnIntervalCut': WHATEVER THE INPUT: true; the input reads as it did. -/
def fnIntervalCutSpec : ChangeSpec := { name := "fnIntervalCut", fn := fun _ => fun
  | [d] => { results := [.lit (.bool true)], args := [d] }
  | _ => none }
def fnIntervalCutRow : OpenClaim := { program := "ytgpffbijmohfjaa", sum := "616c524830e1b58baf28a446f71a427fa823651b27fb41dd75a0bfa681f3d933", func := "loop.example/rangechains/laws.FnIntervalCut", spec := "fnIntervalCut", recurses := true, apart := false }
def FnIntervalCutSaid : Prop := fnIntervalCutRow.holds Try.pinned (OpenSpec.ofChange fnIntervalCutSpec)

/-- ITS FALSE NEIGHBOUR: 'it returns false'. Refute it at one input. -/
def fnIntervalCutWrong : ChangeSpec := { name := "fnIntervalCut", fn := fun _ => fun
  | [d] => { results := [.lit (.bool false)], args := [d] }
  | _ => none }
def FnIntervalCutWrongFalsely : Prop := fnIntervalCutRow.holds Try.pinned (OpenSpec.ofChange fnIntervalCutWrong)

/-- 'laws.FnIntervalMeet': WHATEVER THE INPUT: true; the input reads as it did. -/
def fnIntervalMeetSpec : ChangeSpec := { name := "fnIntervalMeet", fn := fun _ => fun
  | [d] => { results := [.lit (.bool true)], args := [d] }
  | _ => none }
def fnIntervalMeetRow : OpenClaim := { program := "ytgpffbijmohfjaa", sum := "616c524830e1b58baf28a446f71a427fa823651b27fb41dd75a0bfa681f3d933", func := "loop.example/rangechains/laws.FnIntervalMeet", spec := "fnIntervalMeet", recurses := true, apart := false }
def FnIntervalMeetSaid : Prop := fnIntervalMeetRow.holds Try.pinned (OpenSpec.ofChange fnIntervalMeetSpec)

/-- ITS FALSE NEIGHBOUR: 'it returns false'. Refute it at one input. -/
def fnIntervalMeetWrong : ChangeSpec := { name := "fnIntervalMeet", fn := fun _ => fun
  | [d] => { results := [.lit (.bool false)], args := [d] }
  | _ => none }
def FnIntervalMeetWrongFalsely : Prop := fnIntervalMeetRow.holds Try.pinned (OpenSpec.ofChange fnIntervalMeetWrong)

/- THE SECOND FORM. 'bulk': how many values and letters a reading holds, each counted each time it is reached (what is shared counts as often as it is met; a slice's spare places count too). A statement '..UptoSaid' is the law's where the arguments, and the package variables that the reading takes, are together of bulk at most 1048576: NARROWER than '..Said'. Prove '..Said' where nothing that the law and all that it calls make is longer than what came in: it says more and counts as full. Else prove '..UptoSaid'. A law counts once. -/
mutual
def uptoBulk {H : Type} : DataW H → Nat
  | .lit (.string bytes) => bytes.length + 1
  | .lit _ => 1
  | .nil => 1
  | .ptr d => uptoBulk d + 1
  | .slice elems spare => uptoBulkAll elems + uptoBulkAll spare + 1
  | .agg parts => uptoBulkAll parts + 1
  | .iface _ d => uptoBulk d + 1
  | .map entries => uptoBulkEntries entries + 1
  | .held _ => 1
def uptoBulkAll {H : Type} : List (DataW H) → Nat
  | [] => 0
  | d :: r => uptoBulk d + uptoBulkAll r
def uptoBulkEntries {H : Type} : List (Lit × DataW H) → Nat
  | [] => 0
  | x :: r => uptoBulkEntry x + uptoBulkEntries r
def uptoBulkEntry {H : Type} : Lit × DataW H → Nat
  | (.string bytes, d) => bytes.length + uptoBulk d + 1
  | (_, d) => uptoBulk d + 1
 end
def uptoSmall : (H : Type) → List (DataW H) → Bool := fun _ ds => decide (uptoBulkAll ds ≤ 1048576)
def OpenSpec.upto (s : _root_.Go.ChangeSpec) : _root_.Go.OpenSpec := { _root_.Go.OpenSpec.ofChange s with cond := some uptoSmall }

/-- 'laws.FnKeyValid', WHERE WHAT IT READS IS OF BULK AT MOST 1048576: true; the input reads as it did. -/
def fnKeyValidUptoRow : OpenClaim := { program := "ytgpffbijmohfjaa", sum := "616c524830e1b58baf28a446f71a427fa823651b27fb41dd75a0bfa681f3d933", func := "loop.example/rangechains/laws.FnKeyValid", spec := "fnKeyValid", recurses := true, apart := false, narrowed := true }
def FnKeyValidUptoSaid : Prop := fnKeyValidUptoRow.holds Try.pinned (OpenSpec.upto fnKeyValidSpec)

/-- 'laws.FnKeyOrder', WHERE WHAT IT READS IS OF BULK AT MOST 1048576: true; the input reads as it did. -/
def fnKeyOrderUptoRow : OpenClaim := { program := "ytgpffbijmohfjaa", sum := "616c524830e1b58baf28a446f71a427fa823651b27fb41dd75a0bfa681f3d933", func := "loop.example/rangechains/laws.FnKeyOrder", spec := "fnKeyOrder", inPlace := ["internal/bytealg.abigen_runtime_cmpstring"], recurses := true, apart := false, narrowed := true }
def FnKeyOrderUptoSaid : Prop := fnKeyOrderUptoRow.holds Try.pinned (OpenSpec.upto fnKeyOrderSpec)

/-- 'laws.FnKeyAt', WHERE WHAT IT READS IS OF BULK AT MOST 1048576: true; the input reads as it did. -/
def fnKeyAtUptoRow : OpenClaim := { program := "ytgpffbijmohfjaa", sum := "616c524830e1b58baf28a446f71a427fa823651b27fb41dd75a0bfa681f3d933", func := "loop.example/rangechains/laws.FnKeyAt", spec := "fnKeyAt", recurses := true, apart := false, narrowed := true }
def FnKeyAtUptoSaid : Prop := fnKeyAtUptoRow.holds Try.pinned (OpenSpec.upto fnKeyAtSpec)

/-- 'laws.FnKeyRank', WHERE WHAT IT READS IS OF BULK AT MOST 1048576: true; the input reads as it did. -/
def fnKeyRankUptoRow : OpenClaim := { program := "ytgpffbijmohfjaa", sum := "616c524830e1b58baf28a446f71a427fa823651b27fb41dd75a0bfa681f3d933", func := "loop.example/rangechains/laws.FnKeyRank", spec := "fnKeyRank", recurses := true, apart := false, narrowed := true }
def FnKeyRankUptoSaid : Prop := fnKeyRankUptoRow.holds Try.pinned (OpenSpec.upto fnKeyRankSpec)

/-- 'laws.FnIntervalValid', WHERE WHAT IT READS IS OF BULK AT MOST 1048576: true; the input reads as it did. -/
def fnIntervalValidUptoRow : OpenClaim := { program := "ytgpffbijmohfjaa", sum := "616c524830e1b58baf28a446f71a427fa823651b27fb41dd75a0bfa681f3d933", func := "loop.example/rangechains/laws.FnIntervalValid", spec := "fnIntervalValid", recurses := true, apart := false, narrowed := true }
def FnIntervalValidUptoSaid : Prop := fnIntervalValidUptoRow.holds Try.pinned (OpenSpec.upto fnIntervalValidSpec)

/-- 'laws.FnKeyNext', WHERE WHAT IT READS IS OF BULK AT MOST 1048576: true; the input reads as it did. -/
def fnKeyNextUptoRow : OpenClaim := { program := "ytgpffbijmohfjaa", sum := "616c524830e1b58baf28a446f71a427fa823651b27fb41dd75a0bfa681f3d933", func := "loop.example/rangechains/laws.FnKeyNext", spec := "fnKeyNext", inPlace := ["internal/bytealg.abigen_runtime_cmpstring"], recurses := true, apart := false, narrowed := true }
def FnKeyNextUptoSaid : Prop := fnKeyNextUptoRow.holds Try.pinned (OpenSpec.upto fnKeyNextSpec)

/-- 'laws.FnIntervalHas', WHERE WHAT IT READS IS OF BULK AT MOST 1048576: true; the input reads as it did. -/
def fnIntervalHasUptoRow : OpenClaim := { program := "ytgpffbijmohfjaa", sum := "616c524830e1b58baf28a446f71a427fa823651b27fb41dd75a0bfa681f3d933", func := "loop.example/rangechains/laws.FnIntervalHas", spec := "fnIntervalHas", recurses := true, apart := false, narrowed := true }
def FnIntervalHasUptoSaid : Prop := fnIntervalHasUptoRow.holds Try.pinned (OpenSpec.upto fnIntervalHasSpec)

/-- 'laws.FnIntervalJoin', WHERE WHAT IT READS IS OF BULK AT MOST 1048576: true; the input reads as it did. -/
def fnIntervalJoinUptoRow : OpenClaim := { program := "ytgpffbijmohfjaa", sum := "616c524830e1b58baf28a446f71a427fa823651b27fb41dd75a0bfa681f3d933", func := "loop.example/rangechains/laws.FnIntervalJoin", spec := "fnIntervalJoin", recurses := true, apart := false, narrowed := true }
def FnIntervalJoinUptoSaid : Prop := fnIntervalJoinUptoRow.holds Try.pinned (OpenSpec.upto fnIntervalJoinSpec)

/-- 'laws.FnIntervalCut', WHERE WHAT IT READS IS OF BULK AT MOST 1048576: true; the input reads as it did. -/
def fnIntervalCutUptoRow : OpenClaim := { program := "ytgpffbijmohfjaa", sum := "616c524830e1b58baf28a446f71a427fa823651b27fb41dd75a0bfa681f3d933", func := "loop.example/rangechains/laws.FnIntervalCut", spec := "fnIntervalCut", recurses := true, apart := false, narrowed := true }
def FnIntervalCutUptoSaid : Prop := fnIntervalCutUptoRow.holds Try.pinned (OpenSpec.upto fnIntervalCutSpec)

/-- 'laws.FnIntervalMeet', WHERE WHAT IT READS IS OF BULK AT MOST 1048576: true; the input reads as it did. -/
def fnIntervalMeetUptoRow : OpenClaim := { program := "ytgpffbijmohfjaa", sum := "616c524830e1b58baf28a446f71a427fa823651b27fb41dd75a0bfa681f3d933", func := "loop.example/rangechains/laws.FnIntervalMeet", spec := "fnIntervalMeet", recurses := true, apart := false, narrowed := true }
def FnIntervalMeetUptoSaid : Prop := fnIntervalMeetUptoRow.holds Try.pinned (OpenSpec.upto fnIntervalMeetSpec)

end Rows
end Go.Proofs.Ytgpffbijmohfjaa
