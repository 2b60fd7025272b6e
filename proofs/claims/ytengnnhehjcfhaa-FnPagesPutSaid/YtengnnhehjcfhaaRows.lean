/-
  No cell of these rows narrows 'for every input' (looked for: loops, veiled, ifaces, maps, wideKeys, modest, calm, conditions, laid).
  DERIVED. THE GIVEN ROWS OF THIS SEAT. 3 by the template 'for every input the law returns true; each argument reads behind the call as it read before'; 0 by the template 'total and deterministic' (their statements: YtengnnhehjcfhaaTotals.lean).
  GIVEN WITH THE SEED: the statements are not yours to turn. If you find one false, say at which input.
  Laid BY PROGRAM, IN A SANDBOX (cutbox-rows.mjs): the forced cells as the released guide's own fill.sh prints them over the translation 6e1cd3043b4b5a10… (all of the seat's roots in one cut). By AI agents, Wed Nov 11 2026. No macro, syntax, notation, axiom, sorry.
-/
import Derived.Test.YtengnnhehjcfhaaChecked
import GoSem.Claim
import GoSem.ClaimJoined
import GoSem.ClaimMapViews
import Derived.JoinedTies
import Derived.KernelRfl
namespace Go.Proofs.Ytengnnhehjcfhaa
/- THE CELL 'sum', in the pinned program and in every row, IS THE sha256 OF THE DUMP (.gsa) THAT YtengnnhehjcfhaaProg.lean LOADS. Nothing in Lean hashes anything: it is a label: what it is worth is what the hold of that sum in a sandbox is worth. -/
noncomputable def Try.pinned : Pinned := { name := "ytengnnhehjcfhaa", sum := "6e1cd3043b4b5a108d2b4fc4e7f9ced7bf63538f53913bac5cdf53c0372cfa75", checked := Try.checked }
namespace Rows
def none {H : Type} : Left H := { results := [], args := [] }

/-- 'laws.FnExactPagesDrop': WHATEVER THE INPUT: true; the input reads as it did. -/
def fnExactPagesDropSpec : ChangeSpec := { name := "fnExactPagesDrop", fn := fun _ => fun
  | [d1, d2] => { results := [.lit (.bool true)], args := [d1, d2] }
  | _ => none }
def fnExactPagesDropRow : OpenClaim := { program := "ytengnnhehjcfhaa", sum := "6e1cd3043b4b5a108d2b4fc4e7f9ced7bf63538f53913bac5cdf53c0372cfa75", func := "loop.example/rangechains/laws.FnExactPagesDrop", spec := "fnExactPagesDrop", unfollowed := true, recurses := true, apart := false }
def FnExactPagesDropSaid : Prop := fnExactPagesDropRow.holds Try.pinned (OpenSpec.ofChange fnExactPagesDropSpec)

/-- ITS FALSE NEIGHBOUR: 'it returns false'. Refute it at one input. -/
def fnExactPagesDropWrong : ChangeSpec := { name := "fnExactPagesDrop", fn := fun _ => fun
  | [d1, d2] => { results := [.lit (.bool false)], args := [d1, d2] }
  | _ => none }
def FnExactPagesDropWrongFalsely : Prop := fnExactPagesDropRow.holds Try.pinned (OpenSpec.ofChange fnExactPagesDropWrong)

/-- 'laws.FnPagesPut': WHATEVER THE INPUT: true; the input reads as it did. -/
def fnPagesPutSpec : ChangeSpec := { name := "fnPagesPut", fn := fun _ => fun
  | [d] => { results := [.lit (.bool true)], args := [d] }
  | _ => none }
def fnPagesPutRow : OpenClaim := { program := "ytengnnhehjcfhaa", sum := "6e1cd3043b4b5a108d2b4fc4e7f9ced7bf63538f53913bac5cdf53c0372cfa75", func := "loop.example/rangechains/laws.FnPagesPut", spec := "fnPagesPut", unfollowed := true, recurses := true, apart := false }
def FnPagesPutSaid : Prop := fnPagesPutRow.holds Try.pinned (OpenSpec.ofChange fnPagesPutSpec)

/-- ITS FALSE NEIGHBOUR: 'it returns false'. Refute it at one input. -/
def fnPagesPutWrong : ChangeSpec := { name := "fnPagesPut", fn := fun _ => fun
  | [d] => { results := [.lit (.bool false)], args := [d] }
  | _ => none }
def FnPagesPutWrongFalsely : Prop := fnPagesPutRow.holds Try.pinned (OpenSpec.ofChange fnPagesPutWrong)

/-- 'laws.FnExactPagesPut': WHATEVER THE INPUT: true; the input reads as it did. -/
def fnExactPagesPutSpec : ChangeSpec := { name := "fnExactPagesPut", fn := fun _ => fun
  | [d1, d2, d3] => { results := [.lit (.bool true)], args := [d1, d2, d3] }
  | _ => none }
def fnExactPagesPutRow : OpenClaim := { program := "ytengnnhehjcfhaa", sum := "6e1cd3043b4b5a108d2b4fc4e7f9ced7bf63538f53913bac5cdf53c0372cfa75", func := "loop.example/rangechains/laws.FnExactPagesPut", spec := "fnExactPagesPut", unfollowed := true, recurses := true, apart := false }
def FnExactPagesPutSaid : Prop := fnExactPagesPutRow.holds Try.pinned (OpenSpec.ofChange fnExactPagesPutSpec)

/-- ITS FALSE NEIGHBOUR: 'it returns false'. Refute it at one input. -/
def fnExactPagesPutWrong : ChangeSpec := { name := "fnExactPagesPut", fn := fun _ => fun
  | [d1, d2, d3] => { results := [.lit (.bool false)], args := [d1, d2, d3] }
  | _ => none }
def FnExactPagesPutWrongFalsely : Prop := fnExactPagesPutRow.holds Try.pinned (OpenSpec.ofChange fnExactPagesPutWrong)

/- THE SECOND FORM. 'bulk': how many values and letters a reading holds, each counted each time it is reached (what is shared counts as often as it is met; a slice's spare places count too). A statement '..UptoSaid' is the law's where the arguments, and the package variables that the reading takes, are together of bulk at most 1048576: NARROWER than '..Said'. Prove '..Said' where nothing that the law and all that it calls make is longer than what came in: it says more and counts as full. Else prove '..UptoSaid'. A law counts once. -/
mutual
def uptoBulk {H : Type} : DataW H → Nat
  | .lit (.string bytes) => bytes.length + 1
  | .lit _ => 1
  | .nil => 1
  | .ptr d => uptoBulk d + 1
  | .slice elems spare => uptoBulkAll elems + uptoBulkAll spare + 1
  | .agg parts => uptoBulkAll parts + 1
  | .iface _ d => uptoBulk d + 1
  | .map entries => uptoBulkEntries entries + 1
  | .held _ => 1
def uptoBulkAll {H : Type} : List (DataW H) → Nat
  | [] => 0
  | d :: r => uptoBulk d + uptoBulkAll r
def uptoBulkEntries {H : Type} : List (Lit × DataW H) → Nat
  | [] => 0
  | x :: r => uptoBulkEntry x + uptoBulkEntries r
def uptoBulkEntry {H : Type} : Lit × DataW H → Nat
  | (.string bytes, d) => bytes.length + uptoBulk d + 1
  | (_, d) => uptoBulk d + 1
 end
def uptoSmall : (H : Type) → List (DataW H) → Bool := fun _ ds => decide (uptoBulkAll ds ≤ 1048576)
def OpenSpec.upto (s : _root_.Go.ChangeSpec) : _root_.Go.OpenSpec := { _root_.Go.OpenSpec.ofChange s with cond := some uptoSmall }

/-- 'laws.FnExactPagesDrop', WHERE WHAT IT READS IS OF BULK AT MOST 1048576: true; the input reads as it did. -/
def fnExactPagesDropUptoRow : OpenClaim := { program := "ytengnnhehjcfhaa", sum := "6e1cd3043b4b5a108d2b4fc4e7f9ced7bf63538f53913bac5cdf53c0372cfa75", func := "loop.example/rangechains/laws.FnExactPagesDrop", spec := "fnExactPagesDrop", unfollowed := true, recurses := true, apart := false, narrowed := true }
def FnExactPagesDropUptoSaid : Prop := fnExactPagesDropUptoRow.holds Try.pinned (OpenSpec.upto fnExactPagesDropSpec)

/-- 'laws.FnPagesPut', WHERE WHAT IT READS IS OF BULK AT MOST 1048576: true; the input reads as it did. -/
def fnPagesPutUptoRow : OpenClaim := { program := "ytengnnhehjcfhaa", sum := "6e1cd3043b4b5a108d2b4fc4e7f9ced7bf63538f53913bac5cdf53c0372cfa75", func := "loop.example/rangechains/laws.FnPagesPut", spec := "fnPagesPut", unfollowed := true, recurses := true, apart := false, narrowed := true }
def FnPagesPutUptoSaid : Prop := fnPagesPutUptoRow.holds Try.pinned (OpenSpec.upto fnPagesPutSpec)

/-- 'laws.FnExactPagesPut', WHERE WHAT IT READS IS OF BULK AT MOST 1048576: true; the input reads as it did. -/
def fnExactPagesPutUptoRow : OpenClaim := { program := "ytengnnhehjcfhaa", sum := "6e1cd3043b4b5a108d2b4fc4e7f9ced7bf63538f53913bac5cdf53c0372cfa75", func := "loop.example/rangechains/laws.FnExactPagesPut", spec := "fnExactPagesPut", unfollowed := true, recurses := true, apart := false, narrowed := true }
def FnExactPagesPutUptoSaid : Prop := fnExactPagesPutUptoRow.holds Try.pinned (OpenSpec.upto fnExactPagesPutSpec)

end Rows
end Go.Proofs.Ytengnnhehjcfhaa
