/-
  NARROWER THAN 'FOR EVERY INPUT', by the rows' own cells (each row's printed sentence says how): GraphSpawns: loops · GraphReach: loops · GraphOrder: loops · GraphCalls: loops.
  DERIVED. THE GIVEN ROWS OF THIS SEAT. 8 by the template 'for every input the law returns true; each argument reads behind the call as it read before'; 0 by the template 'total and deterministic' (their statements: YtmebmgbjpbapjaaTotals.lean).
  GIVEN WITH THE SEED: the statements are not yours to turn. If you find one false, say at which input.
  Laid BY PROGRAM, IN A SANDBOX (cutbox-rows.mjs): the forced cells as the released guide's own fill.sh prints them over the translation a800905d1405f173… (all of the seat's roots in one cut). By AI agents, Wed Nov 11 2026. No macro, syntax, notation, axiom, sorry.
-/
import Derived.Test.YtmebmgbjpbapjaaChecked
import GoSem.Claim
import GoSem.ClaimJoined
import GoSem.ClaimMapViews
import Derived.JoinedTies
import Derived.KernelRfl
namespace Go.Proofs.Ytmebmgbjpbapjaa
/- THE CELL 'sum', in the pinned program and in every row, IS THE sha256 OF THE DUMP (.gsa) THAT YtmebmgbjpbapjaaProg.lean LOADS. Nothing in Lean hashes anything: it is a label: what it is worth is what the hold of that sum in a sandbox is worth. -/
noncomputable def Try.pinned : Pinned := { name := "ytmebmgbjpbapjaa", sum := "a800905d1405f173e6c42267ab6e978035aab72970a1df3308755c0d7536e326", checked := Try.checked }
namespace Rows
def none {H : Type} : Left H := { results := [], args := [] }

/-- 'deadboltlaw8.GraphParts': WHATEVER THE INPUT: true; the input reads as it did. -/
def graphPartsSpec : ChangeSpec := { name := "graphParts", fn := fun _ => fun
  | [d1, d2] => { results := [.lit (.bool true)], args := [d1, d2] }
  | _ => none }
def graphPartsRow : OpenClaim := { program := "ytmebmgbjpbapjaa", sum := "a800905d1405f173e6c42267ab6e978035aab72970a1df3308755c0d7536e326", func := "deadbolt/deadboltlaw8.GraphParts", spec := "graphParts", unfollowed := true, recurses := true, apart := false }
def GraphPartsSaid : Prop := graphPartsRow.holds Try.pinned (OpenSpec.ofChange graphPartsSpec)

/-- ITS FALSE NEIGHBOUR: 'it returns false'. Refute it at one input. -/
def graphPartsWrong : ChangeSpec := { name := "graphParts", fn := fun _ => fun
  | [d1, d2] => { results := [.lit (.bool false)], args := [d1, d2] }
  | _ => none }
def GraphPartsWrongFalsely : Prop := graphPartsRow.holds Try.pinned (OpenSpec.ofChange graphPartsWrong)

/-- 'deadboltlaw8.GraphRings': WHATEVER THE INPUT: true; the input reads as it did. -/
def graphRingsSpec : ChangeSpec := { name := "graphRings", fn := fun _ => fun
  | [d1, d2] => { results := [.lit (.bool true)], args := [d1, d2] }
  | _ => none }
def graphRingsRow : OpenClaim := { program := "ytmebmgbjpbapjaa", sum := "a800905d1405f173e6c42267ab6e978035aab72970a1df3308755c0d7536e326", func := "deadbolt/deadboltlaw8.GraphRings", spec := "graphRings", unfollowed := true, recurses := true, apart := false }
def GraphRingsSaid : Prop := graphRingsRow.holds Try.pinned (OpenSpec.ofChange graphRingsSpec)

/-- ITS FALSE NEIGHBOUR: 'it returns false'. Refute it at one input. -/
def graphRingsWrong : ChangeSpec := { name := "graphRings", fn := fun _ => fun
  | [d1, d2] => { results := [.lit (.bool false)], args := [d1, d2] }
  | _ => none }
def GraphRingsWrongFalsely : Prop := graphRingsRow.holds Try.pinned (OpenSpec.ofChange graphRingsWrong)

/-- 'deadboltlaw8.GraphMore': WHATEVER THE INPUT: true; the input reads as it did. -/
def graphMoreSpec : ChangeSpec := { name := "graphMore", fn := fun _ => fun
  | [d1, d2, d3, d4] => { results := [.lit (.bool true)], args := [d1, d2, d3, d4] }
  | _ => none }
def graphMoreRow : OpenClaim := { program := "ytmebmgbjpbapjaa", sum := "a800905d1405f173e6c42267ab6e978035aab72970a1df3308755c0d7536e326", func := "deadbolt/deadboltlaw8.GraphMore", spec := "graphMore", unfollowed := true, recurses := true, apart := false }
def GraphMoreSaid : Prop := graphMoreRow.holds Try.pinned (OpenSpec.ofChange graphMoreSpec)

/-- ITS FALSE NEIGHBOUR: 'it returns false'. Refute it at one input. -/
def graphMoreWrong : ChangeSpec := { name := "graphMore", fn := fun _ => fun
  | [d1, d2, d3, d4] => { results := [.lit (.bool false)], args := [d1, d2, d3, d4] }
  | _ => none }
def GraphMoreWrongFalsely : Prop := graphMoreRow.holds Try.pinned (OpenSpec.ofChange graphMoreWrong)

/-- 'deadboltlaw8.GraphSpawns': WHATEVER THE INPUT: true; the input reads as it did. -/
def graphSpawnsSpec : ChangeSpec := { name := "graphSpawns", fn := fun _ => fun
  | [d1, d2] => { results := [.lit (.bool true)], args := [d1, d2] }
  | _ => none }
def graphSpawnsRow : OpenClaim := { program := "ytmebmgbjpbapjaa", sum := "a800905d1405f173e6c42267ab6e978035aab72970a1df3308755c0d7536e326", func := "deadbolt/deadboltlaw8.GraphSpawns", spec := "graphSpawns", unfollowed := true, recurses := true, loops := true, apart := false }
def GraphSpawnsSaid : Prop := graphSpawnsRow.holds Try.pinned (OpenSpec.ofChange graphSpawnsSpec)

/-- ITS FALSE NEIGHBOUR: 'it returns false'. Refute it at one input. -/
def graphSpawnsWrong : ChangeSpec := { name := "graphSpawns", fn := fun _ => fun
  | [d1, d2] => { results := [.lit (.bool false)], args := [d1, d2] }
  | _ => none }
def GraphSpawnsWrongFalsely : Prop := graphSpawnsRow.holds Try.pinned (OpenSpec.ofChange graphSpawnsWrong)

/-- 'deadboltlaw8.GraphReach': WHATEVER THE INPUT: true; the input reads as it did. -/
def graphReachSpec : ChangeSpec := { name := "graphReach", fn := fun _ => fun
  | [d1, d2, d3, d4] => { results := [.lit (.bool true)], args := [d1, d2, d3, d4] }
  | _ => none }
def graphReachRow : OpenClaim := { program := "ytmebmgbjpbapjaa", sum := "a800905d1405f173e6c42267ab6e978035aab72970a1df3308755c0d7536e326", func := "deadbolt/deadboltlaw8.GraphReach", spec := "graphReach", unfollowed := true, recurses := true, loops := true, apart := false }
def GraphReachSaid : Prop := graphReachRow.holds Try.pinned (OpenSpec.ofChange graphReachSpec)

/-- ITS FALSE NEIGHBOUR: 'it returns false'. Refute it at one input. -/
def graphReachWrong : ChangeSpec := { name := "graphReach", fn := fun _ => fun
  | [d1, d2, d3, d4] => { results := [.lit (.bool false)], args := [d1, d2, d3, d4] }
  | _ => none }
def GraphReachWrongFalsely : Prop := graphReachRow.holds Try.pinned (OpenSpec.ofChange graphReachWrong)

/-- 'deadboltlaw8.GraphOrder': WHATEVER THE INPUT: true; the input reads as it did. -/
def graphOrderSpec : ChangeSpec := { name := "graphOrder", fn := fun _ => fun
  | [d1, d2, d3, d4] => { results := [.lit (.bool true)], args := [d1, d2, d3, d4] }
  | _ => none }
def graphOrderRow : OpenClaim := { program := "ytmebmgbjpbapjaa", sum := "a800905d1405f173e6c42267ab6e978035aab72970a1df3308755c0d7536e326", func := "deadbolt/deadboltlaw8.GraphOrder", spec := "graphOrder", unfollowed := true, recurses := true, loops := true, apart := false }
def GraphOrderSaid : Prop := graphOrderRow.holds Try.pinned (OpenSpec.ofChange graphOrderSpec)

/-- ITS FALSE NEIGHBOUR: 'it returns false'. Refute it at one input. -/
def graphOrderWrong : ChangeSpec := { name := "graphOrder", fn := fun _ => fun
  | [d1, d2, d3, d4] => { results := [.lit (.bool false)], args := [d1, d2, d3, d4] }
  | _ => none }
def GraphOrderWrongFalsely : Prop := graphOrderRow.holds Try.pinned (OpenSpec.ofChange graphOrderWrong)

/-- 'deadboltlaw8.GraphCalls': WHATEVER THE INPUT: true; the input reads as it did. -/
def graphCallsSpec : ChangeSpec := { name := "graphCalls", fn := fun _ => fun
  | [d1, d2, d3, d4, d5] => { results := [.lit (.bool true)], args := [d1, d2, d3, d4, d5] }
  | _ => none }
def graphCallsRow : OpenClaim := { program := "ytmebmgbjpbapjaa", sum := "a800905d1405f173e6c42267ab6e978035aab72970a1df3308755c0d7536e326", func := "deadbolt/deadboltlaw8.GraphCalls", spec := "graphCalls", unfollowed := true, recurses := true, loops := true, apart := false }
def GraphCallsSaid : Prop := graphCallsRow.holds Try.pinned (OpenSpec.ofChange graphCallsSpec)

/-- ITS FALSE NEIGHBOUR: 'it returns false'. Refute it at one input. -/
def graphCallsWrong : ChangeSpec := { name := "graphCalls", fn := fun _ => fun
  | [d1, d2, d3, d4, d5] => { results := [.lit (.bool false)], args := [d1, d2, d3, d4, d5] }
  | _ => none }
def GraphCallsWrongFalsely : Prop := graphCallsRow.holds Try.pinned (OpenSpec.ofChange graphCallsWrong)

/-- 'deadboltlaw8.GraphKnown': WHATEVER THE INPUT: true; the input reads as it did. -/
def graphKnownSpec : ChangeSpec := { name := "graphKnown", fn := fun _ => fun
  | [d] => { results := [.lit (.bool true)], args := [d] }
  | _ => none }
def graphKnownRow : OpenClaim := { program := "ytmebmgbjpbapjaa", sum := "a800905d1405f173e6c42267ab6e978035aab72970a1df3308755c0d7536e326", func := "deadbolt/deadboltlaw8.GraphKnown", spec := "graphKnown", unfollowed := true, recurses := true, apart := false }
def GraphKnownSaid : Prop := graphKnownRow.holds Try.pinned (OpenSpec.ofChange graphKnownSpec)

/-- ITS FALSE NEIGHBOUR: 'it returns false'. Refute it at one input. -/
def graphKnownWrong : ChangeSpec := { name := "graphKnown", fn := fun _ => fun
  | [d] => { results := [.lit (.bool false)], args := [d] }
  | _ => none }
def GraphKnownWrongFalsely : Prop := graphKnownRow.holds Try.pinned (OpenSpec.ofChange graphKnownWrong)

/- THE SECOND FORM. 'bulk': how many values and letters a reading holds, each counted each time it is reached (what is shared counts as often as it is met; a slice's spare places count too). A statement '..UptoSaid' is the law's where the arguments, and the package variables that the reading takes, are together of bulk at most 1048576: NARROWER than '..Said'. Prove '..Said' where nothing that the law and all that it calls make is longer than what came in: it says more and counts as full. Else prove '..UptoSaid'. A law counts once. -/
mutual
def uptoBulk {H : Type} : DataW H → Nat
  | .lit (.string bytes) => bytes.length + 1
  | .lit _ => 1
  | .nil => 1
  | .ptr d => uptoBulk d + 1
  | .slice elems spare => uptoBulkAll elems + uptoBulkAll spare + 1
  | .agg parts => uptoBulkAll parts + 1
  | .iface _ d => uptoBulk d + 1
  | .map entries => uptoBulkEntries entries + 1
  | .held _ => 1
def uptoBulkAll {H : Type} : List (DataW H) → Nat
  | [] => 0
  | d :: r => uptoBulk d + uptoBulkAll r
def uptoBulkEntries {H : Type} : List (Lit × DataW H) → Nat
  | [] => 0
  | x :: r => uptoBulkEntry x + uptoBulkEntries r
def uptoBulkEntry {H : Type} : Lit × DataW H → Nat
  | (.string bytes, d) => bytes.length + uptoBulk d + 1
  | (_, d) => uptoBulk d + 1
 end
def uptoSmall : (H : Type) → List (DataW H) → Bool := fun _ ds => decide (uptoBulkAll ds ≤ 1048576)
def OpenSpec.upto (s : _root_.Go.ChangeSpec) : _root_.Go.OpenSpec := { _root_.Go.OpenSpec.ofChange s with cond := some uptoSmall }

/-- 'deadboltlaw8.GraphParts', WHERE WHAT IT READS IS OF BULK AT MOST 1048576: true; the input reads as it did. -/
def graphPartsUptoRow : OpenClaim := { program := "ytmebmgbjpbapjaa", sum := "a800905d1405f173e6c42267ab6e978035aab72970a1df3308755c0d7536e326", func := "deadbolt/deadboltlaw8.GraphParts", spec := "graphParts", unfollowed := true, recurses := true, apart := false, narrowed := true }
def GraphPartsUptoSaid : Prop := graphPartsUptoRow.holds Try.pinned (OpenSpec.upto graphPartsSpec)

/-- 'deadboltlaw8.GraphRings', WHERE WHAT IT READS IS OF BULK AT MOST 1048576: true; the input reads as it did. -/
def graphRingsUptoRow : OpenClaim := { program := "ytmebmgbjpbapjaa", sum := "a800905d1405f173e6c42267ab6e978035aab72970a1df3308755c0d7536e326", func := "deadbolt/deadboltlaw8.GraphRings", spec := "graphRings", unfollowed := true, recurses := true, apart := false, narrowed := true }
def GraphRingsUptoSaid : Prop := graphRingsUptoRow.holds Try.pinned (OpenSpec.upto graphRingsSpec)

/-- 'deadboltlaw8.GraphMore', WHERE WHAT IT READS IS OF BULK AT MOST 1048576: true; the input reads as it did. -/
def graphMoreUptoRow : OpenClaim := { program := "ytmebmgbjpbapjaa", sum := "a800905d1405f173e6c42267ab6e978035aab72970a1df3308755c0d7536e326", func := "deadbolt/deadboltlaw8.GraphMore", spec := "graphMore", unfollowed := true, recurses := true, apart := false, narrowed := true }
def GraphMoreUptoSaid : Prop := graphMoreUptoRow.holds Try.pinned (OpenSpec.upto graphMoreSpec)

/-- 'deadboltlaw8.GraphSpawns', WHERE WHAT IT READS IS OF BULK AT MOST 1048576: true; the input reads as it did. -/
def graphSpawnsUptoRow : OpenClaim := { program := "ytmebmgbjpbapjaa", sum := "a800905d1405f173e6c42267ab6e978035aab72970a1df3308755c0d7536e326", func := "deadbolt/deadboltlaw8.GraphSpawns", spec := "graphSpawns", unfollowed := true, recurses := true, loops := true, apart := false, narrowed := true }
def GraphSpawnsUptoSaid : Prop := graphSpawnsUptoRow.holds Try.pinned (OpenSpec.upto graphSpawnsSpec)

/-- 'deadboltlaw8.GraphReach', WHERE WHAT IT READS IS OF BULK AT MOST 1048576: true; the input reads as it did. -/
def graphReachUptoRow : OpenClaim := { program := "ytmebmgbjpbapjaa", sum := "a800905d1405f173e6c42267ab6e978035aab72970a1df3308755c0d7536e326", func := "deadbolt/deadboltlaw8.GraphReach", spec := "graphReach", unfollowed := true, recurses := true, loops := true, apart := false, narrowed := true }
def GraphReachUptoSaid : Prop := graphReachUptoRow.holds Try.pinned (OpenSpec.upto graphReachSpec)

/-- 'deadboltlaw8.GraphOrder', WHERE WHAT IT READS IS OF BULK AT MOST 1048576: true; the input reads as it did. -/
def graphOrderUptoRow : OpenClaim := { program := "ytmebmgbjpbapjaa", sum := "a800905d1405f173e6c42267ab6e978035aab72970a1df3308755c0d7536e326", func := "deadbolt/deadboltlaw8.GraphOrder", spec := "graphOrder", unfollowed := true, recurses := true, loops := true, apart := false, narrowed := true }
def GraphOrderUptoSaid : Prop := graphOrderUptoRow.holds Try.pinned (OpenSpec.upto graphOrderSpec)

/-- 'deadboltlaw8.GraphCalls', WHERE WHAT IT READS IS OF BULK AT MOST 1048576: true; the input reads as it did. -/
def graphCallsUptoRow : OpenClaim := { program := "ytmebmgbjpbapjaa", sum := "a800905d1405f173e6c42267ab6e978035aab72970a1df3308755c0d7536e326", func := "deadbolt/deadboltlaw8.GraphCalls", spec := "graphCalls", unfollowed := true, recurses := true, loops := true, apart := false, narrowed := true }
def GraphCallsUptoSaid : Prop := graphCallsUptoRow.holds Try.pinned (OpenSpec.upto graphCallsSpec)

/-- 'deadboltlaw8.GraphKnown', WHERE WHAT IT READS IS OF BULK AT MOST 1048576: true; the input reads as it did. -/
def graphKnownUptoRow : OpenClaim := { program := "ytmebmgbjpbapjaa", sum := "a800905d1405f173e6c42267ab6e978035aab72970a1df3308755c0d7536e326", func := "deadbolt/deadboltlaw8.GraphKnown", spec := "graphKnown", unfollowed := true, recurses := true, apart := false, narrowed := true }
def GraphKnownUptoSaid : Prop := graphKnownUptoRow.holds Try.pinned (OpenSpec.upto graphKnownSpec)

end Rows
end Go.Proofs.Ytmebmgbjpbapjaa
