/-
  No cell of these rows narrows 'for every input' (looked for: loops, veiled, ifaces, maps, wideKeys, modest, calm, conditions, laid).
  DERIVED. THE GIVEN ROWS OF THIS SEAT. 9 by the template 'for every input the law returns true; each argument reads behind the call as it read before'; 0 by the template 'total and deterministic' (their statements: YtbeabedpmoalpaaTotals.lean).
  GIVEN WITH THE SEED: the statements are not yours to turn. If you find one false, say at which input.
  Laid BY PROGRAM, IN A SANDBOX (cutbox-rows.mjs): the forced cells as the released guide's own fill.sh prints them over the translation e4071e383806298b… (all of the seat's roots in one cut). By AI agents, Wed Nov 11 2026. No macro, syntax, notation, axiom, sorry.
-/
import Derived.Test.YtbeabedpmoalpaaChecked
import GoSem.Claim
import GoSem.ClaimJoined
import GoSem.ClaimMapViews
import Derived.JoinedTies
import Derived.KernelRfl
namespace Go.Proofs.Ytbeabedpmoalpaa
/- THE CELL 'sum', in the pinned program and in every row, IS THE sha256 OF THE DUMP (.gsa) THAT YtbeabedpmoalpaaProg.lean LOADS. Nothing in Lean hashes anything: it is a label: what it is worth is what the hold of that sum in a sandbox is worth. -/
noncomputable def Try.pinned : Pinned := { name := "ytbeabedpmoalpaa", sum := "e4071e383806298bba303b728b4a34ab8384404387b5dd4dcd1b325117367ffd", checked := Try.checked }
namespace Rows
def none {H : Type} : Left H := { results := [], args := [] }

/-- 'deadboltlaw1.DiskNew': WHATEVER THE INPUT: true; the input reads as it did. -/
def diskNewSpec : ChangeSpec := { name := "diskNew", fn := fun _ => fun
  | [d1, d2] => { results := [.lit (.bool true)], args := [d1, d2] }
  | _ => none }
def diskNewRow : OpenClaim := { program := "ytbeabedpmoalpaa", sum := "e4071e383806298bba303b728b4a34ab8384404387b5dd4dcd1b325117367ffd", func := "deadbolt/deadboltlaw1.DiskNew", spec := "diskNew", apart := false }
def DiskNewSaid : Prop := diskNewRow.holds Try.pinned (OpenSpec.ofChange diskNewSpec)

/-- ITS FALSE NEIGHBOUR: 'it returns false'. Refute it at one input. -/
def diskNewWrong : ChangeSpec := { name := "diskNew", fn := fun _ => fun
  | [d1, d2] => { results := [.lit (.bool false)], args := [d1, d2] }
  | _ => none }
def DiskNewWrongFalsely : Prop := diskNewRow.holds Try.pinned (OpenSpec.ofChange diskNewWrong)

/-- 'deadboltlaw1.DiskOwn': WHATEVER THE INPUT: true; the input reads as it did. -/
def diskOwnSpec : ChangeSpec := { name := "diskOwn", fn := fun _ => fun
  | [d1, d2, d3] => { results := [.lit (.bool true)], args := [d1, d2, d3] }
  | _ => none }
def diskOwnRow : OpenClaim := { program := "ytbeabedpmoalpaa", sum := "e4071e383806298bba303b728b4a34ab8384404387b5dd4dcd1b325117367ffd", func := "deadbolt/deadboltlaw1.DiskOwn", spec := "diskOwn", apart := false }
def DiskOwnSaid : Prop := diskOwnRow.holds Try.pinned (OpenSpec.ofChange diskOwnSpec)

/-- ITS FALSE NEIGHBOUR: 'it returns false'. Refute it at one input. -/
def diskOwnWrong : ChangeSpec := { name := "diskOwn", fn := fun _ => fun
  | [d1, d2, d3] => { results := [.lit (.bool false)], args := [d1, d2, d3] }
  | _ => none }
def DiskOwnWrongFalsely : Prop := diskOwnRow.holds Try.pinned (OpenSpec.ofChange diskOwnWrong)

/-- 'deadboltlaw1.DiskErrs': WHATEVER THE INPUT: true; the input reads as it did. -/
def diskErrsSpec : ChangeSpec := { name := "diskErrs", fn := fun _ => fun
  | [d1, d2, d3] => { results := [.lit (.bool true)], args := [d1, d2, d3] }
  | _ => none }
def diskErrsRow : OpenClaim := { program := "ytbeabedpmoalpaa", sum := "e4071e383806298bba303b728b4a34ab8384404387b5dd4dcd1b325117367ffd", func := "deadbolt/deadboltlaw1.DiskErrs", spec := "diskErrs", unfollowed := true, recurses := true, apart := false }
def DiskErrsSaid : Prop := diskErrsRow.holds Try.pinned (OpenSpec.ofChange diskErrsSpec)

/-- ITS FALSE NEIGHBOUR: 'it returns false'. Refute it at one input. -/
def diskErrsWrong : ChangeSpec := { name := "diskErrs", fn := fun _ => fun
  | [d1, d2, d3] => { results := [.lit (.bool false)], args := [d1, d2, d3] }
  | _ => none }
def DiskErrsWrongFalsely : Prop := diskErrsRow.holds Try.pinned (OpenSpec.ofChange diskErrsWrong)

/-- 'deadboltlaw1.DiskLasts': WHATEVER THE INPUT: true; the input reads as it did. -/
def diskLastsSpec : ChangeSpec := { name := "diskLasts", fn := fun _ => fun
  | [d1, d2, d3] => { results := [.lit (.bool true)], args := [d1, d2, d3] }
  | _ => none }
def diskLastsRow : OpenClaim := { program := "ytbeabedpmoalpaa", sum := "e4071e383806298bba303b728b4a34ab8384404387b5dd4dcd1b325117367ffd", func := "deadbolt/deadboltlaw1.DiskLasts", spec := "diskLasts", unfollowed := true, recurses := true, apart := false }
def DiskLastsSaid : Prop := diskLastsRow.holds Try.pinned (OpenSpec.ofChange diskLastsSpec)

/-- ITS FALSE NEIGHBOUR: 'it returns false'. Refute it at one input. -/
def diskLastsWrong : ChangeSpec := { name := "diskLasts", fn := fun _ => fun
  | [d1, d2, d3] => { results := [.lit (.bool false)], args := [d1, d2, d3] }
  | _ => none }
def DiskLastsWrongFalsely : Prop := diskLastsRow.holds Try.pinned (OpenSpec.ofChange diskLastsWrong)

/-- 'deadboltlaw1.DiskLate': WHATEVER THE INPUT: true; the input reads as it did. -/
def diskLateSpec : ChangeSpec := { name := "diskLate", fn := fun _ => fun
  | [d1, d2, d3, d4, d5] => { results := [.lit (.bool true)], args := [d1, d2, d3, d4, d5] }
  | _ => none }
def diskLateRow : OpenClaim := { program := "ytbeabedpmoalpaa", sum := "e4071e383806298bba303b728b4a34ab8384404387b5dd4dcd1b325117367ffd", func := "deadbolt/deadboltlaw1.DiskLate", spec := "diskLate", unfollowed := true, recurses := true, apart := false }
def DiskLateSaid : Prop := diskLateRow.holds Try.pinned (OpenSpec.ofChange diskLateSpec)

/-- ITS FALSE NEIGHBOUR: 'it returns false'. Refute it at one input. -/
def diskLateWrong : ChangeSpec := { name := "diskLate", fn := fun _ => fun
  | [d1, d2, d3, d4, d5] => { results := [.lit (.bool false)], args := [d1, d2, d3, d4, d5] }
  | _ => none }
def DiskLateWrongFalsely : Prop := diskLateRow.holds Try.pinned (OpenSpec.ofChange diskLateWrong)

/-- 'deadboltlaw1.DiskCounts': WHATEVER THE INPUT: true; the input reads as it did. -/
def diskCountsSpec : ChangeSpec := { name := "diskCounts", fn := fun _ => fun
  | [d1, d2, d3] => { results := [.lit (.bool true)], args := [d1, d2, d3] }
  | _ => none }
def diskCountsRow : OpenClaim := { program := "ytbeabedpmoalpaa", sum := "e4071e383806298bba303b728b4a34ab8384404387b5dd4dcd1b325117367ffd", func := "deadbolt/deadboltlaw1.DiskCounts", spec := "diskCounts", unfollowed := true, recurses := true, apart := false }
def DiskCountsSaid : Prop := diskCountsRow.holds Try.pinned (OpenSpec.ofChange diskCountsSpec)

/-- ITS FALSE NEIGHBOUR: 'it returns false'. Refute it at one input. -/
def diskCountsWrong : ChangeSpec := { name := "diskCounts", fn := fun _ => fun
  | [d1, d2, d3] => { results := [.lit (.bool false)], args := [d1, d2, d3] }
  | _ => none }
def DiskCountsWrongFalsely : Prop := diskCountsRow.holds Try.pinned (OpenSpec.ofChange diskCountsWrong)

/-- 'deadboltlaw1.DiskPlays': WHATEVER THE INPUT: true; the input reads as it did. -/
def diskPlaysSpec : ChangeSpec := { name := "diskPlays", fn := fun _ => fun
  | [d1, d2] => { results := [.lit (.bool true)], args := [d1, d2] }
  | _ => none }
def diskPlaysRow : OpenClaim := { program := "ytbeabedpmoalpaa", sum := "e4071e383806298bba303b728b4a34ab8384404387b5dd4dcd1b325117367ffd", func := "deadbolt/deadboltlaw1.DiskPlays", spec := "diskPlays", unfollowed := true, recurses := true, apart := false }
def DiskPlaysSaid : Prop := diskPlaysRow.holds Try.pinned (OpenSpec.ofChange diskPlaysSpec)

/-- ITS FALSE NEIGHBOUR: 'it returns false'. Refute it at one input. -/
def diskPlaysWrong : ChangeSpec := { name := "diskPlays", fn := fun _ => fun
  | [d1, d2] => { results := [.lit (.bool false)], args := [d1, d2] }
  | _ => none }
def DiskPlaysWrongFalsely : Prop := diskPlaysRow.holds Try.pinned (OpenSpec.ofChange diskPlaysWrong)

/-- 'deadboltlaw1.DiskFuse': WHATEVER THE INPUT: true; the input reads as it did. -/
def diskFuseSpec : ChangeSpec := { name := "diskFuse", fn := fun _ => fun
  | [d1, d2] => { results := [.lit (.bool true)], args := [d1, d2] }
  | _ => none }
def diskFuseRow : OpenClaim := { program := "ytbeabedpmoalpaa", sum := "e4071e383806298bba303b728b4a34ab8384404387b5dd4dcd1b325117367ffd", func := "deadbolt/deadboltlaw1.DiskFuse", spec := "diskFuse", unfollowed := true, recurses := true, apart := false }
def DiskFuseSaid : Prop := diskFuseRow.holds Try.pinned (OpenSpec.ofChange diskFuseSpec)

/-- ITS FALSE NEIGHBOUR: 'it returns false'. Refute it at one input. -/
def diskFuseWrong : ChangeSpec := { name := "diskFuse", fn := fun _ => fun
  | [d1, d2] => { results := [.lit (.bool false)], args := [d1, d2] }
  | _ => none }
def DiskFuseWrongFalsely : Prop := diskFuseRow.holds Try.pinned (OpenSpec.ofChange diskFuseWrong)

/-- 'deadboltlaw1.DiskApart': WHATEVER THE INPUT: true; the input reads as it did. -/
def diskApartSpec : ChangeSpec := { name := "diskApart", fn := fun _ => fun
  | [d1, d2] => { results := [.lit (.bool true)], args := [d1, d2] }
  | _ => none }
def diskApartRow : OpenClaim := { program := "ytbeabedpmoalpaa", sum := "e4071e383806298bba303b728b4a34ab8384404387b5dd4dcd1b325117367ffd", func := "deadbolt/deadboltlaw1.DiskApart", spec := "diskApart", unfollowed := true, recurses := true, apart := false }
def DiskApartSaid : Prop := diskApartRow.holds Try.pinned (OpenSpec.ofChange diskApartSpec)

/-- ITS FALSE NEIGHBOUR: 'it returns false'. Refute it at one input. -/
def diskApartWrong : ChangeSpec := { name := "diskApart", fn := fun _ => fun
  | [d1, d2] => { results := [.lit (.bool false)], args := [d1, d2] }
  | _ => none }
def DiskApartWrongFalsely : Prop := diskApartRow.holds Try.pinned (OpenSpec.ofChange diskApartWrong)

/- THE SECOND FORM. 'bulk': how many values and letters a reading holds, each counted each time it is reached (what is shared counts as often as it is met; a slice's spare places count too). A statement '..UptoSaid' is the law's where the arguments, and the package variables that the reading takes, are together of bulk at most 1048576: NARROWER than '..Said'. Prove '..Said' where nothing that the law and all that it calls make is longer than what came in: it says more and counts as full. Else prove '..UptoSaid'. A law counts once. -/
mutual
def uptoBulk {H : Type} : DataW H → Nat
  | .lit (.string bytes) => bytes.length + 1
  | .lit _ => 1
  | .nil => 1
  | .ptr d => uptoBulk d + 1
  | .slice elems spare => uptoBulkAll elems + uptoBulkAll spare + 1
  | .agg parts => uptoBulkAll parts + 1
  | .iface _ d => uptoBulk d + 1
  | .map entries => uptoBulkEntries entries + 1
  | .held _ => 1
def uptoBulkAll {H : Type} : List (DataW H) → Nat
  | [] => 0
  | d :: r => uptoBulk d + uptoBulkAll r
def uptoBulkEntries {H : Type} : List (Lit × DataW H) → Nat
  | [] => 0
  | x :: r => uptoBulkEntry x + uptoBulkEntries r
def uptoBulkEntry {H : Type} : Lit × DataW H → Nat
  | (.string bytes, d) => bytes.length + uptoBulk d + 1
  | (_, d) => uptoBulk d + 1
 end
def uptoSmall : (H : Type) → List (DataW H) → Bool := fun _ ds => decide (uptoBulkAll ds ≤ 1048576)
def OpenSpec.upto (s : _root_.Go.ChangeSpec) : _root_.Go.OpenSpec := { _root_.Go.OpenSpec.ofChange s with cond := some uptoSmall }

/-- 'deadboltlaw1.DiskNew', WHERE WHAT IT READS IS OF BULK AT MOST 1048576: true; the input reads as it did. -/
def diskNewUptoRow : OpenClaim := { program := "ytbeabedpmoalpaa", sum := "e4071e383806298bba303b728b4a34ab8384404387b5dd4dcd1b325117367ffd", func := "deadbolt/deadboltlaw1.DiskNew", spec := "diskNew", apart := false, narrowed := true }
def DiskNewUptoSaid : Prop := diskNewUptoRow.holds Try.pinned (OpenSpec.upto diskNewSpec)

/-- 'deadboltlaw1.DiskOwn', WHERE WHAT IT READS IS OF BULK AT MOST 1048576: true; the input reads as it did. -/
def diskOwnUptoRow : OpenClaim := { program := "ytbeabedpmoalpaa", sum := "e4071e383806298bba303b728b4a34ab8384404387b5dd4dcd1b325117367ffd", func := "deadbolt/deadboltlaw1.DiskOwn", spec := "diskOwn", apart := false, narrowed := true }
def DiskOwnUptoSaid : Prop := diskOwnUptoRow.holds Try.pinned (OpenSpec.upto diskOwnSpec)

/-- 'deadboltlaw1.DiskErrs', WHERE WHAT IT READS IS OF BULK AT MOST 1048576: true; the input reads as it did. -/
def diskErrsUptoRow : OpenClaim := { program := "ytbeabedpmoalpaa", sum := "e4071e383806298bba303b728b4a34ab8384404387b5dd4dcd1b325117367ffd", func := "deadbolt/deadboltlaw1.DiskErrs", spec := "diskErrs", unfollowed := true, recurses := true, apart := false, narrowed := true }
def DiskErrsUptoSaid : Prop := diskErrsUptoRow.holds Try.pinned (OpenSpec.upto diskErrsSpec)

/-- 'deadboltlaw1.DiskLasts', WHERE WHAT IT READS IS OF BULK AT MOST 1048576: true; the input reads as it did. -/
def diskLastsUptoRow : OpenClaim := { program := "ytbeabedpmoalpaa", sum := "e4071e383806298bba303b728b4a34ab8384404387b5dd4dcd1b325117367ffd", func := "deadbolt/deadboltlaw1.DiskLasts", spec := "diskLasts", unfollowed := true, recurses := true, apart := false, narrowed := true }
def DiskLastsUptoSaid : Prop := diskLastsUptoRow.holds Try.pinned (OpenSpec.upto diskLastsSpec)

/-- 'deadboltlaw1.DiskLate', WHERE WHAT IT READS IS OF BULK AT MOST 1048576: true; the input reads as it did. -/
def diskLateUptoRow : OpenClaim := { program := "ytbeabedpmoalpaa", sum := "e4071e383806298bba303b728b4a34ab8384404387b5dd4dcd1b325117367ffd", func := "deadbolt/deadboltlaw1.DiskLate", spec := "diskLate", unfollowed := true, recurses := true, apart := false, narrowed := true }
def DiskLateUptoSaid : Prop := diskLateUptoRow.holds Try.pinned (OpenSpec.upto diskLateSpec)

/-- 'deadboltlaw1.DiskCounts', WHERE WHAT IT READS IS OF BULK AT MOST 1048576: true; the input reads as it did. -/
def diskCountsUptoRow : OpenClaim := { program := "ytbeabedpmoalpaa", sum := "e4071e383806298bba303b728b4a34ab8384404387b5dd4dcd1b325117367ffd", func := "deadbolt/deadboltlaw1.DiskCounts", spec := "diskCounts", unfollowed := true, recurses := true, apart := false, narrowed := true }
def DiskCountsUptoSaid : Prop := diskCountsUptoRow.holds Try.pinned (OpenSpec.upto diskCountsSpec)

/-- 'deadboltlaw1.DiskPlays', WHERE WHAT IT READS IS OF BULK AT MOST 1048576: true; the input reads as it did. -/
def diskPlaysUptoRow : OpenClaim := { program := "ytbeabedpmoalpaa", sum := "e4071e383806298bba303b728b4a34ab8384404387b5dd4dcd1b325117367ffd", func := "deadbolt/deadboltlaw1.DiskPlays", spec := "diskPlays", unfollowed := true, recurses := true, apart := false, narrowed := true }
def DiskPlaysUptoSaid : Prop := diskPlaysUptoRow.holds Try.pinned (OpenSpec.upto diskPlaysSpec)

/-- 'deadboltlaw1.DiskFuse', WHERE WHAT IT READS IS OF BULK AT MOST 1048576: true; the input reads as it did. -/
def diskFuseUptoRow : OpenClaim := { program := "ytbeabedpmoalpaa", sum := "e4071e383806298bba303b728b4a34ab8384404387b5dd4dcd1b325117367ffd", func := "deadbolt/deadboltlaw1.DiskFuse", spec := "diskFuse", unfollowed := true, recurses := true, apart := false, narrowed := true }
def DiskFuseUptoSaid : Prop := diskFuseUptoRow.holds Try.pinned (OpenSpec.upto diskFuseSpec)

/-- 'deadboltlaw1.DiskApart', WHERE WHAT IT READS IS OF BULK AT MOST 1048576: true; the input reads as it did. -/
def diskApartUptoRow : OpenClaim := { program := "ytbeabedpmoalpaa", sum := "e4071e383806298bba303b728b4a34ab8384404387b5dd4dcd1b325117367ffd", func := "deadbolt/deadboltlaw1.DiskApart", spec := "diskApart", unfollowed := true, recurses := true, apart := false, narrowed := true }
def DiskApartUptoSaid : Prop := diskApartUptoRow.holds Try.pinned (OpenSpec.upto diskApartSpec)

end Rows
end Go.Proofs.Ytbeabedpmoalpaa
