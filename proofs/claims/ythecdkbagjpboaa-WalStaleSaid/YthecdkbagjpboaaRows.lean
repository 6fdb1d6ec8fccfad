/-
  No cell of these rows narrows 'for every input' (looked for: loops, veiled, ifaces, maps, wideKeys, modest, calm, conditions, laid).
  DERIVED. THE GIVEN ROWS OF THIS SEAT. 7 by the template 'for every input the law returns true; each argument reads behind the call as it read before'; 0 by the template 'total and deterministic' (their statements: YthecdkbagjpboaaTotals.lean).
  GIVEN WITH THE SEED: the statements are not yours to turn. If you find one false, say at which input.
  Laid BY PROGRAM, IN A SANDBOX (cutbox-rows.mjs): the forced cells as the released guide's own fill.sh prints them over the translation 7b0e0e0f147a6a3d… (all of the seat's roots in one cut). By AI agents, Wed Nov 11 2026. No macro, syntax, notation, axiom, sorry.
-/
import Derived.Test.YthecdkbagjpboaaChecked
import GoSem.Claim
import GoSem.ClaimJoined
import GoSem.ClaimMapViews
import Derived.JoinedTies
import Derived.KernelRfl
namespace Go.Proofs.Ythecdkbagjpboaa
/- THE CELL 'sum', in the pinned program and in every row, IS THE sha256 OF THE DUMP (.gsa) THAT YthecdkbagjpboaaProg.lean LOADS. Nothing in Lean hashes anything: it is a label: what it is worth is what the hold of that sum in a sandbox is worth. -/
noncomputable def Try.pinned : Pinned := { name := "ythecdkbagjpboaa", sum := "7b0e0e0f147a6a3db9c42d6b4654d9583a58a01bb13e5cb24110e1c7ca184195", checked := Try.checked }
namespace Rows
def none {H : Type} : Left H := { results := [], args := [] }

/-- 'deadboltlaw3.WalHalves': WHATEVER THE INPUT: true; the input reads as it did. -/
def walHalvesSpec : ChangeSpec := { name := "walHalves", fn := fun _ => fun
  | [d1, d2] => { results := [.lit (.bool true)], args := [d1, d2] }
  | _ => none }
def walHalvesRow : OpenClaim := { program := "ythecdkbagjpboaa", sum := "7b0e0e0f147a6a3db9c42d6b4654d9583a58a01bb13e5cb24110e1c7ca184195", func := "deadbolt/deadboltlaw3.WalHalves", spec := "walHalves", unfollowed := true, recurses := true, apart := false }
def WalHalvesSaid : Prop := walHalvesRow.holds Try.pinned (OpenSpec.ofChange walHalvesSpec)

/-- ITS FALSE NEIGHBOUR: 'it returns false'. Refute it at one input. -/
def walHalvesWrong : ChangeSpec := { name := "walHalves", fn := fun _ => fun
  | [d1, d2] => { results := [.lit (.bool false)], args := [d1, d2] }
  | _ => none }
def WalHalvesWrongFalsely : Prop := walHalvesRow.holds Try.pinned (OpenSpec.ofChange walHalvesWrong)

/-- 'deadboltlaw3.WalRows': WHATEVER THE INPUT: true; the input reads as it did. -/
def walRowsSpec : ChangeSpec := { name := "walRows", fn := fun _ => fun
  | [d1, d2, d3, d4] => { results := [.lit (.bool true)], args := [d1, d2, d3, d4] }
  | _ => none }
def walRowsRow : OpenClaim := { program := "ythecdkbagjpboaa", sum := "7b0e0e0f147a6a3db9c42d6b4654d9583a58a01bb13e5cb24110e1c7ca184195", func := "deadbolt/deadboltlaw3.WalRows", spec := "walRows", unfollowed := true, recurses := true, apart := false }
def WalRowsSaid : Prop := walRowsRow.holds Try.pinned (OpenSpec.ofChange walRowsSpec)

/-- ITS FALSE NEIGHBOUR: 'it returns false'. Refute it at one input. -/
def walRowsWrong : ChangeSpec := { name := "walRows", fn := fun _ => fun
  | [d1, d2, d3, d4] => { results := [.lit (.bool false)], args := [d1, d2, d3, d4] }
  | _ => none }
def WalRowsWrongFalsely : Prop := walRowsRow.holds Try.pinned (OpenSpec.ofChange walRowsWrong)

/-- 'deadboltlaw3.WalRoom': WHATEVER THE INPUT: true; the input reads as it did. -/
def walRoomSpec : ChangeSpec := { name := "walRoom", fn := fun _ => fun
  | [d1, d2] => { results := [.lit (.bool true)], args := [d1, d2] }
  | _ => none }
def walRoomRow : OpenClaim := { program := "ythecdkbagjpboaa", sum := "7b0e0e0f147a6a3db9c42d6b4654d9583a58a01bb13e5cb24110e1c7ca184195", func := "deadbolt/deadboltlaw3.WalRoom", spec := "walRoom", unfollowed := true, recurses := true, apart := false }
def WalRoomSaid : Prop := walRoomRow.holds Try.pinned (OpenSpec.ofChange walRoomSpec)

/-- ITS FALSE NEIGHBOUR: 'it returns false'. Refute it at one input. -/
def walRoomWrong : ChangeSpec := { name := "walRoom", fn := fun _ => fun
  | [d1, d2] => { results := [.lit (.bool false)], args := [d1, d2] }
  | _ => none }
def WalRoomWrongFalsely : Prop := walRoomRow.holds Try.pinned (OpenSpec.ofChange walRoomWrong)

/-- 'deadboltlaw3.WalStale': WHATEVER THE INPUT: true; the input reads as it did. -/
def walStaleSpec : ChangeSpec := { name := "walStale", fn := fun _ => fun
  | [d1, d2, d3] => { results := [.lit (.bool true)], args := [d1, d2, d3] }
  | _ => none }
def walStaleRow : OpenClaim := { program := "ythecdkbagjpboaa", sum := "7b0e0e0f147a6a3db9c42d6b4654d9583a58a01bb13e5cb24110e1c7ca184195", func := "deadbolt/deadboltlaw3.WalStale", spec := "walStale", unfollowed := true, recurses := true, apart := false }
def WalStaleSaid : Prop := walStaleRow.holds Try.pinned (OpenSpec.ofChange walStaleSpec)

/-- ITS FALSE NEIGHBOUR: 'it returns false'. Refute it at one input. -/
def walStaleWrong : ChangeSpec := { name := "walStale", fn := fun _ => fun
  | [d1, d2, d3] => { results := [.lit (.bool false)], args := [d1, d2, d3] }
  | _ => none }
def WalStaleWrongFalsely : Prop := walStaleRow.holds Try.pinned (OpenSpec.ofChange walStaleWrong)

/-- 'deadboltlaw3.WalOpens': WHATEVER THE INPUT: true; the input reads as it did. -/
def walOpensSpec : ChangeSpec := { name := "walOpens", fn := fun _ => fun
  | [d1, d2, d3] => { results := [.lit (.bool true)], args := [d1, d2, d3] }
  | _ => none }
def walOpensRow : OpenClaim := { program := "ythecdkbagjpboaa", sum := "7b0e0e0f147a6a3db9c42d6b4654d9583a58a01bb13e5cb24110e1c7ca184195", func := "deadbolt/deadboltlaw3.WalOpens", spec := "walOpens", unfollowed := true, recurses := true, apart := false }
def WalOpensSaid : Prop := walOpensRow.holds Try.pinned (OpenSpec.ofChange walOpensSpec)

/-- ITS FALSE NEIGHBOUR: 'it returns false'. Refute it at one input. -/
def walOpensWrong : ChangeSpec := { name := "walOpens", fn := fun _ => fun
  | [d1, d2, d3] => { results := [.lit (.bool false)], args := [d1, d2, d3] }
  | _ => none }
def WalOpensWrongFalsely : Prop := walOpensRow.holds Try.pinned (OpenSpec.ofChange walOpensWrong)

/-- 'deadboltlaw3.WalTorn': WHATEVER THE INPUT: true; the input reads as it did. -/
def walTornSpec : ChangeSpec := { name := "walTorn", fn := fun _ => fun
  | [d1, d2, d3, d4] => { results := [.lit (.bool true)], args := [d1, d2, d3, d4] }
  | _ => none }
def walTornRow : OpenClaim := { program := "ythecdkbagjpboaa", sum := "7b0e0e0f147a6a3db9c42d6b4654d9583a58a01bb13e5cb24110e1c7ca184195", func := "deadbolt/deadboltlaw3.WalTorn", spec := "walTorn", unfollowed := true, recurses := true, apart := false }
def WalTornSaid : Prop := walTornRow.holds Try.pinned (OpenSpec.ofChange walTornSpec)

/-- ITS FALSE NEIGHBOUR: 'it returns false'. Refute it at one input. -/
def walTornWrong : ChangeSpec := { name := "walTorn", fn := fun _ => fun
  | [d1, d2, d3, d4] => { results := [.lit (.bool false)], args := [d1, d2, d3, d4] }
  | _ => none }
def WalTornWrongFalsely : Prop := walTornRow.holds Try.pinned (OpenSpec.ofChange walTornWrong)

/-- 'deadboltlaw3.WalCrash': WHATEVER THE INPUT: true; the input reads as it did. -/
def walCrashSpec : ChangeSpec := { name := "walCrash", fn := fun _ => fun
  | [d1, d2, d3, d4, d5, d6] => { results := [.lit (.bool true)], args := [d1, d2, d3, d4, d5, d6] }
  | _ => none }
def walCrashRow : OpenClaim := { program := "ythecdkbagjpboaa", sum := "7b0e0e0f147a6a3db9c42d6b4654d9583a58a01bb13e5cb24110e1c7ca184195", func := "deadbolt/deadboltlaw3.WalCrash", spec := "walCrash", unfollowed := true, recurses := true, apart := false }
def WalCrashSaid : Prop := walCrashRow.holds Try.pinned (OpenSpec.ofChange walCrashSpec)

/-- ITS FALSE NEIGHBOUR: 'it returns false'. Refute it at one input. -/
def walCrashWrong : ChangeSpec := { name := "walCrash", fn := fun _ => fun
  | [d1, d2, d3, d4, d5, d6] => { results := [.lit (.bool false)], args := [d1, d2, d3, d4, d5, d6] }
  | _ => none }
def WalCrashWrongFalsely : Prop := walCrashRow.holds Try.pinned (OpenSpec.ofChange walCrashWrong)

/- THE SECOND FORM. 'bulk': how many values and letters a reading holds, each counted each time it is reached (what is shared counts as often as it is met; a slice's spare places count too). A statement '..UptoSaid' is the law's where the arguments, and the package variables that the reading takes, are together of bulk at most 1048576: NARROWER than '..Said'. Prove '..Said' where nothing that the law and all that it calls make is longer than what came in: it says more and counts as full. Else prove '..UptoSaid'. A law counts once. -/
mutual
def uptoBulk {H : Type} : DataW H → Nat
  | .lit (.string bytes) => bytes.length + 1
  | .lit _ => 1
  | .nil => 1
  | .ptr d => uptoBulk d + 1
  | .slice elems spare => uptoBulkAll elems + uptoBulkAll spare + 1
  | .agg parts => uptoBulkAll parts + 1
  | .iface _ d => uptoBulk d + 1
  | .map entries => uptoBulkEntries entries + 1
  | .held _ => 1
def uptoBulkAll {H : Type} : List (DataW H) → Nat
  | [] => 0
  | d :: r => uptoBulk d + uptoBulkAll r
def uptoBulkEntries {H : Type} : List (Lit × DataW H) → Nat
  | [] => 0
  | x :: r => uptoBulkEntry x + uptoBulkEntries r
def uptoBulkEntry {H : Type} : Lit × DataW H → Nat
  | (.string bytes, d) => bytes.length + uptoBulk d + 1
  | (_, d) => uptoBulk d + 1
 end
def uptoSmall : (H : Type) → List (DataW H) → Bool := fun _ ds => decide (uptoBulkAll ds ≤ 1048576)
def OpenSpec.upto (s : _root_.Go.ChangeSpec) : _root_.Go.OpenSpec := { _root_.Go.OpenSpec.ofChange s with cond := some uptoSmall }

/-- 'deadboltlaw3.WalHalves', WHERE WHAT IT READS IS OF BULK AT MOST 1048576: true; the input reads as it did. -/
def walHalvesUptoRow : OpenClaim := { program := "ythecdkbagjpboaa", sum := "7b0e0e0f147a6a3db9c42d6b4654d9583a58a01bb13e5cb24110e1c7ca184195", func := "deadbolt/deadboltlaw3.WalHalves", spec := "walHalves", unfollowed := true, recurses := true, apart := false, narrowed := true }
def WalHalvesUptoSaid : Prop := walHalvesUptoRow.holds Try.pinned (OpenSpec.upto walHalvesSpec)

/-- 'deadboltlaw3.WalRows', WHERE WHAT IT READS IS OF BULK AT MOST 1048576: true; the input reads as it did. -/
def walRowsUptoRow : OpenClaim := { program := "ythecdkbagjpboaa", sum := "7b0e0e0f147a6a3db9c42d6b4654d9583a58a01bb13e5cb24110e1c7ca184195", func := "deadbolt/deadboltlaw3.WalRows", spec := "walRows", unfollowed := true, recurses := true, apart := false, narrowed := true }
def WalRowsUptoSaid : Prop := walRowsUptoRow.holds Try.pinned (OpenSpec.upto walRowsSpec)

/-- 'deadboltlaw3.WalRoom', WHERE WHAT IT READS IS OF BULK AT MOST 1048576: true; the input reads as it did. -/
def walRoomUptoRow : OpenClaim := { program := "ythecdkbagjpboaa", sum := "7b0e0e0f147a6a3db9c42d6b4654d9583a58a01bb13e5cb24110e1c7ca184195", func := "deadbolt/deadboltlaw3.WalRoom", spec := "walRoom", unfollowed := true, recurses := true, apart := false, narrowed := true }
def WalRoomUptoSaid : Prop := walRoomUptoRow.holds Try.pinned (OpenSpec.upto walRoomSpec)

/-- 'deadboltlaw3.WalStale', WHERE WHAT IT READS IS OF BULK AT MOST 1048576: true; the input reads as it did. -/
def walStaleUptoRow : OpenClaim := { program := "ythecdkbagjpboaa", sum := "7b0e0e0f147a6a3db9c42d6b4654d9583a58a01bb13e5cb24110e1c7ca184195", func := "deadbolt/deadboltlaw3.WalStale", spec := "walStale", unfollowed := true, recurses := true, apart := false, narrowed := true }
def WalStaleUptoSaid : Prop := walStaleUptoRow.holds Try.pinned (OpenSpec.upto walStaleSpec)

/-- 'deadboltlaw3.WalOpens', WHERE WHAT IT READS IS OF BULK AT MOST 1048576: true; the input reads as it did. -/
def walOpensUptoRow : OpenClaim := { program := "ythecdkbagjpboaa", sum := "7b0e0e0f147a6a3db9c42d6b4654d9583a58a01bb13e5cb24110e1c7ca184195", func := "deadbolt/deadboltlaw3.WalOpens", spec := "walOpens", unfollowed := true, recurses := true, apart := false, narrowed := true }
def WalOpensUptoSaid : Prop := walOpensUptoRow.holds Try.pinned (OpenSpec.upto walOpensSpec)

/-- 'deadboltlaw3.WalTorn', WHERE WHAT IT READS IS OF BULK AT MOST 1048576: true; the input reads as it did. -/
def walTornUptoRow : OpenClaim := { program := "ythecdkbagjpboaa", sum := "7b0e0e0f147a6a3db9c42d6b4654d9583a58a01bb13e5cb24110e1c7ca184195", func := "deadbolt/deadboltlaw3.WalTorn", spec := "walTorn", unfollowed := true, recurses := true, apart := false, narrowed := true }
def WalTornUptoSaid : Prop := walTornUptoRow.holds Try.pinned (OpenSpec.upto walTornSpec)

/-- 'deadboltlaw3.WalCrash', WHERE WHAT IT READS IS OF BULK AT MOST 1048576: true; the input reads as it did. -/
def walCrashUptoRow : OpenClaim := { program := "ythecdkbagjpboaa", sum := "7b0e0e0f147a6a3db9c42d6b4654d9583a58a01bb13e5cb24110e1c7ca184195", func := "deadbolt/deadboltlaw3.WalCrash", spec := "walCrash", unfollowed := true, recurses := true, apart := false, narrowed := true }
def WalCrashUptoSaid : Prop := walCrashUptoRow.holds Try.pinned (OpenSpec.upto walCrashSpec)

end Rows
end Go.Proofs.Ythecdkbagjpboaa
