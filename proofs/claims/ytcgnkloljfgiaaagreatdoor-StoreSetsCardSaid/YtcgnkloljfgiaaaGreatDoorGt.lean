/-
  The slices' types of this translation.
-/
import Derived.Test.YtcgnkloljfgiaaaGreatDoorTr
import Derived.Tactics
import Derived.Tactics2
import Derived.OwnWalk
import Derived.LoopTactic
import Derived.Deep.Cut
import Derived.Deep.CutRange
import Derived.Deep.CutBlock
namespace Go.Proofs.YtcgnkloljfgiaaaGreatDoor
open Go.RowKit Go.Maps Go.MapKept
theorem slStr : SlT Tryz.prog 137 9 1 16 (.string ⟨#[]⟩) := ⟨Tryz.underlying137, by kernel_rfl, rfl, by decide, by decide⟩
theorem slInt : SlT Tryz.prog 36 3 1 8 (.int .i64 0) := ⟨Tryz.underlying36, by kernel_rfl, rfl, by decide, by decide⟩
theorem slBool : SlT Tryz.prog 104 4 1 1 (.bool false) := ⟨Tryz.underlying104, by kernel_rfl, rfl, by decide, by decide⟩
theorem slByte : SlT Tryz.prog 37 5 1 1 (.int .u8 0) := ⟨Tryz.underlying37, by kernel_rfl, rfl, by decide, by decide⟩
theorem keyStr : KeyOk Tryz.prog 9 sv okStr := sv_key Tryz.underlying9
end Go.Proofs.YtcgnkloljfgiaaaGreatDoor
