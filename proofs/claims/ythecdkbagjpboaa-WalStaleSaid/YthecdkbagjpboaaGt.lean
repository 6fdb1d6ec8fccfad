/-
  The slices' types of this translation.
-/
import Derived.Test.YthecdkbagjpboaaTr
import Derived.Tactics
import Derived.Tactics2
import Derived.OwnWalk
import Derived.LoopTactic
import Derived.Deep.Cut
import Derived.Deep.CutRange
import Derived.Deep.CutBlock
namespace Go.Proofs.Ythecdkbagjpboaa
open Go.RowKit Go.Maps Go.MapKept
theorem slInt : SlT Try.prog 112 3 1 8 (.int .i64 0) := ⟨Try.underlying112, by kernel_rfl, rfl, by decide, by decide⟩
theorem slBool : SlT Try.prog 103 4 1 1 (.bool false) := ⟨Try.underlying103, by kernel_rfl, rfl, by decide, by decide⟩
theorem slByte : SlT Try.prog 34 5 1 1 (.int .u8 0) := ⟨Try.underlying34, by kernel_rfl, rfl, by decide, by decide⟩
theorem keyStr : KeyOk Try.prog 9 sv okStr := sv_key Try.underlying9
end Go.Proofs.Ythecdkbagjpboaa
