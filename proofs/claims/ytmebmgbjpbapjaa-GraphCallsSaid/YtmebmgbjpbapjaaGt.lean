/-
  The slices' types of this translation.
-/
import Derived.Test.YtmebmgbjpbapjaaTr
import Derived.Tactics
import Derived.Tactics2
import Derived.OwnWalk
import Derived.LoopTactic
import Derived.Deep.Cut
import Derived.Deep.CutRange
import Derived.Deep.CutBlock
namespace Go.Proofs.Ytmebmgbjpbapjaa
open Go.RowKit Go.Maps Go.MapKept
theorem slStr : SlT Try.prog 24 9 1 16 (.string ⟨#[]⟩) := ⟨Try.underlying24, by kernel_rfl, rfl, by decide, by decide⟩
theorem slStrs : SlT Try.prog 30 24 1 24 (.slice none 0 0) := ⟨Try.underlying30, by kernel_rfl, rfl, by decide, by decide⟩
theorem slPair : SlT Try.prog 25 35 2 32 (.agg #[.string ⟨#[]⟩, .string ⟨#[]⟩]) := ⟨Try.underlying25, by kernel_rfl, rfl, by decide, by decide⟩
theorem slInt : SlT Try.prog 22 3 1 8 (.int .i64 0) := ⟨Try.underlying22, by kernel_rfl, rfl, by decide, by decide⟩
theorem slBool : SlT Try.prog 62 4 1 1 (.bool false) := ⟨Try.underlying62, by kernel_rfl, rfl, by decide, by decide⟩
theorem slByte : SlT Try.prog 64 5 1 1 (.int .u8 0) := ⟨Try.underlying64, by kernel_rfl, rfl, by decide, by decide⟩
theorem slStmt : SlT Try.prog 45 50 5 80 (.agg #[.int .i64 0, .int .i64 0, .string ⟨#[]⟩, .slice none 0 0, .slice none 0 0]) := ⟨Try.underlying45, by kernel_rfl, rfl, by decide, by decide⟩
theorem slFunc : SlT Try.prog 41 48 3 48 (.agg #[.string ⟨#[]⟩, .int .i64 0, .slice none 0 0]) := ⟨Try.underlying41, by kernel_rfl, rfl, by decide, by decide⟩
theorem slDecl : SlT Try.prog 40 77 2 24 (.agg #[.string ⟨#[]⟩, .int .i64 0]) := ⟨Try.underlying40, by kernel_rfl, rfl, by decide, by decide⟩
theorem agStmt : AgT Try.prog 50 [.int .i64 0, .int .i64 0, .string ⟨#[]⟩, .slice none 0 0, .slice none 0 0] := ⟨Try.zeroValue50, ⟨_, Try.underlying50, rfl⟩, by kernel_rfl⟩
theorem agFunc : AgT Try.prog 48 [.string ⟨#[]⟩, .int .i64 0, .slice none 0 0] := ⟨Try.zeroValue48, ⟨_, Try.underlying48, rfl⟩, by kernel_rfl⟩
theorem agPair : AgT Try.prog 35 [.string ⟨#[]⟩, .string ⟨#[]⟩] := ⟨Try.zeroValue35, ⟨_, Try.underlying35, rfl⟩, by kernel_rfl⟩
theorem agProg : AgT Try.prog 43 [.slice none 0 0, .slice none 0 0, .slice none 0 0] := ⟨Try.zeroValue43, ⟨_, Try.underlying43, rfl⟩, by kernel_rfl⟩
theorem mapSet : Try.prog.underlying 66 = some (.map 9 4) := Try.underlying66
theorem keyStr : KeyOk Try.prog 9 sv okStr := sv_key Try.underlying9
end Go.Proofs.Ytmebmgbjpbapjaa
