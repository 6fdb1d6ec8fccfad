/-
  deadboltref3: record where no Part lies.
-/
import Derived.Test.YthecdkbagjpboaaV5
import Derived.OwnWalk
namespace Go.Proofs.Ythecdkbagjpboaa
open Go.RowKit Go.Maps Go.MapKept
variable {b : Env} {L : List HP} {w : World}
set_option linter.unusedSimpArgs false in
set_option maxRecDepth 100000 in
set_option maxHeartbeats 4000000 in
theorem rrecord_none {gx : Nat} {r : Rk} {l : Byt} (h : St b (HP.ref gx r :: L) w) (hOk : r.Ok) (fr en gn rc : Int) (hft : fr < en) (hR : r.readR fr = 0) (hB : r.readB fr = l) (hl : l.length = 64) (hp : parseB l = none) :
    Calls Try.prog 44 #[.pointer (some ⟨gx, 0, none⟩), .int .i64 fr, .int .i64 en, .int .i64 gn, .int .i64 rc] w fun x w' => x = .returned (.tuple #[.int .i64 0, .slice none 0 0, .bool false]) ∧ St b (HP.ref gx r :: L) w' := by
  have H := hide h
  have HH := hide (And.intro hOk (And.intro hR (And.intro hB hl)))
  have HPN := hide hp
  have hnt : ¬ en ≤ fr := by omega
  clear h hOk hR hB hl hp
  go_enter Try.func44, Try.ntmps44
  go_wp2_with (first
    | (go_at_call 43; refine (rpart_calls H.out HH.out.1 fr HH.out.2.1 HH.out.2.2.1 HH.out.2.2.2).mono ?_; rintro z w4 (⟨p9, v9, hp9, rfl, h4⟩ | ⟨hp9, rfl, h4⟩); (rw [HPN.out] at hp9; cases hp9); clear hp9; have H4 := hide h4; clear h4 H)
    | ((with_reducible refine wpList_alloc_ag rfl agPartX rfl H4.out ?_); intro g2 w1 h1; have H5 := hide h1; clear h1 H4)
    | ((with_reducible refine wpList_store_ag (cs := [.int .i64 0, .int .i64 0, .int .i64 0, .int .i64 0, .slice none 0 0]) rfl agPartX (.tmp 13) (.tmp 27) rfl rfl rfl rfl rfl ONE0.out H5.out ?_); intro w20 h20; have H6 := hide h20.drop; clear h20 H5))
  go_ret3
  exact ⟨rfl, H6.out⟩
end Go.Proofs.Ythecdkbagjpboaa
