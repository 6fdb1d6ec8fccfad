/-
  No program in sight: a commit that has room.
-/
import Derived.Test.YtcgnkloljfgiaaaGreatDoorZf
namespace Go.Proofs.YtcgnkloljfgiaaaGreatDoor
open Go.RowKit Go.Maps Go.MapKept
theorem commit_fit {d : Dk} {N : Nat} {k : Int} {l : LogR} {F G : List (Str × Str)} (h : StoreI d N k l F) (hk : 0 ≤ k ∧ k < 100000000) (hN : N ≤ 256) (hG : OkF G) (hg : l.gen < 4294967295) (hp : partsOf (setB G).length ≤ N / 2) :
    ∃ d' l' k', commitD d l F G = (0, d', l', G) ∧ StoreI d' N k' l' G ∧ k ≤ k' ∧ k' ≤ k + 300 ∧ l'.gen ≤ l.gen + 1 := by
  obtain ⟨-, c2, c3⟩ := commit_alive h hk hN hG hg
  by_cases he : F = G
  · subst he
    exact ⟨d, l, k, c2 hp rfl, h, by omega, by omega, by omega⟩
  · obtain ⟨d', l', k', h1, h2, h3, h4, h5⟩ := c3 hp he
    exact ⟨d', l', k', h1, h2, by omega, h4, h5⟩
theorem commit_same {d : Dk} {N : Nat} {k : Int} {l : LogR} {F : List (Str × Str)} (h : StoreI d N k l F) (hk : 0 ≤ k ∧ k < 100000000) (hN : N ≤ 256) (hg : l.gen < 4294967295) (hp : partsOf (setB F).length ≤ N / 2) : commitD d l F F = (0, d, l, F) :=
  (commit_alive h hk hN h.ok hg).2.1 hp rfl
theorem szFileC : (Tryz.prog.info? 48).map (·.size) = some ([sv [0], sv [0]] : List Value).length := by kernel_rfl
end Go.Proofs.YtcgnkloljfgiaaaGreatDoor
