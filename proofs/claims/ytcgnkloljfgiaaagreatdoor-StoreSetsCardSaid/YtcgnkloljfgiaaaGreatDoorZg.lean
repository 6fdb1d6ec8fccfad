/-
  Rows of store's laws: the listed variables lie so behind the door's own run. Rows of store's laws: the listed variables, from the condition to the walks.
-/
import Derived.Test.YtcgnkloljfgiaaaGreatDoorRxw
import Derived.Test.YtcgnkloljfgiaaaGreatDoorZb
import Derived.LaidMore
import Derived.OpenShut
import Derived.Stop.Joined
import Derived.Lib.LaidU8
import Derived.Test.YtcgnkloljfgiaaaGreatDoorRows
namespace Go.Proofs.YtcgnkloljfgiaaaGreatDoor
open Go.RowKit Go.Maps Go.MapKept
def laidL : List (String × DataW Unit) := [("unicode.White_Space", Rows.laid_unicode_White_Space), ("strings.asciiSpace", Rows.laid_strings_asciiSpace)]
theorem door_met (os : Os) (args : Array Value) : laidMetH Tryz.prog laidL ((World.doorLaid Tryz.prog 400 os).forCall (fun _ _ => 0) ⟨#[], args, []⟩).memory :=
  laidMetH_of_parts3 (fuel := 8) (laidMet_of_run' 8 (by kernel_rfl) (by kernel_rfl)) (by kernel_rfl) (by kernel_rfl)
end Go.Proofs.YtcgnkloljfgiaaaGreatDoor

namespace Go.Proofs.YtcgnkloljfgiaaaGreatDoor
open Go.RowKit Go.Maps Go.MapKept
theorem cells_at {W : World} {g n : Nat} {f : Nat → Value} (hn : 0 < n) (h : ∀ i, i < n → W.cell? ⟨g, i, none⟩ = some (f i)) : ∃ c t fz, W.heap[g]? = some (.cells c t fz) ∧ ∀ i, i < n → c[i]? = some (f i) := by
  have h0 := h 0 hn
  unfold World.cell? at h0
  cases hg : W.heap[g]? with
  | none => simp [hg] at h0
  | some o =>
    cases o with
    | cells c t fz => exact ⟨c, t, fz, rfl, fun i hi => by rw [← cell_of hg, h i hi]⟩
    | _ => simp [hg] at h0
theorem spaces_sl {W : World} (h : laidMetH Tryz.prog laidL W) : byteE.sl (Env.all W).h (.slice (some ⟨0, 0, none⟩) 256 256) spTab := by
  rw [MakeChecks.laidMetH_plain _ _ _ (by kernel_rfl)] at h
  obtain ⟨g, t, cs, fuel, p, hg, ht, hv, hd⟩ := Lib.laidMet.reads h (n := "strings.asciiSpace") (d := Rows.laid_strings_asciiSpace) (.tail _ (.head _))
  have e0 : Tryz.prog.globalNamed "strings.asciiSpace" = some 0 := by kernel_rfl
  obtain rfl := Option.some.inj (e0.symm.trans hg)
  have et : (Tryz.prog.globals[0]?).map (·.type) = some 201 := by kernel_rfl
  obtain rfl := Option.some.inj (et.symm.trans ht)
  have hD : (Rows.laid_strings_asciiSpace : DataW Unit) = Lib.tabData .u8 Lib.asciiSpaceTab := by kernel_rfl
  rw [hD] at hd
  have hcs := Lib.cells_of_tab Tryz.underlying201 Tryz.underlying5 (by kernel_rfl) (by kernel_rfl) hd
  obtain ⟨c, t, fz, hh, hc⟩ := cells_at (W := W) (g := 0) (n := 256) (f := fun i => .int .u8 (Lib.asciiSpaceTab.getD i 0)) (by decide) (fun i hi => by
    rw [World.var?_cell e0 hv i, ← Array.getElem?_toList, hcs, List.getElem?_map]
    have hl := Lib.asciiSpaceTab_length
    rw [List.getElem?_eq_getElem (by omega)]
    simp [List.getD, hl, hi])
  refine ⟨spTab.map B8, rds_bytes _ spTab, ?_, _, _, by rw [spTab_len], by rw [spTab_len]; exact Nat.le_refl _, by unfold maxLen; decide⟩
  rw [spTab_len]
  refine View.mk hh fun j u hj => ?_
  have hjl : j < 256 := by
    have := (List.getElem?_eq_some_iff.1 hj).1
    rw [List.length_map, spTab_len] at this; exact this
  rw [Nat.zero_add, hc j hjl, Lib.asciiSpaceTab_at j hjl, ← hj, List.getElem?_map]
  simp only [spTab, List.getElem?_map, List.getElem?_range hjl, Option.map_some]
  split <;> rfl
end Go.Proofs.YtcgnkloljfgiaaaGreatDoor
