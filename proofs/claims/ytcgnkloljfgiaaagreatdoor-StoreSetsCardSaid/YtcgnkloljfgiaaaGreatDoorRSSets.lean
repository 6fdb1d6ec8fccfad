/-
  The law StoreSets holds: it returns true for all its arguments, and these read as before.
-/
import Derived.Test.YtcgnkloljfgiaaaGreatDoorZg
import Derived.Test.YtcgnkloljfgiaaaGreatDoorTie
import Derived.Test.YtcgnkloljfgiaaaGreatDoorCards
import Derived.SevenTiedAt
import Derived.Test.YtcgnkloljfgiaaaGreatDoorRwf
import Derived.Test.YtcgnkloljfgiaaaGreatDoorLSSets
namespace Go.Proofs.YtcgnkloljfgiaaaGreatDoor.StoreSets
open Go.RowKit Go.ChangeShapes Go.WideShapes Go.ChangeAt

set_option maxRecDepth 100000 in
theorem lifted (os : Os) (started : os.Started) (H : Type) (enc : TypeId × Value → H) :
    ReturnsInHanded {} Tryz.checked os 3 .any (fun w args => (Rows.storeSetsSpec.pre enc Tryz.prog Tryz.f3 [] false w args ∧ laidMetH Tryz.prog laidL w) ∧ sizedMet enc Tryz.prog Tryz.f3 (OpenSpec.ofChange Rows.storeSetsSpec) false w args) (Rows.storeSetsSpec.post enc Tryz.prog Tryz.f3 false true false false) := by
  refine returnsInHanded_of_change_and (C := Tryz.checked) (X := (fun w _ => laidMetH Tryz.prog laidL w)) (fun _ _ _ hh h => h.of_heap hh) own started (by kernel_rfl) Tryz.func3
    (ChangeSpec.witness_shaped (enc := enc) (C := Tryz.checked) (os := os) (X := (fun w _ => laidMetH Tryz.prog laidL w)) false (World.doorLaid Tryz.prog 400 os) #[.slice none 0 0, .int .i64 0] 8 rfl (World.shaped_of_RefB (by kernel_rfl) (by kernel_rfl)) (by kernel_rfl) (by kernel_rfl) (by kernel_rfl) (door_met os _)) ?_
  intro W base args ds gs before hval0 hW _ _ hL _
  have hval : ∀ (j : Nat) t v, Tryz.f3.params[j]? = some t → args[j]? = some v → Value.okWide Tryz.prog W .any base t v := hval0
  have hW' := hW
  obtain ⟨p, q, hA0, hV, rfl, hfz, hnd⟩ := hW
  have hA : DataW.TrodAll enc Tryz.prog W 0 (fun _ => true) true Tryz.f3.params.toList args.toList ds p := hA0
  rw [Tryz.params3] at hA hval
  obtain ⟨v0, vs0, d0, ds0, p0, q0, hargs, rfl, rfl, h0, r0⟩ := trodAll_cons hA
  obtain ⟨v1, vs1, d1, ds1, p1, q1, rfl, rfl, rfl, h1, r1⟩ := trodAll_cons r0
  obtain ⟨rfl, rfl, rfl⟩ := trodAll_nil r1
  obtain rfl : args = #[v0, v1] := by cases args; simp_all
  obtain ⟨rfl, rfl⟩ := trodVars_none hV
  obtain ⟨l0, hsl0⟩ := open_steps (hval 0 22 v0 rfl rfl) h0
  have k0 := h0
  have lt0 : ∀ x ∈ p0, x.block < W.heap.size := by obtain ⟨m, hm⟩ := k0; exact DataW.trod_lt m _ _ _ hm
  obtain ⟨a1, rfl, rfl, rfl, w1⟩ := open_int Tryz.underlying3 (hval 1 3 v1 rfl rfl) h1
  have hsps := spaces_sl hL
  clear hA0 hval0
  have b1 := wf_i64' w1
  refine (storeSets_calls (((St.of_all W).of_base hsps).of_base hsl0) mem1 mem0  a1 b1.1 b1.2).mono fun e W' ⟨he, hs⟩ => ?_
  have bel := hs.frame
  subst he
  exact ⟨_, rfl, _, _, _, [], _, [], hW', trodAll_mk1 (shut_bool Tryz.underlying4 _), (trodAll_cons_mk (Below.trod laidOut (by kernel_rfl) (of_decide_eq_true (by kernel_rfl)) k0 bel lt0) (trodAll_cons_mk (shut_int Tryz.underlying3 w1) trodAll_mk0)), rfl, bel.frame _, fun h => by cases h⟩

theorem over : Rows.storeSetsRow.holds Tryz.pinned (OpenSpec.ofChange Rows.storeSetsSpec) :=
  OpenClaim.holds_of_wide 3 Tryz.f3 rfl rfl rfl rfl rfl rfl rfl ⟨rfl, rfl, rfl, rfl, rfl⟩ rfl rfl rfl rfl rfl (by kernel_rfl) Tryz.func3 (by kernel_rfl)
    (of_decide_eq_true (by kernel_rfl)) (by unfold Func.isWrapper; first | (rw [if_pos (by decide +kernel)]; kernel_rfl) | (rw [if_neg (by decide +kernel)]; exact ⟨rfl, rfl⟩))
    (fun os started H enc _ => lifted os started H enc)
end Go.Proofs.YtcgnkloljfgiaaaGreatDoor.StoreSets
namespace Go.Proofs.YtcgnkloljfgiaaaGreatDoor
theorem storeSets_holds : Rows.StoreSetsSaid := StoreSets.over
/-- The tied card. -/
theorem storeSets_card : Rows.StoreSetsCardSaid :=
  Claim7.holds_tied_plain_at .later [] [.listed, .data] true (true, "0b6ada5dbe692495014a1832f5c7cdc92e1a7fa4756a8bbd26bc406c125036fb") true
    storeSets_holds (fun _ h => by cases h) (by kernel_rfl) (fun _ h => by cases h) storeSets_row_tie rfl ⟨rfl, rfl⟩ (by kernel_rfl) rfl
    (fun f fn hf hfn => by
      obtain rfl : f = 3 := Option.some.inj ((show Tryz.prog.funcNamed "deadbolt/deadboltlaw4.StoreSets" = some 3 by kernel_rfl).symm.trans hf) |>.symm
      obtain rfl : fn = Tryz.f3 := (Option.some.inj (Tryz.func3.symm.trans hfn)).symm
      exact ⟨by kernel_rfl, fun j t ht => by
        rw [Tryz.params3] at ht
        have hm : t ∈ [22, 3] := by
          have h0 := Array.mem_of_getElem? ht
          simpa using h0
        have hall : ([22, 3].all fun u => !Tryz.prog.wantsStandIn u) = true := by kernel_rfl
        exact (show Tryz.prog.wantsStandIn t = false by simpa using List.all_eq_true.1 hall t hm)⟩)
    (by kernel_rfl)
#print axioms storeSets_card
end Go.Proofs.YtcgnkloljfgiaaaGreatDoor
