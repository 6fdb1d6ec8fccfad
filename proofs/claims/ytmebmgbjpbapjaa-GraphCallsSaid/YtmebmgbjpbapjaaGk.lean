/-
  deadboltlaw8: known.
-/
import Derived.Test.YtmebmgbjpbapjaaGb
namespace Go.Proofs.Ytmebmgbjpbapjaa
open Go.RowKit Go.Maps Go.MapKept
variable {b : Env} {L : List HP} {w : World}

theorem St.rowsN {α : Type} {g : Nat} {U : TypeId} {E : El α} {cs : List Value} (h : St b (HP.blk g (.cells cs.toArray U) :: L) w) (n : Nat) (ys : List α) (hn : n = ys.length) (hm : n ≤ maxLen) (hrd : ∀ e, b.le e → Sat e (HP.blk g (.cells cs.toArray U) :: L) w → E.rds e.h ys cs) : St b (HP.rows U E (.slice (some ⟨g, 0, none⟩) n n) ys :: L) w := by
  obtain ⟨e, hl, hs⟩ := h
  have h1 := hrd e hl hs
  subst hn
  exact ⟨e, hl, Sat.rows_shut (cs := cs) (row_of_toArray hs (El.rds_len h1) hm) h1⟩

theorem rch_not {es : List (Str × Str)} {s y : Str} (h1 : y ≠ s) (h2 : y ∉ es.map (·.2)) : ¬ Rch (edgesN es) s y := fun h =>
  h (fun x => x ≠ y) h1.symm (fun x _ z hz he => h2 (by subst he; exact List.mem_map.2 ⟨_, edgesN_mem.1 hz, rfl⟩)) rfl
theorem rch_one {es : List (Str × Str)} {s y : Str} (h : (s, y) ∈ es) : Rch (edgesN es) s y := (Rch.refl _ s).step (edgesN_mem.2 h)

abbrev sA : Str := [97]
abbrev sB : Str := [98]
abbrev sC : Str := [99]
theorem okS1 (c : UInt8) : okStr [c] := by simp [okStr, maxLen]
theorem known_spec : partsR (eqv (edgesN (inEdges [sA, sB, sC] [(sA, sB), (sB, sA)]))) 3 [sA, sB, sC] = [[sA, sB], [sC]] := by
  have e0 : inEdges [sA, sB, sC] [(sA, sB), (sB, sA)] = [(sA, sB), (sB, sA)] := by decide
  rw [e0]
  have q1 : eqv (edgesN [(sA, sB), (sB, sA)]) sA sB = true := eqv_iff.2 ⟨rch_one (by simp), rch_one (by simp)⟩
  have q2 : eqv (edgesN [(sA, sB), (sB, sA)]) sA sC = false := by
    rw [← Bool.not_eq_true]; exact fun h => rch_not (by decide) (by decide) (eqv_iff.1 h).1
  have q3 := eqv_refl (edgesN [(sA, sB), (sB, sA)]) sA
  have q4 := eqv_refl (edgesN [(sA, sB), (sB, sA)]) sC
  simp [partsR, q1, q2, q3, q4]

set_option maxRecDepth 100000 in
set_option maxHeartbeats 2000000 in
theorem known_calls (h : St b L w) : Calls Try.prog 11 #[] w fun x w' => x = .returned (.bool true) ∧ St b L w' := by
  have H := hide h
  clear h
  go_enter Try.func11, Try.ntmps11
  go_wp2_with (first
    | (refine wpList_build_st (E := strE) rfl 3 _ slStr rfl (by omega) (by omega) [sv sA, sv sB, sv sC] [sA, sB, sC] ?_ rfl rfl H.out ?_ ?_; exact rfl; exact (fun _ _ _ => ⟨⟨rfl, okS1 _⟩, ⟨rfl, okS1 _⟩, ⟨rfl, okS1 _⟩, trivial⟩); intro g1 w1 h1; have H1 := hide h1.persist; clear h1 H)
    | (refine wpList_build_st (E := pairE) rfl 2 _ slPair rfl (by omega) (by omega) [.agg #[sv sA, sv sB], .agg #[sv sB, sv sA]] [(sA, sB), (sB, sA)] ?_ rfl rfl H1.out ?_ ?_; exact rfl; exact (fun _ _ _ => ⟨⟨rfl, okS1 _, okS1 _⟩, ⟨rfl, okS1 _, okS1 _⟩, trivial⟩); intro g2 w2 h2; have H2 := hide h2.persist; clear h2 H1)
    | (go_at_call 15; refine (gparts_calls H2.out (N := [sA, sB, sC]) (es := [(sA, sB), (sB, sA)]) mem1 mem0 (by decide) (by decide)).mono ?_; rintro x w3 ⟨v3, S, rfl, hinc, hmem, h3⟩; have hSe : S = [sA, sB, sC] := Inc.ext hinc (by unfold Inc; decide) hmem; subst hSe; have h3' : St b (HP.sl strE.in v3 [[sA, sB], [sC]] :: _) w3 := known_spec ▸ h3; have H3 := hide ((h3'.d1.d1.sl_nil strE).sl_nil pairE); clear h3 h3' H2 hinc hmem)
    | (go_at_call 15; refine (gparts_calls H3.out (N := []) (es := []) mem1 mem0 (by decide) (by decide)).mono ?_; rintro x w4 ⟨v4, S, rfl, hinc, hmem, h4⟩; have hSe : S = [] := List.eq_nil_iff_forall_not_mem.2 (fun y hy => by cases (hmem y).1 hy); subst hSe; rw [partsR_nil] at h4; obtain ⟨b4, c4, hv4, _⟩ := h4.sl_form mem0; subst hv4; have h5 := h4.drop.drop.drop; have h6 := (((h5.alloc (.cells #[.string ⟨sA.toArray⟩, .string ⟨sB.toArray⟩] 9)).rowsN (E := strE) (cs := [sv sA, sv sB]) 2 [sA, sB] rfl (by decide) (fun _ _ _ => ⟨_, _, rfl, ⟨rfl, okS1 _⟩, ⟨_, _, rfl, ⟨rfl, okS1 _⟩, rfl⟩⟩)).persist.alloc (.cells #[.string ⟨sC.toArray⟩] 9)).rowsN (E := strE) (cs := [sv sC]) 1 [sC] rfl (by decide) (fun _ _ _ => ⟨_, _, rfl, ⟨rfl, okS1 _⟩, rfl⟩); have h7 := (h6.persist.alloc (.cells #[.slice (some ⟨w4.heap.size, 0, none⟩) 2 2, .slice (some ⟨w4.heap.size + 1, 0, none⟩) 1 1] 24)); simp only [World.size_alloc] at h7; have h8 := h7.rowsN (E := strE.in) (cs := [.slice (some ⟨w4.heap.size, 0, none⟩) 2 2, .slice (some ⟨w4.heap.size + 1, 0, none⟩) 1 1]) 2 [[sA, sB], [sC]] rfl (by decide) (fun _ _ hs => ⟨_, _, rfl, ⟨_, rfl, hs.sl_mem mem2⟩, ⟨_, _, rfl, ⟨_, rfl, hs.sl_mem mem1⟩, rfl⟩⟩); have H8 := hide h8.persist; clear h4 h5 h6 h7 h8 H3 hinc hmem)
    | (go_at_call 14; refine (all_calls H8.out mem3 mem0).mono ?_; rintro x w9 ⟨rfl, n9, rfl⟩; rw [decide_eq_true rfl]; have H9 := hide (H8.out.drop.drop.drop.drop.drewN n9); clear H8))
  go_ret
  exact ⟨rfl, H9.out⟩
end Go.Proofs.Ytmebmgbjpbapjaa
