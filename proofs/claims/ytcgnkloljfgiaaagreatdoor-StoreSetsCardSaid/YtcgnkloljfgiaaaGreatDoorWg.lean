/-
  package sect: same.
-/
import Derived.Test.YtcgnkloljfgiaaaGreatDoorWf
namespace Go.Proofs.YtcgnkloljfgiaaaGreatDoor
open Go.RowKit Go.Maps Go.MapKept
variable {b : Env} {L : List HP} {w : World}
def sameR (p q : PartR) : Bool := decide (p.gen = q.gen) && decide (p.rc = q.rc) && decide (p.n = q.n) && decide (p.of = q.of) && decide (p.data = q.data)
theorem sameR_iff (p q : PartR) : sameR p q = true ↔ p = q := by
  unfold sameR
  obtain ⟨a1, a2, a3, a4, a5⟩ := p
  obtain ⟨b1, b2, b3, b4, b5⟩ := q
  simp only [Bool.and_eq_true, decide_eq_true_eq, PartR.mk.injEq, and_assoc]
instance : DecidableEq PartR := fun p q => if h : sameR p q = true then isTrue ((sameR_iff p q).1 h) else isFalse (fun e => h ((sameR_iff p q).2 e))
set_option linter.unusedSimpArgs false in
set_option maxRecDepth 100000 in
set_option maxHeartbeats 4000000 in
theorem same_calls {p q : PartR} {va vb : Value} (h : St b L w) (ha : HP.sl byteE va p.data ∈ L) (hb : HP.sl byteE vb q.data ∈ L) :
    Calls Tryz.prog 117 #[.agg #[.int .i64 (p.gen : Nat), .int .i64 (p.rc : Nat), .int .i64 (p.n : Nat), .int .i64 (p.of : Nat), va], .agg #[.int .i64 (q.gen : Nat), .int .i64 (q.rc : Nat), .int .i64 (q.n : Nat), .int .i64 (q.of : Nat), vb]] w fun x w' => x = .returned (.bool (sameR p q)) ∧ St b L w' := by
  have H := hide h
  have HA := hide ha
  have HB := hide hb
  clear h ha hb
  by_cases e0 : p.gen = q.gen
  · have b0 : ((p.gen : Int) == (q.gen : Int)) = true := by rw [e0]; simp
    by_cases e1 : p.rc = q.rc
    · have b1 : ((p.rc : Int) == (q.rc : Int)) = true := by rw [e1]; simp
      by_cases e2 : p.n = q.n
      · have b2 : ((p.n : Int) == (q.n : Int)) = true := by rw [e2]; simp
        by_cases e3 : p.of = q.of
        · have b3 : ((p.of : Int) == (q.of : Int)) = true := by rw [e3]; simp
          have HS : Hid (sameR p q = decide (p.data = q.data)) := hide (by unfold sameR; rw [decide_eq_true e0, decide_eq_true e1, decide_eq_true e2, decide_eq_true e3]; rfl)
          clear e0 e1 e2 e3
          go_enter Tryz.func117, Tryz.ntmps117
          go_wp2_with (first
            | ((with_reducible refine wpList_box_st (cs := [.int .i64 (p.gen : Nat), .int .i64 (p.rc : Nat), .int .i64 (p.n : Nat), .int .i64 (p.of : Nat), va]) rfl (.tmp 0) rfl rfl H.out ?_); intro g1 w1 h1; have H1 := hide h1; clear h1 H)
            | ((with_reducible refine wpList_box_st (cs := [.int .i64 (q.gen : Nat), .int .i64 (q.rc : Nat), .int .i64 (q.n : Nat), .int .i64 (q.of : Nat), vb]) rfl (.tmp 1) rfl rfl H1.out ?_); intro g2 w2 h2; have x0 : w2.cell? ⟨g1, 0, none⟩ = some (.int .i64 (p.gen : Nat)) := h2.blk_cell mem1 0; have y0 : w2.cell? ⟨g2, 0, none⟩ = some (.int .i64 (q.gen : Nat)) := h2.blk_cell mem0 0; have x1 : w2.cell? ⟨g1, 1, none⟩ = some (.int .i64 (p.rc : Nat)) := h2.blk_cell mem1 1; have y1 : w2.cell? ⟨g2, 1, none⟩ = some (.int .i64 (q.rc : Nat)) := h2.blk_cell mem0 1; have x2 : w2.cell? ⟨g1, 2, none⟩ = some (.int .i64 (p.n : Nat)) := h2.blk_cell mem1 2; have y2 : w2.cell? ⟨g2, 2, none⟩ = some (.int .i64 (q.n : Nat)) := h2.blk_cell mem0 2; have x3 : w2.cell? ⟨g1, 3, none⟩ = some (.int .i64 (p.of : Nat)) := h2.blk_cell mem1 3; have y3 : w2.cell? ⟨g2, 3, none⟩ = some (.int .i64 (q.of : Nat)) := h2.blk_cell mem0 3; have x4 : w2.cell? ⟨g1, 4, none⟩ = some (va) := h2.blk_cell mem1 4; have y4 : w2.cell? ⟨g2, 4, none⟩ = some (vb) := h2.blk_cell mem0 4; have H2 := hide h2; clear h2 H1)
            | (go_at_call 116; refine (bequal_calls H2.out (Reads.of_sl (up2 HA.out)) (Reads.of_sl (up2 HB.out))).mono ?_; rintro z w3 ⟨rfl, hw3⟩; subst hw3))
          go_ret
          exact ⟨by rw [HS.out]; rfl, H2.out.drop.drop⟩
        · have b3 : ((p.of : Int) == (q.of : Int)) = false := by rw [beq_eq_false_iff_ne]; omega
          have HS : Hid (sameR p q = false) := hide (by unfold sameR; rw [decide_eq_false e3]; simp)
          clear e0 e1 e2 e3
          go_enter Tryz.func117, Tryz.ntmps117
          go_wp2_with (first
            | ((with_reducible refine wpList_box_st (cs := [.int .i64 (p.gen : Nat), .int .i64 (p.rc : Nat), .int .i64 (p.n : Nat), .int .i64 (p.of : Nat), va]) rfl (.tmp 0) rfl rfl H.out ?_); intro g1 w1 h1; have H1 := hide h1; clear h1 H)
            | ((with_reducible refine wpList_box_st (cs := [.int .i64 (q.gen : Nat), .int .i64 (q.rc : Nat), .int .i64 (q.n : Nat), .int .i64 (q.of : Nat), vb]) rfl (.tmp 1) rfl rfl H1.out ?_); intro g2 w2 h2; have x0 : w2.cell? ⟨g1, 0, none⟩ = some (.int .i64 (p.gen : Nat)) := h2.blk_cell mem1 0; have y0 : w2.cell? ⟨g2, 0, none⟩ = some (.int .i64 (q.gen : Nat)) := h2.blk_cell mem0 0; have x1 : w2.cell? ⟨g1, 1, none⟩ = some (.int .i64 (p.rc : Nat)) := h2.blk_cell mem1 1; have y1 : w2.cell? ⟨g2, 1, none⟩ = some (.int .i64 (q.rc : Nat)) := h2.blk_cell mem0 1; have x2 : w2.cell? ⟨g1, 2, none⟩ = some (.int .i64 (p.n : Nat)) := h2.blk_cell mem1 2; have y2 : w2.cell? ⟨g2, 2, none⟩ = some (.int .i64 (q.n : Nat)) := h2.blk_cell mem0 2; have x3 : w2.cell? ⟨g1, 3, none⟩ = some (.int .i64 (p.of : Nat)) := h2.blk_cell mem1 3; have y3 : w2.cell? ⟨g2, 3, none⟩ = some (.int .i64 (q.of : Nat)) := h2.blk_cell mem0 3; have x4 : w2.cell? ⟨g1, 4, none⟩ = some (va) := h2.blk_cell mem1 4; have y4 : w2.cell? ⟨g2, 4, none⟩ = some (vb) := h2.blk_cell mem0 4; have H2 := hide h2; clear h2 H1))
          go_ret
          exact ⟨by rw [HS.out]; rfl, H2.out.drop.drop⟩
      · have b2 : ((p.n : Int) == (q.n : Int)) = false := by rw [beq_eq_false_iff_ne]; omega
        have HS : Hid (sameR p q = false) := hide (by unfold sameR; rw [decide_eq_false e2]; simp)
        clear e0 e1 e2
        go_enter Tryz.func117, Tryz.ntmps117
        go_wp2_with (first
          | ((with_reducible refine wpList_box_st (cs := [.int .i64 (p.gen : Nat), .int .i64 (p.rc : Nat), .int .i64 (p.n : Nat), .int .i64 (p.of : Nat), va]) rfl (.tmp 0) rfl rfl H.out ?_); intro g1 w1 h1; have H1 := hide h1; clear h1 H)
          | ((with_reducible refine wpList_box_st (cs := [.int .i64 (q.gen : Nat), .int .i64 (q.rc : Nat), .int .i64 (q.n : Nat), .int .i64 (q.of : Nat), vb]) rfl (.tmp 1) rfl rfl H1.out ?_); intro g2 w2 h2; have x0 : w2.cell? ⟨g1, 0, none⟩ = some (.int .i64 (p.gen : Nat)) := h2.blk_cell mem1 0; have y0 : w2.cell? ⟨g2, 0, none⟩ = some (.int .i64 (q.gen : Nat)) := h2.blk_cell mem0 0; have x1 : w2.cell? ⟨g1, 1, none⟩ = some (.int .i64 (p.rc : Nat)) := h2.blk_cell mem1 1; have y1 : w2.cell? ⟨g2, 1, none⟩ = some (.int .i64 (q.rc : Nat)) := h2.blk_cell mem0 1; have x2 : w2.cell? ⟨g1, 2, none⟩ = some (.int .i64 (p.n : Nat)) := h2.blk_cell mem1 2; have y2 : w2.cell? ⟨g2, 2, none⟩ = some (.int .i64 (q.n : Nat)) := h2.blk_cell mem0 2; have x3 : w2.cell? ⟨g1, 3, none⟩ = some (.int .i64 (p.of : Nat)) := h2.blk_cell mem1 3; have y3 : w2.cell? ⟨g2, 3, none⟩ = some (.int .i64 (q.of : Nat)) := h2.blk_cell mem0 3; have x4 : w2.cell? ⟨g1, 4, none⟩ = some (va) := h2.blk_cell mem1 4; have y4 : w2.cell? ⟨g2, 4, none⟩ = some (vb) := h2.blk_cell mem0 4; have H2 := hide h2; clear h2 H1))
        go_ret
        exact ⟨by rw [HS.out]; rfl, H2.out.drop.drop⟩
    · have b1 : ((p.rc : Int) == (q.rc : Int)) = false := by rw [beq_eq_false_iff_ne]; omega
      have HS : Hid (sameR p q = false) := hide (by unfold sameR; rw [decide_eq_false e1]; simp)
      clear e0 e1
      go_enter Tryz.func117, Tryz.ntmps117
      go_wp2_with (first
        | ((with_reducible refine wpList_box_st (cs := [.int .i64 (p.gen : Nat), .int .i64 (p.rc : Nat), .int .i64 (p.n : Nat), .int .i64 (p.of : Nat), va]) rfl (.tmp 0) rfl rfl H.out ?_); intro g1 w1 h1; have H1 := hide h1; clear h1 H)
        | ((with_reducible refine wpList_box_st (cs := [.int .i64 (q.gen : Nat), .int .i64 (q.rc : Nat), .int .i64 (q.n : Nat), .int .i64 (q.of : Nat), vb]) rfl (.tmp 1) rfl rfl H1.out ?_); intro g2 w2 h2; have x0 : w2.cell? ⟨g1, 0, none⟩ = some (.int .i64 (p.gen : Nat)) := h2.blk_cell mem1 0; have y0 : w2.cell? ⟨g2, 0, none⟩ = some (.int .i64 (q.gen : Nat)) := h2.blk_cell mem0 0; have x1 : w2.cell? ⟨g1, 1, none⟩ = some (.int .i64 (p.rc : Nat)) := h2.blk_cell mem1 1; have y1 : w2.cell? ⟨g2, 1, none⟩ = some (.int .i64 (q.rc : Nat)) := h2.blk_cell mem0 1; have x2 : w2.cell? ⟨g1, 2, none⟩ = some (.int .i64 (p.n : Nat)) := h2.blk_cell mem1 2; have y2 : w2.cell? ⟨g2, 2, none⟩ = some (.int .i64 (q.n : Nat)) := h2.blk_cell mem0 2; have x3 : w2.cell? ⟨g1, 3, none⟩ = some (.int .i64 (p.of : Nat)) := h2.blk_cell mem1 3; have y3 : w2.cell? ⟨g2, 3, none⟩ = some (.int .i64 (q.of : Nat)) := h2.blk_cell mem0 3; have x4 : w2.cell? ⟨g1, 4, none⟩ = some (va) := h2.blk_cell mem1 4; have y4 : w2.cell? ⟨g2, 4, none⟩ = some (vb) := h2.blk_cell mem0 4; have H2 := hide h2; clear h2 H1))
      go_ret
      exact ⟨by rw [HS.out]; rfl, H2.out.drop.drop⟩
  · have b0 : ((p.gen : Int) == (q.gen : Int)) = false := by rw [beq_eq_false_iff_ne]; omega
    have HS : Hid (sameR p q = false) := hide (by unfold sameR; rw [decide_eq_false e0]; simp)
    clear e0
    go_enter Tryz.func117, Tryz.ntmps117
    go_wp2_with (first
      | ((with_reducible refine wpList_box_st (cs := [.int .i64 (p.gen : Nat), .int .i64 (p.rc : Nat), .int .i64 (p.n : Nat), .int .i64 (p.of : Nat), va]) rfl (.tmp 0) rfl rfl H.out ?_); intro g1 w1 h1; have H1 := hide h1; clear h1 H)
      | ((with_reducible refine wpList_box_st (cs := [.int .i64 (q.gen : Nat), .int .i64 (q.rc : Nat), .int .i64 (q.n : Nat), .int .i64 (q.of : Nat), vb]) rfl (.tmp 1) rfl rfl H1.out ?_); intro g2 w2 h2; have x0 : w2.cell? ⟨g1, 0, none⟩ = some (.int .i64 (p.gen : Nat)) := h2.blk_cell mem1 0; have y0 : w2.cell? ⟨g2, 0, none⟩ = some (.int .i64 (q.gen : Nat)) := h2.blk_cell mem0 0; have x1 : w2.cell? ⟨g1, 1, none⟩ = some (.int .i64 (p.rc : Nat)) := h2.blk_cell mem1 1; have y1 : w2.cell? ⟨g2, 1, none⟩ = some (.int .i64 (q.rc : Nat)) := h2.blk_cell mem0 1; have x2 : w2.cell? ⟨g1, 2, none⟩ = some (.int .i64 (p.n : Nat)) := h2.blk_cell mem1 2; have y2 : w2.cell? ⟨g2, 2, none⟩ = some (.int .i64 (q.n : Nat)) := h2.blk_cell mem0 2; have x3 : w2.cell? ⟨g1, 3, none⟩ = some (.int .i64 (p.of : Nat)) := h2.blk_cell mem1 3; have y3 : w2.cell? ⟨g2, 3, none⟩ = some (.int .i64 (q.of : Nat)) := h2.blk_cell mem0 3; have x4 : w2.cell? ⟨g1, 4, none⟩ = some (va) := h2.blk_cell mem1 4; have y4 : w2.cell? ⟨g2, 4, none⟩ = some (vb) := h2.blk_cell mem0 4; have H2 := hide h2; clear h2 H1))
    go_ret
    exact ⟨by rw [HS.out]; rfl, H2.out.drop.drop⟩
end Go.Proofs.YtcgnkloljfgiaaaGreatDoor
