/-
  deadboltref8: With.
-/
import Derived.Test.YtmebmgbjpbapjaaG1
import Derived.Deep.RegionLaw
namespace Go.Proofs.Ytmebmgbjpbapjaa
open Go.RowKit Go.Maps Go.MapKept
variable {b : Env} {L : List HP} {w : World}

/-- A set with one more. -/
def insS (l : List Str) (s : Str) : List Str := if s ∈ l then l else l.takeWhile (fun x => Op.bytesLess x s) ++ s :: l.dropWhile (fun x => Op.bytesLess x s)

theorem while_at {α : Type} (p : α → Bool) : ∀ (l : List α) (k : Nat), (∀ x ∈ l.take k, p x = true) → (∀ h : k < l.length, p l[k] = false) → k ≤ l.length → l.takeWhile p = l.take k ∧ l.dropWhile p = l.drop k
  | [], k, _, _, hk => by simp at hk; subst hk; simp
  | x :: l, 0, _, h, _ => by have := h (by simp); simp at this; simp [this]
  | x :: l, k + 1, h1, h2, hk => by
    have hx : p x = true := h1 x (by simp)
    obtain ⟨i1, i2⟩ := while_at p l k (fun y hy => h1 y (by simp [hy])) (fun h => by have := h2 (by simp; exact h); simpa using this) (by simpa using hk)
    simp [hx, i1, i2]

def WithAt (l : List Str) (s : Str) (w : World) (i : Value) (wr : World) : Prop := ∃ k : Nat, k ≤ l.length ∧ i = .int .i64 k ∧ w = wr ∧ ∀ x ∈ l.take k, Op.bytesLess x s = true

theorem with_take {l : List Str} {s : Str} {k : Nat} (hk : k < l.length) (hn : ∀ x ∈ l.take k, Op.bytesLess x s = true) (he : Op.bytesLess l[k] s = true) : ∀ x ∈ l.take (k + 1), Op.bytesLess x s = true := by
  intro x hx
  rw [List.take_succ_eq_append_getElem hk, List.mem_append] at hx
  rcases hx with h | h
  · exact hn x h
  · simp at h; subst h; exact he

set_option maxRecDepth 100000 in
set_option maxHeartbeats 1000000 in
theorem with_calls (h : St b L w) {v : Value} {l : List Str} (hm : HP.sl strE v l ∈ L) (s : Str) (hs : okStr s) (hlen : l.length ≤ 1000000) : Calls Try.prog 27 #[v, sv s] w fun x w' => ∃ v', x = .returned v' ∧ St b (HP.sl strE v' (insS l s) :: L) w' := by
  obtain ⟨base, cap, rfl, hc1, hc2⟩ := h.sl_form hm
  have H := hide h
  have HM := hide hm
  have HS := hide hs
  clear h hm hc2 hs
  by_cases hin : s ∈ l
  · have HI := hide hin
    have HQ : Hid (insS l s = l) := hide (if_pos hin)
    clear hin
    go_enter Try.func27, Try.ntmps27
    go_wp2_with (go_at_call 17; refine (in_calls H.out (Reads.of_sl HM.out) s).mono ?_; rintro x w1 ⟨rfl, rfl⟩; rw [decide_eq_true HI.out])
    go_ret
    exact ⟨_, rfl, by rw [HQ.out]; exact H.out.sl_copy HM.out⟩
  · have HI := hide hin
    clear hin
    go_enter Try.func27, Try.ntmps27
    go_wp2_with (go_at_call 17; refine (in_calls H.out (Reads.of_sl HM.out) s).mono ?_; rintro x w1 ⟨rfl, rfl⟩; rw [decide_eq_false HI.out])
    go_loopw [5] (fun i wr => WithAt l s w i wr) (fun i _ => l.length - (intOf i).toNat)
    case atStart => exact ⟨0, by omega, rfl, rfl, by simp⟩
    case round =>
      obtain ⟨k, hk, rfl, rfl, hn⟩ := hrel
      have HN := hide hn
      clear hn
      obtain ⟨b1, c1, hs1, h1⟩ := H.out.slice_to slStr HM.out k hk .i64
      obtain ⟨b2, c2, hs2, h2⟩ := h1.slice_from slStr (up1 HM.out) k hk .i64
      have H2 := hide h2
      have HO : Hid (∀ h : Frag, strE.rd h s [sv s]) := hide (fun _ => ⟨rfl, HS.out⟩)
      clear h1 h2
      by_cases hlt : k < l.length
      · obtain ⟨g, o, rfl⟩ := H.out.sl_base HM.out (by omega) Nat.one_pos
        have hc := (H.out.sc_at HM.out hlt).1
        cases hb : Op.bytesLess l[k] s with
        | true =>
          go_wp2_with fail
          go_roundw
          case rel => exact ⟨k + 1, by omega, by go_num, rfl, with_take hlt HN.out hb⟩
          case measure => simp [intOf]; omega
        | false =>
          have HQ : Hid (insS l s = ([] ++ l.take k ++ [s]) ++ l.drop k) := hide (by
            obtain ⟨e1, e2⟩ := while_at (fun x => Op.bytesLess x s) l k HN.out (fun _ => hb) hk
            unfold insS; rw [if_neg HI.out, e1, e2]; simp)
          go_wp2_with fail
          go_region_law (first
            | (refine step_append_st rfl (.tmp 24) (.tmp 27) slStr rfl ((H2.out.drew.alloc _).rows0 strE) (Src.of_sl mem2) rfl rfl ?_ ?_ ?_; (simp; unfold maxLen; omega); (simp; omega); intro vb n4 vc w4 hn4 h4; (try simp only [World.size_alloc, World.size_drew] at h4); have H4 := hide h4; clear h4 H2 hn4)
            | (refine step_append_st rfl (.tmp 24) (.tmp 27) slStr rfl (((H2.out.drew.alloc _).alloc _).f1.rows0 strE) (Src.of_sl mem3) rfl rfl ?_ ?_ ?_; (simp; unfold maxLen; omega); (simp; omega); intro vb n4 vc w4 hn4 h4; (try simp only [World.size_alloc, World.size_drew] at h4); have H4 := hide h4; clear h4 H2 hn4)
            | (have q := (H2.out.drew.alloc (.cells #[sv s] 9)).alloc (.cells #[] 9); simp only [World.size_alloc, World.size_drew] at q; refine step_append_st rfl (.tmp 24) (.tmp 27) slStr rfl (q.rows0 strE) (Src.of_sl mem3) rfl rfl ?_ ?_ ?_; (simp; unfold maxLen; omega); (simp; omega); intro vb n4 vc w4 hn4 h4; (try simp only [World.size_alloc, World.size_drew] at h4); have H4 := hide h4; clear h4 H2 hn4)
            | (refine step_append_st rfl (.tmp 28) (.tmp 30) slStr rfl ((H4.out.alloc _).rows1 s (fun e _ _ => HO.out e.h)).f1 (Src.of_rows mem1) rfl rfl ?_ ?_ ?_; (simp; unfold maxLen; omega); (simp; omega); intro vb n5 vc w5 hn5 h5; have H5 := hide h5; clear h5 H4 hn5)
            | (refine step_append_st rfl (.tmp 28) (.tmp 30) slStr rfl ((H4.out.f1.rows1 s (fun e _ _ => HO.out e.h)).f1) (Src.of_rows mem1) rfl rfl ?_ ?_ ?_; (simp; unfold maxLen; omega); (simp; omega); intro vb n5 vc w5 hn5 h5; have H5 := hide h5; clear h5 H4 hn5)
            | (refine step_append_st rfl (.tmp 31) (.tmp 34) slStr rfl H5.out (Src.of_sl mem2) rfl rfl ?_ ?_ ?_; (simp; unfold maxLen; omega); (simp; omega); intro vb n6 vc w6 hn6 h6; have H6 := hide h6.persist.d1.d1.d1; clear h6 H5 hn6))
          all_goals (go_wp2_with fail; go_ret; exact ⟨_, rfl, by rw [HQ.out]; exact H6.out⟩)
      · have HQ : Hid (insS l s = ([] ++ l.take k ++ [s]) ++ l.drop k) := hide (by
          obtain ⟨e1, e2⟩ := while_at (fun x => Op.bytesLess x s) l k HN.out (fun h => absurd h hlt) hk
          unfold insS; rw [if_neg HI.out, e1, e2]; simp)
        go_wp2_with fail
        go_region_law (first
          | (refine step_append_st rfl (.tmp 24) (.tmp 27) slStr rfl ((H2.out.drew.alloc _).rows0 strE) (Src.of_sl mem2) rfl rfl ?_ ?_ ?_; (simp; unfold maxLen; omega); (simp; omega); intro vb n4 vc w4 hn4 h4; (try simp only [World.size_alloc, World.size_drew] at h4); have H4 := hide h4; clear h4 H2 hn4)
          | (refine step_append_st rfl (.tmp 24) (.tmp 27) slStr rfl (((H2.out.drew.alloc _).alloc _).f1.rows0 strE) (Src.of_sl mem3) rfl rfl ?_ ?_ ?_; (simp; unfold maxLen; omega); (simp; omega); intro vb n4 vc w4 hn4 h4; (try simp only [World.size_alloc, World.size_drew] at h4); have H4 := hide h4; clear h4 H2 hn4)
          | (have q := (H2.out.drew.alloc (.cells #[sv s] 9)).alloc (.cells #[] 9); simp only [World.size_alloc, World.size_drew] at q; refine step_append_st rfl (.tmp 24) (.tmp 27) slStr rfl (q.rows0 strE) (Src.of_sl mem3) rfl rfl ?_ ?_ ?_; (simp; unfold maxLen; omega); (simp; omega); intro vb n4 vc w4 hn4 h4; (try simp only [World.size_alloc, World.size_drew] at h4); have H4 := hide h4; clear h4 H2 hn4)
          | (refine step_append_st rfl (.tmp 28) (.tmp 30) slStr rfl ((H4.out.alloc _).rows1 s (fun e _ _ => HO.out e.h)).f1 (Src.of_rows mem1) rfl rfl ?_ ?_ ?_; (simp; unfold maxLen; omega); (simp; omega); intro vb n5 vc w5 hn5 h5; have H5 := hide h5; clear h5 H4 hn5)
          | (refine step_append_st rfl (.tmp 28) (.tmp 30) slStr rfl ((H4.out.f1.rows1 s (fun e _ _ => HO.out e.h)).f1) (Src.of_rows mem1) rfl rfl ?_ ?_ ?_; (simp; unfold maxLen; omega); (simp; omega); intro vb n5 vc w5 hn5 h5; have H5 := hide h5; clear h5 H4 hn5)
          | (refine step_append_st rfl (.tmp 31) (.tmp 34) slStr rfl H5.out (Src.of_sl mem2) rfl rfl ?_ ?_ ?_; (simp; unfold maxLen; omega); (simp; omega); intro vb n6 vc w6 hn6 h6; have H6 := hide h6.persist.d1.d1.d1; clear h6 H5 hn6))
        all_goals (go_wp2_with fail; go_ret; exact ⟨_, rfl, by rw [HQ.out]; exact H6.out⟩)
end Go.Proofs.Ytmebmgbjpbapjaa
