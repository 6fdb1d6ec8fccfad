/-
  deadboltref8: All, Parts.
-/
import Derived.Test.YtmebmgbjpbapjaaGe
namespace Go.Proofs.Ytmebmgbjpbapjaa
open Go.RowKit Go.Maps Go.MapKept
variable {b : Env} {L : List HP} {w : World}

theorem St.in_at {α : Type} {E : El α} {g o n cap i : Nat} {xss : List (List α)} (h : St b L w) (hm : HP.sl E.in (.slice (some ⟨g, o, none⟩) n cap) xss ∈ L) (hi : i < xss.length) : ∃ v, w.cell? ⟨g, o + i, none⟩ = some v ∧ St b (HP.sl E v xss[i] :: L) w := by
  obtain ⟨cs, h1⟩ := h.elem hm (List.getElem?_eq_getElem hi) Nat.one_pos
  obtain ⟨e, hl, hs⟩ := h1
  obtain ⟨_, hr, c, t, fz, h2, h3⟩ := hs.mem_p mem0
  obtain ⟨v, rfl, hv⟩ : ∃ v, cs = [v] ∧ E.sl e.h v xss[i] := hr
  refine ⟨v, ?_, e, hl, hs.drop.lay (fun _ => hv)⟩
  have := h3 0 v rfl
  rw [cell_of (hs.fixed _ _ h2)]
  have e1 : o + i * E.in.sz + 0 = o + i := by show o + i * 1 + 0 = o + i; omega
  rw [e1] at this
  exact this

def AllAt (xs ys : List (List Str)) (w : World) (i : Value) (wr : World) : Prop := ∃ k n : Nat, k ≤ xs.length ∧ i = .int .i64 k ∧ wr = w.drewN n ∧ xs.take k = ys.take k

set_option maxRecDepth 100000 in
theorem all_calls (h : St b L w) {va vb : Value} {xs ys : List (List Str)} (ha : HP.sl strE.in va xs ∈ L) (hb : HP.sl strE.in vb ys ∈ L) : Calls Try.prog 14 #[va, vb] w fun x w' => x = .returned (.bool (decide (xs = ys))) ∧ ∃ n, w' = w.drewN n := by
  obtain ⟨ba, ca, rfl, hca, hc2⟩ := h.sl_form ha
  obtain ⟨bb, cb, rfl, hcb, hcb2⟩ := h.sl_form hb
  have hm2 : (xs.length : Int) ≤ 9223372036854775807 := by unfold maxLen at hc2; omega
  have H := hide h
  have HA := hide ha
  have HB := hide hb
  clear h ha hb hc2 hca hcb hcb2
  by_cases hl : xs.length = ys.length
  · have hl1 : xs.length ≤ ys.length := by omega
    have hl2 : ys.length ≤ xs.length := by omega
    have hlb : ((xs.length : Int) != ys.length) = false := by simp; omega
    clear hl
    go_enter Try.func14, Try.ntmps14
    go_wp2_with fail
    go_loopw [5] (fun i wr => AllAt xs ys w i wr) (fun i _ => xs.length - (intOf i).toNat)
    case atStart => exact ⟨0, 0, by omega, rfl, rfl, by simp⟩
    case round =>
      obtain ⟨k, n, hk, rfl, rfl, hn⟩ := hrel
      have HN := hide hn
      clear hn
      by_cases hlt : k < xs.length
      · have hlt2 : k < ys.length := by omega
        have hlt1' : (k : Int) < xs.length := by omega
        have hlt2' : (k : Int) < ys.length := by omega
        obtain ⟨ga, oa, rfl⟩ := H.out.sl_base HA.out (by omega) Nat.one_pos
        obtain ⟨gb, ob, rfl⟩ := H.out.sl_base HB.out (by omega) Nat.one_pos
        obtain ⟨ua, hc, h1⟩ := H.out.in_at HA.out hlt
        obtain ⟨ub, hd, h2⟩ := h1.in_at (up1 HB.out) hlt2
        have H2 := hide h2
        clear h1 h2
        by_cases he : xs[k] = ys[k]
        · have HD := hide (decide_eq_true he)
          have HE := hide he
          clear he
          go_wp2_with fail
          go_quiet ((go_at_call 21; refine (same_calls (H2.out.drewN _) (Reads.of_sl mem1) (Reads.of_sl mem0)).mono ?_; rintro x w' ⟨rfl, m, rfl⟩; exact ⟨by rw [HD.out], _, by rw [World.drewN_drewN, Nat.add_assoc]⟩))
          go_wp2_with fail
          go_roundw
          case rel => exact ⟨k + 1, _, by omega, by go_num, rfl, take_eq_succ hlt hlt2 HN.out HE.out⟩
          case measure => simp [intOf]; omega
        · have HD := hide (decide_eq_false he)
          have hne : xs ≠ ys := by rintro rfl; exact he rfl
          have HNE := hide hne
          clear he hne
          go_wp2_with fail
          go_quiet ((go_at_call 21; refine (same_calls (H2.out.drewN _) (Reads.of_sl mem1) (Reads.of_sl mem0)).mono ?_; rintro x w' ⟨rfl, m, rfl⟩; exact ⟨by rw [HD.out], _, by rw [World.drewN_drewN, Nat.add_assoc]⟩))
          go_wp2_with fail
          go_ret
          exact ⟨by simp [HNE.out], _, World.drewN_drewN ..⟩
      · have hnm := HN.out
        rw [List.take_of_length_le (by omega), List.take_of_length_le (by omega)] at hnm
        have HNM := hide hnm
        clear hnm
        go_wp2_with fail
        go_ret
        exact ⟨by simp [HNM.out], _, rfl⟩
  · have hne : xs ≠ ys := by rintro rfl; exact hl rfl
    have HNE := hide hne
    have hl' : ((xs.length : Int) != ys.length) = true := by simp; omega
    clear hne hl
    go_enter Try.func14, Try.ntmps14
    go_wp2_with fail
    go_ret
    exact ⟨by simp [HNE.out], 0, rfl⟩
end Go.Proofs.Ytmebmgbjpbapjaa
