/-
  deadboltref8: In, Same, All; package slices: Index, Contains.
-/
import Derived.Test.YtmebmgbjpbapjaaGt
import Derived.Deep.QuietTactic
import Derived.BigQuiet
namespace Go.Proofs.Ytmebmgbjpbapjaa
open Go.RowKit Go.Maps Go.MapKept
variable {b : Env} {L : List HP} {w : World}

theorem not_take_succ {l : List Str} {s : Str} {k : Nat} (hk : k < l.length) (hn : s ∉ l.take k) (hne : (l[k] == s) = false) : s ∉ l.take (k + 1) := by
  rw [List.take_succ_eq_append_getElem hk, List.mem_append]
  rintro (h | h)
  · exact hn h
  · simp at h; subst h; simp at hne

def InAt (l : List Str) (s : Str) (w : World) (i : Value) (wr : World) : Prop := ∃ k : Nat, k ≤ l.length ∧ i = .int .i64 k ∧ w = wr ∧ s ∉ l.take k

theorem in_calls (h : St b L w) {v : Value} {l : List Str} (hm : Reads strE L v l) (s : Str) : Calls Try.prog 17 #[v, sv s] w fun x w' => x = .returned (.bool (decide (s ∈ l))) ∧ w = w' := by
  obtain ⟨base, cap, rfl, hc1, hc2⟩ := hm.form h
  have hm2 : (l.length : Int) ≤ 9223372036854775807 := by unfold maxLen at hc2; omega
  have H := hide h
  have HM := hide hm
  clear h hm hc2
  go_enter Try.func17, Try.ntmps17
  go_wp2_with fail
  go_loopw [5] (fun i wr => InAt l s w i wr) (fun i _ => l.length - (intOf i).toNat)
  case atStart => exact ⟨0, by omega, rfl, rfl, by simp⟩
  case round =>
    obtain ⟨k, hk, rfl, rfl, hn⟩ := hrel
    have HN := hide hn
    clear hn
    by_cases hlt : k < l.length
    · obtain ⟨g, o, rfl⟩ := HM.out.base H.out (by omega) Nat.one_pos
      have hc := (HM.out.sc_at H.out hlt).1
      go_wp2_with fail
      · have he : (l[k] == s) = true := by assumption
        have hmem : s ∈ l := by rw [← eq_of_beq he]; exact List.getElem_mem hlt
        go_ret
        exact ⟨by simp [hmem], rfl⟩
      · have he : (l[k] == s) = false := by assumption
        go_roundw
        case rel => exact ⟨k + 1, by omega, by go_num, rfl, not_take_succ hlt HN.out he⟩
        case measure => simp [intOf]; omega
    · have hnm := HN.out
      rw [List.take_of_length_le (by omega)] at hnm
      have HNM := hide hnm
      clear hnm
      go_wp2_with fail
      go_ret
      exact ⟨by simp [HNM.out], rfl⟩

def SameAt (xs ys : List Str) (w : World) (i : Value) (wr : World) : Prop := ∃ k n : Nat, k ≤ xs.length ∧ i = .int .i64 k ∧ wr = w.drewN n ∧ xs.take k = ys.take k

theorem take_eq_succ {α : Type} {xs ys : List α} {k : Nat} (h1 : k < xs.length) (h2 : k < ys.length) (hn : xs.take k = ys.take k) (he : xs[k] = ys[k]) : xs.take (k + 1) = ys.take (k + 1) := by
  rw [List.take_succ_eq_append_getElem h1, List.take_succ_eq_append_getElem h2, hn, he]

theorem same_calls (h : St b L w) {va vb : Value} {xs ys : List Str} (ha : Reads strE L va xs) (hb : Reads strE L vb ys) : Calls Try.prog 21 #[va, vb] w fun x w' => x = .returned (.bool (decide (xs = ys))) ∧ ∃ n, w' = w.drewN n := by
  obtain ⟨ba, ca, rfl, _, hc2⟩ := ha.form h
  obtain ⟨bb, cb, rfl, _, _⟩ := hb.form h
  have hm2 : (xs.length : Int) ≤ 9223372036854775807 := by unfold maxLen at hc2; omega
  have H := hide h
  have HA := hide ha
  have HB := hide hb
  clear h ha hb hc2
  by_cases hl : xs.length = ys.length
  · have hl1 : xs.length ≤ ys.length := by omega
    have hl2 : ys.length ≤ xs.length := by omega
    clear hl
    go_enter Try.func21, Try.ntmps21
    go_wp2_with fail
    go_loopw [5] (fun i wr => SameAt xs ys w i wr) (fun i _ => xs.length - (intOf i).toNat)
    case atStart => exact ⟨0, 0, by omega, rfl, rfl, by simp⟩
    case round =>
      obtain ⟨k, n, hk, rfl, rfl, hn⟩ := hrel
      have HN := hide hn
      clear hn
      by_cases hlt : k < xs.length
      · have hlt2 : k < ys.length := by omega
        have hlt1' : (k : Int) < xs.length := by omega
        have hlt2' : (k : Int) < ys.length := by omega
        obtain ⟨ga, oa, rfl⟩ := HA.out.base H.out (by omega) Nat.one_pos
        obtain ⟨gb, ob, rfl⟩ := HB.out.base H.out (by omega) Nat.one_pos
        have hc := (HA.out.sc_at H.out hlt).1
        have hd := (HB.out.sc_at H.out hlt2).1
        go_wp2_with fail
        go_quiet (fail)
        go_wp2_with fail
        · have he : (!xs[k] == ys[k]) = true := by assumption
          have hne : xs ≠ ys := by rintro rfl; simp at he
          go_ret
          exact ⟨by simp [hne], _, World.drewN_drewN ..⟩
        · have he : (!xs[k] == ys[k]) = false := by assumption
          go_roundw
          case rel => exact ⟨k + 1, _, by omega, by go_num, rfl, take_eq_succ hlt hlt2 HN.out (by simpa using he)⟩
          case measure => simp [intOf]; omega
      · have hnm := HN.out
        rw [List.take_of_length_le (by omega), List.take_of_length_le (by omega)] at hnm
        have HNM := hide hnm
        clear hnm
        go_wp2_with fail
        go_ret
        exact ⟨by simp [HNM.out], _, rfl⟩
  · have hne : xs ≠ ys := by rintro rfl; exact hl rfl
    have HNE := hide hne
    have hl' : ((xs.length : Int) != ys.length) = true := by simp; omega
    clear hne hl
    go_enter Try.func21, Try.ntmps21
    go_wp2_with fail
    go_ret
    exact ⟨by simp [HNE.out], 0, rfl⟩

def IdxAt (l : List Str) (s : Str) (w : World) (i : Value) (wr : World) : Prop := ∃ k : Nat, k ≤ l.length ∧ i = .int .i64 k ∧ w = wr ∧ s ∉ l.take k

theorem index_calls (h : St b L w) {v : Value} {l : List Str} (hm : Reads strE L v l) (s : Str) : Calls Try.prog 60 #[v, sv s] w fun x w' => ∃ n : Int, x = .returned (.int .i64 n) ∧ decide (n ≥ 0) = decide (s ∈ l) ∧ w = w' := by
  obtain ⟨base, cap, rfl, hc1, hc2⟩ := hm.form h
  have hm2 : (l.length : Int) ≤ 9223372036854775807 := by unfold maxLen at hc2; omega
  have H := hide h
  have HM := hide hm
  clear h hm hc2
  go_enter Try.func60, Try.ntmps60
  go_wp2_with fail
  go_loopw [8] (fun i wr => IdxAt l s w i wr) (fun i _ => l.length - (intOf i).toNat)
  case atStart => exact ⟨0, by omega, rfl, rfl, by simp⟩
  case round =>
    obtain ⟨k, hk, rfl, rfl, hn⟩ := hrel
    have HN := hide hn
    clear hn
    by_cases hlt : k < l.length
    · obtain ⟨g, o, rfl⟩ := HM.out.base H.out (by omega) Nat.one_pos
      have hc := (HM.out.sc_at H.out hlt).1
      go_wp2_with fail
      · have he : (s == l[k]) = true := by assumption
        have hmem : s ∈ l := by rw [eq_of_beq he]; exact List.getElem_mem hlt
        go_ret
        exact ⟨(k : Int), rfl, by simp [hmem], rfl⟩
      · have he : (s == l[k]) = false := by assumption
        go_roundw
        case rel => exact ⟨k + 1, by omega, by go_num, rfl, not_take_succ hlt HN.out (by rw [Bool.beq_comm]; exact he)⟩
        case measure => simp [intOf]; omega
    · have hnm := HN.out
      rw [List.take_of_length_le (by omega)] at hnm
      have HNM := hide hnm
      clear hnm
      go_wp2_with fail
      go_ret
      exact ⟨-1, rfl, by simp [HNM.out], rfl⟩

theorem contains_calls (h : St b L w) {v : Value} {l : List Str} (hm : Reads strE L v l) (s : Str) : Calls Try.prog 47 #[v, sv s] w fun x w' => x = .returned (.bool (decide (s ∈ l))) ∧ w = w' := by
  have H := hide h
  have HM := hide hm
  clear h hm
  go_enter Try.func47, Try.ntmps47
  go_wp2_with (go_at_call 60; refine (index_calls H.out HM.out s).mono ?_; rintro x w1 ⟨n, rfl, hn, rfl⟩; have HN := hide hn; clear hn)
  go_ret
  exact ⟨by rw [← HN.out]; rfl, rfl⟩
end Go.Proofs.Ytmebmgbjpbapjaa
