/-
  deadboltlaw6: Few, All.
-/
import Derived.Test.YtmebmgbjpbapjaaP1
namespace Go.Proofs.Ytmebmgbjpbapjaa
open Go.RowKit Go.Maps Go.MapKept
variable {b : Env} {L : List HP} {w : World}

theorem few_calls (h : St b L w) {v : Value} (l : Raws) (hm : HP.sl rawE v l.toL ∈ L) : Calls Try.prog 18 #[v] w fun x w' => x = .returned (.bool (fewR l)) ∧ ∃ n, w' = w.drewN n := by
  have C0 := gsize_calls l b L w v 0 h hm (by omega)
  rw [show ((0 : Nat) : Int) = 0 from rfl] at C0
  have C := hide C0
  clear C0
  have HF : Hid (fewR l = decide (szR 0 l ≤ 40)) := hide rfl
  clear h hm
  generalize szR 0 l = s at C HF
  go_enter Try.func18, Try.ntmps18
  go_wp2_with (go_at_call 41; with_reducible refine C.out.mono ?_; rintro x w1 ⟨rfl, n, rfl⟩)
  all_goals
    go_ret
    exact ⟨by rw [HF.out]; rfl, n, rfl⟩
def allR (a b c d : Raws) : Bool := fewR a && fewR b && fewR c && fewR d
set_option maxRecDepth 100000 in
set_option maxHeartbeats 2000000 in
theorem all6_calls (h : St b L w) {v1 v2 v3 v4 : Value} (l1 l2 l3 l4 : Raws) (h1 : HP.sl rawE v1 l1.toL ∈ L) (h2 : HP.sl rawE v2 l2.toL ∈ L) (h3 : HP.sl rawE v3 l3.toL ∈ L) (h4 : HP.sl rawE v4 l4.toL ∈ L) :
    Calls Try.prog 24 #[v1, v2, v3, v4] w fun x w' => x = .returned (.bool (allR l1 l2 l3 l4)) ∧ ∃ n, w' = w.drewN n := by
  have C1 := hide (few_calls h l1 h1)
  have C2 := hide (fun n => few_calls (h.drewN n) l2 h2)
  have C3 := hide (fun n => few_calls (h.drewN n) l3 h3)
  have C4 := hide (fun n => few_calls (h.drewN n) l4 h4)
  have HQ : Hid (allR l1 l2 l3 l4 = (fewR l1 && fewR l2 && fewR l3 && fewR l4)) := hide rfl
  clear h h1 h2 h3 h4
  generalize fewR l1 = f1 at C1 HQ
  generalize fewR l2 = f2 at C2 HQ
  generalize fewR l3 = f3 at C3 HQ
  generalize fewR l4 = f4 at C4 HQ
  cases f1 <;> cases f2 <;> cases f3 <;> cases f4
  all_goals
    go_enter Try.func24, Try.ntmps24
    go_wp2_with (first
      | (go_at_call 18; with_reducible refine C1.out.mono ?_; rintro x w1 ⟨rfl, n1, rfl⟩; clear C1)
      | (go_at_call 18; with_reducible refine (C2.out _).mono ?_; rintro x w1 ⟨rfl, n2, rfl⟩; clear C2)
      | (go_at_call 18; with_reducible refine (C3.out _).mono ?_; rintro x w1 ⟨rfl, n3, rfl⟩; clear C3)
      | (go_at_call 18; with_reducible refine (C4.out _).mono ?_; rintro x w1 ⟨rfl, n4, rfl⟩; clear C4))
    go_ret
    exact ⟨by rw [HQ.out]; rfl, _, rfl⟩
end Go.Proofs.Ytmebmgbjpbapjaa
