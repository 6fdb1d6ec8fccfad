/-
  No program in sight: in a region that draws its order a call that changes nothing, and tells the same in every world that is met, may be taken first.
-/
import Derived.Test.YtcgnkloljfgiaaaGreatDoorSo
import Derived.Deep.RegionHeldLaw
namespace Go.Proofs.YtcgnkloljfgiaaaGreatDoor
open Go.RowKit Go.Maps Go.MapKept

section
variable {P : Program} {ops : Array Oper} {Q : Exit → Act → World → Prop} {md : Region.Mode} {S : World → Prop}

/-- What an operation looks at is the same in both frames. -/
def Alike (ops : Array Oper) (o : Oper) (a a' : Act) : Prop := execOp a'.eval o = execOp a.eval o ∧ Region.wanted o (yielded ops a'.tmps) = Region.wanted o (yielded ops a.tmps)
/-- A call that only tells v, in each world that meets S. -/
def Tells (P : Program) (ops : Array Oper) (S : World → Prop) (o : Oper) (v : Value) (a : Act) : Prop :=
  Region.wanted o (yielded ops a.tmps) = true ∧ ∃ f args, ∀ w, S w → (execOp a.eval o).run P w = .ok (.enter f args) w ∧ Calls P f args w (fun e w' => e = .returned v ∧ w' = w)
theorem Tells.alike {o : Oper} {v : Value} {a a' : Act} (h : Tells P ops S o v a) (k : Alike ops o a a') : Tells P ops S o v a' := by
  unfold Tells at *; rw [k.1, k.2]; exact h
theorem Tells.step {i : Nat} {o : Oper} {v : Value} {a : Act} (hi : ops[i]? = some o) (h : Tells P ops S o v a) {K : Act → World → Prop} {w : World} (hS : S w) (hk : K (a.put o.dst v) w) : wpOp P ops Q i K a w := by
  obtain ⟨h1, f, args, h2⟩ := h
  obtain ⟨h3, h4⟩ := h2 w hS
  unfold wpOp
  simp only [hi, h1, if_true]
  left
  unfold Oper.wp
  rw [h3, Oper.upon_enter]
  exact Calls.mono h4 (fun e w' he => by obtain ⟨rfl, rfl⟩ := he; exact hk)

theorem wpOp_past {j : Nat} {oi oj : Oper} {v : Value} (hj : ops[j]? = some oj) (hap : oi.apart ops oj = true) (hsi : ∀ cs b, oi.op ≠ .select cs b) (hsj : ∀ cs b, oj.op ≠ .select cs b) (hQ : ∀ c a w, Q (.panic c) (a.put oi.dst v) w → Q (.panic c) a w)
    {K : Act → World → Prop} {a : Act} {w : World} (h : wpOp P ops Q j K (a.put oi.dst v) w) : wpOp P ops Q j (fun a' w' => Alike ops oi a a' ∧ K (a'.put oi.dst v) w') a w := by
  obtain ⟨h1, h2, h3⟩ := Oper.apart_spec hap
  have stay : ∀ (d : List Deferred) u, Alike ops oi a ({ a with defers := d }.put oj.dst u) := fun d u =>
    ⟨(execOp_put oi hsi { a with defers := d } oj.dst u h3).trans rfl, (wanted_put oi { a with defers := d } oj.dst u h3).trans rfl⟩
  have stay0 : ∀ u, Alike ops oi a (a.put oj.dst u) := fun u => stay a.defers u
  have exec := execOp_put oj hsj a oi.dst v h1
  unfold wpOp at *
  simp only [hj] at *
  rw [wanted_put oj a oi.dst v h1] at h
  by_cases hw : Region.wanted oj (yielded ops a.tmps) = true
  · simp only [hw, if_true] at h ⊢
    rcases h with h | ⟨h4, h5⟩
    · left
      unfold Oper.wp at *
      rw [exec] at h
      cases hr : (execOp a.eval oj).run P w with
      | ok n w' =>
        rw [hr] at h
        cases n with
        | value u => exact ⟨stay0 u, by rw [← Act.put_comm a v u h2]; exact h⟩
        | skip => exact ⟨stay0 _, by rw [← Act.put_comm a v undef h2]; exact h⟩
        | defer d => exact ⟨stay _ _, by rw [← Act.put_comm _ v undef h2, ← Act.put_defers]; exact h⟩
        | enter f args =>
          refine Calls.mono h fun e w2 he => ?_
          cases e with
          | returned u => exact ⟨stay0 u, by rw [← Act.put_comm a v u h2]; exact he⟩
          | panicked c => exact hQ _ _ _ he
          | outgrown => exact he
        | row r args => exact Rows.mono h fun u w2 he => ⟨stay0 u, by rw [← Act.put_comm a v u h2]; exact he⟩
        | _ => simp only [Oper.upon] at h ⊢
      | halt x w' =>
        rw [hr] at h
        cases x with
        | panic u => exact hQ _ _ _ h
        | _ => simp only [Oper.upon] at h ⊢
    · right
      refine ⟨?_, h5⟩
      unfold Oper.asks at *
      rw [exec] at h4; exact h4
  · simp only [hw] at h ⊢
    exact ⟨stay0 _, by rw [← Act.put_comm a v undef h2]; exact h⟩

theorem held_first {i : Nat} {oi : Oper} {v : Value} (hi : ops[i]? = some oi) (hsel : ∀ (j : Nat) (o : Oper) cs b, ops[j]? = some o → o.op ≠ .select cs b) (hQ : ∀ c a w, Q (.panic c) (a.put oi.dst v) w → Q (.panic c) a w) :
    ∀ (fuel : Nat) (listed : Array Bool) (a : Act) (w : World),
      (∀ j oj, ops[j]? = some oj → j ≠ i → listed.getD j true = false → (∀ e ∈ oj.after, Region.binds md e = true → e.on ≠ i) → oi.apart ops oj = true) →
      i ∈ Region.ready md ops listed → Tells P ops S oi v a → S w → wpAnyH P md ops Q S fuel (listed.setIfInBounds i true) (a.put oi.dst v) w → wpAnyH P md ops Q S (fuel + 1) listed a w := by
  intro fuel
  induction fuel with
  | zero =>
    intro listed a w _ hr ht hS H
    refine ⟨fun h => absurd (h ▸ hr) (by simp), fun j hj => ?_⟩
    rcases Decidable.em (j = i) with rfl | hji
    · exact ht.step hi hS ⟨hS, H⟩
    · exact absurd (H.1 ▸ ready_mono hj hji) (by simp)
  | succ fuel ih =>
    intro listed a w hfree hr ht hS H
    refine ⟨fun h => absurd (h ▸ hr) (by simp), fun j hj => ?_⟩
    rcases Decidable.em (j = i) with rfl | hji
    · exact ht.step hi hS ⟨hS, H⟩
    · obtain ⟨hun, oj, hoj, hall⟩ := mem_ready.1 hj
      have hno : ∀ e ∈ oj.after, Region.binds md e = true → e.on ≠ i := by
        intro e he hb heq
        have q1 := hall e he hb
        have q2 := (mem_ready.1 hr).1
        rw [heq] at q1
        by_cases hsz : i < listed.size
        · simp [hsz] at q1 q2; rw [q2] at q1; cases q1
        · simp [Array.getElem?_eq_none (Nat.le_of_not_lt hsz)] at q2
      have hp := wpOp_past hoj (hfree j oj hoj hji hun hno) (fun cs b => hsel i oi cs b hi) (fun cs b => hsel j oj cs b hoj) hQ (H.2 j (ready_mono hj hji))
      refine wpOp_mono (fun a' w' h3 => ⟨h3.2.1, ih (listed.setIfInBounds j true) a' w' (fun k ok hk hki hku hkn => ?_) (ready_mono hr (Ne.symm hji)) (ht.alike h3.1) h3.2.1 ?_⟩) hp
      · refine hfree k ok hk hki ?_ hkn
        rcases Decidable.em (j = k) with rfl | hjk
        · exact hun
        · rw [getD_set_ne true hjk] at hku; exact hku
      · rw [Array.setIfInBounds_comm _ _ hji]; exact h3.2.2

theorem wpAnyH_tells {i : Nat} {oi : Oper} {v : Value} {fuel : Nat} {listed : Array Bool} {a : Act} {w : World} (hi : ops[i]? = some oi) (hs : Region.noSelect ops = true) (hf : Region.free md ops listed i = true) (hr : (Region.ready md ops listed).contains i = true)
    (hQ : ∀ c a w, Q (.panic c) (a.put oi.dst v) w → Q (.panic c) a w) (ht : Tells P ops S oi v a) (hS : S w) (h : wpAnyH P md ops Q S fuel (listed.setIfInBounds i true) (a.put oi.dst v) w) : wpAnyH P md ops Q S (fuel + 1) listed a w :=
  held_first hi (Region.noSelect_spec hs) hQ fuel listed a w (Region.free_spec hi hf) (by simpa using hr) ht hS h
end
end Go.Proofs.YtcgnkloljfgiaaaGreatDoor
