/-
  No program in sight: who leads to whom, by a table (Warshall's way, in place).
-/
import Derived.Test.YtmebmgbjpbapjaaGm
namespace Go.Proofs.Ytmebmgbjpbapjaa
open Go.RowKit Go.Maps Go.MapKept

abbrev Mx := Nat → Nat → Bool
def Mx.set (M : Mx) (i j : Nat) (v : Bool) : Mx := fun a c => if a = i ∧ c = j then v else M a c
/-- In stage k, behind i whole rows and j entries of row i. -/
def stageM (T : Mx) (n k i j : Nat) : Mx := fun a c => if (a < i ∧ c < n) ∨ (a = i ∧ c < j) then T a c || (T a k && T k c) else T a c
theorem stage_val {T : Mx} {n k i j : Nat} : stageM T n k i j i j = T i j ∧ stageM T n k i j i k = T i k ∧ stageM T n k i j k j = T k j := by
  refine ⟨?_, ?_, ?_⟩
  · unfold stageM; rw [if_neg (by omega)]
  · unfold stageM; split <;> cases T i k <;> simp
  · unfold stageM; split <;> cases T k j <;> simp
theorem stage_step {T : Mx} {n k i j : Nat} : (stageM T n k i j).set i j (T i j || (T i k && T k j)) = stageM T n k i (j + 1) := by
  funext a c
  unfold Mx.set
  by_cases h : a = i ∧ c = j
  · obtain ⟨rfl, rfl⟩ := h
    rw [if_pos ⟨rfl, rfl⟩]; unfold stageM; rw [if_pos (by omega)]
  · rw [if_neg h]; unfold stageM
    by_cases h2 : (a < i ∧ c < n) ∨ (a = i ∧ c < j)
    · rw [if_pos h2, if_pos (by omega)]
    · rw [if_neg h2, if_neg (by omega)]
theorem stage_row {T : Mx} {n k i : Nat} : stageM T n k i n = stageM T n k (i + 1) 0 := by
  funext a c
  unfold stageM
  by_cases h2 : (a < i ∧ c < n) ∨ (a = i ∧ c < n)
  · rw [if_pos h2, if_pos (by omega)]
  · rw [if_neg h2, if_neg (by omega)]
theorem stage_start {T : Mx} {n k : Nat} : stageM T n k 0 0 = T := by
  funext a c; unfold stageM; rw [if_neg (by omega)]
theorem stage_end {T : Mx} {n k i j : Nat} (hi : i < n) (hj : j < n) : stageM T n k n 0 i j = (T i j || (T i k && T k j)) := by
  unfold stageM; rw [if_pos (by omega)]

structure TabP (n : Nat) (nm : Nat → Str) (nxt : Str → List Str) (k : Nat) (T : Mx) : Prop where
  sound : ∀ i j, i < n → j < n → T i j = true → Rch nxt (nm i) (nm j)
  refl : ∀ i, i < n → T i i = true
  edge : ∀ i j, i < n → j < n → nm j ∈ nxt (nm i) → T i j = true
  closed : ∀ m, m < k → ∀ i j, i < n → j < n → T i m = true → T m j = true → T i j = true
variable {n : Nat} {nm : Nat → Str} {nxt : Str → List Str} {k : Nat} {T : Mx}
theorem TabP.stage (h : TabP n nm nxt k T) (hk : k < n) : TabP n nm nxt (k + 1) (stageM T n k n 0) := by
  have val : ∀ i j, i < n → j < n → (stageM T n k n 0 i j = true ↔ T i j = true ∨ (T i k = true ∧ T k j = true)) := fun i j hi hj => by
    rw [stage_end hi hj]; simp
  refine ⟨fun i j hi hj ht => ?_, fun i hi => (val i i hi hi).2 (Or.inl (h.refl i hi)), fun i j hi hj he => (val i j hi hj).2 (Or.inl (h.edge i j hi hj he)), fun m hm i j hi hj h1 h2 => ?_⟩
  · rcases (val i j hi hj).1 ht with ht | ⟨ht, hu⟩
    · exact h.sound i j hi hj ht
    · exact (h.sound i k hi hk ht).trans (h.sound k j hk hj hu)
  · have hmn : m < n := by omega
    have g1 := (val i m hi hmn).1 h1
    have g2 := (val m j hmn hj).1 h2
    clear h1 h2
    rcases g1 with a1 | ⟨a1, a1'⟩ <;> rcases g2 with a2 | ⟨a2, a2'⟩
    · by_cases hmk : m = k
      · subst hmk; exact (val i j hi hj).2 (Or.inr ⟨a1, a2⟩)
      · exact (val i j hi hj).2 (Or.inl (h.closed m (by omega) i j hi hj a1 a2))
    · by_cases hmk : m = k
      · subst hmk; exact (val i j hi hj).2 (Or.inr ⟨a1, a2'⟩)
      · exact (val i j hi hj).2 (Or.inr ⟨h.closed m (by omega) i k hi hk a1 a2, a2'⟩)
    · by_cases hmk : m = k
      · subst hmk; exact (val i j hi hj).2 (Or.inr ⟨a1, a2⟩)
      · exact (val i j hi hj).2 (Or.inr ⟨a1, h.closed m (by omega) k j hk hj a1' a2⟩)
    · exact (val i j hi hj).2 (Or.inr ⟨a1, a2'⟩)
theorem TabP.done (h : TabP n nm nxt n T) (hinj : ∀ i j, i < n → j < n → nm i = nm j → i = j) (hout : ∀ x z, z ∈ nxt x → ∃ d, d < n ∧ z = nm d) {i j : Nat} (hi : i < n) (hj : j < n) : T i j = rB nxt (nm i) (nm j) := by
  rw [Bool.eq_iff_iff, rB_iff]
  refine ⟨h.sound i j hi hj, fun hr => ?_⟩
  obtain ⟨c, hc, hcj, ht⟩ := hr (fun y => ∃ c, c < n ∧ y = nm c ∧ T i c = true) ⟨i, hi, rfl, h.refl i hi⟩ (fun x ⟨c, hc, hx, ht⟩ z hz => by
    obtain ⟨d, hd, hzd⟩ := hout x z hz
    subst hx; subst hzd
    exact ⟨d, hd, rfl, h.closed c hc i d hi hd ht (h.edge c d hc hd hz)⟩)
  rw [hinj j c hj hc hcj]; exact ht
end Go.Proofs.Ytmebmgbjpbapjaa
