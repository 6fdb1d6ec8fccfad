/-
  A table of twelve by twelve Bools in a block of its own.
-/
import Derived.Test.YtmebmgbjpbapjaaGw
import Derived.Test.YtmebmgbjpbapjaaSo
namespace Go.Proofs.Ytmebmgbjpbapjaa
open Go.RowKit Go.Maps Go.MapKept

section
variable {b : Env} {L : List HP} {w : World} {T : TypeId} {g : Nat} {M : Mx}
def HP.mat (T : TypeId) (g : Nat) (M : Mx) : HP :=
  HP.ex (fun c : Array Value => HP.star (HP.pure (c.size = 144 ∧ ∀ i j, i < 12 → j < 12 → c[i * 12 + j]? = some (.bool (M i j)))) (HP.blk g (.cells c T)))
theorem St.mat_open (h : St b (HP.mat T g M :: L) w) : ∃ c : Array Value, c.size = 144 ∧ (∀ i j, i < 12 → j < 12 → c[i * 12 + j]? = some (.bool (M i j))) ∧ St b (HP.blk g (.cells c T) :: L) w := by
  obtain ⟨e, hl, hs⟩ := h
  obtain ⟨c, hs⟩ := hs.ex_elim
  obtain ⟨⟨h1, h2⟩, h3⟩ := hs.star_elim.pure_elim
  exact ⟨c, h1, h2, e, hl, h3⟩
theorem St.mat_shut {c : Array Value} (h1 : c.size = 144) (h2 : ∀ i j, i < 12 → j < 12 → c[i * 12 + j]? = some (.bool (M i j))) (h : St b (HP.blk g (.cells c T) :: L) w) : St b (HP.mat T g M :: L) w :=
  h.lift fun _ hs => Sat.ex_intro c (Sat.star_intro (Sat.pure_intro ⟨h1, h2⟩ hs))
theorem St.mat_cell (h : St b (HP.mat T g M :: L) w) {i j : Nat} (hi : i < 12) (hj : j < 12) : w.cell? ⟨g, i * 12 + j, none⟩ = some (.bool (M i j)) ∧ w.frozen? ⟨g, i * 12 + j, none⟩ = false := by
  obtain ⟨c, h1, h2, h3⟩ := h.mat_open
  exact ⟨(h3.blk_cell mem0 _).trans (h2 i j hi hj), h3.blk_free mem0 _⟩
theorem St.mat_set (h : St b (HP.mat T g M :: L) w) {i j : Nat} (hi : i < 12) (hj : j < 12) (v : Bool) : St b (HP.mat T g (M.set i j v) :: L) (w.setCell ⟨g, i * 12 + j, none⟩ (.bool v)) := by
  obtain ⟨c, h1, h2, h3⟩ := h.mat_open
  refine St.mat_shut (c := c.setIfInBounds (i * 12 + j) (.bool v)) (by simpa using h1) (fun a d ha hd => ?_) (h3.setCell _)
  rw [Array.getElem?_setIfInBounds]
  unfold Mx.set
  by_cases hq : a = i ∧ d = j
  · obtain ⟨rfl, rfl⟩ := hq
    rw [if_pos rfl, if_pos (by rw [h1]; omega), if_pos ⟨rfl, rfl⟩]
  · rw [if_neg (by omega), if_neg hq]; exact h2 a d ha hd
end
theorem zero_mat : Try.zeroCells34 = (List.replicate 144 (Value.bool false)).toArray := by kernel_rfl
def diagM (k : Nat) : Mx := fun i j => decide (i = j ∧ i < k)
theorem diagM_zero : diagM 0 = fun _ _ => false := by funext i j; simp [diagM]
theorem diagM_succ (k : Nat) : (diagM k).set k k true = diagM (k + 1) := by
  funext i j; unfold Mx.set diagM
  by_cases h : i = k ∧ j = k
  · obtain ⟨rfl, rfl⟩ := h; simp
  · rw [if_neg h]; congr 1; rw [eq_iff_iff]; omega
theorem St.mat_new {b : Env} {L : List HP} {w : World} (h : St b L w) : St b (HP.mat 34 w.heap.size (diagM 0) :: L) (w.alloc (.cells Try.zeroCells34 34)) := by
  refine St.mat_shut ?_ (fun i j hi hj => ?_) (h.alloc _)
  · rw [zero_mat]; simp
  · rw [zero_mat, diagM_zero]
    simp only [List.getElem?_toArray]
    rw [List.getElem?_replicate, if_pos (by omega)]
end Go.Proofs.Ytmebmgbjpbapjaa
