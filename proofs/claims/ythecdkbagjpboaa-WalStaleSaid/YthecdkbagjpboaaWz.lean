/-
  A row of rows, cut.
-/
import Derived.Test.YthecdkbagjpboaaWv
import Derived.Test.YthecdkbagjpboaaWy
namespace Go.Proofs.Ythecdkbagjpboaa
open Go.RowKit Go.Maps Go.MapKept
variable {b : Env} {L : List HP} {w : World} {gd : Nat} {d : Dk}
theorem run_slice_op {P : Program} {o : Oper} {a : Act} {w : World} {t : TypeId} {x h : Operand} {v k r : Value} (ho : o.op = .slice t x none (some h) none) (hx : a.eval x = v) (hh : a.eval h = k) (hr : (Instr.sliceAt t v none (some k) none).run P w = .ok r w) : (execOp a.eval o).run P w = .ok (.value r) w := by simp [execOp, ho, hx, hh, hr]
theorem row_cut {A : List Byt} {k : Nat} {ga oa n ca : Nat} (h : St b L w) (ha : HP.sl byteE.in (.slice (some ⟨ga, oa, none⟩) n ca) A ∈ L) (hk : k < A.length) (m : Nat) :
    A[k].length ≤ maxLen ∧ ∃ p q p2 q2, w.cell? ⟨ga, oa + k, none⟩ = some (.slice p A[k].length q) ∧
      (∀ w', (Instr.sliceAt 34 (.slice p A[k].length q) none (some (.int .i64 (min (A[k].length : Int) (m : Int)))) none).run Try.prog w' = .ok (.slice p2 (A[k].take m).length q2) w') ∧
      St b (HP.sl byteE (.slice p2 (A[k].take m).length q2) (A[k].take m) :: L) w := by
  obtain ⟨v, h1⟩ := h.in_elem ha hk
  obtain ⟨p, q, rfl, hm1, hm2⟩ := h1.sl_form mem0
  have hc := h1.in_cell mem1
  obtain ⟨p2, q2, hr, h2⟩ := St.slice_to slByte h1 mem0 (min A[k].length m) (Nat.min_le_left _ _) .i64
  have e1 : (A[k].take m).length = min A[k].length m := by rw [List.length_take, Nat.min_comm]
  have e2 : A[k].take (min A[k].length m) = A[k].take m := by rw [Nat.min_comm, List.take_eq_take_iff]; simp
  rw [e2] at h2
  rw [show ((min A[k].length m : Nat) : Int) = min (A[k].length : Int) (m : Int) from by omega] at hr
  exact ⟨Nat.le_trans hm1 hm2, p, q, p2, q2, hc, by rw [e1]; exact hr, by rw [e1]; exact h2.d1.d1⟩
end Go.Proofs.Ythecdkbagjpboaa
