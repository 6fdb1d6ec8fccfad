/-
  No program in sight: a field of an element of an owned slice; a load of a struct, whatever the world.
-/
import Derived.Test.YtcgnkloljfgiaaaGreatDoorSp
namespace Go.Proofs.YtcgnkloljfgiaaaGreatDoor
open Go.RowKit Go.Maps Go.MapKept

theorem El.rds_setAt {α : Type} {E : El α} {h : Frag} {x' : α} {u : Value} {j : Nat} (hj : j < E.sz) : ∀ {xs : List α} {cs : List Value} {i : Nat} {x : α}, xs[i]? = some x → E.rds h xs cs → (∀ c, E.rd h x c → E.rd h x' (c.set j u)) → E.rds h (xs.set i x') (cs.set (i * E.sz + j) u)
  | [], _, i, _, hx, _, _ => by simp at hx
  | y :: ys, _, 0, x, hx, ⟨c, r, rfl, h1, h2⟩, hk => by
    simp at hx; subst hx
    rw [Nat.zero_mul, Nat.zero_add, List.set_append, if_pos (by rw [E.len h1]; exact hj)]
    exact ⟨_, _, rfl, hk c h1, h2⟩
  | y :: ys, _, i + 1, x, hx, ⟨c, r, rfl, h1, h2⟩, hk => by
    have hl := E.len h1
    rw [List.set_append, if_neg (by rw [hl, Nat.add_mul]; omega), hl, show (i + 1) * E.sz + j - E.sz = i * E.sz + j by rw [Nat.add_mul]; omega]
    exact ⟨_, _, rfl, h1, El.rds_setAt hj (show ys[i]? = some x by simpa using hx) h2 hk⟩

section
variable {α : Type} {E : El α} {b : Env} {L : List HP} {w : World} {T : TypeId} {xs : List α}
theorem St.rows_setAt {g n cap i j : Nat} {x : α} (h : St b (HP.rows T E (.slice (some ⟨g, 0, none⟩) n cap) xs :: L) w) (hi : xs[i]? = some x) (hj : j < E.sz) :
    (∃ u, w.cell? ⟨g, i * E.sz + j, none⟩ = some u) ∧ w.frozen? ⟨g, i * E.sz + j, none⟩ = false ∧
    ∀ u x', (∀ e, b.le e → Sat e (HP.rows T E (.slice (some ⟨g, 0, none⟩) n cap) xs :: L) w → ∀ c, E.rd e.h x c → E.rd e.h x' (c.set j u)) → St b (HP.rows T E (.slice (some ⟨g, 0, none⟩) n cap) (xs.set i x') :: L) (w.setCell ⟨g, i * E.sz + j, none⟩ u) := by
  obtain ⟨e, hl, hs0⟩ := h
  have hf : n = xs.length := by obtain ⟨_, _, hv, _⟩ := hs0.rows_form; simp only [Value.slice.injEq] at hv; exact hv.2.1
  subst hf
  obtain ⟨cs, hr, hs⟩ := hs0.rows_open
  have hil := (List.getElem?_eq_some_iff.1 hi).1
  have hlen : i * E.sz + j < cs.length := by
    rw [El.rds_len hr]
    have : (i + 1) * E.sz ≤ xs.length * E.sz := Nat.mul_le_mul_right _ hil
    rw [Nat.add_mul] at this; omega
  obtain ⟨h1, h2, h3⟩ := hs.row_cell hlen
  refine ⟨⟨_, h1.trans (List.getElem?_eq_getElem hlen)⟩, h2, fun u x' hk => ⟨e, hl, ?_⟩⟩
  have hx : (xs.set i x').length = xs.length := by simp
  refine Sat.rows_shut (cs := cs.set (i * E.sz + j) u) ?_ (El.rds_setAt hj hi hr (hk e hl hs0))
  rw [hx]; exact h3 u
end
section
variable {P : Program} {o : Oper} {a : Act} {w : World}
theorem run_loadB {zs cs : List Value} {T : TypeId} (A : AgT P T zs) (x : Operand) (ho : o.op = .load T x) {g : Nat} (hx : a.eval x = .pointer (some ⟨g, 0, none⟩)) (hl : cs.length = zs.length) (hc : ∀ j u, cs[j]? = some u → w.cell? ⟨g, 0 + j, none⟩ = some u) : (execOp a.eval o).run P w = .ok (.value (.agg cs.toArray)) w := by
  obtain ⟨d, hu, hd⟩ := A.desc
  simp [execOp, ho, hx, Instr.loadAt, Instr.sureAddr, run_load_agg hu hd (show (P.info? T).map (·.size) = some cs.length by rw [hl]; exact A.size) hc]
end
end Go.Proofs.YtcgnkloljfgiaaaGreatDoor
