/-
  No program in sight: a slice within a slice, that stays known.
-/
import Derived.Test.YtmebmgbjpbapjaaGx
namespace Go.Proofs.Ytmebmgbjpbapjaa
open Go.RowKit Go.Maps Go.MapKept
variable {b : Env} {L : List HP} {w : World}

theorem St.in_elem {α : Type} {E : El α} {g o n cap i : Nat} {xss : List (List α)} (h : St b L w) (hm : HP.sl E.in (.slice (some ⟨g, o, none⟩) n cap) xss ∈ L) (hi : i < xss.length) : ∃ v, St b (HP.sl E v xss[i] :: HP.elem E.in g (o + i) xss[i] [v] :: L) w := by
  obtain ⟨cs, h'⟩ := h.elem hm (List.getElem?_eq_getElem hi) Nat.one_pos
  obtain ⟨e, hl, hs, v, hc, hv⟩ := h'.elem_rd List.mem_cons_self
  subst hc
  rw [show o + i * E.in.sz = o + i by show o + i * 1 = o + i; omega] at hs
  exact ⟨v, e, hl, hs.lay (fun _ => hv)⟩
theorem St.in_cell {α : Type} {E : El α} {g off : Nat} {xs : List α} {v : Value} (h : St b L w) (hm : HP.elem E.in g off xs [v] ∈ L) : w.cell? ⟨g, off, none⟩ = some v := h.elem_cell hm 0 rfl
theorem St.mat_cell2 {T : TypeId} {g : Nat} {M : Mx} {A B : HP} (h : St b (A :: B :: HP.mat T g M :: L) w) {i j : Nat} (hi : i < 12) (hj : j < 12) : w.cell? ⟨g, i * 12 + j, none⟩ = some (.bool (M i j)) := (h.f2.mat_cell hi hj).1
end Go.Proofs.Ytmebmgbjpbapjaa
