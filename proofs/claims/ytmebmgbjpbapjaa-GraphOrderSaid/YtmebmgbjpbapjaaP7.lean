/-
  No program in sight: a field of an element of an owned slice; what is spawned in what is turned.
-/
import Derived.Test.YtmebmgbjpbapjaaP4
import Derived.Test.YtmebmgbjpbapjaaP5
import Derived.Test.YtmebmgbjpbapjaaP6
namespace Go.Proofs.Ytmebmgbjpbapjaa
open Go.RowKit Go.Maps Go.MapKept

theorem El.rds_setAt {α : Type} {E : El α} {h : Frag} {x' : α} {u : Value} {j : Nat} (hj : j < E.sz) : ∀ {xs : List α} {cs : List Value} {i : Nat} {x : α}, xs[i]? = some x → E.rds h xs cs → (∀ c, E.rd h x c → E.rd h x' (c.set j u)) → E.rds h (xs.set i x') (cs.set (i * E.sz + j) u)
  | [], _, i, _, hx, _, _ => by simp at hx
  | y :: ys, _, 0, x, hx, ⟨c, r, rfl, h1, h2⟩, hk => by
    simp at hx; subst hx
    rw [Nat.zero_mul, Nat.zero_add, List.set_append, if_pos (by rw [E.len h1]; exact hj)]
    exact ⟨_, _, rfl, hk c h1, h2⟩
  | y :: ys, _, i + 1, x, hx, ⟨c, r, rfl, h1, h2⟩, hk => by
    have hl := E.len h1
    rw [List.set_append, if_neg (by rw [hl, Nat.add_mul]; omega), hl, show (i + 1) * E.sz + j - E.sz = i * E.sz + j by rw [Nat.add_mul]; omega]
    exact ⟨_, _, rfl, h1, El.rds_setAt hj (show ys[i]? = some x by simpa using hx) h2 hk⟩

section
variable {α : Type} {E : El α} {b : Env} {L : List HP} {w : World} {T : TypeId} {xs : List α}
theorem St.rows_setAt {g n cap i j : Nat} {x : α} (h : St b (HP.rows T E (.slice (some ⟨g, 0, none⟩) n cap) xs :: L) w) (hi : xs[i]? = some x) (hj : j < E.sz) :
    (∃ u, w.cell? ⟨g, i * E.sz + j, none⟩ = some u) ∧ w.frozen? ⟨g, i * E.sz + j, none⟩ = false ∧
    ∀ u x', (∀ e, b.le e → Sat e (HP.rows T E (.slice (some ⟨g, 0, none⟩) n cap) xs :: L) w → ∀ c, E.rd e.h x c → E.rd e.h x' (c.set j u)) → St b (HP.rows T E (.slice (some ⟨g, 0, none⟩) n cap) (xs.set i x') :: L) (w.setCell ⟨g, i * E.sz + j, none⟩ u) := by
  obtain ⟨e, hl, hs0⟩ := h
  have hf : n = xs.length := by obtain ⟨_, _, hv, _⟩ := hs0.rows_form; simp only [Value.slice.injEq] at hv; exact hv.2.1
  subst hf
  obtain ⟨cs, hr, hs⟩ := hs0.rows_open
  have hil := (List.getElem?_eq_some_iff.1 hi).1
  have hlen : i * E.sz + j < cs.length := by
    rw [El.rds_len hr]
    have : (i + 1) * E.sz ≤ xs.length * E.sz := Nat.mul_le_mul_right _ hil
    rw [Nat.add_mul] at this; omega
  obtain ⟨h1, h2, h3⟩ := hs.row_cell hlen
  refine ⟨⟨_, h1.trans (List.getElem?_eq_getElem hlen)⟩, h2, fun u x' hk => ⟨e, hl, ?_⟩⟩
  have hx : (xs.set i x').length = xs.length := by simp
  refine Sat.rows_shut (cs := cs.set (i * E.sz + j) u) ?_ (El.rds_setAt hj hi hr (hk e hl hs0))
  rw [hx]; exact h3 u
end
section
variable {P : Program} {o : Oper} {a : Act} {w : World}
theorem run_loadB {zs cs : List Value} {T : TypeId} (A : AgT P T zs) (x : Operand) (ho : o.op = .load T x) {g : Nat} (hx : a.eval x = .pointer (some ⟨g, 0, none⟩)) (hl : cs.length = zs.length) (hc : ∀ j u, cs[j]? = some u → w.cell? ⟨g, 0 + j, none⟩ = some u) : (execOp a.eval o).run P w = .ok (.value (.agg cs.toArray)) w := by
  obtain ⟨d, hu, hd⟩ := A.desc
  simp [execOp, ho, hx, Instr.loadAt, Instr.sureAddr, run_load_agg hu hd (show (P.info? T).map (·.size) = some cs.length by rw [hl]; exact A.size) hc]
end

theorem names_swap : ∀ l : Stms, names 6 (turnS l) = names 5 l ∧ names 5 (turnS l) = names 6 l
  | .nil => ⟨rfl, rfl⟩
  | .cons k p n A B r => by
    obtain ⟨a1, a2⟩ := names_swap A
    obtain ⟨b1, b2⟩ := names_swap B
    obtain ⟨r1, r2⟩ := names_swap r
    simp only [turnS, names, a1, a2, b1, b2, r1, r2]
    have e1 : (swapK k = 6) = (k = 5) := by unfold swapK; split <;> (try split) <;> simp <;> omega
    have e2 : (swapK k = 5) = (k = 6) := by unfold swapK; split <;> (try split) <;> simp <;> omega
    simp only [e1, e2, and_self]
def wrapS (l : Stms) : Stms := .cons 7 0 [] .nil (.cons 8 0 [] (turnS l) .nil .nil) .nil
def wrapF (x : FRec) : FRec := ⟨x.name, x.pos, wrapS x.body⟩
theorem names_wrap (l : Stms) : names 6 (wrapS l) = names 5 l ∧ names 5 (wrapS l) = names 6 l := by
  obtain ⟨a1, a2⟩ := names_swap l
  simp [wrapS, names, a1, a2]
theorem namesP_wrap (F : List FRec) (f : Str) : namesP 6 (F.map wrapF) f = namesP 5 F f ∧ namesP 5 (F.map wrapF) f = namesP 6 F f := by
  simp only [namesP, List.flatMap_map, wrapF, (names_wrap _).1, (names_wrap _).2, and_self]
theorem names_len (kind : Int) : ∀ l : Stms, (names kind l).length ≤ l.size
  | .nil => by simp [names]
  | .cons k p n A B r => by
    have := names_len kind A; have := names_len kind B; have := names_len kind r
    simp only [names, List.length_append, Stms.size]
    split <;> simp <;> omega
theorem blockR_size : ∀ l : Raws, (blockR l).size ≤ l.size
  | .nil => Nat.le_refl _
  | .cons k n A B r => by
    have h1 := blockR_size A; have h2 := blockR_size B; have h3 := blockR_size r
    simp only [blockR, Stms.size, Raws.size]
    have hA : (if 1 + k % 8 = 7 ∨ 1 + k % 8 = 8 then blockR A else Stms.nil).size ≤ A.size := by split; exact h1; exact Nat.zero_le _
    have hB : (if 1 + k % 8 = 7 then blockR B else Stms.nil).size ≤ B.size := by split; exact h2; exact Nat.zero_le _
    exact Nat.add_le_add (Nat.add_le_add (Nat.add_le_add_left hA 1) hB) h3
def totS (F : List FRec) : Nat := (F.map (fun x => x.body.size)).sum
theorem namesP_len (kind : Int) (f : Str) : ∀ F : List FRec, (namesP kind F f).length ≤ totS F
  | [] => by simp [namesP]
  | x :: F => by
    have h1 := namesP_len kind f F
    have h2 := names_len kind x.body
    simp only [namesP, List.flatMap_cons, List.length_append] at h1 ⊢
    simp only [totS, List.map_cons, List.sum_cons] at h1 ⊢
    split
    · omega
    · rw [List.length_nil]; omega
theorem funcsR_tot {a c d e : Raws} (t : Int) (h1 : a.size ≤ 40) (h2 : c.size ≤ 40) (h3 : d.size ≤ 40) (h4 : e.size ≤ 40) : totS (funcsR a c d e t) ≤ 160 := by
  have := blockR_size a; have := blockR_size c; have := blockR_size d; have := blockR_size e
  unfold funcsR totS
  split <;> simp <;> omega
end Go.Proofs.Ytmebmgbjpbapjaa
