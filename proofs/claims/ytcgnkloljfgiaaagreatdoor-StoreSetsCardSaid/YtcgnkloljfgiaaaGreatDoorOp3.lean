/-
  No program in sight: for regions that draw their order: append as a step; the k-th chunk's block.
-/
import Derived.Test.YtcgnkloljfgiaaaGreatDoorOp2
import Derived.Deep.RegionHeld3
import Derived.Deep.RegionWith
namespace Go.Proofs.YtcgnkloljfgiaaaGreatDoor
open Go.RowKit Go.Maps Go.MapKept

theorem step_append_sl {P : Program} {ops : Array Oper} {o : Oper} {a : Act} {w : World} {K : Act → World → Prop} {Q : Exit → Act → World → Prop} {X : Prop} (hg : o.guard = none) (s x : Operand) (t : TypeId) (ho : o.op = .call { callee := .builtin .append, args := #[s, x], argTypes := #[t, t] })
    {E : TypeId} {i : TypeInfo} {z : Value} {size bytes : Nat} (ht : P.underlying t = some (.slice E)) (hi : P.info? E = some i) (hz : i.zero = some z) (hsize : i.size = size) (hby : i.bytes = bytes) (hzs : z.cells.size = size) (hsz : 0 < size)
    {v sv : Value} {e : Env} {L : List HP} {n m : Nat} {xs news : List Value} (hs : Sat e (HP.row E size v n xs :: L) w) (H : View (World.frag w) sv m news) (hv : a.eval s = v) (hx : a.eval x = sv) (hl : news.length = m * size) (h1 : ∀ u ∈ news, u.oneCell' = true)
    (h63 : n + m ≤ maxLen) (hbytes : (n + m) * bytes ≤ 140737488355328)
    (h : ∀ v' w', Sat e (HP.row E size v' (n + m) (xs ++ news) :: L) w' → (v' = .slice none 0 0 ↔ v = .slice none 0 0 ∧ m = 0) → K (a.put o.dst v') w') : if Region.wanted o (yielded ops a.tmps) = true then Oper.wp P o a w K Q else X := by
  have hw : Region.wanted o (yielded ops a.tmps) = true := by simp [Region.wanted, hg]
  rw [if_pos hw]
  obtain ⟨v', w', hrun, hs', hn⟩ := run_append_sl (ty := o.type) ht hi hz hsize hby hzs hsz hs H hl h1 h63 hbytes
  unfold Oper.wp
  have hr : (execOp a.eval o).run P w = .ok (.value v') w' := by simp [execOp, ho, resolve, invoke, builtin, hv, hx, hrun]
  rw [hr, Oper.upon_value]
  exact h v' w' hs' hn

theorem Sat.row_ne {e : Env} {L : List HP} {w : World} {b g n m cap size : Nat} {o : Obj} {E : TypeId} {xs : List Value} (h : Sat e (HP.blk b o :: HP.row E size (.slice (some ⟨g, 0, none⟩) m cap) n xs :: L) w) : ¬ g = b := by
  obtain ⟨hl, ⟨hx, _⟩ | ⟨g', cap', cur, hv, hc1, hc2, hc3, hc4, h3⟩⟩ := h.swap.row_open
  · cases hx
  · simp only [Value.slice.injEq, Option.some.injEq, Addr.mk.injEq, and_true] at hv
    rw [hv.1]; exact h3.ne

/-- The k-th chunk, brought to the head. -/
theorem Sat.front {e : Env} {L : List HP} {w : World} (h : Sat e L w) (k : Nat) {P : HP} (hP : L[k]? = some P) : Sat e (P :: L.eraseIdx k) w := by
  have hk : k < L.length := (List.getElem?_eq_some_iff.1 hP).1
  refine h.relabel (fun j => if j = k then some 0 else if j < k then some (j + 1) else some j) (fun i Q hQ => ?_)
  cases i with
  | zero =>
    simp at hQ; subst hQ
    refine ⟨k, hP, fun j => ?_⟩
    by_cases h1 : j = k
    · simp [h1]
    · by_cases h2 : j < k
      · simp [h1, h2]
      · simp [h1, h2]; omega
  | succ i =>
    simp only [List.getElem?_cons_succ, List.getElem?_eraseIdx] at hQ
    split at hQ
    · rename_i hik
      refine ⟨i, hQ, fun j => ?_⟩
      by_cases h1 : j = k
      · simp [h1]; omega
      · by_cases h2 : j < k
        · simp [h1, h2]
        · simp [h1, h2]; omega
    · rename_i hik
      refine ⟨i + 1, hQ, fun j => ?_⟩
      by_cases h1 : j = k
      · simp [h1]; omega
      · by_cases h2 : j < k
        · simp [h1, h2]; omega
        · simp [h1, h2]

theorem Sat.nth_at {e : Env} {L : List HP} {w : World} (h : Sat e L w) (k : Nat) {b : Nat} {o : Obj} (hP : L[k]? = some (HP.blk b o)) : w.heap[b]? = some o := (h.front k hP).at
theorem Sat.nth_cell {e : Env} {L : List HP} {w : World} (h : Sat e L w) (k : Nat) {b : Nat} {c : Array Value} {t : TypeId} {fz : Nat × Nat} (hP : L[k]? = some (HP.blk b (.cells c t fz))) (i : Nat) : w.cell? ⟨b, i, none⟩ = c[i]? := cell_of (h.nth_at k hP) i
end Go.Proofs.YtcgnkloljfgiaaaGreatDoor
