/-
  No program in sight: a field of a block stored to; a struct loaded from a block.
-/
import Derived.Test.YtcgnkloljfgiaaaGreatDoorSo
namespace Go.Proofs.YtcgnkloljfgiaaaGreatDoor
open Go.RowKit Go.Maps Go.MapKept

theorem laid_one (cs : List Value) (off : Nat) (v : Value) (h : off < cs.length) : laid cs.toArray off [v] = (cs.set off v).toArray := by
  unfold laid
  apply Array.ext'
  simp only [List.length_cons, List.length_nil, Nat.zero_add]
  rw [List.set_eq_take_append_cons_drop, if_pos h]
  simp
section
variable {P : Program} {ops : Array Oper} {rest : List Oper} {o : Oper} {a : Act} {w : World} {Q : Exit → Act → World → Prop} {b : Env} {L : List HP}
theorem wpList_storeF_st (hg : o.guard = none) (T : TypeId) (x y : Operand) (ho : o.op = .store T x y) (hi : (P.info? T).map (·.size) = some 1) {g off : Nat} {v : Value} {U : TypeId} {cs ds : List Value} (hx : a.eval x = .pointer (some ⟨g, off, none⟩)) (hy : a.eval y = v) (hvc : v.cells = #[v]) (h1 : v.oneCell' = true)
    (hs : St b (HP.blk g (.cells cs.toArray U) :: L) w) (hoff : off < cs.length) (hd : cs.set off v = ds) (h : ∀ w', St b (HP.blk g (.cells ds.toArray U) :: L) w' → wpList P ops Q rest (a.put o.dst undef) w') : wpList P ops Q (o :: rest) a w := by
  obtain ⟨e, hle, hs⟩ := hs
  obtain ⟨hst, hs'⟩ := hs.storeCells (P := P) (cs := [v]) (off := off) (by simp; omega) (by simpa using h1)
  rw [laid_one cs off v hoff, hd] at hs'
  refine wpList_unit hg ?_ (h _ ⟨e, hle, hs'⟩)
  cases hq : P.info? T with
  | none => simp [hq] at hi
  | some i =>
    have hsz : i.size = 1 := by simpa [hq] using hi
    rw [laid_one cs off v hoff, hd] at hst
    simp [execOp, ho, hx, hy, Instr.storeAt, Instr.sureAddr, storeVar, hvc, sizeOf, typeInfo, hq, hsz, hst]
theorem wpList_loadB_st {zs cs : List Value} (hg : o.guard = none) {T : TypeId} (A : AgT P T zs) (x : Operand) (ho : o.op = .load T x) {g : Nat} {U : TypeId} (hx : a.eval x = .pointer (some ⟨g, 0, none⟩)) (hl : cs.length = zs.length) (hs : St b L w) (hm : HP.blk g (.cells cs.toArray U) ∈ L)
    (h : wpList P ops Q rest (a.put o.dst (.agg cs.toArray)) w) : wpList P ops Q (o :: rest) a w :=
  wpList_load_ag hg A x ho hx hl (fun j u hj => by rw [Nat.zero_add, hs.blk_cell hm]; simpa using hj) h
/-- A made struct, by one law: it lies in a new block. -/
theorem wpList_box_st {cs : List Value} (hg : o.guard = none) {T : TypeId} (x : Operand) (ho : o.op = .box T x) (hx : a.eval x = .agg cs.toArray) (hs : St b L w)
    (h : ∀ g w', St b (HP.blk g (.cells cs.toArray T) :: L) w' → wpList P ops Q rest (a.put o.dst (.pointer (some ⟨g, 0, none⟩))) w') : wpList P ops Q (o :: rest) a w := by
  refine wpList_val hg (w' := w.alloc (.cells cs.toArray T)) ?_ (h w.heap.size _ (hs.alloc _))
  simp [execOp, ho, hx, Instr.box, newVar, newRow, Value.cells]
/-- A store as a step of a region that draws its order. -/
theorem step_storeF_st {K : Act → World → Prop} {X : Prop} (hg : o.guard = none) (T : TypeId) (x y : Operand) (ho : o.op = .store T x y) (hi : (P.info? T).map (·.size) = some 1) {g off : Nat} {v : Value} {U : TypeId} {cs ds : List Value} (hx : a.eval x = .pointer (some ⟨g, off, none⟩)) (hy : a.eval y = v) (hvc : v.cells = #[v]) (h1 : v.oneCell' = true)
    (hs : St b (HP.blk g (.cells cs.toArray U) :: L) w) (hoff : off < cs.length) (hd : cs.set off v = ds) (h : ∀ w', St b (HP.blk g (.cells ds.toArray U) :: L) w' → K (a.put o.dst undef) w') : if Region.wanted o (yielded ops a.tmps) = true then Oper.wp P o a w K Q else X := by
  have hw : Region.wanted o (yielded ops a.tmps) = true := by simp [Region.wanted, hg]
  rw [if_pos hw]
  obtain ⟨e, hle, hs⟩ := hs
  obtain ⟨hst, hs'⟩ := hs.storeCells (P := P) (cs := [v]) (off := off) (by simp; omega) (by simpa using h1)
  rw [laid_one cs off v hoff, hd] at hs' hst
  have hr : (execOp a.eval o).run P w = .ok .skip (w.setRow g ds.toArray) := by
    cases hq : P.info? T with
    | none => simp [hq] at hi
    | some i =>
      have hsz : i.size = 1 := by simpa [hq] using hi
      simp [execOp, ho, hx, hy, Instr.storeAt, Instr.sureAddr, storeVar, hvc, sizeOf, typeInfo, hq, hsz, hst]
  unfold Oper.wp
  rw [hr, Oper.upon_skip]
  exact h _ ⟨e, hle, hs'⟩
end
end Go.Proofs.YtcgnkloljfgiaaaGreatDoor
