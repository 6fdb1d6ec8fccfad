/-
  No program in sight: a whole element of an owned slice stored, loaded; an owned slice that begins within its block.
-/
import Derived.Test.YtcgnkloljfgiaaaGreatDoorSr
namespace Go.Proofs.YtcgnkloljfgiaaaGreatDoor
open Go.RowKit Go.Maps Go.MapKept

theorem El.rds_putAt {α : Type} {E : El α} {h : Frag} {x' : α} {c : List Value} (hc : E.rd h x' c) : ∀ {xs : List α} {cs : List Value} {i : Nat}, i < xs.length → E.rds h xs cs → E.rds h (xs.set i x') (cs.take (i * E.sz) ++ c ++ cs.drop (i * E.sz + E.sz))
  | [], _, i, hx, _ => by simp at hx
  | y :: ys, _, 0, _, ⟨c0, r, rfl, h1, h2⟩ => by
    have hl := E.len h1
    refine ⟨c, r, ?_, hc, h2⟩
    simp only [Nat.zero_mul, Nat.zero_add, List.take_zero, List.nil_append]
    rw [← hl, List.drop_left]
  | y :: ys, _, i + 1, hx, ⟨c0, r, rfl, h1, h2⟩ => by
    have hl := E.len h1
    have hx' : i < ys.length := by simpa using hx
    refine ⟨c0, _, ?_, h1, El.rds_putAt hc hx' h2⟩
    have e1 : (i + 1) * E.sz = c0.length + i * E.sz := by rw [hl, Nat.add_mul]; omega
    have e2 : (i + 1) * E.sz + E.sz = c0.length + (i * E.sz + E.sz) := by rw [hl, Nat.add_mul]; omega
    rw [e2, List.drop_append, e1, List.take_append, List.take_of_length_le (show c0.length ≤ c0.length + i * E.sz by omega), List.drop_of_length_le (show c0.length ≤ c0.length + (i * E.sz + E.sz) by omega)]
    simp

section
variable {α : Type} {E : El α} {b e : Env} {L : List HP} {w : World} {T : TypeId} {xs : List α}
theorem Sat.rows_storeAt {P : Program} {g n cap i : Nat} {x' : α} {c : List Value} (h : Sat e (HP.rows T E (.slice (some ⟨g, 0, none⟩) n cap) xs :: L) w) (hi : i < xs.length) (hc : E.rd e.h x' c) :
    ∃ w', (Go.storeCells ⟨g, i * E.sz, none⟩ c).run P w = .ok () w' ∧ Sat e (HP.rows T E (.slice (some ⟨g, 0, none⟩) n cap) (xs.set i x') :: L) w' := by
  have hn : n = xs.length := by obtain ⟨_, _, hv, _⟩ := h.rows_form; simp only [Value.slice.injEq] at hv; exact hv.2.1
  subst hn
  obtain ⟨cs, hr, hs⟩ := h.rows_open
  have hcl := E.len hc
  have hcs := El.rds_len hr
  have hle : i * E.sz + E.sz ≤ xs.length * E.sz := by
    have : (i + 1) * E.sz ≤ xs.length * E.sz := Nat.mul_le_mul_right _ hi
    rw [Nat.add_mul] at this; omega
  obtain ⟨_, ⟨hx, _⟩ | ⟨g', cap', cur, hv, h1, h2, h3, h4, hs1⟩⟩ := hs.row_open
  · cases hx
  · simp only [Value.slice.injEq, Option.some.injEq, Addr.mk.injEq, and_true, true_and] at hv
    obtain ⟨rfl, rfl⟩ := hv
    have hsz : xs.length * E.sz ≤ cur.size := by rw [h3]; exact Nat.mul_le_mul_right _ h1
    obtain ⟨hst, hs2⟩ := hs1.storeCells (P := P) (off := i * E.sz) (cs := c) (by rw [hcl]; omega) (E.one hc)
    refine ⟨_, hst, Sat.rows_shut (cs := cs.take (i * E.sz) ++ c ++ cs.drop (i * E.sz + E.sz)) ?_ (El.rds_putAt hc hi hr)⟩
    rw [List.length_set]
    refine hs2.row_shut h1 h2 (by rw [laid_size (by rw [hcl]; omega), h3]) ?_
    unfold laid
    rw [hcl, ← h4]
    simp only []
    rw [List.take_append, List.take_append, List.take_take, List.drop_take, List.take_take]
    have a1 : (cur.toList.take (i * E.sz)).length = i * E.sz := by rw [List.length_take, Array.length_toList]; omega
    rw [List.length_append, a1, hcl]
    have a2 : min (xs.length * E.sz) (i * E.sz) = i * E.sz := by omega
    have a3 : min (i * E.sz) (xs.length * E.sz) = i * E.sz := by omega
    rw [a2, a3]
    rw [List.take_of_length_le (l := c) (by rw [hcl]; omega), Nat.sub_add_eq]
theorem St.rows_storeAt {P : Program} {g n cap i : Nat} {x' : α} {c : List Value} (h : St b (HP.rows T E (.slice (some ⟨g, 0, none⟩) n cap) xs :: L) w) (hi : i < xs.length) (hc : ∀ e, b.le e → Sat e (HP.rows T E (.slice (some ⟨g, 0, none⟩) n cap) xs :: L) w → E.rd e.h x' c) :
    ∃ w', (Go.storeCells ⟨g, i * E.sz, none⟩ c).run P w = .ok () w' ∧ St b (HP.rows T E (.slice (some ⟨g, 0, none⟩) n cap) (xs.set i x') :: L) w' := by
  obtain ⟨e, hl, hs⟩ := h
  obtain ⟨w', h1, h2⟩ := hs.rows_storeAt (P := P) hi (hc e hl hs)
  exact ⟨w', h1, e, hl, h2⟩
end

section
variable {P : Program} {ops : Array Oper} {rest : List Oper} {o : Oper} {a : Act} {w : World} {Q : Exit → Act → World → Prop} {b : Env} {L : List HP} {α : Type} {E : El α} {T : TypeId} {xs : List α}
theorem run_storeE {g off : Nat} {cs : List Value} {w' : World} (S : TypeId) (x y : Operand) (ho : o.op = .store S x y) (hi : (P.info? S).map (·.size) = some cs.length) (hx : a.eval x = .pointer (some ⟨g, off, none⟩)) (hy : (a.eval y).cells = cs.toArray) (hst : (Go.storeCells ⟨g, off, none⟩ cs).run P w = .ok () w') : (execOp a.eval o).run P w = .ok .skip w' := by
  cases hq : P.info? S with
  | none => simp [hq] at hi
  | some i =>
    have hsz : i.size = cs.length := by simpa [hq] using hi
    simp [execOp, ho, hx, hy, Instr.storeAt, Instr.sureAddr, storeVar, sizeOf, typeInfo, hq, hsz, hst]
/-- 'xs[i] = v', whole. -/
theorem wpList_storeE_st (hg : o.guard = none) (S : TypeId) (x y : Operand) (ho : o.op = .store S x y) {g n cap off : Nat} {cs : List Value} (i : Nat) (hi : (P.info? S).map (·.size) = some cs.length) (hx : a.eval x = .pointer (some ⟨g, off, none⟩)) (hoff : off = i * E.sz) (hy : (a.eval y).cells = cs.toArray)
    (hs : St b (HP.rows T E (.slice (some ⟨g, 0, none⟩) n cap) xs :: L) w) (hil : i < xs.length) {x' : α} (hc : ∀ e, b.le e → Sat e (HP.rows T E (.slice (some ⟨g, 0, none⟩) n cap) xs :: L) w → E.rd e.h x' cs)
    (h : ∀ w', St b (HP.rows T E (.slice (some ⟨g, 0, none⟩) n cap) (xs.set i x') :: L) w' → wpList P ops Q rest (a.put o.dst undef) w') : wpList P ops Q (o :: rest) a w := by
  obtain ⟨w', h1, h2⟩ := hs.rows_storeAt (P := P) hil hc
  subst hoff
  exact wpList_unit hg (run_storeE S x y ho hi hx hy h1) (h w' h2)
theorem step_storeE_st {K : Act → World → Prop} {X : Prop} (hg : o.guard = none) (S : TypeId) (x y : Operand) (ho : o.op = .store S x y) {g n cap off : Nat} {cs : List Value} (i : Nat) (hi : (P.info? S).map (·.size) = some cs.length) (hx : a.eval x = .pointer (some ⟨g, off, none⟩)) (hoff : off = i * E.sz) (hy : (a.eval y).cells = cs.toArray)
    (hs : St b (HP.rows T E (.slice (some ⟨g, 0, none⟩) n cap) xs :: L) w) (hil : i < xs.length) {x' : α} (hc : ∀ e, b.le e → Sat e (HP.rows T E (.slice (some ⟨g, 0, none⟩) n cap) xs :: L) w → E.rd e.h x' cs)
    (h : ∀ w', St b (HP.rows T E (.slice (some ⟨g, 0, none⟩) n cap) (xs.set i x') :: L) w' → K (a.put o.dst undef) w') : if Region.wanted o (yielded ops a.tmps) = true then Oper.wp P o a w K Q else X := by
  have hw : Region.wanted o (yielded ops a.tmps) = true := by simp [Region.wanted, hg]
  rw [if_pos hw]
  obtain ⟨w', h1, h2⟩ := hs.rows_storeAt (P := P) hil hc
  subst hoff
  unfold Oper.wp
  rw [run_storeE S x y ho hi hx hy h1, Oper.upon_skip]
  exact h w' h2
/-- A struct loaded from anywhere, whatever the world. -/
theorem run_loadO {zs cs : List Value} {S : TypeId} (A : AgT P S zs) (x : Operand) (ho : o.op = .load S x) {g off : Nat} (hx : a.eval x = .pointer (some ⟨g, off, none⟩)) (hl : cs.length = zs.length) (hc : ∀ j u, cs[j]? = some u → w.cell? ⟨g, off + j, none⟩ = some u) : (execOp a.eval o).run P w = .ok (.value (.agg cs.toArray)) w := by
  obtain ⟨d, hu, hd⟩ := A.desc
  simp [execOp, ho, hx, Instr.loadAt, Instr.sureAddr, run_load_agg hu hd (show (P.info? S).map (·.size) = some cs.length by rw [hl]; exact A.size) hc]
end

section
variable {P : Program} {ops : Array Oper} {rest : List Oper} {o : Oper} {a : Act} {w : World} {Q : Exit → Act → World → Prop} {b : Env} {L : List HP} {t T : TypeId} {sz bytes : Nat} {z : Value}
theorem step_wval {K : Act → World → Prop} {X : Prop} (hg : o.guard = none) {v : Value} {w' : World} (hr : (execOp a.eval o).run P w = .ok (.value v) w') (h : K (a.put o.dst v) w') : if Region.wanted o (yielded ops a.tmps) = true then Oper.wp P o a w K Q else X := by
  have hw : Region.wanted o (yielded ops a.tmps) = true := by simp [Region.wanted, hg]
  rw [if_pos hw]
  unfold Oper.wp
  rw [hr, Oper.upon_value]
  exact h
theorem step_val {K : Act → World → Prop} {X : Prop} (hg : o.guard = none) {v : Value} (hr : (execOp a.eval o).run P w = .ok (.value v) w) (h : K (a.put o.dst v) w) : if Region.wanted o (yielded ops a.tmps) = true then Oper.wp P o a w K Q else X := by
  have hw : Region.wanted o (yielded ops a.tmps) = true := by simp [Region.wanted, hg]
  rw [if_pos hw]
  unfold Oper.wp
  rw [hr, Oper.upon_value]
  exact h
theorem step_build0_st {α : Type} {E : El α} {K : Act → World → Prop} {X : Prop} (hg : o.guard = none) (S : SlT P t T E.sz bytes z) (ho : o.op = .buildSlice t 0 #[]) (hs : St b L w)
    (h : ∀ g w', St b (HP.rows T E (.slice (some ⟨g, 0, none⟩) 0 0) ([] : List α) :: L) w' → K (a.put o.dst (.slice (some ⟨g, 0, none⟩) 0 0)) w') : if Region.wanted o (yielded ops a.tmps) = true then Oper.wp P o a w K Q else X := by
  obtain ⟨i, hi, _⟩ := info_parts S.info
  refine step_wval hg (w' := w.alloc (.cells #[] T)) (v := .slice (some ⟨w.heap.size, 0, none⟩) 0 0) (by simp [execOp, ho, run_build0 S.ht hi]) (h _ _ ((hs.alloc (.cells #[] T)).rows0 E))
/-- '[]T{..}', its block as it lies. -/
theorem wpList_buildB_st (hg : o.guard = none) (n : Nat) (ps : Array (Nat × Operand)) (S : SlT P t T sz bytes z) (ho : o.op = .buildSlice t n ps) (hn : 0 < n) (hn2 : n ≤ 1000) (vs : List Value)
    (hvs : ps.toList.map (fun p => (p.1, a.eval p.2)) = vs.zipIdx.map (fun p => (p.2, p.1))) (hl : vs.length = n) (hv : ∀ v ∈ vs, v.cells.size = sz) (hs : St b L w) {cs : List Value} (hcs : vs.flatMap (fun v => v.cells.toList) = cs)
    (h : ∀ g w', St b (HP.blk g (.cells cs.toArray T) :: L) w' → wpList P ops Q rest (a.put o.dst (.slice (some ⟨g, 0, none⟩) n n)) w') : wpList P ops Q (o :: rest) a w := by
  obtain ⟨i, hi, hz, hsize, _⟩ := info_parts S.info
  obtain ⟨e, hle, hs⟩ := hs
  subst hcs
  refine wpList_build_sl hg t n ps ho S.ht hi hz hsize hn S.pos (by have := S.small; exact Nat.le_trans (Nat.mul_le_mul hn2 this) (by decide)) vs hvs hl hv hs ?_
  intro g w' h'
  exact h g w' ⟨e, hle, h'.row_blk⟩
theorem step_storeB_st {K : Act → World → Prop} {X : Prop} (hg : o.guard = none) (S : TypeId) (x y : Operand) (ho : o.op = .store S x y) {g off : Nat} {cs : List Value} {c d : List Value} {U : TypeId} (hi : (P.info? S).map (·.size) = some cs.length) (hx : a.eval x = .pointer (some ⟨g, off, none⟩)) (hy : a.eval y = .agg cs.toArray) (h1 : ∀ v ∈ cs, v.oneCell' = true)
    (hs : St b (HP.blk g (.cells c.toArray U) :: L) w) (hfit : off + cs.length ≤ c.length) (hd : c.take off ++ cs ++ c.drop (off + cs.length) = d) (h : ∀ w', St b (HP.blk g (.cells d.toArray U) :: L) w' → K (a.put o.dst undef) w') : if Region.wanted o (yielded ops a.tmps) = true then Oper.wp P o a w K Q else X := by
  have hw : Region.wanted o (yielded ops a.tmps) = true := by simp [Region.wanted, hg]
  rw [if_pos hw]
  obtain ⟨e, hle, hs⟩ := hs
  obtain ⟨hst, hs'⟩ := hs.storeCells (P := P) (cs := cs) (off := off) (by simpa using hfit) h1
  have hld : laid c.toArray off cs = d.toArray := by unfold laid; rw [← hd]
  rw [hld] at hst hs'
  unfold Oper.wp
  rw [run_storeE S x y ho hi hx (by rw [hy]; rfl) hst, Oper.upon_skip]
  exact h _ ⟨e, hle, hs'⟩
end

/-! ### an owned slice that begins within its block -/
def HP.rowO (E : TypeId) (size : Nat) (v : Value) (n : Nat) (xs : List Value) : HP :=
  ⟨fun _ m => xs.length = n * size ∧ ((v = .slice none 0 0 ∧ n = 0) ∨
    ∃ g off cap cur, v = .slice (some ⟨g, off, none⟩) n cap ∧ m g = some (.cells cur E (0, 0)) ∧ n ≤ cap ∧ cap ≤ maxLen ∧ off + cap * size ≤ cur.size ∧ (cur.toList.drop off).take (n * size) = xs), fun _ h => h⟩
section
variable {E : TypeId} {size : Nat} {v : Value} {n : Nat} {xs : List Value} {e : Env} {L : List HP} {w : World}
theorem Sat.rowO_open (h : Sat e (HP.rowO E size v n xs :: L) w) : xs.length = n * size ∧ ((v = .slice none 0 0 ∧ n = 0 ∧ xs = [] ∧ Sat e L w) ∨
    ∃ g off cap cur, v = .slice (some ⟨g, off, none⟩) n cap ∧ n ≤ cap ∧ cap ≤ maxLen ∧ off + cap * size ≤ cur.size ∧ (cur.toList.drop off).take (n * size) = xs ∧ Sat e (HP.blk g (.cells cur E (0, 0)) :: L) w) := by
  obtain ⟨f, hf, hp⟩ := h.own
  obtain ⟨hl, h0⟩ := hp 0 _ rfl
  refine ⟨hl, ?_⟩
  rcases h0 with ⟨h1, h2⟩ | ⟨g, off, cap, cur, h1, h2, h3, h4, h5, h6⟩
  · exact Or.inl ⟨h1, h2, List.eq_nil_of_length_eq_zero (by rw [hl, h2, Nat.zero_mul]), h.drop⟩
  · exact Or.inr ⟨g, off, cap, cur, h1, h3, h4, h5, h6, h.os, h.output, h.tape, h.fixed, f, hf, fun i R hR => by
      cases i with
      | zero => simp at hR; subst hR; exact h2
      | succ i => exact hp (i + 1) R (by simpa using hR)⟩
theorem Sat.rowO_shut {g off cap : Nat} {cur : Array Value} (h : Sat e (HP.blk g (.cells cur E (0, 0)) :: L) w) (h1 : n ≤ cap) (h2 : cap ≤ maxLen) (h3 : off + cap * size ≤ cur.size) (h4 : (cur.toList.drop off).take (n * size) = xs) : Sat e (HP.rowO E size (.slice (some ⟨g, off, none⟩) n cap) n xs :: L) w :=
  h.head (fun m hm => ⟨by
    have : n * size ≤ cap * size := Nat.mul_le_mul_right _ h1
    rw [← h4, List.length_take, List.length_drop, Array.length_toList]; omega, Or.inr ⟨g, off, cap, cur, rfl, hm, h1, h2, h3, h4⟩⟩)
theorem Sat.rowO_nil (h : Sat e L w) (E : TypeId) (size : Nat) : Sat e (HP.rowO E size (.slice none 0 0) 0 [] :: L) w :=
  h.lay (fun _ => ⟨by simp, Or.inl ⟨rfl, rfl⟩⟩)
theorem Sat.row_rowO (h : Sat e (HP.row E size v n xs :: L) w) : Sat e (HP.rowO E size v n xs :: L) w := by
  obtain ⟨hl, ⟨rfl, rfl, rfl, hs⟩ | ⟨g, cap, cur, rfl, h1, h2, h3, h4, hs⟩⟩ := h.row_open
  · exact hs.rowO_nil E size
  · exact hs.rowO_shut h1 h2 (by omega) (by simpa using h4)
theorem drop_get {α : Type} {cur : Array α} {off k : Nat} {xs : List α} (h : (cur.toList.drop off).take k = xs) (j : Nat) (u : α) (hu : xs[j]? = some u) : cur[off + j]? = some u := by
  rw [← h, List.getElem?_take] at hu
  split at hu
  · simpa using hu
  · cases hu
theorem Sat.rowO_view (h : Sat e (HP.rowO E size v n xs :: L) w) : View (World.frag w) v n xs := by
  obtain ⟨_, ⟨rfl, rfl, rfl, _⟩ | ⟨g, off, cap, cur, rfl, _, _, _, h4, hs⟩⟩ := h.rowO_open
  · exact View.nil _
  · exact ⟨_, _, rfl, Or.inr ⟨g, off, cur, E, (0, 0), rfl, hs.at, drop_get h4⟩⟩
theorem Sat.rowO_persist (h : Sat e (HP.rowO E size v n xs :: L) w) : ∃ e', e.le e' ∧ View e'.h v n xs ∧ Sat e' L w := by
  obtain ⟨_, ⟨rfl, rfl, rfl, hs⟩ | ⟨g, off, cap, cur, rfl, _, _, _, h4, hs⟩⟩ := h.rowO_open
  · exact ⟨e, Env.le_refl e, View.nil _, hs⟩
  · obtain ⟨e', hle, hat, hs'⟩ := hs.persist
    exact ⟨e', hle, ⟨_, _, rfl, Or.inr ⟨g, off, cur, E, (0, 0), rfl, hat, drop_get h4⟩⟩, hs'⟩
/-- 's[l:]'. -/
theorem Sat.rowO_low {base : Option Addr} {cap : Nat} (h : Sat e (HP.rowO E size (.slice base n cap) n xs :: L) w) (l : Nat) (hl : l ≤ n) : Sat e (HP.rowO E size (.slice (fromBase base cap l size) (n - l) (cap - l)) (n - l) (xs.drop (l * size)) :: L) w := by
  obtain ⟨hx, ⟨hv, rfl, rfl, hs⟩ | ⟨g, off, cap', cur, hv, h1, h2, h3, h4, hs⟩⟩ := h.rowO_open
  · simp only [Value.slice.injEq] at hv
    obtain ⟨rfl, -, rfl⟩ := hv
    have hl0 : l = 0 := by omega
    subst hl0
    simpa [fromBase] using hs.rowO_nil E size
  · simp only [Value.slice.injEq, true_and] at hv
    obtain ⟨rfl, rfl⟩ := hv
    unfold fromBase
    by_cases hc : cap = l
    · rw [if_pos hc]
      have hn : n - l = 0 := by omega
      have hxe : xs.drop (l * size) = [] := List.drop_of_length_le (by rw [hx]; exact Nat.mul_le_mul_right _ (by omega))
      rw [hxe, hn]
      exact hs.rowO_shut (Nat.zero_le _) (by omega) (by have : (cap - l) * size ≤ cap * size := Nat.mul_le_mul_right _ (Nat.sub_le _ _); omega) (by simp)
    · rw [if_neg hc]
      have hlc : l * size ≤ cap * size := Nat.mul_le_mul_right _ (by omega)
      have hsub : (cap - l) * size = cap * size - l * size := Nat.sub_mul _ _ _
      have hsub2 : (n - l) * size = n * size - l * size := Nat.sub_mul _ _ _
      have := hs.rowO_shut (n := n - l) (off := off + l * size) (cap := cap - l) (size := size) (xs := xs.drop (l * size)) (by omega) (by omega) (by omega) (by
        rw [hsub2, ← h4, List.drop_take, List.drop_drop])
      simpa [Addr.add_lit] using this
end
section
variable {E : TypeId} {size : Nat} {v : Value} {n : Nat} {xs : List Value} {e : Env} {L : List HP} {w : World}
set_option maxHeartbeats 400000 in
theorem run_append_rowO {P : Program} {t ty : TypeId} {i : TypeInfo} {z : Value} {bytes : Nat} (ht : P.underlying t = some (.slice E)) (hi : P.info? E = some i) (hz : i.zero = some z) (hsize : i.size = size) (hby : i.bytes = bytes) (hzs : z.cells.size = size) (hsz : 0 < size)
    (h : Sat e (HP.rowO E size v n xs :: L) w) {sv : Value} {m : Nat} {news : List Value} (H : View (World.frag w) sv m news) (hl : news.length = m * size) (h1 : ∀ u ∈ news, u.oneCell' = true)
    (h63 : n + m ≤ maxLen) (hbytes : (n + m) * bytes ≤ 140737488355328) :
    ∃ v' w', (Builtin.append_ #[t, t] ty #[v, sv]).run P w = .ok v' w' ∧ Sat e (HP.rowO E size v' (n + m) (xs ++ news) :: L) w' := by
  subst hsize; subst hby
  have hsmall : n + m ≤ 9223372036854775807 := by simp only [maxLen] at h63; omega
  obtain ⟨hxl, h0⟩ := h.rowO_open
  have hlen : (xs ++ news).length = (n + m) * i.size := by rw [List.length_append, hxl, hl, Nat.add_mul]
  have grown : ∀ (old : Nat), old < n + m → Sat e L w →
      Sat e (HP.row E i.size (.slice (some ⟨w.heap.size, 0, none⟩) (n + m) (grownCap w (n + m) old E)) (n + m) (xs ++ news) :: L) (w.drew.alloc (.cells (xs.toArray ++ news.toArray ++ Builtin.zeroCells z.cells (grownCap w (n + m) old E - (n + m))) E)) := by
    intro old ho hs
    have hge := grownCap_ge w (n + m) old E
    refine (hs.drew.alloc (.cells (xs.toArray ++ news.toArray ++ Builtin.zeroCells z.cells (grownCap w (n + m) old E - (n + m))) E)).row_shut hge (grownCap_le_maxLen w (n + m) old E h63) ?_ ?_
    · simp only [Array.size_append, List.size_toArray, size_zeroCells, hzs, hxl, hl, ← Nat.add_mul]
      congr 1; omega
    · simp only [Array.toList_append, List.append_assoc]
      rw [← List.append_assoc, ← hlen]
      exact List.take_left
  rcases h0 with ⟨rfl, rfl, rfl, hs⟩ | ⟨g, off, cap, cur, rfl, hnc, hcm, hcs, htake, hs⟩
  · obtain ⟨v', w', a1, a2, _⟩ := run_append_sl (ty := ty) ht hi hz rfl rfl hzs hsz (hs.row_nil E i.size) H hl h1 h63 hbytes
    exact ⟨v', w', a1, a2.row_rowO⟩
  · by_cases hroom : n + m ≤ cap
    · have hnm : (n + m) * i.size ≤ cap * i.size := Nat.mul_le_mul_right _ hroom
      have hfit : off + n * i.size + news.length ≤ cur.size := by rw [hl]; rw [Nat.add_mul] at hnm; omega
      have hf := firstCells_view (P := P) H hl
      have hst := run_storeCells_at P g (off + n * i.size) E news 0 cur w hs.at (by simpa using hfit) h1
      simp only [Nat.add_zero] at hst
      refine ⟨.slice (some ⟨g, off, none⟩) (n + m) cap, w.setRow g (cur.toList.take (off + n * i.size) ++ news ++ cur.toList.drop (off + n * i.size + news.length)).toArray, ?_, ?_⟩
      · obtain ⟨base, c, rfl, _⟩ := H
        simp [Builtin.append_, run_underlying ht, sizeOf, typeInfo, hi, Builtin.lenOf, hroom, hf, Addr.add_lit, hst]
      · have hs2 : Sat e (HP.blk g (.cells (cur.toList.take (off + n * i.size) ++ news ++ cur.toList.drop (off + n * i.size + news.length)).toArray E (0, 0)) :: L) (w.setRow g (cur.toList.take (off + n * i.size) ++ news ++ cur.toList.drop (off + n * i.size + news.length)).toArray) :=
          hs.upd rfl rfl rfl (by simp) (fun k _ hk => setRow_other w g k _ hk) (setRow_heap w g cur _ E _ hs.at) (Or.inl rfl)
        refine hs2.rowO_shut hroom hcm ?_ ?_
        · simp only [List.size_toArray, List.length_append, List.length_take, List.length_drop, Array.length_toList]
          omega
        · have hd : ((cur.toList.take (off + n * i.size) ++ news ++ cur.toList.drop (off + n * i.size + news.length)).toArray.toList.drop off) = xs ++ news ++ cur.toList.drop (off + n * i.size + news.length) := by
            simp only []
            rw [List.append_assoc, List.drop_append_of_le_length (by rw [List.length_take, Array.length_toList]; omega), List.drop_take, show off + n * i.size - off = n * i.size by omega, htake, List.append_assoc]
          rw [hd, ← hlen]
          exact List.take_left
    · have hne : news ≠ [] := fun hx => by
        rw [hx] at hl
        have : m = 0 := by
          rcases Nat.mul_eq_zero.1 hl.symm with h | h
          · exact h
          · omega
        omega
      have fits : ∀ old, old < n + m → Builtin.nextslicecap (n + m) old * i.bytes ≤ 281474976710656 := fun old ho => growslice_fits ho hbytes
      obtain ⟨b, o, c, rfl, hc⟩ := H.cells hne
      have hr := run_append_grow (P := P) w t ty E i z ht hi hz ⟨g, off, none⟩ n cap xs hxl (fun j u hj => by rw [Addr.add_lit, cell_of hs.at]; exact drop_get htake j u hj) ⟨b, o, none⟩ m c news hl (fun j u hj => by rw [Addr.add_lit]; exact hc j u hj) (by omega) (by omega) (fits cap (by omega))
      exact ⟨_, _, hr, (grown cap (by omega) hs.drop).row_rowO⟩
end
def HP.rowsO {α : Type} (T : TypeId) (E : El α) (v : Value) (xs : List α) : HP :=
  ⟨fun e m => ∃ cs, E.rds e.h xs cs ∧ (HP.rowO T E.sz v xs.length cs).p e m, fun k ⟨cs, h1, h2⟩ => ⟨cs, El.rds_up k.h h1, (HP.rowO T E.sz v xs.length cs).up k h2⟩⟩
section
variable {α : Type} {E : El α} {b e : Env} {L : List HP} {w : World} {T : TypeId} {xs ys : List α} {v : Value}
theorem Sat.rowsO_open (h : Sat e (HP.rowsO T E v xs :: L) w) : ∃ cs, E.rds e.h xs cs ∧ Sat e (HP.rowO T E.sz v xs.length cs :: L) w :=
  h.tell (q := fun cs => E.rds e.h xs cs) (Q := fun cs => HP.rowO T E.sz v xs.length cs) (fun _ hm => hm)
theorem Sat.rowsO_shut {cs : List Value} (h : Sat e (HP.rowO T E.sz v xs.length cs :: L) w) (hr : E.rds e.h xs cs) : Sat e (HP.rowsO T E v xs :: L) w :=
  h.head (fun _ hm => ⟨cs, hr, hm⟩)
theorem St.rows_rowsO (h : St b (HP.rows T E v xs :: L) w) : St b (HP.rowsO T E v xs :: L) w := by
  obtain ⟨e, hl, hs⟩ := h
  obtain ⟨cs, hr, hs⟩ := hs.rows_open
  exact ⟨e, hl, Sat.rowsO_shut hs.row_rowO hr⟩
theorem St.rowsO_form (h : St b (HP.rowsO T E v xs :: L) w) : ∃ base cap, v = .slice base xs.length cap ∧ xs.length ≤ cap ∧ cap ≤ maxLen ∧ (0 < xs.length → ∃ g off, base = some ⟨g, off, none⟩) := by
  obtain ⟨e, hl, hs⟩ := h
  obtain ⟨cs, _, hs⟩ := hs.rowsO_open
  obtain ⟨_, ⟨hv, hn, _, _⟩ | ⟨g, off, cap, cur, hv, h1, h2, _⟩⟩ := hs.rowO_open
  · exact ⟨none, 0, by rw [hn]; exact hv, by omega, Nat.zero_le _, fun h => by omega⟩
  · exact ⟨_, cap, hv, h1, h2, fun _ => ⟨g, off, rfl⟩⟩
theorem St.rowsO_cells {g off n cap i : Nat} {x : α} (h : St b (HP.rowsO T E (.slice (some ⟨g, off, none⟩) n cap) xs :: L) w) (hi : xs[i]? = some x) : ∃ e cs, b.le e ∧ Sat e (HP.rowsO T E (.slice (some ⟨g, off, none⟩) n cap) xs :: L) w ∧ E.rd e.h x cs ∧ ∀ j u, cs[j]? = some u → w.cell? ⟨g, off + (i * E.sz + j), none⟩ = some u := by
  obtain ⟨e, hl, hs0⟩ := h
  obtain ⟨cs, hr, hs⟩ := hs0.rowsO_open
  obtain ⟨c, h1, h2⟩ := El.rds_get hr hi
  refine ⟨e, c, hl, hs0, h1, fun j u hj => ?_⟩
  have hx := h2 j u hj
  obtain ⟨_, ⟨hv, _⟩ | ⟨g', off', cap', cur, hv, _, _, _, h4, hs1⟩⟩ := hs.rowO_open
  · cases hv
  · simp only [Value.slice.injEq, Option.some.injEq, Addr.mk.injEq, and_true] at hv
    obtain ⟨⟨rfl, rfl⟩, -, rfl⟩ := hv
    rw [cell_of hs1.at]
    exact drop_get h4 _ _ hx
theorem St.rowsO_persist (h : St b (HP.rowsO T E v xs :: L) w) : St b (HP.sl E v xs :: L) w := by
  obtain ⟨base, cap, hv, h1, h2, _⟩ := h.rowsO_form
  obtain ⟨e, hl, hs⟩ := h
  obtain ⟨cs, hr, hs⟩ := hs.rowsO_open
  obtain ⟨e', hle, hvw, hs'⟩ := hs.rowO_persist
  exact ⟨e', hl.trans hle, hs'.lay (fun _ => ⟨cs, El.rds_up hle.h hr, hvw, base, cap, hv, h1, h2⟩)⟩
theorem St.rowsO_low {base : Option Addr} {n cap : Nat} (h : St b (HP.rowsO T E (.slice base n cap) xs :: L) w) (l : Nat) (hl : l ≤ xs.length) : St b (HP.rowsO T E (.slice (fromBase base cap l E.sz) (n - l) (cap - l)) (xs.drop l) :: L) w := by
  obtain ⟨_, _, hv, _⟩ := h.rowsO_form
  simp only [Value.slice.injEq] at hv
  obtain ⟨-, rfl, -⟩ := hv
  obtain ⟨e, hle, hs⟩ := h
  obtain ⟨cs, hr, hs⟩ := hs.rowsO_open
  refine ⟨e, hle, Sat.rowsO_shut (cs := cs.drop (l * E.sz)) ?_ (El.rds_part l hl hr).2⟩
  rw [List.length_drop]
  exact hs.rowO_low l hl
variable {f : α → Value} {ok : α → Prop} {h1 : ∀ x, (f x).oneCell' = true}
theorem St.sc_rowO_at {g off n cap i : Nat} (h : St b (HP.rowsO T (El.sc f ok h1) (.slice (some ⟨g, off, none⟩) n cap) xs :: L) w) (hi : i < xs.length) : w.cell? ⟨g, off + i, none⟩ = some (f xs[i]) ∧ ok xs[i] := by
  obtain ⟨e, cs, _, _, hr, hc⟩ := h.rowsO_cells (List.getElem?_eq_getElem hi)
  obtain ⟨rfl, hok⟩ := hr
  have := hc 0 (f xs[i]) rfl
  have e1 : off + (i * (El.sc f ok h1).sz + 0) = off + i := by show off + (i * 1 + 0) = off + i; omega
  rw [e1] at this
  exact ⟨this, hok⟩
end
section
variable {P : Program} {ops : Array Oper} {rest : List Oper} {o : Oper} {a : Act} {w : World} {Q : Exit → Act → World → Prop} {b : Env} {L : List HP} {α : Type} {E : El α} {t T : TypeId} {bytes : Nat} {z : Value} {xs ys : List α}
theorem wpList_appendO_st (hg : o.guard = none) (s x : Operand) (S : SlT P t T E.sz bytes z) (ho : o.op = .call { callee := .builtin .append, args := #[s, x], argTypes := #[t, t] })
    {v sv : Value} (hs : St b (HP.rowsO T E v xs :: L) w) (hsrc : Src E (HP.rowsO T E v xs :: L) w sv ys) (hv : a.eval s = v) (hx : a.eval x = sv)
    (h63 : xs.length + ys.length ≤ maxLen) (hbytes : (xs.length + ys.length) * bytes ≤ 140737488355328)
    (h : ∀ base n cap w', n = xs.length + ys.length → St b (HP.rowsO T E (.slice base n cap) (xs ++ ys) :: L) w' → wpList P ops Q rest (a.put o.dst (.slice base n cap)) w') : wpList P ops Q (o :: rest) a w := by
  obtain ⟨i, hi, hz, hsize, hby⟩ := info_parts S.info
  obtain ⟨e, hl, hs⟩ := hs
  obtain ⟨ds, hrd, hview⟩ := hsrc e hs
  obtain ⟨cs, hrc, hs1⟩ := hs.rowsO_open
  obtain ⟨v', w', hrun, hs2⟩ := run_append_rowO (ty := o.type) S.ht hi hz hsize hby S.zs S.pos hs1 hview (El.rds_len hrd) (El.rds_one hrd) h63 hbytes
  have hs3 : St b (HP.rowsO T E v' (xs ++ ys) :: L) w' := ⟨e, hl, Sat.rowsO_shut (cs := cs ++ ds) (by rw [List.length_append]; exact hs2) (El.rds_append hrc hrd)⟩
  obtain ⟨base, cap, rfl, _⟩ := hs3.rowsO_form
  exact wpList_val hg (by simp [execOp, ho, resolve, invoke, builtin, hv, hx, hrun]) (h base _ cap w' (by rw [List.length_append]) hs3)
theorem wpList_lowO_st (hg : o.guard = none) (x lo : Operand) (S : SlT P t T E.sz bytes z) (ho : o.op = .slice t x (some lo) none none) {base : Option Addr} {n cap : Nat} (hs : St b (HP.rowsO T E (.slice base n cap) xs :: L) w) (hx : a.eval x = .slice base n cap) (l : Nat) (k : IntKind) (hlo : a.eval lo = .int k (l : Int)) (hl : l ≤ xs.length)
    (h : ∀ base' cap', St b (HP.rowsO T E (.slice base' (n - l) cap') (xs.drop l) :: L) w → wpList P ops Q rest (a.put o.dst (.slice base' (n - l) cap')) w) : wpList P ops Q (o :: rest) a w := by
  have hn : n = xs.length := by obtain ⟨_, _, hv, _⟩ := hs.rowsO_form; simp only [Value.slice.injEq] at hv; exact hv.2.1
  have hr := run_slice_low (E := E) S base n cap l (by omega) k w
  exact wpList_val hg (by simp [execOp, ho, hx, hlo, hr]) (h _ _ (hs.rowsO_low l hl))
end
end Go.Proofs.YtcgnkloljfgiaaaGreatDoor
