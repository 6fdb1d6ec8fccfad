/-
  No program in sight: slice literals; strings of guarded conversions.
-/
import Derived.Test.YtcgnkloljfgiaaaGreatDoorOp
namespace Go.Proofs.YtcgnkloljfgiaaaGreatDoor
open Go.RowKit Go.Maps Go.MapKept
variable {P : Program} {ops : Array Oper} {rest : List Oper} {o : Oper} {a : Act} {w : World} {Q : Exit → Act → World → Prop}

theorem fold_laid (off : Nat) : ∀ (l : List Value) (j : Nat) (c : Array Value), off + j + l.length ≤ c.size →
    (l.zipIdx j).foldl (fun cs p => cs.setIfInBounds (off + p.2) p.1) c = (c.toList.take (off + j) ++ l ++ c.toList.drop (off + j + l.length)).toArray
  | [], j, c, _ => by simp
  | x :: l, j, c, h => by
    simp only [List.length_cons] at h
    rw [List.zipIdx_cons, List.foldl_cons, fold_laid off l (j + 1) _ (by simp; omega)]
    congr 1
    have h1 : off + j < c.toList.length := by simp; omega
    simp only [Array.toList_setIfInBounds, List.length_cons]
    rw [show off + (j + 1) = off + j + 1 by omega, List.take_add_one, List.take_set, List.getElem?_set_self h1, List.set_eq_of_length_le (by simp; omega), List.drop_set_of_lt (by omega)]
    simp [Nat.add_assoc, Nat.add_comm 1]

theorem fill_seq (size : Nat) : ∀ (vs : List Value) (k : Nat) (c : Array Value), (∀ v ∈ vs, v.cells.size = size) → c.size = (k + vs.length) * size →
    Instr.fill (fun i => some (i * size, size)) c ((vs.zipIdx k).map (fun p => (p.2, p.1))) = some (c.toList.take (k * size) ++ vs.flatMap (fun v => v.cells.toList)).toArray
  | [], k, c, _, hc => by simp [Instr.fill, List.take_of_length_le (show c.toList.length ≤ k * size by simp [hc])]
  | v :: vs, k, c, hv, hc => by
    have hs : v.cells.size = size := hv v (by simp)
    have hl : (k + (vs.length + 1)) * size = k * size + size + vs.length * size := by rw [Nat.add_mul, Nat.add_mul, Nat.one_mul]; omega
    have hfit : k * size + v.cells.size ≤ c.size := by rw [hc, hs]; simp only [List.length_cons]; omega
    have hf : v.cells.zipIdx.foldl (fun cs (p : Value × Nat) => cs.setIfInBounds (k * size + p.2) p.1) c = (c.toList.take (k * size) ++ v.cells.toList ++ c.toList.drop (k * size + size)).toArray := by
      rw [← Array.foldl_toList, Array.toList_zipIdx, fold_laid (k * size) v.cells.toList 0 c (by simpa using hfit)]
      simp [hs]
    simp only [List.zipIdx_cons, List.map_cons, Instr.fill]
    rw [if_neg (by simp [hs]; simp [hs] at hfit; omega)]
    have hf' : v.cells.zipIdx.foldl (fun cs (x : Value × Nat) => match x with | (c, j) => cs.setIfInBounds (k * size + j) c) c = _ := hf
    rw [hf', fill_seq size vs (k + 1) _ (fun u hu => hv u (by simp [hu])) ?_]
    · congr 2
      have e1 : (List.take (k * size) c.toList ++ v.cells.toList).length = (k + 1) * size := by
        simp [hs, Nat.add_mul]; simp [hs] at hfit; omega
      rw [← e1, List.take_left]; simp
    · simp [hs]; simp [hs] at hfit; simp only [List.length_cons] at hc; rw [Nat.add_mul, Nat.add_mul]; rw [hl] at hc; omega

/-- 'make([]T, n)' as an equation of its run, for a region that draws its order. -/
theorem Sat.make_ex {e : Env} {L : List HP} {t E : TypeId} {i : TypeInfo} {z : Value} {size bytes : Nat} (hs : Sat e L w) (ht : P.underlying t = some (.slice E)) (hi : P.info? E = some i) (hz : i.zero = some z) (hsize : i.size = size) (hby : i.bytes = bytes)
    (kl kc : IntKind) (n : Nat) (hbytes : bytes * n ≤ 140737488355328) (h63 : n ≤ maxLen) :
    ∃ g w', (Instr.makeSlice t (.int kl n) (.int kc n)).run P w = .ok (.slice (some ⟨g, 0, none⟩) n n) w' ∧ Sat e (HP.row E size (.slice (some ⟨g, 0, none⟩) n n) n (madeCells z.cells (n * size)).toList :: L) w' := by
  obtain ⟨h1, h2⟩ := run_make_sl ht hi hz hsize hby hs kl kc n hbytes h63
  exact ⟨_, _, h1, h2⟩

theorem Sat.rot3 {e : Env} {A B C : HP} {L : List HP} (h : Sat e (A :: B :: C :: L) w) : Sat e (B :: C :: A :: L) w := h.pick [1, 2, 0] 3 (by decide) (by decide) (by simp)
theorem Sat.bring3 {e : Env} {A B C : HP} {L : List HP} (h : Sat e (A :: B :: C :: L) w) : Sat e (C :: A :: B :: L) w := h.pick [2, 0, 1] 3 (by decide) (by decide) (by simp)
theorem Sat.bring4 {e : Env} {A B C D : HP} {L : List HP} (h : Sat e (A :: B :: C :: D :: L) w) : Sat e (D :: A :: B :: C :: L) w := h.pick [3, 0, 1, 2] 4 (by decide) (by decide) (by simp)

/-- '[]T{}'. -/
theorem run_build0 {t E : TypeId} {i : TypeInfo} (ht : P.underlying t = some (.slice E)) (hi : P.info? E = some i) : (Instr.buildSlice t 0 #[]).run P w = .ok (.slice (some ⟨w.heap.size, 0, none⟩) 0 0) (w.alloc (.cells #[] E)) := by
  have h0 : ∀ f : Nat → Value, Array.map f (Array.range 0) = #[] := fun f => Array.eq_empty_of_size_eq_zero (by simp)
  simp [Instr.buildSlice, run_underlying ht, sizeOf, typeInfo, hi, Instr.fill, newRow, h0]

theorem Sat.build0 {e : Env} {L : List HP} {E : TypeId} (hs : Sat e L w) (size : Nat) : Sat e (HP.row E size (.slice (some ⟨w.heap.size, 0, none⟩) 0 0) 0 [] :: L) (w.alloc (.cells #[] E)) :=
  row_of_toArray (cs := []) (hs.alloc _) (by simp) (by simp)

theorem wpList_build0_sl (hg : o.guard = none) (t : TypeId) (ho : o.op = .buildSlice t 0 #[]) {E : TypeId} {i : TypeInfo} (ht : P.underlying t = some (.slice E)) (hi : P.info? E = some i) (size : Nat) {e : Env} {L : List HP} (hs : Sat e L w)
    (h : ∀ g w', Sat e (HP.row E size (.slice (some ⟨g, 0, none⟩) 0 0) 0 [] :: L) w' → wpList P ops Q rest (a.put o.dst (.slice (some ⟨g, 0, none⟩) 0 0)) w') : wpList P ops Q (o :: rest) a w :=
  wpList_val hg (by simp [execOp, ho, run_build0 ht hi]) (h _ _ (hs.build0 size))

/-- '[]T{..}', all places told in order. -/
theorem wpList_build_sl (hg : o.guard = none) (t : TypeId) (n : Nat) (ps : Array (Nat × Operand)) (ho : o.op = .buildSlice t n ps) {E : TypeId} {i : TypeInfo} {z : Value} {size : Nat} (ht : P.underlying t = some (.slice E)) (hi : P.info? E = some i) (hz : i.zero = some z) (hsize : i.size = size)
    (hn : 0 < n) (hs0 : 0 < size) (hn2 : n * size ≤ 2 ^ 24) (vs : List Value) (hvs : ps.toList.map (fun p => (p.1, a.eval p.2)) = vs.zipIdx.map (fun p => (p.2, p.1))) (hl : vs.length = n) (hv : ∀ v ∈ vs, v.cells.size = size)
    {e : Env} {L : List HP} (hs : Sat e L w)
    (h : ∀ g w', Sat e (HP.row E size (.slice (some ⟨g, 0, none⟩) n n) n (vs.flatMap (fun v => v.cells.toList)) :: L) w' → wpList P ops Q rest (a.put o.dst (.slice (some ⟨g, 0, none⟩) n n)) w') : wpList P ops Q (o :: rest) a w := by
  have hzw : (zeroValue E).run P w = .ok z w := by simp [zeroValue, typeInfo, hi, hz]
  have hpos : 0 < n * size := Nat.mul_pos hn hs0
  have hfl : (vs.flatMap (fun v => v.cells.toList)).length = n * size := by
    rw [← hl]; clear hvs hl h hpos hn2 hn
    induction vs with
    | nil => simp
    | cons v vs ih => simp only [List.flatMap_cons, List.length_append, ih (fun u hu => hv u (by simp [hu])), List.length_cons, Array.length_toList, hv v (by simp), Nat.add_mul]; omega
  have hfill : Instr.fill (fun i => some (i * size, size)) ((Array.range (n * size)).map (z.cells[· % z.cells.size]!)) (ps.map (fun p => (p.1, a.eval p.2))).toList = some (vs.flatMap (fun v => v.cells.toList)).toArray := by
    rw [Array.toList_map, hvs, fill_seq size vs 0 _ hv (by simp [hl])]; simp
  refine wpList_val hg (w' := w.alloc (.cells (vs.flatMap (fun v => v.cells.toList)).toArray E)) (v := .slice (some ⟨w.heap.size, 0, none⟩) n n) ?_ (h w.heap.size _ (row_of_toArray (hs.alloc _) hfl (by have := Nat.le_mul_of_pos_right n hs0; unfold maxLen; omega)))
  have h24 : ¬ n * size > 2 ^ 24 := by omega
  have h0 : ¬ n * size = 0 := by omega
  simp [execOp, ho, Instr.buildSlice, run_underlying ht, sizeOf, typeInfo, hi, hsize, h24, h0, hzw]
  rw [← Array.toList_map, hfill]
  simp [newRow]
end Go.Proofs.YtcgnkloljfgiaaaGreatDoor
