/-
  No program in sight: a map of owned slices ('m[k] = append(m[k], x)'); then one that never turns.
-/
import Derived.Test.YtcgnkloljfgiaaaGreatDoorTr
namespace Go.Proofs.YtcgnkloljfgiaaaGreatDoor
open Go.RowKit Go.Maps Go.MapKept

section
variable {α : Type} {E : El α} {b e : Env} {L : List HP} {w : World} {T : TypeId} {m : Nat}
def rowsAll (T : TypeId) (E : El α) : List (Str × Value × List α) → HP
  | [] => HP.pure True
  | (_, v, xs) :: r => HP.star (HP.rows T E v xs) (rowsAll T E r)
/-- Block m is a map of owned slices: of these lists. -/
def HP.mrows (T : TypeId) (E : El α) (m : Nat) (kvs : List (Str × List α)) : HP :=
  HP.ex (fun l : List (Str × Value × List α) => HP.star (HP.pure (l.map (fun t => (t.1, t.2.2)) = kvs)) (HP.star (HP.map sv okStr (fun v : Value => v) m (l.map (fun t => (t.1, t.2.1)))) (rowsAll T E l)))

theorem Sat.mrows_open {kvs : List (Str × List α)} (h : Sat e (HP.mrows T E m kvs :: L) w) : ∃ l : List (Str × Value × List α), l.map (fun t => (t.1, t.2.2)) = kvs ∧ Sat e (HP.map sv okStr (fun v : Value => v) m (l.map (fun t => (t.1, t.2.1))) :: rowsAll T E l :: L) w := by
  obtain ⟨l, h⟩ := h.ex_elim
  obtain ⟨h1, h2⟩ := h.star_elim.pure_elim
  exact ⟨l, h1, h2.star_elim⟩
theorem Sat.mrows_shut {kvs : List (Str × List α)} {l : List (Str × Value × List α)} (h1 : l.map (fun t => (t.1, t.2.2)) = kvs) (h : Sat e (HP.map sv okStr (fun v : Value => v) m (l.map (fun t => (t.1, t.2.1))) :: rowsAll T E l :: L) w) : Sat e (HP.mrows T E m kvs :: L) w :=
  Sat.ex_intro l (Sat.star_intro (Sat.pure_intro h1 (Sat.star_intro h)))
theorem St.mrows_new (h : St b (HP.map sv okStr (fun v : Value => v) m ([] : List (Str × Value)) :: L) w) : St b (HP.mrows T E m ([] : List (Str × List α)) :: L) w :=
  h.lift fun _ hs => Sat.mrows_shut (l := []) rfl (Sat.swap (hs.lay (P := rowsAll T E []) (fun _ => trivial)))

/-- The lists told with the values: of a key, put. -/
def put3 : List (Str × Value × List α) → Str → Value → List α → List (Str × Value × List α)
  | [], k, v, xs => [(k, v, xs)]
  | t :: r, k, v, xs => if t.1 = k then (k, v, xs) :: r else t :: put3 r k v xs
theorem put3_1 (l : List (Str × Value × List α)) (k : Str) (v : Value) (xs : List α) : (put3 l k v xs).map (fun t => (t.1, t.2.1)) = kput (l.map (fun t => (t.1, t.2.1))) k v := by
  induction l with
  | nil => rfl
  | cons t r ih => simp only [put3, List.map_cons, kput]; split <;> simp [ih]
theorem put3_2 (l : List (Str × Value × List α)) (k : Str) (v : Value) (xs : List α) : (put3 l k v xs).map (fun t => (t.1, t.2.2)) = kput (l.map (fun t => (t.1, t.2.2))) k xs := by
  induction l with
  | nil => rfl
  | cons t r ih => simp only [put3, List.map_cons, kput]; split <;> simp [ih]

/-- The slice of a key, out; whatever becomes of it, in again. -/
theorem rows_out : ∀ (l : List (Str × Value × List α)) (k : Str) {L : List HP} {w : World}, Sat e (rowsAll T E l :: L) w →
    ((kget (l.map (fun t => (t.1, t.2.1))) k = none ∧ kget (l.map (fun t => (t.1, t.2.2))) k = none) ∨
     ∃ v xs R, kget (l.map (fun t => (t.1, t.2.1))) k = some v ∧ kget (l.map (fun t => (t.1, t.2.2))) k = some xs ∧ Sat e (HP.rows T E v xs :: R :: L) w ∧ ∀ v' xs' L' w' e', Sat e' (HP.rows T E v' xs' :: R :: L') w' → Sat e' (rowsAll T E (put3 l k v' xs') :: L') w')
  | [], k, _, _, _ => Or.inl ⟨rfl, rfl⟩
  | (j, v, xs) :: r, k, L, w, h => by
    by_cases hj : j = k
    · subst hj
      refine Or.inr ⟨v, xs, rowsAll T E r, by simp [kget], by simp [kget], h.star_elim, fun v' xs' L' w' e' h' => ?_⟩
      simp only [put3, if_true, rowsAll]
      exact Sat.star_intro h'
    · rcases rows_out r k h.star_elim.swap with ⟨h1, h2⟩ | ⟨v2, xs2, R, h1, h2, h3, h4⟩
      · left; simp only [List.map_cons, kget, hj, if_false]; exact ⟨h1, h2⟩
      · refine Or.inr ⟨v2, xs2, HP.star (HP.rows T E v xs) R, by simp only [List.map_cons, kget, hj, if_false]; exact h1, by simp only [List.map_cons, kget, hj, if_false]; exact h2, ?_, fun v' xs' L' w' e' h' => ?_⟩
        · have h9 : Sat e (HP.rows T E v xs :: R :: HP.rows T E v2 xs2 :: L) w := h3.pick [2, 1, 0] 3 (by decide) (by decide) (by simp)
          exact Sat.swap (Sat.star_intro h9)
        · simp only [put3, hj, if_false, rowsAll]
          have h5 := h'.swap.star_elim
          have h6 : Sat e' (HP.rows T E v' xs' :: R :: HP.rows T E v xs :: L') w' := h5.pick [2, 1, 0] 3 (by decide) (by decide) (by simp)
          exact Sat.star_intro (h4 v' xs' _ w' e' h6).swap

/-- 'm[k]' for an append: the slice by itself (nil, if there is none), and what is to be done with it. -/
theorem St.mrows_take {kvs : List (Str × List α)} (h : St b (HP.mrows T E m kvs :: L) w) (k : Str) : ∃ l v R, St b (HP.rows T E v ((kget kvs k).getD []) :: HP.map sv okStr (fun v : Value => v) m l :: R :: L) w ∧ (kget l k).getD (.slice none 0 0) = v ∧
    ∀ v' xs' w', St b (HP.rows T E v' xs' :: HP.map sv okStr (fun v : Value => v) m (kput l k v') :: R :: L) w' → St b (HP.mrows T E m (kput kvs k xs') :: L) w' := by
  obtain ⟨e, hle, hs⟩ := h
  obtain ⟨l, h1, h2⟩ := hs.mrows_open
  rcases rows_out l k h2.swap with ⟨h3, h4⟩ | ⟨v, xs, R, h3, h4, h5, h6⟩
  · rw [h1] at h4
    refine ⟨_, .slice none 0 0, rowsAll T E l, ?_, by rw [h3]; rfl, fun v' xs' w' h' => h'.lift fun e' hs' => ?_⟩
    · rw [h4]
      exact ⟨e, hle, Sat.rows_shut (cs := []) (h2.row_nil T E.sz) rfl⟩
    · have hp : put3 l k v' xs' = l ++ [(k, v', xs')] := by
        clear h1 h2 h4 hs' h'
        induction l with
        | nil => rfl
        | cons t r ih =>
          simp only [List.map_cons, kget] at h3
          split at h3
          · cases h3
          · rename_i hne; simp only [put3, hne, if_false, List.cons_append]; rw [ih h3]
      have happ : ∀ (l : List (Str × Value × List α)) {L : List HP}, Sat e' (HP.rows T E v' xs' :: rowsAll T E l :: L) w' → Sat e' (rowsAll T E (l ++ [(k, v', xs')]) :: L) w' := by
        intro l
        induction l with
        | nil => intro L hq; exact Sat.star_intro hq
        | cons t r ih =>
          intro L hq
          obtain ⟨j, u, ys⟩ := t
          have h7 := hq.swap.star_elim
          have h8 := ih (h7.pick [2, 1, 0] 3 (by decide) (by decide) (by simp))
          exact Sat.star_intro h8.swap
      refine Sat.mrows_shut (l := put3 l k v' xs') (by rw [put3_2, h1]) ?_
      rw [put3_1, hp]
      have h7 : Sat e' (HP.rows T E v' xs' :: rowsAll T E l :: HP.map sv okStr (fun v : Value => v) m (kput (l.map (fun t => (t.1, t.2.1))) k v') :: L) w' := hs'.pick [0, 2, 1] 3 (by decide) (by decide) (by simp)
      exact (happ l h7).swap
  · rw [h1] at h4
    refine ⟨_, v, R, ?_, by rw [h3]; rfl, fun v' xs' w' h' => h'.lift fun e' hs' => ?_⟩
    · rw [h4]
      exact ⟨e, hle, h5.pick [0, 2, 1] 3 (by decide) (by decide) (by simp)⟩
    · refine Sat.mrows_shut (l := put3 l k v' xs') (by rw [put3_2, h1]) ?_
      rw [put3_1]
      have h7 : Sat e' (HP.rows T E v' xs' :: R :: HP.map sv okStr (fun v : Value => v) m (kput (l.map (fun t => (t.1, t.2.1))) k v') :: L) w' := hs'.pick [0, 2, 1] 3 (by decide) (by decide) (by simp)
      exact (h6 v' xs' _ w' e' h7).swap

/-- Block m is a map of slices, and all of that never turns. -/
def HP.pmulti (E : El α) (m : Nat) (kvs : List (Str × List α)) : HP :=
  ⟨fun e _ => ∃ l : List (Str × Value × List α), l.map (fun t => (t.1, t.2.2)) = kvs ∧ (HP.map sv okStr (fun v : Value => v) m (l.map (fun t => (t.1, t.2.1)))).p e e.h ∧ ∀ t ∈ l, E.sl e.h t.2.1 t.2.2,
   fun k h => by
    obtain ⟨l, h1, ⟨es, clock, h2, h3⟩, h4⟩ := h
    exact ⟨l, h1, ⟨es, clock, k.h _ _ h2, h3⟩, fun t ht => El.sl_up k.h (h4 t ht)⟩⟩

theorem rows_persist_all : ∀ (l : List (Str × Value × List α)) {e : Env} {L : List HP} {w : World}, Sat e (rowsAll T E l :: L) w → ∃ e', e.le e' ∧ (∀ t ∈ l, E.sl e'.h t.2.1 t.2.2) ∧ Sat e' L w
  | [], e, _, _, h => ⟨e, Env.le_refl e, by simp, h.drop⟩
  | (j, v, xs) :: r, e, L, w, h => by
    obtain ⟨e1, hl1, h1⟩ := (h.star_elim.st).persist
    obtain ⟨e2, hl2, h2, h3⟩ := rows_persist_all r h1.swap
    have hsl := h1.sl_mem mem0
    refine ⟨e2, hl1.trans hl2, fun t ht => ?_, h3.drop⟩
    rcases List.mem_cons.1 ht with rfl | ht
    · exact El.sl_up hl2.h hsl
    · exact h2 t ht
theorem St.mrows_persist {kvs : List (Str × List α)} (h : St b (HP.mrows T E m kvs :: L) w) : St b (HP.pmulti E m kvs :: L) w := by
  obtain ⟨e, hle, hs⟩ := h
  obtain ⟨l, h1, h2⟩ := hs.mrows_open
  obtain ⟨e1, hl1, h3, h4⟩ := rows_persist_all l h2.swap
  obtain ⟨es, clock, h5, h6, h7, h8⟩ := h4.map_open
  obtain ⟨e2, hl2, hat, h9⟩ := h8.persist
  exact ⟨e2, hle.trans (hl1.trans hl2), h9.lay (fun _ => ⟨l, h1, ⟨es, clock, hat, h5, h6, h7⟩, fun t ht => El.sl_up hl2.h (h3 t ht)⟩)⟩

theorem kget_map1 : ∀ (l : List (Str × Value × List α)) (k : Str) (v : Value), kget (l.map (fun t => (t.1, t.2.1))) k = some v → ∃ xs, (k, v, xs) ∈ l ∧ kget (l.map (fun t => (t.1, t.2.2))) k = some xs
  | [], _, _, h => by simp [kget] at h
  | (j, u, ys) :: r, k, v, h => by
    by_cases hj : j = k
    · subst hj; simp [kget] at h; subst h; exact ⟨ys, by simp, by simp [kget]⟩
    · simp only [List.map_cons, kget, hj, if_false] at h ⊢
      obtain ⟨xs, h1, h2⟩ := kget_map1 r k v h
      exact ⟨xs, List.mem_cons_of_mem _ h1, h2⟩
theorem kget_map2 : ∀ (l : List (Str × Value × List α)) (k : Str), kget (l.map (fun t => (t.1, t.2.1))) k = none → kget (l.map (fun t => (t.1, t.2.2))) k = none
  | [], _, _ => rfl
  | (j, u, ys) :: r, k, h => by
    by_cases hj : j = k
    · subst hj; simp [kget] at h
    · simp only [List.map_cons, kget, hj, if_false] at h ⊢
      exact kget_map2 r k h

theorem St.multi_lookup {P : Program} {k el : TypeId} (K : KeyOk P k sv okStr) {kvs : List (Str × List α)} (hs : St b L w) (hm : HP.pmulti E m kvs ∈ L) {t : TypeId} (ht : P.underlying t = some (.map k el)) (hz : (zeroValue el).run P w = .ok (.slice none 0 0) w) (q : Str) (hq : okStr q) :
    ∃ v, (Instr.lookup t (.map (some m)) (sv q) false).run P w = .ok v w ∧ St b (HP.sl E v ((kget kvs q).getD []) :: L) w := by
  obtain ⟨e, hle, hs⟩ := hs
  obtain ⟨_, l, h1, ⟨es, clock, h2, h3, h4, h5⟩, h6⟩ := hs.mem_p hm
  obtain ⟨e0, hs0⟩ := hs.unpersist h2
  have hr := run_lookup K (hs0.map_shut (ek := sv) (ok := okStr) (ev := fun v : Value => v) h3 h4 h5) ht hz q hq false
  refine ⟨_, hr, e, hle, hs.lay (fun _ => ?_)⟩
  simp only [Bool.false_eq_true, if_false]
  cases hk : kget (l.map (fun t => (t.1, t.2.1))) q with
  | none =>
    have h7 := kget_map2 l q hk
    rw [h1] at h7; rw [h7]
    exact El.sl_nil E _
  | some v =>
    obtain ⟨xs, h7, h8⟩ := kget_map1 l q v hk
    rw [h1] at h8; rw [h8]
    exact h6 _ h7
end
end Go.Proofs.YtcgnkloljfgiaaaGreatDoor
