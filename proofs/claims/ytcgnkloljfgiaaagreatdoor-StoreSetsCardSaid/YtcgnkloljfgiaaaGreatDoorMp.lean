/-
  No program in sight: maps as lists of pairs, as chunks of 'Sat'.
-/
import Derived.Test.YtcgnkloljfgiaaaGreatDoorSl
import Derived.Maps.Keyed
import Derived.Maps.Own
namespace Go.Proofs.YtcgnkloljfgiaaaGreatDoor
open Go.RowKit Go.Maps Go.MapKept

section plain
variable {κ α : Type} [DecidableEq κ]
def kget : List (κ × α) → κ → Option α
  | [], _ => none
  | p :: r, k => if p.1 = k then some p.2 else kget r k
def kput : List (κ × α) → κ → α → List (κ × α)
  | [], k, x => [(k, x)]
  | p :: r, k, x => if p.1 = k then (k, x) :: r else p :: kput r k x
def kdel : List (κ × α) → κ → List (κ × α)
  | [], _ => []
  | p :: r, k => if p.1 = k then r else p :: kdel r k

theorem kget_kput (l : List (κ × α)) (k j : κ) (x : α) : kget (kput l k x) j = if k = j then some x else kget l j := by
  induction l with
  | nil => simp [kput, kget]
  | cons p r ih =>
    simp only [kput]
    by_cases h : p.1 = k
    · rw [if_pos h]; simp only [kget]
      by_cases hj : k = j
      · simp [hj]
      · rw [if_neg hj, if_neg hj, if_neg (by rw [h]; exact hj)]
    · rw [if_neg h]; simp only [kget, ih]
      by_cases hp : p.1 = j
      · rw [if_pos hp, if_pos hp, if_neg (by rw [← hp]; exact fun e => h e.symm)]
      · rw [if_neg hp, if_neg hp]

theorem kget_none {l : List (κ × α)} {k : κ} : kget l k = none ↔ k ∉ l.map (·.1) := by
  induction l with
  | nil => simp [kget]
  | cons p r ih =>
    simp only [kget, List.map_cons, List.mem_cons]
    by_cases h : p.1 = k
    · simp [h]
    · rw [if_neg h, ih]
      constructor
      · rintro hn (e | e)
        · exact h e.symm
        · exact hn e
      · exact fun hn e => hn (Or.inr e)

theorem kget_kdel {l : List (κ × α)} (hn : (l.map (·.1)).Nodup) (k j : κ) : kget (kdel l k) j = if k = j then none else kget l j := by
  induction l with
  | nil => simp [kdel, kget]
  | cons p r ih =>
    simp only [List.map_cons, List.nodup_cons] at hn
    simp only [kdel]
    by_cases h : p.1 = k
    · rw [if_pos h]
      by_cases hj : k = j
      · rw [if_pos hj]; exact kget_none.2 (by rw [← hj, ← h]; exact hn.1)
      · rw [if_neg hj]; simp only [kget]; rw [if_neg (by rw [h]; exact hj)]
    · rw [if_neg h]; simp only [kget, ih hn.2]
      by_cases hp : p.1 = j
      · rw [if_pos hp, if_pos hp, if_neg (by rw [← hp]; exact fun e => h e.symm)]
      · rw [if_neg hp, if_neg hp]

theorem kput_keys (l : List (κ × α)) (k : κ) (x : α) : (kput l k x).map (·.1) = if k ∈ l.map (·.1) then l.map (·.1) else l.map (·.1) ++ [k] := by
  induction l with
  | nil => simp [kput]
  | cons p r ih =>
    simp only [kput]
    by_cases h : p.1 = k
    · simp [h]
    · rw [if_neg h]; simp only [List.map_cons, ih, List.mem_cons]
      by_cases hm : k ∈ r.map (·.1)
      · rw [if_pos hm, if_pos (Or.inr hm)]
      · rw [if_neg hm, if_neg (fun e => e.elim (fun e => h e.symm) hm)]; rfl

theorem kput_nodup {l : List (κ × α)} (hn : (l.map (·.1)).Nodup) (k : κ) (x : α) : ((kput l k x).map (·.1)).Nodup := by
  rw [kput_keys]
  split
  · exact hn
  · rename_i h; rw [List.nodup_append]; exact ⟨hn, by simp, fun a ha b hb e => by simp at hb; subst hb; subst e; exact h ha⟩

theorem kdel_sub (l : List (κ × α)) (k : κ) : (kdel l k).Sublist l := by
  induction l with
  | nil => simp [kdel]
  | cons p r ih =>
    simp only [kdel]
    split
    · exact List.sublist_cons_self _ _
    · exact ih.cons_cons _

theorem kdel_nodup {l : List (κ × α)} (hn : (l.map (·.1)).Nodup) (k : κ) : ((kdel l k).map (·.1)).Nodup := ((kdel_sub l k).map _).nodup hn
theorem kput_length_le (l : List (κ × α)) (k : κ) (x : α) : (kput l k x).length ≤ l.length + 1 := by
  induction l with
  | nil => simp [kput]
  | cons p r ih =>
    simp only [kput]; split
    · simp
    · simp; omega
theorem kput_mem {l : List (κ × α)} {k : κ} {x : α} {p : κ × α} (h : p ∈ kput l k x) : p ∈ l ∨ p = (k, x) := by
  induction l with
  | nil => simp [kput] at h; exact Or.inr h
  | cons q r ih =>
    simp only [kput] at h
    split at h
    · rcases List.mem_cons.1 h with h | h
      · exact Or.inr h
      · exact Or.inl (List.mem_cons_of_mem _ h)
    · rcases List.mem_cons.1 h with h | h
      · exact Or.inl (by rw [h]; exact List.mem_cons_self ..)
      · rcases ih h with h | h
        · exact Or.inl (List.mem_cons_of_mem _ h)
        · exact Or.inr h
end plain

/-- What is asked of a map's keys: their type's law; each reads as a key; no two read alike. -/
structure KeyOk (P : Program) (k : TypeId) {κ : Type} (ek : κ → Value) (ok : κ → Prop) : Prop where
  keyed : Keyed P k
  reads : ∀ a, ok a → ∃ l, keyOf P k (ek a) = some l
  inj : ∀ {a b}, ek a = ek b → a = b

/-- Block b is a map of just these pairs. -/
def HP.map {κ α : Type} (ek : κ → Value) (ok : κ → Prop) (ev : α → Value) (b : Nat) (kvs : List (κ × α)) : HP :=
  ⟨fun _ m => ∃ es clock, m b = some (.map es clock) ∧ es.toList.map (fun x => (x.key, x.val)) = kvs.map (fun p => (ek p.1, ev p.2)) ∧ Stamped es clock ∧ ∀ p ∈ kvs, ok p.1, fun _ h => h⟩

section
variable {κ α : Type} {ek : κ → Value} {ok : κ → Prop} {ev : α → Value} {e : Env} {b : Nat} {kvs : List (κ × α)} {L : List HP} {w : World}

theorem Sat.map_open (h : Sat e (HP.map ek ok ev b kvs :: L) w) : ∃ es clock, es.toList.map (fun x => (x.key, x.val)) = kvs.map (fun p => (ek p.1, ev p.2)) ∧ Stamped es clock ∧ (∀ p ∈ kvs, ok p.1) ∧ Sat e (HP.blk b (.map es clock) :: L) w := by
  obtain ⟨f, hf, hp⟩ := h.own
  obtain ⟨es, clock, hm, h1, h2, h3⟩ := hp 0 _ rfl
  exact ⟨es, clock, h1, h2, h3, h.os, h.output, h.tape, h.fixed, f, hf, fun i R hR => by
    cases i with
    | zero => simp at hR; subst hR; exact hm
    | succ i => exact hp (i + 1) R (by simpa using hR)⟩

theorem Sat.map_shut {es : Array MapEntry} {clock : Nat} (h : Sat e (HP.blk b (.map es clock) :: L) w) (h1 : es.toList.map (fun x => (x.key, x.val)) = kvs.map (fun p => (ek p.1, ev p.2))) (h2 : Stamped es clock) (h3 : ∀ p ∈ kvs, ok p.1) : Sat e (HP.map ek ok ev b kvs :: L) w :=
  h.head (fun _ hm => ⟨es, clock, hm, h1, h2, h3⟩)

theorem Sat.map_new (h : Sat e L w) (ek : κ → Value) (ok : κ → Prop) (ev : α → Value) : Sat e (HP.map ek ok ev w.heap.size ([] : List (κ × α)) :: L) (w.alloc (.map #[] 0)) :=
  (h.alloc (.map #[] 0)).map_shut (by simp) (stamped_empty 0) (by simp)

theorem Sat.map_nodup (h : Sat e (HP.map ek ok ev b kvs :: L) w) : (kvs.map (·.1)).Nodup := by
  obtain ⟨es, clock, h1, ⟨_, _, h2⟩, _⟩ := h.map_open
  have h3 : es.toList.map (·.key) = kvs.map (fun p => ek p.1) := by
    have := congrArg (List.map Prod.fst) h1
    simp only [List.map_map] at this
    exact this
  rw [h3] at h2
  have : (kvs.map (·.1)).map ek = kvs.map (fun p => ek p.1) := by simp
  rw [← this] at h2
  rw [List.Nodup, List.pairwise_map] at h2
  exact h2.imp (fun hne hab => hne (by rw [hab]))

theorem Sat.map_ok (h : Sat e (HP.map ek ok ev b kvs :: L) w) : ∀ p ∈ kvs, ok p.1 := by obtain ⟨_, _, _, _, h3, _⟩ := h.map_open; exact h3

theorem kvs_get {es : Array MapEntry} (h1 : es.toList.map (fun x => (x.key, x.val)) = kvs.map (fun p => (ek p.1, ev p.2))) (j : Nat) : (es.toList[j]?).map (fun x => (x.key, x.val)) = (kvs[j]?).map (fun p => (ek p.1, ev p.2)) := by
  have := congrArg (·[j]?) h1
  simpa using this

theorem map_keys_eq {es : Array MapEntry} (h1 : es.toList.map (fun x => (x.key, x.val)) = kvs.map (fun p => (ek p.1, ev p.2))) : es.toList.map (·.key) = kvs.map (fun p => ek p.1) := by
  have := congrArg (List.map Prod.fst) h1
  simp only [List.map_map] at this
  exact this

end
section
variable {P : Program} {k : TypeId} {κ α : Type} [DecidableEq κ] {ek : κ → Value} {ok : κ → Prop} {ev : α → Value} {e : Env} {b : Nat} {kvs : List (κ × α)} {L : List HP} {w : World}

theorem kget_at : ∀ (kvs : List (κ × α)) (j : Nat) (p : κ × α), (kvs.map (·.1)).Nodup → kvs[j]? = some p → kget kvs p.1 = some p.2
  | [], j, p, _, h => by simp at h
  | q :: r, 0, p, _, h => by simp at h; subst h; simp [kget]
  | q :: r, j + 1, p, hn, h => by
    simp only [List.map_cons, List.nodup_cons] at hn
    simp at h
    have hm : p.1 ∈ r.map (·.1) := List.mem_map.2 ⟨p, List.mem_of_getElem? h, rfl⟩
    simp only [kget]
    rw [if_neg (fun e => hn.1 (by rw [e]; exact hm))]
    exact kget_at r j p hn.2 h

/-- Where a key stands. -/
theorem found (K : KeyOk P k ek ok) (h : Sat e (HP.map ek ok ev b kvs :: L) w) {es : Array MapEntry} (h1 : es.toList.map (fun x => (x.key, x.val)) = kvs.map (fun p => (ek p.1, ev p.2))) (a : κ) (ha : ok a) (w' : World) :
    ((Instr.findKey k (ek a) es.toList).run P w' = .ok none w' ∧ kget kvs a = none ∧ ∀ x ∈ es.toList, x.key ≠ ek a) ∨
    ∃ j x c, (Instr.findKey k (ek a) es.toList).run P w' = .ok (some (j, ev c)) w' ∧ kget kvs a = some c ∧ es.toList[j]? = some x ∧ x.key = ek a ∧ x.val = ev c ∧ kvs[j]? = some (a, c) := by
  obtain ⟨la, hla⟩ := K.reads a ha
  have hok := h.map_ok
  have hnd := h.map_nodup
  have hkeys : ∀ x ∈ es.toList, ∃ l, keyOf P k x.key = some l := by
    intro x hx
    have hm : (x.key, x.val) ∈ kvs.map (fun p => (ek p.1, ev p.2)) := by rw [← h1]; exact List.mem_map.2 ⟨x, hx, rfl⟩
    obtain ⟨p, hp, hpe⟩ := List.mem_map.1 hm
    have hpk : ek p.1 = x.key := congrArg Prod.fst hpe
    rw [← hpk]; exact K.reads p.1 (hok p hp)
  rcases K.keyed.find w' hla es.toList hkeys with ⟨f1, f2⟩ | ⟨j, x, f1, f2, f3⟩
  · refine Or.inl ⟨f1, kget_none.2 (fun hm => ?_), f2⟩
    obtain ⟨p, hp, hpe⟩ := List.mem_map.1 hm
    have : (ek p.1, ev p.2) ∈ es.toList.map (fun x => (x.key, x.val)) := by rw [h1]; exact List.mem_map.2 ⟨p, hp, rfl⟩
    obtain ⟨x, hx, hxe⟩ := List.mem_map.1 this
    have hxk : x.key = ek p.1 := congrArg Prod.fst hxe
    exact f2 x hx (by rw [hxk, hpe])
  · right
    have g := kvs_get h1 j
    rw [f2] at g
    cases hk : kvs[j]? with
    | none => rw [hk] at g; simp at g
    | some p =>
      rw [hk] at g
      simp only [Option.map_some, Option.some.injEq, Prod.mk.injEq] at g
      have hpa : p.1 = a := K.inj (g.1.symm.trans f3)
      refine ⟨j, x, p.2, by rw [f1, g.2], ?_, f2, f3, g.2, by rw [← hpa, hk]⟩
      rw [← hpa]; exact kget_at kvs j p hnd hk

theorem run_lookup (K : KeyOk P k ek ok) (h : Sat e (HP.map ek ok ev b kvs :: L) w) {t el : TypeId} (ht : P.underlying t = some (.map k el)) {z : Value} (hz : (zeroValue el).run P w = .ok z w) (a : κ) (ha : ok a) (c : Bool) :
    (Instr.lookup t (.map (some b)) (ek a) c).run P w = .ok (if c then .tuple #[((kget kvs a).map ev).getD z, .bool (kget kvs a).isSome] else ((kget kvs a).map ev).getD z) w := by
  obtain ⟨es, clock, h1, _, _, hs⟩ := h.map_open
  obtain ⟨la, hla⟩ := K.reads a ha
  rcases found K h h1 a ha w with ⟨f1, f2, _⟩ | ⟨j, x, y, f1, f2, _⟩
  · cases c <;> simp [Instr.lookup, run_underlying ht, MapKept.run_getObj_map hs.at, K.keyed.check w _ hla, f1, hz, f2, Result.andThen]
  · cases c <;> simp [Instr.lookup, run_underlying ht, MapKept.run_getObj_map hs.at, K.keyed.check w _ hla, f1, f2, Result.andThen]

theorem kput_none {kvs : List (κ × α)} {a : κ} {x : α} (h : kget kvs a = none) : kput kvs a x = kvs ++ [(a, x)] := by
  induction kvs with
  | nil => rfl
  | cons p r ih =>
    simp only [kget] at h
    split at h
    · cases h
    · rename_i hp; simp only [kput, if_neg hp, ih h]; rfl

theorem kput_at {x : α} : ∀ (kvs : List (κ × α)) (j : Nat) (a : κ) (c : α), (kvs.map (·.1)).Nodup → kvs[j]? = some (a, c) → kput kvs a x = kvs.set j (a, x)
  | [], j, a, c, _, h => by simp at h
  | q :: r, 0, a, c, _, h => by simp at h; subst h; simp [kput]
  | q :: r, j + 1, a, c, hn, h => by
    simp only [List.map_cons, List.nodup_cons] at hn
    simp at h
    have hm : a ∈ r.map (·.1) := List.mem_map.2 ⟨(a, c), List.mem_of_getElem? h, rfl⟩
    simp only [kput]
    rw [if_neg (fun e => hn.1 (by rw [e]; exact hm)), kput_at r j a c hn.2 h]
    rfl

theorem kdel_at : ∀ (kvs : List (κ × α)) (j : Nat) (a : κ) (c : α), (kvs.map (·.1)).Nodup → kvs[j]? = some (a, c) → kdel kvs a = kvs.eraseIdx j
  | [], j, a, c, _, h => by simp at h
  | q :: r, 0, a, c, _, h => by simp at h; subst h; simp [kdel]
  | q :: r, j + 1, a, c, hn, h => by
    simp only [List.map_cons, List.nodup_cons] at hn
    simp at h
    have hm : a ∈ r.map (·.1) := List.mem_map.2 ⟨(a, c), List.mem_of_getElem? h, rfl⟩
    simp only [kdel]
    rw [if_neg (fun e => hn.1 (by rw [e]; exact hm)), kdel_at r j a c hn.2 h]
    rfl

theorem kdel_none {kvs : List (κ × α)} {a : κ} (h : kget kvs a = none) : kdel kvs a = kvs := by
  induction kvs with
  | nil => rfl
  | cons p r ih =>
    simp only [kget] at h
    split at h
    · cases h
    · rename_i hp; simp only [kdel, if_neg hp, ih h]

theorem run_mapUpdate (K : KeyOk P k ek ok) (h : Sat e (HP.map ek ok ev b kvs :: L) w) {t el : TypeId} (ht : P.underlying t = some (.map k el)) (a : κ) (ha : ok a) (x : α) :
    ∃ w', (Instr.mapUpdate t (.map (some b)) (ek a) (ev x)).run P w = .ok () w' ∧ Sat e (HP.map ek ok ev b (kput kvs a x) :: L) w' := by
  obtain ⟨es, clock, h1, h2, h3, hs⟩ := h.map_open
  have hnd := h.map_nodup
  obtain ⟨la, hla⟩ := K.reads a ha
  have hok' : ∀ p ∈ kput kvs a x, ok p.1 := fun p hp => by
    rcases kput_mem hp with hp | rfl
    · exact h3 p hp
    · exact ha
  rcases found K h h1 a ha w with ⟨f1, f2, f3⟩ | ⟨j, x0, y, f1, f2, f3, f4, f5, f6⟩
  · refine ⟨_, ?_, (hs.setObj (.map (es.push ⟨ek a, ev x, clock⟩) (clock + 1))).map_shut ?_ (stamped_push h2 f3) hok'⟩
    · simp [Instr.mapUpdate, run_underlying ht, MapKept.run_getObj_map hs.at, K.keyed.check w _ hla, f1, MapKept.run_setObj_map _ hs.at, Result.andThen]
    · simp [h1, kput_none f2]
  · refine ⟨_, ?_, (hs.setObj (.map (es.modify j fun e => { e with key := ek a, val := ev x }) clock)).map_shut ?_ (stamped_modify h2 _ _ (fun _ _ => rfl) (fun q _ hq => ?_)) hok'⟩
    · have hej : es[j]? = some x0 := by simpa using f3
      simp [Instr.mapUpdate, run_underlying ht, MapKept.run_getObj_map hs.at, K.keyed.check w _ hla, f1, hej, f4, K.keyed.stays w hla, MapKept.run_setObj_map _ hs.at, Result.andThen]
    · rw [kput_at kvs j a y hnd f6, List.map_set, ← h1]
      apply List.ext_getElem?
      intro i
      simp only [List.getElem?_map, Array.getElem?_toList, Array.getElem?_modify, List.getElem?_set, List.length_map, Array.length_toList]
      by_cases hij : j = i
      · subst hij
        have hlt : j < es.size := by have := (List.getElem?_eq_some_iff.1 f3).1; simpa using this
        simp [hlt]
      · simp [hij]
    · have hej : es[j]? = some x0 := by simpa using f3
      rw [hej] at hq; cases hq; exact f4.symm

theorem run_delete (K : KeyOk P k ek ok) (h : Sat e (HP.map ek ok ev b kvs :: L) w) {t el ty : TypeId} (ht : P.underlying t = some (.map k el)) (a : κ) (ha : ok a) (q : TypeId) :
    ∃ w', (Builtin.delete_ #[t, q] ty #[.map (some b), ek a]).run P w = .ok (.tuple #[]) w' ∧ Sat e (HP.map ek ok ev b (kdel kvs a) :: L) w' := by
  obtain ⟨es, clock, h1, h2, h3, hs⟩ := h.map_open
  have hnd := h.map_nodup
  obtain ⟨la, hla⟩ := K.reads a ha
  have hok' : ∀ p ∈ kdel kvs a, ok p.1 := fun p hp => h3 p ((kdel_sub kvs a).subset hp)
  rcases found K h h1 a ha w with ⟨f1, f2, f3⟩ | ⟨j, x0, y, f1, f2, f3, f4, f5, f6⟩
  · refine ⟨_, ?_, (hs.setObj (.map es clock)).map_shut ?_ h2 hok'⟩
    · simp [Builtin.delete_, run_underlying ht, MapKept.run_getObj_map hs.at, K.keyed.check w _ hla, f1, MapKept.run_setObj_map _ hs.at, Result.andThen]
    · rw [kdel_none f2, h1]
  · refine ⟨_, ?_, (hs.setObj (.map (es.eraseIdxIfInBounds j) clock)).map_shut ?_ (stamped_erase h2 j) hok'⟩
    · simp [Builtin.delete_, run_underlying ht, MapKept.run_getObj_map hs.at, K.keyed.check w _ hla, f1, MapKept.run_setObj_map _ hs.at, Result.andThen]
    · have hlt : j < es.size := by have := (List.getElem?_eq_some_iff.1 f3).1; simpa using this
      have e1 : (kdel kvs a).map (fun p => (ek p.1, ev p.2)) = (kvs.map (fun p => (ek p.1, ev p.2))).eraseIdx j := by
        rw [kdel_at kvs j a y hnd f6]; simp [List.eraseIdx_eq_take_drop_succ]
      rw [e1, ← h1]
      unfold Array.eraseIdxIfInBounds
      rw [dif_pos hlt]
      simp [List.eraseIdx_eq_take_drop_succ]

end
section
variable {P : Program} {k : TypeId} {κ α : Type} {ek : κ → Value} {ok : κ → Prop} {ev : α → Value} {e : Env} {b : Nat} {kvs : List (κ × α)} {L : List HP} {w : World}
theorem run_len_map (h : Sat e (HP.map ek ok ev b kvs :: L) w) {t el ty : TypeId} (ht : P.underlying t = some (.map k el)) : (Builtin.len_ #[t] ty #[.map (some b)]).run P w = .ok (.int .i64 kvs.length) w := by
  obtain ⟨es, clock, h1, h2, h3, hs⟩ := h.map_open
  have : es.size = kvs.length := by have := congrArg List.length h1; simpa using this
  simp [Builtin.len_, run_underlying ht, MapKept.run_getObj_map hs.at, goInt, this]

theorem run_clear_map (h : Sat e (HP.map ek ok ev b kvs :: L) w) {t el ty : TypeId} (ht : P.underlying t = some (.map k el)) :
    ∃ w', (Builtin.clear_ #[t] ty #[.map (some b)]).run P w = .ok (.tuple #[]) w' ∧ Sat e (HP.map ek ok ev b ([] : List (κ × α)) :: L) w' := by
  obtain ⟨es, clock, h1, h2, h3, hs⟩ := h.map_open
  refine ⟨_, ?_, (hs.setObj (.map #[] clock)).map_shut (by simp) (stamped_empty clock) (by simp)⟩
  simp [Builtin.clear_, run_underlying ht, MapKept.run_getObj_map hs.at, MapKept.run_setObj_map _ hs.at]

/-- The kit's own word for such a map: its values unread. -/
theorem Sat.ownsMap (K : KeyOk P k ek ok) (h : Sat e (HP.map ek ok ev b kvs :: L) w) (hlen : kvs.length ≤ maxLen) :
    w.ownsMap P k (fun _ => some ((.nil : DataW Unit), [])) b kvs.length (.map ((kvs.map (fun p => (((keyOf P k (ek p.1)).getD (.bool true)), (.nil : DataW Unit)))).foldr DataW.insert [])) := by
  obtain ⟨es, clock, h1, h2, h3, hs⟩ := h.map_open
  have hsz : es.size = kvs.length := by have := congrArg List.length h1; simpa using this
  have hkv := map_keys_eq h1
  refine ⟨es, clock, hs.at, ⟨by omega, h2, fun x hx => ?_⟩, by omega, ?_⟩
  · have : x.key ∈ kvs.map (fun p => ek p.1) := by rw [← hkv]; exact List.mem_map.2 ⟨x, hx, rfl⟩
    obtain ⟨p, hp, hpe⟩ := List.mem_map.1 this
    obtain ⟨l, hl⟩ := K.reads p.1 (h3 p hp)
    exact ⟨(l, .nil), by simp [WideElems.rd, ← hpe, hl]⟩
  · congr 2
    apply List.ext_getElem?
    intro i
    have g := congrArg (·[i]?) hkv
    simp only [List.getElem?_map] at g ⊢
    cases hx : es.toList[i]? with
    | none =>
      rw [hx] at g
      cases hp : kvs[i]? with
      | none => simp
      | some p => rw [hp] at g; simp at g
    | some x =>
      rw [hx] at g
      cases hp : kvs[i]? with
      | none => rw [hp] at g; simp at g
      | some p =>
        rw [hp] at g
        simp only [Option.map_some, Option.some.injEq] at g
        obtain ⟨l, hl⟩ := K.reads p.1 (h3 p (List.mem_of_getElem? hp))
        have hrd : WideElems.rd P k (fun _ => some ((.nil : DataW Unit), [])) x = some (l, .nil) := by simp [WideElems.rd, g, hl]
        simp [WideElems.rg_of hrd, hl]
end
end Go.Proofs.YtcgnkloljfgiaaaGreatDoor
