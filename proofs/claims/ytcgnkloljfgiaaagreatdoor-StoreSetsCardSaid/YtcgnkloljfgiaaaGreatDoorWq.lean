/-
  No program in sight: what a log's sectors are, and what Open tells of them.
-/
import Derived.Test.YtcgnkloljfgiaaaGreatDoorWo
import Derived.Test.YtcgnkloljfgiaaaGreatDoorDkk
namespace Go.Proofs.YtcgnkloljfgiaaaGreatDoor
open Go.RowKit

def recsP (gen : Nat) : Nat → List Byt → List PartR
  | _, [] => []
  | j, t :: l => cutB gen j t ++ recsP gen (j + 1) l
theorem recsP_snoc (gen : Nat) : ∀ (l : List Byt) (j : Nat) (t : Byt), recsP gen j (l ++ [t]) = recsP gen j l ++ cutB gen (j + l.length) t
  | [], j, t => by simp [recsP]
  | x :: l, j, t => by simp [recsP, recsP_snoc gen l (j + 1) t, Nat.add_assoc, Nat.add_comm 1]
theorem recsP_gen {gen : Nat} : ∀ {l : List Byt} {j : Nat} {p : PartR}, p ∈ recsP gen j l → p.gen = gen
  | [], _, _, h => by simp [recsP] at h
  | t :: l, j, p, h => by
    rw [recsP, List.mem_append] at h
    rcases h with h | h
    · unfold cutB at h; obtain ⟨i, _, rfl⟩ := List.mem_map.1 h; rfl
    · exact recsP_gen h
theorem recsP_len (gen : Nat) : ∀ (l : List Byt) (j : Nat), l.length ≤ (recsP gen j l).length
  | [], _ => by simp [recsP]
  | t :: l, j => by
    have := recsP_len gen l (j + 1); have h2 := partsOf_pos t.length
    simp only [recsP, List.length_append, cutB_len, List.length_cons]; omega
theorem allS_all {f : Nat → Option PartR} : ∀ {n : Nat} {ps : List PartR}, ps.length = n → (∀ i (h : i < ps.length), f i = some ps[i]) → allS f n = some ps
  | 0, ps, hl, _ => by cases ps with | nil => rfl | cons a l => simp at hl
  | n + 1, ps, hl, h => by
    have e : ps = ps.take n ++ [ps[n]] := by
      rw [List.take_append_getElem, List.take_of_length_le (by omega)]
    have ih := allS_all (f := f) (n := n) (ps := ps.take n) (by rw [List.length_take]; omega) (fun i hi => by
      rw [List.length_take] at hi
      rw [h i (by omega)]; simp)
    unfold allS
    rw [ih, h n (by omega)]
    simp only []
    exact congrArg some e.symm
theorem cutB_get (gen rc : Nat) (t : Byt) {i : Nat} (h : i < (cutB gen rc t).length) : (cutB gen rc t)[i] = partAt gen rc t i := by simp [cutB]
/-- A record that stands in its place is told. -/
theorem recR_own {T : Int → Option PartR} {a en : Int} {gen rc : Nat} {t : Byt} (ht : t.length < 4294967296) (hT : ∀ i (h : i < (cutB gen rc t).length), T (a + i) = some (cutB gen rc t)[i]) (hen : a + partsOf t.length ≤ en) :
    recR T a en = some (t, partsOf t.length) ∧ T a = some (partAt gen rc t 0) := by
  have h0 : 0 < (cutB gen rc t).length := by rw [cutB_len]; exact partsOf_pos _
  have e0 : T a = some (partAt gen rc t 0) := by
    have := hT 0 h0
    rw [cutB_get] at this
    simpa using this
  refine ⟨?_, e0⟩
  unfold recR
  rw [e0]
  simp only []
  have : ¬ ((partAt gen rc t 0).n ≠ 0 ∨ en < a + ((partAt gen rc t 0).of : Nat)) := by
    intro h
    rcases h with h | h
    · exact h rfl
    · have : ((partAt gen rc t 0).of : Int) = partsOf t.length := rfl
      omega
  rw [if_neg this]
  have e1 : (partAt gen rc t 0).of = partsOf t.length := rfl
  rw [e1, allS_all (cutB_len gen rc t) hT]
  simp only [join_cut ht, Option.map_some]
/-- Nothing of this generation and this number begins here. -/
def stopR (T : Int → Option PartR) (a en : Int) (gen rc : Nat) : Prop := ∀ x p, recR T a en = some x → T a = some p → ¬ (p.gen = gen ∧ p.rc = rc)
theorem walk_own {T : Int → Option PartR} {fr en : Int} {gen : Nat} : ∀ (rows : List Byt) (f next j : Nat), rows.length < f → (∀ t ∈ rows, t.length < 4294967296) →
    (∀ i (h : i < (recsP gen j rows).length), T (fr + next + i) = some (recsP gen j rows)[i]) → fr + next + (recsP gen j rows).length ≤ en →
    stopR T (fr + next + (recsP gen j rows).length) en gen (j + rows.length) → walkL T fr en gen f next j = (rows, next + (recsP gen j rows).length, j + rows.length)
  | [], f, next, j, hf, _, _, _, hs => by
    obtain ⟨f, rfl⟩ : ∃ k, f = k + 1 := ⟨f - 1, by simp at hf; omega⟩
    simp only [recsP, List.length_nil, Nat.add_zero, Int.natCast_zero, Int.add_zero] at hs ⊢
    unfold walkL
    rcases h1 : recR T (fr + next) en with _ | ⟨t, n⟩
    · rfl
    · obtain ⟨p, hp, _⟩ := recR_at h1
      rw [hp]
      simp only []
      rw [if_neg (hs _ p h1 hp)]
  | t :: rows, f, next, j, hf, ht, hT, hen, hs => by
    obtain ⟨f, rfl⟩ : ∃ k, f = k + 1 := ⟨f - 1, by simp at hf; omega⟩
    have hl : (recsP gen j (t :: rows)).length = partsOf t.length + (recsP gen (j + 1) rows).length := by simp [recsP, cutB_len]
    have hc : ∀ i (h : i < (cutB gen j t).length), T (fr + next + i) = some (cutB gen j t)[i] := fun i h => by
      rw [hT i (by rw [hl]; rw [cutB_len] at h; omega)]
      congr 1
      simp only [recsP]
      rw [List.getElem_append_left h]
    obtain ⟨e1, e2⟩ := recR_own (en := en) (ht t List.mem_cons_self) hc (by rw [hl] at hen; omega)
    have ih := walk_own (T := T) (fr := fr) (en := en) (gen := gen) rows f (next + partsOf t.length) (j + 1) (by simp at hf; omega) (fun x hx => ht x (List.mem_cons_of_mem _ hx))
      (fun i h => by
        have := hT (partsOf t.length + i) (by rw [hl]; omega)
        rw [show fr + ((next + partsOf t.length : Nat) : Int) + (i : Int) = fr + next + ((partsOf t.length + i : Nat) : Int) from by omega, this]
        congr 1
        simp only [recsP]
        rw [List.getElem_append_right (by rw [cutB_len]; omega)]
        simp [cutB_len])
      (by rw [hl] at hen; omega)
      (by
        rw [hl] at hs
        rw [show fr + ((next + partsOf t.length : Nat) : Int) + ((recsP gen (j + 1) rows).length : Int) = fr + next + ((partsOf t.length + (recsP gen (j + 1) rows).length : Nat) : Int) from by omega,
          show j + 1 + rows.length = j + (t :: rows).length from by simp; omega]
        exact hs)
    unfold walkL
    rw [e1, e2]
    simp only []
    rw [if_pos ⟨rfl, rfl⟩, ih, hl]
    simp only [List.length_cons]
    rw [show next + partsOf t.length + (recsP gen (j + 1) rows).length = next + (partsOf t.length + (recsP gen (j + 1) rows).length) from by omega, show j + 1 + rows.length = j + (rows.length + 1) from by omega]
theorem begin_own {T : Int → Option PartR} {a : Int} {z gen : Nat} {t : Byt} {rows : List Byt} (ht : t.length < 4294967296) (hT : ∀ i (h : i < (recsP gen 0 (t :: rows)).length), T (a + i) = some (recsP gen 0 (t :: rows))[i]) (hz : (recsP gen 0 (t :: rows)).length ≤ z) :
    beginR T a z = gen := by
  have hl : (recsP gen 0 (t :: rows)).length = partsOf t.length + (recsP gen 1 rows).length := by simp [recsP, cutB_len]
  obtain ⟨e1, e2⟩ := recR_own (T := T) (a := a) (en := a + z) (gen := gen) (rc := 0) (t := t) ht (fun i h => by
      rw [hT i (by rw [hl]; rw [cutB_len] at h; omega)]
      congr 1
      simp only [recsP]
      rw [List.getElem_append_left h]) (by omega)
  unfold beginR
  rw [e1, if_neg (by exact (nomatch ·)), e2]
  simp only []
  rw [if_pos (by rfl)]
  rfl
theorem begin_le {T : Int → Option PartR} {a z : Int} {g : Nat} (hg : ∀ p, T a = some p → p.gen ≤ g) : beginR T a z ≤ g := by
  unfold beginR
  split
  · omega
  · split
    · rename_i p hp
      split
      · exact hg p hp
      · omega
    · omega
/-- A log that stands in its half, all that it holds; where it ends nothing goes on; the other half begins nothing newer. -/
structure Stands (T : Int → Option PartR) (z gen half : Nat) (rows : List Byt) : Prop where
  g1 : 1 ≤ gen
  hf : half ≤ 1
  r1 : rows ≠ []
  sm : ∀ t ∈ rows, t.length < 4294967296
  own : ∀ i (h : i < (recsP gen 0 rows).length), T ((half * z : Nat) + i) = some (recsP gen 0 rows)[i]
  fit : (recsP gen 0 rows).length ≤ z
  stop : stopR T ((half * z : Nat) + (recsP gen 0 rows).length) (((half + 1) * z : Nat) : Int) gen rows.length
  other : beginR T (((1 - half) * z : Nat) : Int) z < gen
theorem open_stands {d : Dk} {z gen half : Nat} {rows : List Byt} (hz : d.last.length / 2 = z) (hz2 : z ≤ 128) (h : Stands (tabR d d.last.length) z gen half rows) :
    openR d = (⟨gen, half, (recsP gen 0 rows).length, rows.length, mostK d 0 d.last.length⟩, rows) := by
  obtain ⟨g1, hf, r1, sm, own, fit, stop, other⟩ := h
  obtain ⟨T, hT⟩ : ∃ T, tabR d d.last.length = T := ⟨_, rfl⟩
  rw [hT] at own stop other
  have hzi : (d.last.length : Int) / 2 = (z : Int) := by omega
  obtain ⟨t, rw', rfl⟩ : ∃ t l, rows = t :: l := by cases rows with | nil => exact absurd rfl r1 | cons t l => exact ⟨t, l, rfl⟩
  have hb := begin_own (T := T) (a := ((half * z : Nat) : Int)) (z := z) (gen := gen) (t := t) (rows := rw') (sm t List.mem_cons_self) own fit
  have hlen := recsP_len gen (t :: rw') 0
  have hw := walk_own (T := T) (fr := ((half * z : Nat) : Int)) (en := (((half + 1) * z : Nat) : Int)) (gen := gen) (t :: rw') 300 0 0 (by omega) sm
    (fun i h => by rw [show ((half * z : Nat) : Int) + ((0 : Nat) : Int) + (i : Int) = ((half * z : Nat) : Int) + i from by omega]; exact own i h)
    (by rw [Nat.add_mul, Nat.one_mul]; omega)
    (by rw [show ((half * z : Nat) : Int) + ((0 : Nat) : Int) + ((recsP gen 0 (t :: rw')).length : Int) = ((half * z : Nat) : Int) + ((recsP gen 0 (t :: rw')).length : Int) from by omega, Nat.zero_add]; exact stop)
  rw [Nat.zero_add, Nat.zero_add] at hw
  unfold openR
  simp only [hT, hzi]
  have h01 : half = 0 ∨ half = 1 := by omega
  rcases h01 with rfl | rfl
  · have hb0 : beginR T 0 z = gen := by simpa using hb
    have ho : beginR T z z < gen := by simpa using other
    have n1 : ¬ gen < beginR T z z := by omega
    have n2 : ¬ gen = 0 := by omega
    simp only [hb0, if_neg n1, if_neg n2]
    have e : walkL T (((0 : Nat) : Int) * (z : Int)) ((((0 : Nat) : Int) + 1) * (z : Int)) gen 300 0 0 = (t :: rw', (recsP gen 0 (t :: rw')).length, (t :: rw').length) := by
      rw [← hw]; congr 1 <;> simp
    rw [e]
  · have hb0 : beginR T z z = gen := by simpa using hb
    have ho : beginR T 0 z < gen := by simpa using other
    have n2 : ¬ gen = 0 := by omega
    simp only [hb0, if_pos ho, if_neg n2]
    have e : walkL T (((1 : Nat) : Int) * (z : Int)) ((((1 : Nat) : Int) + 1) * (z : Int)) gen 300 0 0 = (t :: rw', (recsP gen 0 (t :: rw')).length, (t :: rw').length) := by
      rw [← hw]; congr 1 <;> simp
    rw [e]
end Go.Proofs.YtcgnkloljfgiaaaGreatDoor
