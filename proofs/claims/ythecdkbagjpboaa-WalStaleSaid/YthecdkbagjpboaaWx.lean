/-
  No program in sight: a record of which not all is there.
-/
import Derived.Test.YthecdkbagjpboaaWs
namespace Go.Proofs.Ythecdkbagjpboaa
open Go.RowKit
theorem allS_get {α : Type} {f : Nat → Option α} : ∀ {n : Nat} {l : List α}, allS f n = some l → ∀ i (h : i < l.length), f i = some l[i]
  | 0, l, h => by simp [allS] at h; subst h; intro i hi; simp at hi
  | n + 1, l, h => by
    unfold allS at h
    rcases h1 : allS f n with _ | l'
    · rw [h1] at h; cases h
    · rcases h2 : f n with _ | x
      · rw [h1, h2] at h; cases h
      · rw [h1, h2] at h
        simp only [Option.some.injEq] at h
        subst h
        have hl := allS_len h1
        intro i hi
        by_cases c : i < l'.length
        · rw [List.getElem_append_left c]; exact allS_get h1 i c
        · have : i = n := by rw [List.length_append] at hi; simp only [List.length_cons, List.length_nil] at hi; omega
          subst this
          rw [h2]
          congr 1
          rw [List.getElem_append_right (by omega)]
          simp [hl]
/-- What a told record is: all its Parts are there, of its head's generation. -/
theorem recR_parts {T : Int → Option PartR} {a en : Int} {x : Byt × Nat} {p : PartR} (h : recR T a en = some x) (hp : T a = some p) (hof : 1 ≤ p.of) : ∀ k, k < p.of → ∃ q, T (a + k) = some q ∧ q.gen = p.gen := by
  unfold recR at h
  rw [hp] at h
  simp only [] at h
  split at h
  · cases h
  · rcases h1 : allS (fun i => T (a + i)) p.of with _ | ps
    · rw [h1] at h; cases h
    · rw [h1] at h
      simp only [] at h
      obtain ⟨d, hd, _⟩ := Option.map_eq_some_iff.1 h
      have hl := allS_len h1
      have hg := allS_get h1
      unfold joinB at hd
      simp only [] at hd
      split at hd
      · rename_i hc
        have hcut := hc.2
        have hall : ∀ q ∈ ps, q.gen = (ps.headD ⟨0, 0, 0, 0, []⟩).gen := fun q hq => by rw [← hcut] at hq; exact cutB_gen hq
        have h0 : ps.headD ⟨0, 0, 0, 0, []⟩ = p := by
          have := hg 0 (by omega)
          rw [show a + ((0 : Nat) : Int) = a from by omega, hp] at this
          cases ps with
          | nil => simp at hl; omega
          | cons y l => simp only [Option.some.injEq, List.getElem_cons_zero] at this; exact this.symm
        intro k hk
        refine ⟨ps[k]'(by omega), hg k (by omega), ?_⟩
        rw [hall _ (List.getElem_mem _), h0]
      · cases hd
theorem partAt_of (gen rc : Nat) (t : Byt) (k : Nat) : (partAt gen rc t k).of = partsOf t.length ∧ (partAt gen rc t k).gen = gen := ⟨rfl, rfl⟩
/-- Behind an Append of which not all came to be. -/
theorem append_mix {T T' : Int → Option PartR} {z : Nat} {l : LogR} {rows : List Byt} {t : Byt} (h : LogI T z l rows) (ht : t.length < 4294967296) (hfit : l.next + partsOf t.length ≤ z)
    (mix : ∀ i : Int, T' i = T i ∨ (∃ k, k < partsOf t.length ∧ i = ((l.half * z : Nat) : Int) + l.next + (k : Nat) ∧ (T' i = none ∨ T' i = some (partAt l.gen l.rc t k)))) :
    ((∀ k, k < partsOf t.length → T' (((l.half * z : Nat) : Int) + l.next + (k : Nat)) = some (partAt l.gen l.rc t k)) ∧ Stands T' z l.gen l.half (rows ++ [t])) ∨
    (¬ (∀ k, k < partsOf t.length → T' (((l.half * z : Nat) : Int) + l.next + (k : Nat)) = some (partAt l.gen l.rc t k)) ∧ Stands T' z l.gen l.half rows) := by
  by_cases hall : ∀ k, k < partsOf t.length → T' (((l.half * z : Nat) : Int) + l.next + (k : Nat)) = some (partAt l.gen l.rc t k)
  · refine Or.inl ⟨hall, ?_⟩
    have e : T' = upd T (((l.half * z : Nat) : Int) + l.next) (cutB l.gen l.rc t) := by
      funext i
      by_cases c : ((l.half * z : Nat) : Int) + l.next ≤ i ∧ i < ((l.half * z : Nat) : Int) + l.next + (cutB l.gen l.rc t).length
      · have hk : (i - (((l.half * z : Nat) : Int) + l.next)).toNat < (cutB l.gen l.rc t).length := by omega
        have h1 := upd_in (T := T) (a := ((l.half * z : Nat) : Int) + l.next) hk
        rw [show ((l.half * z : Nat) : Int) + l.next + (((i - (((l.half * z : Nat) : Int) + l.next)).toNat : Nat) : Int) = i from by omega] at h1
        rw [h1, cutB_get]
        have h2 := hall (i - (((l.half * z : Nat) : Int) + l.next)).toNat (by rw [cutB_len] at hk; exact hk)
        rw [show ((l.half * z : Nat) : Int) + l.next + (((i - (((l.half * z : Nat) : Int) + l.next)).toNat : Nat) : Int) = i from by omega] at h2
        exact h2
      · rw [upd_out c]
        rcases mix i with h1 | ⟨k, hk, hi, _⟩
        · exact h1
        · rw [cutB_len] at c; exact absurd ⟨by omega, by omega⟩ c
    rw [e]
    exact (logI_append h ht hfit).stands
  · refine Or.inr ⟨hall, ?_⟩
    have hnx := h.nx
    have same : ∀ i : Int, ¬ (((l.half * z : Nat) : Int) + l.next ≤ i ∧ i < ((l.half * z : Nat) : Int) + l.next + partsOf t.length) → T' i = T i := fun i hi => by
      rcases mix i with h1 | ⟨k, hk, he, _⟩
      · exact h1
      · exact absurd ⟨by omega, by omega⟩ hi
    refine ⟨h.g1, h.hf, h.r1, h.sm, fun i hi => ?_, by rw [← hnx]; exact h.fit, ?_, ?_⟩
    · rw [same _ (by omega)]; exact h.own i hi
    · rw [← hnx]
      intro x p hx hp hc
      refine hall fun k hk => ?_
      have hold : ∀ (i : Int) q, ((l.half * z : Nat) : Int) + l.next ≤ i → T i = some q → q.gen ≠ l.gen := fun i q hi hq he => by have := (h.all i q hq).2 he; omega
      have hp0 : p = partAt l.gen l.rc t 0 := by
        rcases mix (((l.half * z : Nat) : Int) + l.next) with h1 | ⟨k', hk', he, h2 | h2⟩
        · rw [hp] at h1; exact absurd hc.1 (hold _ p (Int.le_refl _) h1.symm)
        · rw [hp] at h2; cases h2
        · have : k' = 0 := by omega
          subst this
          rw [hp] at h2; exact Option.some.inj h2
      have hof : p.of = partsOf t.length := by rw [hp0]; rfl
      obtain ⟨q, hq, hqg⟩ := recR_parts hx hp (by rw [hof]; exact partsOf_pos _) k (by rw [hof]; exact hk)
      rcases mix (((l.half * z : Nat) : Int) + l.next + (k : Nat)) with h1 | ⟨k', hk', he, h2 | h2⟩
      · rw [hq] at h1; exact absurd (by rw [hqg]; exact hc.1) (hold _ q (by omega) h1.symm)
      · rw [hq] at h2; cases h2
      · have : k' = k := by omega
        subst this
        exact h2
    · have hp := h.pos
      have hz := h.fit
      have hb : beginR T' (((1 - l.half) * z : Nat) : Int) z ≤ l.gen - 1 := begin_le fun p hT => by
        have h01 : l.half = 0 ∨ l.half = 1 := by have := h.hf; omega
        have hsame : T' (((1 - l.half) * z : Nat) : Int) = T (((1 - l.half) * z : Nat) : Int) := same _ (by
          have hpo := partsOf_pos t.length
          rcases h01 with e | e <;> rw [e] <;> simp <;> omega)
        rw [hsame] at hT
        have h2 := h.all _ p hT
        have : ¬ p.gen = l.gen := fun he => by
          have h3 := h2.2 he
          rcases h01 with e | e <;> rw [e] at h3 <;> simp at h3 <;> omega
        omega
      have := h.g1
      omega
/-- Behind a Fresh of which not all came to be. -/
theorem fresh_mix {T T' : Int → Option PartR} {z : Nat} {l : LogR} {rows : List Byt} {t : Byt} (h : LogI T z l rows) (ht : t.length < 4294967296) (hfit : partsOf t.length ≤ z)
    (mix : ∀ i : Int, T' i = T i ∨ (∃ k, k < partsOf t.length ∧ i = (((1 - l.half) * z : Nat) : Int) + (k : Nat) ∧ T' i = some (partAt (l.gen + 1) 0 t k))) :
    ((∀ k, k < partsOf t.length → T' ((((1 - l.half) * z : Nat) : Int) + (k : Nat)) = some (partAt (l.gen + 1) 0 t k)) ∧ Stands T' z (l.gen + 1) (1 - l.half) [t]) ∨
    (¬ (∀ k, k < partsOf t.length → T' ((((1 - l.half) * z : Nat) : Int) + (k : Nat)) = some (partAt (l.gen + 1) 0 t k)) ∧ Stands T' z l.gen l.half rows) := by
  by_cases hall : ∀ k, k < partsOf t.length → T' ((((1 - l.half) * z : Nat) : Int) + (k : Nat)) = some (partAt (l.gen + 1) 0 t k)
  · refine Or.inl ⟨hall, ?_⟩
    have e : T' = upd T (((1 - l.half) * z : Nat) : Int) (cutB (l.gen + 1) 0 t) := by
      funext i
      by_cases c : (((1 - l.half) * z : Nat) : Int) ≤ i ∧ i < (((1 - l.half) * z : Nat) : Int) + (cutB (l.gen + 1) 0 t).length
      · have hk : (i - (((1 - l.half) * z : Nat) : Int)).toNat < (cutB (l.gen + 1) 0 t).length := by omega
        have h1 := upd_in (T := T) (a := (((1 - l.half) * z : Nat) : Int)) hk
        rw [show (((1 - l.half) * z : Nat) : Int) + (((i - (((1 - l.half) * z : Nat) : Int)).toNat : Nat) : Int) = i from by omega] at h1
        rw [h1, cutB_get]
        have h2 := hall (i - (((1 - l.half) * z : Nat) : Int)).toNat (by rw [cutB_len] at hk; exact hk)
        rw [show (((1 - l.half) * z : Nat) : Int) + (((i - (((1 - l.half) * z : Nat) : Int)).toNat : Nat) : Int) = i from by omega] at h2
        exact h2
      · rw [upd_out c]
        rcases mix i with h1 | ⟨k, hk, hi, _⟩
        · exact h1
        · rw [cutB_len] at c; exact absurd ⟨by omega, by omega⟩ c
    rw [e]
    exact (logI_fresh (g := l.gen + 1) (half := 1 - l.half) (fun i p hp => by have := (h.all i p hp).1; omega) (by omega) (by omega) ht hfit).stands
  · refine Or.inr ⟨hall, ?_⟩
    have hnx := h.nx
    have hp := h.pos
    have hz := h.fit
    have h01 : l.half = 0 ∨ l.half = 1 := by have := h.hf; omega
    refine ⟨h.g1, h.hf, h.r1, h.sm, fun i hi => ?_, by rw [← hnx]; exact h.fit, ?_, ?_⟩
    · rcases mix (((l.half * z : Nat) : Int) + i) with h1 | ⟨k, hk, he, _⟩
      · rw [h1]; exact h.own i hi
      · exfalso
        rcases h01 with e | e <;> rw [e] at he <;> simp at he <;> omega
    · rw [← hnx]
      intro x p hx hp hc
      rcases mix (((l.half * z : Nat) : Int) + l.next) with h1 | ⟨k', hk', he, h2⟩
      · rw [hp] at h1
        have := (h.all _ p h1.symm).2 hc.1
        omega
      · rw [hp] at h2
        have := Option.some.inj h2
        have hg : p.gen = l.gen + 1 := by rw [this]; rfl
        omega
    · have h1g := h.g1
      have key : beginR T' (((1 - l.half) * z : Nat) : Int) z ≤ l.gen - 1 := by
        unfold beginR
        split
        · omega
        · rename_i hne
          split
          · rename_i p hT
            rcases mix (((1 - l.half) * z : Nat) : Int) with h1 | ⟨k', hk', he, h2⟩
            · rw [hT] at h1
              have h2 := h.all _ p h1.symm
              have : ¬ p.gen = l.gen := fun he => by
                have h3 := h2.2 he
                rcases h01 with e | e <;> rw [e] at h3 <;> simp at h3 <;> omega
              split <;> omega
            · exfalso
              refine hall fun k hk => ?_
              have hk0 : k' = 0 := by omega
              subst hk0
              rw [hT] at h2
              have hp0 := Option.some.inj h2
              have hof : p.of = partsOf t.length := by rw [hp0]; rfl
              have hgp : p.gen = l.gen + 1 := by rw [hp0]; rfl
              rcases hx : recR T' (((1 - l.half) * z : Nat) : Int) ((((1 - l.half) * z : Nat) : Int) + z) with _ | x
              · exact absurd hx hne
              · obtain ⟨q, hq, hqg⟩ := recR_parts hx hT (by rw [hof]; exact partsOf_pos _) k (by rw [hof]; exact hk)
                rcases mix ((((1 - l.half) * z : Nat) : Int) + (k : Nat)) with h3 | ⟨k2, hk2, he2, h3⟩
                · rw [hq] at h3
                  have := (h.all _ q h3.symm).1
                  omega
                · have : k2 = k := by omega
                  subst this
                  exact h3
          · omega
      omega
end Go.Proofs.Ythecdkbagjpboaa
