/-
  No program in sight: the program's disk and the document's answer alike.
-/
import Derived.Test.YtbeabedpmoalpaaRk7
import Derived.Test.YtbeabedpmoalpaaDk11
namespace Go.Proofs.Ytbeabedpmoalpaa
open Go.RowKit Go.Maps Go.MapKept

theorem sorted_ext : ∀ {l1 l2 : List Int}, l1.Pairwise (· < ·) → l2.Pairwise (· < ·) → (∀ x, x ∈ l1 ↔ x ∈ l2) → l1 = l2
  | [], [], _, _, _ => rfl
  | [], b :: l2, _, _, h => absurd ((h b).2 (by simp)) (by simp)
  | a :: l1, [], _, _, h => absurd ((h a).1 (by simp)) (by simp)
  | a :: l1, b :: l2, h1, h2, h => by
    rw [List.pairwise_cons] at h1 h2
    have hab : a = b := by
      rcases List.mem_cons.1 ((h a).1 (by simp)) with e1 | e1
      · exact e1
      · rcases List.mem_cons.1 ((h b).2 (by simp)) with e2 | e2
        · exact e2.symm
        · have := h2.1 a e1; have := h1.1 b e2; omega
    subst hab
    rw [sorted_ext h1.2 h2.2 (fun x => ?_)]
    constructor
    · intro hx
      have := h1.1 x hx
      rcases List.mem_cons.1 ((h x).1 (by simp [hx])) with e1 | e1
      · omega
      · exact e1
    · intro hx
      have := h2.1 x hx
      rcases List.mem_cons.1 ((h x).2 (by simp [hx])) with e1 | e1
      · omega
      · exact e1

theorem sortI_lt {l : List Int} (h : l.Nodup) : (sortI l).Pairwise (· < ·) := by
  have h1 : (sortI l).Pairwise (fun a b => decide (a ≤ b) = true) := List.pairwise_mergeSort (fun a b c hab hbc => by simp at *; omega) (fun a b => by simp; omega) l
  have h2 : (sortI l).Nodup := (List.mergeSort_perm _ _).nodup_iff.2 h
  have h3 : (sortI l).Pairwise (fun a b => a ≠ b) := h2
  exact (h1.and h3).imp (fun ⟨x, y⟩ => by simp at x; omega)

def idxs (p : Nat → Bool) (n : Nat) : List Nat := (List.range n).filter p
def rank (p : Nat → Bool) (n : Nat) : Nat := (idxs p n).length

theorem rank_succ (p : Nat → Bool) (n : Nat) : rank p (n + 1) = rank p n + (if p n then 1 else 0) := by
  unfold rank idxs
  rw [List.range_succ, List.filter_append, List.length_append]
  cases h : p n <;> simp [h]

theorem idxs_mem (p : Nat → Bool) (n j : Nat) : j ∈ idxs p n ↔ j < n ∧ p j = true := by simp [idxs]

theorem idxs_add (p : Nat → Bool) (n : Nat) : ∀ m, ∃ l, idxs p (n + m) = idxs p n ++ l
  | 0 => ⟨[], by simp⟩
  | m + 1 => by
    obtain ⟨l, hl⟩ := idxs_add p n m
    refine ⟨l ++ [n + m].filter p, ?_⟩
    unfold idxs at *
    rw [show n + (m + 1) = n + m + 1 by omega, List.range_succ, List.filter_append, hl, List.append_assoc]

theorem idxs_at (p : Nat → Bool) (N n : Nat) (hn : n < N) (hp : p n = true) : (idxs p N)[rank p n]? = some n := by
  obtain ⟨l, hl⟩ := idxs_add p (n + 1) (N - (n + 1))
  rw [show n + 1 + (N - (n + 1)) = N by omega] at hl
  have h1 : idxs p (n + 1) = idxs p n ++ [n] := by
    unfold idxs; rw [List.range_succ, List.filter_append]; simp [hp]
  rw [hl, h1, List.append_assoc, List.getElem?_append_right (show (idxs p n).length ≤ rank p n from Nat.le_refl _)]
  simp [rank]

theorem idxs_lt (p : Nat → Bool) (n : Nat) : (idxs p n).Pairwise (· < ·) := (List.pairwise_lt_range).filter p

/-- The keys, in order, are the places that are fresh. -/
theorem keys_idxs {d : Dk} (h : d.Fine) : d.keys = (idxs (fun i => (kget d.fresh (i : Int)).isSome) d.last.length).map Int.ofNat := by
  refine sorted_ext (sortI_lt h.nodup) ?_ (fun x => ?_)
  · rw [List.pairwise_map]
    exact (idxs_lt _ _).imp (fun h => by simpa using h)
  · rw [keys_mem]
    constructor
    · intro hx
      obtain ⟨p, hp, rfl⟩ := List.mem_map.1 hx
      obtain ⟨q, hq⟩ : ∃ q, kget d.fresh p.1 = some q := by
        cases hk : kget d.fresh p.1 with
        | none => exact absurd hx (kget_none.1 hk)
        | some q => exact ⟨q, rfl⟩
      obtain ⟨_, h0, h1⟩ := h.ok.get hq
      refine List.mem_map.2 ⟨p.1.toNat, (idxs_mem _ _ _).2 ⟨by omega, ?_⟩, by simp; omega⟩
      rw [Int.toNat_of_nonneg h0, hq]; rfl
    · intro hx
      obtain ⟨j, hj, rfl⟩ := List.mem_map.1 hx
      obtain ⟨_, hj2⟩ := (idxs_mem _ _ _).1 hj
      cases hk : kget d.fresh (Int.ofNat j) with
      | none => simp only [Int.ofNat_eq_natCast] at hk; rw [hk] at hj2; cases hj2
      | some q =>
        exact Decidable.byContradiction fun hx => by rw [kget_none.2 hx] at hk; cases hk

theorem picked_iff {d : Dk} (h : d.Fine) (f : Nat → Bool) (n : Nat) (hn : n < d.last.length) :
    picked d.keys f d.keys.length (n : Int) ↔ (kget d.fresh (n : Int)).isSome = true ∧ f (rank (fun i => (kget d.fresh (i : Int)).isSome) n) = true := by
  have hk := keys_idxs h
  generalize hp : (fun i : Nat => (kget d.fresh (i : Int)).isSome) = p at *
  have hpn : (kget d.fresh (n : Int)).isSome = p n := by rw [← hp]
  rw [hpn]
  constructor
  · rintro ⟨i, hi, he, hf⟩
    rw [hk] at hi he
    have hi' : i < (idxs p d.last.length).length := by simpa using hi
    have he' : (idxs p d.last.length)[i] = n := by
      simp only [List.getD, List.getElem?_map, List.getElem?_eq_getElem hi', Option.map_some, Option.getD_some] at he
      exact Int.ofNat_inj.1 he
    have hm := (idxs_mem p d.last.length n).1 (by rw [← he']; exact List.getElem_mem hi')
    have hat := idxs_at p d.last.length n hn hm.2
    have hr : rank p n < (idxs p d.last.length).length := (List.getElem?_eq_some_iff.1 hat).1
    have hrv : (idxs p d.last.length)[rank p n] = n := by rw [List.getElem?_eq_getElem hr] at hat; exact Option.some.inj hat
    have hpw := List.pairwise_iff_getElem.1 (idxs_lt p d.last.length)
    have hir : i = rank p n := by
      rcases Nat.lt_trichotomy i (rank p n) with hlt | heq | hgt
      · have := hpw i (rank p n) hi' hr hlt; omega
      · exact heq
      · have := hpw (rank p n) i hr hi' hgt; omega
    exact ⟨hm.2, by rw [← hir]; exact hf⟩
  · rintro ⟨h1, h2⟩
    have hat := idxs_at p d.last.length n hn h1
    have hr : rank p n < (idxs p d.last.length).length := (List.getElem?_eq_some_iff.1 hat).1
    refine ⟨rank p n, by rw [hk]; simpa using hr, ?_, h2⟩
    rw [hk]
    simp only [List.getD, List.getElem?_map, hat, Option.map_some, Option.getD_some]
    rfl
end Go.Proofs.Ytbeabedpmoalpaa
