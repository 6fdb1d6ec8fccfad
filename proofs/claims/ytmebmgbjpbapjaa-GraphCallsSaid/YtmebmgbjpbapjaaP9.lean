/-
  No program in sight: sets with one more; whom the blocks of raw statements call; what is reached.
-/
import Derived.Test.YtmebmgbjpbapjaaPp
import Derived.Test.YtmebmgbjpbapjaaG2
namespace Go.Proofs.Ytmebmgbjpbapjaa
open Go.RowKit Go.Maps Go.MapKept

theorem dropWhile_suffix_all {l : List Str} (h : Inc l) (s : Str) : ∀ x ∈ l.dropWhile (fun x => Op.bytesLess x s), Op.bytesLess x s = false := by
  induction l with
  | nil => intro x hx; simp at hx
  | cons a l ih =>
    intro x hx
    rw [List.dropWhile_cons] at hx
    split at hx
    · exact ih (List.pairwise_cons.1 h).2 x hx
    · rename_i ha
      rcases List.mem_cons.1 hx with rfl | hx
      · simpa using ha
      · rw [← Bool.not_eq_true]
        intro hxs
        have h1 := (bytesLess_iff _ _).1 ((List.pairwise_cons.1 h).1 x hx)
        have h2 := (bytesLess_iff _ _).1 hxs
        exact ha ((bytesLess_iff _ _).2 (List.lt_trans h1 h2))
theorem mem_insS {l : List Str} {s y : Str} : y ∈ insS l s ↔ y ∈ l ∨ y = s := by
  unfold insS
  split
  · rename_i h
    exact ⟨Or.inl, fun h2 => h2.elim id (fun e => e ▸ h)⟩
  · constructor
    · intro hy
      rw [List.mem_append, List.mem_cons] at hy
      rcases hy with h | h | h
      · exact Or.inl ((List.takeWhile_sublist _).mem h)
      · exact Or.inr h
      · exact Or.inl ((List.dropWhile_sublist _).mem h)
    · intro hy
      rw [List.mem_append, List.mem_cons]
      rcases hy with h | h
      · rw [← List.takeWhile_append_dropWhile (p := fun x => Op.bytesLess x s) (l := l), List.mem_append] at h
        exact h.imp id Or.inr
      · exact Or.inr (Or.inl h)
theorem str_total (x y : Str) (h1 : ¬ x < y) (h2 : x ≠ y) : y < x :=
  Decidable.byContradiction (fun h3 => h2 (List.le_antisymm (List.not_lt.1 h3) (List.not_lt.1 h1)))
theorem insS_inc {l : List Str} (h : Inc l) (s : Str) : Inc (insS l s) := by
  unfold insS
  split
  · exact h
  · rename_i hn
    have hd := dropWhile_suffix_all h s
    have ht : ∀ x ∈ l.takeWhile (fun x => Op.bytesLess x s), Op.bytesLess x s = true := fun x hx => List.all_eq_true.1 (List.all_takeWhile (p := fun x => Op.bytesLess x s) (l := l)) x hx
    have hgt : ∀ x ∈ l.dropWhile (fun x => Op.bytesLess x s), Op.bytesLess s x = true := fun x hx => by
      rw [bytesLess_iff]
      refine str_total x s (fun hlt => ?_) (fun e => hn (e ▸ (List.dropWhile_sublist _).mem hx))
      have := hd x hx
      rw [(bytesLess_iff _ _).2 hlt] at this; cases this
    have hsp : Inc (l.takeWhile (fun x => Op.bytesLess x s) ++ l.dropWhile (fun x => Op.bytesLess x s)) := by rw [List.takeWhile_append_dropWhile]; exact h
    obtain ⟨h1, h2, h3⟩ := List.pairwise_append.1 hsp
    refine List.pairwise_append.2 ⟨h1, List.pairwise_cons.2 ⟨hgt, h2⟩, fun x hx y hy => ?_⟩
    rcases List.mem_cons.1 hy with rfl | hy
    · exact ht x hx
    · exact h3 x hx y hy

theorem nodup_len : ∀ (l m : List Str), l.Nodup → (∀ x ∈ l, x ∈ m) → l.length ≤ m.length := by
  intro l
  induction l with
  | nil => intros; simp
  | cons a l ih =>
    intro m hnd hsub
    rw [List.nodup_cons] at hnd
    have ha : a ∈ m := hsub a (by simp)
    have := ih (m.erase a) hnd.2 (fun x hx => by
      have hxa : x ≠ a := fun e => hnd.1 (by rw [← e]; exact hx)
      exact (List.mem_erase_of_ne hxa).2 (hsub x (by simp [hx])))
    rw [List.length_erase_of_mem ha] at this
    have : 0 < m.length := List.length_pos_of_mem ha
    simp; omega

/-- The functions' names. -/
def namesU : List Str := [sMain, sF, sG, sH]
theorem nameR_call (k n : Int) (hk : k = 5 ∨ k = 6) : nameR k n ∈ namesU := by
  have e : nameAt k = [sF, sG, sH, sMain] := by rcases hk with rfl | rfl <;> rfl
  unfold nameR
  rw [e]
  have h1 := Int.emod_nonneg n (show (4 : Int) ≠ 0 by omega)
  have h2 := Int.emod_lt_of_pos n (show (0 : Int) < 4 by omega)
  rw [show ((([sF, sG, sH, sMain] : List Str).length : Nat) : Int) = 4 from rfl]
  obtain ⟨j, hj⟩ : ∃ j : Nat, n % 4 = (j : Int) := ⟨(n % 4).toNat, by omega⟩
  rw [hj, Int.toNat_natCast]
  have : j = 0 ∨ j = 1 ∨ j = 2 ∨ j = 3 := by omega
  rcases this with rfl | rfl | rfl | rfl <;> decide
theorem names_block (kind : Int) (hk : kind = 5 ∨ kind = 6) : ∀ (l : Raws) (y : Str), y ∈ names kind (blockR l) → y ∈ namesU
  | .nil, y, h => by simp [blockR, names] at h
  | .cons k n A B r, y, h => by
    simp only [blockR, names, List.mem_append] at h
    rcases h with ((h | h) | h) | h
    · split at h
      · rename_i hkk
        simp at h; subst h
        rw [hkk]; exact nameR_call kind n hk
      · simp at h
    · split at h
      · exact names_block kind hk A y h
      · simp [names] at h
    · split at h
      · exact names_block kind hk B y h
      · simp [names] at h
    · exact names_block kind hk r y h
theorem funcsR_body {a c d e : Raws} {t : Int} {x : FRec} (hx : x ∈ funcsR a c d e t) : (∃ l, x.body = blockR l) ∧ x.name ∈ namesU := by
  unfold funcsR at hx
  split at hx <;> (simp only [List.mem_cons, List.not_mem_nil, or_false] at hx; rcases hx with rfl | rfl | rfl | rfl <;> exact ⟨⟨_, rfl⟩, by simp [namesU]⟩)
theorem funcsR_calls {a c d e : Raws} {t : Int} {q y : Str} (kind : Int) (hk : kind = 5 ∨ kind = 6) (h : y ∈ namesP kind (funcsR a c d e t) q) : y ∈ namesU := by
  unfold namesP at h
  rw [List.mem_flatMap] at h
  obtain ⟨x, hx, hy⟩ := h
  obtain ⟨⟨l, hl⟩, _⟩ := funcsR_body hx
  split at hy
  · rw [hl] at hy; exact names_block kind hk l y hy
  · simp at hy
theorem funcsR_find {a c d e : Raws} {t : Int} {y : Str} (h : y ∈ namesU) : 0 ≤ findR (funcsR a c d e t) y := by
  unfold findR
  split
  · omega
  · rename_i hn
    exfalso
    rw [List.findIdx?_eq_none_iff] at hn
    have : ∃ x ∈ funcsR a c d e t, x.name = y := by
      unfold funcsR
      simp only [namesU, List.mem_cons, List.not_mem_nil, or_false] at h
      split <;> rcases h with rfl | rfl | rfl | rfl <;> simp
    obtain ⟨x, hx, hxy⟩ := this
    have := hn x hx
    simp [hxy] at this
theorem rch_first {nxt : Str → List Str} {s y : Str} : Rch nxt s y ↔ y = s ∨ ∃ t ∈ nxt s, Rch nxt t y := by
  constructor
  · intro h
    refine h (fun y => y = s ∨ ∃ t ∈ nxt s, Rch nxt t y) (Or.inl rfl) (fun x hx z hz => ?_)
    rcases hx with rfl | ⟨t, ht, hr⟩
    · exact Or.inr ⟨z, hz, Rch.refl _ _⟩
    · exact Or.inr ⟨t, ht, hr.step hz⟩
  · rintro (rfl | ⟨t, ht, hr⟩)
    · exact Rch.refl _ _
    · exact ((Rch.refl _ _).step ht).trans hr
theorem rch_in {nxt : Str → List Str} {U : List Str} (hU : ∀ a ∈ U, ∀ z ∈ nxt a, z ∈ U) {s y : Str} (hs : s ∈ U) (h : Rch nxt s y) : y ∈ U := h (fun y => y ∈ U) hs hU
end Go.Proofs.Ytmebmgbjpbapjaa
