/-
  No program in sight: each name in one part, the parts in order.
-/
import Derived.Test.YtmebmgbjpbapjaaGm
import Derived.Test.YtmebmgbjpbapjaaGf
namespace Go.Proofs.Ytmebmgbjpbapjaa
open Go.RowKit Go.Maps Go.MapKept

section
variable {q : Str → Str → Bool}
theorem parts_sub (hr : ∀ x, q x x = true) (hsy : ∀ x y, q x y = true → q y x = true) (htr : ∀ x y z, q x y = true → q y z = true → q x z = true) {n : Nat} {l P : List Str} (hP : P ∈ partsR q n l) {y : Str} (hy : y ∈ P) : y ∈ l := (parts_ne hr hsy htr hP).2 y hy
theorem parts_uniq (hr : ∀ x, q x x = true) (hsy : ∀ x y, q x y = true → q y x = true) (htr : ∀ x y z, q x y = true → q y z = true → q x z = true) : ∀ (n : Nat) (l : List Str) (a c : Nat) (P Q : List Str) (x : Str), (partsR q n l)[a]? = some P → (partsR q n l)[c]? = some Q → x ∈ P → x ∈ Q → a = c
  | 0, _, a, _, _, _, _, h, _, _, _ => by simp [partsR] at h
  | _ + 1, [], a, _, _, _, _, h, _, _, _ => by simp [partsR] at h
  | n + 1, z :: l, a, c, P, Q, x, h1, h2, hx, hy => by
    simp only [partsR] at h1 h2
    have out : ∀ (i : Nat) (R : List Str), (partsR q n ((z :: l).filter (fun y => !q z y)))[i]? = some R → x ∈ R → q z x = false := fun i R hi hxR => by
      have := (List.mem_filter.1 (parts_sub hr hsy htr (List.mem_of_getElem? hi) hxR)).2
      simpa using this
    cases a with
    | zero =>
      simp at h1; subst h1
      cases c with
      | zero => rfl
      | succ c => have := out c Q (by simpa using h2) hy; rw [(List.mem_filter.1 hx).2] at this; cases this
    | succ a =>
      cases c with
      | zero => simp at h2; subst h2; have := out a P (by simpa using h1) hx; rw [(List.mem_filter.1 hy).2] at this; cases this
      | succ c => rw [parts_uniq hr hsy htr n _ a c P Q x (by simpa using h1) (by simpa using h2) hx hy]
theorem parts_same (hr : ∀ x, q x x = true) (hsy : ∀ x y, q x y = true → q y x = true) (htr : ∀ x y z, q x y = true → q y z = true → q x z = true) {n : Nat} {l : List Str} {a c : Nat} {P Q : List Str} {x y : Str} (h1 : (partsR q n l)[a]? = some P) (h2 : (partsR q n l)[c]? = some Q) (hx : x ∈ P) (hy : y ∈ Q) : a = c ↔ q x y = true := by
  obtain ⟨z, _, hz⟩ := parts_mem hsy htr n l P (List.mem_of_getElem? h1)
  have hzx := (List.mem_filter.1 (hz ▸ hx)).2
  constructor
  · rintro rfl
    rw [h1] at h2; cases h2
    exact htr _ _ _ (hsy _ _ hzx) (List.mem_filter.1 (hz ▸ hy)).2
  · intro hq
    refine parts_uniq hr hsy htr n l a c P Q y h1 h2 ?_ hy
    rw [hz]
    exact List.mem_filter.2 ⟨parts_sub hr hsy htr (List.mem_of_getElem? h2) hy, htr _ _ _ hzx hq⟩
theorem parts_heads (hr : ∀ x, q x x = true) (hsy : ∀ x y, q x y = true → q y x = true) (htr : ∀ x y z, q x y = true → q y z = true → q x z = true) : ∀ (n : Nat) (l : List Str), Inc l → ∀ (a c : Nat) (P Q : List Str) (x y : Str), a < c → (partsR q n l)[a]? = some P → (partsR q n l)[c]? = some Q → P[0]? = some x → Q[0]? = some y → Op.bytesLess x y = true
  | 0, _, _, a, _, _, _, _, _, _, h, _, _, _ => by simp [partsR] at h
  | _ + 1, [], _, a, _, _, _, _, _, _, h, _, _, _ => by simp [partsR] at h
  | n + 1, z :: l, hi, a, c, P, Q, x, y, hac, h1, h2, hx, hy => by
    simp only [partsR] at h1 h2
    cases c with
    | zero => omega
    | succ c =>
      have h2' : (partsR q n ((z :: l).filter (fun y => !q z y)))[c]? = some Q := by simpa using h2
      cases a with
      | zero =>
        simp at h1; subst h1
        rw [List.filter_cons, if_pos (hr z)] at hx
        simp at hx; subst hx
        have hm := parts_sub hr hsy htr (List.mem_of_getElem? h2') (List.mem_of_getElem? hy)
        rw [List.filter_cons, if_neg (by simp [hr])] at hm
        exact (List.pairwise_cons.1 hi).1 y (List.mem_filter.1 hm).1
      | succ a => exact parts_heads hr hsy htr n _ (hi.filter _) a c P Q x y (by omega) (by simpa using h1) h2' hx hy
theorem parts_inc (hsy : ∀ x y, q x y = true → q y x = true) (htr : ∀ x y z, q x y = true → q y z = true → q x z = true) {n : Nat} {l P : List Str} (hl : Inc l) (hP : P ∈ partsR q n l) : Inc P := by
  obtain ⟨z, _, rfl⟩ := parts_mem hsy htr n l P hP
  exact hl.filter _
end
end Go.Proofs.Ytmebmgbjpbapjaa
