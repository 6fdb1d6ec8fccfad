/-
  No program in sight: names, parted into such as lead to each other.
-/
import Derived.Test.YtmebmgbjpbapjaaG8
namespace Go.Proofs.Ytmebmgbjpbapjaa
open Go.RowKit Go.Maps Go.MapKept

theorem Rch.congr {n1 n2 : Str → List Str} (h : ∀ x z, z ∈ n1 x ↔ z ∈ n2 x) {s y : Str} : Rch n1 s y ↔ Rch n2 s y :=
  ⟨fun k S h0 h1 => k S h0 (fun x hx z hz => h1 x hx z ((h x z).1 hz)), fun k S h0 h1 => k S h0 (fun x hx z hz => h1 x hx z ((h x z).2 hz))⟩

open Classical in
noncomputable def rB (nxt : Str → List Str) (x y : Str) : Bool := if Rch nxt x y then true else false
theorem rB_iff {nxt : Str → List Str} {x y : Str} : rB nxt x y = true ↔ Rch nxt x y := by unfold rB; split <;> simp_all
theorem rB_congr {n1 n2 : Str → List Str} (h : ∀ x z, z ∈ n1 x ↔ z ∈ n2 x) : rB n1 = rB n2 := by
  funext x y
  rw [Bool.eq_iff_iff, rB_iff, rB_iff]
  exact Rch.congr h
/-- Do two lead to each other? -/
noncomputable def eqv (nxt : Str → List Str) (x y : Str) : Bool := rB nxt x y && rB nxt y x
theorem eqv_iff {nxt : Str → List Str} {x y : Str} : eqv nxt x y = true ↔ Rch nxt x y ∧ Rch nxt y x := by simp [eqv, rB_iff]
theorem eqv_refl (nxt : Str → List Str) (x : Str) : eqv nxt x x = true := eqv_iff.2 ⟨Rch.refl _ _, Rch.refl _ _⟩
theorem eqv_symm {nxt : Str → List Str} {x y : Str} (h : eqv nxt x y = true) : eqv nxt y x = true := eqv_iff.2 (eqv_iff.1 h).symm
theorem eqv_trans {nxt : Str → List Str} {x y z : Str} (h : eqv nxt x y = true) (k : eqv nxt y z = true) : eqv nxt x z = true :=
  eqv_iff.2 ⟨(eqv_iff.1 h).1.trans (eqv_iff.1 k).1, (eqv_iff.1 k).2.trans (eqv_iff.1 h).2⟩

/-- The parts of names, of those that are left. -/
def partsR (q : Str → Str → Bool) : Nat → List Str → List (List Str)
  | 0, _ => []
  | _ + 1, [] => []
  | n + 1, x :: l => (x :: l).filter (q x) :: partsR q n ((x :: l).filter (fun y => !q x y))

theorem partsR_nil (q : Str → Str → Bool) (n : Nat) : partsR q n [] = [] := by cases n <;> rfl
theorem filter_lt {q : Str → Str → Bool} (hr : ∀ x, q x x = true) (x : Str) (l : List Str) : ((x :: l).filter (fun y => !q x y)).length ≤ l.length := by
  rw [List.filter_cons, if_neg (by simp [hr])]; exact List.length_filter_le _ _
theorem partsR_fuel {q : Str → Str → Bool} (hr : ∀ x, q x x = true) : ∀ (n m : Nat) (l : List Str), l.length ≤ n → l.length ≤ m → partsR q n l = partsR q m l
  | _, _, [], _, _ => by rw [partsR_nil, partsR_nil]
  | 0, _, _ :: _, h, _ => by simp at h
  | _, 0, _ :: _, _, h => by simp at h
  | n + 1, m + 1, x :: l, h1, h2 => by
    have := filter_lt hr x l
    simp only [partsR]
    rw [partsR_fuel hr n m _ (by simp at h1; omega) (by simp at h2; omega)]
theorem partsR_step {q : Str → Str → Bool} (hr : ∀ x, q x x = true) (x : Str) (l : List Str) : partsR q (x :: l).length (x :: l) = (x :: l).filter (q x) :: partsR q ((x :: l).filter (fun y => !q x y)).length ((x :: l).filter (fun y => !q x y)) := by
  have := filter_lt hr x l
  show partsR q (l.length + 1) (x :: l) = _
  simp only [partsR]
  rw [partsR_fuel hr l.length _ _ this (Nat.le_refl _)]

/-! the document's way: each name in turn -/
structure RPt (q : Str → Str → Bool) (N : List Str) (i : Nat) (out : List (List Str)) (done : List Str) : Prop where
  seen : ∀ x ∈ N.take i, x ∈ done
  cls : ∀ x ∈ done, ∀ y ∈ N, q x y = true → y ∈ done
  sub : ∀ x ∈ done, x ∈ N
  eq : out ++ partsR q (N.filter (fun y => !decide (y ∈ done))).length (N.filter (fun y => !decide (y ∈ done))) = partsR q N.length N
theorem RPt.start (q : Str → Str → Bool) (N : List Str) : RPt q N 0 [] [] := by
  refine ⟨by simp, by simp, by simp, ?_⟩
  have : N.filter (fun y => !decide (y ∈ ([] : List Str))) = N := List.filter_eq_self.2 (by simp)
  rw [this]; rfl
theorem RPt.skip {q : Str → Str → Bool} {N : List Str} {i : Nat} {out : List (List Str)} {done : List Str} (h : RPt q N i out done) (hi : i < N.length) (hd : N[i] ∈ done) : RPt q N (i + 1) out done := by
  refine ⟨fun x hx => ?_, h.cls, h.sub, h.eq⟩
  rw [List.take_succ_eq_append_getElem hi, List.mem_append] at hx
  rcases hx with hx | hx
  · exact h.seen x hx
  · simp at hx; subst hx; exact hd
theorem RPt.part {q : Str → Str → Bool} (hr : ∀ x, q x x = true) (hsy : ∀ x y, q x y = true → q y x = true) (htr : ∀ x y z, q x y = true → q y z = true → q x z = true) {N : List Str} {i : Nat} {out : List (List Str)} {done : List Str} (h : RPt q N i out done) (hi : i < N.length) (hd : N[i] ∉ done) :
    RPt q N (i + 1) (out ++ [N.filter (q N[i])]) (done ++ N.filter (q N[i])) := by
  have hmem : ∀ y, y ∈ done ++ N.filter (q N[i]) ↔ y ∈ done ∨ (y ∈ N ∧ q N[i] y = true) := by intro y; simp
  have hni : N[i] ∈ N := List.getElem_mem hi
  refine ⟨fun x hx => ?_, fun x hx y hy hq => ?_, fun x hx => ?_, ?_⟩
  · rw [List.take_succ_eq_append_getElem hi, List.mem_append] at hx
    rcases hx with hx | hx
    · exact (hmem x).2 (Or.inl (h.seen x hx))
    · simp at hx; subst hx; exact (hmem _).2 (Or.inr ⟨hni, hr _⟩)
  · rcases (hmem x).1 hx with hx | ⟨_, hx⟩
    · exact (hmem y).2 (Or.inl (h.cls x hx y hy hq))
    · exact (hmem y).2 (Or.inr ⟨hy, htr _ _ _ hx hq⟩)
  · rcases (hmem x).1 hx with hx | ⟨hx, _⟩
    · exact h.sub x hx
    · exact hx
  · rw [← h.eq, List.append_assoc]
    congr 1
    have hsplit : N = N.take i ++ N[i] :: N.drop (i + 1) := by
      rw [← List.drop_eq_getElem_cons hi, List.take_append_drop]
    have hleft : N.filter (fun y => !decide (y ∈ done)) = N[i] :: (N.drop (i + 1)).filter (fun y => !decide (y ∈ done)) := by
      conv => lhs; rw [hsplit]
      rw [List.filter_append, List.filter_eq_nil_iff.2 (fun x hx => by simp [h.seen x hx]), List.nil_append, List.filter_cons, if_pos (by simp [hd])]
    have hcl : ∀ y ∈ N, q N[i] y = true → y ∉ done := fun y hy hq hyd => hd (h.cls y hyd _ hni (hsy _ _ hq))
    have e1 : (N.filter (fun y => !decide (y ∈ done))).filter (q N[i]) = N.filter (q N[i]) := by
      rw [List.filter_filter]
      refine List.filter_congr (fun y hy => ?_)
      cases hq : q N[i] y with
      | false => simp
      | true => simp [hcl y hy hq]
    have e2 : (N.filter (fun y => !decide (y ∈ done))).filter (fun y => !q N[i] y) = N.filter (fun y => !decide (y ∈ done ++ N.filter (q N[i]))) := by
      rw [List.filter_filter]
      refine List.filter_congr (fun y hy => ?_)
      rw [Bool.eq_iff_iff]
      have := hmem y
      simp only [Bool.and_eq_true, Bool.not_eq_true', decide_eq_false_iff_not, this]
      constructor
      · rintro ⟨a1, a2⟩ (b1 | ⟨_, b2⟩)
        · exact a2 b1
        · rw [a1] at b2; cases b2
      · intro hn
        refine ⟨?_, fun hyd => hn (Or.inl hyd)⟩
        cases hq : q N[i] y with
        | false => rfl
        | true => exact absurd (Or.inr ⟨hy, hq⟩) hn
    rw [← e2, ← e1, hleft, partsR_step hr]
    simp
theorem RPt.done {q : Str → Str → Bool} {N : List Str} {out : List (List Str)} {done : List Str} (h : RPt q N N.length out done) : out = partsR q N.length N := by
  have := h.eq
  rw [List.filter_eq_nil_iff.2 (fun x hx => by simp [h.seen x (by rw [List.take_of_length_le (Nat.le_refl _)]; exact hx)])] at this
  simpa [partsR] using this

/-! a row that is in order -/
def Inc (l : List Str) : Prop := l.Pairwise (fun x y => Op.bytesLess x y = true)
theorem bytesLess_irrefl : ∀ x : Str, Op.bytesLess x x = false
  | [] => rfl
  | a :: x => by simp [Op.bytesLess, bytesLess_irrefl x]
theorem insS_snoc {l : List Str} {s : Str} (h : ∀ x ∈ l, Op.bytesLess x s = true) : insS l s = l ++ [s] := by
  have hn : s ∉ l := fun hs => by have := h s hs; rw [bytesLess_irrefl] at this; cases this
  obtain ⟨e1, e2⟩ := while_at (fun x => Op.bytesLess x s) l l.length (by simpa using h) (fun hh => absurd hh (Nat.lt_irrefl _)) (Nat.le_refl _)
  unfold insS
  rw [if_neg hn, e1, e2]; simp
theorem Inc.part {N : List Str} (h : Inc N) (p : Str → Bool) {k : Nat} (hk : k < N.length) : insS ((N.take k).filter p) N[k] = (N.take k).filter p ++ [N[k]] := by
  refine insS_snoc (fun x hx => ?_)
  have hx' := (List.mem_filter.1 hx).1
  obtain ⟨j, hj, rfl⟩ := List.getElem_of_mem hx'
  rw [List.length_take] at hj
  rw [List.getElem_take]
  exact List.pairwise_iff_getElem.1 h j k (by omega) hk (by omega)
theorem filter_take_succ {N : List Str} (p : Str → Bool) {k : Nat} (hk : k < N.length) : (N.take (k + 1)).filter p = (N.take k).filter p ++ (if p N[k] = true then [N[k]] else []) := by
  rw [List.take_succ_eq_append_getElem hk, List.filter_append]; congr 1
  cases h : p N[k] <;> simp [h]
end Go.Proofs.Ytmebmgbjpbapjaa
