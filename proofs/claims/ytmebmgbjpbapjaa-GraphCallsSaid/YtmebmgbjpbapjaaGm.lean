/-
  No program in sight: parts of edges that are turned, of more edges.
-/
import Derived.Test.YtmebmgbjpbapjaaGa
namespace Go.Proofs.Ytmebmgbjpbapjaa
open Go.RowKit Go.Maps Go.MapKept

theorem Rch.turn {n1 n2 : Str → List Str} (h : ∀ x z, z ∈ n1 x → x ∈ n2 z) {s y : Str} (k : Rch n1 s y) : Rch n2 y s :=
  k (fun t => Rch n2 t s) (Rch.refl _ _) (fun x hx z hz => ((Rch.refl n2 z).step (h x z hz)).trans hx)
theorem Rch.more {n1 n2 : Str → List Str} (h : ∀ x z, z ∈ n1 x → z ∈ n2 x) {s y : Str} (k : Rch n1 s y) : Rch n2 s y :=
  k (fun t => Rch n2 s t) (Rch.refl _ _) (fun _ hx z hz => hx.step (h _ z hz))
theorem eqv_turn {n1 n2 : Str → List Str} (h : ∀ x z, z ∈ n1 x ↔ x ∈ n2 z) : eqv n1 = eqv n2 := by
  funext x y
  rw [Bool.eq_iff_iff, eqv_iff, eqv_iff]
  constructor
  · rintro ⟨h1, h2⟩; exact ⟨h2.turn (fun a c => (h a c).1), h1.turn (fun a c => (h a c).1)⟩
  · rintro ⟨h1, h2⟩; exact ⟨h2.turn (fun a c => (h c a).2), h1.turn (fun a c => (h c a).2)⟩
theorem eqv_more {n1 n2 : Str → List Str} (h : ∀ x z, z ∈ n1 x → z ∈ n2 x) {x y : Str} (k : eqv n1 x y = true) : eqv n2 x y = true :=
  eqv_iff.2 ⟨(eqv_iff.1 k).1.more h, (eqv_iff.1 k).2.more h⟩

def flipE (es : List (Str × Str)) : List (Str × Str) := es.map (fun e => (e.2, e.1))
theorem mem_inEdges {N : List Str} {es : List (Str × Str)} {x z : Str} : z ∈ edgesN (inEdges N es) x ↔ (x, z) ∈ es ∧ x ∈ N ∧ z ∈ N := by
  rw [edgesN_mem]; simp [inEdges, and_assoc]
theorem flip_edges (N : List Str) (es : List (Str × Str)) : eqv (edgesN (inEdges N (flipE es))) = eqv (edgesN (inEdges N es)) := by
  refine eqv_turn (fun x z => ?_)
  rw [mem_inEdges, mem_inEdges]
  have : (x, z) ∈ flipE es ↔ (z, x) ∈ es := by
    unfold flipE
    rw [List.mem_map]
    constructor
    · rintro ⟨⟨a, c⟩, h1, h2⟩; cases h2; exact h1
    · intro h; exact ⟨(z, x), h, rfl⟩
  rw [this]
  exact ⟨fun ⟨a, c, d⟩ => ⟨a, d, c⟩, fun ⟨a, c, d⟩ => ⟨a, d, c⟩⟩

section
variable {q q' : Str → Str → Bool}
theorem parts_mem (hsy : ∀ x y, q x y = true → q y x = true) (htr : ∀ x y z, q x y = true → q y z = true → q x z = true) : ∀ (n : Nat) (l : List Str) (P : List Str), P ∈ partsR q n l → ∃ z ∈ l, P = l.filter (q z)
  | 0, _, _, h => by simp [partsR] at h
  | _ + 1, [], _, h => by simp [partsR] at h
  | n + 1, x :: l, P, h => by
    simp only [partsR, List.mem_cons] at h
    rcases h with rfl | h
    · exact ⟨x, by simp, rfl⟩
    · obtain ⟨z, hz, rfl⟩ := parts_mem hsy htr n _ P h
      obtain ⟨hz1, hz2⟩ := List.mem_filter.1 hz
      refine ⟨z, hz1, ?_⟩
      rw [List.filter_filter]
      refine List.filter_congr (fun y _ => ?_)
      rw [Bool.eq_iff_iff]; simp only [Bool.and_eq_true, Bool.not_eq_true']
      refine ⟨fun h => h.1, fun h => ⟨h, ?_⟩⟩
      rw [← Bool.not_eq_true]
      intro hxy
      have := htr x y z hxy (hsy z y h)
      rw [this] at hz2; cases hz2
theorem parts_cover (hr : ∀ x, q x x = true) : ∀ (n : Nat) (l : List Str), l.length ≤ n → ∀ y ∈ l, ∃ P ∈ partsR q n l, y ∈ P
  | _, [], _, y, hy => by cases hy
  | 0, _ :: _, h, _, _ => by simp at h
  | n + 1, x :: l, h, y, hy => by
    simp only [partsR]
    cases hq : q x y with
    | true => exact ⟨_, List.mem_cons_self, List.mem_filter.2 ⟨hy, hq⟩⟩
    | false =>
      have := filter_lt hr x l
      obtain ⟨P, h1, h2⟩ := parts_cover hr n ((x :: l).filter (fun y => !q x y)) (by simp at h; omega) y (List.mem_filter.2 ⟨hy, by rw [hq]; rfl⟩)
      exact ⟨P, List.mem_cons_of_mem _ h1, h2⟩
theorem parts_join (hsy : ∀ x y, q x y = true → q y x = true) (htr : ∀ x y z, q x y = true → q y z = true → q x z = true) (hsy' : ∀ x y, q' x y = true → q' y x = true) (htr' : ∀ x y z, q' x y = true → q' y z = true → q' x z = true) (hqq : ∀ x y, q x y = true → q' x y = true)
    {n m : Nat} {l P Q : List Str} (hP : P ∈ partsR q n l) (hQ : Q ∈ partsR q' m l) {x y : Str} (hx : x ∈ P) (hxQ : x ∈ Q) (hy : y ∈ P) : y ∈ Q := by
  obtain ⟨z, _, rfl⟩ := parts_mem hsy htr n l P hP
  obtain ⟨u, _, rfl⟩ := parts_mem hsy' htr' m l Q hQ
  obtain ⟨_, h1⟩ := List.mem_filter.1 hx
  obtain ⟨h2, h3⟩ := List.mem_filter.1 hy
  obtain ⟨_, h4⟩ := List.mem_filter.1 hxQ
  exact List.mem_filter.2 ⟨h2, htr' _ _ _ h4 (hqq _ _ (htr _ _ _ (hsy _ _ h1) h3))⟩
theorem parts_ne (hr : ∀ x, q x x = true) (hsy : ∀ x y, q x y = true → q y x = true) (htr : ∀ x y z, q x y = true → q y z = true → q x z = true) {n : Nat} {l P : List Str} (hP : P ∈ partsR q n l) : 0 < P.length ∧ ∀ y ∈ P, y ∈ l := by
  obtain ⟨z, hz, rfl⟩ := parts_mem hsy htr n l P hP
  exact ⟨List.length_pos_of_mem (List.mem_filter.2 ⟨hz, hr z⟩), fun y hy => (List.mem_filter.1 hy).1⟩
theorem parts_fewer (hr : ∀ x, q x x = true) (hr' : ∀ x, q' x x = true) (hsy' : ∀ x y, q' x y = true → q' y x = true) (htr' : ∀ x y z, q' x y = true → q' y z = true → q' x z = true) (hqq : ∀ x y, q x y = true → q' x y = true) :
    ∀ (n : Nat) (l : List Str) (p : Str → Bool), l.length ≤ n → (∀ x y, q x y = true → p x = p y) → (partsR q' n (l.filter p)).length ≤ (partsR q n l).length
  | n, [], p, _, _ => by simp [partsR_nil]
  | 0, _ :: _, _, h, _ => by simp at h
  | n + 1, x :: l, p, h, hp => by
    have hlt := filter_lt hr x l
    have hln : ((x :: l).filter (fun y => !q x y)).length ≤ n := by simp at h; omega
    show _ ≤ (partsR q n ((x :: l).filter (fun y => !q x y))).length + 1
    cases hx : p x with
    | false =>
      have e : (x :: l).filter p = ((x :: l).filter (fun y => !q x y)).filter p := by
        rw [List.filter_filter]
        refine List.filter_congr (fun y _ => ?_)
        cases hq : q x y with
        | false => simp
        | true => rw [← hp x y hq, hx]; rfl
      have ih := parts_fewer hr hr' hsy' htr' hqq n ((x :: l).filter (fun y => !q x y)) p hln hp
      rw [e, partsR_fuel hr' (n + 1) n _ (by have := List.length_filter_le p ((x :: l).filter (fun y => !q x y)); omega) (by have := List.length_filter_le p ((x :: l).filter (fun y => !q x y)); omega)]
      omega
    | true =>
      have e0 : (x :: l).filter p = x :: l.filter p := by rw [List.filter_cons, if_pos hx]
      have e : (x :: l.filter p).filter (fun y => !q' x y) = ((x :: l).filter (fun y => !q x y)).filter (fun y => p y && !q' x y) := by
        rw [← e0, List.filter_filter, List.filter_filter]
        refine List.filter_congr (fun y _ => ?_)
        cases hq : q x y with
        | false => simp [Bool.and_comm]
        | true => rw [hqq x y hq]; simp
      have ih := parts_fewer hr hr' hsy' htr' hqq n ((x :: l).filter (fun y => !q x y)) (fun y => p y && !q' x y) hln (fun y z hyz => by
        have h1 := hp y z hyz
        have h2 := hqq y z hyz
        show (p y && !q' x y) = (p z && !q' x z)
        rw [h1]; congr 2
        rw [Bool.eq_iff_iff]; exact ⟨fun h => htr' _ _ _ h h2, fun h => htr' _ _ _ h (hsy' _ _ h2)⟩)
      rw [e0]
      show (partsR q' n ((x :: l.filter p).filter (fun y => !q' x y))).length + 1 ≤ _
      rw [e]
      omega
end
end Go.Proofs.Ytmebmgbjpbapjaa
