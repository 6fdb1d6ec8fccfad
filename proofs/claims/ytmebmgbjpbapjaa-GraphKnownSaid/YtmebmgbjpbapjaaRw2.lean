/-
  From arguments, read as data, to views of memory: slices of anything, one level at a time.
-/
import Derived.Test.YtmebmgbjpbapjaaRw
namespace Go.Proofs.Ytmebmgbjpbapjaa
open Go.RowKit Go.ChangeShapes Go.WideShapes Go.ChangeAt

theorem flat_get (size : Nat) (hs : 0 < size) : ∀ (ls : List (List Value)), (∀ l ∈ ls, l.length = size) → ∀ j : Nat, ls.flatten[j]? = (ls[j / size]?).bind (fun l => l[j % size]?)
  | [], _, j => by simp
  | l :: ls, h, j => by
    have hl := h l (by simp)
    have ih := flat_get size hs ls (fun x hx => h x (by simp [hx]))
    rw [List.flatten_cons]
    rcases Nat.lt_or_ge j size with hj | hj
    · rw [List.getElem?_append_left (by omega), Nat.div_eq_of_lt hj, Nat.mod_eq_of_lt hj]; rfl
    · rw [List.getElem?_append_right (by omega), hl, ih (j - size)]
      have e1 : j / size = (j - size) / size + 1 := Nat.div_eq_sub_div hs hj
      have e2 : j % size = (j - size) % size := Nat.mod_eq_sub_mod hj
      rw [e1, e2]; rfl

section
variable {H : Type} {enc : TypeId × Value → H} {P : Program} {W : World} {base : Nat} {spare : Nat → Bool} {held : Bool} {fuel : Nat}

theorem choose_list {α β : Type} [Inhabited β] (R : α → β → Prop) : ∀ (l : List α), (∀ x ∈ l, ∃ y, R x y) → ∃ ys : List β, ys.length = l.length ∧ ∀ (i : Nat) x y, l[i]? = some x → ys[i]? = some y → R x y
  | [], _ => ⟨[], rfl, by simp⟩
  | x :: l, h => by
    obtain ⟨y, hy⟩ := h x (by simp)
    obtain ⟨ys, h1, h2⟩ := choose_list R l (fun z hz => h z (by simp [hz]))
    refine ⟨y :: ys, by simp [h1], fun i a b ha hb => ?_⟩
    cases i with
    | zero => simp at ha hb; subst ha; subst hb; exact hy
    | succ i => exact h2 i a b (by simpa using ha) (by simpa using hb)

/-- A slice: its elements' cells, each read as data. -/
theorem open_slice {t e : TypeId} {size : Nat} {cs : List Value} {x : DataW H × List MemPlace} (ht : P.underlying t = some (.slice e)) (hc : P.cellsOf e = size) (hs : 0 < size) (h : DataW.trod enc P W base spare held fuel t cs = some x) :
    ∃ (v : Value) (ls : List (List Value)) (m : Nat), cs = [v] ∧ View (World.frag W) v ls.length ls.flatten ∧ ls.length ≤ maxLen ∧ (∀ l ∈ ls, l.length = size) ∧ ∀ l ∈ ls, ∃ y, DataW.trod enc P W base spare held m e l = some y := by
  rcases DataW.trod_slice ht h with ⟨rfl, rfl⟩ | ⟨a, len, cap, elems, rest, m, _, rfl, rfl, hb, hl, hm, hlen, hel, _, _⟩
  · exact ⟨_, [], 0, rfl, View.nil _, by simp, by simp, by simp⟩
  rw [hc] at hel
  have each : ∀ i ∈ List.range len, ∃ l : List Value, W.cells? base (a.add (i * size)) size = some l ∧ ∃ y, DataW.trod enc P W base spare held m e l = some y := by
    intro i hi
    have hi' : i < len := List.mem_range.1 hi
    have h1 := hel i hi'
    have h2 : i < elems.length := by omega
    rw [List.getElem?_eq_getElem h2, Option.bind_eq_some_iff] at h1
    obtain ⟨l, h3, h4⟩ := h1
    exact ⟨l, h3, _, h4⟩
  obtain ⟨ls, h1, h2⟩ := choose_list _ _ each
  rw [List.length_range] at h1
  have hat : ∀ (i : Nat) l, ls[i]? = some l → W.cells? base (a.add (i * size)) size = some l ∧ ∃ y, DataW.trod enc P W base spare held m e l = some y := fun i l hl' =>
    h2 i i l (by rw [List.getElem?_range]; have := (List.getElem?_eq_some_iff.1 hl').1; omega) hl'
  have hsz : ∀ l ∈ ls, l.length = size := by
    intro l hl'
    obtain ⟨i, hi⟩ := List.getElem?_of_mem hl'
    exact (World.cells?_some (hat i l hi).1).2.1
  refine ⟨_, ls, m, rfl, ?_, by omega, hsz, fun l hl' => ?_⟩
  · rw [h1]
    refine view_of_cells (fun j u hj => ?_)
    rw [flat_get size hs ls hsz j, Option.bind_eq_some_iff] at hj
    obtain ⟨l, hl1, hl2⟩ := hj
    obtain ⟨_, _, hcell⟩ := World.cells?_some (hat _ l hl1).1
    have := hcell (j % size) (Nat.mod_lt _ hs)
    rw [Addr.add_add, Nat.mul_comm, Nat.div_add_mod] at this
    rw [this, hl2]
  · obtain ⟨i, hi⟩ := List.getElem?_of_mem hl'
    exact (hat i l hi).2

/-- A slice of bytes. -/
theorem open_bytes {t e : TypeId} {cs : List Value} {x : DataW H × List MemPlace} (ht : P.underlying t = some (.slice e)) (he : P.underlying e = some (.int .u8)) (hc : P.cellsOf e = 1) (h : DataW.trod enc P W base spare held fuel t cs = some x) :
    ∃ (v : Value) (l : List UInt8), cs = [v] ∧ l.length ≤ maxLen ∧ View (World.frag W) v l.length (l.map B8) := by
  obtain ⟨v, ls, m, rfl, hv, hm, _, he'⟩ := open_slice ht hc (by omega) h
  have each : ∀ l ∈ ls, ∃ b : UInt8, l = [B8 b] := by
    intro l hl
    obtain ⟨y, hy⟩ := he' l hl
    obtain ⟨n, rfl, rfl, hw⟩ := DataW.trod_int he hy
    exact ⟨UInt8.ofNat n.toNat, by rw [B8_of hw]⟩
  obtain ⟨bs, h1, h2⟩ := choose_list _ _ each
  refine ⟨v, bs, rfl, by omega, ?_⟩
  have hfl : ls.flatten = bs.map B8 := by
    have : ls = bs.map (fun b => [B8 b]) := by
      apply List.ext_getElem?
      intro i
      rcases Nat.lt_or_ge i ls.length with hi | hi
      · rw [List.getElem?_map, List.getElem?_eq_getElem (show i < bs.length by omega), List.getElem?_eq_getElem hi]
        simp only [Option.map_some, Option.some.injEq]
        exact h2 i _ _ (List.getElem?_eq_getElem hi) (List.getElem?_eq_getElem (by omega))
      · rw [List.getElem?_eq_none hi, List.getElem?_eq_none (by simp; omega)]
    rw [this]
    clear this h1 h2
    induction bs with
    | nil => rfl
    | cons b bs ih => simp [ih]
  rw [← hfl, h1]
  exact hv
end
end Go.Proofs.Ytmebmgbjpbapjaa
