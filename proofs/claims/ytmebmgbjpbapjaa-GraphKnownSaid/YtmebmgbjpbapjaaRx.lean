/-
  From arguments, read as data, to slices that never turn.
-/
import Derived.Test.YtmebmgbjpbapjaaRw2
import Derived.Test.YtmebmgbjpbapjaaGt
namespace Go.Proofs.Ytmebmgbjpbapjaa
open Go.RowKit Go.ChangeShapes Go.WideShapes Go.ChangeAt

section
variable {H : Type} {enc : TypeId × Value → H} {P : Program} {W : World} {base : Nat} {spare : Nat → Bool} {held : Bool} {fuel : Nat}

theorem open_sl {α : Type} [Inhabited α] (E : El α) {t e : TypeId} {cs : List Value} {x : DataW H × List MemPlace} (ht : P.underlying t = some (.slice e)) (hc : P.cellsOf e = E.sz) (hs : 0 < E.sz)
    (each : ∀ m l y, m < fuel → DataW.trod enc P W base spare held m e l = some y → l.length = E.sz → ∃ z, E.rd (World.frag W) z l) (h : DataW.trod enc P W base spare held fuel t cs = some x) : ∃ (v : Value) (xs : List α), cs = [v] ∧ E.sl (World.frag W) v xs := by
  rcases DataW.trod_slice ht h with ⟨rfl, rfl⟩ | ⟨a, len, cap, elems, rest, m, hfm, rfl, rfl, hb, hl, hm, hlen, hel, _, _⟩
  · exact ⟨_, [], rfl, El.sl_nil E _⟩
  rw [hc] at hel
  have each' : ∀ i ∈ List.range len, ∃ q : List Value × α, W.cells? base (a.add (i * E.sz)) E.sz = some q.1 ∧ E.rd (World.frag W) q.2 q.1 := by
    intro i hi
    have hi' : i < len := List.mem_range.1 hi
    have h1 := hel i hi'
    have h2 : i < elems.length := by omega
    rw [List.getElem?_eq_getElem h2, Option.bind_eq_some_iff] at h1
    obtain ⟨l, h3, h4⟩ := h1
    obtain ⟨z, hz⟩ := each m l _ (by omega) h4 (World.cells?_some h3).2.1
    exact ⟨(l, z), h3, hz⟩
  obtain ⟨qs, h1, h2⟩ := choose_list _ _ each'
  rw [List.length_range] at h1
  have hat : ∀ (i : Nat) q, qs[i]? = some q → W.cells? base (a.add (i * E.sz)) E.sz = some q.1 ∧ E.rd (World.frag W) q.2 q.1 := fun i q hq =>
    h2 i i q (by rw [List.getElem?_range]; have := (List.getElem?_eq_some_iff.1 hq).1; omega) hq
  have hr : ∀ (qs : List (List Value × α)), (∀ q ∈ qs, E.rd (World.frag W) q.2 q.1) → E.rds (World.frag W) (qs.map (·.2)) (qs.map (·.1)).flatten := by
    intro qs
    induction qs with
    | nil => intro _; rfl
    | cons q qs ih => intro hq; exact ⟨_, _, rfl, hq q (by simp), ih (fun z hz => hq z (by simp [hz]))⟩
  have hall : ∀ q ∈ qs, E.rd (World.frag W) q.2 q.1 := fun q hq => by
    obtain ⟨i, hi⟩ := List.getElem?_of_mem hq
    exact (hat i q hi).2
  have hsz : ∀ l ∈ qs.map (·.1), l.length = E.sz := by
    intro l hl'
    obtain ⟨q, hq, rfl⟩ := List.mem_map.1 hl'
    exact E.len (hall q hq)
  refine ⟨_, qs.map (·.2), rfl, (qs.map (·.1)).flatten, hr qs hall, ?_, _, cap, by rw [List.length_map, h1], by rw [List.length_map, h1]; exact hl, hm⟩
  rw [List.length_map, h1]
  refine view_of_cells (fun j u hj => ?_)
  rw [flat_get E.sz hs _ hsz j, Option.bind_eq_some_iff] at hj
  obtain ⟨l, hl1, hl2⟩ := hj
  rw [List.getElem?_map, Option.map_eq_some_iff] at hl1
  obtain ⟨q, hq, rfl⟩ := hl1
  obtain ⟨_, _, hcell⟩ := World.cells?_some (hat _ q hq).1
  have := hcell (j % E.sz) (Nat.mod_lt _ hs)
  rw [Addr.add_add, Nat.mul_comm, Nat.div_add_mod] at this
  rw [this, hl2]
end

def i64b (x : Int) : Prop := -9223372036854775808 ≤ x ∧ x ≤ 9223372036854775807
/-- A number in a cell, in its bounds. -/
def intEb : El Int := El.sc (fun n => .int .i64 n) i64b (fun _ => rfl)

theorem sl_intE {h : Frag} {v : Value} {ns : List Int} (H : intEb.sl h v ns) : intE.sl h v ns ∧ ∀ x ∈ ns, i64b x := by
  obtain ⟨cs, h1, h2, h3⟩ := H
  have key : ∀ (ns : List Int) (cs : List Value), intEb.rds h ns cs → intE.rds h ns cs ∧ ∀ x ∈ ns, i64b x := by
    intro ns
    induction ns with
    | nil => intro cs h; exact ⟨h, by simp⟩
    | cons n ns ih =>
      intro cs h
      obtain ⟨c, r, rfl, ⟨e1, e2⟩, h4⟩ := h
      obtain ⟨i1, i2⟩ := ih r h4
      exact ⟨⟨c, r, rfl, ⟨e1, trivial⟩, i1⟩, fun x hx => by rcases List.mem_cons.1 hx with rfl | hx; exact e2; exact i2 x hx⟩
  exact ⟨⟨cs, (key ns cs h1).1, h2, h3⟩, (key ns cs h1).2⟩
set_option maxRecDepth 100000 in
theorem open_i64s {H : Type} {enc : TypeId × Value → H} {W : World} {base : Nat} {v : Value} {d : DataW H} {p : List MemPlace} (hval : Value.okWide Try.prog W .any base 22 v)
    (h : DataW.Trod enc Try.prog W 0 (fun _ => true) true 22 v d p) : ∃ ns : List Int, intE.sl (Env.all W).h v ns ∧ ∀ x ∈ ns, i64b x := by
  obtain ⟨sa, sl, sc, rfl⟩ := okWide_slice Try.underlying22 hval
  obtain ⟨fuel, hf⟩ := h
  obtain ⟨v', xs, hv, hx⟩ := open_sl intEb Try.underlying22 (by kernel_rfl) (by decide) (fun m l y _ hl hlen => by
    match l, hlen with
    | [a], _ =>
      obtain ⟨n, e0, _, w0⟩ := DataW.trod_int Try.underlying3 hl
      simp only [List.cons.injEq, and_true] at e0
      subst e0
      exact ⟨n, rfl, wf_i64' w0⟩) hf
  have hv' : Value.slice sa sl sc = v' := by
    have : (Value.slice sa sl sc).cells.toList = [Value.slice sa sl sc] := rfl
    rw [this] at hv; simpa using hv
  rw [hv']
  exact ⟨xs, sl_intE hx⟩
end Go.Proofs.Ytmebmgbjpbapjaa
