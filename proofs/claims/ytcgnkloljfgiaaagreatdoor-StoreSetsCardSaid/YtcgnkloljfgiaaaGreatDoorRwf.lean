/-
  From arguments, read as data: rows of files, of steps.
-/
import Derived.Test.YtcgnkloljfgiaaaGreatDoorRwb
import Derived.Test.YtcgnkloljfgiaaaGreatDoorSte
namespace Go.Proofs.YtcgnkloljfgiaaaGreatDoor
open Go.RowKit Go.ChangeShapes Go.WideShapes Go.ChangeAt
set_option maxRecDepth 100000 in
theorem trod_files {H : Type} {enc : TypeId × Value → H} {W : World} {base : Nat} {spare : Nat → Bool} {held : Bool} {fuel : Nat} {cs : List Value} {x : DataW H × List MemPlace} (h : DataW.trod enc Tryz.prog W base spare held fuel 34 cs = some x) :
    ∃ (v : Value) (xs : List (Str × Str)), cs = [v] ∧ pairE.sl (World.frag W) v xs := by
  refine open_sl pairE Tryz.underlying34 (by kernel_rfl) (by decide) (fun m l y hm hl hlen => ?_) h
  obtain ⟨xs, k, hk, rfl, hl4, hlen2, hfd⟩ := DataW.trod_struct Tryz.underlying48 hl
  match l, hlen with
  | [a0, a1], _ =>
    match xs, hlen2 with
    | [x0, x1], _ =>
      have f0 := hfd 0 _ rfl
      have f1 := hfd 1 _ rfl
      obtain ⟨s0, e0, _, w0⟩ := DataW.trod_string (cs := [a0]) (x := x0) Tryz.underlying9 f0
      obtain ⟨s1, e1, _, w1⟩ := DataW.trod_string (cs := [a1]) (x := x1) Tryz.underlying9 f1
      simp only [List.cons.injEq, and_true] at e0 e1
      subst e0; subst e1
      exact ⟨(s0.data.toList, s1.data.toList), rfl, w0, w1⟩
set_option maxRecDepth 100000 in
theorem open_files {H : Type} {enc : TypeId × Value → H} {W : World} {base : Nat} {v : Value} {d : DataW H} {p : List MemPlace} (hval : Value.okWide Tryz.prog W .any base 34 v)
    (h : DataW.Trod enc Tryz.prog W 0 (fun _ => true) true 34 v d p) : ∃ l : List (Str × Str), pairE.sl (Env.all W).h v l := by
  obtain ⟨sa, sl, sc, rfl⟩ := okWide_slice Tryz.underlying34 hval
  obtain ⟨fuel, hf⟩ := h
  obtain ⟨v', xs, hv, hx⟩ := trod_files hf
  have hv' : Value.slice sa sl sc = v' := by
    have : (Value.slice sa sl sc).cells.toList = [Value.slice sa sl sc] := rfl
    rw [this] at hv; simpa using hv
  rw [hv']
  exact ⟨xs, hx⟩
set_option maxRecDepth 100000 in
theorem trod_ints {H : Type} {enc : TypeId × Value → H} {W : World} {base : Nat} {spare : Nat → Bool} {held : Bool} {fuel : Nat} {cs : List Value} {x : DataW H × List MemPlace} (h : DataW.trod enc Tryz.prog W base spare held fuel 36 cs = some x) :
    ∃ (v : Value) (xs : List Int), cs = [v] ∧ intE.sl (World.frag W) v xs ∧ ∀ x ∈ xs, okI x := by
  obtain ⟨v', xs, hv, hx⟩ := open_sl intEb Tryz.underlying36 (by kernel_rfl) (by decide) (fun m l y _ hl hlen => by
    match l, hlen with
    | [a], _ =>
      obtain ⟨n, e0, _, w0⟩ := DataW.trod_int Tryz.underlying3 hl
      simp only [List.cons.injEq, and_true] at e0
      subst e0
      exact ⟨n, rfl, wf_i64' w0⟩) h
  exact ⟨v', xs, hv, sl_intE hx⟩
set_option maxRecDepth 100000 in
theorem trod_steps {H : Type} {enc : TypeId × Value → H} {W : World} {base : Nat} {spare : Nat → Bool} {held : Bool} {fuel : Nat} {cs : List Value} {x : DataW H × List MemPlace} (h : DataW.trod enc Tryz.prog W base spare held fuel 22 cs = some x) :
    ∃ (v : Value) (xs : List StepR), cs = [v] ∧ stepE.sl (World.frag W) v xs := by
  refine open_sl stepE Tryz.underlying22 (by kernel_rfl) (by decide) (fun m l y hm hl hlen => ?_) h
  obtain ⟨xs, k, hk, rfl, hl4, hlen2, hfd⟩ := DataW.trod_struct Tryz.underlying39 hl
  match l, hlen with
  | [a0, a1, a2, a3, a4], _ =>
    match xs, hlen2 with
    | [x0, x1, x2, x3, x4], _ =>
      have f0 := hfd 0 _ rfl
      have f1 := hfd 1 _ rfl
      have f2 := hfd 2 _ rfl
      have f3 := hfd 3 _ rfl
      have f4 := hfd 4 _ rfl
      obtain ⟨v0, l0, e0, h0⟩ := trod_files (cs := [a0]) (x := x0) f0
      obtain ⟨v1, l1, e1, h1, k1⟩ := trod_ints (cs := [a1]) (x := x1) f1
      obtain ⟨n2, e2, _, w2⟩ := DataW.trod_int (cs := [a2]) (x := x2) Tryz.underlying3 f2
      obtain ⟨n3, e3, _, w3⟩ := DataW.trod_int (cs := [a3]) (x := x3) Tryz.underlying3 f3
      obtain ⟨v4, l4, e4, h4⟩ := trod_u8s (cs := [a4]) (x := x4) f4
      simp only [List.cons.injEq, and_true] at e0 e1 e2 e3 e4
      subst e0; subst e1; subst e2; subst e3; subst e4
      exact ⟨⟨l0, l1, n2, n3, l4⟩, _, _, _, rfl, ⟨wf_i64' w2, wf_i64' w3, k1⟩, h0, h1, h4⟩
set_option maxRecDepth 100000 in
theorem open_steps {H : Type} {enc : TypeId × Value → H} {W : World} {base : Nat} {v : Value} {d : DataW H} {p : List MemPlace} (hval : Value.okWide Tryz.prog W .any base 22 v)
    (h : DataW.Trod enc Tryz.prog W 0 (fun _ => true) true 22 v d p) : ∃ l : List StepR, stepE.sl (Env.all W).h v l := by
  obtain ⟨sa, sl, sc, rfl⟩ := okWide_slice Tryz.underlying22 hval
  obtain ⟨fuel, hf⟩ := h
  obtain ⟨v', xs, hv, hx⟩ := trod_steps hf
  have hv' : Value.slice sa sl sc = v' := by
    have : (Value.slice sa sl sc).cells.toList = [Value.slice sa sl sc] := rfl
    rw [this] at hv; simpa using hv
  rw [hv']
  exact ⟨xs, hx⟩
end Go.Proofs.YtcgnkloljfgiaaaGreatDoor
