/-
  From arguments, read as data, to raw statements.
-/
import Derived.Test.YtmebmgbjpbapjaaRx
namespace Go.Proofs.Ytmebmgbjpbapjaa
open Go.RowKit Go.ChangeShapes Go.WideShapes Go.ChangeAt

instance : Inhabited RRec := ⟨⟨0, 0, .nil, .nil⟩⟩

set_option maxRecDepth 100000 in
theorem trod_raws {H : Type} {enc : TypeId × Value → H} {W : World} {base : Nat} {spare : Nat → Bool} {held : Bool} : ∀ (fuel : Nat) (cs : List Value) (x : DataW H × List MemPlace), DataW.trod enc Try.prog W base spare held fuel 38 cs = some x → ∃ (v : Value) (xs : List RRec), cs = [v] ∧ rawE.sl (World.frag W) v xs := by
  intro fuel
  induction fuel using Nat.strongRecOn with
  | _ fuel ih =>
    intro cs x h
    refine open_sl rawE Try.underlying38 (by kernel_rfl) (by decide) (fun m l y hm hl hlen => ?_) h
    obtain ⟨xs, k, hk, rfl, hl4, hlen2, hfd⟩ := DataW.trod_struct Try.underlying95 hl
    match l, hlen with
    | [a0, a1, a2, a3], _ =>
      match xs, hlen2 with
      | [x0, x1, x2, x3], _ =>
        have f0 := hfd 0 _ rfl
        have f1 := hfd 1 _ rfl
        have f2 := hfd 2 _ rfl
        have f3 := hfd 3 _ rfl
        obtain ⟨n0, e0, _, w0⟩ := DataW.trod_int (cs := [a0]) (x := x0) Try.underlying3 f0
        obtain ⟨n1, e1, _, w1⟩ := DataW.trod_int (cs := [a1]) (x := x1) Try.underlying3 f1
        obtain ⟨v2, l2, e2, h2⟩ := ih k (by omega) [a2] x2 f2
        obtain ⟨v3, l3, e3, h3⟩ := ih k (by omega) [a3] x3 f3
        simp only [List.cons.injEq, and_true] at e0 e1 e2 e3
        subst e0; subst e1; subst e2; subst e3
        exact ⟨⟨n0, n1, Raws.ofL l2, Raws.ofL l3⟩, _, _, rfl, ⟨wf_i64' w0, wf_i64' w1⟩, Raws.sl_iff.2 (by rw [Raws.toL_ofL]; exact h2), Raws.sl_iff.2 (by rw [Raws.toL_ofL]; exact h3)⟩
set_option maxRecDepth 100000 in
theorem open_raws {H : Type} {enc : TypeId × Value → H} {W : World} {base : Nat} {v : Value} {d : DataW H} {p : List MemPlace} (hval : Value.okWide Try.prog W .any base 38 v)
    (h : DataW.Trod enc Try.prog W 0 (fun _ => true) true 38 v d p) : ∃ l : Raws, rawE.sl (Env.all W).h v l.toL := by
  obtain ⟨sa, sl, sc, rfl⟩ := okWide_slice Try.underlying38 hval
  obtain ⟨fuel, hf⟩ := h
  obtain ⟨v', xs, hv, hx⟩ := trod_raws fuel _ _ hf
  have hv' : Value.slice sa sl sc = v' := by
    have : (Value.slice sa sl sc).cells.toList = [Value.slice sa sl sc] := rfl
    rw [this] at hv; simpa using hv
  rw [hv']
  exact ⟨Raws.ofL xs, by rw [Raws.toL_ofL]; exact hx⟩
end Go.Proofs.Ytmebmgbjpbapjaa
