/-
  The laws' calls, as arguments: a slice of structs of three numbers and bytes.
-/
import Derived.Test.YtbeabedpmoalpaaCa
import Derived.Test.YtbeabedpmoalpaaRw2
namespace Go.Proofs.Ytbeabedpmoalpaa
open Go.RowKit Go.ChangeShapes Go.WideShapes Go.ChangeAt

set_option maxRecDepth 100000 in
theorem open_calls {H : Type} {enc : TypeId × Value → H} {W : World} {base : Nat} {v : Value} {d : DataW H} {p : List MemPlace} (hval : Value.okWide Try.prog W .any base 43 v)
    (h : DataW.Trod enc Try.prog W 0 (fun _ => true) true 43 v d p) : ∃ cs : List CallR, CallsV (Env.all W).h v cs := by
  obtain ⟨sa, sl, sc, rfl⟩ := okWide_slice Try.underlying43 hval
  obtain ⟨fuel, hf⟩ := h
  obtain ⟨v', ls, m, hv, hvw, hm, hsz, hel⟩ := open_slice (size := 4) Try.underlying43 (by kernel_rfl) (by omega) hf
  have each : ∀ l ∈ ls, ∃ c : CallR, l = c.cells ∧ c.Ok (Env.all W).h := by
    intro l hl
    obtain ⟨y, hy⟩ := hel l hl
    obtain ⟨xs, k, _, rfl, hl4, hlen, hfd⟩ := DataW.trod_struct Try.underlying48 hy
    match l, hsz l hl with
    | [a0, a1, a2, a3], _ =>
      match xs, hlen with
      | [x0, x1, x2, x3], _ =>
        have f0 := hfd 0 _ rfl
        have f1 := hfd 1 _ rfl
        have f2 := hfd 2 _ rfl
        have f3 := hfd 3 _ rfl
        obtain ⟨n0, e0, _, w0⟩ := DataW.trod_int (cs := [a0]) (x := x0) Try.underlying3 f0
        obtain ⟨n1, e1, _, w1⟩ := DataW.trod_int (cs := [a1]) (x := x1) Try.underlying3 f1
        obtain ⟨n2, e2, _, w2⟩ := DataW.trod_int (cs := [a2]) (x := x2) Try.underlying3 f2
        obtain ⟨dv, bs, e3, hbm, hbv⟩ := open_bytes (cs := [a3]) (x := x3) Try.underlying32 Try.underlying5 (by kernel_rfl) f3
        simp only [List.cons.injEq, and_true] at e0 e1 e2 e3
        subst e0; subst e1; subst e2; subst e3
        exact ⟨⟨n0, n1, n2, a3, bs⟩, rfl, wf_i64' w0, wf_i64' w1, wf_i64' w2, hbv, hbm⟩
  have each' : ∀ l ∈ ls, ∃ c : CallR, l = c.cells ∧ c.Ok (Env.all W).h := each
  obtain ⟨cs, h1, h2⟩ := choose_list _ _ each'
  have hcs : ls = cs.map CallR.cells := by
    apply List.ext_getElem?
    intro i
    rcases Nat.lt_or_ge i ls.length with hi | hi
    · rw [List.getElem?_map, List.getElem?_eq_getElem (show i < cs.length by omega), List.getElem?_eq_getElem hi]
      simp only [Option.map_some, Option.some.injEq]
      exact (h2 i _ _ (List.getElem?_eq_getElem hi) (List.getElem?_eq_getElem (by omega))).1
    · rw [List.getElem?_eq_none hi, List.getElem?_eq_none (by simp; omega)]
  have hv1 : Value.slice sa sl sc = v' := by simpa [Value.cells] using hv
  subst hv1
  refine ⟨cs, ?_, by omega, fun c hc => ?_⟩
  · rw [List.flatMap_def, ← hcs, h1]; exact hvw
  · obtain ⟨i, hi⟩ := List.getElem?_of_mem hc
    have hlt := (List.getElem?_eq_some_iff.1 hi).1
    exact (h2 i _ c (List.getElem?_eq_getElem (show i < ls.length by omega)) hi).2
end Go.Proofs.Ytbeabedpmoalpaa
