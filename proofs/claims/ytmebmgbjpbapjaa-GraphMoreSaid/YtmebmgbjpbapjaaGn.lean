/-
  No program in sight: what GraphMore asks of the parts.
-/
import Derived.Test.YtmebmgbjpbapjaaGm
namespace Go.Proofs.Ytmebmgbjpbapjaa
open Go.RowKit Go.Maps Go.MapKept

structure MoreP (p r : List (List Str)) : Prop where
  fewer : r.length ≤ p.length
  pos : ∀ P ∈ p, 0 < P.length
  ex : ∀ P ∈ p, ∀ x ∈ P, ∃ Q ∈ r, x ∈ Q
  join : ∀ P ∈ p, ∀ Q ∈ r, ∀ x ∈ P, x ∈ Q → ∀ y ∈ P, y ∈ Q
theorem moreP (N : List Str) (es : List (Str × Str)) (e : Str × Str) : MoreP (partsR (eqv (edgesN (inEdges N es))) N.length N) (partsR (eqv (edgesN (inEdges N (es ++ [e])))) N.length N) := by
  have hqq : ∀ x y, eqv (edgesN (inEdges N es)) x y = true → eqv (edgesN (inEdges N (es ++ [e]))) x y = true := fun x y => eqv_more (fun a c h => by
    rw [mem_inEdges] at h ⊢
    exact ⟨List.mem_append_left _ h.1, h.2⟩)
  refine ⟨?_, fun P hP => (parts_ne (eqv_refl _) (fun _ _ => eqv_symm) (fun _ _ _ => eqv_trans) hP).1, fun P hP x hx => ?_, fun P hP Q hQ x hx hxQ y hy => ?_⟩
  · have := parts_fewer (eqv_refl (edgesN (inEdges N es))) (eqv_refl (edgesN (inEdges N (es ++ [e])))) (fun _ _ => eqv_symm) (fun _ _ _ => eqv_trans) hqq N.length N (fun _ => true) (Nat.le_refl _) (fun _ _ _ => rfl)
    rwa [List.filter_eq_self.2 (by simp)] at this
  · exact parts_cover (eqv_refl _) N.length N (Nat.le_refl _) x ((parts_ne (eqv_refl _) (fun _ _ => eqv_symm) (fun _ _ _ => eqv_trans) hP).2 x hx)
  · exact parts_join (q := eqv (edgesN (inEdges N es))) (q' := eqv (edgesN (inEdges N (es ++ [e])))) (fun _ _ => eqv_symm) (fun _ _ _ => eqv_trans) (fun _ _ => eqv_symm) (fun _ _ _ => eqv_trans) hqq hP hQ hx hxQ hy
end Go.Proofs.Ytmebmgbjpbapjaa
