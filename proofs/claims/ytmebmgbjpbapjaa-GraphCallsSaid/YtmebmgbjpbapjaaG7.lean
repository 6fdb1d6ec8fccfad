/-
  package graph: sorted.
-/
import Derived.Test.YtmebmgbjpbapjaaG5
namespace Go.Proofs.Ytmebmgbjpbapjaa
open Go.RowKit Go.Maps Go.MapKept
variable {b : Env} {L : List HP} {w : World}

theorem rds_sc {α : Type} {f : α → Value} {ok : α → Prop} {h1 : ∀ x, (f x).oneCell' = true} {h : Frag} : ∀ {xs : List α}, (∀ x ∈ xs, ok x) → (El.sc f ok h1).rds h xs (xs.map f)
  | [], _ => rfl
  | x :: xs, hx => ⟨[f x], xs.map f, rfl, ⟨rfl, hx x (by simp)⟩, rds_sc (fun y hy => hx y (by simp [hy]))⟩

set_option maxRecDepth 100000 in
set_option maxHeartbeats 400000 in
theorem sorted_calls {m : Nat} {kvs : List (Str × Bool)} (h : St b (HP.set m kvs :: L) w) (hlen : kvs.length ≤ 1000000) : Calls Try.prog 37 #[.map (some m)] w
    fun x w' => ∃ base n cap, x = .returned (.slice base n cap) ∧ St b (HP.rows 9 strE (.slice base n cap) (sortS (keysOf kvs)) :: HP.set m kvs :: L) w' := by
  obtain ⟨e, hle, hm⟩ := h
  have hown := hm.ownsMap keyStr (by unfold maxLen; omega)
  have hok := hm.map_ok
  have HM := hide hm
  have HW := hide hown
  have HOK := hide hok
  have HL := hide hlen
  have HE := hide hle
  clear hle hm hown hok hlen
  go_enter Try.func37, Try.ntmps37
  go_wp2_with (first
    | (go_at_call 57; refine (Try.maps_Keys_57 (some m) w).mono ?_; rintro x w' ⟨rfl, rfl⟩)
    | (go_at_call 56; refine (Try.sorted_keys_57 m _ _ _ w HW.out (by rw [size_keys]; have := HL.out; simp; unfold maxLen; omega) (by rw [size_keys]; have := HL.out; simp; omega)).mono ?_; rintro x w2 ⟨v, ss, rfl, hp, hrow, hnil, hb⟩; have HP' := hide hp; have HR := hide hrow; have HB := hide hb; clear hp hrow hb hnil))
  have hr := HR.out
  have hperm := HP'.out
  have hss : ss.mergeSort (fun x y => decide (x ≤ y)) = sortS (keysOf kvs) := keysS Try.underlying9 HOK.out hperm
  have hl : ss.length = (sortS (keysOf kvs)).length := by
    rw [← hss]; simp
  rw [hss, hl] at hr
  have hs := (HM.out.alloc_ (.cells #[.map (some m)] 66)).of_row hr HB.out
  have hs2 : Sat e (HP.rows 9 strE v (sortS (keysOf kvs)) :: HP.set m kvs :: L) w2 := Sat.rows_shut (E := strE) hs (rds_sc (fun x hx => by
    have hx' : x ∈ keysOf kvs := (List.mergeSort_perm _ _).mem_iff.1 hx
    obtain ⟨p, hp, rfl⟩ := List.mem_map.1 hx'
    exact HOK.out p hp))
  obtain ⟨base, cap, hv, _⟩ := hs2.rows_form
  subst hv
  go_ret
  exact ⟨_, _, _, rfl, e, HE.out, hs2⟩
end Go.Proofs.Ytmebmgbjpbapjaa
