/-
  No program in sight: what one name leads to.
-/
import Derived.Test.YtmebmgbjpbapjaaSm
namespace Go.Proofs.Ytmebmgbjpbapjaa
open Go.RowKit Go.Maps Go.MapKept

/-- All that one is led to. -/
def Rch (nxt : Str → List Str) (s y : Str) : Prop := ∀ S : Str → Prop, S s → (∀ x, S x → ∀ z ∈ nxt x, S z) → S y
theorem Rch.refl (nxt : Str → List Str) (s : Str) : Rch nxt s s := fun _ h _ => h
theorem Rch.step {nxt : Str → List Str} {s x z : Str} (h : Rch nxt s x) (hz : z ∈ nxt x) : Rch nxt s z := fun S h0 h1 => h1 x (h S h0 h1) z hz
theorem Rch.trans {nxt : Str → List Str} {s x z : Str} (h : Rch nxt s x) (k : Rch nxt x z) : Rch nxt s z := fun S h0 h1 => k S (h S h0 h1) h1

abbrev keysOf {β : Type} (kvs : List (Str × β)) : List Str := kvs.map (·.1)
def has (kvs : List (Str × Bool)) (x : Str) : Bool := (kget kvs x).getD false

theorem kget_isSome {β : Type} {kvs : List (Str × β)} {x : Str} : (kget kvs x).isSome = true ↔ x ∈ keysOf kvs := by
  cases h : kget kvs x with
  | none => simpa using kget_none.1 h
  | some v =>
    have : ¬ x ∉ keysOf kvs := fun hn => by rw [kget_none.2 hn] at h; cases h
    simpa using Decidable.not_not.1 this
theorem kget_mem : ∀ {β : Type} {kvs : List (Str × β)} {x : Str} {v : β}, kget kvs x = some v → (x, v) ∈ kvs
  | _, [], _, _, h => by simp [kget] at h
  | _, (j, u) :: r, x, v, h => by
    simp only [kget] at h
    split at h
    · rename_i hj; cases h; cases hj; exact List.mem_cons_self
    · exact List.mem_cons_of_mem _ (kget_mem h)
theorem has_iff {kvs : List (Str × Bool)} (ht : ∀ p ∈ kvs, p.2 = true) (x : Str) : has kvs x = true ↔ x ∈ keysOf kvs := by
  rw [← kget_isSome]
  unfold has
  cases h : kget kvs x with
  | none => simp
  | some v => have := ht _ (kget_mem h); simp at this; simp [this]
theorem has_false {kvs : List (Str × Bool)} {x : Str} (h : x ∉ keysOf kvs) : has kvs x = false := by unfold has; rw [kget_none.2 h]; rfl

structure LedP (nxt : Str → List Str) (U : List Str) (s : Str) (kvs : List (Str × Bool)) (todo : List Str) : Prop where
  tru : ∀ p ∈ kvs, p.2 = true
  frm : s ∈ keysOf kvs
  rch : ∀ x ∈ keysOf kvs, Rch nxt s x ∧ x ∈ U
  sub : ∀ t ∈ todo, t ∈ keysOf kvs
  len : todo.length ≤ kvs.length
def Shut (nxt : Str → List Str) (kvs : List (Str × Bool)) (todo : List Str) : Prop := ∀ x ∈ keysOf kvs, x ∉ todo → ∀ z ∈ nxt x, z ∈ keysOf kvs
def ShutBut (nxt : Str → List Str) (kvs : List (Str × Bool)) (todo : List Str) (n : Str) : Prop := ∀ x ∈ keysOf kvs, x ∉ todo → x ≠ n → ∀ z ∈ nxt x, z ∈ keysOf kvs

variable {nxt : Str → List Str} {U : List Str} {s : Str} {kvs : List (Str × Bool)} {todo : List Str}
theorem led_start (hs : s ∈ U) : LedP nxt U s (kput [] s true) [s] ∧ Shut nxt (kput [] s true) [s] := by
  refine ⟨⟨by simp [kput], by simp [kput], fun x hx => ?_, by simp [kput], by simp [kput]⟩, fun x hx hn => ?_⟩
  · simp [kput] at hx; subst hx; exact ⟨Rch.refl _ _, hs⟩
  · simp [kput] at hx; subst hx; simp at hn
theorem led_pop (h : LedP nxt U s kvs todo) (hc : Shut nxt kvs todo) {m : Nat} (hm : todo.length = m + 1) {n : Str} (hn : todo[m]'(by omega) = n) : LedP nxt U s kvs (todo.take m) ∧ ShutBut nxt kvs (todo.take m) n ∧ n ∈ keysOf kvs := by
  have hnm : n ∈ keysOf kvs := h.sub n (by rw [← hn]; exact List.getElem_mem _)
  refine ⟨⟨h.tru, h.frm, h.rch, fun t ht => h.sub t (List.mem_of_mem_take ht), by have := h.len; rw [List.length_take]; omega⟩, fun x hx h1 h2 => hc x hx (fun hxt => ?_), hnm⟩
  have : todo = todo.take m ++ [n] := by
    rw [← hn, ← List.take_succ_eq_append_getElem (by omega), List.take_of_length_le (by omega)]
  rw [this, List.mem_append] at hxt
  rcases hxt with hxt | hxt
  · exact h1 hxt
  · simp at hxt; exact h2 hxt
theorem led_push (h : LedP nxt U s kvs todo) {n x : Str} (hc : ShutBut nxt kvs todo n) (hn : n ∈ keysOf kvs) (hx : x ∉ keysOf kvs) (hxn : x ∈ nxt n) (hU : ∀ a ∈ U, ∀ z ∈ nxt a, z ∈ U) : LedP nxt U s (kput kvs x true) (todo ++ [x]) ∧ ShutBut nxt (kput kvs x true) (todo ++ [x]) n ∧ n ∈ keysOf (kput kvs x true) ∧ x ∈ keysOf (kput kvs x true) ∧ (kput kvs x true).length = kvs.length + 1 ∧ (∀ y ∈ keysOf kvs, y ∈ keysOf (kput kvs x true)) := by
  have hk : kput kvs x true = kvs ++ [(x, true)] := kput_none (kget_none.2 hx)
  have hmem : ∀ y, y ∈ keysOf (kvs ++ [(x, true)]) ↔ y ∈ keysOf kvs ∨ y = x := by intro y; simp [keysOf]
  rw [hk]
  refine ⟨⟨fun p hp => ?_, (hmem s).2 (Or.inl h.frm), fun y hy => ?_, fun t ht => ?_, by have := h.len; simp; omega⟩, fun y hy h1 h2 z hz => ?_, (hmem n).2 (Or.inl hn), (hmem x).2 (Or.inr rfl), by simp, fun y hy => (hmem y).2 (Or.inl hy)⟩
  · rcases List.mem_append.1 hp with hp | hp
    · exact h.tru p hp
    · simp at hp; subst hp; rfl
  · rcases (hmem y).1 hy with hy | rfl
    · exact h.rch y hy
    · exact ⟨(h.rch n hn).1.step hxn, hU n (h.rch n hn).2 _ hxn⟩
  · rcases List.mem_append.1 ht with ht | ht
    · exact (hmem t).2 (Or.inl (h.sub t ht))
    · simp at ht; exact (hmem t).2 (Or.inr ht)
  · rcases (hmem y).1 hy with hy | rfl
    · exact (hmem z).2 (Or.inl (hc y hy (fun hyt => h1 (List.mem_append_left _ hyt)) h2 z hz))
    · exact absurd (List.mem_append_right _ List.mem_cons_self) h1
theorem led_done (h : LedP nxt U s kvs []) (hc : Shut nxt kvs []) (x : Str) : x ∈ keysOf kvs ↔ Rch nxt s x :=
  ⟨fun hx => (h.rch x hx).1, fun hx => hx (fun y => y ∈ keysOf kvs) h.frm (fun y hy z hz => hc y hy (by simp) z hz)⟩
theorem led_shut {n : Str} (hc : ShutBut nxt kvs todo n) (hz : ∀ z ∈ nxt n, z ∈ keysOf kvs) : Shut nxt kvs todo := fun x hx hxt z hzx => by
  by_cases hxn : x = n
  · subst hxn; exact hz z hzx
  · exact hc x hx hxt hxn z hzx
theorem led_len (hn : (keysOf kvs).Nodup) (h : LedP nxt U s kvs todo) : kvs.length ≤ U.length := by
  have key : ∀ (l m : List Str), l.Nodup → (∀ x ∈ l, x ∈ m) → l.length ≤ m.length := by
    intro l
    induction l with
    | nil => intros; simp
    | cons a l ih =>
      intro m hnd hsub
      rw [List.nodup_cons] at hnd
      have ha : a ∈ m := hsub a (by simp)
      have := ih (m.erase a) hnd.2 (fun x hx => by
        have hxa : x ≠ a := fun e => hnd.1 (by rw [← e]; exact hx)
        exact (List.mem_erase_of_ne hxa).2 (hsub x (by simp [hx])))
      rw [List.length_erase_of_mem ha] at this
      have : 0 < m.length := List.length_pos_of_mem ha
      simp; omega
  have := key (keysOf kvs) U hn (fun x hx => (h.rch x hx).2)
  simpa using this
end Go.Proofs.Ytmebmgbjpbapjaa
