/-
  No program in sight: a small separation logic over the model's memory. 'Sat e L w': the world w holds the fixed fragment e.h (what never turns), and beside it, each in blocks of its own, the chunks of the list L.
-/
import Derived.WalkKit
import Derived.WalkSpells
import Derived.WalkLawsBesides
namespace Go.Proofs.YtcgnkloljfgiaaaGreatDoor
open Go.RowKit

/-- A fact that the walk is not to take for a rule. -/
theorem hide {p : Prop} (h : p) : Hid p := h

abbrev Frag := Nat → Option Obj

/-- What never turns: blocks; the streams. -/
structure Env where
  h : Frag
  os : Os
  output : Array (Nat × ByteArray)
  tape : Nat → Question → Nat

structure Env.le (a b : Env) : Prop where
  h : ∀ n o, a.h n = some o → b.h n = some o
  os : b.os = a.os
  output : b.output = a.output
  tape : b.tape = a.tape

theorem Env.le_refl (a : Env) : a.le a := ⟨fun _ _ h => h, rfl, rfl, rfl⟩
theorem Env.le.trans {a b c : Env} (h : a.le b) (k : b.le c) : a.le c :=
  ⟨fun n o x => k.h n o (h.h n o x), k.os.trans h.os, k.output.trans h.output, k.tape.trans h.tape⟩

/-- A chunk: what is said of some blocks of its own, beside what never turns. -/
structure HP where
  p : Env → Frag → Prop
  up : ∀ {e e' : Env} {m : Frag}, e.le e' → p e m → p e' m

def rst (w : World) (f : Nat → Option Nat) (i : Nat) : Frag := fun b => if f b = some i then w.heap[b]? else none

structure Sat (e : Env) (L : List HP) (w : World) : Prop where
  os : w.os = e.os
  output : w.output = e.output
  tape : w.tape = e.tape
  fixed : ∀ b o, e.h b = some o → w.heap[b]? = some o
  own : ∃ f : Nat → Option Nat, (∀ b i, f b = some i → e.h b = none ∧ b < w.heap.size) ∧ ∀ (i : Nat) (P : HP), L[i]? = some P → P.p e (rst w f i)

theorem Sat.nil {e : Env} {w : World} (h1 : w.os = e.os) (h2 : w.output = e.output) (h3 : w.tape = e.tape) (h4 : ∀ b o, e.h b = some o → w.heap[b]? = some o) : Sat e [] w :=
  ⟨h1, h2, h3, h4, fun _ => none, fun _ _ h => by simp at h, fun i P h => by simp at h⟩

/-- All that a world holds is taken as what never turns. -/
def Env.all (w : World) : Env := ⟨fun b => w.heap[b]?, w.os, w.output, w.tape⟩
theorem Sat.all (w : World) : Sat (Env.all w) [] w := Sat.nil rfl rfl rfl (fun _ _ h => h)

theorem Sat.lt {e : Env} {L : List HP} {w : World} (h : Sat e L w) {b : Nat} {o : Obj} (hb : e.h b = some o) : b < w.heap.size :=
  (Array.getElem?_eq_some_iff.1 (h.fixed b o hb)).1

/-! ### one block -/
def HP.blk (b : Nat) (o : Obj) : HP := ⟨fun _ m => m b = some o, fun _ h => h⟩
def HP.pure (p : Prop) : HP := ⟨fun _ _ => p, fun _ h => h⟩
def HP.env (q : Env → Prop) (h : ∀ {e e' : Env}, e.le e' → q e → q e') : HP := ⟨fun e _ => q e, fun k x => h k x⟩
def HP.ex {α : Sort _} (P : α → HP) : HP := ⟨fun e m => ∃ x, (P x).p e m, fun k ⟨x, hx⟩ => ⟨x, (P x).up k hx⟩⟩
def HP.star (P Q : HP) : HP :=
  ⟨fun e m => ∃ s : Nat → Bool, P.p e (fun b => if s b then m b else none) ∧ Q.p e (fun b => if s b then none else m b),
   fun k ⟨s, a, b⟩ => ⟨s, P.up k a, Q.up k b⟩⟩

/-- Which chunks are kept, and in which order: a list of places (each below n, none twice), and all from n on. -/
def pickL : List Nat → List HP → List HP
  | [], _ => []
  | i :: is, L => match L[i]? with
    | some P => P :: pickL is L
    | none => pickL is L

theorem pickL_get (is : List Nat) (L : List HP) (hi : ∀ i ∈ is, i < L.length) : ∀ k : Nat, (pickL is L)[k]? = (is[k]?).bind (fun i => L[i]?) := by
  induction is with
  | nil => intro k; simp [pickL]
  | cons i is ih =>
    intro k
    have h0 : i < L.length := hi i (by simp)
    have ih' := ih (fun j hj => hi j (by simp [hj]))
    simp only [pickL, List.getElem?_eq_getElem h0]
    cases k with
    | zero => simp [h0]
    | succ k => simpa using ih' k

theorem Sat.relabel {e : Env} {L L' : List HP} {w : World} (h : Sat e L w) (g : Nat → Option Nat) (hg : ∀ i P, L'[i]? = some P → ∃ j, L[j]? = some P ∧ ∀ k, g k = some i ↔ k = j) : Sat e L' w := by
  obtain ⟨f, hf, hp⟩ := h.own
  refine ⟨h.os, h.output, h.tape, h.fixed, fun b => (f b).bind g, fun b i hb => ?_, fun i P hP => ?_⟩
  · cases hfb : f b with
    | none => simp [hfb] at hb
    | some j => exact hf b j hfb
  · obtain ⟨j, hj, hk⟩ := hg i P hP
    have := hp j P hj
    have e1 : rst w (fun b => (f b).bind g) i = rst w f j := by
      funext b
      unfold rst
      rcases hfb : f b with _ | k
      · simp [hfb]
      · simp only [hfb, Option.bind_some, Option.some.injEq]
        by_cases hkj : k = j
        · rw [if_pos ((hk k).2 hkj), if_pos hkj]
        · rw [if_neg (fun x => hkj ((hk k).1 x)), if_neg hkj]
    rw [e1]; exact this

theorem Sat.pick {e : Env} {L : List HP} {w : World} (is : List Nat) (n : Nat) (h : Sat e L w) (hn : is.Nodup) (hlt : ∀ i ∈ is, i < n) (hL : n ≤ L.length) : Sat e (pickL is L ++ L.drop n) w := by
  have hin : ∀ i ∈ is, i < L.length := fun i hi => Nat.lt_of_lt_of_le (hlt i hi) hL
  have hlen : (pickL is L).length = is.length := by
    clear hn hlt
    induction is with
    | nil => rfl
    | cons i is ih =>
      have h0 : i < L.length := hin i (by simp)
      simp only [pickL, List.getElem?_eq_getElem h0, List.length_cons, ih (fun j hj => hin j (by simp [hj]))]
  refine h.relabel (fun k => if k < n then is.idxOf? k else some (is.length + (k - n))) (fun i P hP => ?_)
  rw [List.getElem?_append, hlen] at hP
  split at hP
  · rename_i hi
    rw [pickL_get is L hin, List.getElem?_eq_getElem hi] at hP
    simp only [Option.bind_some] at hP
    refine ⟨is[i], hP, fun k => ?_⟩
    constructor
    · intro hk
      split at hk
      · have := List.findIdx?_eq_some_iff_getElem.1 (by simpa [List.idxOf?] using hk)
        obtain ⟨h1, h2, _⟩ := this
        simpa using (show is[i] = k by simpa using h2).symm
      · simp only [Option.some.injEq] at hk; omega
    · intro hk
      subst hk
      have hm : is[i] ∈ is := List.getElem_mem hi
      rw [if_pos (hlt _ hm)]
      show is.findIdx? (· == is[i]) = some i
      rw [List.findIdx?_eq_some_iff_getElem]
      refine ⟨hi, by simp, fun j hj => ?_⟩
      have hne := List.pairwise_iff_getElem.1 hn j i (by omega) hi hj
      simpa using hne
  · rename_i hi
    refine ⟨n + (i - is.length), by simpa [List.getElem?_drop] using hP, fun k => ?_⟩
    constructor
    · intro hk
      split at hk
      · rename_i hkn
        have := List.findIdx?_eq_some_iff_getElem.1 (by simpa [List.idxOf?] using hk)
        obtain ⟨h1, _⟩ := this
        omega
      · simp only [Option.some.injEq] at hk; omega
    · intro hk
      subst hk
      rw [if_neg (by omega)]
      congr 1; omega

theorem Sat.drop {e : Env} {P : HP} {L : List HP} {w : World} (h : Sat e (P :: L) w) : Sat e L w :=
  h.pick [] 1 (by simp) (by simp) (by simp)
theorem Sat.swap {e : Env} {P Q : HP} {L : List HP} {w : World} (h : Sat e (P :: Q :: L) w) : Sat e (Q :: P :: L) w :=
  h.pick [1, 0] 2 (by simp) (by simp) (by simp)

/-- The head chunk becomes another one that its blocks bear as well. -/
theorem Sat.head {e : Env} {P Q : HP} {L : List HP} {w : World} (h : Sat e (P :: L) w) (hPQ : ∀ m, P.p e m → Q.p e m) : Sat e (Q :: L) w := by
  obtain ⟨f, hf, hp⟩ := h.own
  refine ⟨h.os, h.output, h.tape, h.fixed, f, hf, fun i R hR => ?_⟩
  cases i with
  | zero => simp at hR; subst hR; exact hPQ _ (hp 0 P rfl)
  | succ i => exact hp (i + 1) R (by simpa using hR)

theorem Sat.ex_elim {α : Sort _} {e : Env} {P : α → HP} {L : List HP} {w : World} (h : Sat e (HP.ex P :: L) w) : ∃ x, Sat e (P x :: L) w := by
  obtain ⟨f, hf, hp⟩ := h.own
  obtain ⟨x, hx⟩ := hp 0 _ rfl
  refine ⟨x, h.os, h.output, h.tape, h.fixed, f, hf, fun i R hR => ?_⟩
  cases i with
  | zero => simp at hR; subst hR; exact hx
  | succ i => exact hp (i + 1) R (by simpa using hR)

theorem Sat.ex_intro {α : Sort _} {e : Env} {P : α → HP} {L : List HP} {w : World} (x : α) (h : Sat e (P x :: L) w) : Sat e (HP.ex P :: L) w :=
  h.head (fun _ hm => ⟨x, hm⟩)

theorem Sat.pure_elim {e : Env} {p : Prop} {L : List HP} {w : World} (h : Sat e (HP.pure p :: L) w) : p ∧ Sat e L w := by
  obtain ⟨f, hf, hp⟩ := h.own
  exact ⟨hp 0 _ rfl, h.drop⟩

theorem Sat.env_elim {e : Env} {q : Env → Prop} {hq} {L : List HP} {w : World} (h : Sat e (HP.env q hq :: L) w) : q e ∧ Sat e L w := by
  obtain ⟨f, hf, hp⟩ := h.own
  exact ⟨hp 0 _ rfl, h.drop⟩

/-- A chunk that asks nothing of memory is laid ahead. -/
theorem Sat.lay {e : Env} {P : HP} {L : List HP} {w : World} (h : Sat e L w) (hP : ∀ m, P.p e m) : Sat e (P :: L) w := by
  obtain ⟨f, hf, hp⟩ := h.own
  refine ⟨h.os, h.output, h.tape, h.fixed, fun b => (f b).map (· + 1), fun b i hb => ?_, fun i R hR => ?_⟩
  · cases hfb : f b with
    | none => simp [hfb] at hb
    | some j => exact hf b j hfb
  · cases i with
    | zero => simp at hR; subst hR; exact hP _
    | succ i =>
      have e1 : rst w (fun b => (f b).map (· + 1)) (i + 1) = rst w f i := by
        funext b; unfold rst; rcases hfb : f b with _ | k <;> simp [hfb]
      rw [e1]; exact hp i R (by simpa using hR)

theorem Sat.pure_intro {e : Env} {p : Prop} {L : List HP} {w : World} (hp : p) (h : Sat e L w) : Sat e (HP.pure p :: L) w := h.lay (fun _ => hp)
theorem Sat.env_intro {e : Env} {q : Env → Prop} {hq} {L : List HP} {w : World} (hp : q e) (h : Sat e L w) : Sat e (HP.env q hq :: L) w := h.lay (fun _ => hp)

theorem Sat.star_elim {e : Env} {P Q : HP} {L : List HP} {w : World} (h : Sat e (HP.star P Q :: L) w) : Sat e (P :: Q :: L) w := by
  obtain ⟨f, hf, hp⟩ := h.own
  obtain ⟨s, hP, hQ⟩ := hp 0 _ rfl
  refine ⟨h.os, h.output, h.tape, h.fixed, fun b => (f b).map (fun i => if i = 0 then (if s b then 0 else 1) else i + 1), fun b i hb => ?_, fun i R hR => ?_⟩
  · cases hfb : f b with
    | none => simp [hfb] at hb
    | some j => exact hf b j hfb
  · match i with
    | 0 =>
      simp at hR; subst hR
      have e1 : rst w (fun b => (f b).map (fun i => if i = 0 then (if s b then 0 else 1) else i + 1)) 0 = (fun b => if s b then rst w f 0 b else none) := by
        funext b; unfold rst
        rcases hfb : f b with _ | j
        · simp [hfb]
        · by_cases hj : j = 0 <;> cases hs : s b <;> simp [hfb, hj, hs]
      rw [e1]; exact hP
    | 1 =>
      simp at hR; subst hR
      have e1 : rst w (fun b => (f b).map (fun i => if i = 0 then (if s b then 0 else 1) else i + 1)) 1 = (fun b => if s b then none else rst w f 0 b) := by
        funext b; unfold rst
        rcases hfb : f b with _ | j
        · simp [hfb]
        · by_cases hj : j = 0 <;> cases hs : s b <;> simp [hfb, hj, hs]
      rw [e1]; exact hQ
    | i + 2 =>
      have e1 : rst w (fun b => (f b).map (fun i => if i = 0 then (if s b then 0 else 1) else i + 1)) (i + 2) = rst w f (i + 1) := by
        funext b; unfold rst
        rcases hfb : f b with _ | j
        · simp [hfb]
        · by_cases hj : j = 0 <;> cases hs : s b <;> simp [hfb, hj, hs]
      rw [e1]; exact hp (i + 1) R (by simpa using hR)

theorem Sat.star_intro {e : Env} {P Q : HP} {L : List HP} {w : World} (h : Sat e (P :: Q :: L) w) : Sat e (HP.star P Q :: L) w := by
  obtain ⟨f, hf, hp⟩ := h.own
  refine ⟨h.os, h.output, h.tape, h.fixed, fun b => (f b).map (fun i => i - 1), fun b i hb => ?_, fun i R hR => ?_⟩
  · cases hfb : f b with
    | none => simp [hfb] at hb
    | some j => exact hf b j hfb
  · cases i with
    | zero =>
      simp at hR; subst hR
      refine ⟨fun b => decide (f b = some 0), ?_, ?_⟩
      · have e1 : (fun b => if decide (f b = some 0) = true then rst w (fun b => (f b).map (fun i => i - 1)) 0 b else none) = rst w f 0 := by
          funext b; unfold rst
          rcases hfb : f b with _ | j
          · simp
          · by_cases hj : j = 0 <;> simp [hfb, hj]
        rw [e1]; exact hp 0 P rfl
      · have e1 : (fun b => if decide (f b = some 0) = true then none else rst w (fun b => (f b).map (fun i => i - 1)) 0 b) = rst w f 1 := by
          funext b; unfold rst
          rcases hfb : f b with _ | j
          · simp [hfb]
          · by_cases hj : j = 0
            · simp [hj]
            · have : (j - 1 = 0) ↔ j = 1 := by omega
              simp [hfb, hj, this]
        rw [e1]; exact hp 1 Q rfl
    | succ i =>
      have e1 : rst w (fun b => (f b).map (fun i => i - 1)) (i + 1) = rst w f (i + 2) := by
        funext b; unfold rst
        rcases hfb : f b with _ | j
        · simp [hfb]
        · have : (j - 1 = i + 1) ↔ j = i + 2 := by omega
          simp [hfb, this]
      rw [e1]; exact hp (i + 2) R (by simpa using hR)

/-! ### from chunks to memory -/
theorem Sat.at {e : Env} {b : Nat} {o : Obj} {L : List HP} {w : World} (h : Sat e (HP.blk b o :: L) w) : w.heap[b]? = some o := by
  obtain ⟨f, _, hp⟩ := h.own
  have := hp 0 _ rfl
  simp only [HP.blk, rst] at this
  split at this
  · exact this
  · cases this

theorem Sat.free {e : Env} {b : Nat} {o : Obj} {L : List HP} {w : World} (h : Sat e (HP.blk b o :: L) w) : e.h b = none := by
  obtain ⟨f, hf, hp⟩ := h.own
  have := hp 0 _ rfl
  simp only [HP.blk, rst] at this
  split at this
  · rename_i hb; exact (hf b 0 hb).1
  · cases this

theorem Sat.ne {e : Env} {b c : Nat} {o o' : Obj} {L : List HP} {w : World} (h : Sat e (HP.blk b o :: HP.blk c o' :: L) w) : b ≠ c := by
  obtain ⟨f, hf, hp⟩ := h.own
  have h0 := hp 0 _ rfl
  have h1 := hp 1 _ rfl
  simp only [HP.blk, rst] at h0 h1
  intro hbc
  subst hbc
  split at h0
  · rename_i hb; rw [hb] at h1; simp at h1
  · cases h0

theorem cell_of {w : World} {b : Nat} {c : Array Value} {t : TypeId} {fz : Nat × Nat} (h : w.heap[b]? = some (.cells c t fz)) (i : Nat) : w.cell? ⟨b, i, none⟩ = c[i]? := by
  simp [World.cell?, h]
theorem unfrozen_of {w : World} {b : Nat} {c : Array Value} {t : TypeId} (h : w.heap[b]? = some (.cells c t (0, 0))) (i : Nat) : w.frozen? ⟨b, i, none⟩ = false := by
  simp [World.frozen?, h]

/-! ### what a world becomes -/
/-- The master: the head block's chunk may turn, all other blocks that were there stay; the new chunk's block is the old one, or a new one. -/
theorem Sat.turn {e : Env} {P Q : HP} {L : List HP} {w w' : World} (h : Sat e (P :: L) w) (hos : w'.os = w.os) (hout : w'.output = w.output) (htape : w'.tape = w.tape) (hsz : w.heap.size ≤ w'.heap.size)
    (hQ : ∀ m : Frag, P.p e m → (∀ k o, m k = some o → w.heap[k]? = some o ∧ e.h k = none) → (∀ k, k < w.heap.size → m k = none → w'.heap[k]? = w.heap[k]?) ∧
      Q.p e (fun k => if (m k).isSome ∨ (w.heap.size ≤ k) then w'.heap[k]? else none)) : Sat e (Q :: L) w' := by
  obtain ⟨f, hf, hp⟩ := h.own
  obtain ⟨hk, hq⟩ := hQ (rst w f 0) (hp 0 P rfl) (fun k o hko => by
    unfold rst at hko
    split at hko
    · rename_i hb; exact ⟨hko, (hf k 0 hb).1⟩
    · cases hko)
  have hkeep : ∀ k, k < w.heap.size → f k ≠ some 0 → w'.heap[k]? = w.heap[k]? := fun k hkl hfk => hk k hkl (by simp [rst, hfk])
  have hfix : ∀ b o, e.h b = some o → w'.heap[b]? = some o := fun b o hb => by
    rw [hkeep b (h.lt hb) (fun hfb => by have := (hf b 0 hfb).1; rw [hb] at this; cases this)]
    exact h.fixed b o hb
  refine ⟨hos.trans h.os, hout.trans h.output, htape.trans h.tape, hfix, fun b => if w.heap.size ≤ b ∧ b < w'.heap.size then some 0 else f b, fun b i hb => ?_, fun i R hR => ?_⟩
  · dsimp only at hb
    split at hb
    · rename_i hc
      refine ⟨?_, hc.2⟩
      cases hh : e.h b with
      | none => rfl
      | some o => have := h.lt hh; omega
    · have := hf b i hb; exact ⟨this.1, by omega⟩
  · cases i with
    | zero =>
      simp at hR; subst hR
      have e1 : rst w' (fun b => if w.heap.size ≤ b ∧ b < w'.heap.size then some 0 else f b) 0 = (fun k => if ((rst w f 0) k).isSome ∨ (w.heap.size ≤ k) then w'.heap[k]? else none) := by
        funext b
        unfold rst
        by_cases hb : w.heap.size ≤ b
        · by_cases hb2 : b < w'.heap.size
          · simp [hb, hb2]
          · have hnone : w'.heap[b]? = none := Array.getElem?_eq_none (by omega)
            simp [hb, hnone]
        · have hlt : b < w.heap.size := by omega
          by_cases hfb : f b = some 0
          · simp [hb, hfb, hlt]
          · simp [hb, hfb]
      rw [e1]; exact hq
    | succ i =>
      have e1 : rst w' (fun b => if w.heap.size ≤ b ∧ b < w'.heap.size then some 0 else f b) (i + 1) = rst w f (i + 1) := by
        funext b
        unfold rst
        by_cases hb : w.heap.size ≤ b ∧ b < w'.heap.size
        · have hn : f b ≠ some (i + 1) := fun hx => by have := (hf b _ hx).2; omega
          simp [hb, hn]
        · simp only [hb, if_false]
          by_cases hfb : f b = some (i + 1)
          · rw [if_pos hfb, if_pos hfb]
            exact hkeep b (hf b _ hfb).2 (by rw [hfb]; simp)
          · rw [if_neg hfb, if_neg hfb]
      rw [e1]; exact hp (i + 1) R (by simpa using hR)

/-- One own block becomes another one, old or new; nothing else that was there turns. -/
theorem Sat.upd {e : Env} {b g : Nat} {o o' : Obj} {L : List HP} {w w' : World} (h : Sat e (HP.blk b o :: L) w) (hos : w'.os = w.os) (hout : w'.output = w.output) (htape : w'.tape = w.tape) (hsz : w.heap.size ≤ w'.heap.size)
    (hk : ∀ k, k < w.heap.size → k ≠ b → w'.heap[k]? = w.heap[k]?) (hg : w'.heap[g]? = some o') (hgb : g = b ∨ w.heap.size ≤ g) : Sat e (HP.blk g o' :: L) w' := by
  refine h.turn hos hout htape hsz (fun m hm _ => ⟨fun k hkl hmk => hk k hkl (fun hkb => ?_), ?_⟩)
  · subst hkb; simp only [HP.blk] at hm; rw [hm] at hmk; cases hmk
  · simp only [HP.blk] at hm ⊢
    rcases hgb with rfl | hge
    · rw [if_pos (Or.inl (by rw [hm]; rfl))]; exact hg
    · rw [if_pos (Or.inr hge)]; exact hg

/-- New blocks, one of them known; nothing that was there turns. -/
theorem Sat.grow {e : Env} {g : Nat} {o : Obj} {L : List HP} {w w' : World} (h : Sat e L w) (hos : w'.os = w.os) (hout : w'.output = w.output) (htape : w'.tape = w.tape) (hsz : w.heap.size ≤ w'.heap.size)
    (hk : ∀ k, k < w.heap.size → w'.heap[k]? = w.heap[k]?) (hg : w'.heap[g]? = some o) (hge : w.heap.size ≤ g) : Sat e (HP.blk g o :: L) w' := by
  have h' : Sat e (HP.pure True :: L) w := h.pure_intro trivial
  refine h'.turn hos hout htape hsz (fun m _ _ => ⟨fun k hkl _ => hk k hkl, ?_⟩)
  show (if _ then _ else _) = _
  rw [if_pos (Or.inr hge)]; exact hg

/-- Nothing that was there turns. -/
theorem Sat.keep {e : Env} {L : List HP} {w w' : World} (h : Sat e L w) (hos : w'.os = w.os) (hout : w'.output = w.output) (htape : w'.tape = w.tape) (hsz : w.heap.size ≤ w'.heap.size)
    (hk : ∀ k, k < w.heap.size → w'.heap[k]? = w.heap[k]?) : Sat e L w' := by
  have h' : Sat e (HP.pure True :: L) w := h.pure_intro trivial
  exact (h'.turn (Q := HP.pure True) hos hout htape hsz (fun m _ _ => ⟨fun k hkl _ => hk k hkl, trivial⟩)).drop

theorem Sat.below {e : Env} {L : List HP} {w w' : World} (h : Sat e L w) (hb : Below w.heap.size w w') : Sat e L w' := h.keep hb.os hb.output hb.tape hb.size hb.block
theorem Sat.drew {e : Env} {L : List HP} {w : World} (h : Sat e L w) : Sat e L w.drew := h.keep rfl rfl rfl (Nat.le_refl _) (fun _ _ => rfl)
theorem Sat.drewN {e : Env} {L : List HP} {w : World} (h : Sat e L w) (n : Nat) : Sat e L (w.drewN n) := h.keep rfl rfl rfl (Nat.le_refl _) (fun _ _ => rfl)
theorem Sat.alloc {e : Env} {L : List HP} {w : World} (h : Sat e L w) (o : Obj) : Sat e (HP.blk w.heap.size o :: L) (w.alloc o) :=
  h.grow rfl rfl rfl (by simp) (fun k hk => Below.heap_alloc w o k hk) (heap_alloc_new w o) (Nat.le_refl _)
/-- A new block that nobody asks for again. -/
theorem Sat.alloc_ {e : Env} {L : List HP} {w : World} (h : Sat e L w) (o : Obj) : Sat e L (w.alloc o) := (h.alloc o).drop

theorem Sat.setCell {e : Env} {b i : Nat} {c : Array Value} {t : TypeId} {fz : Nat × Nat} {L : List HP} {w : World} (h : Sat e (HP.blk b (.cells c t fz) :: L) w) (v : Value) :
    Sat e (HP.blk b (.cells (c.setIfInBounds i v) t fz) :: L) (w.setCell ⟨b, i, none⟩ v) :=
  h.upd rfl rfl rfl (by simp) (fun k _ hkb => Below.heap_setCell _ _ _ _ (by simpa using hkb)) (by
    have hb := h.at
    have hlt := (Array.getElem?_eq_some_iff.1 hb).1
    simp only [World.setCell, Array.getElem?_modify, if_true, hb, Option.map_some]
    rfl) (Or.inl rfl)

theorem Sat.setObj {e : Env} {b : Nat} {o : Obj} {L : List HP} {w : World} (h : Sat e (HP.blk b o :: L) w) (o' : Obj) : Sat e (HP.blk b o' :: L) { w with heap := w.heap.setIfInBounds b o' } := by
  have hb := h.at
  have hlt := (Array.getElem?_eq_some_iff.1 hb).1
  exact h.upd rfl rfl rfl (by simp) (fun k _ hkb => by simp [Ne.symm hkb]) (by simp [hlt]) (Or.inl rfl)

/-- An own block becomes one that never turns. -/
def Env.put (e : Env) (b : Nat) (o : Obj) : Env := { e with h := fun k => if k = b then some o else e.h k }
theorem Env.le_put {e : Env} {b : Nat} {o : Obj} (h : e.h b = none) : e.le (e.put b o) :=
  ⟨fun n x hx => by simp only [Env.put]; rw [if_neg (fun hn => by subst hn; rw [h] at hx; cases hx)]; exact hx, rfl, rfl, rfl⟩
theorem Sat.persist {e : Env} {b : Nat} {o : Obj} {L : List HP} {w : World} (h : Sat e (HP.blk b o :: L) w) : ∃ e', e.le e' ∧ e'.h b = some o ∧ Sat e' L w := by
  have hfree := h.free
  refine ⟨e.put b o, Env.le_put hfree, by simp [Env.put], ?_⟩
  have hat := h.at
  obtain ⟨f, hf, hp⟩ := h.own
  refine ⟨h.os, h.output, h.tape, fun k x hx => ?_, fun k => if k = b then none else (match f k with | some (i + 1) => some i | _ => none), fun k i hk => ?_, fun i R hR => ?_⟩
  · simp only [Env.put] at hx
    split at hx
    · rename_i hkb; subst hkb; cases hx; exact hat
    · exact h.fixed k x hx
  · dsimp only at hk
    split at hk
    · cases hk
    · rename_i hkb
      cases hfk : f k with
      | none => simp [hfk] at hk
      | some j => have := hf k j hfk; exact ⟨by simp only [Env.put]; rw [if_neg hkb]; exact this.1, this.2⟩
  · have h0 := hp 0 _ rfl
    simp only [HP.blk, rst] at h0
    have hfb : f b = some 0 := by
      split at h0
      · assumption
      · cases h0
    have e1 : rst w (fun k => if k = b then none else (match f k with | some (i + 1) => some i | _ => none)) i = rst w f (i + 1) := by
      funext k
      unfold rst
      by_cases hkb : k = b
      · subst hkb; simp [hfb]
      · simp only [hkb, if_false]
        rcases hfk : f k with _ | j
        · simp
        · cases j <;> simp
    rw [e1]
    exact R.up (Env.le_put hfree) (hp (i + 1) R (by simpa using hR))

/-- What never turns, read again in the end. -/
theorem Sat.frame {W : World} {e : Env} {L : List HP} {w' : World} (hle : (Env.all W).le e) (h : Sat e L w') : Below W.heap.size W w' := by
  refine ⟨h.os.trans hle.os, h.tape.trans hle.tape, h.output.trans hle.output, ?_, fun k hk => ?_⟩
  · rcases Nat.lt_or_ge w'.heap.size W.heap.size with hlt | hge
    · exfalso
      have hk : W.heap[w'.heap.size]? = some W.heap[w'.heap.size] := Array.getElem?_eq_getElem hlt
      have := h.fixed _ _ (hle.h _ _ hk)
      simp at this
    · exact hge
  · have hk' : W.heap[k]? = some W.heap[k] := Array.getElem?_eq_getElem hk
    rw [hk']; exact h.fixed _ _ (hle.h _ _ hk')

/-! ### contracts -/
/-- A call returns; what never turns has grown; φ of that, the value and the world. -/
def Done (e : Env) (φ : Env → Value → World → Prop) (x : Ending) (w' : World) : Prop := ∃ e' v, e.le e' ∧ x = .returned v ∧ φ e' v w'

theorem Done.mk {e e' : Env} {φ : Env → Value → World → Prop} {v : Value} {w' : World} (h : e.le e') (hφ : φ e' v w') : Done e φ (.returned v) w' := ⟨e', v, h, rfl, hφ⟩
theorem Done.mk0 {e : Env} {φ : Env → Value → World → Prop} {v : Value} {w' : World} (hφ : φ e v w') : Done e φ (.returned v) w' := ⟨e, v, Env.le_refl e, rfl, hφ⟩

end Go.Proofs.YtcgnkloljfgiaaaGreatDoor
