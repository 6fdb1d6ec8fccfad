/-
  No program in sight: a world by its chunks, whatever has turned to what never turns ('St'); data read out of memory ('El'): a slice that is read, an owned slice.
-/
import Derived.Test.YtcgnkloljfgiaaaGreatDoorOp3
import Derived.Test.YtcgnkloljfgiaaaGreatDoorSk
import Derived.Deep.LoopGhost
namespace Go.Proofs.YtcgnkloljfgiaaaGreatDoor
open Go.RowKit Go.Maps Go.MapKept

def St (b : Env) (L : List HP) (w : World) : Prop := ∃ e, b.le e ∧ Sat e L w

section
variable {b e : Env} {L L' : List HP} {w w' : World} {A B C D E F G P : HP}
theorem Sat.st (h : Sat e L w) : St e L w := ⟨e, Env.le_refl e, h⟩
theorem St.of_all (w : World) : St (Env.all w) [] w := (Sat.all w).st
theorem St.lift (h : St b L w) (f : ∀ e, Sat e L w → Sat e L' w') : St b L' w' := let ⟨e, hl, hs⟩ := h; ⟨e, hl, f e hs⟩
theorem St.frame {W : World} (h : St (Env.all W) L w') : Below W.heap.size W w' := let ⟨_, hl, hs⟩ := h; Sat.frame hl hs
theorem St.base {e : Env} (hl : b.le e) (h : St e L w) : St b L w := let ⟨e', hl', hs⟩ := h; ⟨e', hl.trans hl', hs⟩
theorem St.pick (is : List Nat) (n : Nat) (h : St b L w) (hn : is.Nodup) (hlt : ∀ i ∈ is, i < n) (hL : n ≤ L.length) : St b (pickL is L ++ L.drop n) w := h.lift fun _ hs => hs.pick is n hn hlt hL
theorem St.drop (h : St b (A :: L) w) : St b L w := h.lift fun _ hs => hs.drop
theorem St.f1 (h : St b (A :: B :: L) w) : St b (B :: A :: L) w := h.pick [1, 0] 2 (by decide) (by decide) (by simp)
theorem St.f2 (h : St b (A :: B :: C :: L) w) : St b (C :: A :: B :: L) w := h.pick [2, 0, 1] 3 (by decide) (by decide) (by simp)
theorem St.f3 (h : St b (A :: B :: C :: D :: L) w) : St b (D :: A :: B :: C :: L) w := h.pick [3, 0, 1, 2] 4 (by decide) (by decide) (by simp)
theorem St.f4 (h : St b (A :: B :: C :: D :: E :: L) w) : St b (E :: A :: B :: C :: D :: L) w := h.pick [4, 0, 1, 2, 3] 5 (by decide) (by decide) (by simp)
theorem St.f5 (h : St b (A :: B :: C :: D :: E :: F :: L) w) : St b (F :: A :: B :: C :: D :: E :: L) w := h.pick [5, 0, 1, 2, 3, 4] 6 (by decide) (by decide) (by simp)
theorem St.f6 (h : St b (A :: B :: C :: D :: E :: F :: G :: L) w) : St b (G :: A :: B :: C :: D :: E :: F :: L) w := h.pick [6, 0, 1, 2, 3, 4, 5] 7 (by decide) (by decide) (by simp)
theorem St.b2 (h : St b (A :: B :: C :: L) w) : St b (B :: C :: A :: L) w := h.pick [1, 2, 0] 3 (by decide) (by decide) (by simp)
theorem St.b3 (h : St b (A :: B :: C :: D :: L) w) : St b (B :: C :: D :: A :: L) w := h.pick [1, 2, 3, 0] 4 (by decide) (by decide) (by simp)
theorem St.b4 (h : St b (A :: B :: C :: D :: E :: L) w) : St b (B :: C :: D :: E :: A :: L) w := h.pick [1, 2, 3, 4, 0] 5 (by decide) (by decide) (by simp)
theorem St.b5 (h : St b (A :: B :: C :: D :: E :: F :: L) w) : St b (B :: C :: D :: E :: F :: A :: L) w := h.pick [1, 2, 3, 4, 5, 0] 6 (by decide) (by decide) (by simp)
theorem St.b6 (h : St b (A :: B :: C :: D :: E :: F :: G :: L) w) : St b (B :: C :: D :: E :: F :: G :: A :: L) w := h.pick [1, 2, 3, 4, 5, 6, 0] 7 (by decide) (by decide) (by simp)
theorem St.d1 (h : St b (A :: B :: L) w) : St b (A :: L) w := h.f1.drop
theorem St.d2 (h : St b (A :: B :: C :: L) w) : St b (A :: B :: L) w := h.f2.drop
theorem St.d3 (h : St b (A :: B :: C :: D :: L) w) : St b (A :: B :: C :: L) w := h.f3.drop
theorem St.d4 (h : St b (A :: B :: C :: D :: E :: L) w) : St b (A :: B :: C :: D :: L) w := h.f4.drop
theorem St.d5 (h : St b (A :: B :: C :: D :: E :: F :: L) w) : St b (A :: B :: C :: D :: E :: L) w := h.f5.drop
theorem St.drew (h : St b L w) : St b L w.drew := h.lift fun _ hs => hs.drew
theorem St.drewN (h : St b L w) (n : Nat) : St b L (w.drewN n) := h.lift fun _ hs => hs.drewN n
theorem St.below (h : St b L w) (hb : Below w.heap.size w w') : St b L w' := h.lift fun _ hs => hs.below hb
theorem St.alloc (h : St b L w) (o : Obj) : St b (HP.blk w.heap.size o :: L) (w.alloc o) := h.lift fun _ hs => hs.alloc o
theorem St.alloc_ (h : St b L w) (o : Obj) : St b L (w.alloc o) := (h.alloc o).drop
theorem St.setCell {g i : Nat} {c : Array Value} {t : TypeId} {fz : Nat × Nat} (h : St b (HP.blk g (.cells c t fz) :: L) w) (v : Value) : St b (HP.blk g (.cells (c.setIfInBounds i v) t fz) :: L) (w.setCell ⟨g, i, none⟩ v) := h.lift fun _ hs => hs.setCell v
theorem St.persist_blk {g : Nat} {o : Obj} (h : St b (HP.blk g o :: L) w) : ∃ e, b.le e ∧ e.h g = some o ∧ St e L w := by
  obtain ⟨e, hl, hs⟩ := h
  obtain ⟨e', hle, hat, hs'⟩ := hs.persist
  exact ⟨e', hl.trans hle, hat, hs'.st⟩

theorem Sat.mem_front (h : Sat e L w) (hm : P ∈ L) : ∃ L', Sat e (P :: L') w := by
  obtain ⟨k, hk⟩ := List.mem_iff_getElem?.1 hm
  exact ⟨_, h.front k hk⟩
theorem Sat.mem_p (h : Sat e L w) (hm : P ∈ L) : ∃ m, P.p e m := by
  obtain ⟨L', h'⟩ := h.mem_front hm
  obtain ⟨f, _, hp⟩ := h'.own
  exact ⟨_, hp 0 P rfl⟩
theorem Sat.mem_blk {g : Nat} {o : Obj} (h : Sat e L w) (hm : HP.blk g o ∈ L) : w.heap[g]? = some o := let ⟨_, h'⟩ := h.mem_front hm; h'.at
theorem St.mem_blk {g : Nat} {o : Obj} (h : St b L w) (hm : HP.blk g o ∈ L) : w.heap[g]? = some o := let ⟨_, _, hs⟩ := h; hs.mem_blk hm
theorem St.blk_cell {g : Nat} {c : Array Value} {t : TypeId} {fz : Nat × Nat} (h : St b L w) (hm : HP.blk g (.cells c t fz) ∈ L) (i : Nat) : w.cell? ⟨g, i, none⟩ = c[i]? := cell_of (h.mem_blk hm) i
theorem St.blk_free {g : Nat} {c : Array Value} {t : TypeId} (h : St b L w) (hm : HP.blk g (.cells c t (0, 0)) ∈ L) (i : Nat) : w.frozen? ⟨g, i, none⟩ = false := unfrozen_of (h.mem_blk hm) i

/-- A chunk told otherwise. -/
theorem Sat.tell {ι : Sort _} {q : ι → Prop} {Q : ι → HP} (h : Sat e (P :: L) w) (hP : ∀ m, P.p e m → ∃ x, q x ∧ (Q x).p e m) : ∃ x, q x ∧ Sat e (Q x :: L) w := by
  obtain ⟨f, hf, hp⟩ := h.own
  obtain ⟨x, hq, hx⟩ := hP _ (hp 0 _ rfl)
  refine ⟨x, hq, h.os, h.output, h.tape, h.fixed, f, hf, fun i R hR => ?_⟩
  cases i with
  | zero => simp at hR; subst hR; exact hx
  | succ i => exact hp (i + 1) R (by simpa using hR)

theorem St.lay (h : St b L w) (hP : ∀ e, b.le e → Sat e L w → ∀ m, P.p e m) : St b (P :: L) w := let ⟨e, hl, hs⟩ := h; ⟨e, hl, hs.lay (hP e hl hs)⟩
end

/-! places in a list -/
section
variable {A B C D E F G : HP} {L : List HP}
theorem mem0 : A ∈ A :: L := List.mem_cons_self
theorem mem1 : B ∈ A :: B :: L := List.mem_cons_of_mem _ mem0
theorem mem2 : C ∈ A :: B :: C :: L := List.mem_cons_of_mem _ mem1
theorem mem3 : D ∈ A :: B :: C :: D :: L := List.mem_cons_of_mem _ mem2
theorem mem4 : E ∈ A :: B :: C :: D :: E :: L := List.mem_cons_of_mem _ mem3
theorem mem5 : F ∈ A :: B :: C :: D :: E :: F :: L := List.mem_cons_of_mem _ mem4
theorem mem6 : G ∈ A :: B :: C :: D :: E :: F :: G :: L := List.mem_cons_of_mem _ mem5
theorem up1 {P : HP} (h : P ∈ L) : P ∈ A :: L := List.mem_cons_of_mem _ h
theorem up2 {P : HP} (h : P ∈ L) : P ∈ A :: B :: L := up1 (up1 h)
theorem up3 {P : HP} (h : P ∈ L) : P ∈ A :: B :: C :: L := up1 (up2 h)
theorem up4 {P : HP} (h : P ∈ L) : P ∈ A :: B :: C :: D :: L := up1 (up3 h)
theorem up5 {P : HP} (h : P ∈ L) : P ∈ A :: B :: C :: D :: E :: L := up1 (up4 h)
theorem up6 {P : HP} (h : P ∈ L) : P ∈ A :: B :: C :: D :: E :: F :: L := up1 (up5 h)
end

/-! ### data -/
/-- How a thing lies in cells. -/
structure El (α : Type) where
  sz : Nat
  rd : Frag → α → List Value → Prop
  len : ∀ {h : Frag} {x : α} {cs : List Value}, rd h x cs → cs.length = sz
  one : ∀ {h : Frag} {x : α} {cs : List Value}, rd h x cs → ∀ u ∈ cs, u.oneCell' = true
  up : ∀ {h h' : Frag} {x : α} {cs : List Value}, (∀ n o, h n = some o → h' n = some o) → rd h x cs → rd h' x cs

section
variable {α : Type} {E : El α} {h h' : Frag}

def El.rds (E : El α) (h : Frag) : List α → List Value → Prop
  | [], cs => cs = []
  | x :: xs, cs => ∃ c r, cs = c ++ r ∧ E.rd h x c ∧ El.rds E h xs r

theorem El.rds_len : ∀ {xs : List α} {cs : List Value}, E.rds h xs cs → cs.length = xs.length * E.sz
  | [], cs, H => by subst H; simp
  | x :: xs, _, ⟨c, r, rfl, h1, h2⟩ => by
    rw [List.length_append, E.len h1, El.rds_len h2, List.length_cons, Nat.add_mul, Nat.one_mul, Nat.add_comm]
theorem El.rds_one : ∀ {xs : List α} {cs : List Value}, E.rds h xs cs → ∀ u ∈ cs, u.oneCell' = true
  | [], cs, H => by subst H; simp
  | x :: xs, _, ⟨c, r, rfl, h1, h2⟩ => fun u hu => by
    rcases List.mem_append.1 hu with hu | hu
    · exact E.one h1 u hu
    · exact El.rds_one h2 u hu
theorem El.rds_up (hh : ∀ n o, h n = some o → h' n = some o) : ∀ {xs : List α} {cs : List Value}, E.rds h xs cs → E.rds h' xs cs
  | [], _, H => H
  | _ :: _, _, ⟨c, r, e1, h1, h2⟩ => ⟨c, r, e1, E.up hh h1, El.rds_up hh h2⟩
theorem El.rds_append : ∀ {xs ys : List α} {cs ds : List Value}, E.rds h xs cs → E.rds h ys ds → E.rds h (xs ++ ys) (cs ++ ds)
  | [], _, cs, _, H, K => by subst H; exact K
  | _ :: _, _, _, ds, ⟨c, r, e1, h1, h2⟩, K => ⟨c, r ++ ds, by rw [e1, List.append_assoc], h1, El.rds_append h2 K⟩
theorem El.rds_split : ∀ {xs ys : List α} {cs : List Value}, E.rds h (xs ++ ys) cs → ∃ c d, cs = c ++ d ∧ E.rds h xs c ∧ E.rds h ys d
  | [], _, cs, H => ⟨[], cs, rfl, rfl, H⟩
  | _ :: _, _, _, ⟨c, r, rfl, h1, h2⟩ => by
    obtain ⟨c', d, rfl, h3, h4⟩ := El.rds_split h2
    exact ⟨c ++ c', d, (List.append_assoc ..).symm, ⟨c, c', rfl, h1, h3⟩, h4⟩
theorem El.rds_get : ∀ {xs : List α} {cs : List Value} {i : Nat} {x : α}, E.rds h xs cs → xs[i]? = some x → ∃ c, E.rd h x c ∧ ∀ j u, c[j]? = some u → cs[i * E.sz + j]? = some u
  | [], _, _, _, _, hx => by simp at hx
  | y :: _, _, 0, x, ⟨c, r, rfl, h1, h2⟩, hx => by
    simp at hx; subst hx
    refine ⟨c, h1, fun j u hj => ?_⟩
    have := (List.getElem?_eq_some_iff.1 hj).1
    rw [Nat.zero_mul, Nat.zero_add, List.getElem?_append_left this, hj]
  | y :: ys, _, i + 1, x, ⟨c, r, rfl, h1, h2⟩, hx => by
    obtain ⟨c', h3, h4⟩ := El.rds_get h2 (show ys[i]? = some x by simpa using hx)
    refine ⟨c', h3, fun j u hj => ?_⟩
    have hl := E.len h1
    rw [List.getElem?_append_right (by rw [hl, Nat.add_mul]; omega), hl, show (i + 1) * E.sz + j - E.sz = i * E.sz + j by rw [Nat.add_mul]; omega]
    exact h4 j u hj
theorem El.rds_part {xs : List α} {cs : List Value} (k : Nat) (hk : k ≤ xs.length) (H : E.rds h xs cs) : E.rds h (xs.take k) (cs.take (k * E.sz)) ∧ E.rds h (xs.drop k) (cs.drop (k * E.sz)) := by
  obtain ⟨c, d, rfl, h1, h2⟩ := El.rds_split (xs := xs.take k) (ys := xs.drop k) (by rw [List.take_append_drop]; exact H)
  have hl : c.length = k * E.sz := by rw [El.rds_len h1, List.length_take]; congr 1; omega
  rw [← hl, List.take_left, List.drop_left]
  exact ⟨h1, h2⟩
theorem El.rds_set (hs : E.sz = 1) : ∀ {xs : List α} {cs : List Value} (i : Nat) {x : α} {u : Value}, E.rds h xs cs → E.rd h x [u] → E.rds h (xs.set i x) (cs.set i u)
  | [], cs, i, _, _, H, _ => by subst H; simp [El.rds]
  | y :: ys, _, i, x, u, ⟨c, r, rfl, h1, h2⟩, K => by
    have hl : c.length = 1 := by rw [E.len h1, hs]
    obtain ⟨v, rfl⟩ : ∃ v, c = [v] := by
      cases c with
      | nil => simp at hl
      | cons v t => cases t with
        | nil => exact ⟨v, rfl⟩
        | cons _ _ => simp at hl
    cases i with
    | zero => exact ⟨[u], r, rfl, K, h2⟩
    | succ i => exact ⟨[v], r.set i u, rfl, h1, El.rds_set hs i h2 K⟩
theorem El.rds_rep {x : α} {c : List Value} (H : E.rd h x c) : ∀ n : Nat, E.rds h (List.replicate n x) ((List.replicate n c).flatten)
  | 0 => by simp [El.rds]
  | n + 1 => by rw [List.replicate_succ, List.replicate_succ, List.flatten_cons]; exact ⟨_, _, rfl, H, El.rds_rep H n⟩

/-- A slice that reads as a list. -/
def El.sl (E : El α) (h : Frag) (v : Value) (xs : List α) : Prop := ∃ cs, E.rds h xs cs ∧ View h v xs.length cs ∧ ∃ base cap, v = .slice base xs.length cap ∧ xs.length ≤ cap ∧ cap ≤ maxLen

theorem El.sl_up {v : Value} {xs : List α} (hh : ∀ n o, h n = some o → h' n = some o) (H : E.sl h v xs) : E.sl h' v xs :=
  let ⟨cs, h1, h2, h3⟩ := H; ⟨cs, El.rds_up hh h1, h2.mono hh, h3⟩
theorem El.sl_nil (E : El α) (h : Frag) : E.sl h (.slice none 0 0) [] := ⟨[], rfl, View.nil h, none, 0, rfl, Nat.le_refl _, Nat.zero_le _⟩
end

/-- A slice that reads as a list, and never turns. -/
def HP.sl {α : Type} (E : El α) (v : Value) (xs : List α) : HP := ⟨fun e _ => E.sl e.h v xs, fun k H => El.sl_up k.h H⟩
/-- An owned slice. -/
def HP.rows {α : Type} (T : TypeId) (E : El α) (v : Value) (xs : List α) : HP :=
  ⟨fun e m => ∃ cs, E.rds e.h xs cs ∧ (HP.row T E.sz v xs.length cs).p e m, fun k ⟨cs, h1, h2⟩ => ⟨cs, El.rds_up k.h h1, (HP.row T E.sz v xs.length cs).up k h2⟩⟩
/-- A thing that lies at a place, and never turns. -/
def HP.elem {α : Type} (E : El α) (g off : Nat) (x : α) (cs : List Value) : HP :=
  ⟨fun e _ => E.rd e.h x cs ∧ ∃ c t fz, e.h g = some (.cells c t fz) ∧ ∀ (j : Nat) u, cs[j]? = some u → c[off + j]? = some u, fun k ⟨h1, c, t, fz, h2, h3⟩ => ⟨E.up k.h h1, c, t, fz, k.h _ _ h2, h3⟩⟩

section
variable {α : Type} {E : El α} {b e : Env} {L : List HP} {w : World} {T : TypeId} {v : Value} {xs : List α}

theorem Sat.rows_open (h : Sat e (HP.rows T E v xs :: L) w) : ∃ cs, E.rds e.h xs cs ∧ Sat e (HP.row T E.sz v xs.length cs :: L) w :=
  h.tell (Q := fun cs => HP.row T E.sz v xs.length cs) fun _ ⟨cs, h1, h2⟩ => ⟨cs, h1, h2⟩
theorem Sat.rows_shut {cs : List Value} (h : Sat e (HP.row T E.sz v xs.length cs :: L) w) (hr : E.rds e.h xs cs) : Sat e (HP.rows T E v xs :: L) w := h.head (fun _ hm => ⟨cs, hr, hm⟩)

theorem Sat.sl_mem (h : Sat e L w) (hm : HP.sl E v xs ∈ L) : E.sl e.h v xs := by
  obtain ⟨m, hp⟩ := h.mem_p hm
  exact hp
theorem St.sl_form (h : St b L w) (hm : HP.sl E v xs ∈ L) : ∃ base cap, v = .slice base xs.length cap ∧ xs.length ≤ cap ∧ cap ≤ maxLen := by
  obtain ⟨e, _, hs⟩ := h
  obtain ⟨_, _, _, h3⟩ := hs.sl_mem hm
  exact h3
theorem St.sl_base {base : Option Addr} {n cap : Nat} (h : St b L w) (hm : HP.sl E (.slice base n cap) xs ∈ L) (hn : 0 < xs.length) (hz : 0 < E.sz) : ∃ g o, base = some ⟨g, o, none⟩ := by
  obtain ⟨e, _, hs⟩ := h
  obtain ⟨cs, h1, ⟨base', cap', hv, h2⟩, _⟩ := hs.sl_mem hm
  simp only [Value.slice.injEq] at hv
  rcases h2 with rfl | ⟨g, o, _, _, _, h3, _⟩
  · have := El.rds_len h1
    have := Nat.mul_pos hn hz
    simp at *; omega
  · exact ⟨g, o, hv.1.trans h3⟩
/-- One of a slice's things, by itself. -/
theorem St.elem {g o n cap i : Nat} {x : α} (h : St b L w) (hm : HP.sl E (.slice (some ⟨g, o, none⟩) n cap) xs ∈ L) (hi : xs[i]? = some x) (hz : 0 < E.sz) : ∃ cs, St b (HP.elem E g (o + i * E.sz) x cs :: L) w := by
  obtain ⟨e, hl, hs⟩ := h
  obtain ⟨cs, h1, ⟨base', cap', hv, h2⟩, _⟩ := hs.sl_mem hm
  simp only [Value.slice.injEq] at hv
  obtain ⟨c, hc1, hc2⟩ := El.rds_get h1 hi
  rcases h2 with rfl | ⟨g', o', c', t, fz, h3, h4, h5⟩
  · have := E.len hc1
    cases c with
    | nil => simp at this; omega
    | cons u r => have := hc2 0 u rfl; simp at this
  · have := hv.1.trans h3
    simp only [Option.some.injEq, Addr.mk.injEq, and_true] at this
    obtain ⟨rfl, rfl⟩ := this
    exact ⟨c, e, hl, hs.lay (fun _ => ⟨hc1, c', t, fz, h4, fun j u hj => by rw [Nat.add_assoc]; exact h5 _ u (hc2 j u hj)⟩)⟩
theorem St.elem_cell {g off : Nat} {x : α} {cs : List Value} (h : St b L w) (hm : HP.elem E g off x cs ∈ L) (j : Nat) {u : Value} (hj : cs[j]? = some u) : w.cell? ⟨g, off + j, none⟩ = some u := by
  obtain ⟨e, _, hs⟩ := h
  obtain ⟨_, _, c, t, fz, h1, h2⟩ := hs.mem_p hm
  rw [cell_of (hs.fixed _ _ h1)]
  exact h2 j u hj
theorem St.elem_rd {g off : Nat} {x : α} {cs : List Value} (h : St b L w) (hm : HP.elem E g off x cs ∈ L) : ∃ e, b.le e ∧ Sat e L w ∧ E.rd e.h x cs := by
  obtain ⟨e, hl, hs⟩ := h
  obtain ⟨_, h1, _⟩ := hs.mem_p hm
  exact ⟨e, hl, hs, h1⟩

theorem St.of_base (h : St b L w) (H : E.sl b.h v xs) : St b (HP.sl E v xs :: L) w := h.lay fun _ hl _ _ => El.sl_up hl.h H
theorem St.sl_nil (h : St b L w) (E : El α) : St b (HP.sl E (.slice none 0 0) [] :: L) w := h.lay fun _ _ _ _ => El.sl_nil E _
theorem St.sl_copy (h : St b L w) (hm : HP.sl E v xs ∈ L) : St b (HP.sl E v xs :: L) w := h.lay fun _ _ hs _ => hs.sl_mem hm

theorem Sat.rows_form (h : Sat e (HP.rows T E v xs :: L) w) : ∃ base cap, v = .slice base xs.length cap ∧ xs.length ≤ cap ∧ cap ≤ maxLen := by
  obtain ⟨cs, _, hs⟩ := h.rows_open
  obtain ⟨_, ⟨hv, hn, _, _⟩ | ⟨g, cap, cur, hv, h1, h2, _⟩⟩ := hs.row_open
  · exact ⟨none, 0, by rw [hn]; exact hv, by omega, Nat.zero_le _⟩
  · exact ⟨_, cap, hv, h1, h2⟩
theorem St.rows_form (h : St b L w) (hm : HP.rows T E v xs ∈ L) : ∃ base cap, v = .slice base xs.length cap ∧ xs.length ≤ cap ∧ cap ≤ maxLen := by
  obtain ⟨e, _, hs⟩ := h
  obtain ⟨L', h'⟩ := hs.mem_front hm
  exact h'.rows_form
theorem St.rows_base {base : Option Addr} {n cap : Nat} (h : St b L w) (hm : HP.rows T E (.slice base n cap) xs ∈ L) (hn : 0 < xs.length) : ∃ g, base = some ⟨g, 0, none⟩ := by
  obtain ⟨e, _, hs⟩ := h
  obtain ⟨L', h'⟩ := hs.mem_front hm
  obtain ⟨cs, _, hs⟩ := h'.rows_open
  exact hs.row_base hn
theorem St.rows_cells {g n cap i : Nat} {x : α} (h : St b L w) (hm : HP.rows T E (.slice (some ⟨g, 0, none⟩) n cap) xs ∈ L) (hi : xs[i]? = some x) : ∃ e cs, b.le e ∧ Sat e L w ∧ E.rd e.h x cs ∧ ∀ j u, cs[j]? = some u → w.cell? ⟨g, i * E.sz + j, none⟩ = some u := by
  obtain ⟨e, hl, hs0⟩ := h
  obtain ⟨L', h'⟩ := hs0.mem_front hm
  obtain ⟨cs, hr, hs⟩ := h'.rows_open
  obtain ⟨c, h1, h2⟩ := El.rds_get hr hi
  refine ⟨e, c, hl, hs0, h1, fun j u hj => ?_⟩
  have hx := h2 j u hj
  have hlt := (List.getElem?_eq_some_iff.1 hx).1
  have hv : Value.slice (some ⟨g, 0, none⟩) n cap = .slice (some ⟨g, 0, none⟩) xs.length cap := by
    obtain ⟨b', c', hv, _⟩ := h'.rows_form
    simp only [Value.slice.injEq] at hv
    rw [hv.2.1]
  rw [hv] at hs
  rw [(hs.row_cell hlt).1]
  exact hx

/-- An owned slice becomes one that never turns. -/
theorem St.persist (h : St b (HP.rows T E v xs :: L) w) : St b (HP.sl E v xs :: L) w := by
  obtain ⟨e, hl, hs⟩ := h
  have hf := hs.rows_form
  obtain ⟨cs, hr, hs⟩ := hs.rows_open
  obtain ⟨e', hle, hv, hs'⟩ := hs.row_persist
  exact ⟨e', hl.trans hle, hs'.lay (fun _ => ⟨cs, El.rds_up hle.h hr, hv, hf⟩)⟩
theorem St.rows_nil (h : St b L w) (T : TypeId) (E : El α) : St b (HP.rows T E (.slice none 0 0) ([] : List α) :: L) w :=
  h.lift fun _ hs => Sat.rows_shut (cs := []) (hs.row_nil T E.sz) rfl
theorem St.rows_take {base : Option Addr} {n cap : Nat} (h : St b (HP.rows T E (.slice base n cap) xs :: L) w) (k : Nat) (hk : k ≤ xs.length) : St b (HP.rows T E (.slice base k cap) (xs.take k) :: L) w := by
  obtain ⟨e, hl, hs⟩ := h
  obtain ⟨cs, hr, hs⟩ := hs.rows_open
  have hkl : (xs.take k).length = k := by rw [List.length_take]; omega
  obtain ⟨hcl, ⟨hv, hn, hc, hs1⟩ | ⟨g, cap', cur, hv, h1, h2, h3, h4, hs1⟩⟩ := hs.row_open
  · simp only [Value.slice.injEq] at hv
    obtain ⟨rfl, -, rfl⟩ := hv
    have hk0 : k = 0 := by omega
    subst hk0
    have hx : xs = [] := List.eq_nil_of_length_eq_zero hn
    subst hx
    exact ⟨e, hl, Sat.rows_shut (cs := []) (hs1.row_nil T E.sz) rfl⟩
  · simp only [Value.slice.injEq] at hv
    obtain ⟨rfl, -, rfl⟩ := hv
    refine ⟨e, hl, Sat.rows_shut (cs := cs.take (k * E.sz)) ?_ (El.rds_part k hk hr).1⟩
    rw [hkl]
    refine hs1.row_shut (by omega) h2 h3 ?_
    rw [← h4, List.take_take, Nat.min_eq_left (Nat.mul_le_mul_right _ hk)]

/-- What an append takes from. -/
def Src (E : El α) (L : List HP) (w : World) (sv : Value) (ys : List α) : Prop := ∀ e, Sat e L w → ∃ cs, E.rds e.h ys cs ∧ View (World.frag w) sv ys.length cs
theorem Src.of_sl (hm : HP.sl E v xs ∈ L) : Src E L w v xs := fun _ hs => let ⟨cs, h1, h2, _⟩ := hs.sl_mem hm; ⟨cs, h1, h2.sat hs⟩
theorem Src.of_rows (hm : HP.rows T E v xs ∈ L) : Src E L w v xs := fun _ hs => by
  obtain ⟨L', h'⟩ := hs.mem_front hm
  obtain ⟨cs, hr, hs⟩ := h'.rows_open
  exact ⟨cs, hr, hs.row_view⟩
end

/-! ### codecs -/
/-- One cell that tells all. -/
def El.sc {α : Type} (f : α → Value) (ok : α → Prop) (h1 : ∀ x, (f x).oneCell' = true) : El α where
  sz := 1
  rd := fun _ x cs => cs = [f x] ∧ ok x
  len := fun H => by rw [H.1]; rfl
  one := fun H u hu => by rw [H.1] at hu; simp at hu; rw [hu]; exact h1 _
  up := fun _ H => H

abbrev Str := List UInt8
/-- A string's value. -/
abbrev sv (s : Str) : Value := .string ⟨s.toArray⟩
def strE : El Str := El.sc (fun s => .string ⟨s.toArray⟩) okStr (fun _ => rfl)
theorem sv_key {P : Program} {T : TypeId} (h : P.underlying T = some .string) : KeyOk P T sv okStr := str_key h
def intE : El Int := El.sc (fun n => .int .i64 n) (fun _ => True) (fun _ => rfl)
def boolE : El Bool := El.sc (fun n => .bool n) (fun _ => True) (fun _ => rfl)
def byteE : El UInt8 := El.sc B8 (fun _ => True) (fun _ => rfl)
/-- A slice in a cell. -/
def El.in {α : Type} (E : El α) : El (List α) where
  sz := 1
  rd := fun h xs cs => ∃ v, cs = [v] ∧ E.sl h v xs
  len := fun ⟨_, h, _⟩ => by rw [h]; rfl
  one := fun ⟨_, h, _, _, _, base, cap, hv, _⟩ u hu => by rw [h] at hu; simp at hu; rw [hu, hv]; rfl
  up := fun hh ⟨v, h, H⟩ => ⟨v, h, El.sl_up hh H⟩

section
variable {α : Type} {f : α → Value} {ok : α → Prop} {h1 : ∀ x, (f x).oneCell' = true} {b : Env} {L : List HP} {w : World} {T : TypeId} {xs : List α}
theorem St.sc_at {g o n cap i : Nat} (h : St b L w) (hm : HP.sl (El.sc f ok h1) (.slice (some ⟨g, o, none⟩) n cap) xs ∈ L) (hi : i < xs.length) : w.cell? ⟨g, o + i, none⟩ = some (f xs[i]) ∧ ok xs[i] := by
  obtain ⟨cs, h'⟩ := h.elem hm (List.getElem?_eq_getElem hi) Nat.one_pos
  obtain ⟨e, _, hs, hr, hok⟩ := h'.elem_rd List.mem_cons_self
  have := h'.elem_cell List.mem_cons_self 0 (u := f xs[i]) (by rw [hr]; rfl)
  have e1 : o + i * (El.sc f ok h1).sz + 0 = o + i := by show o + i * 1 + 0 = o + i; omega
  rw [e1] at this
  exact ⟨this, hok⟩
theorem St.sc_row_at {g n cap i : Nat} (h : St b L w) (hm : HP.rows T (El.sc f ok h1) (.slice (some ⟨g, 0, none⟩) n cap) xs ∈ L) (hi : i < xs.length) : w.cell? ⟨g, i, none⟩ = some (f xs[i]) ∧ ok xs[i] := by
  obtain ⟨e, cs, _, _, ⟨hr, hok⟩, hc⟩ := h.rows_cells hm (List.getElem?_eq_getElem hi)
  have := hc 0 (f xs[i]) (by rw [hr]; rfl)
  have e1 : i * (El.sc f ok h1).sz + 0 = i := by show i * 1 + 0 = i; omega
  rw [e1] at this
  exact ⟨this, hok⟩
theorem St.sc_row_set {g n cap i : Nat} (h : St b (HP.rows T (El.sc f ok h1) (.slice (some ⟨g, 0, none⟩) n cap) xs :: L) w) (hi : i < xs.length) : w.frozen? ⟨g, i, none⟩ = false ∧ ∀ y, ok y → St b (HP.rows T (El.sc f ok h1) (.slice (some ⟨g, 0, none⟩) n cap) (xs.set i y) :: L) (w.setCell ⟨g, i, none⟩ (f y)) := by
  obtain ⟨e, hl, hs⟩ := h
  have hf : n = xs.length := by obtain ⟨_, _, hv, _⟩ := hs.rows_form; simp only [Value.slice.injEq] at hv; exact hv.2.1
  subst hf
  obtain ⟨cs, hr, hs⟩ := hs.rows_open
  have hlen : i < cs.length := by rw [El.rds_len hr]; show i < xs.length * 1; omega
  obtain ⟨_, h2, h3⟩ := hs.row_cell hlen
  refine ⟨h2, fun y hy => ⟨e, hl, ?_⟩⟩
  have hx : (xs.set i y).length = xs.length := by simp
  refine Sat.rows_shut (cs := cs.set i (f y)) ?_ (El.rds_set rfl i hr ⟨rfl, hy⟩)
  rw [hx]; exact h3 (f y)
end

/-! what can be read: a slice that never turns, or an owned one -/
def Reads {α : Type} (E : El α) (L : List HP) (v : Value) (xs : List α) : Prop := HP.sl E v xs ∈ L ∨ ∃ T, HP.rows T E v xs ∈ L
section
variable {α : Type} {E : El α} {b : Env} {L : List HP} {w : World} {v : Value} {xs : List α} {A : HP}
theorem Reads.of_sl (h : HP.sl E v xs ∈ L) : Reads E L v xs := Or.inl h
theorem Reads.of_rows {T : TypeId} (h : HP.rows T E v xs ∈ L) : Reads E L v xs := Or.inr ⟨T, h⟩
theorem Reads.up (h : Reads E L v xs) : Reads E (A :: L) v xs := h.imp up1 (fun ⟨T, h⟩ => ⟨T, up1 h⟩)
theorem Reads.form (hr : Reads E L v xs) (h : St b L w) : ∃ base cap, v = .slice base xs.length cap ∧ xs.length ≤ cap ∧ cap ≤ maxLen := by
  rcases hr with hr | ⟨T, hr⟩
  · exact h.sl_form hr
  · exact h.rows_form hr
theorem Reads.base {bs : Option Addr} {n cap : Nat} (hr : Reads E L (.slice bs n cap) xs) (h : St b L w) (hn : 0 < xs.length) (hz : 0 < E.sz) : ∃ g o, bs = some ⟨g, o, none⟩ := by
  rcases hr with hr | ⟨T, hr⟩
  · exact h.sl_base hr hn hz
  · obtain ⟨g, hg⟩ := h.rows_base hr hn
    exact ⟨g, 0, hg⟩
theorem Reads.src (hr : Reads E L v xs) : Src E L w v xs := by
  rcases hr with hr | ⟨T, hr⟩
  · exact Src.of_sl hr
  · exact Src.of_rows hr
theorem Reads.sc_at {f : α → Value} {ok : α → Prop} {h1 : ∀ x, (f x).oneCell' = true} {g o n cap i : Nat} (hr : Reads (El.sc f ok h1) L (.slice (some ⟨g, o, none⟩) n cap) xs) (h : St b L w) (hi : i < xs.length) : w.cell? ⟨g, o + i, none⟩ = some (f xs[i]) ∧ ok xs[i] := by
  rcases hr with hr | ⟨T, hr⟩
  · exact h.sc_at hr hi
  · obtain ⟨g', hg⟩ := h.rows_base hr (by omega)
    simp only [Option.some.injEq, Addr.mk.injEq, and_true] at hg
    obtain ⟨rfl, rfl⟩ := hg
    rw [Nat.zero_add]
    exact h.sc_row_at hr hi
end
end Go.Proofs.YtcgnkloljfgiaaaGreatDoor
