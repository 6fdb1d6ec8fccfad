/-
  No program in sight: trees of statements, and of raw numbers, as they lie in memory.
-/
import Derived.Test.YtcgnkloljfgiaaaGreatDoorSq
namespace Go.Proofs.YtcgnkloljfgiaaaGreatDoor
open Go.RowKit Go.Maps Go.MapKept

/-- Statements: a row of them; each has a kind, a place, a name, and two rows of its own. -/
inductive Stms where
  | nil
  | cons (kind pos : Int) (name : Str) (A B rest : Stms)

structure SRec where
  kind : Int
  pos : Int
  name : Str
  A : Stms
  B : Stms

def Stms.toL : Stms → List SRec
  | .nil => []
  | .cons k p n A B r => ⟨k, p, n, A, B⟩ :: r.toL
def Stms.ofL : List SRec → Stms
  | [] => .nil
  | s :: l => .cons s.kind s.pos s.name s.A s.B (Stms.ofL l)
theorem Stms.toL_ofL : ∀ l : List SRec, (Stms.ofL l).toL = l
  | [] => rfl
  | s :: l => by simp [Stms.ofL, Stms.toL, Stms.toL_ofL l]
theorem Stms.ofL_toL : ∀ l : Stms, Stms.ofL l.toL = l
  | .nil => rfl
  | .cons k p n A B r => by simp [Stms.ofL, Stms.toL, Stms.ofL_toL r]
def Stms.size : Stms → Nat
  | .nil => 0
  | .cons _ _ _ A B r => 1 + A.size + B.size + r.size
theorem Stms.size_mem : ∀ {l : Stms} {s : SRec}, s ∈ l.toL → s.A.size < l.size ∧ s.B.size < l.size
  | .nil, _, h => by simp [Stms.toL] at h
  | .cons k p n A B r, s, h => by
    rcases List.mem_cons.1 h with rfl | h
    · simp only [Stms.size]; omega
    · have := Stms.size_mem h; simp only [Stms.size]; omega

/-- A slice's own part: where its cells are, its length, its capacity. -/
def SlV (h : Frag) (v : Value) (n : Nat) (cs : List Value) : Prop := View h v n cs ∧ ∃ base cap, v = .slice base n cap ∧ n ≤ cap ∧ cap ≤ maxLen
theorem SlV.up {h h' : Frag} {v : Value} {n : Nat} {cs : List Value} (hh : ∀ n o, h n = some o → h' n = some o) (H : SlV h v n cs) : SlV h' v n cs := ⟨H.1.mono hh, H.2⟩

def Stms.rd (h : Frag) : Stms → List Value → Prop
  | .nil, cs => cs = []
  | .cons k p n A B r, cs => ∃ va vb cs', cs = [.int .i64 k, .int .i64 p, sv n, va, vb] ++ cs' ∧ okStr n ∧ (∃ ca, Stms.rd h A ca ∧ SlV h va A.toL.length ca) ∧ (∃ cb, Stms.rd h B cb ∧ SlV h vb B.toL.length cb) ∧ Stms.rd h r cs'
def Stms.sl (h : Frag) (v : Value) (l : Stms) : Prop := ∃ cs, Stms.rd h l cs ∧ SlV h v l.toL.length cs

theorem Stms.rd_up {h h' : Frag} (hh : ∀ n o, h n = some o → h' n = some o) : ∀ (l : Stms) {cs : List Value}, Stms.rd h l cs → Stms.rd h' l cs
  | .nil, _, H => H
  | .cons _ _ _ A B r, _, ⟨va, vb, cs', e, ok, ⟨ca, h1, h2⟩, ⟨cb, h3, h4⟩, h5⟩ =>
    ⟨va, vb, cs', e, ok, ⟨ca, Stms.rd_up hh A h1, h2.up hh⟩, ⟨cb, Stms.rd_up hh B h3, h4.up hh⟩, Stms.rd_up hh r h5⟩
theorem Stms.sl_up {h h' : Frag} (hh : ∀ n o, h n = some o → h' n = some o) {l : Stms} {v : Value} (H : Stms.sl h v l) : Stms.sl h' v l :=
  let ⟨cs, h1, h2⟩ := H; ⟨cs, Stms.rd_up hh l h1, h2.up hh⟩

theorem SlV.one {h : Frag} {v : Value} {n : Nat} {cs : List Value} (H : SlV h v n cs) : v.oneCell' = true := by
  obtain ⟨_, _, _, rfl, _⟩ := H; rfl

def stmtE : El SRec where
  sz := 5
  rd := fun h s cs => ∃ va vb, cs = [.int .i64 s.kind, .int .i64 s.pos, sv s.name, va, vb] ∧ okStr s.name ∧ Stms.sl h va s.A ∧ Stms.sl h vb s.B
  len := fun ⟨_, _, h, _⟩ => by rw [h]; rfl
  one := fun ⟨va, vb, h, _, ⟨_, _, h1⟩, ⟨_, _, h2⟩⟩ u hu => by
    rw [h] at hu
    simp only [List.mem_cons, List.not_mem_nil, or_false] at hu
    rcases hu with rfl | rfl | rfl | rfl | rfl
    · rfl
    · rfl
    · rfl
    · exact h1.one
    · exact h2.one
  up := fun hh ⟨va, vb, h, ok, h1, h2⟩ => ⟨va, vb, h, ok, Stms.sl_up hh h1, Stms.sl_up hh h2⟩

theorem Stms.rd_iff {h : Frag} : ∀ (l : Stms) {cs : List Value}, Stms.rd h l cs ↔ stmtE.rds h l.toL cs
  | .nil, _ => Iff.rfl
  | .cons k p n A B r, cs => by
    constructor
    · rintro ⟨va, vb, cs', e, ok, h1, h2, h3⟩
      exact ⟨_, cs', e, ⟨va, vb, rfl, ok, h1, h2⟩, (Stms.rd_iff r).1 h3⟩
    · rintro ⟨c, cs', e, ⟨va, vb, rfl, ok, h1, h2⟩, h3⟩
      exact ⟨va, vb, cs', e, ok, h1, h2, (Stms.rd_iff r).2 h3⟩
theorem Stms.sl_iff {h : Frag} {v : Value} {l : Stms} : Stms.sl h v l ↔ stmtE.sl h v l.toL := by
  constructor
  · rintro ⟨cs, h1, h2, h3⟩; exact ⟨cs, (Stms.rd_iff l).1 h1, h2, h3⟩
  · rintro ⟨cs, h1, h2, h3⟩; exact ⟨cs, (Stms.rd_iff l).2 h1, h2, h3⟩

section
variable {b : Env} {L : List HP} {w : World}
/-- A statement taken apart: its cells, its blocks. -/
theorem St.stmt {g off : Nat} {s : SRec} {cs : List Value} (h : St b (HP.elem stmtE g off s cs :: L) w) : ∃ va vb, okStr s.name ∧ cs = [.int .i64 s.kind, .int .i64 s.pos, sv s.name, va, vb] ∧ St b (HP.sl stmtE va s.A.toL :: HP.sl stmtE vb s.B.toL :: HP.elem stmtE g off s cs :: L) w := by
  obtain ⟨e, hl, hs⟩ := h
  obtain ⟨_, ⟨va, vb, hc, ok, h1, h2⟩, _⟩ := hs.mem_p List.mem_cons_self
  exact ⟨va, vb, ok, hc, e, hl, (hs.lay (P := HP.sl stmtE vb s.B.toL) (fun _ => Stms.sl_iff.1 h2)).lay (fun _ => Stms.sl_iff.1 h1)⟩
end

/-- Raw statements. -/
inductive Raws where
  | nil
  | cons (kind n : Int) (A B rest : Raws)
structure RRec where
  kind : Int
  n : Int
  A : Raws
  B : Raws
def Raws.toL : Raws → List RRec
  | .nil => []
  | .cons k n A B r => ⟨k, n, A, B⟩ :: r.toL
def Raws.ofL : List RRec → Raws
  | [] => .nil
  | s :: l => .cons s.kind s.n s.A s.B (Raws.ofL l)
theorem Raws.toL_ofL : ∀ l : List RRec, (Raws.ofL l).toL = l
  | [] => rfl
  | s :: l => by simp [Raws.ofL, Raws.toL, Raws.toL_ofL l]
theorem Raws.ofL_toL : ∀ l : Raws, Raws.ofL l.toL = l
  | .nil => rfl
  | .cons k n A B r => by simp [Raws.ofL, Raws.toL, Raws.ofL_toL r]
def Raws.size : Raws → Nat
  | .nil => 0
  | .cons _ _ A B r => 1 + A.size + B.size + r.size
theorem Raws.size_mem : ∀ {l : Raws} {s : RRec}, s ∈ l.toL → s.A.size < l.size ∧ s.B.size < l.size
  | .nil, _, h => by simp [Raws.toL] at h
  | .cons k n A B r, s, h => by
    rcases List.mem_cons.1 h with rfl | h
    · simp only [Raws.size]; omega
    · have := Raws.size_mem h; simp only [Raws.size]; omega
def okI (n : Int) : Prop := -9223372036854775808 ≤ n ∧ n ≤ 9223372036854775807
def Raws.rd (h : Frag) : Raws → List Value → Prop
  | .nil, cs => cs = []
  | .cons k n A B r, cs => ∃ va vb cs', cs = [.int .i64 k, .int .i64 n, va, vb] ++ cs' ∧ (okI k ∧ okI n) ∧ (∃ ca, Raws.rd h A ca ∧ SlV h va A.toL.length ca) ∧ (∃ cb, Raws.rd h B cb ∧ SlV h vb B.toL.length cb) ∧ Raws.rd h r cs'
def Raws.sl (h : Frag) (v : Value) (l : Raws) : Prop := ∃ cs, Raws.rd h l cs ∧ SlV h v l.toL.length cs
theorem Raws.rd_up {h h' : Frag} (hh : ∀ n o, h n = some o → h' n = some o) : ∀ (l : Raws) {cs : List Value}, Raws.rd h l cs → Raws.rd h' l cs
  | .nil, _, H => H
  | .cons _ _ A B r, _, ⟨va, vb, cs', e, ok, ⟨ca, h1, h2⟩, ⟨cb, h3, h4⟩, h5⟩ =>
    ⟨va, vb, cs', e, ok, ⟨ca, Raws.rd_up hh A h1, h2.up hh⟩, ⟨cb, Raws.rd_up hh B h3, h4.up hh⟩, Raws.rd_up hh r h5⟩
theorem Raws.sl_up {h h' : Frag} (hh : ∀ n o, h n = some o → h' n = some o) {l : Raws} {v : Value} (H : Raws.sl h v l) : Raws.sl h' v l :=
  let ⟨cs, h1, h2⟩ := H; ⟨cs, Raws.rd_up hh l h1, h2.up hh⟩
def rawE : El RRec where
  sz := 4
  rd := fun h s cs => ∃ va vb, cs = [.int .i64 s.kind, .int .i64 s.n, va, vb] ∧ (okI s.kind ∧ okI s.n) ∧ Raws.sl h va s.A ∧ Raws.sl h vb s.B
  len := fun ⟨_, _, h, _⟩ => by rw [h]; rfl
  one := fun ⟨va, vb, h, _, ⟨_, _, h1⟩, ⟨_, _, h2⟩⟩ u hu => by
    rw [h] at hu
    simp only [List.mem_cons, List.not_mem_nil, or_false] at hu
    rcases hu with rfl | rfl | rfl | rfl
    · rfl
    · rfl
    · exact h1.one
    · exact h2.one
  up := fun hh ⟨va, vb, h, ok, h1, h2⟩ => ⟨va, vb, h, ok, Raws.sl_up hh h1, Raws.sl_up hh h2⟩
theorem Raws.rd_iff {h : Frag} : ∀ (l : Raws) {cs : List Value}, Raws.rd h l cs ↔ rawE.rds h l.toL cs
  | .nil, _ => Iff.rfl
  | .cons k n A B r, cs => by
    constructor
    · rintro ⟨va, vb, cs', e, ok, h1, h2, h3⟩
      exact ⟨_, cs', e, ⟨va, vb, rfl, ok, h1, h2⟩, (Raws.rd_iff r).1 h3⟩
    · rintro ⟨c, cs', e, ⟨va, vb, rfl, ok, h1, h2⟩, h3⟩
      exact ⟨va, vb, cs', e, ok, h1, h2, (Raws.rd_iff r).2 h3⟩
theorem Raws.sl_iff {h : Frag} {v : Value} {l : Raws} : Raws.sl h v l ↔ rawE.sl h v l.toL := by
  constructor
  · rintro ⟨cs, h1, h2, h3⟩; exact ⟨cs, (Raws.rd_iff l).1 h1, h2, h3⟩
  · rintro ⟨cs, h1, h2, h3⟩; exact ⟨cs, (Raws.rd_iff l).2 h1, h2, h3⟩
section
variable {b : Env} {L : List HP} {w : World}
theorem St.raw {g off : Nat} {s : RRec} {cs : List Value} (h : St b (HP.elem rawE g off s cs :: L) w) : ∃ va vb, (okI s.kind ∧ okI s.n) ∧ cs = [.int .i64 s.kind, .int .i64 s.n, va, vb] ∧ St b (HP.sl rawE va s.A.toL :: HP.sl rawE vb s.B.toL :: HP.elem rawE g off s cs :: L) w := by
  obtain ⟨e, hl, hs⟩ := h
  obtain ⟨_, ⟨va, vb, hc, ok, h1, h2⟩, _⟩ := hs.mem_p List.mem_cons_self
  exact ⟨va, vb, ok, hc, e, hl, (hs.lay (P := HP.sl rawE vb s.B.toL) (fun _ => Raws.sl_iff.1 h2)).lay (fun _ => Raws.sl_iff.1 h1)⟩
end
/-- A function; a declaration; a pair of names. -/
structure FRec where
  name : Str
  pos : Int
  body : Stms
def funcE : El FRec where
  sz := 3
  rd := fun h s cs => ∃ v, cs = [sv s.name, .int .i64 s.pos, v] ∧ okStr s.name ∧ Stms.sl h v s.body
  len := fun ⟨_, h, _⟩ => by rw [h]; rfl
  one := fun ⟨v, h, _, ⟨_, _, h1⟩⟩ u hu => by
    rw [h] at hu
    simp only [List.mem_cons, List.not_mem_nil, or_false] at hu
    rcases hu with rfl | rfl | rfl
    · rfl
    · rfl
    · exact h1.one
  up := fun hh ⟨v, h, ok, h1⟩ => ⟨v, h, ok, Stms.sl_up hh h1⟩
structure DRec where
  name : Str
  pos : Int
def declE : El DRec where
  sz := 2
  rd := fun _ s cs => cs = [sv s.name, .int .i64 s.pos] ∧ okStr s.name
  len := fun ⟨h, _⟩ => by rw [h]; rfl
  one := fun ⟨h, _⟩ u hu => by
    rw [h] at hu
    simp only [List.mem_cons, List.not_mem_nil, or_false] at hu
    rcases hu with rfl | rfl <;> rfl
  up := fun _ h => h
def pairE : El (Str × Str) where
  sz := 2
  rd := fun _ s cs => cs = [sv s.1, sv s.2] ∧ okStr s.1 ∧ okStr s.2
  len := fun ⟨h, _⟩ => by rw [h]; rfl
  one := fun ⟨h, _⟩ u hu => by
    rw [h] at hu
    simp only [List.mem_cons, List.not_mem_nil, or_false] at hu
    rcases hu with rfl | rfl <;> rfl
  up := fun _ h => h
section
variable {b : Env} {L : List HP} {w : World}
theorem St.func {g off : Nat} {s : FRec} {cs : List Value} (h : St b (HP.elem funcE g off s cs :: L) w) : ∃ v, okStr s.name ∧ cs = [sv s.name, .int .i64 s.pos, v] ∧ St b (HP.sl stmtE v s.body.toL :: HP.elem funcE g off s cs :: L) w := by
  obtain ⟨e, hl, hs⟩ := h
  obtain ⟨_, ⟨v, hc, ok, h1⟩, _⟩ := hs.mem_p List.mem_cons_self
  exact ⟨v, ok, hc, e, hl, hs.lay (fun _ => Stms.sl_iff.1 h1)⟩
end
end Go.Proofs.YtcgnkloljfgiaaaGreatDoor
