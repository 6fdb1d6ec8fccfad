/-
  No program in sight: steps of deadboltlaw4 as they lie in memory: files, numbers, a kind, a fuse, bytes.
-/
import Derived.Test.YtcgnkloljfgiaaaGreatDoorTr
namespace Go.Proofs.YtcgnkloljfgiaaaGreatDoor
open Go.RowKit Go.Maps Go.MapKept

structure StepR where
  files : List (Str × Str)
  ns : List Int
  kind : Int
  fuse : Int
  pick : List UInt8
instance : Inhabited StepR := ⟨⟨[], [], 0, 0, []⟩⟩
def stepE : El StepR where
  sz := 5
  rd := fun h s cs => ∃ va vb vc, cs = [va, vb, .int .i64 s.kind, .int .i64 s.fuse, vc] ∧ (okI s.kind ∧ okI s.fuse ∧ ∀ x ∈ s.ns, okI x) ∧ pairE.sl h va s.files ∧ intE.sl h vb s.ns ∧ byteE.sl h vc s.pick
  len := fun ⟨_, _, _, h, _⟩ => by rw [h]; rfl
  one := fun ⟨va, vb, vc, h, _, ⟨_, _, _, _, _, h1, _⟩, ⟨_, _, _, _, _, h2, _⟩, ⟨_, _, _, _, _, h3, _⟩⟩ u hu => by
    rw [h] at hu
    simp only [List.mem_cons, List.not_mem_nil, or_false] at hu
    rcases hu with rfl | rfl | rfl | rfl | rfl
    · rw [h1]; rfl
    · rw [h2]; rfl
    · rfl
    · rfl
    · rw [h3]; rfl
  up := fun hh ⟨va, vb, vc, h, ok, h1, h2, h3⟩ => ⟨va, vb, vc, h, ok, El.sl_up hh h1, El.sl_up hh h2, El.sl_up hh h3⟩
section
variable {b : Env} {L : List HP} {w : World}
/-- A step taken apart. -/
theorem St.step {g off : Nat} {s : StepR} {cs : List Value} (h : St b (HP.elem stepE g off s cs :: L) w) : ∃ va vb vc, (okI s.kind ∧ okI s.fuse ∧ ∀ x ∈ s.ns, okI x) ∧ cs = [va, vb, .int .i64 s.kind, .int .i64 s.fuse, vc] ∧
    St b (HP.sl pairE va s.files :: HP.sl intE vb s.ns :: HP.sl byteE vc s.pick :: HP.elem stepE g off s cs :: L) w := by
  obtain ⟨e, hl, hs⟩ := h
  obtain ⟨_, ⟨va, vb, vc, hc, ok, h1, h2, h3⟩, _⟩ := hs.mem_p List.mem_cons_self
  exact ⟨va, vb, vc, ok, hc, e, hl, ((hs.lay (P := HP.sl byteE vc s.pick) (fun _ => h3)).lay (P := HP.sl intE vb s.ns) (fun _ => h2)).lay (fun _ => h1)⟩
end
end Go.Proofs.YtcgnkloljfgiaaaGreatDoor
