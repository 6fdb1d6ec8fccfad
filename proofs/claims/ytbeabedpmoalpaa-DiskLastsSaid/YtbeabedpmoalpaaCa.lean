/-
  The laws' calls: plain values, and how they lie in memory.
-/
import Derived.Test.YtbeabedpmoalpaaOp2
namespace Go.Proofs.Ytbeabedpmoalpaa
open Go.RowKit

structure CallR where
  kind : Int
  pos : Int
  n : Int
  dv : Value
  data : List UInt8
instance : Inhabited CallR := ⟨⟨0, 0, 0, .slice none 0 0, []⟩⟩

def CallR.cells (c : CallR) : List Value := [.int .i64 c.kind, .int .i64 c.pos, .int .i64 c.n, c.dv]

structure CallR.Ok (h : Frag) (c : CallR) : Prop where
  kind : -9223372036854775808 ≤ c.kind ∧ c.kind ≤ 9223372036854775807
  pos : -9223372036854775808 ≤ c.pos ∧ c.pos ≤ 9223372036854775807
  n : -9223372036854775808 ≤ c.n ∧ c.n ≤ 9223372036854775807
  view : View h c.dv c.data.length (c.data.map B8)
  most : c.data.length ≤ maxLen

structure CallsV (h : Frag) (v : Value) (cs : List CallR) : Prop where
  view : View h v cs.length (cs.flatMap CallR.cells)
  most : cs.length ≤ maxLen
  each : ∀ c ∈ cs, c.Ok h

theorem call_cell : ∀ (cs : List CallR) (k j : Nat) (hk : k < cs.length) (hj : j < 4), (cs.flatMap CallR.cells)[k * 4 + j]? = (cs[k]).cells[j]?
  | c :: cs, 0, j, _, hj => by
    rw [List.flatMap_cons, List.getElem?_append_left (by simp [CallR.cells]; omega)]; simp
  | c :: cs, k + 1, j, hk, hj => by
    rw [List.flatMap_cons, List.getElem?_append_right (by simp [CallR.cells]; omega)]
    have := call_cell cs k j (by simpa using hk) hj
    simp only [CallR.cells, List.length_cons, List.length_nil] at this ⊢
    rw [show (k + 1) * 4 + j - (0 + 1 + 1 + 1 + 1) = k * 4 + j by omega]
    simpa using this

/-- Where they lie. -/
theorem CallsV.cells {w : World} {v : Value} {cs : List CallR} (H : CallsV (World.frag w) v cs) {k : Nat} (hk : k < cs.length) :
    ∃ b o cap, v = .slice (some ⟨b, o, none⟩) cs.length cap ∧ w.cell? ⟨b, o + k * 4, none⟩ = some (.int .i64 cs[k].kind) ∧ w.cell? ⟨b, o + k * 4 + 1, none⟩ = some (.int .i64 cs[k].pos) ∧
      w.cell? ⟨b, o + k * 4 + 2, none⟩ = some (.int .i64 cs[k].n) ∧ w.cell? ⟨b, o + k * 4 + 3, none⟩ = some cs[k].dv := by
  have hne : cs.flatMap CallR.cells ≠ [] := by
    intro hx
    have := call_cell cs k 0 hk (by omega)
    rw [hx] at this; simp [CallR.cells] at this
  obtain ⟨b, o, cap, hv, hc⟩ := H.view.cells hne
  refine ⟨b, o, cap, hv, ?_, ?_, ?_, ?_⟩
  · have := hc (k * 4 + 0) _ (call_cell cs k 0 hk (by omega)); simpa [Nat.add_assoc] using this
  · have := hc (k * 4 + 1) _ (call_cell cs k 1 hk (by omega)); simpa [Nat.add_assoc] using this
  · have := hc (k * 4 + 2) _ (call_cell cs k 2 hk (by omega)); simpa [Nat.add_assoc] using this
  · have := hc (k * 4 + 3) _ (call_cell cs k 3 hk (by omega)); simpa [Nat.add_assoc] using this

theorem CallsV.sat {e : Env} {L : List HP} {w : World} {v : Value} {cs : List CallR} (H : CallsV e.h v cs) (h : Sat e L w) : CallsV (World.frag w) v cs :=
  ⟨H.view.sat h, H.most, fun c hc => let k := H.each c hc; ⟨k.kind, k.pos, k.n, k.view.sat h, k.most⟩⟩
end Go.Proofs.Ytbeabedpmoalpaa
