/-
  No program in sight: one-cell variables that are made and stored to; a map's store as an equation; what a map's keys are while it is ranged over.
-/
import Derived.Test.YtcgnkloljfgiaaaGreatDoorSm
namespace Go.Proofs.YtcgnkloljfgiaaaGreatDoor
open Go.RowKit Go.Maps Go.MapKept

section
variable {P : Program} {ops : Array Oper} {rest : List Oper} {o : Oper} {a : Act} {w : World} {Q : Exit → Act → World → Prop} {b : Env} {L : List HP}
theorem wpList_alloc1_st (hg : o.guard = none) (T : TypeId) (ho : o.op = .alloc T) {z : Value} (hz : (zeroValue T).run P w = .ok z w) (hc : z.cells = #[z]) (hs : St b L w)
    (h : ∀ g w', St b (HP.blk g (.cells #[z] T) :: L) w' → wpList P ops Q rest (a.put o.dst (.pointer (some ⟨g, 0, none⟩))) w') : wpList P ops Q (o :: rest) a w := by
  obtain ⟨e, hle, hs⟩ := hs
  refine wpList_alloc_sl hg T ho hz hs (fun g w' h' => h g w' ⟨e, hle, ?_⟩)
  rw [hc] at h'; exact h'
theorem St.store1 {g : Nat} {u v : Value} {U : TypeId} (hs : St b (HP.blk g (.cells #[u] U) :: L) w) (h1 : v.oneCell' = true) : (Go.storeCells ⟨g, 0, none⟩ [v]).run P w = .ok () (w.setRow g #[v]) ∧ St b (HP.blk g (.cells #[v] U) :: L) (w.setRow g #[v]) := by
  obtain ⟨e, hle, hs⟩ := hs
  obtain ⟨h2, h3⟩ := hs.storeCells (P := P) (cs := [v]) (off := 0) (by simp) (by simpa using h1)
  have hl : laid #[u] 0 [v] = #[v] := laid_whole (cs := [v]) (by simp)
  rw [hl] at h2 h3
  exact ⟨h2, e, hle, h3⟩
theorem wpList_store1_st (hg : o.guard = none) (T : TypeId) (x y : Operand) (ho : o.op = .store T x y) (hi : (P.info? T).map (·.size) = some 1) {g : Nat} {u v : Value} {U : TypeId} (hx : a.eval x = .pointer (some ⟨g, 0, none⟩)) (hy : a.eval y = v) (hvc : v.cells = #[v]) (h1 : v.oneCell' = true)
    (hs : St b (HP.blk g (.cells #[u] U) :: L) w) (h : ∀ w', St b (HP.blk g (.cells #[v] U) :: L) w' → wpList P ops Q rest (a.put o.dst undef) w') : wpList P ops Q (o :: rest) a w := by
  obtain ⟨hst, hs'⟩ := hs.store1 (P := P) h1
  refine wpList_unit hg ?_ (h _ hs')
  cases hq : P.info? T with
  | none => simp [hq] at hi
  | some i =>
    have hsz : i.size = 1 := by simpa [hq] using hi
    simp [execOp, ho, hx, hy, Instr.storeAt, Instr.sureAddr, storeVar, hvc, sizeOf, typeInfo, hq, hsz, hst]

variable {κ β : Type} {ek : κ → Value} {ok : κ → Prop} {ev : β → Value} {m : Nat} {kvs : List (κ × β)}
theorem St.map_put [DecidableEq κ] {k el t : TypeId} (K : KeyOk P k ek ok) (hs : St b (HP.map ek ok ev m kvs :: L) w) (ht : P.underlying t = some (.map k el)) (q : κ) (hq : ok q) (x : β) :
    ∃ w', (Instr.mapUpdate t (.map (some m)) (ek q) (ev x)).run P w = .ok () w' ∧ St b (HP.map ek ok ev m (kput kvs q x) :: L) w' := by
  obtain ⟨e, hle, hs⟩ := hs
  obtain ⟨w', h1, h2⟩ := run_mapUpdate K hs ht q hq x
  exact ⟨w', h1, e, hle, h2⟩
theorem St.rng_ok {r : Nat} {left : List (κ × β)} {last : Option (κ × β)} (hs : St b (HP.rng ek ok ev m r kvs left last :: L) w) : ∀ p ∈ kvs, ok p.1 := by
  obtain ⟨e, hle, hs⟩ := hs
  obtain ⟨es, clock, seen, h1, h2, h3, h4, h5, hs⟩ := hs.rng_open
  exact h3
end
end Go.Proofs.YtcgnkloljfgiaaaGreatDoor
