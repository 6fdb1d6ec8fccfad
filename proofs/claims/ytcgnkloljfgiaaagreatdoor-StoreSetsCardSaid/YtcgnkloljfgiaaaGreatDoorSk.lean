/-
  A map's keys, sorted: the shelf's contract in the words of 'Sat'. No function of the program's own.
-/
import Derived.Test.YtcgnkloljfgiaaaGreatDoorOp
import Derived.Test.YtcgnkloljfgiaaaGreatDoorIt
namespace Go.Proofs.YtcgnkloljfgiaaaGreatDoor
open Go.RowKit Go.Maps Go.MapKept

theorem Sat.of_row {e : Env} {L : List HP} {w w' : World} {E : TypeId} {size : Nat} {v : Value} {n : Nat} {xs : List Value} (hs : Sat e L w) (hrow : w'.ownsRow w.heap.size E size v n xs) (hb : Below w.heap.size w w') : Sat e (HP.row E size v n xs :: L) w' := by
  obtain ⟨hl, ⟨rfl, rfl⟩ | ⟨g, cap, cur, rfl, h1, h2, h3, h4, h5, h6⟩⟩ := hrow
  · have := hs.below hb
    rw [show xs = [] from List.eq_nil_of_length_eq_zero (by simpa using hl)]
    exact this.row_nil E size
  · exact (hs.grow hb.os hb.output hb.tape hb.size hb.block h2 h1).row_shut h3 h4 h5 h6

def eInt (n : Int) : Value := .int .i64 n
def okInt (n : Int) : Prop := (Lit.int .i64 n).wf = true
def eStr (s : List UInt8) : Value := encStr s
def okStr (s : List UInt8) : Prop := s.length ≤ maxLen

theorem int_key {P : Program} {T : TypeId} (h : P.underlying T = some (.int .i64)) : KeyOk P T eInt okInt where
  keyed := int_keyed h
  reads a ha := ⟨_, keyOf_int_mk h ha⟩
  inj h := by simpa [eInt] using h

theorem str_key {P : Program} {T : TypeId} (h : P.underlying T = some .string) : KeyOk P T eStr okStr where
  keyed := string_keyed h
  reads a ha := ⟨_, Go.WideMaps.keyOf_string_mk h (s := ⟨a.toArray⟩) (by simpa [ByteArray.size, okStr] using ha)⟩
  inj h := encStr_inj h

def sortI (l : List Int) : List Int := l.mergeSort (fun x y => decide (x ≤ y))
def sortS (l : List (List UInt8)) : List (List UInt8) := l.mergeSort (fun x y => decide (x ≤ y))

section
variable {P : Program} {T : TypeId} {α : Type}
theorem keysI {kvs : List (Int × α)} (h : P.underlying T = some (.int .i64)) (hok : ∀ p ∈ kvs, okInt p.1) {ss : List Int} (hp : ss.Perm (intKeys (.map ((kvs.map (fun p => (((keyOf P T (eInt p.1)).getD (.bool true)), (.nil : DataW Unit)))).foldr DataW.insert [])))) : ss.mergeSort (fun x y => decide (x ≤ y)) = sortI (kvs.map (·.1)) := by
  refine mergeSort_of_perm_i (hp.trans ?_)
  refine ((WideShapes.sorted_perm _).map _).trans ?_
  rw [List.map_map]
  refine List.Perm.of_eq (List.map_congr_left (fun p hpm => ?_))
  simp only [Function.comp, eInt]
  rw [keyOf_int_mk h (hok p hpm)]
  rfl

theorem keysS {kvs : List (List UInt8 × α)} (h : P.underlying T = some .string) (hok : ∀ p ∈ kvs, okStr p.1) {ss : List (List UInt8)} (hp : ss.Perm (strKeys (.map ((kvs.map (fun p => (((keyOf P T (eStr p.1)).getD (.bool true)), (.nil : DataW Unit)))).foldr DataW.insert [])))) : ss.mergeSort (fun x y => decide (x ≤ y)) = sortS (kvs.map (·.1)) := by
  refine mergeSort_of_perm (hp.trans ?_)
  refine ((WideShapes.sorted_perm _).map _).trans ?_
  rw [List.map_map]
  refine List.Perm.of_eq (List.map_congr_left (fun p hpm => ?_))
  simp only [Function.comp, eStr, encStr]
  rw [Go.WideMaps.keyOf_string_mk h (s := ⟨p.1.toArray⟩) (by simpa [ByteArray.size, okStr] using hok p hpm)]
  simp [strOf]

theorem size_keys (l : List (Lit × DataW Unit)) : Maps.size (.map (l.foldr DataW.insert [])) = l.length := by
  have : ((l.foldr DataW.insert []) : List (Lit × DataW Unit)).length = l.length := (WideShapes.sorted_perm l).length_eq
  simpa [Maps.size] using this
end
end Go.Proofs.YtcgnkloljfgiaaaGreatDoor
