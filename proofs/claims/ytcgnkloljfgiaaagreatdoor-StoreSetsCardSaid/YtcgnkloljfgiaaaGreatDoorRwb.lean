/-
  From arguments, read as data: bytes, rows of bytes.
-/
import Derived.Test.YtcgnkloljfgiaaaGreatDoorRxw
namespace Go.Proofs.YtcgnkloljfgiaaaGreatDoor
open Go.RowKit Go.ChangeShapes Go.WideShapes Go.ChangeAt
set_option maxRecDepth 100000 in
theorem trod_u8s {H : Type} {enc : TypeId × Value → H} {W : World} {base : Nat} {spare : Nat → Bool} {held : Bool} {fuel : Nat} {cs : List Value} {x : DataW H × List MemPlace} (h : DataW.trod enc Tryz.prog W base spare held fuel 37 cs = some x) :
    ∃ (v : Value) (xs : List UInt8), cs = [v] ∧ byteE.sl (World.frag W) v xs := by
  refine open_sl byteE Tryz.underlying37 (by kernel_rfl) (by decide) (fun m l y _ hl hlen => ?_) h
  match l, hlen with
  | [a], _ =>
    obtain ⟨n, e0, _, w0⟩ := DataW.trod_int Tryz.underlying5 hl
    simp only [List.cons.injEq, and_true] at e0
    subst e0
    exact ⟨UInt8.ofNat n.toNat, by rw [B8_of w0], trivial⟩
set_option maxRecDepth 100000 in
theorem open_u8s {H : Type} {enc : TypeId × Value → H} {W : World} {base : Nat} {v : Value} {d : DataW H} {p : List MemPlace} (hval : Value.okWide Tryz.prog W .any base 37 v)
    (h : DataW.Trod enc Tryz.prog W 0 (fun _ => true) true 37 v d p) : ∃ ns : List UInt8, byteE.sl (Env.all W).h v ns := by
  obtain ⟨sa, sl, sc, rfl⟩ := okWide_slice Tryz.underlying37 hval
  obtain ⟨fuel, hf⟩ := h
  obtain ⟨v', xs, hv, hx⟩ := trod_u8s hf
  have hv' : Value.slice sa sl sc = v' := by
    have : (Value.slice sa sl sc).cells.toList = [Value.slice sa sl sc] := rfl
    rw [this] at hv; simpa using hv
  rw [hv']
  exact ⟨xs, hx⟩
set_option maxRecDepth 100000 in
theorem open_rowsb {H : Type} {enc : TypeId × Value → H} {W : World} {base : Nat} {v : Value} {d : DataW H} {p : List MemPlace} (hval : Value.okWide Tryz.prog W .any base 68 v)
    (h : DataW.Trod enc Tryz.prog W 0 (fun _ => true) true 68 v d p) : ∃ ns : List (List UInt8), byteE.in.sl (Env.all W).h v ns := by
  obtain ⟨sa, sl, sc, rfl⟩ := okWide_slice Tryz.underlying68 hval
  obtain ⟨fuel, hf⟩ := h
  obtain ⟨v', xs, hv, hx⟩ := open_sl byteE.in Tryz.underlying68 (by kernel_rfl) (by decide) (fun m l y _ hl _ => by
    obtain ⟨v, xs, rfl, hv⟩ := trod_u8s hl
    exact ⟨xs, v, rfl, hv⟩) hf
  have hv' : Value.slice sa sl sc = v' := by
    have : (Value.slice sa sl sc).cells.toList = [Value.slice sa sl sc] := rfl
    rw [this] at hv; simpa using hv
  rw [hv']
  exact ⟨xs, hx⟩
end Go.Proofs.YtcgnkloljfgiaaaGreatDoor
