/-
  From a row's arguments, read as data, to views of memory.
-/
import Derived.Test.YtmebmgbjpbapjaaRows
import Derived.Test.YtmebmgbjpbapjaaOp
import Derived.ProofKit
import Derived.OpenShut
import Derived.ShutString
import Derived.ChangeOld
import Derived.SizedLaws
namespace Go.Proofs.Ytmebmgbjpbapjaa
open Go.RowKit Go.ChangeShapes Go.WideShapes Go.ChangeAt

theorem own : ownKnob Try.prog.godebug = none := by kernel_rfl
theorem laidOut : laidOutB Try.prog = true := by kernel_rfl

theorem view_of_cells {w : World} {x : Addr} {n cap : Nat} {xs : List Value} (h : ∀ j u, xs[j]? = some u → w.cell? (x.add j) = some u) : View (World.frag w) (.slice (some x) n cap) n xs := by
  refine ⟨some x, cap, rfl, ?_⟩
  cases xs with
  | nil => exact Or.inl rfl
  | cons a r =>
    right
    have h0 := h 0 a rfl
    obtain ⟨b, o, sp⟩ := x
    have hs : sp = none := by
      cases sp with
      | none => rfl
      | some q =>
        simp only [Addr.add, if_true, World.cell?] at h0
        split at h0
        · simp at h0
        · cases h0
    subst hs
    simp only [Addr.add, if_true] at h0
    unfold World.cell? at h0
    split at h0
    · rename_i c t fz hb
      refine ⟨b, o, c, t, fz, rfl, hb, fun j u hj => ?_⟩
      have := h j u hj
      rw [Addr.add_lit, cell_of hb] at this
      exact this
    · cases h0

theorem wf_u8 {n : Int} (h : (Lit.int .u8 n).wf = true) : 0 ≤ n ∧ n < 256 := by
  simp [Lit.wf, IntKind.min, IntKind.max, IntKind.bits, IntKind.signed] at h
  omega

theorem wf_i64' {n : Int} (h : (Lit.int .i64 n).wf = true) : -9223372036854775808 ≤ n ∧ n ≤ 9223372036854775807 := by
  simp [Lit.wf, IntKind.min, IntKind.max, IntKind.bits, IntKind.signed] at h
  omega

theorem B8_of {n : Int} (h : (Lit.int .u8 n).wf = true) : B8 (UInt8.ofNat n.toNat) = .int .u8 n := by
  have := wf_u8 h
  simp only [B8, UInt8.toNat_ofNat']
  congr 1
  omega

set_option maxRecDepth 100000 in
/-- A slice of bytes. -/
theorem open_bytes_view {H : Type} {enc : TypeId × Value → H} {W : World} {base : Nat} {v : Value} {d : DataW H} {p : List MemPlace} {t : TypeId} (ht : Try.prog.underlying t = some (.slice 5)) (hv : Value.okWide Try.prog W .any base t v)
    (h : DataW.Trod enc Try.prog W 0 (fun _ => true) true t v d p) : ∃ l : List UInt8, View (Env.all W).h v l.length (l.map B8) := by
  obtain ⟨a, len, cap, rfl⟩ := okWide_slice ht hv
  obtain ⟨fuel, hf⟩ := h
  rcases open_ints ht Try.underlying5 (by kernel_rfl) hf with ⟨hcs, _⟩ | ⟨x, l, c, zs, hcs, _, hl, hm, hz, _, hcell, hwz⟩
  · simp [Value.cells] at hcs
    obtain ⟨rfl, rfl, rfl⟩ := hcs
    exact ⟨[], View.nil _⟩
  · simp [Value.cells] at hcs
    obtain ⟨rfl, rfl, rfl⟩ := hcs
    have hzl : zs.length = cap := by simpa using hz
    refine ⟨(zs.take len).map (fun n => UInt8.ofNat n.toNat), ?_⟩
    have e1 : ((zs.take len).map (fun n => UInt8.ofNat n.toNat)).length = len := by simp; omega
    have e2 : ((zs.take len).map (fun n => UInt8.ofNat n.toNat)).map B8 = (zs.take len).map (Value.int .u8) := by
      rw [List.map_map]
      refine List.map_congr_left (fun n hn => ?_)
      exact B8_of (hwz n (List.mem_of_mem_take hn))
    rw [e1, e2]
    refine view_of_cells (fun j u hj => ?_)
    rw [List.getElem?_map, List.getElem?_take] at hj
    split at hj
    · rename_i hjl
      have hjz : j < zs.length := by omega
      rw [List.getElem?_eq_getElem hjz] at hj
      simp only [Option.map_some, Option.some.injEq] at hj
      rw [hcell j hjz, ← hj]
      simp [List.getD, hjz]
    · cases hj
end Go.Proofs.Ytmebmgbjpbapjaa
