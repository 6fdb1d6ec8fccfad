/-
  From a row's arguments, read as data, to views of memory. From arguments, read as data, to views of memory: slices of anything, one level at a time. From arguments, read as data, to slices that never turn. From arguments, read as data, to raw statements.
-/
import Derived.Test.YtcgnkloljfgiaaaGreatDoorRows
import Derived.Test.YtcgnkloljfgiaaaGreatDoorOp
import Derived.ProofKit
import Derived.OpenShut
import Derived.ShutString
import Derived.ChangeOld
import Derived.SizedLaws
import Derived.Test.YtcgnkloljfgiaaaGreatDoorGt
namespace Go.Proofs.YtcgnkloljfgiaaaGreatDoor
open Go.RowKit Go.ChangeShapes Go.WideShapes Go.ChangeAt

theorem own : ownKnob Tryz.prog.godebug = none := by kernel_rfl
theorem laidOut : laidOutB Tryz.prog = true := by kernel_rfl

theorem view_of_cells {w : World} {x : Addr} {n cap : Nat} {xs : List Value} (h : ∀ j u, xs[j]? = some u → w.cell? (x.add j) = some u) : View (World.frag w) (.slice (some x) n cap) n xs := by
  refine ⟨some x, cap, rfl, ?_⟩
  cases xs with
  | nil => exact Or.inl rfl
  | cons a r =>
    right
    have h0 := h 0 a rfl
    obtain ⟨b, o, sp⟩ := x
    have hs : sp = none := by
      cases sp with
      | none => rfl
      | some q =>
        simp only [Addr.add, if_true, World.cell?] at h0
        split at h0
        · simp at h0
        · cases h0
    subst hs
    simp only [Addr.add, if_true] at h0
    unfold World.cell? at h0
    split at h0
    · rename_i c t fz hb
      refine ⟨b, o, c, t, fz, rfl, hb, fun j u hj => ?_⟩
      have := h j u hj
      rw [Addr.add_lit, cell_of hb] at this
      exact this
    · cases h0

theorem wf_u8 {n : Int} (h : (Lit.int .u8 n).wf = true) : 0 ≤ n ∧ n < 256 := by
  simp [Lit.wf, IntKind.min, IntKind.max, IntKind.bits, IntKind.signed] at h
  omega

theorem wf_i64' {n : Int} (h : (Lit.int .i64 n).wf = true) : -9223372036854775808 ≤ n ∧ n ≤ 9223372036854775807 := by
  simp [Lit.wf, IntKind.min, IntKind.max, IntKind.bits, IntKind.signed] at h
  omega

theorem B8_of {n : Int} (h : (Lit.int .u8 n).wf = true) : B8 (UInt8.ofNat n.toNat) = .int .u8 n := by
  have := wf_u8 h
  simp only [B8, UInt8.toNat_ofNat']
  congr 1
  omega

set_option maxRecDepth 100000 in
/-- A slice of bytes. -/
theorem open_bytes_view {H : Type} {enc : TypeId × Value → H} {W : World} {base : Nat} {v : Value} {d : DataW H} {p : List MemPlace} {t : TypeId} (ht : Tryz.prog.underlying t = some (.slice 5)) (hv : Value.okWide Tryz.prog W .any base t v)
    (h : DataW.Trod enc Tryz.prog W 0 (fun _ => true) true t v d p) : ∃ l : List UInt8, View (Env.all W).h v l.length (l.map B8) := by
  obtain ⟨a, len, cap, rfl⟩ := okWide_slice ht hv
  obtain ⟨fuel, hf⟩ := h
  rcases open_ints ht Tryz.underlying5 (by kernel_rfl) hf with ⟨hcs, _⟩ | ⟨x, l, c, zs, hcs, _, hl, hm, hz, _, hcell, hwz⟩
  · simp [Value.cells] at hcs
    obtain ⟨rfl, rfl, rfl⟩ := hcs
    exact ⟨[], View.nil _⟩
  · simp [Value.cells] at hcs
    obtain ⟨rfl, rfl, rfl⟩ := hcs
    have hzl : zs.length = cap := by simpa using hz
    refine ⟨(zs.take len).map (fun n => UInt8.ofNat n.toNat), ?_⟩
    have e1 : ((zs.take len).map (fun n => UInt8.ofNat n.toNat)).length = len := by simp; omega
    have e2 : ((zs.take len).map (fun n => UInt8.ofNat n.toNat)).map B8 = (zs.take len).map (Value.int .u8) := by
      rw [List.map_map]
      refine List.map_congr_left (fun n hn => ?_)
      exact B8_of (hwz n (List.mem_of_mem_take hn))
    rw [e1, e2]
    refine view_of_cells (fun j u hj => ?_)
    rw [List.getElem?_map, List.getElem?_take] at hj
    split at hj
    · rename_i hjl
      have hjz : j < zs.length := by omega
      rw [List.getElem?_eq_getElem hjz] at hj
      simp only [Option.map_some, Option.some.injEq] at hj
      rw [hcell j hjz, ← hj]
      simp [List.getD, hjz]
    · cases hj
end Go.Proofs.YtcgnkloljfgiaaaGreatDoor

namespace Go.Proofs.YtcgnkloljfgiaaaGreatDoor
open Go.RowKit Go.ChangeShapes Go.WideShapes Go.ChangeAt

theorem flat_get (size : Nat) (hs : 0 < size) : ∀ (ls : List (List Value)), (∀ l ∈ ls, l.length = size) → ∀ j : Nat, ls.flatten[j]? = (ls[j / size]?).bind (fun l => l[j % size]?)
  | [], _, j => by simp
  | l :: ls, h, j => by
    have hl := h l (by simp)
    have ih := flat_get size hs ls (fun x hx => h x (by simp [hx]))
    rw [List.flatten_cons]
    rcases Nat.lt_or_ge j size with hj | hj
    · rw [List.getElem?_append_left (by omega), Nat.div_eq_of_lt hj, Nat.mod_eq_of_lt hj]; rfl
    · rw [List.getElem?_append_right (by omega), hl, ih (j - size)]
      have e1 : j / size = (j - size) / size + 1 := Nat.div_eq_sub_div hs hj
      have e2 : j % size = (j - size) % size := Nat.mod_eq_sub_mod hj
      rw [e1, e2]; rfl

section
variable {H : Type} {enc : TypeId × Value → H} {P : Program} {W : World} {base : Nat} {spare : Nat → Bool} {held : Bool} {fuel : Nat}

theorem choose_list {α β : Type} [Inhabited β] (R : α → β → Prop) : ∀ (l : List α), (∀ x ∈ l, ∃ y, R x y) → ∃ ys : List β, ys.length = l.length ∧ ∀ (i : Nat) x y, l[i]? = some x → ys[i]? = some y → R x y
  | [], _ => ⟨[], rfl, by simp⟩
  | x :: l, h => by
    obtain ⟨y, hy⟩ := h x (by simp)
    obtain ⟨ys, h1, h2⟩ := choose_list R l (fun z hz => h z (by simp [hz]))
    refine ⟨y :: ys, by simp [h1], fun i a b ha hb => ?_⟩
    cases i with
    | zero => simp at ha hb; subst ha; subst hb; exact hy
    | succ i => exact h2 i a b (by simpa using ha) (by simpa using hb)

/-- A slice: its elements' cells, each read as data. -/
theorem open_slice {t e : TypeId} {size : Nat} {cs : List Value} {x : DataW H × List MemPlace} (ht : P.underlying t = some (.slice e)) (hc : P.cellsOf e = size) (hs : 0 < size) (h : DataW.trod enc P W base spare held fuel t cs = some x) :
    ∃ (v : Value) (ls : List (List Value)) (m : Nat), cs = [v] ∧ View (World.frag W) v ls.length ls.flatten ∧ ls.length ≤ maxLen ∧ (∀ l ∈ ls, l.length = size) ∧ ∀ l ∈ ls, ∃ y, DataW.trod enc P W base spare held m e l = some y := by
  rcases DataW.trod_slice ht h with ⟨rfl, rfl⟩ | ⟨a, len, cap, elems, rest, m, _, rfl, rfl, hb, hl, hm, hlen, hel, _, _⟩
  · exact ⟨_, [], 0, rfl, View.nil _, by simp, by simp, by simp⟩
  rw [hc] at hel
  have each : ∀ i ∈ List.range len, ∃ l : List Value, W.cells? base (a.add (i * size)) size = some l ∧ ∃ y, DataW.trod enc P W base spare held m e l = some y := by
    intro i hi
    have hi' : i < len := List.mem_range.1 hi
    have h1 := hel i hi'
    have h2 : i < elems.length := by omega
    rw [List.getElem?_eq_getElem h2, Option.bind_eq_some_iff] at h1
    obtain ⟨l, h3, h4⟩ := h1
    exact ⟨l, h3, _, h4⟩
  obtain ⟨ls, h1, h2⟩ := choose_list _ _ each
  rw [List.length_range] at h1
  have hat : ∀ (i : Nat) l, ls[i]? = some l → W.cells? base (a.add (i * size)) size = some l ∧ ∃ y, DataW.trod enc P W base spare held m e l = some y := fun i l hl' =>
    h2 i i l (by rw [List.getElem?_range]; have := (List.getElem?_eq_some_iff.1 hl').1; omega) hl'
  have hsz : ∀ l ∈ ls, l.length = size := by
    intro l hl'
    obtain ⟨i, hi⟩ := List.getElem?_of_mem hl'
    exact (World.cells?_some (hat i l hi).1).2.1
  refine ⟨_, ls, m, rfl, ?_, by omega, hsz, fun l hl' => ?_⟩
  · rw [h1]
    refine view_of_cells (fun j u hj => ?_)
    rw [flat_get size hs ls hsz j, Option.bind_eq_some_iff] at hj
    obtain ⟨l, hl1, hl2⟩ := hj
    obtain ⟨_, _, hcell⟩ := World.cells?_some (hat _ l hl1).1
    have := hcell (j % size) (Nat.mod_lt _ hs)
    rw [Addr.add_add, Nat.mul_comm, Nat.div_add_mod] at this
    rw [this, hl2]
  · obtain ⟨i, hi⟩ := List.getElem?_of_mem hl'
    exact (hat i l hi).2

/-- A slice of bytes. -/
theorem open_bytes {t e : TypeId} {cs : List Value} {x : DataW H × List MemPlace} (ht : P.underlying t = some (.slice e)) (he : P.underlying e = some (.int .u8)) (hc : P.cellsOf e = 1) (h : DataW.trod enc P W base spare held fuel t cs = some x) :
    ∃ (v : Value) (l : List UInt8), cs = [v] ∧ l.length ≤ maxLen ∧ View (World.frag W) v l.length (l.map B8) := by
  obtain ⟨v, ls, m, rfl, hv, hm, _, he'⟩ := open_slice ht hc (by omega) h
  have each : ∀ l ∈ ls, ∃ b : UInt8, l = [B8 b] := by
    intro l hl
    obtain ⟨y, hy⟩ := he' l hl
    obtain ⟨n, rfl, rfl, hw⟩ := DataW.trod_int he hy
    exact ⟨UInt8.ofNat n.toNat, by rw [B8_of hw]⟩
  obtain ⟨bs, h1, h2⟩ := choose_list _ _ each
  refine ⟨v, bs, rfl, by omega, ?_⟩
  have hfl : ls.flatten = bs.map B8 := by
    have : ls = bs.map (fun b => [B8 b]) := by
      apply List.ext_getElem?
      intro i
      rcases Nat.lt_or_ge i ls.length with hi | hi
      · rw [List.getElem?_map, List.getElem?_eq_getElem (show i < bs.length by omega), List.getElem?_eq_getElem hi]
        simp only [Option.map_some, Option.some.injEq]
        exact h2 i _ _ (List.getElem?_eq_getElem hi) (List.getElem?_eq_getElem (by omega))
      · rw [List.getElem?_eq_none hi, List.getElem?_eq_none (by simp; omega)]
    rw [this]
    clear this h1 h2
    induction bs with
    | nil => rfl
    | cons b bs ih => simp [ih]
  rw [← hfl, h1]
  exact hv
end
end Go.Proofs.YtcgnkloljfgiaaaGreatDoor

namespace Go.Proofs.YtcgnkloljfgiaaaGreatDoor
open Go.RowKit Go.ChangeShapes Go.WideShapes Go.ChangeAt

section
variable {H : Type} {enc : TypeId × Value → H} {P : Program} {W : World} {base : Nat} {spare : Nat → Bool} {held : Bool} {fuel : Nat}

theorem open_sl {α : Type} [Inhabited α] (E : El α) {t e : TypeId} {cs : List Value} {x : DataW H × List MemPlace} (ht : P.underlying t = some (.slice e)) (hc : P.cellsOf e = E.sz) (hs : 0 < E.sz)
    (each : ∀ m l y, m < fuel → DataW.trod enc P W base spare held m e l = some y → l.length = E.sz → ∃ z, E.rd (World.frag W) z l) (h : DataW.trod enc P W base spare held fuel t cs = some x) : ∃ (v : Value) (xs : List α), cs = [v] ∧ E.sl (World.frag W) v xs := by
  rcases DataW.trod_slice ht h with ⟨rfl, rfl⟩ | ⟨a, len, cap, elems, rest, m, hfm, rfl, rfl, hb, hl, hm, hlen, hel, _, _⟩
  · exact ⟨_, [], rfl, El.sl_nil E _⟩
  rw [hc] at hel
  have each' : ∀ i ∈ List.range len, ∃ q : List Value × α, W.cells? base (a.add (i * E.sz)) E.sz = some q.1 ∧ E.rd (World.frag W) q.2 q.1 := by
    intro i hi
    have hi' : i < len := List.mem_range.1 hi
    have h1 := hel i hi'
    have h2 : i < elems.length := by omega
    rw [List.getElem?_eq_getElem h2, Option.bind_eq_some_iff] at h1
    obtain ⟨l, h3, h4⟩ := h1
    obtain ⟨z, hz⟩ := each m l _ (by omega) h4 (World.cells?_some h3).2.1
    exact ⟨(l, z), h3, hz⟩
  obtain ⟨qs, h1, h2⟩ := choose_list _ _ each'
  rw [List.length_range] at h1
  have hat : ∀ (i : Nat) q, qs[i]? = some q → W.cells? base (a.add (i * E.sz)) E.sz = some q.1 ∧ E.rd (World.frag W) q.2 q.1 := fun i q hq =>
    h2 i i q (by rw [List.getElem?_range]; have := (List.getElem?_eq_some_iff.1 hq).1; omega) hq
  have hr : ∀ (qs : List (List Value × α)), (∀ q ∈ qs, E.rd (World.frag W) q.2 q.1) → E.rds (World.frag W) (qs.map (·.2)) (qs.map (·.1)).flatten := by
    intro qs
    induction qs with
    | nil => intro _; rfl
    | cons q qs ih => intro hq; exact ⟨_, _, rfl, hq q (by simp), ih (fun z hz => hq z (by simp [hz]))⟩
  have hall : ∀ q ∈ qs, E.rd (World.frag W) q.2 q.1 := fun q hq => by
    obtain ⟨i, hi⟩ := List.getElem?_of_mem hq
    exact (hat i q hi).2
  have hsz : ∀ l ∈ qs.map (·.1), l.length = E.sz := by
    intro l hl'
    obtain ⟨q, hq, rfl⟩ := List.mem_map.1 hl'
    exact E.len (hall q hq)
  refine ⟨_, qs.map (·.2), rfl, (qs.map (·.1)).flatten, hr qs hall, ?_, _, cap, by rw [List.length_map, h1], by rw [List.length_map, h1]; exact hl, hm⟩
  rw [List.length_map, h1]
  refine view_of_cells (fun j u hj => ?_)
  rw [flat_get E.sz hs _ hsz j, Option.bind_eq_some_iff] at hj
  obtain ⟨l, hl1, hl2⟩ := hj
  rw [List.getElem?_map, Option.map_eq_some_iff] at hl1
  obtain ⟨q, hq, rfl⟩ := hl1
  obtain ⟨_, _, hcell⟩ := World.cells?_some (hat _ q hq).1
  have := hcell (j % E.sz) (Nat.mod_lt _ hs)
  rw [Addr.add_add, Nat.mul_comm, Nat.div_add_mod] at this
  rw [this, hl2]
end

def i64b (x : Int) : Prop := -9223372036854775808 ≤ x ∧ x ≤ 9223372036854775807
/-- A number in a cell, in its bounds. -/
def intEb : El Int := El.sc (fun n => .int .i64 n) i64b (fun _ => rfl)

theorem sl_intE {h : Frag} {v : Value} {ns : List Int} (H : intEb.sl h v ns) : intE.sl h v ns ∧ ∀ x ∈ ns, i64b x := by
  obtain ⟨cs, h1, h2, h3⟩ := H
  have key : ∀ (ns : List Int) (cs : List Value), intEb.rds h ns cs → intE.rds h ns cs ∧ ∀ x ∈ ns, i64b x := by
    intro ns
    induction ns with
    | nil => intro cs h; exact ⟨h, by simp⟩
    | cons n ns ih =>
      intro cs h
      obtain ⟨c, r, rfl, ⟨e1, e2⟩, h4⟩ := h
      obtain ⟨i1, i2⟩ := ih r h4
      exact ⟨⟨c, r, rfl, ⟨e1, trivial⟩, i1⟩, fun x hx => by rcases List.mem_cons.1 hx with rfl | hx; exact e2; exact i2 x hx⟩
  exact ⟨⟨cs, (key ns cs h1).1, h2, h3⟩, (key ns cs h1).2⟩
set_option maxRecDepth 100000 in
theorem open_i64s {H : Type} {enc : TypeId × Value → H} {W : World} {base : Nat} {v : Value} {d : DataW H} {p : List MemPlace} (hval : Value.okWide Tryz.prog W .any base 36 v)
    (h : DataW.Trod enc Tryz.prog W 0 (fun _ => true) true 36 v d p) : ∃ ns : List Int, intE.sl (Env.all W).h v ns ∧ ∀ x ∈ ns, i64b x := by
  obtain ⟨sa, sl, sc, rfl⟩ := okWide_slice Tryz.underlying36 hval
  obtain ⟨fuel, hf⟩ := h
  obtain ⟨v', xs, hv, hx⟩ := open_sl intEb Tryz.underlying36 (by kernel_rfl) (by decide) (fun m l y _ hl hlen => by
    match l, hlen with
    | [a], _ =>
      obtain ⟨n, e0, _, w0⟩ := DataW.trod_int Tryz.underlying3 hl
      simp only [List.cons.injEq, and_true] at e0
      subst e0
      exact ⟨n, rfl, wf_i64' w0⟩) hf
  have hv' : Value.slice sa sl sc = v' := by
    have : (Value.slice sa sl sc).cells.toList = [Value.slice sa sl sc] := rfl
    rw [this] at hv; simpa using hv
  rw [hv']
  exact ⟨xs, sl_intE hx⟩
end Go.Proofs.YtcgnkloljfgiaaaGreatDoor

