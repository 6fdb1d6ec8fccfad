/-
  No program in sight: slices: what one reads as (View), one that is owned (HP.row); append, make, string of bytes.
-/
import Derived.Test.YtcgnkloljfgiaaaGreatDoorSl
import Derived.Laws.AppendOwn
import Derived.Laws.MakeOwn
namespace Go.Proofs.YtcgnkloljfgiaaaGreatDoor
open Go.RowKit

/-- The slice v has n elements; its cells are xs (each one cell). -/
def View (h : Frag) (v : Value) (n : Nat) (xs : List Value) : Prop :=
  ∃ base cap, v = .slice base n cap ∧ (xs = [] ∨ ∃ b o c t fz, base = some ⟨b, o, none⟩ ∧ h b = some (.cells c t fz) ∧ ∀ j u, xs[j]? = some u → c[o + j]? = some u)

def World.frag (w : World) : Frag := fun b => w.heap[b]?

theorem View.mono {h h' : Frag} {v : Value} {n : Nat} {xs : List Value} (H : View h v n xs) (hh : ∀ b o, h b = some o → h' b = some o) : View h' v n xs := by
  obtain ⟨base, cap, rfl, h1⟩ := H
  refine ⟨base, cap, rfl, ?_⟩
  rcases h1 with h1 | ⟨b, o, c, t, fz, rfl, h2, h3⟩
  · exact Or.inl h1
  · exact Or.inr ⟨b, o, c, t, fz, rfl, hh _ _ h2, h3⟩
theorem View.le {e e' : Env} {v : Value} {n : Nat} {xs : List Value} (H : View e.h v n xs) (hle : e.le e') : View e'.h v n xs := H.mono hle.h
theorem View.sat {e : Env} {L : List HP} {w : World} {v : Value} {n : Nat} {xs : List Value} (H : View e.h v n xs) (h : Sat e L w) : View (World.frag w) v n xs := H.mono h.fixed

theorem View.nil (h : Frag) : View h (.slice none 0 0) 0 [] := ⟨none, 0, rfl, Or.inl rfl⟩
theorem View.mk {h : Frag} {b o n cap : Nat} {c : Array Value} {t : TypeId} {fz : Nat × Nat} {xs : List Value} (hb : h b = some (.cells c t fz)) (hx : ∀ j u, xs[j]? = some u → c[o + j]? = some u) : View h (.slice (some ⟨b, o, none⟩) n cap) n xs :=
  ⟨_, _, rfl, Or.inr ⟨b, o, c, t, fz, rfl, hb, hx⟩⟩

/-- A view that has cells: where they lie. -/
theorem View.cells {w : World} {v : Value} {n : Nat} {xs : List Value} (H : View (World.frag w) v n xs) (hne : xs ≠ []) :
    ∃ b o cap, v = .slice (some ⟨b, o, none⟩) n cap ∧ ∀ j u, xs[j]? = some u → w.cell? ⟨b, o + j, none⟩ = some u := by
  obtain ⟨base, cap, rfl, h1⟩ := H
  rcases h1 with h1 | ⟨b, o, c, t, fz, rfl, h2, h3⟩
  · exact absurd h1 hne
  · exact ⟨b, o, cap, rfl, fun j u hj => by rw [cell_of (show w.heap[b]? = _ from h2)]; exact h3 j u hj⟩

/-- An owned slice of n elements of type E (size cells each): nil, or at the head of a block of its own. -/
def HP.row (E : TypeId) (size : Nat) (v : Value) (n : Nat) (xs : List Value) : HP :=
  ⟨fun _ m => xs.length = n * size ∧ ((v = .slice none 0 0 ∧ n = 0) ∨
    ∃ g cap cur, v = .slice (some ⟨g, 0, none⟩) n cap ∧ m g = some (.cells cur E (0, 0)) ∧ n ≤ cap ∧ cap ≤ maxLen ∧ cur.size = cap * size ∧ cur.toList.take (n * size) = xs), fun _ h => h⟩

section
variable {E : TypeId} {size : Nat} {v : Value} {n : Nat} {xs : List Value} {e : Env} {L : List HP} {w : World}
theorem Sat.row_nil (h : Sat e L w) (E : TypeId) (size : Nat) : Sat e (HP.row E size (.slice none 0 0) 0 [] :: L) w :=
  h.lay (fun _ => ⟨by simp, Or.inl ⟨rfl, rfl⟩⟩)

theorem Sat.row_open (h : Sat e (HP.row E size v n xs :: L) w) : xs.length = n * size ∧ ((v = .slice none 0 0 ∧ n = 0 ∧ xs = [] ∧ Sat e L w) ∨
    ∃ g cap cur, v = .slice (some ⟨g, 0, none⟩) n cap ∧ n ≤ cap ∧ cap ≤ maxLen ∧ cur.size = cap * size ∧ cur.toList.take (n * size) = xs ∧ Sat e (HP.blk g (.cells cur E (0, 0)) :: L) w) := by
  obtain ⟨f, hf, hp⟩ := h.own
  obtain ⟨hl, h0⟩ := hp 0 _ rfl
  refine ⟨hl, ?_⟩
  rcases h0 with ⟨h1, h2⟩ | ⟨g, cap, cur, h1, h2, h3, h4, h5, h6⟩
  · exact Or.inl ⟨h1, h2, List.eq_nil_of_length_eq_zero (by rw [hl, h2, Nat.zero_mul]), h.drop⟩
  · exact Or.inr ⟨g, cap, cur, h1, h3, h4, h5, h6, h.os, h.output, h.tape, h.fixed, f, hf, fun i R hR => by
      cases i with
      | zero => simp at hR; subst hR; exact h2
      | succ i => exact hp (i + 1) R (by simpa using hR)⟩

theorem Sat.row_shut {g cap : Nat} {cur : Array Value} (h : Sat e (HP.blk g (.cells cur E (0, 0)) :: L) w) (h1 : n ≤ cap) (h2 : cap ≤ maxLen) (h3 : cur.size = cap * size) (h4 : cur.toList.take (n * size) = xs) : Sat e (HP.row E size (.slice (some ⟨g, 0, none⟩) n cap) n xs :: L) w :=
  h.head (fun m hm => ⟨by rw [← h4, List.length_take, Array.length_toList, h3]; exact Nat.min_eq_left (Nat.mul_le_mul_right _ h1), Or.inr ⟨g, cap, cur, rfl, hm, h1, h2, h3, h4⟩⟩)

theorem take_get {α : Type} {cur : Array α} {k : Nat} {xs : List α} (h : cur.toList.take k = xs) (j : Nat) (u : α) (hu : xs[j]? = some u) : cur[0 + j]? = some u := by
  rw [← h, List.getElem?_take] at hu
  split at hu
  · simpa using hu
  · cases hu

theorem Sat.row_view (h : Sat e (HP.row E size v n xs :: L) w) : View (World.frag w) v n xs := by
  obtain ⟨_, ⟨rfl, rfl, rfl, _⟩ | ⟨g, cap, cur, rfl, _, _, _, h4, hs⟩⟩ := h.row_open
  · exact View.nil _
  · exact View.mk hs.at (take_get h4)

/-- An owned slice becomes one that never turns. -/
theorem Sat.row_persist (h : Sat e (HP.row E size v n xs :: L) w) : ∃ e', e.le e' ∧ View e'.h v n xs ∧ Sat e' L w := by
  obtain ⟨_, ⟨rfl, rfl, rfl, hs⟩ | ⟨g, cap, cur, rfl, _, _, _, h4, hs⟩⟩ := h.row_open
  · exact ⟨e, Env.le_refl e, View.nil _, hs⟩
  · obtain ⟨e', hle, hat, hs'⟩ := hs.persist
    exact ⟨e', hle, View.mk hat (take_get h4), hs'⟩

theorem firstCells_view {P : Program} {sv : Value} {m : Nat} {news : List Value} (H : View (World.frag w) sv m news) (hl : news.length = m * size) : (Builtin.firstCells size m sv).run P w = .ok news.toArray w := by
  obtain ⟨base, cap, rfl, h1⟩ := H
  rcases h1 with rfl | ⟨b, o, c, t, fz, rfl, h2, h3⟩
  · have hm : m * size = 0 := by simpa using hl.symm
    cases base with
    | none => simp [Builtin.firstCells]
    | some a => simp [Builtin.firstCells, hm, loadCells, loadCellsFrom]
  · exact run_firstCells_some w size m _ m cap news hl (fun j u hj => by rw [Addr.add_lit, cell_of (show w.heap[b]? = _ from h2)]; exact h3 j u hj)

set_option maxHeartbeats 400000 in
/-- 'append' onto an owned slice, from whatever reads as cells. -/
theorem run_append_sl {P : Program} {t ty : TypeId} {i : TypeInfo} {z : Value} {bytes : Nat} (ht : P.underlying t = some (.slice E)) (hi : P.info? E = some i) (hz : i.zero = some z) (hsize : i.size = size) (hby : i.bytes = bytes) (hzs : z.cells.size = size) (hsz : 0 < size)
    (h : Sat e (HP.row E size v n xs :: L) w) {sv : Value} {m : Nat} {news : List Value} (H : View (World.frag w) sv m news) (hl : news.length = m * size) (h1 : ∀ u ∈ news, u.oneCell' = true)
    (h63 : n + m ≤ maxLen) (hbytes : (n + m) * bytes ≤ 140737488355328) :
    ∃ v' w', (Builtin.append_ #[t, t] ty #[v, sv]).run P w = .ok v' w' ∧ Sat e (HP.row E size v' (n + m) (xs ++ news) :: L) w' ∧ (v' = .slice none 0 0 ↔ v = .slice none 0 0 ∧ m = 0) := by
  subst hsize; subst hby
  have hsmall : n + m ≤ 9223372036854775807 := by simp only [maxLen] at h63; omega
  obtain ⟨hxl, h0⟩ := h.row_open
  have hlen : (xs ++ news).length = (n + m) * i.size := by rw [List.length_append, hxl, hl, Nat.add_mul]
  have fits : ∀ old, old < n + m → Builtin.nextslicecap (n + m) old * i.bytes ≤ 281474976710656 := fun old ho => growslice_fits ho hbytes
  have grown : ∀ (old : Nat), old < n + m → Sat e L w →
      Sat e (HP.row E i.size (.slice (some ⟨w.heap.size, 0, none⟩) (n + m) (grownCap w (n + m) old E)) (n + m) (xs ++ news) :: L) (w.drew.alloc (.cells (xs.toArray ++ news.toArray ++ Builtin.zeroCells z.cells (grownCap w (n + m) old E - (n + m))) E)) := by
    intro old ho hs
    have hge := grownCap_ge w (n + m) old E
    refine (hs.drew.alloc (.cells (xs.toArray ++ news.toArray ++ Builtin.zeroCells z.cells (grownCap w (n + m) old E - (n + m))) E)).row_shut hge (grownCap_le_maxLen w (n + m) old E h63) ?_ ?_
    · simp only [Array.size_append, List.size_toArray, size_zeroCells, hzs, hxl, hl, ← Nat.add_mul]
      congr 1; omega
    · simp only [Array.toList_append, List.append_assoc]
      rw [← List.append_assoc, ← hlen]
      exact List.take_left
  rcases h0 with ⟨rfl, rfl, rfl, hs⟩ | ⟨g, cap, cur, rfl, hnc, hcm, hcs, htake, hs⟩
  · by_cases hm : m = 0
    · subst hm
      have hn : news = [] := List.eq_nil_of_length_eq_zero (by simpa using hl)
      subst hn
      obtain ⟨base, cap, rfl, _⟩ := H
      refine ⟨.slice none 0 0, w, ?_, by simpa using hs.row_nil E i.size, by simp⟩
      cases base <;> simp [Builtin.append_, run_underlying ht, sizeOf, typeInfo, hi, Builtin.lenOf, Builtin.firstCells, loadCells, loadCellsFrom]
    · have hne : news ≠ [] := fun hx => by
        rw [hx] at hl
        rcases Nat.mul_eq_zero.1 hl.symm with h | h
        · exact hm h
        · omega
      obtain ⟨b, o, c, rfl, hc⟩ := H.cells hne
      have hr := run_append_nil (P := P) w t ty E i z ht hi hz ⟨b, o, none⟩ m c news hl (fun j u hj => by rw [Addr.add_lit]; exact hc j u hj) (by omega) (by omega) (by rw [Nat.zero_add] at hbytes; omega)
      refine ⟨_, _, hr, ?_, by simp [hm]⟩
      have := grown 0 (by omega) hs
      simpa using this
  · by_cases hroom : n + m ≤ cap
    · have hfit : n * i.size + news.length ≤ cur.size := by rw [hl, hcs, ← Nat.add_mul]; exact Nat.mul_le_mul_right _ hroom
      have hf := firstCells_view (P := P) H hl
      have hst := run_storeCells_at P g (n * i.size) E news 0 cur w hs.at (by simpa using hfit) h1
      simp only [Nat.add_zero] at hst
      refine ⟨.slice (some ⟨g, 0, none⟩) (n + m) cap, w.setRow g (cur.toList.take (n * i.size) ++ news ++ cur.toList.drop (n * i.size + news.length)).toArray, ?_, ?_, by simp⟩
      · obtain ⟨base, c, rfl, _⟩ := H
        simp [Builtin.append_, run_underlying ht, sizeOf, typeInfo, hi, Builtin.lenOf, hroom, hf, Addr.add_lit, hst]
      · have hs2 : Sat e (HP.blk g (.cells (cur.toList.take (n * i.size) ++ news ++ cur.toList.drop (n * i.size + news.length)).toArray E (0, 0)) :: L) (w.setRow g (cur.toList.take (n * i.size) ++ news ++ cur.toList.drop (n * i.size + news.length)).toArray) :=
          hs.upd rfl rfl rfl (by simp) (fun k _ hk => setRow_other w g k _ hk) (setRow_heap w g cur _ E _ hs.at) (Or.inl rfl)
        refine hs2.row_shut hroom hcm ?_ ?_
        · simp only [List.size_toArray, List.length_append, List.length_take, List.length_drop, Array.length_toList]
          omega
        · rw [htake, ← hlen]
          exact List.take_left
    · have hne : news ≠ [] := fun hx => by
        rw [hx] at hl
        have : m = 0 := by
          rcases Nat.mul_eq_zero.1 hl.symm with h | h
          · exact h
          · omega
        omega
      obtain ⟨b, o, c, rfl, hc⟩ := H.cells hne
      have hr := run_append_grow (P := P) w t ty E i z ht hi hz ⟨g, 0, none⟩ n cap xs hxl (fun j u hj => by rw [Addr.add_lit, cell_of hs.at]; exact take_get htake j u hj) ⟨b, o, none⟩ m c news hl (fun j u hj => by rw [Addr.add_lit]; exact hc j u hj) (by omega) (by omega) (fits cap (by omega))
      exact ⟨_, _, hr, grown cap (by omega) hs.drop, by simp⟩

/-- 'make([]T, n)'. -/
theorem run_make_sl {P : Program} {t : TypeId} {i : TypeInfo} {z : Value} {bytes : Nat} (ht : P.underlying t = some (.slice E)) (hi : P.info? E = some i) (hz : i.zero = some z) (hsize : i.size = size) (hby : i.bytes = bytes)
    (h : Sat e L w) (kl kc : IntKind) (n : Nat) (hbytes : bytes * n ≤ 140737488355328) (h63 : n ≤ maxLen) :
    (Instr.makeSlice t (.int kl n) (.int kc n)).run P w = .ok (.slice (some ⟨w.heap.size, 0, none⟩) n n) (w.alloc (.cells (madeCells z.cells (n * size)) E)) ∧
      Sat e (HP.row E size (.slice (some ⟨w.heap.size, 0, none⟩) n n) n (madeCells z.cells (n * size)).toList :: L) (w.alloc (.cells (madeCells z.cells (n * size)) E)) := by
  subst hsize; subst hby
  have hsmall : n ≤ 9223372036854775807 := by simp only [maxLen] at h63; omega
  have hb : (i.bytes : Int) * (n : Int) ≤ 281474976710656 := by
    have : ((i.bytes * n : Nat) : Int) ≤ 140737488355328 := by omega
    rw [Int.natCast_mul] at this
    omega
  have hr := run_make (P := P) w t E i z ht hi hz kl kc n n (by omega) (by omega) hb (by omega)
  rw [Int.toNat_natCast] at hr
  refine ⟨hr, (h.alloc _).row_shut (Nat.le_refl n) h63 (by simp [size_madeCells]) ?_⟩
  rw [List.take_of_length_le (by simp [size_madeCells])]
end

/-- One byte, in a cell. -/
def B8 (x : UInt8) : Value := .int .u8 (x.toNat : Int)
theorem B8_one (x : UInt8) : (B8 x).oneCell' = true := rfl
theorem B8_inj {x y : UInt8} (h : B8 x = B8 y) : x = y := by
  simp only [B8, Value.int.injEq, true_and] at h
  exact UInt8.toNat_inj.1 (by omega)
theorem map_B8_one (l : List UInt8) : ∀ u ∈ l.map B8, u.oneCell' = true := by
  intro u hu
  obtain ⟨x, _, rfl⟩ := List.mem_map.1 hu
  rfl

/-- 'string(b)'. -/
theorem run_bytes_string {P : Program} {w : World} {v : Value} {l : List UInt8} (H : View (World.frag w) v l.length (l.map B8)) : (Conv.bytesToString v).run P w = .ok (.string ⟨l.toArray⟩) w := by
  by_cases hne : l = []
  · subst hne
    obtain ⟨base, cap, rfl, _⟩ := H
    cases base <;> simp [Conv.bytesToString, loadCells, loadCellsFrom] <;> rfl
  · obtain ⟨b, o, cap, rfl, hc⟩ := H.cells (by simpa using hne)
    have hb := run_bytesToString (P := P) w ⟨b, o, none⟩ l.length cap (l.map (fun x => (x.toNat : Int))) (by
      have := run_loadCells_list (P := P) w ⟨b, o, none⟩ (l.map B8) (fun j u hj => by rw [Addr.add_lit]; exact hc j u hj)
      rw [List.length_map] at this
      rw [this, List.map_map]; rfl)
    rw [hb]
    congr 2
    have : ∀ (l : List UInt8) (r : ByteArray), (l.map (fun x => (x.toNat : Int))).foldl (fun r n => r.push (UInt8.ofNat n.toNat)) r = ⟨r.data ++ l.toArray⟩ := by
      intro l
      induction l with
      | nil => intro r; simp
      | cons x l ih =>
        intro r
        simp only [List.map_cons, List.foldl_cons, ih]
        simp [ByteArray.push]
    rw [this]
    show (⟨#[] ++ l.toArray⟩ : ByteArray) = _
    simp

end Go.Proofs.YtcgnkloljfgiaaaGreatDoor
