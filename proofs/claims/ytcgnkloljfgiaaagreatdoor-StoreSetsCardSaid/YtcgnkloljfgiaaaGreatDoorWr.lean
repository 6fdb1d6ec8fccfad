/-
  No program in sight: what Fresh and Append leave of a log.
-/
import Derived.Test.YtcgnkloljfgiaaaGreatDoorWq
import Derived.Test.YtcgnkloljfgiaaaGreatDoorWm
namespace Go.Proofs.YtcgnkloljfgiaaaGreatDoor
open Go.RowKit

def upd (T : Int → Option PartR) (a : Int) (ps : List PartR) (i : Int) : Option PartR := if a ≤ i ∧ i < a + ps.length then ps[(i - a).toNat]? else T i
theorem put_alive : ∀ (ps : List PartR) {d : Dk} {N : Nat} {k a : Int} (_ : Alive d N k) (_ : k + ps.length < 999999999) (_ : 0 ≤ a) (_ : a + ps.length ≤ N) (_ : ∀ p ∈ ps, p.ok),
    (putD d a ps).2 = 0 ∧ Alive (putD d a ps).1 N (k + ps.length + 1) ∧ ∀ i : Int, 0 ≤ i → i < N → parseB ((putD d a ps).1.cur i) = upd (fun i => parseB (d.cur i)) a ps i
  | [], d, N, k, a, h, hk, h0, h1, _ => by
    obtain ⟨f1, f2, f3⟩ := alive_flush h (by simpa using hk)
    refine ⟨f1, by simp only [putD, f2, List.length_nil]; simpa using f3, fun i hi hi2 => ?_⟩
    simp only [putD, f2, upd, List.length_nil]
    rw [if_neg (by omega), (flushed_cur h.good.fine i hi (by rw [h.len]; exact hi2)).1]
  | p :: ps, d, N, k, a, h, hk, h0, h1, hok => by
    simp only [List.length_cons] at hk h1
    obtain ⟨f1, f2, f3⟩ := alive_write h (by omega) a h0 (by omega) (partB p) (partB_len (hok p List.mem_cons_self).2.2.2.2.2.2)
    have ih := put_alive ps (d := d.wrote a (partB p)) (a := a + 1) f3 (by omega) (by omega) (by omega) (fun q hq => hok q (List.mem_cons_of_mem _ hq))
    have e : putD d a (p :: ps) = putD (d.wrote a (partB p)) (a + 1) ps := by
      unfold putD; rw [if_pos f1, f2]
      cases ps <;> rfl
    rw [e]
    refine ⟨ih.1, by have := ih.2.1; simp only [List.length_cons]; rw [show k + ((ps.length + 1 : Nat) : Int) + 1 = k + 1 + ps.length + 1 from by omega]; exact this, fun i hi hi2 => ?_⟩
    rw [ih.2.2 i hi hi2]
    simp only [upd, List.length_cons]
    by_cases c1 : a + 1 ≤ i ∧ i < a + 1 + ps.length
    · rw [if_pos c1, if_pos (by omega), show (i - a).toNat = (i - (a + 1)).toNat + 1 from by omega, List.getElem?_cons_succ]
    · rw [if_neg c1, wrote_cur]
      by_cases c2 : a = i
      · subst c2
        rw [if_pos rfl, if_pos (by omega), parse_part (hok p List.mem_cons_self)]
        simp
      · rw [if_neg c2, if_neg (by omega)]
theorem put_tab {ps : List PartR} {d : Dk} {N : Nat} {k a : Int} (h : Alive d N k) (hk : k + ps.length < 999999999) (h0 : 0 ≤ a) (h1 : a + ps.length ≤ N) (hok : ∀ p ∈ ps, p.ok) :
    (putD d a ps).2 = 0 ∧ Alive (putD d a ps).1 N (k + ps.length + 1) ∧ tabR (putD d a ps).1 N = upd (tabR d N) a ps := by
  obtain ⟨r1, r2, r3⟩ := put_alive ps h hk h0 h1 hok
  refine ⟨r1, r2, funext fun i => ?_⟩
  by_cases hi : 0 ≤ i ∧ i < N
  · rw [show tabR (putD d a ps).1 N i = parseB ((putD d a ps).1.cur i) from if_pos hi, r3 i hi.1 hi.2]
    simp only [upd]
    rw [show tabR d N i = parseB (d.cur i) from if_pos hi]
  · rw [show tabR (putD d a ps).1 N i = none from if_neg hi]
    simp only [upd]
    rw [if_neg (by omega), show tabR d N i = none from if_neg hi]
/-- A log that is sound: what it holds, and nothing newer, nor anything else as new. -/
structure LogI (T : Int → Option PartR) (z : Nat) (l : LogR) (rows : List Byt) : Prop where
  g1 : 1 ≤ l.gen
  hf : l.half ≤ 1
  r1 : rows ≠ []
  sm : ∀ t ∈ rows, t.length < 4294967296
  rc : l.rc = rows.length
  nx : l.next = (recsP l.gen 0 rows).length
  mo : l.most = l.gen
  fit : l.next ≤ z
  own : ∀ i (h : i < (recsP l.gen 0 rows).length), T ((l.half * z : Nat) + i) = some (recsP l.gen 0 rows)[i]
  all : ∀ i p, T i = some p → p.gen ≤ l.gen ∧ (p.gen = l.gen → ((l.half * z : Nat) : Int) ≤ i ∧ i < ((l.half * z : Nat) : Int) + l.next)
theorem LogI.pos {T : Int → Option PartR} {z : Nat} {l : LogR} {rows : List Byt} (h : LogI T z l rows) : 1 ≤ l.next := by
  have := recsP_len l.gen rows 0
  have h1 : 0 < rows.length := List.length_pos_iff.2 h.r1
  rw [h.nx]; omega
theorem LogI.stands {T : Int → Option PartR} {z : Nat} {l : LogR} {rows : List Byt} (h : LogI T z l rows) : Stands T z l.gen l.half rows where
  g1 := h.g1
  hf := h.hf
  r1 := h.r1
  sm := h.sm
  own := h.own
  fit := by rw [← h.nx]; exact h.fit
  stop := by
    intro x p _ hp hc
    have := (h.all _ p hp).2 hc.1
    rw [h.nx] at this
    omega
  other := by
    have hp := h.pos
    have hz := h.fit
    have hb : beginR T (((1 - l.half) * z : Nat) : Int) z ≤ l.gen - 1 := begin_le fun p hT => by
      have h2 := h.all _ p hT
      have h01 : l.half = 0 ∨ l.half = 1 := by have := h.hf; omega
      have : ¬ p.gen = l.gen := fun he => by
        have h3 := h2.2 he
        rcases h01 with e | e <;> rw [e] at h3 <;> simp at h3 <;> omega
      omega
    have := h.g1
    omega
theorem mostK_eq {d : Dk} {g : Nat} : ∀ k : Nat, (∀ (i : Nat) p, i < k → parseB (d.cur i) = some p → p.gen ≤ g) → mostK d 0 k ≤ g ∧ ∀ (i : Nat) p, i < k → parseB (d.cur i) = some p → p.gen ≤ mostK d 0 k
  | 0, _ => ⟨Nat.zero_le _, fun i p hi => by omega⟩
  | k + 1, h => by
    obtain ⟨h1, h2⟩ := mostK_eq k (fun i p hi => h i p (by omega))
    unfold mostK
    rcases hp : parseB (d.cur k) with _ | q
    · refine ⟨h1, fun i p hi hp' => ?_⟩
      by_cases e : i = k
      · subst e; rw [hp] at hp'; cases hp'
      · exact h2 i p (by omega) hp'
    · refine ⟨Nat.max_le.2 ⟨h1, h k q (by omega) hp⟩, fun i p hi hp' => ?_⟩
      by_cases e : i = k
      · subst e; rw [hp] at hp'; cases hp'; exact Nat.le_max_right _ _
      · exact Nat.le_trans (h2 i p (by omega) hp') (Nat.le_max_left _ _)
theorem most_is {d : Dk} {N g : Nat} (h1 : ∀ i p, tabR d N i = some p → p.gen ≤ g) (i : Int) (p : PartR) (h2 : tabR d N i = some p) (h3 : p.gen = g) : mostK d 0 N = g := by
  obtain ⟨e1, e2⟩ := mostK_eq (d := d) (g := g) N (fun i p hi hp => h1 i p (by unfold tabR; rw [if_pos (by omega)]; exact hp))
  have hi : 0 ≤ i ∧ i < N := by
    by_cases c : 0 ≤ i ∧ i < (N : Int)
    · exact c
    · unfold tabR at h2; rw [if_neg c] at h2; cases h2
  have h4 : parseB (d.cur ((i.toNat : Nat) : Int)) = some p := by
    unfold tabR at h2
    rw [if_pos hi] at h2
    rw [show ((i.toNat : Nat) : Int) = i from by omega]; exact h2
  have := e2 i.toNat p (by omega) h4
  omega
theorem open_log {d : Dk} {N z : Nat} {l : LogR} {rows : List Byt} (hN : d.last.length = N) (hz : N / 2 = z) (hz2 : z ≤ 128) (h : LogI (tabR d N) z l rows) : openR d = (l, rows) := by
  subst hN
  have hs := h.stands
  rw [open_stands hz hz2 hs]
  have hp := h.pos
  have hlt : 0 < (recsP l.gen 0 rows).length := by rw [← h.nx]; omega
  have hmo : mostK d 0 d.last.length = l.gen := most_is (fun i p hp => (h.all i p hp).1) _ _ (h.own 0 hlt) (recsP_gen (List.getElem_mem hlt))
  rw [hmo]
  obtain ⟨a1, a2, a3, a4, a5⟩ := l
  have e1 := h.nx
  have e2 := h.rc
  have e3 := h.mo
  simp only at e1 e2 e3
  rw [← e1, ← e2, e3]
theorem upd_in {T : Int → Option PartR} {a : Int} {ps : List PartR} {i : Nat} (h : i < ps.length) : upd T a ps (a + i) = some ps[i] := by
  unfold upd
  rw [if_pos (by omega), show (a + (i : Int) - a).toNat = i from by omega, List.getElem?_eq_getElem h]
theorem upd_out {T : Int → Option PartR} {a i : Int} {ps : List PartR} (h : ¬ (a ≤ i ∧ i < a + ps.length)) : upd T a ps i = T i := if_neg h
theorem upd_some {T : Int → Option PartR} {a i : Int} {ps : List PartR} {p : PartR} (h : upd T a ps i = some p) : (a ≤ i ∧ i < a + ps.length ∧ p ∈ ps) ∨ (¬ (a ≤ i ∧ i < a + ps.length) ∧ T i = some p) := by
  unfold upd at h
  split at h
  · rename_i c
    obtain ⟨hl, rfl⟩ := List.getElem?_eq_some_iff.1 h
    exact Or.inl ⟨c.1, c.2, List.getElem_mem _⟩
  · rename_i c
    exact Or.inr ⟨c, h⟩
theorem cutB_gen {gen rc : Nat} {t : Byt} {p : PartR} (h : p ∈ cutB gen rc t) : p.gen = gen := by
  unfold cutB at h; obtain ⟨i, _, rfl⟩ := List.mem_map.1 h; rfl
/-- The log's new half, and what it holds then. -/
theorem logI_fresh {T : Int → Option PartR} {z g half : Nat} {t : Byt} (hm : ∀ i p, T i = some p → p.gen < g) (hg : 1 ≤ g) (hh : half ≤ 1) (ht : t.length < 4294967296) (hfit : partsOf t.length ≤ z) :
    LogI (upd T ((half * z : Nat) : Int) (cutB g 0 t)) z ⟨g, half, partsOf t.length, 1, g⟩ [t] where
  g1 := hg
  hf := hh
  r1 := by simp
  sm := by intro x hx; simp at hx; subst hx; exact ht
  rc := rfl
  nx := by simp [recsP, cutB_len]
  mo := rfl
  fit := hfit
  own := by
    have e : recsP g 0 [t] = cutB g 0 t := by simp [recsP]
    rw [e]
    intro i h
    exact upd_in h
  all := by
    intro i p hp
    rcases upd_some hp with ⟨c1, c2, c3⟩ | ⟨c1, c2⟩
    · rw [cutB_len] at c2
      exact ⟨Nat.le_of_eq (cutB_gen c3), fun _ => ⟨c1, c2⟩⟩
    · have := hm i p c2
      exact ⟨by show p.gen ≤ g; omega, fun h => absurd h (by show ¬ p.gen = g; omega)⟩
theorem logI_append {T : Int → Option PartR} {z : Nat} {l : LogR} {rows : List Byt} {t : Byt} (h : LogI T z l rows) (ht : t.length < 4294967296) (hfit : l.next + partsOf t.length ≤ z) :
    LogI (upd T (((l.half * z : Nat) : Int) + l.next) (cutB l.gen l.rc t)) z ⟨l.gen, l.half, l.next + partsOf t.length, l.rc + 1, l.most⟩ (rows ++ [t]) := by
  have hsn : recsP l.gen 0 (rows ++ [t]) = recsP l.gen 0 rows ++ cutB l.gen l.rc t := by rw [recsP_snoc, Nat.zero_add, ← h.rc]
  refine ⟨h.g1, h.hf, by simp, ?_, by simp [h.rc], by show _ = (recsP l.gen 0 (rows ++ [t])).length; rw [hsn, List.length_append, cutB_len, ← h.nx], h.mo, hfit, ?_, ?_⟩
  · intro x hx
    rcases List.mem_append.1 hx with hx | hx
    · exact h.sm x hx
    · simp at hx; subst hx; exact ht
  · show ∀ i (h : i < (recsP l.gen 0 (rows ++ [t])).length), _ = some (recsP l.gen 0 (rows ++ [t]))[i]
    rw [hsn]
    intro i hi
    by_cases c : i < (recsP l.gen 0 rows).length
    · rw [List.getElem_append_left c, upd_out (by rw [h.nx]; show ¬ (_ ≤ ((l.half * z : Nat) : Int) + i ∧ _); omega)]
      exact h.own i c
    · rw [List.getElem_append_right (by omega)]
      have hlt : i - (recsP l.gen 0 rows).length < (cutB l.gen l.rc t).length := by rw [List.length_append] at hi; omega
      have := upd_in (T := T) (a := ((l.half * z : Nat) : Int) + l.next) hlt
      rw [show ((l.half * z : Nat) : Int) + l.next + ((i - (recsP l.gen 0 rows).length : Nat) : Int) = ((l.half * z : Nat) : Int) + i from by rw [h.nx]; omega] at this
      exact this
  · intro i p hp
    show p.gen ≤ l.gen ∧ (p.gen = l.gen → ((l.half * z : Nat) : Int) ≤ i ∧ i < ((l.half * z : Nat) : Int) + ((l.next + partsOf t.length : Nat) : Int))
    rcases upd_some hp with ⟨c1, c2, c3⟩ | ⟨c1, c2⟩
    · rw [cutB_len] at c2
      exact ⟨Nat.le_of_eq (cutB_gen c3), fun _ => ⟨by omega, by omega⟩⟩
    · have := h.all i p c2
      exact ⟨this.1, fun e => ⟨(this.2 e).1, by have := (this.2 e).2; omega⟩⟩
end Go.Proofs.YtcgnkloljfgiaaaGreatDoor
