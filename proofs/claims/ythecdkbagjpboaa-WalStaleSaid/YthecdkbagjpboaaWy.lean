/-
  No program in sight: one sector of a record lost.
-/
import Derived.Test.YthecdkbagjpboaaWx
namespace Go.Proofs.Ythecdkbagjpboaa
open Go.RowKit
theorem append_tab {d : Dk} {N : Nat} {k : Int} {l : LogR} {rows : List Byt} {t : Byt} (h : Alive d N k) (hk : 0 ≤ k ∧ k < 100000000) (hN : N ≤ 256) (hI : LogI (tabR d N) (N / 2) l rows) (hg : l.gen ≤ 4294967295) (hrc : l.rc ≤ 65535) (hp5 : partsOf t.length ≤ 255) (hfit : l.next + partsOf t.length ≤ N / 2) :
    tabR (appendD d l t).2.2.1 N = upd (tabR d N) (((l.half * (N / 2) : Nat) : Int) + l.next) (cutB l.gen l.rc t) := by
  have hlen : d.last.length = N := h.len
  have hg1 := hI.g1
  have hr : l.half * (N / 2) + (l.next + partsOf t.length) ≤ N := by
    have h01 : l.half = 0 ∨ l.half = 1 := by have := hI.hf; omega
    rcases h01 with e | e <;> rw [e] <;> simp <;> omega
  have ea : (l.half : Int) * ((d.last.length : Int) / 2) + l.next = ((l.half * (N / 2) : Nat) : Int) + l.next := by rw [hlen]; simp
  obtain ⟨q1, q2, q3⟩ := put_tab (ps := cutB l.gen l.rc t) (a := ((l.half * (N / 2) : Nat) : Int) + l.next) h (by rw [cutB_len]; omega) (by omega) (by rw [cutB_len]; omega) (cutB_ok (by omega) hg hrc hp5)
  unfold appendD
  rw [if_neg (by omega), hlen, if_neg (by omega)]
  rw [hlen] at ea
  simp only [ea, q1, if_true]
  exact q3
theorem torn_alive {d : Dk} {N : Nat} {k : Int} (h : Alive d N k) (hk : 0 ≤ k ∧ k < 100000000) (a : Int) (h0 : 0 ≤ a) (h1 : a < N) :
    d.writeR a zs = 0 ∧ (d.writeD a zs).flushR = 0 ∧ Alive (d.writeD a zs) N (k + 1) ∧ Alive (d.writeD a zs).flushD N (k + 2) ∧ ∀ i, tabR (d.writeD a zs).flushD N i = if i = a then none else tabR d N i := by
  obtain ⟨f1, f2, f3⟩ := alive_write h (by omega) a h0 h1 zs (by simp [zs])
  rw [f2]
  obtain ⟨g1, g2, g3⟩ := alive_flush f3 (by omega)
  rw [g2]
  refine ⟨f1, g1, f3, by rw [show k + 2 = k + 1 + 1 from by omega]; exact g3, fun i => ?_⟩
  unfold tabR
  by_cases hi : 0 ≤ i ∧ i < N
  · rw [if_pos hi, if_pos hi, (flushed_cur f3.good.fine i hi.1 (by rw [f3.len]; exact hi.2)).1, wrote_cur]
    by_cases e : a = i
    · subst e; rw [if_pos rfl, if_pos rfl, parse_zs]
    · rw [if_neg e, if_neg (fun h => e h.symm)]
  · rw [if_neg hi, if_neg hi]; split <;> rfl
theorem torn_open {d d1 : Dk} {N : Nat} {k k1 : Int} {l : LogR} {rows : List Byt} {t : Byt} (h : Alive d N k) (hk : 0 ≤ k ∧ k < 100000000) (hN : N ≤ 256) (hI : LogI (tabR d N) (N / 2) l rows) (hg : l.gen ≤ 4294967295) (hrc : l.rc ≤ 65535) (hp5 : partsOf t.length ≤ 255) (hfit : l.next + partsOf t.length ≤ N / 2)
    (hd1 : (appendD d l t).2.2.1 = d1) (h1 : Alive d1 N k1) (hk1 : 0 ≤ k1 ∧ k1 < 100000000) (j : Nat) (hj : j < partsOf t.length) (a : Int) (ha : a = ((l.half * (N / 2) : Nat) : Int) + l.next + (j : Nat)) :
    d1.writeR a zs = 0 ∧ (d1.writeD a zs).flushR = 0 ∧ Alive (d1.writeD a zs) N (k1 + 1) ∧ Alive (d1.writeD a zs).flushD N (k1 + 2) ∧ ∃ l', openR (d1.writeD a zs).flushD = (l', rows) := by
  have hr : l.half * (N / 2) + (l.next + partsOf t.length) ≤ N := by
    have h01 : l.half = 0 ∨ l.half = 1 := by have := hI.hf; omega
    rcases h01 with e | e <;> rw [e] <;> simp <;> omega
  obtain ⟨t1, t2, t3, t4, t5⟩ := torn_alive h1 hk1 a (by omega) (by omega)
  refine ⟨t1, t2, t3, t4, ?_⟩
  have htl : t.length < 4294967296 := by unfold partsOf at hp5; omega
  have htab := append_tab h hk hN hI hg hrc hp5 hfit
  rw [hd1] at htab
  have hm := append_mix (T' := tabR (d1.writeD a zs).flushD N) hI htl hfit (fun i => by
    rw [t5 i, htab]
    by_cases e : i = a
    · rw [if_pos e]
      exact Or.inr ⟨j, hj, by rw [e, ha], Or.inl rfl⟩
    · rw [if_neg e]
      by_cases c : ((l.half * (N / 2) : Nat) : Int) + l.next ≤ i ∧ i < ((l.half * (N / 2) : Nat) : Int) + l.next + (cutB l.gen l.rc t).length
      · have hkk : (i - (((l.half * (N / 2) : Nat) : Int) + l.next)).toNat < (cutB l.gen l.rc t).length := by omega
        refine Or.inr ⟨(i - (((l.half * (N / 2) : Nat) : Int) + l.next)).toNat, by rw [cutB_len] at hkk; exact hkk, by omega, Or.inr ?_⟩
        have hu := upd_in (T := tabR d N) (a := ((l.half * (N / 2) : Nat) : Int) + l.next) hkk
        rw [show ((l.half * (N / 2) : Nat) : Int) + l.next + (((i - (((l.half * (N / 2) : Nat) : Int) + l.next)).toNat : Nat) : Int) = i from by omega] at hu
        rw [hu, cutB_get]
      · exact Or.inl (upd_out c))
  rcases hm with ⟨hall, _⟩ | ⟨_, hs⟩
  · have := hall j hj
    rw [← ha, t5 a, if_pos rfl] at this
    cases this
  · refine ⟨_, open_stands (z := N / 2) (by rw [t4.len]) (by omega) (by rw [t4.len]; exact hs)⟩
end Go.Proofs.Ythecdkbagjpboaa
