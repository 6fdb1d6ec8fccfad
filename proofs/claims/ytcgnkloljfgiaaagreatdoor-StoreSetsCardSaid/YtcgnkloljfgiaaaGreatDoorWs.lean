/-
  No program in sight: Fresh and Append on a disk that is alive; an empty disk's log.
-/
import Derived.Test.YtcgnkloljfgiaaaGreatDoorWr
namespace Go.Proofs.YtcgnkloljfgiaaaGreatDoor
open Go.RowKit
theorem fresh_alive {d : Dk} {N : Nat} {k : Int} {l : LogR} {t : Byt} (h : Alive d N k) (hk : 0 ≤ k ∧ k < 100000000) (hN : N ≤ 256) (hm : ∀ i p, tabR d N i = some p → p.gen ≤ l.most) (hh : l.half ≤ 1) (hmo : l.most + 1 ≤ 4294967295) (hfit : partsOf t.length ≤ N / 2) :
    ∃ d', freshD d l t = (0, d', ⟨l.most + 1, if 0 < l.gen then 1 - l.half else 0, partsOf t.length, 1, l.most + 1⟩) ∧ Alive d' N (k + partsOf t.length + 1) ∧ LogI (tabR d' N) (N / 2) ⟨l.most + 1, if 0 < l.gen then 1 - l.half else 0, partsOf t.length, 1, l.most + 1⟩ [t] := by
  have hp5 : partsOf t.length ≤ 255 := by omega
  have ht : t.length < 4294967296 := by unfold partsOf at hp5; omega
  obtain ⟨hf, hhf⟩ : ∃ x, (if 0 < l.gen then 1 - l.half else 0) = x := ⟨_, rfl⟩
  have hf1 : hf ≤ 1 := by rw [← hhf]; split <;> omega
  have hlen : d.last.length = N := h.len
  have hr : hf * (N / 2) + partsOf t.length ≤ N := by
    have h01 : hf = 0 ∨ hf = 1 := by omega
    rcases h01 with e | e <;> rw [e] <;> simp <;> omega
  obtain ⟨q1, q2, q3⟩ := put_tab (ps := cutB (l.most + 1) 0 t) (a := ((hf * (N / 2) : Nat) : Int)) h (by rw [cutB_len]; omega) (by omega) (by rw [cutB_len]; omega) (cutB_ok (by omega) hmo (by omega) hp5)
  refine ⟨(putD d ((hf * (N / 2) : Nat) : Int) (cutB (l.most + 1) 0 t)).1, ?_, by rw [cutB_len] at q2; exact q2, ?_⟩
  · unfold freshD
    rw [hlen, if_neg (by omega)]
    simp only [hhf, q1, if_true]
  · rw [hhf, q3]
    exact logI_fresh (fun i p hp => by have := hm i p hp; omega) (by omega) hf1 ht hfit
theorem append_alive {d : Dk} {N : Nat} {k : Int} {l : LogR} {rows : List Byt} {t : Byt} (h : Alive d N k) (hk : 0 ≤ k ∧ k < 100000000) (hN : N ≤ 256) (hI : LogI (tabR d N) (N / 2) l rows) (hg : l.gen ≤ 4294967295) (hrc : l.rc ≤ 65535) (hp5 : partsOf t.length ≤ 255) :
    (l.next + partsOf t.length ≤ N / 2 → ∃ d', appendD d l t = (true, 0, d', ⟨l.gen, l.half, l.next + partsOf t.length, l.rc + 1, l.most⟩) ∧ Alive d' N (k + partsOf t.length + 1) ∧ LogI (tabR d' N) (N / 2) ⟨l.gen, l.half, l.next + partsOf t.length, l.rc + 1, l.most⟩ (rows ++ [t])) ∧
    (N / 2 < l.next + partsOf t.length → appendD d l t = (false, 0, d, l)) := by
  have ht : t.length < 4294967296 := by unfold partsOf at hp5; omega
  have hlen : d.last.length = N := h.len
  have hg1 := hI.g1
  refine ⟨fun hfit => ?_, fun hf => ?_⟩
  · have hr : l.half * (N / 2) + (l.next + partsOf t.length) ≤ N := by
      have h01 : l.half = 0 ∨ l.half = 1 := by have := hI.hf; omega
      rcases h01 with e | e <;> rw [e] <;> simp <;> omega
    have ea : (l.half : Int) * ((d.last.length : Int) / 2) + l.next = ((l.half * (N / 2) : Nat) : Int) + l.next := by rw [hlen]; simp
    obtain ⟨q1, q2, q3⟩ := put_tab (ps := cutB l.gen l.rc t) (a := ((l.half * (N / 2) : Nat) : Int) + l.next) h (by rw [cutB_len]; omega) (by omega) (by rw [cutB_len]; omega) (cutB_ok (by omega) hg hrc hp5)
    refine ⟨(putD d (((l.half * (N / 2) : Nat) : Int) + l.next) (cutB l.gen l.rc t)).1, ?_, by rw [cutB_len] at q2; exact q2, ?_⟩
    · unfold appendD
      rw [if_neg (by omega), hlen, if_neg (by omega)]
      rw [hlen] at ea
      simp only [ea, q1, if_true]
    · rw [q3]
      exact logI_append hI ht hfit
  · unfold appendD
    rw [if_neg (by omega), hlen, if_pos hf]
theorem parse_zs : parseB zs = none := by
  unfold parseB
  rw [if_neg]
  rintro ⟨h, _⟩
  rw [okP_iff] at h
  exact absurd h.1 (by decide)
theorem tab_fresh0 (n : Nat) : tabR (Dk.fresh0 n) n = fun _ => none := by
  funext i
  unfold tabR
  split
  · rename_i h
    rw [fresh0_cur i h.1 h.2, parse_zs]
  · rfl
theorem open_empty {d : Dk} (h : tabR d d.last.length = fun _ => none) : openR d = (⟨0, 0, 0, 0, 0⟩, []) := by
  have hr : ∀ a en, recR (fun _ => (none : Option PartR)) a en = none := fun _ _ => rfl
  have hb : ∀ a z, beginR (fun _ => (none : Option PartR)) a z = 0 := fun a z => by unfold beginR; rw [hr, if_pos rfl]
  have hm : mostK d 0 d.last.length = 0 := by
    have := (mostK_eq (d := d) (g := 0) d.last.length (fun i p hi hp => by
      have h2 := congrFun h (i : Int)
      unfold tabR at h2
      rw [if_pos (by omega), hp] at h2
      cases h2)).1
    omega
  unfold openR
  simp only [h, hb, hm, Nat.lt_irrefl, if_false, if_true]
theorem open_fresh0 (n : Nat) : openR (Dk.fresh0 n) = (⟨0, 0, 0, 0, 0⟩, []) := open_empty (by rw [show (Dk.fresh0 n).last.length = n from by simp [Dk.fresh0]]; exact tab_fresh0 n)
end Go.Proofs.YtcgnkloljfgiaaaGreatDoor
