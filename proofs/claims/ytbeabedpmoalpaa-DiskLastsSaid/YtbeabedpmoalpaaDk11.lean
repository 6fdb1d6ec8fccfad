/-
  package disk, no program in sight: what is read after a write, a flush, a crash.
-/
import Derived.Test.YtbeabedpmoalpaaDk10
namespace Go.Proofs.Ytbeabedpmoalpaa
open Go.RowKit Go.Maps Go.MapKept
variable {d : Dk}

def Dk.lst (d : Dk) (n : Int) : List UInt8 := d.last.getD n.toNat []

/-- Is the sector n one of the first k keys, and picked? -/
def picked (ks : List Int) (f : Nat → Bool) (k : Nat) (n : Int) : Prop := ∃ i, i < k ∧ ks.getD i 0 = n ∧ f i = true

theorem settleN_lst (h : d.Fine) (f : Nat → Bool) (n : Int) (h0 : 0 ≤ n) (h1 : n < d.last.length) : ∀ k, k ≤ d.keys.length → (picked d.keys f k n → (d.settleN d.keys f k).lst n = d.cur n) ∧ (¬ picked d.keys f k n → (d.settleN d.keys f k).lst n = d.lst n)
  | 0, _ => ⟨fun ⟨i, hi, _⟩ => by omega, fun _ => rfl⟩
  | k + 1, hk => by
    obtain ⟨ih1, ih2⟩ := settleN_lst h f n h0 h1 k (by omega)
    obtain ⟨s, hs, hsl, hm0, hm1⟩ := settleN_at h f k (by omega)
    have hg := settleN_get h d.keys f k (d.keys.getD k 0) (by omega)
    rw [hs] at hg
    have hcur : s = d.cur (d.keys.getD k 0) := by
      split at hg
      · cases hg
      · unfold Dk.cur; rw [← hg]; rfl
    have hlen := settleN_len (d := d) d.keys f k
    have hstep : (d.settleN d.keys f (k + 1)).lst n = if f k = true ∧ d.keys.getD k 0 = n then s else (d.settleN d.keys f k).lst n := by
      show ((d.settleN d.keys f k).settle (d.keys.getD k 0) (f k)).lst n = _
      unfold Dk.settle Dk.lst
      simp only [hs, Option.getD_some]
      cases hf : f k with
      | false => simp
      | true =>
        simp only [if_true, true_and]
        by_cases hmn : d.keys.getD k 0 = n
        · rw [if_pos hmn, hmn]
          rw [List.getD_eq_getElem?_getD, List.getElem?_set_self (by rw [hlen]; omega)]
          rfl
        · rw [if_neg hmn, List.getD_eq_getElem?_getD, List.getElem?_set_ne (by omega)]
          rfl
    rw [hstep]
    by_cases hc : f k = true ∧ d.keys.getD k 0 = n
    · rw [if_pos hc]
      refine ⟨fun _ => by rw [hcur, hc.2], fun hn => absurd ⟨k, by omega, hc.2, hc.1⟩ hn⟩
    · rw [if_neg hc]
      refine ⟨fun ⟨i, hi, he, hfi⟩ => ih1 ?_, fun hn => ih2 (fun ⟨i, hi, he, hfi⟩ => hn ⟨i, by omega, he, hfi⟩)⟩
      rcases Nat.lt_or_ge i k with hik | hik
      · exact ⟨i, hik, he, hfi⟩
      · have : i = k := by omega
        subst this; exact absurd ⟨hfi, he⟩ hc

theorem cur_nofresh (h : d.fresh = []) (n : Int) : d.cur n = d.lst n := by simp [Dk.cur, h, kget, Dk.lst]

theorem cur_nokey (n : Int) (h : n ∉ d.keys) : d.cur n = d.lst n := by
  have : kget d.fresh n = none := kget_none.2 (fun hm => h ((keys_mem n).2 hm))
  simp [Dk.cur, this, Dk.lst]

theorem spend_fresh (d : Dk) : d.spend.fresh = d.fresh ∧ d.spend.last = d.last := by unfold Dk.spend; split <;> exact ⟨rfl, rfl⟩

theorem flushed_fresh (h : d.Fine) : d.flushed.fresh = [] := settleN_all (spend_fine h) _

theorem flushed_cur (h : d.Fine) (n : Int) (h0 : 0 ≤ n) (h1 : n < d.last.length) : d.flushed.cur n = d.cur n ∧ d.flushed.lst n = d.cur n := by
  have hs := spend_fine h
  have hl : n < d.spend.last.length := by rw [(spend_fresh d).2]; exact h1
  obtain ⟨i1, i2⟩ := settleN_lst hs (fun _ => true) n h0 hl d.spend.keys.length (Nat.le_refl _)
  have hcs : d.spend.cur n = d.cur n := by unfold Dk.cur; rw [(spend_fresh d).1, (spend_fresh d).2]
  have key : d.flushed.lst n = d.cur n := by
    by_cases hk : n ∈ d.spend.keys
    · obtain ⟨i, hi, he⟩ := List.getElem_of_mem hk
      rw [← hcs]
      exact i1 ⟨i, hi, by simp [List.getD, hi, he], rfl⟩
    · rw [← hcs, cur_nokey n hk]
      refine i2 (fun ⟨i, hi, he, _⟩ => hk ?_)
      rw [← he]; simp only [List.getD, List.getElem?_eq_getElem hi, Option.getD_some]
      exact List.getElem_mem hi
  exact ⟨by rw [cur_nofresh (flushed_fresh h), key], key⟩

theorem crashed_fresh (h : d.Fine) (pick : List UInt8) : (d.crashed pick).fresh = [] := settleN_all h _

theorem crashed_cur (h : d.Fine) (pick : List UInt8) (n : Int) (h0 : 0 ≤ n) (h1 : n < d.last.length) :
    (picked d.keys (bitOf pick) d.keys.length n → (d.crashed pick).cur n = d.cur n) ∧ (¬ picked d.keys (bitOf pick) d.keys.length n → (d.crashed pick).cur n = d.lst n) := by
  obtain ⟨i1, i2⟩ := settleN_lst h (bitOf pick) n h0 h1 d.keys.length (Nat.le_refl _)
  rw [cur_nofresh (crashed_fresh h pick)]
  exact ⟨i1, i2⟩

theorem wrote_lst (d : Dk) (n j : Int) (l : List UInt8) : (d.wrote n l).lst j = d.lst j := by
  have e2 : (d.wrote n l).last = d.last := by unfold Dk.wrote; simp only [(spend_fresh d).2]
  unfold Dk.lst; rw [e2]
theorem wrote_fresh (d : Dk) (n : Int) (l : List UInt8) : (d.wrote n l).fresh = kput d.fresh n l := by unfold Dk.wrote; simp only [(spend_fresh d).1]

theorem fresh0_cur {n : Nat} (j : Int) (h0 : 0 ≤ j) (h1 : j < n) : (Dk.fresh0 n).cur j = zs := by
  have : j.toNat < n := by omega
  simp [Dk.cur, Dk.fresh0, kget, List.getD, this]

/-- One sector fresh alone: a crash keeps it just where its bit says so. -/
theorem crashed_one (h : d.Fine) (j : Int) (y : List UInt8) (hf : d.fresh = [(j, y)]) (pick : List UInt8) (n : Int) (h0 : 0 ≤ n) (h1 : n < d.last.length) :
    (d.crashed pick).cur n = if n = j ∧ bitOf pick 0 = true then y else d.lst n := by
  have hk : d.keys = [j] := by unfold Dk.keys; rw [hf]; simp [sortI]
  obtain ⟨i1, i2⟩ := crashed_cur h pick n h0 h1
  have hp : picked d.keys (bitOf pick) d.keys.length n ↔ n = j ∧ bitOf pick 0 = true := by
    rw [hk]
    constructor
    · rintro ⟨i, hi, he, hb⟩
      have : i = 0 := by simp at hi; exact hi
      subst this
      exact ⟨by simpa using he.symm, hb⟩
    · rintro ⟨rfl, hb⟩
      exact ⟨0, by simp, rfl, hb⟩
  by_cases hc : n = j ∧ bitOf pick 0 = true
  · rw [i1 (hp.2 hc), if_pos hc, hc.1]
    simp [Dk.cur, hf, kget]
  · rw [i2 (fun x => hc (hp.1 x)), if_neg hc]
end Go.Proofs.Ytbeabedpmoalpaa
