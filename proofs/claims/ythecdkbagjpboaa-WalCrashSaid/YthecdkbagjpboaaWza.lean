/-
  No program in sight: a crash within a put.
-/
import Derived.Test.YthecdkbagjpboaaWy
namespace Go.Proofs.Ythecdkbagjpboaa
open Go.RowKit
def NewAt (a : Int) (ps : List PartR) (i : Int) (s : Byt) : Prop := ∃ (k : Nat) (h : k < ps.length), i = a + (k : Nat) ∧ s = partB ps[k]
structure MixD (c0 : Int → Byt) (N : Nat) (a : Int) (ps : List PartR) (B : Int) (d : Dk) : Prop where
  good : d.Good
  ops : d.ops ≤ B
  len : d.last.length = N
  cur : ∀ i : Int, 0 ≤ i → i < N → d.cur i = c0 i ∨ NewAt a ps i (d.cur i)
  lst : ∀ i : Int, 0 ≤ i → i < N → d.lst i = c0 i ∨ NewAt a ps i (d.lst i)
theorem mix_dead {c0 : Int → Byt} {N : Nat} {a : Int} {ps : List PartR} {B : Int} {d : Dk} (h : MixD c0 N a ps B d) : MixD c0 N a ps B { d with dead := true } :=
  ⟨good_with h.good true, h.ops, h.len, h.cur, h.lst⟩
theorem wrote_ops (d : Dk) (n : Int) (l : Byt) : (d.wrote n l).ops ≤ d.ops + 1 := by
  unfold Dk.wrote Dk.spend
  split
  · show d.ops ≤ d.ops + 1; omega
  · exact Int.le_refl _
theorem mix_write {c0 : Int → Byt} {N : Nat} {a : Int} {ps : List PartR} {B : Int} {d : Dk} (h : MixD c0 N a ps B d) (hB : B < 900000000) {j : Nat} (hj : j < ps.length) (hok : ∀ p ∈ ps, p.ok) (h0 : 0 ≤ a) (h1 : a + ps.length ≤ N) :
    MixD c0 N a ps (B + 1) (d.writeD (a + (j : Nat)) (partB ps[j])) ∧ (d.writeR (a + (j : Nat)) (partB ps[j]) = 0 → d.writeD (a + (j : Nat)) (partB ps[j]) = d.wrote (a + (j : Nat)) (partB ps[j])) := by
  have hl : (partB ps[j]).length = 64 := partB_len (hok _ (List.getElem_mem hj)).2.2.2.2.2.2
  have hh : d.has (a + (j : Nat)) = true := by simp [Dk.has, h.len]; omega
  have up : MixD c0 N a ps (B + 1) d := ⟨h.good, by have := h.ops; omega, h.len, h.cur, h.lst⟩
  unfold Dk.writeD Dk.writeR
  by_cases c1 : d.dead = true
  · rw [if_pos c1, if_pos c1]
    exact ⟨up, fun h => by cases h⟩
  · rw [if_neg c1, if_neg c1]
    have c2 : ¬ ((!d.has (a + (j : Nat)) || decide ((partB ps[j]).length ≠ 64)) = true) := by simp [hh, hl]
    rw [if_neg c2, if_neg c2]
    by_cases c3 : d.fuse = 0
    · rw [if_pos c3, if_pos c3]
      exact ⟨mix_dead up, fun h => by cases h⟩
    · rw [if_neg c3, if_neg c3]
      refine ⟨⟨wrote_good h.good (by have := h.ops; omega) _ _ hl hh, by have := h.ops; have := wrote_ops d (a + (j : Nat)) (partB ps[j]); omega, by rw [wrote_len, h.len], fun i hi hi2 => ?_, fun i hi hi2 => ?_⟩, fun _ => rfl⟩
      · rw [wrote_cur]
        by_cases e : a + (j : Int) = i
        · rw [if_pos e]; exact Or.inr ⟨j, hj, e.symm, rfl⟩
        · rw [if_neg e]; exact h.cur i hi hi2
      · rw [wrote_lst]; exact h.lst i hi hi2
theorem mix_flush {c0 : Int → Byt} {N : Nat} {a : Int} {ps : List PartR} {B : Int} {d : Dk} (h : MixD c0 N a ps B d) (hB : B < 900000000) :
    MixD c0 N a ps (B + 1) d.flushD ∧ (d.flushR = 0 → d.flushD = d.flushed) := by
  have up : MixD c0 N a ps (B + 1) d := ⟨h.good, by have := h.ops; omega, h.len, h.cur, h.lst⟩
  unfold Dk.flushD Dk.flushR
  by_cases c1 : d.dead = true
  · rw [if_pos c1, if_pos c1]
    exact ⟨up, fun h => by cases h⟩
  · rw [if_neg c1, if_neg c1]
    by_cases c3 : d.fuse = 0
    · rw [if_pos c3, if_pos c3]
      exact ⟨mix_dead up, fun h => by cases h⟩
    · rw [if_neg c3, if_neg c3]
      have hops : d.flushed.ops ≤ d.ops + 1 := by
        unfold Dk.flushed
        rw [(settleN_rest (d := d.spend) d.spend.keys (fun _ => true) d.spend.keys.length).1]
        unfold Dk.spend
        split
        · show d.ops ≤ d.ops + 1; omega
        · exact Int.le_refl _
      refine ⟨⟨flushed_good h.good (by have := h.ops; omega), by have := h.ops; omega, by unfold Dk.flushed; rw [settleN_len, spend_len, h.len], fun i hi hi2 => ?_, fun i hi hi2 => ?_⟩, fun _ => rfl⟩
      · rw [(flushed_cur h.good.fine i hi (by rw [h.len]; exact hi2)).1]; exact h.cur i hi hi2
      · rw [(flushed_cur h.good.fine i hi (by rw [h.len]; exact hi2)).2]; exact h.cur i hi hi2
theorem put_mixD {c0 : Int → Byt} {N : Nat} {a : Int} {ps : List PartR} (hok : ∀ p ∈ ps, p.ok) (h0 : 0 ≤ a) (h1 : a + ps.length ≤ N) : ∀ (qs : List PartR) (j : Nat) (d : Dk) (B : Int), j + qs.length = ps.length → ps.drop j = qs → B + qs.length < 800000000 → 0 ≤ B → MixD c0 N a ps B d →
    MixD c0 N a ps (B + qs.length + 1) (putD d (a + (j : Nat)) qs).1 ∧ ((putD d (a + (j : Nat)) qs).2 = 0 → (∀ k (h : k < ps.length), k < j → d.cur (a + (k : Nat)) = partB ps[k]) → ∀ k (h : k < ps.length), (putD d (a + (j : Nat)) qs).1.cur (a + (k : Nat)) = partB ps[k] ∧ (putD d (a + (j : Nat)) qs).1.lst (a + (k : Nat)) = partB ps[k])
  | [], j, d, B, hjl, _, hB, hB0, h => by
    simp only [List.length_nil] at hB hjl
    obtain ⟨m1, m2⟩ := mix_flush h (by omega)
    refine ⟨by simp only [putD, List.length_nil]; rw [show B + ((0 : Nat) : Int) + 1 = B + 1 from by omega]; exact m1, fun hr hd k hk => ?_⟩
    simp only [putD] at hr ⊢
    rw [m2 hr]
    obtain ⟨f1, f2⟩ := flushed_cur h.good.fine (a + (k : Nat)) (by omega) (by rw [h.len]; omega)
    rw [f1, f2]
    have := hd k hk (by omega)
    exact ⟨this, this⟩
  | p :: qs, j, d, B, hjl, hd, hB, hB0, h => by
    simp only [List.length_cons] at hB hjl
    have hj : j < ps.length := by omega
    have hp : ps[j] = p := by
      have := List.drop_eq_getElem_cons hj
      rw [hd] at this
      exact (List.cons.inj this).1.symm
    have hd2 : ps.drop (j + 1) = qs := by
      have := List.drop_eq_getElem_cons hj
      rw [hd] at this
      exact (List.cons.inj this).2.symm
    obtain ⟨m1, m2⟩ := mix_write h (by omega) hj hok h0 h1
    rw [hp] at m1 m2
    by_cases hr : d.writeR (a + (j : Nat)) (partB p) = 0
    · have ih := put_mixD hok h0 h1 qs (j + 1) (d.writeD (a + (j : Nat)) (partB p)) (B + 1) (by omega) hd2 (by omega) (by omega) m1
      have e : putD d (a + (j : Nat)) (p :: qs) = putD (d.writeD (a + (j : Nat)) (partB p)) (a + ((j + 1 : Nat) : Int)) qs := by
        rw [show a + ((j + 1 : Nat) : Int) = a + (j : Nat) + 1 from by omega]
        conv => lhs; unfold putD
        rw [if_pos hr]
      rw [e]
      refine ⟨by have := ih.1; simp only [List.length_cons]; rw [show B + ((qs.length + 1 : Nat) : Int) + 1 = B + 1 + qs.length + 1 from by omega]; exact this, fun h2 hdn k hk => ih.2 h2 (fun k' hk' hk'' => ?_) k hk⟩
      rw [m2 hr, wrote_cur]
      by_cases e2 : k' = j
      · subst e2; rw [if_pos rfl, hp]
      · rw [if_neg (by omega)]; exact hdn k' hk' (by omega)
    · have e : putD d (a + (j : Nat)) (p :: qs) = (d.writeD (a + (j : Nat)) (partB p), d.writeR (a + (j : Nat)) (partB p)) := by
        conv => lhs; unfold putD
        rw [if_neg hr]
      rw [e]
      exact ⟨⟨m1.good, by have := m1.ops; simp only [List.length_cons]; omega, m1.len, m1.cur, m1.lst⟩, fun h2 => absurd h2 hr⟩
theorem put_crash {d : Dk} {N : Nat} {a B : Int} {ps : List PartR} (hg : d.Good) (hops : d.ops ≤ B) (hB : 0 ≤ B ∧ B < 700000000) (hlen : d.last.length = N) (hf : d.fresh = []) (hok : ∀ p ∈ ps, p.ok) (h0 : 0 ≤ a) (h1 : a + ps.length ≤ N) (hps : ps.length ≤ 1000) (pick : Byt) :
    Alive ((putD d a ps).1.crashed pick) N (putD d a ps).1.ops ∧ (putD d a ps).1.Good ∧ (putD d a ps).1.ops ≤ B + ps.length + 1 ∧
    (∀ i : Int, tabR ((putD d a ps).1.crashed pick) N i = tabR d N i ∨ ∃ (k : Nat) (h : k < ps.length), i = a + (k : Nat) ∧ tabR ((putD d a ps).1.crashed pick) N i = some ps[k]) ∧
    ((putD d a ps).2 = 0 → ∀ (k : Nat) (h : k < ps.length), tabR ((putD d a ps).1.crashed pick) N (a + (k : Nat)) = some ps[k]) := by
  have hm0 : MixD d.cur N a ps B d := ⟨hg, hops, hlen, fun i _ _ => Or.inl rfl, fun i _ _ => Or.inl (by rw [cur_nofresh hf])⟩
  have hm := put_mixD hok h0 h1 ps 0 d B (by omega) rfl (by omega) (by omega) hm0
  rw [show a + ((0 : Nat) : Int) = a from by omega] at hm
  obtain ⟨m1, m2⟩ := hm
  obtain ⟨e1, e2, e3⟩ := settleN_rest (d := (putD d a ps).1) (putD d a ps).1.keys (bitOf pick) (putD d a ps).1.keys.length
  have hc : ∀ i : Int, 0 ≤ i → i < N → ((putD d a ps).1.crashed pick).cur i = (putD d a ps).1.cur i ∨ ((putD d a ps).1.crashed pick).cur i = (putD d a ps).1.lst i := fun i hi hi2 => by
    obtain ⟨c1, c2⟩ := crashed_cur m1.good.fine pick i hi (by rw [m1.len]; exact hi2)
    by_cases hp : picked (putD d a ps).1.keys (bitOf pick) (putD d a ps).1.keys.length i
    · exact Or.inl (c1 hp)
    · exact Or.inr (c2 hp)
  refine ⟨⟨crashed_good m1.good pick, rfl, rfl, e1, by rw [crashed_len, m1.len]⟩, m1.good, m1.ops, fun i => ?_, fun hr k hk => ?_⟩
  · unfold tabR
    by_cases hi : 0 ≤ i ∧ i < N
    · rw [if_pos hi, if_pos hi]
      have key : ((putD d a ps).1.crashed pick).cur i = d.cur i ∨ NewAt a ps i (((putD d a ps).1.crashed pick).cur i) := by
        rcases hc i hi.1 hi.2 with h | h
        · rw [h]; exact m1.cur i hi.1 hi.2
        · rw [h]; exact m1.lst i hi.1 hi.2
      rcases key with h | ⟨k, hk, hi3, h⟩
      · exact Or.inl (by rw [h])
      · exact Or.inr ⟨k, hk, hi3, by rw [h]; exact parse_part (hok _ (List.getElem_mem hk))⟩
    · rw [if_neg hi, if_neg hi]; exact Or.inl rfl
  · have hin : 0 ≤ a + (k : Nat) ∧ a + (k : Nat) < N := by omega
    unfold tabR
    rw [if_pos hin]
    obtain ⟨n1, n2⟩ := m2 hr (fun k' _ hk' => by omega) k hk
    have : ((putD d a ps).1.crashed pick).cur (a + (k : Nat)) = partB ps[k] := by
      rcases hc _ hin.1 hin.2 with h | h
      · rw [h, n1]
      · rw [h, n2]
    rw [this]
    exact parse_part (hok _ (List.getElem_mem hk))
theorem put_fresh : ∀ (ps : List PartR) {d : Dk} {N : Nat} {k a : Int} (_ : Alive d N k) (_ : k + ps.length < 999999999) (_ : 0 ≤ a) (_ : a + ps.length ≤ N) (_ : ∀ p ∈ ps, p.ok), (putD d a ps).1.fresh = []
  | [], d, N, k, a, h, hk, h0, h1, _ => by
    obtain ⟨f1, f2, f3⟩ := alive_flush h (by simpa using hk)
    simp only [putD, f2]
    exact flushed_fresh h.good.fine
  | p :: ps, d, N, k, a, h, hk, h0, h1, hok => by
    simp only [List.length_cons] at hk h1
    obtain ⟨f1, f2, f3⟩ := alive_write h (by omega) a h0 (by omega) (partB p) (partB_len (hok p List.mem_cons_self).2.2.2.2.2.2)
    have ih := put_fresh ps (d := d.wrote a (partB p)) (a := a + 1) f3 (by omega) (by omega) (by omega) (fun q hq => hok q (List.mem_cons_of_mem _ hq))
    have e : putD d a (p :: ps) = putD (d.wrote a (partB p)) (a + 1) ps := by
      conv => lhs; unfold putD
      rw [if_pos f1, f2]
    rw [e]; exact ih
end Go.Proofs.Ythecdkbagjpboaa
