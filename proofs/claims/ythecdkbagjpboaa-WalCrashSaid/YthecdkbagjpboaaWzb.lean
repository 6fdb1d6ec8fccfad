/-
  What a crash within Append, within Fresh, leaves; Fuse, Crash.
-/
import Derived.Test.YthecdkbagjpboaaWza
import Derived.Test.YthecdkbagjpboaaWz
namespace Go.Proofs.Ythecdkbagjpboaa
open Go.RowKit Go.Maps Go.MapKept
variable {b : Env} {L : List HP} {w : World} {gd : Nat} {d : Dk}
theorem dfuse_calls (h : St b (HP.disk gd d :: L) w) (n : Int) : Calls Try.prog 32 #[.pointer (some ⟨gd, 0, none⟩), .int .i64 n] w fun x w' => x = .returned (.tuple #[]) ∧ St b (HP.disk gd (d.fused n) :: L) w' := by
  obtain ⟨e, hl, hs⟩ := h
  refine (fuse_calls hs n).mono ?_
  rintro x w' ⟨rfl, h'⟩
  exact ⟨rfl, e, hl, h'⟩
theorem dcrash_calls {pv : Value} {pick : Byt} (h : St b (HP.disk gd d :: L) w) (hF : d.Good) (hm : HP.sl byteE pv pick ∈ L) : Calls Try.prog 33 #[.pointer (some ⟨gd, 0, none⟩), pv] w fun x w' => x = .returned (.tuple #[]) ∧ St b (HP.disk gd (d.crashed pick) :: L) w' := by
  obtain ⟨e, hl, hs⟩ := h
  obtain ⟨cs, hr, hv, _⟩ := hs.sl_mem (up1 hm)
  rw [sc_rds hr] at hv
  refine (crash_calls hs hF.fine pv pick hv).mono ?_
  rintro x w' ⟨rfl, h'⟩
  exact ⟨rfl, e, hl, h'⟩
structure FusedD (d D0 : Dk) (N : Nat) (ops : Int) : Prop where
  good : D0.Good
  ops : D0.ops = ops
  len : D0.last.length = N
  fresh : D0.fresh = []
  tab : tabR D0 N = tabR d N
theorem fused_d {N : Nat} {ops : Int} (h : Alive d N ops) (hf : d.fresh = []) (n : Int) (hn : n < 9223372036854775808) : FusedD d (d.fused n) N ops :=
  ⟨fused_good h.good n hn, h.ops, h.len, hf, rfl⟩
theorem crash_append {D0 : Dk} {N : Nat} {ops : Int} {l : LogR} {rows : List Byt} {t : Byt} (h : FusedD d D0 N ops) (ho : 0 ≤ ops ∧ ops < 100000000) (hN : N ≤ 256) (hI : LogI (tabR d N) (N / 2) l rows) (hg : l.gen ≤ 4294967295) (hrc : l.rc ≤ 65535) (hp5 : partsOf t.length ≤ 255) (pick : Byt) :
    (N / 2 < l.next + partsOf t.length → appendD D0 l t = (false, 0, D0, l) ∧ Alive (D0.crashed pick) N ops ∧ ∃ l9, openR (D0.crashed pick) = (l9, rows)) ∧
    (l.next + partsOf t.length ≤ N / 2 → ∃ (R : Int) (D1 : Dk) (l1 : LogR) (o1 : Int), D1.Good ∧ Alive (D1.crashed pick) N o1 ∧
      ((R = 0 ∧ appendD D0 l t = (true, 0, D1, l1) ∧ ∃ l9, openR (D1.crashed pick) = (l9, rows ++ [t])) ∨ (R ≠ 0 ∧ appendD D0 l t = (false, R, D1, l1) ∧ ((∃ l9, openR (D1.crashed pick) = (l9, rows ++ [t])) ∨ (∃ l9, openR (D1.crashed pick) = (l9, rows)))))) := by
  have hlen := h.len
  have hg1 := hI.g1
  have htl : t.length < 4294967296 := by unfold partsOf at hp5; omega
  refine ⟨fun hf => ?_, fun hfit => ?_⟩
  · have hcr : ∀ i : Int, 0 ≤ i → i < N → (D0.crashed pick).cur i = D0.cur i := fun i hi hi2 => by
      obtain ⟨c1, c2⟩ := crashed_cur h.good.fine pick i hi (by rw [h.len]; exact hi2)
      by_cases hp : picked D0.keys (bitOf pick) D0.keys.length i
      · exact c1 hp
      · rw [c2 hp, cur_nofresh h.fresh]
    have hal : Alive (D0.crashed pick) N ops := ⟨crashed_good h.good pick, rfl, rfl, by
      have := (settleN_rest (d := D0) D0.keys (bitOf pick) D0.keys.length).1
      show (D0.settleN D0.keys (bitOf pick) D0.keys.length).ops = ops
      rw [this, h.ops], by rw [crashed_len, h.len]⟩
    refine ⟨by unfold appendD; rw [if_neg (by omega), hlen, if_pos hf], hal, l, open_log hal.len rfl (by omega) ?_⟩
    have : tabR (D0.crashed pick) N = tabR d N := by
      rw [← h.tab]
      funext i
      unfold tabR
      by_cases hi : 0 ≤ i ∧ i < N
      · rw [if_pos hi, if_pos hi, hcr i hi.1 hi.2]
      · rw [if_neg hi, if_neg hi]
    rw [this]; exact hI
  · have hr : l.half * (N / 2) + (l.next + partsOf t.length) ≤ N := by
      have h01 : l.half = 0 ∨ l.half = 1 := by have := hI.hf; omega
      rcases h01 with e | e <;> rw [e] <;> simp <;> omega
    have ea : (l.half : Int) * ((D0.last.length : Int) / 2) + l.next = ((l.half * (N / 2) : Nat) : Int) + l.next := by rw [hlen]; simp
    obtain ⟨p1, p2, p3, p4, p5⟩ := put_crash (ps := cutB l.gen l.rc t) (a := ((l.half * (N / 2) : Nat) : Int) + l.next) (B := ops) h.good (by rw [h.ops]; exact Int.le_refl _) (by omega) hlen h.fresh (cutB_ok (by omega) hg hrc hp5) (by omega) (by rw [cutB_len]; omega) (by rw [cutB_len]; omega) pick
    obtain ⟨q, hq⟩ : ∃ q, putD D0 (((l.half * (N / 2) : Nat) : Int) + l.next) (cutB l.gen l.rc t) = q := ⟨_, rfl⟩
    rw [hq] at p1 p2 p3 p4 p5
    have mix := append_mix (T' := tabR (q.1.crashed pick) N) hI htl hfit (fun i => by
      rcases p4 i with h1 | ⟨k, hk, hi, h1⟩
      · exact Or.inl (by rw [h1, h.tab])
      · exact Or.inr ⟨k, by rw [cutB_len] at hk; exact hk, hi, Or.inr (by rw [h1, cutB_get])⟩)
    have op : ∀ g hf' W, Stands (tabR (q.1.crashed pick) N) (N / 2) g hf' W → ∃ l9, openR (q.1.crashed pick) = (l9, W) := fun g hf' W hs => ⟨_, open_stands (z := N / 2) (by rw [p1.len]) (by omega) (by rw [p1.len]; exact hs)⟩
    by_cases hz : q.2 = 0
    · refine ⟨0, q.1, ⟨l.gen, l.half, l.next + partsOf t.length, l.rc + 1, l.most⟩, _, p2, p1, Or.inl ⟨rfl, ?_, ?_⟩⟩
      · unfold appendD
        rw [if_neg (by omega), if_neg (by rw [hlen]; omega)]
        simp only [ea, hq, hz, if_true]
      · rcases mix with ⟨_, hs⟩ | ⟨hn, _⟩
        · exact op _ _ _ hs
        · exact absurd (fun k hk => by rw [p5 hz k (by rw [cutB_len]; exact hk), cutB_get]) hn
    · refine ⟨q.2, q.1, l, _, p2, p1, Or.inr ⟨hz, ?_, ?_⟩⟩
      · unfold appendD
        rw [if_neg (by omega), if_neg (by rw [hlen]; omega)]
        simp only [ea, hq, if_neg hz]
      · rcases mix with ⟨_, hs⟩ | ⟨_, hs⟩
        · exact Or.inl (op _ _ _ hs)
        · exact Or.inr (op _ _ _ hs)
theorem crash_fresh {D0 : Dk} {N : Nat} {ops : Int} {l : LogR} {rows : List Byt} {t : Byt} (h : FusedD d D0 N ops) (ho : 0 ≤ ops ∧ ops < 100000000) (hN : N ≤ 256) (hI : LogI (tabR d N) (N / 2) l rows) (hg : l.gen + 1 ≤ 4294967295) (hp5 : partsOf t.length ≤ 255) (hfit : partsOf t.length ≤ N / 2) (pick : Byt) :
    ∃ (R : Int) (D1 : Dk) (l1 : LogR) (o1 : Int), D1.Good ∧ Alive (D1.crashed pick) N o1 ∧ freshD D0 l t = (R, D1, l1) ∧
      ((R = 0 ∧ ∃ l9, openR (D1.crashed pick) = (l9, [t])) ∨ (R ≠ 0 ∧ ((∃ l9, openR (D1.crashed pick) = (l9, [t])) ∨ (∃ l9, openR (D1.crashed pick) = (l9, rows))))) := by
  have hlen := h.len
  have hg1 := hI.g1
  have hmo := hI.mo
  have htl : t.length < 4294967296 := by unfold partsOf at hp5; omega
  have h01 : l.half = 0 ∨ l.half = 1 := by have := hI.hf; omega
  have hr : (1 - l.half) * (N / 2) + partsOf t.length ≤ N := by
    rcases h01 with e | e <;> rw [e] <;> simp <;> omega
  obtain ⟨p1, p2, p3, p4, p5⟩ := put_crash (ps := cutB (l.gen + 1) 0 t) (a := (((1 - l.half) * (N / 2) : Nat) : Int)) (B := ops) h.good (by rw [h.ops]; exact Int.le_refl _) (by omega) hlen h.fresh (cutB_ok (by omega) hg (by omega) hp5) (by omega) (by rw [cutB_len]; omega) (by rw [cutB_len]; omega) pick
  obtain ⟨q, hq⟩ : ∃ q, putD D0 (((1 - l.half) * (N / 2) : Nat) : Int) (cutB (l.gen + 1) 0 t) = q := ⟨_, rfl⟩
  rw [hq] at p1 p2 p3 p4 p5
  have mix := fresh_mix (T' := tabR (q.1.crashed pick) N) hI htl hfit (fun i => by
    rcases p4 i with h1 | ⟨k, hk, hi, h1⟩
    · exact Or.inl (by rw [h1, h.tab])
    · exact Or.inr ⟨k, by rw [cutB_len] at hk; exact hk, hi, by rw [h1, cutB_get]⟩)
  have op : ∀ g hf' W, Stands (tabR (q.1.crashed pick) N) (N / 2) g hf' W → ∃ l9, openR (q.1.crashed pick) = (l9, W) := fun g hf' W hs => ⟨_, open_stands (z := N / 2) (by rw [p1.len]) (by omega) (by rw [p1.len]; exact hs)⟩
  have hfr : freshD D0 l t = (q.2, q.1, if q.2 = 0 then ⟨l.most + 1, 1 - l.half, partsOf t.length, 1, l.most + 1⟩ else { l with most := l.most + 1 }) := by
    unfold freshD
    rw [if_neg (by rw [hlen]; omega)]
    simp only [hlen, if_pos (show 0 < l.gen by omega), hmo, hq]
    by_cases hz : q.2 = 0
    · rw [if_pos hz, if_pos hz, hz]
    · rw [if_neg hz, if_neg hz]
  refine ⟨q.2, q.1, _, _, p2, p1, hfr, ?_⟩
  by_cases hz : q.2 = 0
  · refine Or.inl ⟨hz, ?_⟩
    rcases mix with ⟨_, hs⟩ | ⟨hn, _⟩
    · exact op _ _ _ hs
    · exact absurd (fun k hk => by rw [p5 hz k (by rw [cutB_len]; exact hk), cutB_get]) hn
  · refine Or.inr ⟨hz, ?_⟩
    rcases mix with ⟨_, hs⟩ | ⟨_, hs⟩
    · exact Or.inl (op _ _ _ hs)
    · exact Or.inr (op _ _ _ hs)
theorem append_fresh0 {N : Nat} {k : Int} {l : LogR} {rows : List Byt} {t : Byt} (h : Alive d N k) (hk : 0 ≤ k ∧ k < 100000000) (hN : N ≤ 256) (hf : d.fresh = []) (hI : LogI (tabR d N) (N / 2) l rows) (hg : l.gen ≤ 4294967295) (hrc : l.rc ≤ 65535) (hp5 : partsOf t.length ≤ 255) :
    (appendD d l t).2.2.1.fresh = [] := by
  have hlen : d.last.length = N := h.len
  have hg1 := hI.g1
  unfold appendD
  rw [if_neg (by omega)]
  by_cases c : d.last.length / 2 < l.next + partsOf t.length
  · rw [if_pos c]; exact hf
  · rw [if_neg c]
    have hr : l.half * (N / 2) + (l.next + partsOf t.length) ≤ N := by
      have h01 : l.half = 0 ∨ l.half = 1 := by have := hI.hf; omega
      rw [hlen] at c
      rcases h01 with e | e <;> rw [e] <;> simp <;> omega
    have ea : (l.half : Int) * ((d.last.length : Int) / 2) + l.next = ((l.half * (N / 2) : Nat) : Int) + l.next := by rw [hlen]; simp
    have := put_fresh (cutB l.gen l.rc t) (a := ((l.half * (N / 2) : Nat) : Int) + l.next) h (by rw [cutB_len]; omega) (by omega) (by rw [cutB_len]; omega) (cutB_ok (by omega) hg hrc hp5)
    simp only [ea]
    split <;> exact this
theorem fresh_fresh0 {N : Nat} {k : Int} {l : LogR} {t : Byt} (h : Alive d N k) (hk : 0 ≤ k ∧ k < 100000000) (hN : N ≤ 256) (hf : d.fresh = []) (hh : l.half ≤ 1) (hmo : l.most + 1 ≤ 4294967295) (hp5 : partsOf t.length ≤ 255) : (freshD d l t).2.1.fresh = [] := by
  have hlen : d.last.length = N := h.len
  unfold freshD
  by_cases c : d.last.length / 2 < partsOf t.length
  · rw [if_pos c]; exact hf
  · rw [if_neg c]
    obtain ⟨hf1, hhf⟩ : ∃ x, (if 0 < l.gen then 1 - l.half else 0) = x := ⟨_, rfl⟩
    have hx : hf1 ≤ 1 := by rw [← hhf]; split <;> omega
    have hr : hf1 * (N / 2) + partsOf t.length ≤ N := by
      have h01 : hf1 = 0 ∨ hf1 = 1 := by omega
      rw [hlen] at c
      rcases h01 with e | e <;> rw [e] <;> simp <;> omega
    have := put_fresh (cutB (l.most + 1) 0 t) (a := ((hf1 * (N / 2) : Nat) : Int)) h (by rw [cutB_len]; omega) (by omega) (by rw [cutB_len]; omega) (cutB_ok (by omega) hmo (by omega) hp5)
    simp only [hhf, hlen]
    split <;> exact this
end Go.Proofs.Ythecdkbagjpboaa
