/-
  No program in sight: what the program's disk answers is what the document's answers.
-/
import Derived.Test.YtbeabedpmoalpaaDr
namespace Go.Proofs.Ytbeabedpmoalpaa
open Go.RowKit Go.Maps Go.MapKept
variable {d : Dk} {r : Rk}

structure DR (d : Dk) (r : Rk) : Prop where
  good : d.Good
  len : r.Len d.last.length
  dead : r.dead = d.dead
  n : r.n = d.ops
  left : r.left = d.fuse
  now : ∀ i : Nat, i < d.last.length → r.now.getD i [] = d.cur i
  last : ∀ i : Nat, i < d.last.length → r.last.getD i [] = d.lst i
  fresh : ∀ i : Nat, i < d.last.length → r.fresh.getD i false = (kget d.fresh (i : Int)).isSome

theorem DR.ok (h : DR d r) : r.Ok :=
  ⟨h.len.last.trans h.len.now.symm, h.len.fresh.trans h.len.now.symm, by rw [h.len.now]; exact h.good.fine.ok.most, h.len.nows, h.len.lasts, by rw [h.n]; exact h.good.ops0, by rw [h.n]; exact h.good.ops1, by rw [h.left]; exact h.good.fuse1⟩

theorem DR.has (h : DR d r) (n : Int) : r.has n = d.has n := by unfold Rk.has Dk.has; rw [h.len.now]

theorem DR.start (n : Nat) (hn : n ≤ 256) : DR (Dk.fresh0 n) (Rk.fresh0 n) := by
  refine ⟨fresh0_good n hn, ⟨by simp [Rk.fresh0, Dk.fresh0], by simp [Rk.fresh0, Dk.fresh0], by simp [Rk.fresh0, Dk.fresh0], ?_, ?_⟩, rfl, rfl, rfl, fun i hi => ?_, fun i hi => ?_, fun i hi => ?_⟩
  · intro s hs; rw [List.eq_of_mem_replicate hs]; rfl
  · intro s hs; rw [List.eq_of_mem_replicate hs]; rfl
  · have : i < n := by simpa [Dk.fresh0] using hi
    rw [fresh0_cur (i : Int) (by omega) (by omega)]; simp [Rk.fresh0, List.getD, this]
  · have : i < n := by simpa [Dk.fresh0] using hi
    simp [Rk.fresh0, Dk.fresh0, Dk.lst, List.getD, this]
  · have : i < n := by simpa [Dk.fresh0] using hi
    simp [Rk.fresh0, Dk.fresh0, kget, List.getD, this]

theorem DR.read (h : DR d r) (n : Int) : r.readR n = d.readR n ∧ r.readB n = d.readB n := by
  unfold Rk.readR Dk.readR Rk.readB Dk.readB
  rw [h.has, h.dead]
  refine ⟨rfl, ?_⟩
  split
  · rfl
  · split
    · rename_i hn
      have hn' : 0 ≤ n ∧ n < d.last.length := by simpa [Dk.has] using hn
      rw [h.now n.toNat (by omega), Int.toNat_of_nonneg hn'.1]
    · rfl

theorem DR.fuse (h : DR d r) (n : Int) (hn : -1 ≤ n) (hn2 : n < 9223372036854775808) : DR (d.fused n) (r.fused n) := by
  have hg := fused_good h.good n hn2
  by_cases h0 : n < 0
  · have h1 : n = -1 := by omega
    subst h1
    have e1 : r.fused (-1) = { r with left := -1, dead := false } := rfl
    have e2 : d.fused (-1) = { d with fuse := -1, dead := false } := by simp [Dk.fused]
    rw [e2] at hg
    rw [e1, e2]
    exact ⟨hg, ⟨h.len.now, h.len.last, h.len.fresh, h.len.nows, h.len.lasts⟩, rfl, h.n, rfl, h.now, h.last, h.fresh⟩
  · have e1 : r.fused n = { r with left := n } := by simp [Rk.fused, h0]
    have e2 : d.fused n = { d with fuse := n } := by
      have e3 : max n (-1) = n := by omega
      have e4 : decide (0 ≤ n) = true := by simp; omega
      simp [Dk.fused, e3, e4]
    rw [e2] at hg
    rw [e1, e2]
    exact ⟨hg, ⟨h.len.now, h.len.last, h.len.fresh, h.len.nows, h.len.lasts⟩, h.dead, h.n, rfl, h.now, h.last, h.fresh⟩

theorem DR.kill (h : DR d r) : DR { d with dead := true } { r with dead := true } :=
  ⟨good_with h.good true, ⟨h.len.now, h.len.last, h.len.fresh, h.len.nows, h.len.lasts⟩, rfl, h.n, h.left, h.now, h.last, h.fresh⟩

theorem DR.spend (h : DR d r) (hf : d.fuse ≠ 0) : r.spend.dead = d.spend.dead ∧ r.spend.n = d.spend.ops ∧ r.spend.left = d.spend.fuse := by
  have hl : r.left ≠ 0 := by rw [h.left]; exact hf
  unfold Rk.spend Dk.spend
  rw [if_neg hl, if_neg hf]
  exact ⟨h.dead, by show r.n + 1 = d.ops + 1; rw [h.n], by show (if 0 < r.left then r.left - 1 else r.left) = _; rw [h.left]⟩

theorem getD_set {α : Type} (l : List α) (k i : Nat) (x y : α) : (l.set k x).getD i y = if k = i ∧ k < l.length then x else l.getD i y := by
  by_cases h1 : k = i
  · subst h1
    by_cases h2 : k < l.length
    · simp [List.getD, h2]
    · simp [List.getD, h2]
  · simp [List.getD, List.getElem?_set_ne h1, h1]

theorem DR.write (h : DR d r) (hops : d.ops < 999999999) (n : Int) (l : List UInt8) : r.writeR n l = d.writeR n l ∧ DR (d.writeD n l) (r.writeD n l) := by
  have hg := writeD_good h.good hops n l
  unfold Rk.writeR Dk.writeR Rk.writeD
  rw [h.has, h.dead, h.left]
  refine ⟨rfl, ?_⟩
  unfold Dk.writeD at hg ⊢
  split
  · exact h
  · split
    · exact h
    · split
      · exact (by have hk := h.kill; rw [h.left] at hk; exact hk)
      · rename_i h1 h2 h3
        rw [if_neg h1, if_neg h2, if_neg h3] at hg
        have hh : d.has n = true ∧ l.length = 64 := by
          simp only [Bool.or_eq_true, Bool.not_eq_true', decide_eq_true_eq, not_or, Bool.not_eq_false] at h2
          exact ⟨h2.1, Decidable.not_not.1 h2.2⟩
        have hn' : 0 ≤ n ∧ n < d.last.length := by simpa [Dk.has] using hh.1
        obtain ⟨k, rfl⟩ : ∃ k : Nat, n = k := ⟨n.toNat, by omega⟩
        have hk : k < d.last.length := by omega
        obtain ⟨p1, p2, p3⟩ := h.spend h3
        have elast : (d.wrote k l).last = d.last := by unfold Dk.wrote; simp only [(spend_fresh d).2]
        refine ⟨hg, ?_, p1, p2, p3, ?_, ?_, ?_⟩
        · rw [elast]
          refine ⟨?_, ?_, ?_, ?_, ?_⟩
          · show (r.now.set _ _).length = _; rw [List.length_set]; exact h.len.now
          · show r.spend.last.length = _; rw [(spend_rest r).2.1]; exact h.len.last
          · show (r.fresh.set _ _).length = _; rw [List.length_set]; exact h.len.fresh
          · exact set64 h.len.nows _ hh.2
          · show ∀ s ∈ r.spend.last, _; rw [(spend_rest r).2.1]; exact h.len.lasts
        · rw [elast]
          intro i hi
          show (r.now.set k l).getD i [] = _
          rw [getD_set, wrote_cur, h.len.now]
          by_cases hki : k = i
          · subst hki; rw [if_pos ⟨rfl, hk⟩, if_pos rfl]
          · rw [if_neg (fun x => hki x.1), if_neg (by omega)]; exact h.now i hi
        · rw [elast]
          intro i hi
          show r.spend.last.getD i [] = _
          rw [(spend_rest r).2.1, wrote_lst]; exact h.last i hi
        · rw [elast]
          intro i hi
          show (r.fresh.set k true).getD i false = _
          rw [getD_set, wrote_fresh, kget_kput, h.len.fresh]
          by_cases hki : k = i
          · subst hki; rw [if_pos ⟨rfl, hk⟩, if_pos rfl]; rfl
          · rw [if_neg (fun x => hki x.1), if_neg (by omega)]; exact h.fresh i hi

theorem copyN_get (q : Rk) {n : Nat} (hq : q.Len n) : ∀ k, k ≤ n → ∀ i, i < n → (q.copyN k).last.getD i [] = (if i < k then q.now.getD i [] else q.last.getD i []) ∧ (q.copyN k).fresh.getD i false = (if i < k then false else q.fresh.getD i false)
  | 0, _, i, _ => by simp [Rk.copyN]
  | k + 1, hk, i, hi => by
    obtain ⟨h1, h2⟩ := copyN_get q hq k (by omega) i hi
    obtain ⟨r1, r2, r3, _⟩ := copyN_rest q k
    have e1 : (q.copyN (k + 1)).last = (q.copyN k).last.set k ((q.copyN k).now.getD k []) := rfl
    have e2 : (q.copyN (k + 1)).fresh = (q.copyN k).fresh.set k false := rfl
    rw [e1, e2, getD_set, getD_set, r1, r2, r3, hq.last, hq.fresh]
    rcases Nat.lt_trichotomy i k with hlt | heq | hgt
    · rw [h1, h2]
      have a1 : ¬ (k = i ∧ k < n) := by omega
      have a2 : i < k + 1 := by omega
      simp only [a1, a2, hlt, if_true, if_false]; exact ⟨trivial, trivial⟩
    · subst heq
      have a1 : i = i ∧ i < n := ⟨rfl, hi⟩
      have a2 : i < i + 1 := by omega
      rw [if_pos a1, if_pos a1, if_pos a2, if_pos a2]
      exact ⟨rfl, rfl⟩
    · rw [h1, h2]
      have a1 : ¬ (k = i ∧ k < n) := by omega
      have a2 : ¬ i < k + 1 := by omega
      have a3 : ¬ i < k := by omega
      simp only [a1, a2, a3, if_false]; exact ⟨trivial, trivial⟩

theorem copyN_len {q : Rk} {n : Nat} (hq : q.Len n) : ∀ k, k ≤ n → (q.copyN k).Len n
  | 0, _ => hq
  | k + 1, hk => by
    have h := copyN_len hq k (by omega)
    refine ⟨h.now, ?_, ?_, h.nows, ?_⟩
    · show ((q.copyN k).last.set _ _).length = _; rw [List.length_set]; exact h.last
    · show ((q.copyN k).fresh.set _ _).length = _; rw [List.length_set]; exact h.fresh
    · exact set64 h.lasts k (getD64 h.nows (by rw [h.now]; omega))

theorem Rk.Len.spend {n : Nat} (h : r.Len n) : r.spend.Len n := by
  obtain ⟨s1, s2, s3⟩ := spend_rest r
  exact ⟨by rw [s1]; exact h.now, by rw [s2]; exact h.last, by rw [s3]; exact h.fresh, by rw [s1]; exact h.nows, by rw [s2]; exact h.lasts⟩

theorem DR.flush (h : DR d r) (hops : d.ops < 999999999) : r.flushR = d.flushR ∧ DR d.flushD r.flushD := by
  have hg := flushD_good h.good hops
  unfold Rk.flushR Dk.flushR Rk.flushD
  rw [h.dead, h.left]
  refine ⟨rfl, ?_⟩
  unfold Dk.flushD at hg ⊢
  split
  · exact h
  · split
    · exact (by have hk := h.kill; rw [h.left] at hk; exact hk)
    · rename_i h1 h3
      rw [if_neg h1, if_neg h3] at hg
      obtain ⟨p1, p2, p3⟩ := h.spend h3
      obtain ⟨e1, e2, e3⟩ := settleN_rest (d := d.spend) d.spend.keys (fun _ => true) d.spend.keys.length
      have elen : d.flushed.last.length = d.last.length := by unfold Dk.flushed; rw [settleN_len, spend_len]
      have hl := h.len.spend
      have hn : r.spend.now.length = d.last.length := hl.now
      obtain ⟨c1, c2, c3, c4, c5, c6⟩ := copyN_rest r.spend r.spend.now.length
      have hget := copyN_get r.spend hl r.spend.now.length (by omega)
      refine ⟨hg, ?_, ?_, ?_, ?_, ?_, ?_, ?_⟩
      · rw [elen]; exact copyN_len hl _ (by omega)
      · show (r.spend.copyN _).dead = (d.spend.settleN _ _ _).dead; rw [c4, e3]; exact p1
      · show (r.spend.copyN _).n = (d.spend.settleN _ _ _).ops; rw [c6, e1]; exact p2
      · show (r.spend.copyN _).left = (d.spend.settleN _ _ _).fuse; rw [c5, e2]; exact p3
      · rw [elen]; intro i hi
        show (r.spend.copyN _).now.getD i [] = _
        rw [c1, (spend_rest r).1, (flushed_cur h.good.fine i (by omega) (by omega)).1]; exact h.now i hi
      · rw [elen]; intro i hi
        show (r.spend.copyN _).last.getD i [] = _
        rw [(hget i hi).1, if_pos (by omega), (spend_rest r).1, (flushed_cur h.good.fine i (by omega) (by omega)).2]; exact h.now i hi
      · rw [elen]; intro i hi
        show (r.spend.copyN _).fresh.getD i false = _
        rw [(hget i hi).2, if_pos (by omega), flushed_fresh h.good.fine]; rfl
/-! ### Crash -/
structure CrashAtP (r : Rk) (f p : Nat → Bool) (n i c : Nat) (q : Rk) : Prop where
  cnt : c = rank p i
  num : q.n = r.n
  now : ∀ j, j < n → q.now.getD j [] = if j < i ∧ p j = true ∧ f (rank p j) = false then r.last.getD j [] else r.now.getD j []
  last : ∀ j, j < n → q.last.getD j [] = if j < i ∧ p j = true ∧ f (rank p j) = true then r.now.getD j [] else r.last.getD j []
  fresh : ∀ j, j < n → q.fresh.getD j false = if j < i then false else p j

theorem crashN_at {n : Nat} (h : r.Len n) (f p : Nat → Bool) (hp : ∀ j, r.fresh.getD j false = p j) : ∀ i, i ≤ n → CrashAtP r f p n i (r.crashN f i).1 (r.crashN f i).2
  | 0, _ => ⟨by simp [Rk.crashN, rank, idxs], rfl, fun j _ => by simp [Rk.crashN], fun j _ => by simp [Rk.crashN], fun j _ => by rw [if_neg (by omega)]; exact hp j⟩
  | i + 1, hi => by
    have ih := crashN_at h f p hp i (by omega)
    obtain ⟨hl, _⟩ := crashN_len h f i (by omega)
    unfold Rk.crashN
    generalize r.crashN f i = cq at *
    obtain ⟨c, q⟩ := cq
    simp only [] at ih hl ⊢
    have hfi := ih.fresh i (by omega)
    rw [if_neg (by omega)] at hfi
    have hni := ih.now i (by omega)
    have hli := ih.last i (by omega)
    rw [if_neg (by omega)] at hni hli
    have hc := ih.cnt
    rw [hfi]
    have hnow := ih.now
    have hlast := ih.last
    have hfr := ih.fresh
    have hrs := rank_succ p i
    cases hpi : p i with
    | false =>
      rw [hpi] at hrs
      simp only [Bool.false_eq_true, if_false]
      refine ⟨by rw [hrs, hc]; rfl, ih.num, fun j hj => ?_, fun j hj => ?_, fun j hj => ?_⟩
      · rw [hnow j hj]
        by_cases hji : j = i
        · subst hji; simp [hpi]
        · have : (j < i) ↔ (j < i + 1) := by omega
          simp only [this]
      · rw [hlast j hj]
        by_cases hji : j = i
        · subst hji; simp [hpi]
        · have : (j < i) ↔ (j < i + 1) := by omega
          simp only [this]
      · rw [hfr j hj]
        by_cases hji : j = i
        · subst hji; simp [hpi]
        · have : (j < i) ↔ (j < i + 1) := by omega
          simp only [this]
    | true =>
      rw [hpi] at hrs
      simp only [if_true]
      have hb : f c = f (rank p i) := by rw [hc]
      rw [hb]
      have hin : i < n := by omega
      cases hbit : f (rank p i) with
      | false =>
        refine ⟨by rw [hrs, hc]; rfl, ih.num, fun j hj => ?_, fun j hj => ?_, fun j hj => ?_⟩
        · show (q.now.set i (q.last.getD i [])).getD j [] = _
          rw [getD_set, hl.now, hnow j hj, hli]
          by_cases hji : i = j
          · subst hji; rw [if_pos ⟨rfl, hin⟩, if_pos ⟨by omega, hpi, hbit⟩]
          · have : (j < i) ↔ (j < i + 1) := by omega
            rw [if_neg (fun x => hji x.1)]; simp only [this]
        · show q.last.getD j [] = _
          rw [hlast j hj]
          by_cases hji : i = j
          · subst hji; simp [hbit]
          · have : (j < i) ↔ (j < i + 1) := by omega
            simp only [this]
        · show (q.fresh.set i false).getD j false = _
          rw [getD_set, hl.fresh, hfr j hj]
          by_cases hji : i = j
          · subst hji; rw [if_pos ⟨rfl, hin⟩, if_pos (by omega)]
          · have : (j < i) ↔ (j < i + 1) := by omega
            rw [if_neg (fun x => hji x.1)]; simp only [this]
      | true =>
        refine ⟨by rw [hrs, hc]; rfl, ih.num, fun j hj => ?_, fun j hj => ?_, fun j hj => ?_⟩
        · show (q.now.set i ((q.last.set i (q.now.getD i [])).getD i [])).getD j [] = _
          rw [getD_set, getD_set, hl.now, hl.last, hnow j hj, if_pos (show i = i ∧ i < n from ⟨rfl, hin⟩), hni]
          by_cases hji : i = j
          · subst hji; rw [if_pos ⟨rfl, hin⟩, if_neg (by rw [hbit]; simp)]
          · have : (j < i) ↔ (j < i + 1) := by omega
            rw [if_neg (fun x => hji x.1)]; simp only [this]
        · show (q.last.set i (q.now.getD i [])).getD j [] = _
          rw [getD_set, hl.last, hlast j hj, hni]
          by_cases hji : i = j
          · subst hji; rw [if_pos ⟨rfl, hin⟩, if_pos ⟨by omega, hpi, hbit⟩]
          · have : (j < i) ↔ (j < i + 1) := by omega
            rw [if_neg (fun x => hji x.1)]; simp only [this]
        · show (q.fresh.set i false).getD j false = _
          rw [getD_set, hl.fresh, hfr j hj]
          by_cases hji : i = j
          · subst hji; rw [if_pos ⟨rfl, hin⟩, if_pos (by omega)]
          · have : (j < i) ↔ (j < i + 1) := by omega
            rw [if_neg (fun x => hji x.1)]; simp only [this]

theorem DR.crash (h : DR d r) (pick : List UInt8) : DR (d.crashed pick) (r.crashed pick) := by
  have hg := crashed_good h.good pick
  have hlen := crashed_len d pick
  let p : Nat → Bool := fun j => r.fresh.getD j false
  have hC := crashN_at h.len (bitOf pick) p (fun j => rfl) d.last.length (Nat.le_refl _)
  have hL := (crashN_len h.len (bitOf pick) d.last.length (Nat.le_refl _)).1
  have e1 : r.crashed pick = { (r.crashN (bitOf pick) d.last.length).2 with dead := false, left := -1 } := by unfold Rk.crashed; rw [h.len.now]
  have hp : ∀ i, i < d.last.length → p i = (kget d.fresh (i : Int)).isSome := fun i hi => h.fresh i hi
  have hrank : ∀ i, i ≤ d.last.length → rank p i = rank (fun i : Nat => (kget d.fresh (i : Int)).isSome) i := by
    intro i
    induction i with
    | zero => intro _; rfl
    | succ i ih => intro hi; rw [rank_succ, rank_succ, ih (by omega), hp i (by omega)]
  have hops : (d.crashed pick).ops = d.ops := (settleN_rest (d := d) d.keys (bitOf pick) d.keys.length).1
  rw [e1]
  have hcur : ∀ i : Nat, i < d.last.length → (d.crashed pick).cur (i : Int) = if p i = true ∧ bitOf pick (rank p i) = false then r.last.getD i [] else r.now.getD i [] := by
    intro i hi
    obtain ⟨i1, i2⟩ := crashed_cur h.good.fine pick (i : Int) (by omega) (by omega)
    have hpk := picked_iff h.good.fine (bitOf pick) i hi
    rw [← hp i hi, ← hrank i (by omega)] at hpk
    cases hpi : p i with
    | false =>
      rw [if_neg (by simp)]
      rw [i2 (fun x => by have := (hpk.1 x).1; rw [hpi] at this; cases this), h.now i hi]
      have hn : kget d.fresh (i : Int) = none := by
        have := hp i hi; rw [hpi] at this
        cases hk : kget d.fresh (i : Int) with
        | none => rfl
        | some q => rw [hk] at this; cases this
      simp [Dk.cur, Dk.lst, hn]
    | true =>
      cases hb : bitOf pick (rank p i) with
      | false =>
        rw [if_pos ⟨rfl, rfl⟩, i2 (fun x => by have := (hpk.1 x).2; rw [hb] at this; cases this), h.last i hi]
      | true =>
        rw [if_neg (by simp), i1 (hpk.2 ⟨hpi, hb⟩), h.now i hi]
  refine ⟨hg, ?_, rfl, ?_, rfl, ?_, ?_, ?_⟩
  · rw [hlen]; exact ⟨hL.now, hL.last, hL.fresh, hL.nows, hL.lasts⟩
  · show (r.crashN _ _).2.n = _; rw [hC.num, hops]; exact h.n
  · rw [hlen]; intro i hi
    show (r.crashN _ _).2.now.getD i [] = _
    rw [hC.now i hi, hcur i hi]
    simp only [hi, true_and]
  · rw [hlen]; intro i hi
    show (r.crashN _ _).2.last.getD i [] = _
    have hcl : (d.crashed pick).lst (i : Int) = (d.crashed pick).cur (i : Int) := (cur_nofresh (crashed_fresh h.good.fine pick) _).symm
    rw [hC.last i hi, hcl, hcur i hi]
    simp only [hi, true_and]
    cases hpi : p i with
    | false =>
      have hn : kget d.fresh (i : Int) = none := by
        have := hp i hi; rw [hpi] at this
        cases hk : kget d.fresh (i : Int) with
        | none => rfl
        | some q => rw [hk] at this; cases this
      simp only [Bool.false_eq_true, false_and, if_false]
      rw [h.now i hi, h.last i hi]
      simp [Dk.cur, Dk.lst, hn]
    | true => cases hb : bitOf pick (rank p i) <;> simp
  · rw [hlen]; intro i hi
    show (r.crashN _ _).2.fresh.getD i false = _
    rw [hC.fresh i hi, if_pos hi, crashed_fresh h.good.fine]; rfl
end Go.Proofs.Ytbeabedpmoalpaa
