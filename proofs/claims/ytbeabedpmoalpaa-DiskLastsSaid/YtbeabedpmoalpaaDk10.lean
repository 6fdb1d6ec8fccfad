/-
  package disk: Read, Write, Flush in one form for every state.
-/
import Derived.Test.YtbeabedpmoalpaaDk9
import Derived.Test.YtbeabedpmoalpaaLk
namespace Go.Proofs.Ytbeabedpmoalpaa
open Go.RowKit Go.Maps Go.MapKept
variable {e : Env} {b : Nat} {d : Dk} {L : List HP} {w : World}

structure Dk.Good (d : Dk) : Prop where
  fine : d.Fine
  ops0 : 0 ≤ d.ops
  ops1 : d.ops < 1000000000
  fuse0 : -1 ≤ d.fuse
  fuse1 : d.fuse < 9223372036854775808

def Dk.writeR (d : Dk) (n : Int) (l : List UInt8) : Int := if d.dead then 3 else if !(d.has n) || decide (l.length ≠ 64) then 1 else if d.fuse = 0 then 3 else 0
def Dk.writeD (d : Dk) (n : Int) (l : List UInt8) : Dk := if d.dead then d else if !(d.has n) || decide (l.length ≠ 64) then d else if d.fuse = 0 then { d with dead := true } else d.wrote n l
def Dk.flushR (d : Dk) : Int := if d.dead then 3 else if d.fuse = 0 then 3 else 0
def Dk.flushD (d : Dk) : Dk := if d.dead then d else if d.fuse = 0 then { d with dead := true } else d.flushed
def Dk.readR (d : Dk) (n : Int) : Int := if d.dead then 3 else if d.has n then 0 else 1
def Dk.readB (d : Dk) (n : Int) : List UInt8 := if d.dead then [] else if d.has n then d.cur n else []

theorem write_gen (h : Sat e (HP.disk b d :: L) w) (hg : d.Good) (n : Int) (v : Value) (l : List UInt8) (hv : ∀ d' w', Sat e (HP.disk b d' :: L) w' → View (World.frag w') v l.length (l.map B8)) :
    Calls Try.prog 20 #[.pointer (some ⟨b, 0, none⟩), .int .i64 n, v] w fun x w' => x = .returned (.int .i64 (d.writeR n l)) ∧ Sat e (HP.disk b (d.writeD n l) :: L) w' := by
  by_cases hd : d.dead = true
  · refine (write_dead h n v hd).mono ?_
    rintro x w' ⟨rfl, rfl⟩
    exact ⟨by simp [Dk.writeR, hd], by simpa [Dk.writeD, hd] using h⟩
  · have hd' : d.dead = false := by simpa using hd
    obtain ⟨base, cap, hvv, _⟩ := hv d w h
    by_cases hn : d.has n = false ∨ l.length ≠ 64
    · subst hvv
      refine (write_arg h n base l.length cap hd' hn).mono ?_
      have hb : (!(d.has n) || decide (l.length ≠ 64)) = true := by rcases hn with h1 | h1 <;> simp [h1]
      rintro x w' ⟨rfl, rfl⟩
      exact ⟨by unfold Dk.writeR; rw [if_neg hd, if_pos hb], by unfold Dk.writeD; rw [if_neg hd, if_pos hb]; exact h⟩
    · have h64 : l.length = 64 := by rcases Nat.decEq l.length 64 with h1 | h1
                                     · exact absurd (Or.inr h1) hn
                                     · exact h1
      have hh : d.has n = true := by
        cases hq : d.has n with
        | true => rfl
        | false => exact absurd (Or.inl hq) hn
      have hb : (!(d.has n) || decide (l.length ≠ 64)) = false := by simp [hh, h64]
      by_cases hf : d.fuse = 0
      · subst hvv
        rw [h64]
        refine (write_fuse h hg.ops0 hg.ops1 n base cap hd' hh hf).mono ?_
        rintro x w' ⟨rfl, h1⟩
        exact ⟨by unfold Dk.writeR; rw [if_neg hd, hb, if_neg (by simp), if_pos hf], by unfold Dk.writeD; rw [if_neg hd, hb, if_neg (by simp), if_pos hf]; exact h1⟩
      · obtain ⟨xb, xo, xc, hvv2, _⟩ := (hv d w h).cells (by intro hx; have := congrArg List.length hx; simp [h64] at this)
        subst hvv2
        rw [h64]
        refine (write_ok h hg.ops0 hg.ops1 hg.fuse1 n xb xo xc l h64 ?_ hd' hh hg.fine.ok.most hf).mono ?_
        · intro d' w' hs j u hj
          obtain ⟨xb2, xo2, xc2, hvv3, hc⟩ := (hv d' w' hs).cells (by intro hx; have := congrArg List.length hx; simp [h64] at this)
          simp only [Value.slice.injEq, Option.some.injEq, Addr.mk.injEq, and_true] at hvv3
          obtain ⟨⟨rfl, rfl⟩, _, _⟩ := hvv3
          exact hc j u hj
        · rintro x w' ⟨rfl, h1⟩
          exact ⟨by unfold Dk.writeR; rw [if_neg hd, hb, if_neg (by simp), if_neg hf], by unfold Dk.writeD; rw [if_neg hd, hb, if_neg (by simp), if_neg hf]; exact h1⟩

/-- From an owned slice. -/
theorem write_own (v : Value) (l : List UInt8) (h : Sat e (HP.row 5 1 v l.length (l.map B8) :: HP.disk b d :: L) w) (hg : d.Good) (n : Int) :
    Calls Try.prog 20 #[.pointer (some ⟨b, 0, none⟩), .int .i64 n, v] w fun x w' => x = .returned (.int .i64 (d.writeR n l)) ∧ Sat e (HP.row 5 1 v l.length (l.map B8) :: HP.disk b (d.writeD n l) :: L) w' := by
  refine (write_gen h.swap hg n v l (fun d' w' hs => hs.swap.row_view)).mono ?_
  rintro x w' ⟨rfl, h1⟩
  exact ⟨rfl, h1.swap⟩

theorem flush_gen (h : Sat e (HP.disk b d :: L) w) (hg : d.Good) :
    Calls Try.prog 22 #[.pointer (some ⟨b, 0, none⟩)] w fun x w' => x = .returned (.int .i64 d.flushR) ∧ Sat e (HP.disk b d.flushD :: L) w' := by
  by_cases hd : d.dead = true
  · refine (flush_dead h hd).mono ?_
    rintro x w' ⟨rfl, rfl⟩
    exact ⟨by simp [Dk.flushR, hd], by simpa [Dk.flushD, hd] using h⟩
  · have hd' : d.dead = false := by simpa using hd
    by_cases hf : d.fuse = 0
    · refine (flush_fuse h hg.ops0 hg.ops1 hd' hf).mono ?_
      rintro x w' ⟨rfl, h1⟩
      exact ⟨by simp [Dk.flushR, hd', hf], by simpa [Dk.flushD, hd', hf] using h1⟩
    · refine (flush_ok h hg.fine hg.ops0 hg.ops1 hg.fuse1 hd' hf).mono ?_
      rintro x w' ⟨rfl, h1⟩
      exact ⟨by simp [Dk.flushR, hd', hf], by simpa [Dk.flushD, hd', hf] using h1⟩

theorem read_gen (h : Sat e (HP.disk b d :: L) w) (hOk : d.Ok) (n : Int) :
    Calls Try.prog 16 #[.pointer (some ⟨b, 0, none⟩), .int .i64 n] w fun x w' => ∃ base cap, x = .returned (.tuple #[.slice base (d.readB n).length cap, .int .i64 (d.readR n)]) ∧
      Sat e (HP.row 5 1 (.slice base (d.readB n).length cap) (d.readB n).length ((d.readB n).map B8) :: HP.disk b d :: L) w' := by
  by_cases hd : d.dead = true
  · refine (read_dead h n hd).mono ?_
    rintro x w' ⟨rfl, rfl⟩
    exact ⟨none, 0, by simp [Dk.readB, Dk.readR, hd], by simpa [Dk.readB, hd] using h.row_nil 5 1⟩
  · have hd' : d.dead = false := by simpa using hd
    cases hn : d.has n with
    | false =>
      refine (read_arg h n hd' hn).mono ?_
      rintro x w' ⟨rfl, rfl⟩
      exact ⟨none, 0, by simp [Dk.readB, Dk.readR, hd', hn], by simpa [Dk.readB, hd', hn] using h.row_nil 5 1⟩
    | true =>
      have hn' : 0 ≤ n ∧ n < d.last.length := by simpa [Dk.has] using hn
      refine (read_ok h hOk n hd' hn'.1 hn'.2).mono ?_
      rintro x w' ⟨g, cap, rfl, h1⟩
      have hl := cur_len hOk n hn'.1 hn'.2
      refine ⟨some ⟨g, 0, none⟩, cap, by simp [Dk.readB, Dk.readR, hd', hn, hl], ?_⟩
      have e1 : d.readB n = d.cur n := by simp [Dk.readB, hd', hn]
      rw [e1, hl]; exact h1

/-! ### what stays good -/
theorem good_with (hg : d.Good) (x : Bool) : ({ d with dead := x } : Dk).Good := ⟨⟨⟨hg.fine.ok.sec, hg.fine.ok.fr, hg.fine.ok.most⟩, hg.fine.nodup⟩, hg.ops0, hg.ops1, hg.fuse0, hg.fuse1⟩

theorem spend_good (hg : d.Good) (h : d.ops < 999999999) : d.spend.Good := by
  obtain ⟨hf, h0, h1, h2, h3⟩ := hg
  refine ⟨spend_fine hf, ?_, ?_, ?_, ?_⟩ <;> (unfold Dk.spend; (repeat' split) <;> simp only [] <;> omega)

theorem wrote_good (hg : d.Good) (h : d.ops < 999999999) (n : Int) (l : List UInt8) (hl : l.length = 64) (hn : d.has n = true) : (d.wrote n l).Good := by
  have hs := spend_good hg h
  exact ⟨⟨wrote_ok hg.fine.ok n l hl hn, kput_nodup hg.fine.nodup n l⟩, hs.ops0, hs.ops1, hs.fuse0, hs.fuse1⟩

theorem settleN_rest (ks : List Int) (f : Nat → Bool) : ∀ k, (d.settleN ks f k).ops = d.ops ∧ (d.settleN ks f k).fuse = d.fuse ∧ (d.settleN ks f k).dead = d.dead
  | 0 => ⟨rfl, rfl, rfl⟩
  | k + 1 => settleN_rest ks f k

theorem flushed_good (hg : d.Good) (h : d.ops < 999999999) : d.flushed.Good := by
  have hs := spend_good hg h
  obtain ⟨e1, e2, _⟩ := settleN_rest (d := d.spend) d.spend.keys (fun _ => true) d.spend.keys.length
  exact ⟨settleN_fine hs.fine _ _ _, by unfold Dk.flushed; rw [e1]; exact hs.ops0, by unfold Dk.flushed; rw [e1]; exact hs.ops1, by unfold Dk.flushed; rw [e2]; exact hs.fuse0, by unfold Dk.flushed; rw [e2]; exact hs.fuse1⟩

theorem crashed_good (hg : d.Good) (pick : List UInt8) : (d.crashed pick).Good := by
  have hf := settleN_fine hg.fine d.keys (bitOf pick) d.keys.length
  obtain ⟨e1, e2, _⟩ := settleN_rest (d := d) d.keys (bitOf pick) d.keys.length
  exact ⟨⟨⟨hf.ok.sec, hf.ok.fr, hf.ok.most⟩, hf.nodup⟩, by show 0 ≤ (d.settleN d.keys (bitOf pick) d.keys.length).ops; rw [e1]; exact hg.ops0, by show (d.settleN d.keys (bitOf pick) d.keys.length).ops < _; rw [e1]; exact hg.ops1, by show (-1 : Int) ≤ -1; omega, by show (-1 : Int) < _; omega⟩

theorem fused_good (hg : d.Good) (n : Int) (hn : n < 9223372036854775808) : (d.fused n).Good :=
  ⟨⟨⟨hg.fine.ok.sec, hg.fine.ok.fr, hg.fine.ok.most⟩, hg.fine.nodup⟩, hg.ops0, hg.ops1, by show -1 ≤ max n (-1); omega, by show max n (-1) < _; omega⟩

theorem fresh0_good (n : Nat) (h : n ≤ 256) : (Dk.fresh0 n).Good :=
  ⟨⟨fresh0_ok n h, by simp [Dk.fresh0]⟩, by simp [Dk.fresh0], by simp [Dk.fresh0], by simp [Dk.fresh0], by simp [Dk.fresh0]⟩

theorem writeD_good (hg : d.Good) (h : d.ops < 999999999) (n : Int) (l : List UInt8) : (d.writeD n l).Good := by
  unfold Dk.writeD
  split
  · exact hg
  · split
    · exact hg
    · rename_i h2
      split
      · exact good_with hg true
      · simp only [Bool.or_eq_true, Bool.not_eq_true', decide_eq_true_eq, not_or, Bool.not_eq_false] at h2
        exact wrote_good hg h n l (Decidable.not_not.1 h2.2) h2.1

theorem flushD_good (hg : d.Good) (h : d.ops < 999999999) : d.flushD.Good := by
  unfold Dk.flushD
  split
  · exact hg
  · split
    · exact good_with hg true
    · exact flushed_good hg h

theorem wrote_len (d : Dk) (n : Int) (l : List UInt8) : (d.wrote n l).last.length = d.last.length := by
  unfold Dk.wrote Dk.spend; simp only []; split <;> rfl
theorem writeD_len (d : Dk) (n : Int) (l : List UInt8) : (d.writeD n l).last.length = d.last.length := by
  unfold Dk.writeD
  split
  · rfl
  · split
    · rfl
    · split
      · rfl
      · exact wrote_len d n l
theorem spend_len (d : Dk) : d.spend.last.length = d.last.length := by unfold Dk.spend; split <;> rfl
theorem flushD_len (d : Dk) : d.flushD.last.length = d.last.length := by
  unfold Dk.flushD
  split
  · rfl
  · split
    · rfl
    · unfold Dk.flushed; rw [settleN_len, spend_len]
theorem crashed_len (d : Dk) (pick : List UInt8) : (d.crashed pick).last.length = d.last.length := settleN_len _ _ _

/-- A disk without a fuse, of n sectors, k operations done. -/
structure Alive (d : Dk) (n : Nat) (k : Int) : Prop where
  good : d.Good
  dead : d.dead = false
  fuse : d.fuse = -1
  ops : d.ops = k
  len : d.last.length = n

theorem alive_fresh (n : Nat) (h : n ≤ 256) : Alive (Dk.fresh0 n) n 0 := ⟨fresh0_good n h, rfl, rfl, rfl, by simp [Dk.fresh0]⟩

theorem alive_has {n : Nat} {k : Int} (h : Alive d n k) (j : Int) : d.has j = (decide (0 ≤ j) && decide (j < n)) := by simp [Dk.has, h.len]

theorem alive_write {n : Nat} {k : Int} (h : Alive d n k) (hk : k < 999999999) (j : Int) (h0 : 0 ≤ j) (h1 : j < n) (l : List UInt8) (hl : l.length = 64) : d.writeR j l = 0 ∧ d.writeD j l = d.wrote j l ∧ Alive (d.wrote j l) n (k + 1) := by
  have hh : d.has j = true := by rw [alive_has h]; simp [h0, h1]
  have hf : d.fuse ≠ 0 := by rw [h.fuse]; omega
  refine ⟨by simp [Dk.writeR, h.dead, hh, hl, hf], by simp [Dk.writeD, h.dead, hh, hl, hf], ?_⟩
  refine ⟨wrote_good h.good (by rw [h.ops]; exact hk) j l hl hh, ?_, ?_, ?_, by rw [wrote_len, h.len]⟩
  · simp [Dk.wrote, Dk.spend, hf, h.dead]
  · simp [Dk.wrote, Dk.spend, h.fuse]
  · simp [Dk.wrote, Dk.spend, hf, h.ops]

theorem alive_flush {n : Nat} {k : Int} (h : Alive d n k) (hk : k < 999999999) : d.flushR = 0 ∧ d.flushD = d.flushed ∧ Alive d.flushed n (k + 1) := by
  have hf : d.fuse ≠ 0 := by rw [h.fuse]; omega
  obtain ⟨e1, e2, e3⟩ := settleN_rest (d := d.spend) d.spend.keys (fun _ => true) d.spend.keys.length
  refine ⟨by simp [Dk.flushR, h.dead, hf], by simp [Dk.flushD, h.dead, hf], flushed_good h.good (by rw [h.ops]; exact hk), ?_, ?_, ?_, ?_⟩
  · unfold Dk.flushed; rw [e3]; simp [Dk.spend, hf, h.dead]
  · unfold Dk.flushed; rw [e2]; simp [Dk.spend, h.fuse]
  · unfold Dk.flushed; rw [e1]; simp [Dk.spend, hf, h.ops]
  · unfold Dk.flushed; rw [settleN_len, spend_len, h.len]

theorem alive_crash {n : Nat} {k : Int} (h : Alive d n k) (pick : List UInt8) : Alive (d.crashed pick) n k := by
  obtain ⟨e1, e2, e3⟩ := settleN_rest (d := d) d.keys (bitOf pick) d.keys.length
  exact ⟨crashed_good h.good pick, rfl, rfl, by show (d.settleN d.keys (bitOf pick) d.keys.length).ops = k; rw [e1, h.ops], by rw [crashed_len, h.len]⟩

theorem alive_read {n : Nat} {k : Int} (h : Alive d n k) (j : Int) (h0 : 0 ≤ j) (h1 : j < n) : d.readR j = 0 ∧ d.readB j = d.cur j ∧ (d.cur j).length = 64 := by
  have hh : d.has j = true := by rw [alive_has h]; simp [h0, h1]
  exact ⟨by simp [Dk.readR, h.dead, hh], by simp [Dk.readB, h.dead, hh], cur_len h.good.fine.ok j h0 (by rw [h.len]; exact h1)⟩

theorem zs_row {g : Nat} (h : Sat e (HP.row 5 1 (.slice (some ⟨g, 0, none⟩) 64 64) 64 (List.replicate 64 (B8 0)) :: L) w) : Sat e (HP.row 5 1 (.slice (some ⟨g, 0, none⟩) 64 64) zs.length (zs.map B8) :: L) w := by
  have : zs.map B8 = List.replicate 64 (B8 0) := by simp [zs]
  rw [this]; exact h
end Go.Proofs.Ytbeabedpmoalpaa
