/-
  package disk: what each of its functions does to a disk in memory, said of a plain value (Dk).
-/
import Derived.Test.YtbeabedpmoalpaaSk
import Derived.Test.YtbeabedpmoalpaaProg

import Derived.BigRegion
namespace Go.Proofs.Ytbeabedpmoalpaa
open Go.RowKit Go.Maps Go.MapKept

structure Dk where
  last : List (List UInt8)
  fresh : List (Int × List UInt8)
  ops : Int
  fuse : Int
  dead : Bool

def flat8 (l : List (List UInt8)) : List Value := l.flatMap (fun s => s.map B8)
def eSec (s : List UInt8) : Value := .agg (s.map B8).toArray



structure Dk.Ok (d : Dk) : Prop where
  sec : ∀ s ∈ d.last, s.length = 64
  fr : ∀ p ∈ d.fresh, p.2.length = 64 ∧ 0 ≤ p.1 ∧ p.1 < d.last.length
  most : d.last.length ≤ 256

theorem intKey : KeyOk Try.prog 3 eInt okInt := int_key Try.underlying3

def HP.disk (b : Nat) (d : Dk) : HP := HP.ex fun lb => HP.ex fun mb => HP.star
  (HP.blk b (.cells #[.slice (some ⟨lb, 0, none⟩) d.last.length d.last.length, .map (some mb), .int .i64 d.ops, .int .i64 d.fuse, .bool d.dead] 61))
  (HP.star (HP.blk lb (.cells (flat8 d.last).toArray 66)) (HP.map eInt okInt eSec mb d.fresh))

def dkCells (lb mb : Nat) (d : Dk) : Obj := .cells #[.slice (some ⟨lb, 0, none⟩) d.last.length d.last.length, .map (some mb), .int .i64 d.ops, .int .i64 d.fuse, .bool d.dead] 61
def dkRow (d : Dk) : Obj := .cells (flat8 d.last).toArray 66

structure DkAt (w : World) (b lb mb : Nat) (d : Dk) : Prop where
  c0 : w.cell? ⟨b, 0, none⟩ = some (.slice (some ⟨lb, 0, none⟩) d.last.length d.last.length)
  c1 : w.cell? ⟨b, 1, none⟩ = some (.map (some mb))
  c2 : w.cell? ⟨b, 2, none⟩ = some (.int .i64 d.ops)
  c3 : w.cell? ⟨b, 3, none⟩ = some (.int .i64 d.fuse)
  c4 : w.cell? ⟨b, 4, none⟩ = some (.bool d.dead)
  f2 : w.frozen? ⟨b, 2, none⟩ = false
  f3 : w.frozen? ⟨b, 3, none⟩ = false
  f4 : w.frozen? ⟨b, 4, none⟩ = false

variable {e : Env} {b : Nat} {d : Dk} {L : List HP} {w : World}

theorem Sat.disk_open (h : Sat e (HP.disk b d :: L) w) : ∃ lb mb, Sat e (HP.blk b (dkCells lb mb d) :: HP.blk lb (dkRow d) :: HP.map eInt okInt eSec mb d.fresh :: L) w := by
  obtain ⟨lb, h⟩ := h.ex_elim
  obtain ⟨mb, h⟩ := h.ex_elim
  have h := h.star_elim.swap.star_elim
  exact ⟨lb, mb, h.pick [2, 0, 1] 3 (by decide) (by decide) (by simp)⟩

theorem Sat.disk_shut {lb mb : Nat} (h : Sat e (HP.blk b (dkCells lb mb d) :: HP.blk lb (dkRow d) :: HP.map eInt okInt eSec mb d.fresh :: L) w) : Sat e (HP.disk b d :: L) w := by
  have h1 := h.pick [1, 2, 0] 3 (by decide) (by decide) (by simp)
  exact Sat.ex_intro lb (Sat.ex_intro mb (Sat.star_intro (Sat.swap (Sat.star_intro h1))))

theorem Sat.disk_at {lb mb : Nat} (h : Sat e (HP.blk b (dkCells lb mb d) :: L) w) : DkAt w b lb mb d := by
  have hb := h.at
  unfold dkCells at hb
  exact ⟨by rw [cell_of hb]; rfl, by rw [cell_of hb]; rfl, by rw [cell_of hb]; rfl, by rw [cell_of hb]; rfl, by rw [cell_of hb]; rfl, unfrozen_of hb _, unfrozen_of hb _, unfrozen_of hb _⟩

theorem size_calls (h : Sat e (HP.disk b d :: L) w) : Calls Try.prog 17 #[.pointer (some ⟨b, 0, none⟩)] w fun x w' => x = .returned (.int .i64 d.last.length) ∧ w = w' := by
  obtain ⟨lb, mb, h⟩ := h.disk_open
  have D := h.disk_at
  have c0 := D.c0
  clear D
  go_enter Try.func17, Try.ntmps17
  go_wp2
  go_ret
  exact ⟨rfl, rfl⟩

theorem ops_calls (h : Sat e (HP.disk b d :: L) w) : Calls Try.prog 18 #[.pointer (some ⟨b, 0, none⟩)] w fun x w' => x = .returned (.int .i64 d.ops) ∧ w = w' := by
  obtain ⟨lb, mb, h⟩ := h.disk_open
  have D := h.disk_at
  have c0 := D.c2
  clear D
  go_enter Try.func18, Try.ntmps18
  go_wp2
  go_ret
  exact ⟨rfl, rfl⟩

def Dk.has (d : Dk) (n : Int) : Bool := decide (0 ≤ n) && decide (n < d.last.length)

theorem has_calls (h : Sat e (HP.disk b d :: L) w) (n : Int) : Calls Try.prog 28 #[.pointer (some ⟨b, 0, none⟩), .int .i64 n] w fun x w' => x = .returned (.bool (d.has n)) ∧ w = w' := by
  obtain ⟨lb, mb, h⟩ := h.disk_open
  have D := h.disk_at
  have c0 := D.c0
  clear D
  by_cases h0 : 0 ≤ n
  · go_enter Try.func28, Try.ntmps28
    go_wp2
    all_goals (go_ret; exact ⟨by simp [Dk.has, *], rfl⟩)
  · have h1 : decide (0 ≤ n) = false := by simpa using h0
    go_enter Try.func28, Try.ntmps28
    go_wp2
    go_ret
    exact ⟨by simp [Dk.has]; intro; omega, rfl⟩

/-- step: an operation is counted; false: the fuse is spent. -/
def Dk.spend (d : Dk) : Dk := if d.fuse = 0 then { d with dead := true } else { d with fuse := if 0 < d.fuse then d.fuse - 1 else d.fuse, ops := d.ops + 1 }

theorem step_calls (h : Sat e (HP.disk b d :: L) w) (h1 : 0 ≤ d.ops) (h2 : d.ops < 1000000000) (h4 : d.fuse < 9223372036854775808) :
    Calls Try.prog 31 #[.pointer (some ⟨b, 0, none⟩)] w fun x w' => x = .returned (.bool (decide (d.fuse ≠ 0))) ∧ Sat e (HP.disk b d.spend :: L) w' := by
  obtain ⟨lb, mb, h⟩ := h.disk_open
  have D := h.disk_at
  have c2 := D.c2
  have c3 := D.c3
  have f2 := D.f2
  have f3 := D.f3
  by_cases hz : d.fuse = 0
  · have c4 := D.c4
    have f4 := D.f4
    rw [hz] at c3
    have hfin : Sat e (HP.disk b d.spend :: L) (w.setCell ⟨b, 4, none⟩ (.bool true)) := by
      have h5 := h.setCell (i := 4) (.bool true)
      refine Sat.disk_shut (lb := lb) (mb := mb) ?_
      rw [Dk.spend, if_pos hz]
      exact h5
    have HF := hide hfin
    have HZ := hide hz
    clear hfin h D f2 f3 c2 hz h1 h2 h4
    go_enter Try.func31, Try.ntmps31
    go_wp2
    go_ret
    exact ⟨by simp [HZ.out], HF.out⟩
  · by_cases hp : 0 < d.fuse
    · have hfin : Sat e (HP.disk b d.spend :: L) ((w.setCell ⟨b, 3, none⟩ (.int .i64 (d.fuse - 1))).setCell ⟨b, 2, none⟩ (.int .i64 (d.ops + 1))) := by
        have h5 := (h.setCell (i := 3) (.int .i64 (d.fuse - 1))).setCell (i := 2) (.int .i64 (d.ops + 1))
        refine Sat.disk_shut (lb := lb) (mb := mb) ?_
        rw [Dk.spend, if_neg hz, if_pos hp]
        exact h5
      have HF := hide hfin
      have hb : (d.fuse == 0) = false := by simpa using hz
      clear hfin h D
      go_enter Try.func31, Try.ntmps31
      go_wp2
      go_ret
      exact ⟨by simp [hz], HF.out⟩
    · have hfin : Sat e (HP.disk b d.spend :: L) (w.setCell ⟨b, 2, none⟩ (.int .i64 (d.ops + 1))) := by
        have h5 := h.setCell (i := 2) (.int .i64 (d.ops + 1))
        refine Sat.disk_shut (lb := lb) (mb := mb) ?_
        rw [Dk.spend, if_neg hz, if_neg hp]
        exact h5
      have HF := hide hfin
      have hb : (d.fuse == 0) = false := by simpa using hz
      clear hfin h D h4
      go_enter Try.func31, Try.ntmps31
      go_wp2
      go_ret
      exact ⟨by simp, HF.out⟩


/-- Sixty-four noughts. -/
def zs : List UInt8 := List.replicate 64 0
theorem zs_len : (zs.map B8).length = 64 := by simp [zs]
def zSec : Value := eSec zs
theorem zSec_size : zSec.cells.size = 64 := by simp [zSec, eSec, Value.cells, zs]
theorem zero_sector (w : World) : (zeroValue 66).run Try.prog w = .ok zSec w := by kernel_rfl
theorem info_sector : (Try.prog.info? 66).map (·.size) = some 64 := by kernel_rfl

/-- What a sector reads as. -/
def Dk.cur (d : Dk) (n : Int) : List UInt8 := (kget d.fresh n).getD (d.last.getD n.toNat [])

theorem flat8_at : ∀ (l : List (List UInt8)) (n : Nat), (∀ s ∈ l, s.length = 64) → n < l.length → ∀ j u, ((l.getD n []).map B8)[j]? = some u → (flat8 l).toArray[n * 64 + j]? = some u
  | [], n, _, hn => by simp at hn
  | s :: r, 0, hs, _ => by
    intro j u hj
    have h0 : s.length = 64 := hs s (by simp)
    simp only [List.getD_cons_zero] at hj
    have hjl : j < (s.map B8).length := (List.getElem?_eq_some_iff.1 hj).1
    simp only [flat8, List.flatMap_cons, List.getElem?_toArray, Nat.zero_mul, Nat.zero_add]
    rw [List.getElem?_append_left hjl]; exact hj
  | s :: r, n + 1, hs, hn => by
    intro j u hj
    have h0 : s.length = 64 := hs s (by simp)
    simp only [List.getD_cons_succ] at hj
    have := flat8_at r n (fun x hx => hs x (by simp [hx])) (by simpa using hn) j u hj
    simp only [flat8, List.flatMap_cons, List.getElem?_toArray] at this ⊢
    rw [List.getElem?_append_right (by simp [h0]; omega)]
    rw [← this]; congr 1
    simp [h0]; omega
end Go.Proofs.Ytbeabedpmoalpaa
