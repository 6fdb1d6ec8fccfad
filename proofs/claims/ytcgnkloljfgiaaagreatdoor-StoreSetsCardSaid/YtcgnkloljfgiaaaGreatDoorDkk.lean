/-
  package disk: what each of its functions does to a disk in memory, said of a plain value (Dk). package disk: what a sector reads as; writing one; a new disk. package disk: Read, Write, New; slices.Clone of bytes. package disk: Read, Write. package disk: New; the laws' small helpers: known, within, Sector. The laws' helpers over disks: known, Sector. package disk: written, settle, Fuse. package disk: settle, Fuse, Flush, Crash. package disk: Flush, Crash. package disk: Crash. package disk: Read, Write, Flush in one form for every state. package disk, no program in sight: what is read after a write, a flush, a crash.
-/
import Derived.Test.YtcgnkloljfgiaaaGreatDoorSk
import Derived.Test.YtcgnkloljfgiaaaGreatDoorProg
import Derived.BigRegion
namespace Go.Proofs.YtcgnkloljfgiaaaGreatDoor
open Go.RowKit Go.Maps Go.MapKept

structure Dk where
  last : List (List UInt8)
  fresh : List (Int × List UInt8)
  ops : Int
  fuse : Int
  dead : Bool

def flat8 (l : List (List UInt8)) : List Value := l.flatMap (fun s => s.map B8)
def eSec (s : List UInt8) : Value := .agg (s.map B8).toArray



structure Dk.Ok (d : Dk) : Prop where
  sec : ∀ s ∈ d.last, s.length = 64
  fr : ∀ p ∈ d.fresh, p.2.length = 64 ∧ 0 ≤ p.1 ∧ p.1 < d.last.length
  most : d.last.length ≤ 256

theorem intKey : KeyOk Tryz.prog 3 eInt okInt := int_key Tryz.underlying3

def HP.disk (b : Nat) (d : Dk) : HP := HP.ex fun lb => HP.ex fun mb => HP.star
  (HP.blk b (.cells #[.slice (some ⟨lb, 0, none⟩) d.last.length d.last.length, .map (some mb), .int .i64 d.ops, .int .i64 d.fuse, .bool d.dead] 89))
  (HP.star (HP.blk lb (.cells (flat8 d.last).toArray 160)) (HP.map eInt okInt eSec mb d.fresh))

def dkCells (lb mb : Nat) (d : Dk) : Obj := .cells #[.slice (some ⟨lb, 0, none⟩) d.last.length d.last.length, .map (some mb), .int .i64 d.ops, .int .i64 d.fuse, .bool d.dead] 89
def dkRow (d : Dk) : Obj := .cells (flat8 d.last).toArray 160

structure DkAt (w : World) (b lb mb : Nat) (d : Dk) : Prop where
  c0 : w.cell? ⟨b, 0, none⟩ = some (.slice (some ⟨lb, 0, none⟩) d.last.length d.last.length)
  c1 : w.cell? ⟨b, 1, none⟩ = some (.map (some mb))
  c2 : w.cell? ⟨b, 2, none⟩ = some (.int .i64 d.ops)
  c3 : w.cell? ⟨b, 3, none⟩ = some (.int .i64 d.fuse)
  c4 : w.cell? ⟨b, 4, none⟩ = some (.bool d.dead)
  f2 : w.frozen? ⟨b, 2, none⟩ = false
  f3 : w.frozen? ⟨b, 3, none⟩ = false
  f4 : w.frozen? ⟨b, 4, none⟩ = false

variable {e : Env} {b : Nat} {d : Dk} {L : List HP} {w : World}

theorem Sat.disk_open (h : Sat e (HP.disk b d :: L) w) : ∃ lb mb, Sat e (HP.blk b (dkCells lb mb d) :: HP.blk lb (dkRow d) :: HP.map eInt okInt eSec mb d.fresh :: L) w := by
  obtain ⟨lb, h⟩ := h.ex_elim
  obtain ⟨mb, h⟩ := h.ex_elim
  have h := h.star_elim.swap.star_elim
  exact ⟨lb, mb, h.pick [2, 0, 1] 3 (by decide) (by decide) (by simp)⟩

theorem Sat.disk_shut {lb mb : Nat} (h : Sat e (HP.blk b (dkCells lb mb d) :: HP.blk lb (dkRow d) :: HP.map eInt okInt eSec mb d.fresh :: L) w) : Sat e (HP.disk b d :: L) w := by
  have h1 := h.pick [1, 2, 0] 3 (by decide) (by decide) (by simp)
  exact Sat.ex_intro lb (Sat.ex_intro mb (Sat.star_intro (Sat.swap (Sat.star_intro h1))))

theorem Sat.disk_at {lb mb : Nat} (h : Sat e (HP.blk b (dkCells lb mb d) :: L) w) : DkAt w b lb mb d := by
  have hb := h.at
  unfold dkCells at hb
  exact ⟨by rw [cell_of hb]; rfl, by rw [cell_of hb]; rfl, by rw [cell_of hb]; rfl, by rw [cell_of hb]; rfl, by rw [cell_of hb]; rfl, unfrozen_of hb _, unfrozen_of hb _, unfrozen_of hb _⟩

theorem size_calls (h : Sat e (HP.disk b d :: L) w) : Calls Tryz.prog 62 #[.pointer (some ⟨b, 0, none⟩)] w fun x w' => x = .returned (.int .i64 d.last.length) ∧ w = w' := by
  obtain ⟨lb, mb, h⟩ := h.disk_open
  have D := h.disk_at
  have c0 := D.c0
  clear D
  go_enter Tryz.func62, Tryz.ntmps62
  go_wp2
  go_ret
  exact ⟨rfl, rfl⟩

theorem ops_calls (h : Sat e (HP.disk b d :: L) w) : Calls Tryz.prog 23 #[.pointer (some ⟨b, 0, none⟩)] w fun x w' => x = .returned (.int .i64 d.ops) ∧ w = w' := by
  obtain ⟨lb, mb, h⟩ := h.disk_open
  have D := h.disk_at
  have c0 := D.c2
  clear D
  go_enter Tryz.func23, Tryz.ntmps23
  go_wp2
  go_ret
  exact ⟨rfl, rfl⟩

def Dk.has (d : Dk) (n : Int) : Bool := decide (0 ≤ n) && decide (n < d.last.length)

theorem has_calls (h : Sat e (HP.disk b d :: L) w) (n : Int) : Calls Tryz.prog 88 #[.pointer (some ⟨b, 0, none⟩), .int .i64 n] w fun x w' => x = .returned (.bool (d.has n)) ∧ w = w' := by
  obtain ⟨lb, mb, h⟩ := h.disk_open
  have D := h.disk_at
  have c0 := D.c0
  clear D
  by_cases h0 : 0 ≤ n
  · go_enter Tryz.func88, Tryz.ntmps88
    go_wp2
    all_goals (go_ret; exact ⟨by simp [Dk.has, *], rfl⟩)
  · have h1 : decide (0 ≤ n) = false := by simpa using h0
    go_enter Tryz.func88, Tryz.ntmps88
    go_wp2
    go_ret
    exact ⟨by simp [Dk.has]; intro; omega, rfl⟩

/-- step: an operation is counted; false: the fuse is spent. -/
def Dk.spend (d : Dk) : Dk := if d.fuse = 0 then { d with dead := true } else { d with fuse := if 0 < d.fuse then d.fuse - 1 else d.fuse, ops := d.ops + 1 }

theorem step_calls (h : Sat e (HP.disk b d :: L) w) (h1 : 0 ≤ d.ops) (h2 : d.ops < 1000000000) (h4 : d.fuse < 9223372036854775808) :
    Calls Tryz.prog 120 #[.pointer (some ⟨b, 0, none⟩)] w fun x w' => x = .returned (.bool (decide (d.fuse ≠ 0))) ∧ Sat e (HP.disk b d.spend :: L) w' := by
  obtain ⟨lb, mb, h⟩ := h.disk_open
  have D := h.disk_at
  have c2 := D.c2
  have c3 := D.c3
  have f2 := D.f2
  have f3 := D.f3
  by_cases hz : d.fuse = 0
  · have c4 := D.c4
    have f4 := D.f4
    rw [hz] at c3
    have hfin : Sat e (HP.disk b d.spend :: L) (w.setCell ⟨b, 4, none⟩ (.bool true)) := by
      have h5 := h.setCell (i := 4) (.bool true)
      refine Sat.disk_shut (lb := lb) (mb := mb) ?_
      rw [Dk.spend, if_pos hz]
      exact h5
    have HF := hide hfin
    have HZ := hide hz
    clear hfin h D f2 f3 c2 hz h1 h2 h4
    go_enter Tryz.func120, Tryz.ntmps120
    go_wp2
    go_ret
    exact ⟨by simp [HZ.out], HF.out⟩
  · by_cases hp : 0 < d.fuse
    · have hfin : Sat e (HP.disk b d.spend :: L) ((w.setCell ⟨b, 3, none⟩ (.int .i64 (d.fuse - 1))).setCell ⟨b, 2, none⟩ (.int .i64 (d.ops + 1))) := by
        have h5 := (h.setCell (i := 3) (.int .i64 (d.fuse - 1))).setCell (i := 2) (.int .i64 (d.ops + 1))
        refine Sat.disk_shut (lb := lb) (mb := mb) ?_
        rw [Dk.spend, if_neg hz, if_pos hp]
        exact h5
      have HF := hide hfin
      have hb : (d.fuse == 0) = false := by simpa using hz
      clear hfin h D
      go_enter Tryz.func120, Tryz.ntmps120
      go_wp2
      go_ret
      exact ⟨by simp [hz], HF.out⟩
    · have hfin : Sat e (HP.disk b d.spend :: L) (w.setCell ⟨b, 2, none⟩ (.int .i64 (d.ops + 1))) := by
        have h5 := h.setCell (i := 2) (.int .i64 (d.ops + 1))
        refine Sat.disk_shut (lb := lb) (mb := mb) ?_
        rw [Dk.spend, if_neg hz, if_neg hp]
        exact h5
      have HF := hide hfin
      have hb : (d.fuse == 0) = false := by simpa using hz
      clear hfin h D h4
      go_enter Tryz.func120, Tryz.ntmps120
      go_wp2
      go_ret
      exact ⟨by simp, HF.out⟩


/-- Sixty-four noughts. -/
def zs : List UInt8 := List.replicate 64 0
theorem zs_len : (zs.map B8).length = 64 := by simp [zs]
def zSec : Value := eSec zs
theorem zSec_size : zSec.cells.size = 64 := by simp [zSec, eSec, Value.cells, zs]
theorem zero_sector (w : World) : (zeroValue 160).run Tryz.prog w = .ok zSec w := by kernel_rfl
theorem info_sector : (Tryz.prog.info? 160).map (·.size) = some 64 := by kernel_rfl

/-- What a sector reads as. -/
def Dk.cur (d : Dk) (n : Int) : List UInt8 := (kget d.fresh n).getD (d.last.getD n.toNat [])

theorem flat8_at : ∀ (l : List (List UInt8)) (n : Nat), (∀ s ∈ l, s.length = 64) → n < l.length → ∀ j u, ((l.getD n []).map B8)[j]? = some u → (flat8 l).toArray[n * 64 + j]? = some u
  | [], n, _, hn => by simp at hn
  | s :: r, 0, hs, _ => by
    intro j u hj
    have h0 : s.length = 64 := hs s (by simp)
    simp only [List.getD_cons_zero] at hj
    have hjl : j < (s.map B8).length := (List.getElem?_eq_some_iff.1 hj).1
    simp only [flat8, List.flatMap_cons, List.getElem?_toArray, Nat.zero_mul, Nat.zero_add]
    rw [List.getElem?_append_left hjl]; exact hj
  | s :: r, n + 1, hs, hn => by
    intro j u hj
    have h0 : s.length = 64 := hs s (by simp)
    simp only [List.getD_cons_succ] at hj
    have := flat8_at r n (fun x hx => hs x (by simp [hx])) (by simpa using hn) j u hj
    simp only [flat8, List.flatMap_cons, List.getElem?_toArray] at this ⊢
    rw [List.getElem?_append_right (by simp [h0]; omega)]
    rw [← this]; congr 1
    simp [h0]; omega
end Go.Proofs.YtcgnkloljfgiaaaGreatDoor

namespace Go.Proofs.YtcgnkloljfgiaaaGreatDoor
open Go.RowKit Go.Maps Go.MapKept
variable {e : Env} {b : Nat} {d : Dk} {L : List HP} {w : World}

set_option maxHeartbeats 400000 in
theorem at_calls_fresh (h : Sat e (HP.disk b d :: L) w) (n : Int) (s : List UInt8) (hd : kget d.fresh n = some s) (hs : s.length = 64) (hok : okInt n) : Calls Tryz.prog 89 #[.pointer (some ⟨b, 0, none⟩), .int .i64 n] w
    fun x w' => x = .returned (eSec s) ∧ Sat e (HP.disk b d :: L) w' := by
  obtain ⟨lb, mb, h⟩ := h.disk_open
  have HD := hide hd
  have H0 := hide h
  have hlen : (s.map B8).length = 64 := by simp [hs]
  have HL := hide hlen
  clear hd hs h hlen
  go_enter Tryz.func89, Tryz.ntmps89
  go_wp2_with (first
    | ((with_reducible refine wpList_alloc_sl rfl 160 rfl (zero_sector _) H0.out ?_); intro g w1 h1; have c1 := (h1.pick [1, 2, 3, 0] 4 (by decide) (by decide) (by simp)).disk_at.c1; have H1 := hide h1; clear h1 H0)
    | (at_lookup; refine wpList_lookup_sl rfl 87 _ _ true rfl intKey Tryz.underlying87 (zero_sector _) rfl n rfl hok (H1.out.pick [3, 0, 1, 2] 4 (by decide) (by decide) (by simp)) ?_; rw [HD.out]; simp only [if_true, Option.map_some, Option.getD_some, Option.isSome_some])
    | ((with_reducible refine wpList_alloc_sl rfl 160 rfl (zero_sector _) H1.out ?_); intro g2 w2 h2; clear c1)
    | ((with_reducible refine wpList_store_agg rfl 160 (.tmp 5) (.tmp 14) rfl (by rw [HL.out]; exact info_sector) rfl rfl (map_B8_one s) h2 ?_ ?_); (have q1 := HL.out; have q2 := zSec_size; omega); intro w3 h3; rw [laid_whole (by rw [HL.out, zSec_size])] at h3)
    | ((with_reducible refine wpList_load_agg rfl 160 (.tmp 5) rfl Tryz.underlying160 rfl (by rw [HL.out]; exact info_sector) rfl (get_of_toArray h3.at) ?_))
    | ((with_reducible refine wpList_store_agg rfl 160 (.tmp 4) (.tmp 17) rfl (by rw [HL.out]; exact info_sector) rfl rfl (map_B8_one s) h3.swap ?_ ?_); (have q1 := HL.out; have q2 := zSec_size; omega); intro w4 h4; rw [laid_whole (by rw [HL.out, zSec_size])] at h4))
  refine bodyPost_ret (results_agg rfl _ _ Tryz.underlying160 rfl (by rw [HL.out]; exact info_sector) rfl (get_of_toArray h4.at)) rfl ⟨rfl, h4.drop.drop.disk_shut⟩

set_option maxHeartbeats 400000 in
theorem at_calls_last (h : Sat e (HP.disk b d :: L) w) (hOk : d.Ok) (n : Nat) (s : List UInt8) (hd : kget d.fresh (n : Int) = none) (hn : n < d.last.length) (hs : d.last.getD n [] = s) (hok : okInt n) : Calls Tryz.prog 89 #[.pointer (some ⟨b, 0, none⟩), .int .i64 n] w
    fun x w' => x = .returned (eSec s) ∧ Sat e (HP.disk b d :: L) w' := by
  obtain ⟨lb, mb, h⟩ := h.disk_open
  have HD := hide hd
  have H0 := hide h
  have hlen : (s.map B8).length = 64 := by
    rw [← hs, List.length_map, List.getD_eq_getElem?_getD, List.getElem?_eq_getElem hn]
    exact hOk.sec _ (List.getElem_mem hn)
  have HL := hide hlen
  have hrow := flat8_at d.last n hOk.sec hn
  rw [hs] at hrow
  have HR := hide hrow
  have hmost := hOk.most
  clear hd hs h hlen hOk hrow
  go_enter Tryz.func89, Tryz.ntmps89
  go_wp2_with (first
    | ((with_reducible refine wpList_alloc_sl rfl 160 rfl (zero_sector _) H0.out ?_); intro g w1 h1; have c1 := (h1.pick [1, 2, 3, 0] 4 (by decide) (by decide) (by simp)).disk_at.c1; have H1 := hide h1; clear h1 H0)
    | (at_lookup; refine wpList_lookup_sl rfl 87 _ _ true rfl intKey Tryz.underlying87 (zero_sector _) rfl (n : Int) rfl hok (H1.out.pick [3, 0, 1, 2] 4 (by decide) (by decide) (by simp)) ?_; rw [HD.out]; simp only [if_true, Option.map_none, Option.getD_none, Option.isSome_none])
    | ((with_reducible refine wpList_alloc_sl rfl 160 rfl (zero_sector _) H1.out ?_); intro g2 w2 h2; clear c1)
    | ((with_reducible refine wpList_store_agg (cs := zs.map B8) rfl 160 (.tmp 5) (.tmp 14) rfl (by rw [zs_len]; exact info_sector) rfl rfl (map_B8_one zs) h2 ?_ ?_); (have q1 := zs_len; have q2 := zSec_size; omega); intro w3 h3; rw [laid_whole (by rw [zs_len, zSec_size])] at h3; have c0 := (h3.pick [2, 3, 4, 0, 1] 5 (by decide) (by decide) (by simp)).disk_at.c0; have H3 := hide h3; clear h3)
    | ((with_reducible refine wpList_load_agg rfl 160 (.tmp 23) rfl Tryz.underlying160 rfl (by rw [HL.out]; exact info_sector) (cs := s.map B8) (b := lb) (off := n * 64) ?_ ?_ ?_); rfl; exact (fun j u hj => by rw [cell_of (show w3.heap[lb]? = some (.cells (flat8 d.last).toArray _ (0, 0)) from (H3.out.pick [3, 0, 1, 2, 4] 5 (by decide) (by decide) (by simp)).at)]; exact HR.out j u hj))
    | ((with_reducible refine wpList_store_agg rfl 160 (.tmp 4) (.tmp 24) rfl (by rw [HL.out]; exact info_sector) rfl rfl (map_B8_one s) H3.out.swap ?_ ?_); (have q1 := HL.out; have q2 := zSec_size; omega); intro w4 h4; rw [laid_whole (by rw [HL.out, zSec_size])] at h4))
  refine bodyPost_ret (results_agg rfl _ _ Tryz.underlying160 rfl (by rw [HL.out]; exact info_sector) rfl (get_of_toArray h4.at)) rfl ⟨rfl, h4.drop.drop.disk_shut⟩

end Go.Proofs.YtcgnkloljfgiaaaGreatDoor

namespace Go.Proofs.YtcgnkloljfgiaaaGreatDoor
open Go.RowKit Go.Maps Go.MapKept
variable {e : Env} {b : Nat} {d : Dk} {L : List HP} {w : World}

theorem info_u8 : (Tryz.prog.info? 5).map (fun i => (i.zero, i.size, i.bytes)) = some (some (.int .u8 0), 1, 1) := by kernel_rfl

theorem at_calls (h : Sat e (HP.disk b d :: L) w) (hOk : d.Ok) (n : Int) (h0 : 0 ≤ n) (h1 : n < d.last.length) : Calls Tryz.prog 89 #[.pointer (some ⟨b, 0, none⟩), .int .i64 n] w
    fun x w' => x = .returned (eSec (d.cur n)) ∧ Sat e (HP.disk b d :: L) w' := by
  have hm := hOk.most
  have hok : okInt n := by unfold okInt; exact WalkArith.wf_i64 (by omega)
  cases hk : kget d.fresh n with
  | none =>
    obtain ⟨k, rfl⟩ := Int.eq_ofNat_of_zero_le h0
    have := at_calls_last h hOk k _ hk (by omega) rfl hok
    simpa [Dk.cur, hk] using this
  | some s =>
    have hs : s.length = 64 := by
      have hmem : (n, s) ∈ d.fresh := by
        clear h hOk
        generalize d.fresh = l at hk
        induction l with
        | nil => simp [kget] at hk
        | cons p r ih =>
          simp only [kget] at hk
          split at hk
          · rename_i hp; simp only [Option.some.injEq] at hk; subst hp; subst hk; exact List.mem_cons_self ..
          · exact List.mem_cons_of_mem _ (ih hk)
      exact (hOk.fr _ hmem).1
    have := at_calls_fresh h n s hk hs hok
    simpa [Dk.cur, hk] using this

theorem cur_len (hOk : d.Ok) (n : Int) (h0 : 0 ≤ n) (h1 : n < d.last.length) : (d.cur n).length = 64 := by
  unfold Dk.cur
  cases hk : kget d.fresh n with
  | none =>
    simp only [Option.getD_none]
    have hn : n.toNat < d.last.length := by omega
    rw [List.getD_eq_getElem?_getD, List.getElem?_eq_getElem hn]
    exact hOk.sec _ (List.getElem_mem hn)
  | some s =>
    have hmem : (n, s) ∈ d.fresh := by
      clear hOk
      generalize d.fresh = l at hk
      induction l with
      | nil => simp [kget] at hk
      | cons p r ih =>
        simp only [kget] at hk
        split at hk
        · rename_i hp; simp only [Option.some.injEq] at hk; subst hp; subst hk; exact List.mem_cons_self ..
        · exact List.mem_cons_of_mem _ (ih hk)
    exact (hOk.fr _ hmem).1

set_option maxHeartbeats 400000 in
theorem clone_calls (h : Sat e L w) (bb off cap : Nat) (l : List UInt8) (H : View (World.frag w) (.slice (some ⟨bb, off, none⟩) l.length cap) l.length (l.map B8)) (hl : l.length ≤ 1000000000) :
    Calls Tryz.prog 90 #[.slice (some ⟨bb, off, none⟩) l.length cap] w
      fun x w' => ∃ g cap', x = .returned (.slice (some ⟨g, 0, none⟩) l.length cap') ∧ Sat e (HP.row 5 1 (.slice (some ⟨g, 0, none⟩) l.length cap') l.length (l.map B8) :: L) w' := by
  obtain ⟨i0, hi, hz0, hz1, hz2⟩ := info_parts info_u8
  have hs2 := (h.alloc (.cells #[] 5)).row_shut (n := 0) (cap := 0) (size := 1) (xs := []) (Nat.le_refl 0) (Nat.zero_le _) rfl rfl
  have H2 : View (World.frag (w.alloc (.cells #[] 5))) (.slice (some ⟨bb, off, none⟩) l.length cap) l.length (l.map B8) :=
    H.mono (fun b o hb => by
      have := (Array.getElem?_eq_some_iff.1 (show w.heap[b]? = some o from hb)).1
      exact (Below.heap_alloc w _ b this).trans hb)
  have HS := hide hs2
  have HV := hide H2
  have HI := hide hi
  have hb1 : 0 + l.length ≤ maxLen := by unfold maxLen; omega
  have hb2 : (0 + l.length) * 1 ≤ 140737488355328 := by omega
  have B1 := hide hb1
  have B2 := hide hb2
  clear h H hs2 H2 hi hl hb1 hb2
  have hnil := fun w : World => Lib.run_eql_slice_nil (P := Tryz.prog) w 37 5 (some ⟨bb, off, none⟩) l.length cap 0 0 Tryz.underlying37
  go_enter Tryz.func90, Tryz.ntmps90
  go_wp2_with (at_builtin; (with_reducible refine wpList_append_sl rfl (.tmp 5) (.tmp 6) 37 rfl Tryz.underlying37 HI.out hz0 hz1 hz2 rfl (by decide) HS.out HV.out rfl rfl (by simp) (map_B8_one l) B1.out B2.out ?_); intro v' w1 h1 hn; have HN := hide hn; have H1 := hide h1; clear hn h1)
  go_ret
  have h1 := H1.out
  rw [Nat.zero_add, List.nil_append] at h1
  obtain ⟨_, ⟨hv, _⟩ | ⟨g, cap', cur, hv, _⟩⟩ := h1.row_open
  · have := HN.out.1 hv
    simp at this
  · subst hv
    exact ⟨g, cap', rfl, h1⟩
end Go.Proofs.YtcgnkloljfgiaaaGreatDoor

namespace Go.Proofs.YtcgnkloljfgiaaaGreatDoor
open Go.RowKit Go.Maps Go.MapKept
variable {e : Env} {b : Nat} {d : Dk} {L : List HP} {w : World}

theorem read_dead (h : Sat e (HP.disk b d :: L) w) (n : Int) (hd : d.dead = true) : Calls Tryz.prog 60 #[.pointer (some ⟨b, 0, none⟩), .int .i64 n] w fun x w' => x = .returned (.tuple #[.slice none 0 0, .int .i64 3]) ∧ w = w' := by
  obtain ⟨lb, mb, h⟩ := h.disk_open
  have c4 := h.disk_at.c4
  rw [hd] at c4
  clear h hd
  go_enter Tryz.func60, Tryz.ntmps60
  go_wp2_with fail
  go_ret2
  exact ⟨rfl, rfl⟩

theorem read_arg (h : Sat e (HP.disk b d :: L) w) (n : Int) (hd : d.dead = false) (hn : d.has n = false) : Calls Tryz.prog 60 #[.pointer (some ⟨b, 0, none⟩), .int .i64 n] w fun x w' => x = .returned (.tuple #[.slice none 0 0, .int .i64 1]) ∧ w = w' := by
  have H := hide h
  obtain ⟨lb, mb, h⟩ := h.disk_open
  have c4 := h.disk_at.c4
  rw [hd] at c4
  have HN := hide hn
  clear h hd hn
  go_enter Tryz.func60, Tryz.ntmps60
  go_wp2_with (go_at_call 88; refine (has_calls H.out n).mono ?_; rintro x w' ⟨rfl, rfl⟩; rw [HN.out])
  go_ret2
  exact ⟨rfl, rfl⟩

set_option maxHeartbeats 400000 in
theorem read_ok (h : Sat e (HP.disk b d :: L) w) (hOk : d.Ok) (n : Int) (hd : d.dead = false) (h0 : 0 ≤ n) (h1 : n < d.last.length) : Calls Tryz.prog 60 #[.pointer (some ⟨b, 0, none⟩), .int .i64 n] w
    fun x w' => ∃ g cap, x = .returned (.tuple #[.slice (some ⟨g, 0, none⟩) 64 cap, .int .i64 0]) ∧ Sat e (HP.row 5 1 (.slice (some ⟨g, 0, none⟩) 64 cap) 64 ((d.cur n).map B8) :: HP.disk b d :: L) w' := by
  have H := hide h
  have hn : d.has n = true := by simp [Dk.has, h0, h1]
  have hlen := cur_len hOk n h0 h1
  have hlen2 : ((d.cur n).map B8).length = 64 := by simp [hlen]
  obtain ⟨lb, mb, h⟩ := h.disk_open
  have c4 := h.disk_at.c4
  rw [hd] at c4
  have HN := hide hn
  have HK := hide hOk
  have HL := hide hlen
  have HL2 := hide hlen2
  clear h hd hn hOk hlen hlen2
  go_enter Tryz.func60, Tryz.ntmps60
  go_wp2_with (first
    | (go_at_call 88; refine (has_calls H.out n).mono ?_; rintro x w' ⟨rfl, rfl⟩; rw [HN.out])
    | (go_at_call 89; refine (at_calls H.out HK.out n h0 h1).mono ?_; rintro x w1 ⟨rfl, hs1⟩; have H1 := hide hs1; clear hs1 c4)
    | ((with_reducible refine wpList_alloc_sl rfl 160 rfl (zero_sector _) H1.out ?_); intro g2 w2 h2)
    | ((with_reducible refine wpList_store_agg rfl 160 (.tmp 6) (.tmp 19) rfl (by rw [HL2.out]; exact info_sector) rfl rfl (map_B8_one (d.cur n)) h2 ?_ ?_); (have q1 := HL2.out; have q2 := zSec_size; omega); intro w3 h3; rw [laid_whole (by rw [HL2.out, zSec_size])] at h3)
    | (go_at_call 90; have hv := view_of_toArray h3.at 64 64; rw [← HL.out] at hv ⊢; refine (clone_calls h3 g2 0 (d.cur n).length (d.cur n) hv (by rw [HL.out]; omega)).mono ?_; rintro x w4 ⟨g4, cap4, rfl, h4⟩))
  have h5 := h4.swap.drop
  rw [HL.out] at h5
  go_ret2
  exact ⟨g4, cap4, by rw [← HL.out]; rfl, h5⟩

theorem write_dead (h : Sat e (HP.disk b d :: L) w) (n : Int) (v : Value) (hd : d.dead = true) : Calls Tryz.prog 100 #[.pointer (some ⟨b, 0, none⟩), .int .i64 n, v] w fun x w' => x = .returned (.int .i64 3) ∧ w = w' := by
  obtain ⟨lb, mb, h⟩ := h.disk_open
  have c4 := h.disk_at.c4
  rw [hd] at c4
  clear h hd
  go_enter Tryz.func100, Tryz.ntmps100
  go_wp2_with fail
  go_ret
  exact ⟨rfl, rfl⟩

theorem write_arg (h : Sat e (HP.disk b d :: L) w) (n : Int) (base : Option Addr) (m cap : Nat) (hd : d.dead = false) (hn : d.has n = false ∨ m ≠ 64) : Calls Tryz.prog 100 #[.pointer (some ⟨b, 0, none⟩), .int .i64 n, .slice base m cap] w fun x w' => x = .returned (.int .i64 1) ∧ w = w' := by
  have H := hide h
  obtain ⟨lb, mb, h⟩ := h.disk_open
  have c4 := h.disk_at.c4
  rw [hd] at c4
  clear h hd
  cases hh : d.has n with
  | false =>
    have HN := hide hh
    clear hn hh
    go_enter Tryz.func100, Tryz.ntmps100
    go_wp2_with (go_at_call 88; refine (has_calls H.out n).mono ?_; rintro x w' ⟨rfl, rfl⟩; rw [HN.out])
    go_ret
    exact ⟨rfl, rfl⟩
  | true =>
    have HN := hide hh
    have hm : ((m : Int) != 64) = true := by
      rcases hn with h1 | h1
      · rw [hh] at h1; cases h1
      · rw [bne_iff_ne]; omega
    clear hn hh
    go_enter Tryz.func100, Tryz.ntmps100
    go_wp2_with (go_at_call 88; refine (has_calls H.out n).mono ?_; rintro x w' ⟨rfl, rfl⟩; rw [HN.out])
    go_ret
    exact ⟨rfl, rfl⟩

theorem write_fuse (h : Sat e (HP.disk b d :: L) w) (h1 : 0 ≤ d.ops) (h2 : d.ops < 1000000000) (n : Int) (base : Option Addr) (cap : Nat) (hd : d.dead = false) (hn : d.has n = true) (hf : d.fuse = 0) :
    Calls Tryz.prog 100 #[.pointer (some ⟨b, 0, none⟩), .int .i64 n, .slice base 64 cap] w fun x w' => x = .returned (.int .i64 3) ∧ Sat e (HP.disk b { d with dead := true } :: L) w' := by
  have H := hide h
  obtain ⟨lb, mb, h⟩ := h.disk_open
  have c4 := h.disk_at.c4
  rw [hd] at c4
  have HN := hide hn
  have HF := hide hf
  have hsp : d.spend = { d with dead := true } := by rw [Dk.spend, if_pos hf]
  have HS := hide hsp
  have hdec : decide (d.fuse ≠ 0) = false := by simp [hf]
  have HD := hide hdec
  have hf4 : d.fuse < 9223372036854775808 := by omega
  have HF4 := hide hf4
  clear h hd hn hf hsp hdec hf4
  go_enter Tryz.func100, Tryz.ntmps100
  go_wp2_with (first
    | (go_at_call 88; refine (has_calls H.out n).mono ?_; rintro x w' ⟨rfl, rfl⟩; rw [HN.out])
    | (go_at_call 120; refine (step_calls H.out h1 h2 HF4.out).mono ?_; rintro x w1 ⟨rfl, hs1⟩; rw [HS.out] at hs1; rw [HD.out]))
  go_ret
  exact ⟨rfl, hs1⟩

set_option maxRecDepth 100000 in
set_option maxHeartbeats 400000 in
theorem write_ok (h : Sat e (HP.disk b d :: L) w) (h1 : 0 ≤ d.ops) (h2 : d.ops < 1000000000) (hf4 : d.fuse < 9223372036854775808) (n : Int) (xb xo cap : Nat) (l : List UInt8) (hl : l.length = 64)
    (hkeep : ∀ d' w', Sat e (HP.disk b d' :: L) w' → ∀ j u, (l.map B8)[j]? = some u → w'.cell? ⟨xb, xo + j, none⟩ = some u)
    (hd : d.dead = false) (hn : d.has n = true) (hmost : d.last.length ≤ 256) (hf : d.fuse ≠ 0) :
    Calls Tryz.prog 100 #[.pointer (some ⟨b, 0, none⟩), .int .i64 n, .slice (some ⟨xb, xo, none⟩) 64 cap] w fun x w' => x = .returned (.int .i64 0) ∧ Sat e (HP.disk b { d.spend with fresh := kput d.fresh n l } :: L) w' := by
  have H := hide h
  obtain ⟨lb, mb, h⟩ := h.disk_open
  have c4 := h.disk_at.c4
  rw [hd] at c4
  have hok : okInt n := by
    unfold okInt
    simp [Dk.has] at hn
    exact WalkArith.wf_i64 (by omega)
  have hdec : decide (d.fuse ≠ 0) = true := by simp [hf]
  have hfr : d.spend.fresh = d.fresh := by unfold Dk.spend; split <;> rfl
  have hlen2 : (l.map B8).length = 64 := by simp [hl]
  have HN := hide hn
  have HD := hide hdec
  have HF4 := hide hf4
  have HKP := hide hkeep
  have HFR := hide hfr
  have HL2 := hide hlen2
  have HOK := hide hok
  clear h hd hn hf hdec hf4 hkeep hfr hl hlen2 hok
  go_enter Tryz.func100, Tryz.ntmps100
  go_wp2_with (first
    | (go_at_call 88; refine (has_calls H.out n).mono ?_; rintro x w' ⟨rfl, rfl⟩; rw [HN.out])
    | (go_at_call 120; refine (step_calls H.out h1 h2 HF4.out).mono ?_; rintro x w1 ⟨rfl, hs1⟩; rw [HD.out]; have H1 := hide hs1; clear hs1))
  have hs2 := H1.out.drew
  have hx2 := HKP.out _ _ hs2
  obtain ⟨lb2, mb2, hs3⟩ := hs2.disk_open
  have c1 := hs3.disk_at.c1
  rw [HFR.out] at hs3
  have H3 := hide hs3
  have HX := hide hx2
  clear hs2 hs3 hx2 c4
  refine wp_region_still_tail 8 (by kernel_rfl) (by kernel_rfl) ?_
  simp only [List.take_succ_cons, List.take_zero, List.drop_succ_cons, List.drop_zero]
  change wpStill _ _ w1.drew (fun a' => wpList _ _ _ _ a' w1.drew) _ _
  generalize w1.drew = w2 at c1 H3 HX ⊢
  have harr := run_arrayAt (P := Tryz.prog) (w := w2) Tryz.underlying160 (some ⟨xb, xo, none⟩) 64 cap (Nat.le_refl _)
  iterate 7 still_step
  clear harr
  refine wpStill_load_agg rfl 160 _ rfl Tryz.underlying160 rfl (by rw [HL2.out]; exact info_sector) rfl HX.out ?_
  refine wpStill_nil ?_
  have H4 : Sat e (HP.map eInt okInt eSec mb2 d.fresh :: HP.blk b (dkCells lb2 mb2 d.spend) :: HP.blk lb2 (dkRow d.spend) :: L) w2 := H3.out.pick [2, 0, 1] 3 (by decide) (by decide) (by simp)
  refine wpList_mapUpdate_sl rfl 87 _ _ _ rfl intKey Tryz.underlying87 rfl n rfl HOK.out l rfl H4 ?_
  intro w4 h4
  have h5 : Sat e (HP.disk b { d.spend with fresh := kput d.fresh n l } :: L) w4 := Sat.disk_shut (lb := lb2) (mb := mb2) (h4.pick [1, 2, 0] 3 (by decide) (by decide) (by simp))
  have H5 := hide h5
  clear h4 h5
  go_wp2_with fail
  go_ret
  exact ⟨rfl, H5.out⟩
end Go.Proofs.YtcgnkloljfgiaaaGreatDoor

namespace Go.Proofs.YtcgnkloljfgiaaaGreatDoor
open Go.RowKit Go.Maps Go.MapKept
variable {e : Env} {b : Nat} {d : Dk} {L : List HP} {w : World}

def Dk.fresh0 (n : Nat) : Dk := ⟨List.replicate n zs, [], 0, -1, false⟩

theorem fresh0_ok (n : Nat) (h : n ≤ 256) : (Dk.fresh0 n).Ok := ⟨by intro s hs; rw [List.eq_of_mem_replicate hs]; rfl, by simp [Dk.fresh0], by simpa [Dk.fresh0] using h⟩

theorem flat8_zs (n : Nat) : flat8 (List.replicate n zs) = List.replicate (n * 64) (B8 0) := by
  induction n with
  | zero => rfl
  | succ n ih =>
    rw [List.replicate_succ]
    simp only [flat8, List.flatMap_cons] at ih ⊢
    rw [ih]
    have : zs.map B8 = List.replicate 64 (B8 0) := by simp [zs]
    rw [this, List.replicate_append_replicate]
    congr 1; omega

theorem made_zs (n : Nat) : (madeCells zSec.cells (n * 64)).toList = flat8 (List.replicate n zs) := by
  rw [flat8_zs]
  apply List.ext_getElem
  · simp [size_madeCells]
  · intro i h1 h2
    have h64 : i % 64 < 64 := Nat.mod_lt _ (by decide)
    have hz : zSec.cells = (List.replicate 64 (B8 0)).toArray := by simp [zSec, eSec, Value.cells, zs]
    have hi : (List.replicate 64 (B8 0)).toArray[i % 64]! = B8 0 := by
      rw [getElem!_pos _ _ (by simpa using h64)]
      simp only [List.getElem_toArray, List.getElem_replicate]
    simp only [madeCells, Array.getElem_toList, Array.getElem_map, Array.getElem_range, zSec_size, List.getElem_replicate]
    rw [hz]; exact hi

theorem i64_and1 (n : Int) : bits .and .i64 n 1 = n % 2 := by
  have h1 : (BitVec.ofInt 64 1).toNat = 2 ^ 1 - 1 := by decide
  have key : (BitVec.ofInt 64 n &&& BitVec.ofInt 64 1).toNat = (n % ((2 ^ 64 : Nat) : Int)).toNat % 2 ^ 1 := by
    rw [BitVec.toNat_and, BitVec.toNat_ofInt, h1, Nat.and_two_pow_sub_one_eq_mod]
  show IntKind.i64.wrap ((BitVec.ofInt 64 n &&& BitVec.ofInt 64 1).toNat : Nat) = n % 2
  rw [key, IntKind.wrap_i64]
  omega

theorem sec_info : (Tryz.prog.info? 160).map (fun i => (i.zero, i.size, i.bytes)) = some (some zSec, 64, 64) := by kernel_rfl

theorem new_bad (n : Int) (h : n < 8 ∨ 256 < n ∨ n % 2 ≠ 0) (hlo : -9223372036854775808 ≤ n) (hhi : n ≤ 9223372036854775807) : Calls Tryz.prog 21 #[.int .i64 n] w fun x w' => x = .returned (.tuple #[.pointer none, .int .i64 1]) ∧ w = w' := by
  by_cases h8 : n < 8
  · go_enter Tryz.func21, Tryz.ntmps21
    go_wp2
    go_ret2
    exact ⟨rfl, rfl⟩
  · by_cases h256 : 256 < n
    · have h8' : decide (n < 8) = false := by simpa using h8
      clear h
      go_enter Tryz.func21, Tryz.ntmps21
      go_wp2
      go_ret2
      exact ⟨rfl, rfl⟩
    · have h8' : decide (n < 8) = false := by simpa using h8
      have h256' : decide (256 < n) = false := by simpa using h256
      have hr : n % 2 = 1 := by omega
      have hand : bits .and .i64 n 1 = 1 := by rw [i64_and1, hr]
      clear h hr
      go_enter Tryz.func21, Tryz.ntmps21
      go_wp2
      all_goals (go_ret2; exact ⟨rfl, rfl⟩)

set_option maxHeartbeats 400000 in
theorem new_good (h : Sat e L w) (n : Nat) (h8 : 8 ≤ n) (h256 : n ≤ 256) (heven : n % 2 = 0) : Calls Tryz.prog 21 #[.int .i64 n] w
    fun x w' => ∃ b, x = .returned (.tuple #[.pointer (some ⟨b, 0, none⟩), .int .i64 0]) ∧ Sat e (HP.disk b (Dk.fresh0 n) :: L) w' := by
  obtain ⟨i0, hi, hz0, hz1, hz2⟩ := info_parts sec_info
  have H := hide h
  have HI := hide hi
  have h8' : decide ((n : Int) < 8) = false := by simp; omega
  have h256' : decide (256 < (n : Int)) = false := by simp; omega
  have hand : bits .and .i64 n 1 = 0 := by rw [i64_and1]; omega
  have hb1 : 64 * n ≤ 140737488355328 := by omega
  have hb2 : n ≤ maxLen := by unfold maxLen; omega
  have B1 := hide hb1
  have B2 := hide hb2
  clear h hi heven hb1 hb2
  go_enter Tryz.func21, Tryz.ntmps21
  go_wp2_with (first
    | (at_make; (with_reducible refine wpList_make_sl rfl (.tmp 15) (.tmp 15) 86 rfl Tryz.underlying86 HI.out hz0 hz1 hz2 n rfl rfl rfl rfl H.out B1.out B2.out ?_); intro g w1 h1; have H1 := hide h1; clear h1)
    | ((with_reducible refine wpList_makeMap_sl rfl 87 rfl eInt okInt eSec H1.out ?_); intro mb w2 h2; have H2 := hide h2; clear h2))
  have h2 := H2.out.swap
  rw [made_zs] at h2
  obtain ⟨_, ⟨hx, _⟩ | ⟨g', cap, cur, hv, hc1, hc2, hc3, hc4, h3⟩⟩ := h2.row_open
  · cases hx
  · simp only [Value.slice.injEq, Option.some.injEq, Addr.mk.injEq, and_true, true_and] at hv
    obtain ⟨rfl, rfl⟩ := hv
    have hcur : cur = (flat8 (List.replicate n zs)).toArray := by
      rw [List.take_of_length_le (by simp; omega)] at hc4
      rw [← hc4]
    subst hcur
    go_ret2
    refine ⟨w2.heap.size, rfl, Sat.disk_shut (lb := g) (mb := mb) ?_⟩
    have h4 := h3.alloc (.cells #[.slice (some ⟨g, 0, none⟩) n n, .map (some mb), .int .i64 0, .int .i64 (-1), .bool false] 89)
    simpa [dkCells, dkRow, Dk.fresh0] using h4

theorem tmod_facts (k n : Int) (hn : 0 < n) (hk : k < 0) : -n < k.tmod n ∧ k.tmod n ≤ 0 ∧ (k.tmod n < 0 → k % n = k.tmod n + n) ∧ (0 ≤ k.tmod n → k % n = k.tmod n) := by
  have h1 : (-k).tmod n = -(k.tmod n) := Int.neg_tmod k n
  have h2 := Int.tmod_nonneg n (show 0 ≤ -k by omega)
  have h3 := Int.tmod_lt_of_pos (-k) hn
  have h4 := Int.mul_tdiv_add_tmod k n
  have h5 : k % n = (k.tmod n) % n := by
    conv => lhs; rw [← h4]
    rw [Int.add_comm, Int.add_mul_emod_self_left]
  refine ⟨by omega, by omega, fun h => ?_, fun h => ?_⟩
  · rw [h5, ← Int.add_emod_right, Int.emod_eq_of_lt (by omega) (by omega)]
  · rw [h5, Int.emod_eq_of_lt h (by omega)]

end Go.Proofs.YtcgnkloljfgiaaaGreatDoor

namespace Go.Proofs.YtcgnkloljfgiaaaGreatDoor
open Go.RowKit Go.Maps Go.MapKept
variable {e : Env} {b : Nat} {d : Dk} {L : List HP} {w : World}

def u8 (n : Int) : UInt8 := UInt8.ofNat (n % 256).toNat
theorem B8_u8 (n : Int) : B8 (u8 n) = .int .u8 (n % 256) := by
  have h1 := Int.emod_nonneg n (show (256 : Int) ≠ 0 by omega)
  have h2 := Int.emod_lt_of_pos n (show (0 : Int) < 256 by omega)
  have : (u8 n).toNat = (n % 256).toNat := by
    simp only [u8, UInt8.toNat_ofNat']
    omega
  simp only [B8, this]
  congr 1
  omega

def secOf (n : Int) (l : List UInt8) : List UInt8 := (l.take 64 ++ zs.drop (l.take 64).length).set 63 (u8 n)
theorem secOf_len (n : Int) (l : List UInt8) : (secOf n l).length = 64 := by
  simp [secOf, zs]; omega

theorem made_u8 (n : Nat) : (madeCells (Value.int .u8 0).cells (n * 1)).toList = List.replicate n (B8 0) := by
  apply List.ext_getElem
  · simp [size_madeCells]
  · intro i h1 h2
    simp [madeCells, Value.cells, B8, Nat.mod_one]

theorem laid_sec (l : List UInt8) : laid (List.replicate 64 (B8 0)).toArray 0 ((l.map B8).take 64) = ((l.take 64 ++ zs.drop (l.take 64).length).map B8).toArray := by
  simp [laid, zs, List.map_take]

theorem sec_get (l : List UInt8) : (laid (List.replicate 64 (B8 0)).toArray 0 ((l.map B8).take 64))[63]? = some (B8 ((l.take 64 ++ zs.drop (l.take 64).length).getD 63 0)) := by
  rw [laid_sec]
  have : (l.take 64 ++ zs.drop (l.take 64).length).length = 64 := by simp [zs]; omega
  generalize l.take 64 ++ zs.drop (l.take 64).length = q at *
  simp [this]


theorem sec_view {g cap : Nat} {q : List UInt8} (hq : q.length = 64) (h : Sat e (HP.row 5 1 (.slice (some ⟨g, 0, none⟩) 64 cap) 64 (q.map B8) :: L) w) : View (World.frag w) (.slice (some ⟨g, 0, none⟩) 64 cap) q.length (q.map B8) := by
  rw [hq]; exact h.row_view

/-- What a write leaves. -/
def Dk.wrote (d : Dk) (n : Int) (l : List UInt8) : Dk := { d.spend with fresh := kput d.fresh n l }

theorem wrote_cur (d : Dk) (n j : Int) (l : List UInt8) : (d.wrote n l).cur j = if n = j then l else d.cur j := by
  have h1 : d.spend.last = d.last := by unfold Dk.spend; split <;> rfl
  unfold Dk.cur Dk.wrote
  simp only [kget_kput, h1]
  split <;> rfl

theorem wrote_ok (hOk : d.Ok) (n : Int) (l : List UInt8) (hl : l.length = 64) (hn : d.has n = true) : (d.wrote n l).Ok := by
  have h1 : d.spend.last = d.last := by unfold Dk.spend; split <;> rfl
  refine ⟨by simpa [Dk.wrote, h1] using hOk.sec, ?_, by simpa [Dk.wrote, h1] using hOk.most⟩
  intro p hp
  simp only [Dk.wrote, h1] at hp ⊢
  rcases kput_mem hp with h | rfl
  · exact hOk.fr p h
  · simp only [Dk.has, Bool.and_eq_true, decide_eq_true_eq] at hn
    exact ⟨hl, hn.1, hn.2⟩

/-- Its first byte is changed. -/
theorem sec_poke {g cap : Nat} {q : List UInt8} (hq : q.length = 64) (h : Sat e (HP.row 5 1 (.slice (some ⟨g, 0, none⟩) 64 cap) 64 (q.map B8) :: L) w) (y : Int) :
    w.cell? ⟨g, 0, none⟩ = some (.int .u8 (q.getD 0 0).toNat) ∧ w.frozen? ⟨g, 0, none⟩ = false ∧ Sat e (HP.row 5 1 (.slice (some ⟨g, 0, none⟩) 64 cap) 64 ((q.set 0 (u8 ((q.getD 0 0).toNat + y))).map B8) :: L) (w.setCell ⟨g, 0, none⟩ (.int .u8 (((q.getD 0 0).toNat + y) % 256))) := by
  obtain ⟨h1, h2, h3⟩ := h.row_cell (i := 0) (by simp [hq])
  refine ⟨?_, h2, ?_⟩
  · rw [h1]
    cases q with
    | nil => simp at hq
    | cons x r => simp [B8]
  · rw [List.map_set, B8_u8]; exact h3 _

/-- A sector that is owned is written: it stays what it is. -/
theorem write_row {g : Nat} {q : List UInt8} (h : Sat e (HP.row 5 1 (.slice (some ⟨g, 0, none⟩) 64 64) 64 (q.map B8) :: HP.disk b d :: L) w) (hq : q.length = 64) (n : Int) (h1 : 0 ≤ d.ops) (h2 : d.ops < 1000000000) (hf4 : d.fuse < 9223372036854775808)
    (hd : d.dead = false) (hn : d.has n = true) (hmost : d.last.length ≤ 256) (hf : d.fuse ≠ 0) :
    Calls Tryz.prog 100 #[.pointer (some ⟨b, 0, none⟩), .int .i64 n, .slice (some ⟨g, 0, none⟩) 64 64] w fun x w' => x = .returned (.int .i64 0) ∧ Sat e (HP.row 5 1 (.slice (some ⟨g, 0, none⟩) 64 64) 64 (q.map B8) :: HP.disk b (d.wrote n q) :: L) w' := by
  refine (write_ok h.swap h1 h2 hf4 n g 0 64 q hq ?_ hd hn hmost hf).mono ?_
  · intro d' w' hs' j u hj
    rw [cell_of (hs'.swap.row_blk.at) (0 + j)]
    simpa using hj
  · rintro x w' ⟨rfl, h5⟩
    exact ⟨rfl, h5.swap⟩
end Go.Proofs.YtcgnkloljfgiaaaGreatDoor

namespace Go.Proofs.YtcgnkloljfgiaaaGreatDoor
open Go.RowKit Go.Maps Go.MapKept
variable {e : Env} {b : Nat} {d : Dk} {L : List HP} {w : World}

def Dk.keys (d : Dk) : List Int := sortI (d.fresh.map (·.1))

set_option maxRecDepth 100000 in
set_option maxHeartbeats 400000 in
theorem written_calls (h : Sat e (HP.disk b d :: L) w) (hlen : d.fresh.length ≤ 256) : Calls Tryz.prog 57 #[.pointer (some ⟨b, 0, none⟩)] w
    fun x w' => ∃ v, x = .returned v ∧ Sat e (HP.row 3 1 v d.keys.length (d.keys.map eInt) :: HP.disk b d :: L) w' := by
  obtain ⟨lb, mb, h⟩ := h.disk_open
  have c1 := h.disk_at.c1
  have hm : Sat e (HP.map eInt okInt eSec mb d.fresh :: HP.blk b (dkCells lb mb d) :: HP.blk lb (dkRow d) :: L) w := h.pick [2, 0, 1] 3 (by decide) (by decide) (by simp)
  have hown := hm.ownsMap intKey (by unfold maxLen; omega)
  have hok := hm.map_ok
  have HM := hide hm
  have HW := hide hown
  have HOK := hide hok
  have HL := hide hlen
  clear h hm hown hok hlen
  go_enter Tryz.func57, Tryz.ntmps57
  go_wp2_with (first
    | (go_at_call 87; refine (Tryz.maps_Keys_87 (some mb) w).mono ?_; rintro x w' ⟨rfl, rfl⟩)
    | (go_at_call 86; refine (Tryz.sorted_keys_87 mb _ _ _ w HW.out (by rw [size_keys]; have := HL.out; simp; unfold maxLen; omega) (by rw [size_keys]; have := HL.out; simp; omega)).mono ?_; rintro x w2 ⟨v, ss, rfl, hp, hrow, hnil, hb⟩; have HP' := hide hp; have HR := hide hrow; have HB := hide hb; clear hp hrow hb hnil))
  have hr := HR.out
  rw [keysI Tryz.underlying3 HOK.out HP'.out, show ss.length = d.keys.length from by rw [HP'.out.length_eq]; simp [intKeys, (WideShapes.sorted_perm _).length_eq, Dk.keys, sortI]] at hr
  have hs := (HM.out.alloc_ (.cells #[.map (some mb)] 87)).of_row hr HB.out
  have hs2 : Sat e (HP.row 3 1 v d.keys.length (d.keys.map eInt) :: HP.disk b d :: L) w2 := (Sat.disk_shut (lb := lb) (mb := mb) (hs.pick [2, 3, 1, 0] 4 (by decide) (by decide) (by simp))).swap
  go_ret
  exact ⟨v, rfl, hs2⟩
end Go.Proofs.YtcgnkloljfgiaaaGreatDoor

namespace Go.Proofs.YtcgnkloljfgiaaaGreatDoor
open Go.RowKit Go.Maps Go.MapKept
variable {e : Env} {b : Nat} {d : Dk} {L : List HP} {w : World}

def Dk.settle (d : Dk) (n : Int) (is : Bool) : Dk := { d with last := if is then d.last.set n.toNat ((kget d.fresh n).getD zs) else d.last, fresh := kdel d.fresh n }

theorem flat8_set : ∀ (l : List (List UInt8)) (n : Nat) (s : List UInt8), (∀ x ∈ l, x.length = 64) → s.length = 64 → n < l.length → laid (flat8 l).toArray (n * 64) (s.map B8) = (flat8 (l.set n s)).toArray := by
  intro l n s hl hs hn
  have aux : ∀ (l : List (List UInt8)) (n : Nat), (∀ x ∈ l, x.length = 64) → n < l.length → (flat8 l).take (n * 64) ++ s.map B8 ++ (flat8 l).drop (n * 64 + 64) = flat8 (l.set n s) := by
    intro l
    induction l with
    | nil => intro n _ hn; simp at hn
    | cons a r ih =>
      intro n hl hn
      have ha : (a.map B8).length = 64 := by simp [hl a (by simp)]
      cases n with
      | zero =>
        simp only [flat8, List.flatMap_cons, Nat.zero_mul, List.take_zero, List.nil_append, List.set_cons_zero, Nat.zero_add]
        rw [List.drop_append, ha]
        simp [List.drop_of_length_le (show (a.map B8).length ≤ 64 by omega)]
      | succ n =>
        have := ih n (fun x hx => hl x (by simp [hx])) (by simpa using hn)
        simp only [flat8, List.flatMap_cons, List.set_cons_succ] at this ⊢
        rw [← this, List.take_append, List.drop_append, ha]
        rw [List.take_of_length_le (show (a.map B8).length ≤ (n + 1) * 64 by omega), List.drop_of_length_le (show (a.map B8).length ≤ (n + 1) * 64 + 64 by omega)]
        simp only [List.nil_append, List.append_assoc]
        congr 3
        · congr 1; omega
        · congr 1; congr 1; omega
  have h64 : (s.map B8).length = 64 := by simp [hs]
  unfold laid
  rw [h64]
  congr 1
  exact aux l n hl hn

set_option maxRecDepth 100000 in
set_option maxHeartbeats 400000 in
theorem settle_false (h : Sat e (HP.disk b d :: L) w) (n : Int) (hok : okInt n) : Calls Tryz.prog 58 #[.pointer (some ⟨b, 0, none⟩), .int .i64 n, .bool false] w
    fun x w' => x = .returned (.tuple #[]) ∧ Sat e (HP.disk b (d.settle n false) :: L) w' := by
  obtain ⟨lb, mb, h⟩ := h.disk_open
  have c1 := h.disk_at.c1
  have hm : Sat e (HP.map eInt okInt eSec mb d.fresh :: HP.blk b (dkCells lb mb d) :: HP.blk lb (dkRow d) :: L) w := h.pick [2, 0, 1] 3 (by decide) (by decide) (by simp)
  have HM := hide hm
  clear h hm
  go_enter Tryz.func58, Tryz.ntmps58
  go_wp2_with (at_delete; (with_reducible refine wpList_delete_sl rfl 87 3 (.tmp 22) (.tmp 23) rfl intKey Tryz.underlying87 rfl n rfl hok HM.out ?_); intro w2 h2; have H2 := hide h2; clear h2)
  go_end0
  exact ⟨rfl, Sat.disk_shut (lb := lb) (mb := mb) (d := d.settle n false) (H2.out.pick [1, 2, 0] 3 (by decide) (by decide) (by simp))⟩

set_option maxRecDepth 100000 in
set_option maxHeartbeats 400000 in
theorem settle_true (h : Sat e (HP.disk b d :: L) w) (hOk : d.Ok) (n : Nat) (hok : okInt n) (hn : n < d.last.length) (s : List UInt8) (hs : s.length = 64) (hk : kget d.fresh (n : Int) = some s) : Calls Tryz.prog 58 #[.pointer (some ⟨b, 0, none⟩), .int .i64 n, .bool true] w
    fun x w' => x = .returned (.tuple #[]) ∧ Sat e (HP.disk b (d.settle n true) :: L) w' := by
  obtain ⟨lb, mb, h⟩ := h.disk_open
  have hlen : (s.map B8).length = 64 := by simp [hs]
  have hset := flat8_set d.last n s hOk.sec hs hn
  have hmost := hOk.most
  have hfit : n * 64 + (s.map B8).length ≤ (flat8 d.last).toArray.size := by
    rw [hlen]
    have e1 : ∀ l : List (List UInt8), (∀ x ∈ l, x.length = 64) → (flat8 l).length = l.length * 64 := by
      intro l
      induction l with
      | nil => intro _; rfl
      | cons a r ih => intro hl; simp only [flat8, List.flatMap_cons, List.length_append, List.length_map, List.length_cons] at ih ⊢; rw [ih (fun x hx => hl x (by simp [hx])), hl a (by simp)]; omega
    simp [e1 d.last hOk.sec]; omega
  have hst : d.settle n true = { d with last := d.last.set n s, fresh := kdel d.fresh n } := by simp [Dk.settle, hk]
  have hs0 := h.drew
  have D := hs0.disk_at
  have c0 := D.c0
  have c1 := D.c1
  have H0 := hide hs0
  have HK := hide hk
  have HL := hide hlen
  have HST := hide hset
  have HF := hide hfit
  have HE := hide hst
  clear h hs0 D hk hlen hset hfit hst hOk
  go_enter Tryz.func58, Tryz.ntmps58
  go_wp2_with fail
  refine wp_region_still_tail 12 (by kernel_rfl) (by kernel_rfl) ?_
  simp only [List.take_succ_cons, List.take_zero, List.drop_succ_cons, List.drop_zero]
  change wpStill _ _ w.drew (fun a' => wpList _ _ _ _ a' w.drew) _ _
  generalize w.drew = w2 at c0 c1 H0 ⊢
  have H4 : Sat e (HP.map eInt okInt eSec mb d.fresh :: HP.blk b (dkCells lb mb d) :: HP.blk lb (dkRow d) :: L) w2 := H0.out.pick [2, 0, 1] 3 (by decide) (by decide) (by simp)
  have hlook : (Instr.lookup 87 (.map (some mb)) (.int .i64 n) false).run Tryz.prog w2 = .ok (eSec s) w2 := by
    have := run_lookup (t := 87) intKey H4 Tryz.underlying87 (zero_sector w2) (n : Int) hok false
    rw [HK.out] at this
    exact this
  have h4 := hide H4
  clear H4
  iterate 12 still_step
  refine wpStill_nil ?_
  clear c1 hlook
  have hrow : Sat e (HP.blk lb (.cells (flat8 d.last).toArray 160) :: HP.blk b (dkCells lb mb d) :: HP.map eInt okInt eSec mb d.fresh :: L) w2 := H0.out.pick [1, 0, 2] 3 (by decide) (by decide) (by simp)
  have HR := hide hrow
  clear hrow
  go_wp2_with (first
    | ((with_reducible refine wpList_store_agg rfl 160 (.tmp 18) (.tmp 17) rfl (by rw [HL.out]; exact info_sector) rfl rfl (map_B8_one s) HR.out HF.out ?_); intro w3 h3; rw [HST.out] at h3; have c1 := h3.swap.disk_at.c1; have H5 := hide (show Sat e (HP.map eInt okInt eSec mb d.fresh :: HP.blk b (dkCells lb mb d) :: HP.blk lb (.cells (flat8 (d.last.set n s)).toArray 160) :: L) w3 from h3.pick [2, 1, 0] 3 (by decide) (by decide) (by simp)); clear h3)
    | (at_delete; (with_reducible refine wpList_delete_sl rfl 87 3 (.tmp 22) (.tmp 23) rfl intKey Tryz.underlying87 rfl (n : Int) rfl hok H5.out ?_); intro w4 h4; have H6 := hide h4; clear h4))
  have hd : dkCells lb mb d = dkCells lb mb (d.settle n true) := by rw [HE.out]; simp [dkCells]
  have h7 : Sat e (HP.blk b (dkCells lb mb (d.settle n true)) :: HP.blk lb (dkRow (d.settle n true)) :: HP.map eInt okInt eSec mb (d.settle n true).fresh :: L) w4 := by
    rw [← hd, HE.out]
    exact H6.out.pick [1, 2, 0] 3 (by decide) (by decide) (by simp)
  go_end0
  exact ⟨rfl, h7.disk_shut⟩

/-- Fuse. -/
def Dk.fused (d : Dk) (n : Int) : Dk := { d with fuse := max n (-1), dead := d.dead && decide (0 ≤ n) }

set_option maxRecDepth 100000 in
set_option maxHeartbeats 400000 in
theorem fuse_calls (h : Sat e (HP.disk b d :: L) w) (n : Int) : Calls Tryz.prog 28 #[.pointer (some ⟨b, 0, none⟩), .int .i64 n] w
    fun x w' => x = .returned (.tuple #[]) ∧ Sat e (HP.disk b (d.fused n) :: L) w' := by
  obtain ⟨lb, mb, h⟩ := h.disk_open
  have D := h.disk_at
  have c3 := D.c3
  have c4 := D.c4
  have f3 := D.f3
  have f4 := D.f4
  have hfin : Sat e (HP.disk b (d.fused n) :: L) ((w.setCell ⟨b, 3, none⟩ (.int .i64 (max n (-1)))).setCell ⟨b, 4, none⟩ (.bool (d.dead && decide (0 ≤ n)))) :=
    Sat.disk_shut (lb := lb) (mb := mb) ((h.setCell (i := 3) (.int .i64 (max n (-1)))).setCell (i := 4) (.bool (d.dead && decide (0 ≤ n))))
  have HF := hide hfin
  clear h D hfin
  cases hd : d.dead with
  | false =>
    rw [hd] at c4
    have HD := hide hd
    clear hd
    go_enter Tryz.func28, Tryz.ntmps28
    go_wp2
    go_end0
    have := HF.out
    rw [HD.out] at this
    exact ⟨rfl, this⟩
  | true =>
    rw [hd] at c4
    have HD := hide hd
    clear hd
    go_enter Tryz.func28, Tryz.ntmps28
    go_wp2
    go_end0
    have := HF.out
    rw [HD.out] at this
    exact ⟨rfl, this⟩
end Go.Proofs.YtcgnkloljfgiaaaGreatDoor

namespace Go.Proofs.YtcgnkloljfgiaaaGreatDoor
open Go.RowKit Go.Maps Go.MapKept
variable {e : Env} {b : Nat} {d : Dk} {L : List HP} {w : World}

/-- The first k of the keys settled. -/
def Dk.settleN (d : Dk) (ks : List Int) (f : Nat → Bool) : Nat → Dk
  | 0 => d
  | k + 1 => (d.settleN ks f k).settle (ks.getD k 0) (f k)

structure Dk.Fine (d : Dk) : Prop where
  ok : d.Ok
  nodup : (d.fresh.map (·.1)).Nodup

theorem Dk.Ok.get (hOk : d.Ok) {n : Int} {s : List UInt8} (hk : kget d.fresh n = some s) : s.length = 64 ∧ 0 ≤ n ∧ n < d.last.length := by
  have hmem : (n, s) ∈ d.fresh := by
    clear hOk
    generalize d.fresh = l at hk
    induction l with
    | nil => simp [kget] at hk
    | cons p r ih =>
      simp only [kget] at hk
      split at hk
      · rename_i hp; simp only [Option.some.injEq] at hk; subst hp; subst hk; exact List.mem_cons_self ..
      · exact List.mem_cons_of_mem _ (ih hk)
  exact hOk.fr _ hmem

theorem settle_fine (h : d.Fine) (n : Int) (is : Bool) : (d.settle n is).Fine := by
  refine ⟨⟨?_, ?_, ?_⟩, kdel_nodup h.nodup n⟩
  · intro s hs
    simp only [Dk.settle] at hs
    split at hs
    · rcases List.mem_or_eq_of_mem_set hs with h1 | h1
      · exact h.ok.sec s h1
      · subst h1
        cases hk : kget d.fresh n with
        | none => simp [zs]
        | some q => simpa using (h.ok.get hk).1
    · exact h.ok.sec s hs
  · intro p hp
    have hlen : (d.settle n is).last.length = d.last.length := by simp only [Dk.settle]; split <;> simp
    rw [hlen]
    exact h.ok.fr p ((kdel_sub d.fresh n).subset hp)
  · have hlen : (d.settle n is).last.length = d.last.length := by simp only [Dk.settle]; split <;> simp
    rw [hlen]; exact h.ok.most

theorem settleN_fine (h : d.Fine) (ks : List Int) (f : Nat → Bool) : ∀ k, (d.settleN ks f k).Fine
  | 0 => h
  | k + 1 => settle_fine (settleN_fine h ks f k) _ _

theorem settleN_len (ks : List Int) (f : Nat → Bool) : ∀ k, (d.settleN ks f k).last.length = d.last.length
  | 0 => rfl
  | k + 1 => by
    simp only [Dk.settleN, Dk.settle]
    split
    · simp [settleN_len ks f k]
    · exact settleN_len ks f k

theorem settleN_get (h : d.Fine) (ks : List Int) (f : Nat → Bool) : ∀ (k : Nat) (j : Int), k ≤ ks.length → kget (d.settleN ks f k).fresh j = if j ∈ ks.take k then none else kget d.fresh j
  | 0, j, _ => by simp [Dk.settleN]
  | k + 1, j, hk => by
    have hlt : k < ks.length := by omega
    have e1 : ks.getD k 0 = ks[k] := by simp [List.getD, hlt]
    simp only [Dk.settleN, Dk.settle]
    rw [kget_kdel (settleN_fine h ks f k).nodup, settleN_get h ks f k j (by omega), List.take_succ_eq_append_getElem hlt, e1]
    by_cases h1 : ks[k] = j
    · simp [h1]
    · rw [if_neg h1]
      have : (j ∈ ks.take k ++ [ks[k]]) ↔ j ∈ ks.take k := by
        rw [List.mem_append, List.mem_singleton]
        exact ⟨fun x => x.elim id (fun y => absurd y.symm h1), Or.inl⟩
      simp only [this]

theorem keys_mem (j : Int) : j ∈ d.keys ↔ j ∈ d.fresh.map (·.1) := (List.mergeSort_perm _ _).mem_iff
theorem keys_nodup (h : d.Fine) : d.keys.Nodup := (List.mergeSort_perm _ _).nodup_iff.2 h.nodup

/-- At each round the key at hand is still there. -/
theorem settleN_at (h : d.Fine) (f : Nat → Bool) (k : Nat) (hk : k < d.keys.length) : ∃ s, kget (d.settleN d.keys f k).fresh (d.keys.getD k 0) = some s ∧ s.length = 64 ∧ 0 ≤ d.keys.getD k 0 ∧ d.keys.getD k 0 < d.last.length := by
  have e1 : d.keys.getD k 0 = d.keys[k] := by simp [List.getD, hk]
  have hnot : d.keys[k] ∉ d.keys.take k := by
    intro hm
    obtain ⟨i, hi, he⟩ := List.getElem_of_mem hm
    have hi' : i < k := by simp at hi; omega
    have hne := List.pairwise_iff_getElem.1 (keys_nodup h) i k (by omega) hk hi'
    exact hne (by rw [← he]; simp)
  rw [settleN_get h d.keys f k _ (by omega), e1, if_neg hnot]
  cases hg : kget d.fresh d.keys[k] with
  | none => exact absurd ((keys_mem _).1 (List.getElem_mem hk)) (kget_none.1 hg)
  | some s =>
    obtain ⟨a1, a2, a3⟩ := h.ok.get hg
    exact ⟨s, rfl, a1, a2, a3⟩

theorem settleN_all (h : d.Fine) (f : Nat → Bool) : (d.settleN d.keys f d.keys.length).fresh = [] := by
  have hall : ∀ j, kget (d.settleN d.keys f d.keys.length).fresh j = none := by
    intro j
    rw [settleN_get h d.keys f _ j (Nat.le_refl _), List.take_length]
    split
    · rfl
    · rename_i hj; exact kget_none.2 (fun hm => hj ((keys_mem j).2 hm))
  cases hl : (d.settleN d.keys f d.keys.length).fresh with
  | nil => rfl
  | cons p r => have := hall p.1; rw [hl] at this; simp [kget] at this

/-- Flush, where it is done. -/
def Dk.flushed (d : Dk) : Dk := d.spend.settleN d.spend.keys (fun _ => true) d.spend.keys.length

theorem flush_dead (h : Sat e (HP.disk b d :: L) w) (hd : d.dead = true) : Calls Tryz.prog 101 #[.pointer (some ⟨b, 0, none⟩)] w fun x w' => x = .returned (.int .i64 3) ∧ w = w' := by
  obtain ⟨lb, mb, h⟩ := h.disk_open
  have c4 := h.disk_at.c4
  rw [hd] at c4
  clear h hd
  go_enter Tryz.func101, Tryz.ntmps101
  go_wp2_with fail
  go_ret
  exact ⟨rfl, rfl⟩

theorem flush_fuse (h : Sat e (HP.disk b d :: L) w) (h1 : 0 ≤ d.ops) (h2 : d.ops < 1000000000) (hd : d.dead = false) (hf : d.fuse = 0) :
    Calls Tryz.prog 101 #[.pointer (some ⟨b, 0, none⟩)] w fun x w' => x = .returned (.int .i64 3) ∧ Sat e (HP.disk b { d with dead := true } :: L) w' := by
  have H := hide h
  obtain ⟨lb, mb, h⟩ := h.disk_open
  have c4 := h.disk_at.c4
  rw [hd] at c4
  have hsp : d.spend = { d with dead := true } := by rw [Dk.spend, if_pos hf]
  have HS := hide hsp
  have hdec : decide (d.fuse ≠ 0) = false := by simp [hf]
  have HD := hide hdec
  have hf4 : d.fuse < 9223372036854775808 := by omega
  have HF4 := hide hf4
  clear h hd hf hsp hdec hf4
  go_enter Tryz.func101, Tryz.ntmps101
  go_wp2_with (go_at_call 120; refine (step_calls H.out h1 h2 HF4.out).mono ?_; rintro x w1 ⟨rfl, hs1⟩; rw [HS.out] at hs1; rw [HD.out]; have H1 := hide hs1; clear hs1)
  go_ret
  exact ⟨rfl, H1.out⟩

theorem spend_fine (h : d.Fine) : d.spend.Fine := by
  have h1 : d.spend.last = d.last := by unfold Dk.spend; split <;> rfl
  have h2 : d.spend.fresh = d.fresh := by unfold Dk.spend; split <;> rfl
  exact ⟨⟨by rw [h1]; exact h.ok.sec, by rw [h1, h2]; exact h.ok.fr, by rw [h1]; exact h.ok.most⟩, by rw [h2]; exact h.nodup⟩

theorem nodup_len {α : Type} [DecidableEq α] : ∀ (l m : List α), l.Nodup → (∀ x ∈ l, x ∈ m) → l.length ≤ m.length
  | [], _, _, _ => by simp
  | a :: l, m, hn, hs => by
    have ha : a ∈ m := hs a (by simp)
    have hn' := List.nodup_cons.1 hn
    have := nodup_len l (m.erase a) hn'.2 (fun x hx => by
      have hxa : x ≠ a := fun e => hn'.1 (by rw [← e]; exact hx)
      exact (List.mem_erase_of_ne hxa).2 (hs x (by simp [hx])))
    rw [List.length_erase_of_mem ha] at this
    have hpos : 0 < m.length := List.length_pos_of_mem ha
    simp only [List.length_cons]; omega

theorem fresh_len (h : d.Fine) : d.fresh.length ≤ 256 := by
  have hsub : ∀ x ∈ d.fresh.map (·.1), x ∈ (List.range d.last.length).map Int.ofNat := by
    intro x hx
    obtain ⟨p, hp, rfl⟩ := List.mem_map.1 hx
    obtain ⟨_, h0, h1⟩ := h.ok.fr p hp
    exact List.mem_map.2 ⟨p.1.toNat, List.mem_range.2 (by omega), by simp; omega⟩
  have := nodup_len _ _ h.nodup hsub
  simp at this
  have := h.ok.most
  omega

/-- The loop of Flush and of Crash at the head of a round. -/
def LoopAt (e : Env) (b : Nat) (d : Dk) (L : List HP) (base : Option Addr) (cap : Nat) (f : Nat → Bool) (i : Value) (wr : World) : Prop :=
  ∃ k : Nat, k ≤ d.keys.length ∧ i = .int .i64 k ∧ Sat e (HP.row 3 1 (.slice base d.keys.length cap) d.keys.length (d.keys.map eInt) :: HP.disk b (d.settleN d.keys f k) :: L) wr

set_option maxRecDepth 100000 in
set_option maxHeartbeats 1000000 in
theorem flush_ok (h : Sat e (HP.disk b d :: L) w) (hF : d.Fine) (h1 : 0 ≤ d.ops) (h2 : d.ops < 1000000000) (hf4 : d.fuse < 9223372036854775808) (hd : d.dead = false) (hf : d.fuse ≠ 0) :
    Calls Tryz.prog 101 #[.pointer (some ⟨b, 0, none⟩)] w fun x w' => x = .returned (.int .i64 0) ∧ Sat e (HP.disk b d.flushed :: L) w' := by
  have H := hide h
  obtain ⟨lb, mb, h⟩ := h.disk_open
  have c4 := h.disk_at.c4
  rw [hd] at c4
  have hdec : decide (d.fuse ≠ 0) = true := by simp [hf]
  have HD := hide hdec
  have HF4 := hide hf4
  have hF' := spend_fine hF
  have hfl : d.flushed = d.spend.settleN d.spend.keys (fun _ => true) d.spend.keys.length := rfl
  obtain ⟨d1, hd1⟩ : ∃ d1, d1 = d.spend := ⟨_, rfl⟩
  rw [← hd1] at hF' hfl
  have H1D := hide hd1
  have hlen := fresh_len hF'
  have hkl : d1.keys.length ≤ 256 := by simpa [Dk.keys, sortI] using hlen
  have HFI := hide hF'
  have HLN := hide hlen
  have HFL := hide hfl
  clear h hd hf hdec hf4 hF hF' hlen hfl hd1
  go_enter Tryz.func101, Tryz.ntmps101
  go_wp2_with (first
    | (go_at_call 120; refine (step_calls H.out h1 h2 HF4.out).mono ?_; rintro x w1 ⟨rfl, hs1⟩; rw [HD.out]; rw [← H1D.out] at hs1; have H1 := hide hs1; clear hs1)
    | (go_at_call 57; refine (written_calls H1.out HLN.out).mono ?_; rintro x w2 ⟨v, rfl, hs2⟩; obtain ⟨base, cap, hv, _⟩ := hs2.row_view; subst hv; have H2 := hide hs2; clear hs2 c4))
  go_loopw [4, 17] (fun _ i wr => LoopAt e b d1 L base cap (fun _ => true) i wr) (fun _ i _ => d1.keys.length - (intOf i).toNat)
  case atStart => exact ⟨0, Nat.zero_le _, rfl, H2.out⟩
  case round =>
    obtain ⟨k, hk, rfl, hsk⟩ := hrel
    have HSK := hide hsk
    clear hsk
    by_cases hlt : k < d1.keys.length
    · obtain ⟨g, hg⟩ := HSK.out.row_base (by omega)
      subst hg
      obtain ⟨s, hs1, hs2, hs3, hs4⟩ := settleN_at HFI.out (fun _ => true) k hlt
      obtain ⟨m, hm⟩ := Int.eq_ofNat_of_zero_le hs3
      have hcell : wr.cell? ⟨g, k, none⟩ = some (.int .i64 m) := by
        rw [(HSK.out.row_cell (i := k) (by simpa using hlt)).1]
        have : d1.keys[k] = (m : Int) := by rw [← hm]; simp [List.getD, hlt]
        simp [hlt, this, eInt]
      have hmost := HFI.out.ok.most
      have hml : m < (d1.settleN d1.keys (fun _ => true) k).last.length := by rw [settleN_len]; omega
      have hok : okInt (m : Int) := by unfold okInt; exact WalkArith.wf_i64 (by omega)
      have hstep : (d1.settleN d1.keys (fun _ => true) k).settle m true = d1.settleN d1.keys (fun _ => true) (k + 1) := by rw [← hm]; rfl
      rw [hm] at hs1
      have HG := hide hs1
      have HS2 := hide hs2
      have HML := hide hml
      have HOK := hide hok
      have HST := hide hstep
      clear hs1 hs2 hs3 hs4 hm hmost hml hok hstep
      go_wp2_with (go_at_call 58; refine (settle_true HSK.out.swap (settleN_fine HFI.out _ _ k).ok m HOK.out HML.out s HS2.out HG.out).mono ?_; rintro x w3 ⟨rfl, h3⟩; rw [HST.out] at h3; have H3 := hide h3; clear h3)
      go_roundw
      case rel => exact ⟨k + 1, by omega, by go_num, H3.out.swap⟩
      case measure => simp [intOf]; omega
    · have hke : k = d1.keys.length := by omega
      have hfin := HSK.out.drop
      rw [hke, ← HFL.out] at hfin
      have HFN := hide hfin
      clear hfin hke
      go_wp2_with fail
      go_ret
      exact ⟨rfl, HFN.out⟩
end Go.Proofs.YtcgnkloljfgiaaaGreatDoor

namespace Go.Proofs.YtcgnkloljfgiaaaGreatDoor
open Go.RowKit Go.Maps Go.MapKept
variable {e : Env} {b : Nat} {d : Dk} {L : List HP} {w : World}

def bitOf (pick : List UInt8) (k : Nat) : Bool := decide (k / 8 < pick.length) && decide ((pick.getD (k / 8) 0).toNat / 2 ^ (k % 8) % 2 = 1)

/-- Crash. -/
def Dk.crashed (d : Dk) (pick : List UInt8) : Dk := { d.settleN d.keys (bitOf pick) d.keys.length with fuse := -1, dead := false }

theorem u8_and1 (n : Int) : bits .and .u8 n 1 = n % 2 := by
  have h1 : (BitVec.ofInt 8 1).toNat = 2 ^ 1 - 1 := by decide
  have key : (BitVec.ofInt 8 n &&& BitVec.ofInt 8 1).toNat = (n % ((2 ^ 8 : Nat) : Int)).toNat % 2 ^ 1 := by
    rw [BitVec.toNat_and, BitVec.toNat_ofInt, h1, Nat.and_two_pow_sub_one_eq_mod]
  show IntKind.u8.wrap ((BitVec.ofInt 8 n &&& BitVec.ofInt 8 1).toNat : Nat) = n % 2
  rw [key]
  simp only [IntKind.wrap, IntKind.bits, IntKind.signed]
  simp
  omega

theorem bit_eq (pick : List UInt8) (k : Nat) (h : k / 8 < pick.length) : (bits BinOp.and IntKind.u8 ((pick[k / 8].toNat : Int) / 2 ^ (k % 8)) 1 == 1) = bitOf pick k := by
  rw [u8_and1]
  unfold bitOf
  have e1 : pick.getD (k / 8) 0 = pick[k / 8] := by simp [List.getD, h]
  rw [e1]
  have e2 : ((pick[k / 8].toNat : Int) / 2 ^ (k % 8)) % 2 = ((pick[k / 8].toNat / 2 ^ (k % 8) % 2 : Nat) : Int) := by
    simp
  rw [e2]
  simp only [h, decide_true, Bool.true_and]
  rw [Bool.eq_iff_iff]
  simp only [beq_iff_eq, decide_eq_true_eq]
  omega

theorem settle_calls (h : Sat e (HP.disk b d :: L) w) (hOk : d.Ok) (n : Nat) (hok : okInt n) (hn : n < d.last.length) (s : List UInt8) (hs : s.length = 64) (hk : kget d.fresh (n : Int) = some s) (is : Bool) : Calls Tryz.prog 58 #[.pointer (some ⟨b, 0, none⟩), .int .i64 n, .bool is] w
    fun x w' => x = .returned (.tuple #[]) ∧ Sat e (HP.disk b (d.settle n is) :: L) w' := by
  cases is
  · exact settle_false h n hok
  · exact settle_true h hOk n hok hn s hs hk

set_option maxRecDepth 100000 in
set_option maxHeartbeats 1000000 in
theorem crash_calls (h : Sat e (HP.disk b d :: L) w) (hF : d.Fine) (pv : Value) (pick : List UInt8) (H : View e.h pv pick.length (pick.map B8)) :
    Calls Tryz.prog 31 #[.pointer (some ⟨b, 0, none⟩), pv] w fun x w' => x = .returned (.tuple #[]) ∧ Sat e (HP.disk b (d.crashed pick) :: L) w' := by
  have HS := hide h
  have HV := hide H
  have HFI := hide hF
  have hlen := fresh_len hF
  have hkl : d.keys.length ≤ 256 := by simpa [Dk.keys, sortI] using hlen
  have HLN := hide hlen
  have hfl : d.crashed pick = { d.settleN d.keys (bitOf pick) d.keys.length with fuse := -1, dead := false } := rfl
  have HFL := hide hfl
  obtain ⟨pbase, pcap, hv, _⟩ := H
  subst hv
  clear h hF hlen hfl
  go_enter Tryz.func31, Tryz.ntmps31
  go_wp2_with (go_at_call 57; refine (written_calls HS.out HLN.out).mono ?_; rintro x w2 ⟨v, rfl, hs2⟩; obtain ⟨base, cap, hv, _⟩ := hs2.row_view; subst hv; have H2 := hide hs2; clear hs2)
  go_loopw [4, 5, 9] (fun _ _ i wr => LoopAt e b d L base cap (bitOf pick) i wr) (fun _ _ i _ => d.keys.length - (intOf i).toNat)
  case atStart => exact ⟨0, Nat.zero_le _, rfl, H2.out⟩
  case round =>
    obtain ⟨k, hk, rfl, hsk⟩ := hrel
    have HSK := hide hsk
    clear hsk
    by_cases hlt : k < d.keys.length
    · obtain ⟨g, hg⟩ := HSK.out.row_base (by omega)
      subst hg
      obtain ⟨s, hs1, hs2, hs3, hs4⟩ := settleN_at HFI.out (bitOf pick) k hlt
      obtain ⟨m, hm⟩ := Int.eq_ofNat_of_zero_le hs3
      have hcell : wr.cell? ⟨g, k, none⟩ = some (.int .i64 m) := by
        rw [(HSK.out.row_cell (i := k) (by simpa using hlt)).1]
        have : d.keys[k] = (m : Int) := by rw [← hm]; simp [List.getD, hlt]
        simp [hlt, this, eInt]
      have hmost := HFI.out.ok.most
      have hml : m < (d.settleN d.keys (bitOf pick) k).last.length := by rw [settleN_len]; omega
      have hok : okInt (m : Int) := by unfold okInt; exact WalkArith.wf_i64 (by omega)
      have hstep : (d.settleN d.keys (bitOf pick) k).settle m (bitOf pick k) = d.settleN d.keys (bitOf pick) (k + 1) := by rw [← hm]; rfl
      rw [hm] at hs1
      have HG := hide hs1
      have HS2 := hide hs2
      have HML := hide hml
      have HOK := hide hok
      have HST := hide hstep
      clear hs1 hs2 hs3 hs4 hm hmost hml hok hstep
      by_cases hp : k / 8 < pick.length
      · obtain ⟨pb, po, pc, hpv, hpc⟩ := (HV.out.sat HSK.out).cells (by intro hx; have := congrArg List.length hx; simp at this; rw [this] at hp; simp at hp)
        simp only [Value.slice.injEq] at hpv
        obtain ⟨hpv1, _, hpv3⟩ := hpv
        subst hpv1
        subst hpv3
        have hpx : wr.cell? ⟨pb, po + k / 8, none⟩ = some (.int .u8 (pick.getD (k / 8) 0).toNat) := by
          rw [hpc (k / 8) (B8 (pick.getD (k / 8) 0)) (by simp [List.getD, hp])]; rfl
        clear hpc
        have hb := bit_eq pick k hp
        have HB := hide hb
        clear hb
        go_wp2_with (go_at_call 58; refine (settle_calls HSK.out.swap (settleN_fine HFI.out _ _ k).ok m HOK.out HML.out s HS2.out HG.out _).mono ?_; rintro x w3 ⟨rfl, h3⟩; rw [HB.out, HST.out] at h3; have H3 := hide h3; clear h3)
        go_roundw
        case rel => exact ⟨k + 1, by omega, by go_num, H3.out.swap⟩
        case measure => simp [intOf]; omega
      · have hb : bitOf pick k = false := by simp [bitOf, hp]
        have hst := HST.out
        rw [hb] at hst
        have HST2 := hide hst
        clear hst hb
        go_wp2_with (go_at_call 58; refine (settle_calls HSK.out.swap (settleN_fine HFI.out _ _ k).ok m HOK.out HML.out s HS2.out HG.out _).mono ?_; rintro x w3 ⟨rfl, h3⟩; rw [HST2.out] at h3; have H3 := hide h3; clear h3)
        go_roundw
        case rel => exact ⟨k + 1, by omega, by go_num, H3.out.swap⟩
        case measure => simp [intOf]; omega
    · have hke : k = d.keys.length := by omega
      obtain ⟨lb, mb, hsd⟩ := HSK.out.drop.disk_open
      rw [hke] at hsd
      have D := hsd.disk_at
      have c3 := D.c3
      have c4 := D.c4
      have f3 := D.f3
      have f4 := D.f4
      have hfin : Sat e (HP.disk b (d.crashed pick) :: L) ((wr.setCell ⟨b, 3, none⟩ (.int .i64 (-1))).setCell ⟨b, 4, none⟩ (.bool false)) := by
        refine Sat.disk_shut (lb := lb) (mb := mb) ?_
        rw [HFL.out]
        exact (hsd.setCell (i := 3) (.int .i64 (-1))).setCell (i := 4) (.bool false)
      have HFN := hide hfin
      clear hfin hke hsd D
      go_wp2_with fail
      go_end0
      exact ⟨rfl, HFN.out⟩
end Go.Proofs.YtcgnkloljfgiaaaGreatDoor

namespace Go.Proofs.YtcgnkloljfgiaaaGreatDoor
open Go.RowKit Go.Maps Go.MapKept
variable {e : Env} {b : Nat} {d : Dk} {L : List HP} {w : World}

structure Dk.Good (d : Dk) : Prop where
  fine : d.Fine
  ops0 : 0 ≤ d.ops
  ops1 : d.ops < 1000000000
  fuse0 : -1 ≤ d.fuse
  fuse1 : d.fuse < 9223372036854775808

def Dk.writeR (d : Dk) (n : Int) (l : List UInt8) : Int := if d.dead then 3 else if !(d.has n) || decide (l.length ≠ 64) then 1 else if d.fuse = 0 then 3 else 0
def Dk.writeD (d : Dk) (n : Int) (l : List UInt8) : Dk := if d.dead then d else if !(d.has n) || decide (l.length ≠ 64) then d else if d.fuse = 0 then { d with dead := true } else d.wrote n l
def Dk.flushR (d : Dk) : Int := if d.dead then 3 else if d.fuse = 0 then 3 else 0
def Dk.flushD (d : Dk) : Dk := if d.dead then d else if d.fuse = 0 then { d with dead := true } else d.flushed
def Dk.readR (d : Dk) (n : Int) : Int := if d.dead then 3 else if d.has n then 0 else 1
def Dk.readB (d : Dk) (n : Int) : List UInt8 := if d.dead then [] else if d.has n then d.cur n else []

theorem write_gen (h : Sat e (HP.disk b d :: L) w) (hg : d.Good) (n : Int) (v : Value) (l : List UInt8) (hv : ∀ d' w', Sat e (HP.disk b d' :: L) w' → View (World.frag w') v l.length (l.map B8)) :
    Calls Tryz.prog 100 #[.pointer (some ⟨b, 0, none⟩), .int .i64 n, v] w fun x w' => x = .returned (.int .i64 (d.writeR n l)) ∧ Sat e (HP.disk b (d.writeD n l) :: L) w' := by
  by_cases hd : d.dead = true
  · refine (write_dead h n v hd).mono ?_
    rintro x w' ⟨rfl, rfl⟩
    exact ⟨by simp [Dk.writeR, hd], by simpa [Dk.writeD, hd] using h⟩
  · have hd' : d.dead = false := by simpa using hd
    obtain ⟨base, cap, hvv, _⟩ := hv d w h
    by_cases hn : d.has n = false ∨ l.length ≠ 64
    · subst hvv
      refine (write_arg h n base l.length cap hd' hn).mono ?_
      have hb : (!(d.has n) || decide (l.length ≠ 64)) = true := by rcases hn with h1 | h1 <;> simp [h1]
      rintro x w' ⟨rfl, rfl⟩
      exact ⟨by unfold Dk.writeR; rw [if_neg hd, if_pos hb], by unfold Dk.writeD; rw [if_neg hd, if_pos hb]; exact h⟩
    · have h64 : l.length = 64 := by rcases Nat.decEq l.length 64 with h1 | h1
                                     · exact absurd (Or.inr h1) hn
                                     · exact h1
      have hh : d.has n = true := by
        cases hq : d.has n with
        | true => rfl
        | false => exact absurd (Or.inl hq) hn
      have hb : (!(d.has n) || decide (l.length ≠ 64)) = false := by simp [hh, h64]
      by_cases hf : d.fuse = 0
      · subst hvv
        rw [h64]
        refine (write_fuse h hg.ops0 hg.ops1 n base cap hd' hh hf).mono ?_
        rintro x w' ⟨rfl, h1⟩
        exact ⟨by unfold Dk.writeR; rw [if_neg hd, hb, if_neg (by simp), if_pos hf], by unfold Dk.writeD; rw [if_neg hd, hb, if_neg (by simp), if_pos hf]; exact h1⟩
      · obtain ⟨xb, xo, xc, hvv2, _⟩ := (hv d w h).cells (by intro hx; have := congrArg List.length hx; simp [h64] at this)
        subst hvv2
        rw [h64]
        refine (write_ok h hg.ops0 hg.ops1 hg.fuse1 n xb xo xc l h64 ?_ hd' hh hg.fine.ok.most hf).mono ?_
        · intro d' w' hs j u hj
          obtain ⟨xb2, xo2, xc2, hvv3, hc⟩ := (hv d' w' hs).cells (by intro hx; have := congrArg List.length hx; simp [h64] at this)
          simp only [Value.slice.injEq, Option.some.injEq, Addr.mk.injEq, and_true] at hvv3
          obtain ⟨⟨rfl, rfl⟩, _, _⟩ := hvv3
          exact hc j u hj
        · rintro x w' ⟨rfl, h1⟩
          exact ⟨by unfold Dk.writeR; rw [if_neg hd, hb, if_neg (by simp), if_neg hf], by unfold Dk.writeD; rw [if_neg hd, hb, if_neg (by simp), if_neg hf]; exact h1⟩

/-- From an owned slice. -/
theorem write_own (v : Value) (l : List UInt8) (h : Sat e (HP.row 5 1 v l.length (l.map B8) :: HP.disk b d :: L) w) (hg : d.Good) (n : Int) :
    Calls Tryz.prog 100 #[.pointer (some ⟨b, 0, none⟩), .int .i64 n, v] w fun x w' => x = .returned (.int .i64 (d.writeR n l)) ∧ Sat e (HP.row 5 1 v l.length (l.map B8) :: HP.disk b (d.writeD n l) :: L) w' := by
  refine (write_gen h.swap hg n v l (fun d' w' hs => hs.swap.row_view)).mono ?_
  rintro x w' ⟨rfl, h1⟩
  exact ⟨rfl, h1.swap⟩

theorem flush_gen (h : Sat e (HP.disk b d :: L) w) (hg : d.Good) :
    Calls Tryz.prog 101 #[.pointer (some ⟨b, 0, none⟩)] w fun x w' => x = .returned (.int .i64 d.flushR) ∧ Sat e (HP.disk b d.flushD :: L) w' := by
  by_cases hd : d.dead = true
  · refine (flush_dead h hd).mono ?_
    rintro x w' ⟨rfl, rfl⟩
    exact ⟨by simp [Dk.flushR, hd], by simpa [Dk.flushD, hd] using h⟩
  · have hd' : d.dead = false := by simpa using hd
    by_cases hf : d.fuse = 0
    · refine (flush_fuse h hg.ops0 hg.ops1 hd' hf).mono ?_
      rintro x w' ⟨rfl, h1⟩
      exact ⟨by simp [Dk.flushR, hd', hf], by simpa [Dk.flushD, hd', hf] using h1⟩
    · refine (flush_ok h hg.fine hg.ops0 hg.ops1 hg.fuse1 hd' hf).mono ?_
      rintro x w' ⟨rfl, h1⟩
      exact ⟨by simp [Dk.flushR, hd', hf], by simpa [Dk.flushD, hd', hf] using h1⟩

theorem read_gen (h : Sat e (HP.disk b d :: L) w) (hOk : d.Ok) (n : Int) :
    Calls Tryz.prog 60 #[.pointer (some ⟨b, 0, none⟩), .int .i64 n] w fun x w' => ∃ base cap, x = .returned (.tuple #[.slice base (d.readB n).length cap, .int .i64 (d.readR n)]) ∧
      Sat e (HP.row 5 1 (.slice base (d.readB n).length cap) (d.readB n).length ((d.readB n).map B8) :: HP.disk b d :: L) w' := by
  by_cases hd : d.dead = true
  · refine (read_dead h n hd).mono ?_
    rintro x w' ⟨rfl, rfl⟩
    exact ⟨none, 0, by simp [Dk.readB, Dk.readR, hd], by simpa [Dk.readB, hd] using h.row_nil 5 1⟩
  · have hd' : d.dead = false := by simpa using hd
    cases hn : d.has n with
    | false =>
      refine (read_arg h n hd' hn).mono ?_
      rintro x w' ⟨rfl, rfl⟩
      exact ⟨none, 0, by simp [Dk.readB, Dk.readR, hd', hn], by simpa [Dk.readB, hd', hn] using h.row_nil 5 1⟩
    | true =>
      have hn' : 0 ≤ n ∧ n < d.last.length := by simpa [Dk.has] using hn
      refine (read_ok h hOk n hd' hn'.1 hn'.2).mono ?_
      rintro x w' ⟨g, cap, rfl, h1⟩
      have hl := cur_len hOk n hn'.1 hn'.2
      refine ⟨some ⟨g, 0, none⟩, cap, by simp [Dk.readB, Dk.readR, hd', hn, hl], ?_⟩
      have e1 : d.readB n = d.cur n := by simp [Dk.readB, hd', hn]
      rw [e1, hl]; exact h1

/-! ### what stays good -/
theorem good_with (hg : d.Good) (x : Bool) : ({ d with dead := x } : Dk).Good := ⟨⟨⟨hg.fine.ok.sec, hg.fine.ok.fr, hg.fine.ok.most⟩, hg.fine.nodup⟩, hg.ops0, hg.ops1, hg.fuse0, hg.fuse1⟩

theorem spend_good (hg : d.Good) (h : d.ops < 999999999) : d.spend.Good := by
  obtain ⟨hf, h0, h1, h2, h3⟩ := hg
  refine ⟨spend_fine hf, ?_, ?_, ?_, ?_⟩ <;> (unfold Dk.spend; (repeat' split) <;> simp only [] <;> omega)

theorem wrote_good (hg : d.Good) (h : d.ops < 999999999) (n : Int) (l : List UInt8) (hl : l.length = 64) (hn : d.has n = true) : (d.wrote n l).Good := by
  have hs := spend_good hg h
  exact ⟨⟨wrote_ok hg.fine.ok n l hl hn, kput_nodup hg.fine.nodup n l⟩, hs.ops0, hs.ops1, hs.fuse0, hs.fuse1⟩

theorem settleN_rest (ks : List Int) (f : Nat → Bool) : ∀ k, (d.settleN ks f k).ops = d.ops ∧ (d.settleN ks f k).fuse = d.fuse ∧ (d.settleN ks f k).dead = d.dead
  | 0 => ⟨rfl, rfl, rfl⟩
  | k + 1 => settleN_rest ks f k

theorem flushed_good (hg : d.Good) (h : d.ops < 999999999) : d.flushed.Good := by
  have hs := spend_good hg h
  obtain ⟨e1, e2, _⟩ := settleN_rest (d := d.spend) d.spend.keys (fun _ => true) d.spend.keys.length
  exact ⟨settleN_fine hs.fine _ _ _, by unfold Dk.flushed; rw [e1]; exact hs.ops0, by unfold Dk.flushed; rw [e1]; exact hs.ops1, by unfold Dk.flushed; rw [e2]; exact hs.fuse0, by unfold Dk.flushed; rw [e2]; exact hs.fuse1⟩

theorem crashed_good (hg : d.Good) (pick : List UInt8) : (d.crashed pick).Good := by
  have hf := settleN_fine hg.fine d.keys (bitOf pick) d.keys.length
  obtain ⟨e1, e2, _⟩ := settleN_rest (d := d) d.keys (bitOf pick) d.keys.length
  exact ⟨⟨⟨hf.ok.sec, hf.ok.fr, hf.ok.most⟩, hf.nodup⟩, by show 0 ≤ (d.settleN d.keys (bitOf pick) d.keys.length).ops; rw [e1]; exact hg.ops0, by show (d.settleN d.keys (bitOf pick) d.keys.length).ops < _; rw [e1]; exact hg.ops1, by show (-1 : Int) ≤ -1; omega, by show (-1 : Int) < _; omega⟩

theorem fused_good (hg : d.Good) (n : Int) (hn : n < 9223372036854775808) : (d.fused n).Good :=
  ⟨⟨⟨hg.fine.ok.sec, hg.fine.ok.fr, hg.fine.ok.most⟩, hg.fine.nodup⟩, hg.ops0, hg.ops1, by show -1 ≤ max n (-1); omega, by show max n (-1) < _; omega⟩

theorem fresh0_good (n : Nat) (h : n ≤ 256) : (Dk.fresh0 n).Good :=
  ⟨⟨fresh0_ok n h, by simp [Dk.fresh0]⟩, by simp [Dk.fresh0], by simp [Dk.fresh0], by simp [Dk.fresh0], by simp [Dk.fresh0]⟩

theorem writeD_good (hg : d.Good) (h : d.ops < 999999999) (n : Int) (l : List UInt8) : (d.writeD n l).Good := by
  unfold Dk.writeD
  split
  · exact hg
  · split
    · exact hg
    · rename_i h2
      split
      · exact good_with hg true
      · simp only [Bool.or_eq_true, Bool.not_eq_true', decide_eq_true_eq, not_or, Bool.not_eq_false] at h2
        exact wrote_good hg h n l (Decidable.not_not.1 h2.2) h2.1

theorem flushD_good (hg : d.Good) (h : d.ops < 999999999) : d.flushD.Good := by
  unfold Dk.flushD
  split
  · exact hg
  · split
    · exact good_with hg true
    · exact flushed_good hg h

theorem wrote_len (d : Dk) (n : Int) (l : List UInt8) : (d.wrote n l).last.length = d.last.length := by
  unfold Dk.wrote Dk.spend; simp only []; split <;> rfl
theorem writeD_len (d : Dk) (n : Int) (l : List UInt8) : (d.writeD n l).last.length = d.last.length := by
  unfold Dk.writeD
  split
  · rfl
  · split
    · rfl
    · split
      · rfl
      · exact wrote_len d n l
theorem spend_len (d : Dk) : d.spend.last.length = d.last.length := by unfold Dk.spend; split <;> rfl
theorem flushD_len (d : Dk) : d.flushD.last.length = d.last.length := by
  unfold Dk.flushD
  split
  · rfl
  · split
    · rfl
    · unfold Dk.flushed; rw [settleN_len, spend_len]
theorem crashed_len (d : Dk) (pick : List UInt8) : (d.crashed pick).last.length = d.last.length := settleN_len _ _ _

/-- A disk without a fuse, of n sectors, k operations done. -/
structure Alive (d : Dk) (n : Nat) (k : Int) : Prop where
  good : d.Good
  dead : d.dead = false
  fuse : d.fuse = -1
  ops : d.ops = k
  len : d.last.length = n

theorem alive_fresh (n : Nat) (h : n ≤ 256) : Alive (Dk.fresh0 n) n 0 := ⟨fresh0_good n h, rfl, rfl, rfl, by simp [Dk.fresh0]⟩

theorem alive_has {n : Nat} {k : Int} (h : Alive d n k) (j : Int) : d.has j = (decide (0 ≤ j) && decide (j < n)) := by simp [Dk.has, h.len]

theorem alive_write {n : Nat} {k : Int} (h : Alive d n k) (hk : k < 999999999) (j : Int) (h0 : 0 ≤ j) (h1 : j < n) (l : List UInt8) (hl : l.length = 64) : d.writeR j l = 0 ∧ d.writeD j l = d.wrote j l ∧ Alive (d.wrote j l) n (k + 1) := by
  have hh : d.has j = true := by rw [alive_has h]; simp [h0, h1]
  have hf : d.fuse ≠ 0 := by rw [h.fuse]; omega
  refine ⟨by simp [Dk.writeR, h.dead, hh, hl, hf], by simp [Dk.writeD, h.dead, hh, hl, hf], ?_⟩
  refine ⟨wrote_good h.good (by rw [h.ops]; exact hk) j l hl hh, ?_, ?_, ?_, by rw [wrote_len, h.len]⟩
  · simp [Dk.wrote, Dk.spend, hf, h.dead]
  · simp [Dk.wrote, Dk.spend, h.fuse]
  · simp [Dk.wrote, Dk.spend, hf, h.ops]

theorem alive_flush {n : Nat} {k : Int} (h : Alive d n k) (hk : k < 999999999) : d.flushR = 0 ∧ d.flushD = d.flushed ∧ Alive d.flushed n (k + 1) := by
  have hf : d.fuse ≠ 0 := by rw [h.fuse]; omega
  obtain ⟨e1, e2, e3⟩ := settleN_rest (d := d.spend) d.spend.keys (fun _ => true) d.spend.keys.length
  refine ⟨by simp [Dk.flushR, h.dead, hf], by simp [Dk.flushD, h.dead, hf], flushed_good h.good (by rw [h.ops]; exact hk), ?_, ?_, ?_, ?_⟩
  · unfold Dk.flushed; rw [e3]; simp [Dk.spend, hf, h.dead]
  · unfold Dk.flushed; rw [e2]; simp [Dk.spend, h.fuse]
  · unfold Dk.flushed; rw [e1]; simp [Dk.spend, hf, h.ops]
  · unfold Dk.flushed; rw [settleN_len, spend_len, h.len]

theorem alive_crash {n : Nat} {k : Int} (h : Alive d n k) (pick : List UInt8) : Alive (d.crashed pick) n k := by
  obtain ⟨e1, e2, e3⟩ := settleN_rest (d := d) d.keys (bitOf pick) d.keys.length
  exact ⟨crashed_good h.good pick, rfl, rfl, by show (d.settleN d.keys (bitOf pick) d.keys.length).ops = k; rw [e1, h.ops], by rw [crashed_len, h.len]⟩

theorem alive_read {n : Nat} {k : Int} (h : Alive d n k) (j : Int) (h0 : 0 ≤ j) (h1 : j < n) : d.readR j = 0 ∧ d.readB j = d.cur j ∧ (d.cur j).length = 64 := by
  have hh : d.has j = true := by rw [alive_has h]; simp [h0, h1]
  exact ⟨by simp [Dk.readR, h.dead, hh], by simp [Dk.readB, h.dead, hh], cur_len h.good.fine.ok j h0 (by rw [h.len]; exact h1)⟩

theorem zs_row {g : Nat} (h : Sat e (HP.row 5 1 (.slice (some ⟨g, 0, none⟩) 64 64) 64 (List.replicate 64 (B8 0)) :: L) w) : Sat e (HP.row 5 1 (.slice (some ⟨g, 0, none⟩) 64 64) zs.length (zs.map B8) :: L) w := by
  have : zs.map B8 = List.replicate 64 (B8 0) := by simp [zs]
  rw [this]; exact h
end Go.Proofs.YtcgnkloljfgiaaaGreatDoor

namespace Go.Proofs.YtcgnkloljfgiaaaGreatDoor
open Go.RowKit Go.Maps Go.MapKept
variable {d : Dk}

def Dk.lst (d : Dk) (n : Int) : List UInt8 := d.last.getD n.toNat []

/-- Is the sector n one of the first k keys, and picked? -/
def picked (ks : List Int) (f : Nat → Bool) (k : Nat) (n : Int) : Prop := ∃ i, i < k ∧ ks.getD i 0 = n ∧ f i = true

theorem settleN_lst (h : d.Fine) (f : Nat → Bool) (n : Int) (h0 : 0 ≤ n) (h1 : n < d.last.length) : ∀ k, k ≤ d.keys.length → (picked d.keys f k n → (d.settleN d.keys f k).lst n = d.cur n) ∧ (¬ picked d.keys f k n → (d.settleN d.keys f k).lst n = d.lst n)
  | 0, _ => ⟨fun ⟨i, hi, _⟩ => by omega, fun _ => rfl⟩
  | k + 1, hk => by
    obtain ⟨ih1, ih2⟩ := settleN_lst h f n h0 h1 k (by omega)
    obtain ⟨s, hs, hsl, hm0, hm1⟩ := settleN_at h f k (by omega)
    have hg := settleN_get h d.keys f k (d.keys.getD k 0) (by omega)
    rw [hs] at hg
    have hcur : s = d.cur (d.keys.getD k 0) := by
      split at hg
      · cases hg
      · unfold Dk.cur; rw [← hg]; rfl
    have hlen := settleN_len (d := d) d.keys f k
    have hstep : (d.settleN d.keys f (k + 1)).lst n = if f k = true ∧ d.keys.getD k 0 = n then s else (d.settleN d.keys f k).lst n := by
      show ((d.settleN d.keys f k).settle (d.keys.getD k 0) (f k)).lst n = _
      unfold Dk.settle Dk.lst
      simp only [hs, Option.getD_some]
      cases hf : f k with
      | false => simp
      | true =>
        simp only [if_true, true_and]
        by_cases hmn : d.keys.getD k 0 = n
        · rw [if_pos hmn, hmn]
          rw [List.getD_eq_getElem?_getD, List.getElem?_set_self (by rw [hlen]; omega)]
          rfl
        · rw [if_neg hmn, List.getD_eq_getElem?_getD, List.getElem?_set_ne (by omega)]
          rfl
    rw [hstep]
    by_cases hc : f k = true ∧ d.keys.getD k 0 = n
    · rw [if_pos hc]
      refine ⟨fun _ => by rw [hcur, hc.2], fun hn => absurd ⟨k, by omega, hc.2, hc.1⟩ hn⟩
    · rw [if_neg hc]
      refine ⟨fun ⟨i, hi, he, hfi⟩ => ih1 ?_, fun hn => ih2 (fun ⟨i, hi, he, hfi⟩ => hn ⟨i, by omega, he, hfi⟩)⟩
      rcases Nat.lt_or_ge i k with hik | hik
      · exact ⟨i, hik, he, hfi⟩
      · have : i = k := by omega
        subst this; exact absurd ⟨hfi, he⟩ hc

theorem cur_nofresh (h : d.fresh = []) (n : Int) : d.cur n = d.lst n := by simp [Dk.cur, h, kget, Dk.lst]

theorem cur_nokey (n : Int) (h : n ∉ d.keys) : d.cur n = d.lst n := by
  have : kget d.fresh n = none := kget_none.2 (fun hm => h ((keys_mem n).2 hm))
  simp [Dk.cur, this, Dk.lst]

theorem spend_fresh (d : Dk) : d.spend.fresh = d.fresh ∧ d.spend.last = d.last := by unfold Dk.spend; split <;> exact ⟨rfl, rfl⟩

theorem flushed_fresh (h : d.Fine) : d.flushed.fresh = [] := settleN_all (spend_fine h) _

theorem flushed_cur (h : d.Fine) (n : Int) (h0 : 0 ≤ n) (h1 : n < d.last.length) : d.flushed.cur n = d.cur n ∧ d.flushed.lst n = d.cur n := by
  have hs := spend_fine h
  have hl : n < d.spend.last.length := by rw [(spend_fresh d).2]; exact h1
  obtain ⟨i1, i2⟩ := settleN_lst hs (fun _ => true) n h0 hl d.spend.keys.length (Nat.le_refl _)
  have hcs : d.spend.cur n = d.cur n := by unfold Dk.cur; rw [(spend_fresh d).1, (spend_fresh d).2]
  have key : d.flushed.lst n = d.cur n := by
    by_cases hk : n ∈ d.spend.keys
    · obtain ⟨i, hi, he⟩ := List.getElem_of_mem hk
      rw [← hcs]
      exact i1 ⟨i, hi, by simp [List.getD, hi, he], rfl⟩
    · rw [← hcs, cur_nokey n hk]
      refine i2 (fun ⟨i, hi, he, _⟩ => hk ?_)
      rw [← he]; simp only [List.getD, List.getElem?_eq_getElem hi, Option.getD_some]
      exact List.getElem_mem hi
  exact ⟨by rw [cur_nofresh (flushed_fresh h), key], key⟩

theorem crashed_fresh (h : d.Fine) (pick : List UInt8) : (d.crashed pick).fresh = [] := settleN_all h _

theorem crashed_cur (h : d.Fine) (pick : List UInt8) (n : Int) (h0 : 0 ≤ n) (h1 : n < d.last.length) :
    (picked d.keys (bitOf pick) d.keys.length n → (d.crashed pick).cur n = d.cur n) ∧ (¬ picked d.keys (bitOf pick) d.keys.length n → (d.crashed pick).cur n = d.lst n) := by
  obtain ⟨i1, i2⟩ := settleN_lst h (bitOf pick) n h0 h1 d.keys.length (Nat.le_refl _)
  rw [cur_nofresh (crashed_fresh h pick)]
  exact ⟨i1, i2⟩

theorem wrote_lst (d : Dk) (n j : Int) (l : List UInt8) : (d.wrote n l).lst j = d.lst j := by
  have e2 : (d.wrote n l).last = d.last := by unfold Dk.wrote; simp only [(spend_fresh d).2]
  unfold Dk.lst; rw [e2]
set_option linter.unusedSimpArgs false in
theorem wrote_fresh (d : Dk) (n : Int) (l : List UInt8) : (d.wrote n l).fresh = kput d.fresh n l := by unfold Dk.wrote; simp only [(spend_fresh d).1]

theorem fresh0_cur {n : Nat} (j : Int) (h0 : 0 ≤ j) (h1 : j < n) : (Dk.fresh0 n).cur j = zs := by
  have : j.toNat < n := by omega
  simp [Dk.cur, Dk.fresh0, kget, List.getD, this]

/-- One sector fresh alone: a crash keeps it just where its bit says so. -/
theorem crashed_one (h : d.Fine) (j : Int) (y : List UInt8) (hf : d.fresh = [(j, y)]) (pick : List UInt8) (n : Int) (h0 : 0 ≤ n) (h1 : n < d.last.length) :
    (d.crashed pick).cur n = if n = j ∧ bitOf pick 0 = true then y else d.lst n := by
  have hk : d.keys = [j] := by unfold Dk.keys; rw [hf]; simp [sortI]
  obtain ⟨i1, i2⟩ := crashed_cur h pick n h0 h1
  have hp : picked d.keys (bitOf pick) d.keys.length n ↔ n = j ∧ bitOf pick 0 = true := by
    rw [hk]
    constructor
    · rintro ⟨i, hi, he, hb⟩
      have : i = 0 := by simp at hi; exact hi
      subst this
      exact ⟨by simpa using he.symm, hb⟩
    · rintro ⟨rfl, hb⟩
      exact ⟨0, by simp, rfl, hb⟩
  by_cases hc : n = j ∧ bitOf pick 0 = true
  · rw [i1 (hp.2 hc), if_pos hc, hc.1]
    simp [Dk.cur, hf, kget]
  · rw [i2 (fun x => hc (hp.1 x)), if_neg hc]
end Go.Proofs.YtcgnkloljfgiaaaGreatDoor
