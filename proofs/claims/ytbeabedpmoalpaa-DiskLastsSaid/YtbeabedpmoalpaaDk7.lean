/-
  package disk: settle, Fuse, Flush, Crash.
-/
import Derived.Test.YtbeabedpmoalpaaDk6
namespace Go.Proofs.Ytbeabedpmoalpaa
open Go.RowKit Go.Maps Go.MapKept
variable {e : Env} {b : Nat} {d : Dk} {L : List HP} {w : World}

def Dk.settle (d : Dk) (n : Int) (is : Bool) : Dk := { d with last := if is then d.last.set n.toNat ((kget d.fresh n).getD zs) else d.last, fresh := kdel d.fresh n }

theorem flat8_set : ∀ (l : List (List UInt8)) (n : Nat) (s : List UInt8), (∀ x ∈ l, x.length = 64) → s.length = 64 → n < l.length → laid (flat8 l).toArray (n * 64) (s.map B8) = (flat8 (l.set n s)).toArray := by
  intro l n s hl hs hn
  have aux : ∀ (l : List (List UInt8)) (n : Nat), (∀ x ∈ l, x.length = 64) → n < l.length → (flat8 l).take (n * 64) ++ s.map B8 ++ (flat8 l).drop (n * 64 + 64) = flat8 (l.set n s) := by
    intro l
    induction l with
    | nil => intro n _ hn; simp at hn
    | cons a r ih =>
      intro n hl hn
      have ha : (a.map B8).length = 64 := by simp [hl a (by simp)]
      cases n with
      | zero =>
        simp only [flat8, List.flatMap_cons, Nat.zero_mul, List.take_zero, List.nil_append, List.set_cons_zero, Nat.zero_add]
        rw [List.drop_append, ha]
        simp [List.drop_of_length_le (show (a.map B8).length ≤ 64 by omega)]
      | succ n =>
        have := ih n (fun x hx => hl x (by simp [hx])) (by simpa using hn)
        simp only [flat8, List.flatMap_cons, List.set_cons_succ] at this ⊢
        rw [← this, List.take_append, List.drop_append, ha]
        rw [List.take_of_length_le (show (a.map B8).length ≤ (n + 1) * 64 by omega), List.drop_of_length_le (show (a.map B8).length ≤ (n + 1) * 64 + 64 by omega)]
        simp only [List.nil_append, List.append_assoc]
        congr 3
        · congr 1; omega
        · congr 1; congr 1; omega
  have h64 : (s.map B8).length = 64 := by simp [hs]
  unfold laid
  rw [h64]
  congr 1
  exact aux l n hl hn

set_option maxRecDepth 100000 in
set_option maxHeartbeats 400000 in
theorem settle_false (h : Sat e (HP.disk b d :: L) w) (n : Int) (hok : okInt n) : Calls Try.prog 33 #[.pointer (some ⟨b, 0, none⟩), .int .i64 n, .bool false] w
    fun x w' => x = .returned (.tuple #[]) ∧ Sat e (HP.disk b (d.settle n false) :: L) w' := by
  obtain ⟨lb, mb, h⟩ := h.disk_open
  have c1 := h.disk_at.c1
  have hm : Sat e (HP.map eInt okInt eSec mb d.fresh :: HP.blk b (dkCells lb mb d) :: HP.blk lb (dkRow d) :: L) w := h.pick [2, 0, 1] 3 (by decide) (by decide) (by simp)
  have HM := hide hm
  clear h hm
  go_enter Try.func33, Try.ntmps33
  go_wp2_with (at_delete; (with_reducible refine wpList_delete_sl rfl 59 3 (.tmp 22) (.tmp 23) rfl intKey Try.underlying59 rfl n rfl hok HM.out ?_); intro w2 h2; have H2 := hide h2; clear h2)
  go_end0
  exact ⟨rfl, Sat.disk_shut (lb := lb) (mb := mb) (d := d.settle n false) (H2.out.pick [1, 2, 0] 3 (by decide) (by decide) (by simp))⟩

set_option maxRecDepth 100000 in
set_option maxHeartbeats 400000 in
theorem settle_true (h : Sat e (HP.disk b d :: L) w) (hOk : d.Ok) (n : Nat) (hok : okInt n) (hn : n < d.last.length) (s : List UInt8) (hs : s.length = 64) (hk : kget d.fresh (n : Int) = some s) : Calls Try.prog 33 #[.pointer (some ⟨b, 0, none⟩), .int .i64 n, .bool true] w
    fun x w' => x = .returned (.tuple #[]) ∧ Sat e (HP.disk b (d.settle n true) :: L) w' := by
  obtain ⟨lb, mb, h⟩ := h.disk_open
  have hlen : (s.map B8).length = 64 := by simp [hs]
  have hset := flat8_set d.last n s hOk.sec hs hn
  have hmost := hOk.most
  have hfit : n * 64 + (s.map B8).length ≤ (flat8 d.last).toArray.size := by
    rw [hlen]
    have e1 : ∀ l : List (List UInt8), (∀ x ∈ l, x.length = 64) → (flat8 l).length = l.length * 64 := by
      intro l
      induction l with
      | nil => intro _; rfl
      | cons a r ih => intro hl; simp only [flat8, List.flatMap_cons, List.length_append, List.length_map, List.length_cons] at ih ⊢; rw [ih (fun x hx => hl x (by simp [hx])), hl a (by simp)]; omega
    simp [e1 d.last hOk.sec]; omega
  have hst : d.settle n true = { d with last := d.last.set n s, fresh := kdel d.fresh n } := by simp [Dk.settle, hk]
  have hs0 := h.drew
  have D := hs0.disk_at
  have c0 := D.c0
  have c1 := D.c1
  have H0 := hide hs0
  have HK := hide hk
  have HL := hide hlen
  have HST := hide hset
  have HF := hide hfit
  have HE := hide hst
  clear h hs0 D hk hlen hset hfit hst hOk
  go_enter Try.func33, Try.ntmps33
  go_wp2_with fail
  refine wp_region_still_tail 12 (by kernel_rfl) (by kernel_rfl) ?_
  simp only [List.take_succ_cons, List.take_zero, List.drop_succ_cons, List.drop_zero]
  change wpStill _ _ w.drew (fun a' => wpList _ _ _ _ a' w.drew) _ _
  generalize w.drew = w2 at c0 c1 H0 ⊢
  have H4 : Sat e (HP.map eInt okInt eSec mb d.fresh :: HP.blk b (dkCells lb mb d) :: HP.blk lb (dkRow d) :: L) w2 := H0.out.pick [2, 0, 1] 3 (by decide) (by decide) (by simp)
  have hlook : (Instr.lookup 59 (.map (some mb)) (.int .i64 n) false).run Try.prog w2 = .ok (eSec s) w2 := by
    have := run_lookup (t := 59) intKey H4 Try.underlying59 (zero_sector w2) (n : Int) hok false
    rw [HK.out] at this
    exact this
  have h4 := hide H4
  clear H4
  iterate 12 still_step
  refine wpStill_nil ?_
  clear c1 hlook
  have hrow : Sat e (HP.blk lb (.cells (flat8 d.last).toArray 66) :: HP.blk b (dkCells lb mb d) :: HP.map eInt okInt eSec mb d.fresh :: L) w2 := H0.out.pick [1, 0, 2] 3 (by decide) (by decide) (by simp)
  have HR := hide hrow
  clear hrow
  go_wp2_with (first
    | ((with_reducible refine wpList_store_agg rfl 66 (.tmp 18) (.tmp 17) rfl (by rw [HL.out]; exact info_sector) rfl rfl (map_B8_one s) HR.out HF.out ?_); intro w3 h3; rw [HST.out] at h3; have c1 := h3.swap.disk_at.c1; have H5 := hide (show Sat e (HP.map eInt okInt eSec mb d.fresh :: HP.blk b (dkCells lb mb d) :: HP.blk lb (.cells (flat8 (d.last.set n s)).toArray 66) :: L) w3 from h3.pick [2, 1, 0] 3 (by decide) (by decide) (by simp)); clear h3)
    | (at_delete; (with_reducible refine wpList_delete_sl rfl 59 3 (.tmp 22) (.tmp 23) rfl intKey Try.underlying59 rfl (n : Int) rfl hok H5.out ?_); intro w4 h4; have H6 := hide h4; clear h4))
  have hd : dkCells lb mb d = dkCells lb mb (d.settle n true) := by rw [HE.out]; simp [dkCells]
  have h7 : Sat e (HP.blk b (dkCells lb mb (d.settle n true)) :: HP.blk lb (dkRow (d.settle n true)) :: HP.map eInt okInt eSec mb (d.settle n true).fresh :: L) w4 := by
    rw [← hd, HE.out]
    exact H6.out.pick [1, 2, 0] 3 (by decide) (by decide) (by simp)
  go_end0
  exact ⟨rfl, h7.disk_shut⟩

/-- Fuse. -/
def Dk.fused (d : Dk) (n : Int) : Dk := { d with fuse := max n (-1), dead := d.dead && decide (0 ≤ n) }

set_option maxRecDepth 100000 in
set_option maxHeartbeats 400000 in
theorem fuse_calls (h : Sat e (HP.disk b d :: L) w) (n : Int) : Calls Try.prog 21 #[.pointer (some ⟨b, 0, none⟩), .int .i64 n] w
    fun x w' => x = .returned (.tuple #[]) ∧ Sat e (HP.disk b (d.fused n) :: L) w' := by
  obtain ⟨lb, mb, h⟩ := h.disk_open
  have D := h.disk_at
  have c3 := D.c3
  have c4 := D.c4
  have f3 := D.f3
  have f4 := D.f4
  have hfin : Sat e (HP.disk b (d.fused n) :: L) ((w.setCell ⟨b, 3, none⟩ (.int .i64 (max n (-1)))).setCell ⟨b, 4, none⟩ (.bool (d.dead && decide (0 ≤ n)))) :=
    Sat.disk_shut (lb := lb) (mb := mb) ((h.setCell (i := 3) (.int .i64 (max n (-1)))).setCell (i := 4) (.bool (d.dead && decide (0 ≤ n))))
  have HF := hide hfin
  clear h D hfin
  cases hd : d.dead with
  | false =>
    rw [hd] at c4
    have HD := hide hd
    clear hd
    go_enter Try.func21, Try.ntmps21
    go_wp2
    go_end0
    have := HF.out
    rw [HD.out] at this
    exact ⟨rfl, this⟩
  | true =>
    rw [hd] at c4
    have HD := hide hd
    clear hd
    go_enter Try.func21, Try.ntmps21
    go_wp2
    go_end0
    have := HF.out
    rw [HD.out] at this
    exact ⟨rfl, this⟩
end Go.Proofs.Ytbeabedpmoalpaa
