/-
  package disk: Read, Write.
-/
import Derived.Test.YtbeabedpmoalpaaDk3
namespace Go.Proofs.Ytbeabedpmoalpaa
open Go.RowKit Go.Maps Go.MapKept
variable {e : Env} {b : Nat} {d : Dk} {L : List HP} {w : World}

theorem read_dead (h : Sat e (HP.disk b d :: L) w) (n : Int) (hd : d.dead = true) : Calls Try.prog 16 #[.pointer (some ⟨b, 0, none⟩), .int .i64 n] w fun x w' => x = .returned (.tuple #[.slice none 0 0, .int .i64 3]) ∧ w = w' := by
  obtain ⟨lb, mb, h⟩ := h.disk_open
  have c4 := h.disk_at.c4
  rw [hd] at c4
  clear h hd
  go_enter Try.func16, Try.ntmps16
  go_wp2_with fail
  go_ret2
  exact ⟨rfl, rfl⟩

theorem read_arg (h : Sat e (HP.disk b d :: L) w) (n : Int) (hd : d.dead = false) (hn : d.has n = false) : Calls Try.prog 16 #[.pointer (some ⟨b, 0, none⟩), .int .i64 n] w fun x w' => x = .returned (.tuple #[.slice none 0 0, .int .i64 1]) ∧ w = w' := by
  have H := hide h
  obtain ⟨lb, mb, h⟩ := h.disk_open
  have c4 := h.disk_at.c4
  rw [hd] at c4
  have HN := hide hn
  clear h hd hn
  go_enter Try.func16, Try.ntmps16
  go_wp2_with (go_at_call 28; refine (has_calls H.out n).mono ?_; rintro x w' ⟨rfl, rfl⟩; rw [HN.out])
  go_ret2
  exact ⟨rfl, rfl⟩

set_option maxHeartbeats 400000 in
theorem read_ok (h : Sat e (HP.disk b d :: L) w) (hOk : d.Ok) (n : Int) (hd : d.dead = false) (h0 : 0 ≤ n) (h1 : n < d.last.length) : Calls Try.prog 16 #[.pointer (some ⟨b, 0, none⟩), .int .i64 n] w
    fun x w' => ∃ g cap, x = .returned (.tuple #[.slice (some ⟨g, 0, none⟩) 64 cap, .int .i64 0]) ∧ Sat e (HP.row 5 1 (.slice (some ⟨g, 0, none⟩) 64 cap) 64 ((d.cur n).map B8) :: HP.disk b d :: L) w' := by
  have H := hide h
  have hn : d.has n = true := by simp [Dk.has, h0, h1]
  have hlen := cur_len hOk n h0 h1
  have hlen2 : ((d.cur n).map B8).length = 64 := by simp [hlen]
  obtain ⟨lb, mb, h⟩ := h.disk_open
  have c4 := h.disk_at.c4
  rw [hd] at c4
  have HN := hide hn
  have HK := hide hOk
  have HL := hide hlen
  have HL2 := hide hlen2
  clear h hd hn hOk hlen hlen2
  go_enter Try.func16, Try.ntmps16
  go_wp2_with (first
    | (go_at_call 28; refine (has_calls H.out n).mono ?_; rintro x w' ⟨rfl, rfl⟩; rw [HN.out])
    | (go_at_call 29; refine (at_calls H.out HK.out n h0 h1).mono ?_; rintro x w1 ⟨rfl, hs1⟩; have H1 := hide hs1; clear hs1 c4)
    | ((with_reducible refine wpList_alloc_sl rfl 66 rfl (zero_sector _) H1.out ?_); intro g2 w2 h2)
    | ((with_reducible refine wpList_store_agg rfl 66 (.tmp 6) (.tmp 19) rfl (by rw [HL2.out]; exact info_sector) rfl rfl (map_B8_one (d.cur n)) h2 ?_ ?_); (have q1 := HL2.out; have q2 := zSec_size; omega); intro w3 h3; rw [laid_whole (by rw [HL2.out, zSec_size])] at h3)
    | (go_at_call 30; have hv := view_of_toArray h3.at 64 64; rw [← HL.out] at hv ⊢; refine (clone_calls h3 g2 0 (d.cur n).length (d.cur n) hv (by rw [HL.out]; omega)).mono ?_; rintro x w4 ⟨g4, cap4, rfl, h4⟩))
  have h5 := h4.swap.drop
  rw [HL.out] at h5
  go_ret2
  exact ⟨g4, cap4, by rw [← HL.out]; rfl, h5⟩

theorem write_dead (h : Sat e (HP.disk b d :: L) w) (n : Int) (v : Value) (hd : d.dead = true) : Calls Try.prog 20 #[.pointer (some ⟨b, 0, none⟩), .int .i64 n, v] w fun x w' => x = .returned (.int .i64 3) ∧ w = w' := by
  obtain ⟨lb, mb, h⟩ := h.disk_open
  have c4 := h.disk_at.c4
  rw [hd] at c4
  clear h hd
  go_enter Try.func20, Try.ntmps20
  go_wp2_with fail
  go_ret
  exact ⟨rfl, rfl⟩

theorem write_arg (h : Sat e (HP.disk b d :: L) w) (n : Int) (base : Option Addr) (m cap : Nat) (hd : d.dead = false) (hn : d.has n = false ∨ m ≠ 64) : Calls Try.prog 20 #[.pointer (some ⟨b, 0, none⟩), .int .i64 n, .slice base m cap] w fun x w' => x = .returned (.int .i64 1) ∧ w = w' := by
  have H := hide h
  obtain ⟨lb, mb, h⟩ := h.disk_open
  have c4 := h.disk_at.c4
  rw [hd] at c4
  clear h hd
  cases hh : d.has n with
  | false =>
    have HN := hide hh
    clear hn hh
    go_enter Try.func20, Try.ntmps20
    go_wp2_with (go_at_call 28; refine (has_calls H.out n).mono ?_; rintro x w' ⟨rfl, rfl⟩; rw [HN.out])
    go_ret
    exact ⟨rfl, rfl⟩
  | true =>
    have HN := hide hh
    have hm : ((m : Int) != 64) = true := by
      rcases hn with h1 | h1
      · rw [hh] at h1; cases h1
      · rw [bne_iff_ne]; omega
    clear hn hh
    go_enter Try.func20, Try.ntmps20
    go_wp2_with (go_at_call 28; refine (has_calls H.out n).mono ?_; rintro x w' ⟨rfl, rfl⟩; rw [HN.out])
    go_ret
    exact ⟨rfl, rfl⟩

theorem write_fuse (h : Sat e (HP.disk b d :: L) w) (h1 : 0 ≤ d.ops) (h2 : d.ops < 1000000000) (n : Int) (base : Option Addr) (cap : Nat) (hd : d.dead = false) (hn : d.has n = true) (hf : d.fuse = 0) :
    Calls Try.prog 20 #[.pointer (some ⟨b, 0, none⟩), .int .i64 n, .slice base 64 cap] w fun x w' => x = .returned (.int .i64 3) ∧ Sat e (HP.disk b { d with dead := true } :: L) w' := by
  have H := hide h
  obtain ⟨lb, mb, h⟩ := h.disk_open
  have c4 := h.disk_at.c4
  rw [hd] at c4
  have HN := hide hn
  have HF := hide hf
  have hsp : d.spend = { d with dead := true } := by rw [Dk.spend, if_pos hf]
  have HS := hide hsp
  have hdec : decide (d.fuse ≠ 0) = false := by simp [hf]
  have HD := hide hdec
  have hf4 : d.fuse < 9223372036854775808 := by omega
  have HF4 := hide hf4
  clear h hd hn hf hsp hdec hf4
  go_enter Try.func20, Try.ntmps20
  go_wp2_with (first
    | (go_at_call 28; refine (has_calls H.out n).mono ?_; rintro x w' ⟨rfl, rfl⟩; rw [HN.out])
    | (go_at_call 31; refine (step_calls H.out h1 h2 HF4.out).mono ?_; rintro x w1 ⟨rfl, hs1⟩; rw [HS.out] at hs1; rw [HD.out]))
  go_ret
  exact ⟨rfl, hs1⟩

set_option maxRecDepth 100000 in
set_option maxHeartbeats 400000 in
theorem write_ok (h : Sat e (HP.disk b d :: L) w) (h1 : 0 ≤ d.ops) (h2 : d.ops < 1000000000) (hf4 : d.fuse < 9223372036854775808) (n : Int) (xb xo cap : Nat) (l : List UInt8) (hl : l.length = 64)
    (hkeep : ∀ d' w', Sat e (HP.disk b d' :: L) w' → ∀ j u, (l.map B8)[j]? = some u → w'.cell? ⟨xb, xo + j, none⟩ = some u)
    (hd : d.dead = false) (hn : d.has n = true) (hmost : d.last.length ≤ 256) (hf : d.fuse ≠ 0) :
    Calls Try.prog 20 #[.pointer (some ⟨b, 0, none⟩), .int .i64 n, .slice (some ⟨xb, xo, none⟩) 64 cap] w fun x w' => x = .returned (.int .i64 0) ∧ Sat e (HP.disk b { d.spend with fresh := kput d.fresh n l } :: L) w' := by
  have H := hide h
  obtain ⟨lb, mb, h⟩ := h.disk_open
  have c4 := h.disk_at.c4
  rw [hd] at c4
  have hok : okInt n := by
    unfold okInt
    simp [Dk.has] at hn
    exact WalkArith.wf_i64 (by omega)
  have hdec : decide (d.fuse ≠ 0) = true := by simp [hf]
  have hfr : d.spend.fresh = d.fresh := by unfold Dk.spend; split <;> rfl
  have hlen2 : (l.map B8).length = 64 := by simp [hl]
  have HN := hide hn
  have HD := hide hdec
  have HF4 := hide hf4
  have HKP := hide hkeep
  have HFR := hide hfr
  have HL2 := hide hlen2
  have HOK := hide hok
  clear h hd hn hf hdec hf4 hkeep hfr hl hlen2 hok
  go_enter Try.func20, Try.ntmps20
  go_wp2_with (first
    | (go_at_call 28; refine (has_calls H.out n).mono ?_; rintro x w' ⟨rfl, rfl⟩; rw [HN.out])
    | (go_at_call 31; refine (step_calls H.out h1 h2 HF4.out).mono ?_; rintro x w1 ⟨rfl, hs1⟩; rw [HD.out]; have H1 := hide hs1; clear hs1))
  have hs2 := H1.out.drew
  have hx2 := HKP.out _ _ hs2
  obtain ⟨lb2, mb2, hs3⟩ := hs2.disk_open
  have c1 := hs3.disk_at.c1
  rw [HFR.out] at hs3
  have H3 := hide hs3
  have HX := hide hx2
  clear hs2 hs3 hx2 c4
  refine wp_region_still_tail 8 (by kernel_rfl) (by kernel_rfl) ?_
  simp only [List.take_succ_cons, List.take_zero, List.drop_succ_cons, List.drop_zero]
  change wpStill _ _ w1.drew (fun a' => wpList _ _ _ _ a' w1.drew) _ _
  generalize w1.drew = w2 at c1 H3 HX ⊢
  have harr := run_arrayAt (P := Try.prog) (w := w2) Try.underlying66 (some ⟨xb, xo, none⟩) 64 cap (Nat.le_refl _)
  iterate 7 still_step
  clear harr
  refine wpStill_load_agg rfl 66 _ rfl Try.underlying66 rfl (by rw [HL2.out]; exact info_sector) rfl HX.out ?_
  refine wpStill_nil ?_
  have H4 : Sat e (HP.map eInt okInt eSec mb2 d.fresh :: HP.blk b (dkCells lb2 mb2 d.spend) :: HP.blk lb2 (dkRow d.spend) :: L) w2 := H3.out.pick [2, 0, 1] 3 (by decide) (by decide) (by simp)
  refine wpList_mapUpdate_sl rfl 59 _ _ _ rfl intKey Try.underlying59 rfl n rfl HOK.out l rfl H4 ?_
  intro w4 h4
  have h5 : Sat e (HP.disk b { d.spend with fresh := kput d.fresh n l } :: L) w4 := Sat.disk_shut (lb := lb2) (mb := mb2) (h4.pick [1, 2, 0] 3 (by decide) (by decide) (by simp))
  have H5 := hide h5
  clear h4 h5
  go_wp2_with fail
  go_ret
  exact ⟨rfl, H5.out⟩
end Go.Proofs.Ytbeabedpmoalpaa
