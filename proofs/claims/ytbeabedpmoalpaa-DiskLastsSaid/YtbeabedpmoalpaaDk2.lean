/-
  package disk: what a sector reads as; writing one; a new disk.
-/
import Derived.Test.YtbeabedpmoalpaaDk
namespace Go.Proofs.Ytbeabedpmoalpaa
open Go.RowKit Go.Maps Go.MapKept
variable {e : Env} {b : Nat} {d : Dk} {L : List HP} {w : World}

set_option maxHeartbeats 400000 in
theorem at_calls_fresh (h : Sat e (HP.disk b d :: L) w) (n : Int) (s : List UInt8) (hd : kget d.fresh n = some s) (hs : s.length = 64) (hok : okInt n) : Calls Try.prog 29 #[.pointer (some ⟨b, 0, none⟩), .int .i64 n] w
    fun x w' => x = .returned (eSec s) ∧ Sat e (HP.disk b d :: L) w' := by
  obtain ⟨lb, mb, h⟩ := h.disk_open
  have HD := hide hd
  have H0 := hide h
  have hlen : (s.map B8).length = 64 := by simp [hs]
  have HL := hide hlen
  clear hd hs h hlen
  go_enter Try.func29, Try.ntmps29
  go_wp2_with (first
    | ((with_reducible refine wpList_alloc_sl rfl 66 rfl (zero_sector _) H0.out ?_); intro g w1 h1; have c1 := (h1.pick [1, 2, 3, 0] 4 (by decide) (by decide) (by simp)).disk_at.c1; have H1 := hide h1; clear h1 H0)
    | (at_lookup; refine wpList_lookup_sl rfl 59 _ _ true rfl intKey Try.underlying59 (zero_sector _) rfl n rfl hok (H1.out.pick [3, 0, 1, 2] 4 (by decide) (by decide) (by simp)) ?_; rw [HD.out]; simp only [if_true, Option.map_some, Option.getD_some, Option.isSome_some])
    | ((with_reducible refine wpList_alloc_sl rfl 66 rfl (zero_sector _) H1.out ?_); intro g2 w2 h2; clear c1)
    | ((with_reducible refine wpList_store_agg rfl 66 (.tmp 5) (.tmp 14) rfl (by rw [HL.out]; exact info_sector) rfl rfl (map_B8_one s) h2 ?_ ?_); (have q1 := HL.out; have q2 := zSec_size; omega); intro w3 h3; rw [laid_whole (by rw [HL.out, zSec_size])] at h3)
    | ((with_reducible refine wpList_load_agg rfl 66 (.tmp 5) rfl Try.underlying66 rfl (by rw [HL.out]; exact info_sector) rfl (get_of_toArray h3.at) ?_))
    | ((with_reducible refine wpList_store_agg rfl 66 (.tmp 4) (.tmp 17) rfl (by rw [HL.out]; exact info_sector) rfl rfl (map_B8_one s) h3.swap ?_ ?_); (have q1 := HL.out; have q2 := zSec_size; omega); intro w4 h4; rw [laid_whole (by rw [HL.out, zSec_size])] at h4))
  refine bodyPost_ret (results_agg rfl _ _ Try.underlying66 rfl (by rw [HL.out]; exact info_sector) rfl (get_of_toArray h4.at)) rfl ⟨rfl, h4.drop.drop.disk_shut⟩

set_option maxHeartbeats 400000 in
theorem at_calls_last (h : Sat e (HP.disk b d :: L) w) (hOk : d.Ok) (n : Nat) (s : List UInt8) (hd : kget d.fresh (n : Int) = none) (hn : n < d.last.length) (hs : d.last.getD n [] = s) (hok : okInt n) : Calls Try.prog 29 #[.pointer (some ⟨b, 0, none⟩), .int .i64 n] w
    fun x w' => x = .returned (eSec s) ∧ Sat e (HP.disk b d :: L) w' := by
  obtain ⟨lb, mb, h⟩ := h.disk_open
  have HD := hide hd
  have H0 := hide h
  have hlen : (s.map B8).length = 64 := by
    rw [← hs, List.length_map, List.getD_eq_getElem?_getD, List.getElem?_eq_getElem hn]
    exact hOk.sec _ (List.getElem_mem hn)
  have HL := hide hlen
  have hrow := flat8_at d.last n hOk.sec hn
  rw [hs] at hrow
  have HR := hide hrow
  have hmost := hOk.most
  clear hd hs h hlen hOk hrow
  go_enter Try.func29, Try.ntmps29
  go_wp2_with (first
    | ((with_reducible refine wpList_alloc_sl rfl 66 rfl (zero_sector _) H0.out ?_); intro g w1 h1; have c1 := (h1.pick [1, 2, 3, 0] 4 (by decide) (by decide) (by simp)).disk_at.c1; have H1 := hide h1; clear h1 H0)
    | (at_lookup; refine wpList_lookup_sl rfl 59 _ _ true rfl intKey Try.underlying59 (zero_sector _) rfl (n : Int) rfl hok (H1.out.pick [3, 0, 1, 2] 4 (by decide) (by decide) (by simp)) ?_; rw [HD.out]; simp only [if_true, Option.map_none, Option.getD_none, Option.isSome_none])
    | ((with_reducible refine wpList_alloc_sl rfl 66 rfl (zero_sector _) H1.out ?_); intro g2 w2 h2; clear c1)
    | ((with_reducible refine wpList_store_agg (cs := zs.map B8) rfl 66 (.tmp 5) (.tmp 14) rfl (by rw [zs_len]; exact info_sector) rfl rfl (map_B8_one zs) h2 ?_ ?_); (have q1 := zs_len; have q2 := zSec_size; omega); intro w3 h3; rw [laid_whole (by rw [zs_len, zSec_size])] at h3; have c0 := (h3.pick [2, 3, 4, 0, 1] 5 (by decide) (by decide) (by simp)).disk_at.c0; have H3 := hide h3; clear h3)
    | ((with_reducible refine wpList_load_agg rfl 66 (.tmp 23) rfl Try.underlying66 rfl (by rw [HL.out]; exact info_sector) (cs := s.map B8) (b := lb) (off := n * 64) ?_ ?_ ?_); rfl; exact (fun j u hj => by rw [cell_of (show w3.heap[lb]? = some (.cells (flat8 d.last).toArray _ (0, 0)) from (H3.out.pick [3, 0, 1, 2, 4] 5 (by decide) (by decide) (by simp)).at)]; exact HR.out j u hj))
    | ((with_reducible refine wpList_store_agg rfl 66 (.tmp 4) (.tmp 24) rfl (by rw [HL.out]; exact info_sector) rfl rfl (map_B8_one s) H3.out.swap ?_ ?_); (have q1 := HL.out; have q2 := zSec_size; omega); intro w4 h4; rw [laid_whole (by rw [HL.out, zSec_size])] at h4))
  refine bodyPost_ret (results_agg rfl _ _ Try.underlying66 rfl (by rw [HL.out]; exact info_sector) rfl (get_of_toArray h4.at)) rfl ⟨rfl, h4.drop.drop.disk_shut⟩

end Go.Proofs.Ytbeabedpmoalpaa
