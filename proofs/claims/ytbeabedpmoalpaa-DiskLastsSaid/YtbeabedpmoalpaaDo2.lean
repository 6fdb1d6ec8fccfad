/-
  The laws' helper Do: one call of both disks: the same answers.
-/
import Derived.Test.YtbeabedpmoalpaaDo
import Derived.Deep.RegionHeld3
import Derived.IntWalk
namespace Go.Proofs.Ytbeabedpmoalpaa
open Go.RowKit Go.Maps Go.MapKept
variable {e : Env} {b b2 : Nat} {d : Dk} {r : Rk} {L : List HP} {w : World}


def DoPost (e : Env) (b b2 : Nat) (d : Dk) (L : List HP) (x : Ending) (w : World) : Prop :=
  ∃ e' d' r', x = .returned (.bool true) ∧ e.le e' ∧ DR d' r' ∧ d'.ops ≤ d.ops + 1 ∧ d'.last.length = d.last.length ∧ Sat e' (HP.disk b d' :: HP.ref b2 r' :: L) w

theorem writeD_ops (d : Dk) (n : Int) (l : List UInt8) : (d.writeD n l).ops ≤ d.ops + 1 := by
  unfold Dk.writeD Dk.wrote Dk.spend
  (repeat' split) <;> first | omega | (simp only []; omega) | simp
theorem flushD_ops (d : Dk) : d.flushD.ops ≤ d.ops + 1 := by
  unfold Dk.flushD
  split
  · omega
  · split
    · show d.ops ≤ _; omega
    · unfold Dk.flushed
      rw [(settleN_rest (d := d.spend) d.spend.keys (fun _ => true) d.spend.keys.length).1]
      unfold Dk.spend; split <;> simp only [] <;> omega

theorem sec_own' {g : Nat} {n : Int} {l : List UInt8} (h : Sat e (HP.row 5 1 (.slice (some ⟨g, 0, none⟩) 64 64) 64 ((secOf n l).map B8) :: L) w) : Sat e (HP.row 5 1 (.slice (some ⟨g, 0, none⟩) 64 64) (secOf n l).length ((secOf n l).map B8) :: L) w := by
  rw [secOf_len]; exact h

/-- Behind the calls: both disks, alike. -/
def DoAt (e : Env) (b b2 : Nat) (d : Dk) (L : List HP) (w : World) : Prop :=
  ∃ e' d' r', e.le e' ∧ DR d' r' ∧ d'.ops ≤ d.ops + 1 ∧ d'.last.length = d.last.length ∧ Sat e' (HP.disk b d' :: HP.ref b2 r' :: L) w

set_option maxRecDepth 100000 in
set_option maxHeartbeats 8000000 in
theorem do_calls (h : Sat e (HP.disk b d :: HP.ref b2 r :: L) w) (hD : DR d r) (hops : d.ops < 999999998) (c : CallR) (hc : c.Ok e.h) :
    Calls Try.prog 25 #[.pointer (some ⟨b, 0, none⟩), .pointer (some ⟨b2, 0, none⟩), .agg #[.int .i64 c.kind, .int .i64 c.pos, .int .i64 c.n, c.dv]] w fun x w' => DoPost e b b2 d L x w' := by
  obtain ⟨kind, pos, num, dv, data⟩ := c
  obtain ⟨db, dc, hdv, _⟩ := hc.view
  change dv = .slice db data.length dc at hdv
  subst hdv
  obtain ⟨e1, hle1, hg, h1⟩ := (h.alloc (.cells #[.int .i64 kind, .int .i64 pos, .int .i64 num, .slice db data.length dc] 48)).persist
  have hcc : ∀ e' L' w', e1.le e' → Sat e' L' w' → w'.cell? ⟨w.heap.size, 0, none⟩ = some (.int .i64 kind) ∧ w'.cell? ⟨w.heap.size, 1, none⟩ = some (.int .i64 pos) ∧ w'.cell? ⟨w.heap.size, 2, none⟩ = some (.int .i64 num) ∧ w'.cell? ⟨w.heap.size, 3, none⟩ = some (.slice db data.length dc) := fun e' L' w' hle hs => by
    have := hs.fixed _ _ (hle.h _ _ hg)
    exact ⟨by rw [cell_of this]; rfl, by rw [cell_of this]; rfl, by rw [cell_of this]; rfl, by rw [cell_of this]; rfl⟩
  have HC := hide hcc
  have H1 := hide h1
  have HD := hide hD
  have HOP := hide hops
  have HE := hide hle1
  have hlen : Hid (r.now.length = d.last.length) := hide hD.len.now
  have hmost := hD.good.fine.ok.most
  have hk : -9223372036854775808 ≤ kind ∧ kind ≤ 9223372036854775807 := hc.kind
  have hp : -9223372036854775808 ≤ pos ∧ pos ≤ 9223372036854775807 := hc.pos
  have hn : -9223372036854775808 ≤ num ∧ num ≤ 9223372036854775807 := hc.n
  have HCV : Hid (View e1.h (.slice db data.length dc) data.length (data.map B8)) := hide (hc.view.le hle1)
  clear h h1 hg hD hops hle1 hc hcc
  have hq : -9223372036854775808 ≤ pos.tdiv 3 ∧ pos.tdiv 3 ≤ 9223372036854775807 := by
    rcases Int.lt_or_le pos 0 with h0 | h0
    · have h1 := Int.neg_tdiv pos 3
      have h2 : 0 ≤ (-pos).tdiv 3 := Int.tdiv_nonneg (by omega) (by omega)
      have h3 : (-pos).tdiv 3 ≤ -pos := Int.tdiv_le_self _ (by omega)
      omega
    · have h2 : 0 ≤ pos.tdiv 3 := Int.tdiv_nonneg h0 (by omega)
      have h3 : pos.tdiv 3 ≤ pos := Int.tdiv_le_self _ h0
      omega
  have n0 := Int.emod_nonneg pos (show ((d.last.length : Int) + 2) ≠ 0 by omega)
  have n1 := Int.emod_lt_of_pos pos (show (0 : Int) < (d.last.length : Int) + 2 by omega)
  have z0 := Int.emod_nonneg pos (show (3 : Int) ≠ 0 by omega)
  have z1 := Int.emod_lt_of_pos pos (show (0 : Int) < 3 by omega)
  go_enter Try.func25, Try.ntmps25
  go_wp2_with fail
  generalize w.alloc _ = W at H1 ⊢
  generalize w.heap.size = g at HC ⊢
  obtain ⟨m0, m1, m2, m3⟩ := HC.out _ _ _ (Env.le_refl _) H1.out
  have q1 := (HC.out _ _ _ (Env.le_refl _) H1.out.drew).2.1
  have H2 := hide H1.out.drew
  obtain ⟨p0, p1, p2, p3⟩ := HC.out _ _ _ (Env.le_refl _) H2.out
  have hw1 : IntKind.i64.wrap ((d.last.length : Int) + 2) = (d.last.length : Int) + 2 := IntWalk.i64_in _ (by omega)
  have hw2 : IntKind.i64.wrap (pos % ((d.last.length : Int) + 2) - 1) = pos % ((d.last.length : Int) + 2) - 1 := IntWalk.i64_in _ (by omega)
  have hb2 : (0 : Int) < (d.last.length : Int) + 2 := by omega
  have hb3 : (d.last.length : Int) + 2 ≤ 4294967296 := by omega
  go_region_held3 (fun w' => w'.cell? ⟨g, 1, none⟩ = some (.int .i64 pos))
    (first | exact q1)
    (first
      | (go_at_call 34; refine (rsize_calls H2.out.swap).mono ?_; rintro x w5 ⟨rfl, rfl⟩; rw [hlen.out])
      | (go_at_call 13; refine (within_calls _ _ hb2 hb3 hp.1 hp.2).mono ?_; rintro x w4 ⟨rfl, rfl⟩))
  generalize W.drew = W2 at *
  clear hw1 hw2 hb2 hb3
  by_cases hz : pos % 3 = 0
  · skip
    have k0 := Int.emod_nonneg kind (show (9 : Int) ≠ 0 by omega)
    have k1 := Int.emod_lt_of_pos kind (show (0 : Int) < 9 by omega)
    have v0 := Int.emod_nonneg num (show (9 : Int) ≠ 0 by omega)
    have v1 := Int.emod_lt_of_pos num (show (0 : Int) < 9 by omega)
    rcases (show kind % 9 = 0 ∨ kind % 9 = 1 ∨ kind % 9 = 2 ∨ kind % 9 = 3 ∨ kind % 9 = 4 ∨ kind % 9 = 5 ∨ kind % 9 = 6 ∨ kind % 9 = 7 ∨ kind % 9 = 8 by omega) with hK | hK | hK | hK | hK | hK | hK | hK | hK
    · by_cases hn20 : num % 20 = 0
      · skip
        go_wp2_with (first
          | (go_at_call 13; refine (within_calls _ _ (by omega) (by omega) (by omega) (by omega)).mono ?_; rintro x w4 ⟨rfl, rfl⟩; (first | rw [hz] | rw [hK] | rw [hn20] | skip))
          | (go_at_call 19; refine (sector_calls H2.out num _ data HCV.out).mono ?_; rintro x w3 ⟨g3, rfl, h3⟩; obtain ⟨e3, hle3, V3, h3'⟩ := (sec_own' h3).row_persist; obtain ⟨s0, s1, s2, s3⟩ := HC.out _ _ _ hle3 h3'; have HLE3 := hide hle3; have HV3 := hide V3; have HCV3 := hide (HCV.out.le hle3); have H3 := hide h3'; clear h3 h3' hle3 V3 H2)
          | (go_at_call 20; refine (write_gen H3.out HD.out.good _ _ (data) (fun d' w' hs => HCV3.out.sat hs)).mono ?_; rintro x w5 ⟨rfl, h5⟩; have H5 := hide h5.swap; clear h5 H3)
          | (go_at_call 35; refine (rwrite_gen H5.out HD.out.ok _ _ (data) HCV3.out).mono ?_; rintro x w6 ⟨e6, hle6, rfl, h6⟩; rw [(HD.out.write (by have := HOP.out; omega) _ _).1]; have hd9 : DoAt e b b2 d L w6 := ⟨e6, _, _, HE.out.trans (HLE3.out.trans hle6), (HD.out.write (by have := HOP.out; omega) _ _).2, writeD_ops _ _ _, writeD_len _ _ _, h6.swap⟩; clear h6 hle6 H5; obtain ⟨e9, d9, r9, t1, t2, t3, t4, t5⟩ := hd9; have HE9 := hide t1; have HD9 := hide t2; have HO9 := hide t3; have HL9 := hide t4; have H9 := hide t5; clear t1 t2 t3 t4 t5)
          | (go_at_call 18; refine (ops_calls H9.out).mono ?_; rintro x w10 ⟨rfl, rfl⟩)
          | (go_at_call 39; refine (rops_calls H9.out.swap).mono ?_; rintro x w10 ⟨rfl, rfl⟩; rw [HD9.out.n])
          | (go_at_call 17; refine (size_calls H9.out).mono ?_; rintro x w10 ⟨rfl, rfl⟩)
          | (go_at_call 34; refine (rsize_calls H9.out.swap).mono ?_; rintro x w10 ⟨rfl, rfl⟩; rw [HD9.out.len.now]))
        go_ret
        exact ⟨e9, d9, r9, rfl, HE9.out, HD9.out, HO9.out, HL9.out, H9.out⟩
      · skip
        go_wp2_with (first
          | (go_at_call 13; refine (within_calls _ _ (by omega) (by omega) (by omega) (by omega)).mono ?_; rintro x w4 ⟨rfl, rfl⟩; (first | rw [hz] | rw [hK] | fail | skip))
          | (go_at_call 19; refine (sector_calls H2.out num _ data HCV.out).mono ?_; rintro x w3 ⟨g3, rfl, h3⟩; obtain ⟨e3, hle3, V3, h3'⟩ := (sec_own' h3).row_persist; obtain ⟨s0, s1, s2, s3⟩ := HC.out _ _ _ hle3 h3'; have HLE3 := hide hle3; have HV3 := hide V3; have HCV3 := hide (HCV.out.le hle3); have H3 := hide h3'; clear h3 h3' hle3 V3 H2)
          | (go_at_call 20; refine (write_gen H3.out HD.out.good _ _ (secOf num data) (fun d' w' hs => HV3.out.sat hs)).mono ?_; rintro x w5 ⟨rfl, h5⟩; have H5 := hide h5.swap; clear h5 H3)
          | (go_at_call 35; refine (rwrite_gen H5.out HD.out.ok _ _ (secOf num data) HV3.out).mono ?_; rintro x w6 ⟨e6, hle6, rfl, h6⟩; rw [(HD.out.write (by have := HOP.out; omega) _ _).1]; have hd9 : DoAt e b b2 d L w6 := ⟨e6, _, _, HE.out.trans (HLE3.out.trans hle6), (HD.out.write (by have := HOP.out; omega) _ _).2, writeD_ops _ _ _, writeD_len _ _ _, h6.swap⟩; clear h6 hle6 H5; obtain ⟨e9, d9, r9, t1, t2, t3, t4, t5⟩ := hd9; have HE9 := hide t1; have HD9 := hide t2; have HO9 := hide t3; have HL9 := hide t4; have H9 := hide t5; clear t1 t2 t3 t4 t5)
          | (go_at_call 18; refine (ops_calls H9.out).mono ?_; rintro x w10 ⟨rfl, rfl⟩)
          | (go_at_call 39; refine (rops_calls H9.out.swap).mono ?_; rintro x w10 ⟨rfl, rfl⟩; rw [HD9.out.n])
          | (go_at_call 17; refine (size_calls H9.out).mono ?_; rintro x w10 ⟨rfl, rfl⟩)
          | (go_at_call 34; refine (rsize_calls H9.out.swap).mono ?_; rintro x w10 ⟨rfl, rfl⟩; rw [HD9.out.len.now]))
        go_ret
        exact ⟨e9, d9, r9, rfl, HE9.out, HD9.out, HO9.out, HL9.out, H9.out⟩
    · by_cases hn20 : num % 20 = 0
      · skip
        go_wp2_with (first
          | (go_at_call 13; refine (within_calls _ _ (by omega) (by omega) (by omega) (by omega)).mono ?_; rintro x w4 ⟨rfl, rfl⟩; (first | rw [hz] | rw [hK] | rw [hn20] | skip))
          | (go_at_call 19; refine (sector_calls H2.out num _ data HCV.out).mono ?_; rintro x w3 ⟨g3, rfl, h3⟩; obtain ⟨e3, hle3, V3, h3'⟩ := (sec_own' h3).row_persist; obtain ⟨s0, s1, s2, s3⟩ := HC.out _ _ _ hle3 h3'; have HLE3 := hide hle3; have HV3 := hide V3; have HCV3 := hide (HCV.out.le hle3); have H3 := hide h3'; clear h3 h3' hle3 V3 H2)
          | (go_at_call 20; refine (write_gen H3.out HD.out.good _ _ (data) (fun d' w' hs => HCV3.out.sat hs)).mono ?_; rintro x w5 ⟨rfl, h5⟩; have H5 := hide h5.swap; clear h5 H3)
          | (go_at_call 35; refine (rwrite_gen H5.out HD.out.ok _ _ (data) HCV3.out).mono ?_; rintro x w6 ⟨e6, hle6, rfl, h6⟩; rw [(HD.out.write (by have := HOP.out; omega) _ _).1]; have hd9 : DoAt e b b2 d L w6 := ⟨e6, _, _, HE.out.trans (HLE3.out.trans hle6), (HD.out.write (by have := HOP.out; omega) _ _).2, writeD_ops _ _ _, writeD_len _ _ _, h6.swap⟩; clear h6 hle6 H5; obtain ⟨e9, d9, r9, t1, t2, t3, t4, t5⟩ := hd9; have HE9 := hide t1; have HD9 := hide t2; have HO9 := hide t3; have HL9 := hide t4; have H9 := hide t5; clear t1 t2 t3 t4 t5)
          | (go_at_call 18; refine (ops_calls H9.out).mono ?_; rintro x w10 ⟨rfl, rfl⟩)
          | (go_at_call 39; refine (rops_calls H9.out.swap).mono ?_; rintro x w10 ⟨rfl, rfl⟩; rw [HD9.out.n])
          | (go_at_call 17; refine (size_calls H9.out).mono ?_; rintro x w10 ⟨rfl, rfl⟩)
          | (go_at_call 34; refine (rsize_calls H9.out.swap).mono ?_; rintro x w10 ⟨rfl, rfl⟩; rw [HD9.out.len.now]))
        go_ret
        exact ⟨e9, d9, r9, rfl, HE9.out, HD9.out, HO9.out, HL9.out, H9.out⟩
      · skip
        go_wp2_with (first
          | (go_at_call 13; refine (within_calls _ _ (by omega) (by omega) (by omega) (by omega)).mono ?_; rintro x w4 ⟨rfl, rfl⟩; (first | rw [hz] | rw [hK] | fail | skip))
          | (go_at_call 19; refine (sector_calls H2.out num _ data HCV.out).mono ?_; rintro x w3 ⟨g3, rfl, h3⟩; obtain ⟨e3, hle3, V3, h3'⟩ := (sec_own' h3).row_persist; obtain ⟨s0, s1, s2, s3⟩ := HC.out _ _ _ hle3 h3'; have HLE3 := hide hle3; have HV3 := hide V3; have HCV3 := hide (HCV.out.le hle3); have H3 := hide h3'; clear h3 h3' hle3 V3 H2)
          | (go_at_call 20; refine (write_gen H3.out HD.out.good _ _ (secOf num data) (fun d' w' hs => HV3.out.sat hs)).mono ?_; rintro x w5 ⟨rfl, h5⟩; have H5 := hide h5.swap; clear h5 H3)
          | (go_at_call 35; refine (rwrite_gen H5.out HD.out.ok _ _ (secOf num data) HV3.out).mono ?_; rintro x w6 ⟨e6, hle6, rfl, h6⟩; rw [(HD.out.write (by have := HOP.out; omega) _ _).1]; have hd9 : DoAt e b b2 d L w6 := ⟨e6, _, _, HE.out.trans (HLE3.out.trans hle6), (HD.out.write (by have := HOP.out; omega) _ _).2, writeD_ops _ _ _, writeD_len _ _ _, h6.swap⟩; clear h6 hle6 H5; obtain ⟨e9, d9, r9, t1, t2, t3, t4, t5⟩ := hd9; have HE9 := hide t1; have HD9 := hide t2; have HO9 := hide t3; have HL9 := hide t4; have H9 := hide t5; clear t1 t2 t3 t4 t5)
          | (go_at_call 18; refine (ops_calls H9.out).mono ?_; rintro x w10 ⟨rfl, rfl⟩)
          | (go_at_call 39; refine (rops_calls H9.out.swap).mono ?_; rintro x w10 ⟨rfl, rfl⟩; rw [HD9.out.n])
          | (go_at_call 17; refine (size_calls H9.out).mono ?_; rintro x w10 ⟨rfl, rfl⟩)
          | (go_at_call 34; refine (rsize_calls H9.out.swap).mono ?_; rintro x w10 ⟨rfl, rfl⟩; rw [HD9.out.len.now]))
        go_ret
        exact ⟨e9, d9, r9, rfl, HE9.out, HD9.out, HO9.out, HL9.out, H9.out⟩
    · by_cases hn20 : num % 20 = 0
      · skip
        go_wp2_with (first
          | (go_at_call 13; refine (within_calls _ _ (by omega) (by omega) (by omega) (by omega)).mono ?_; rintro x w4 ⟨rfl, rfl⟩; (first | rw [hz] | rw [hK] | rw [hn20] | skip))
          | (go_at_call 19; refine (sector_calls H2.out num _ data HCV.out).mono ?_; rintro x w3 ⟨g3, rfl, h3⟩; obtain ⟨e3, hle3, V3, h3'⟩ := (sec_own' h3).row_persist; obtain ⟨s0, s1, s2, s3⟩ := HC.out _ _ _ hle3 h3'; have HLE3 := hide hle3; have HV3 := hide V3; have HCV3 := hide (HCV.out.le hle3); have H3 := hide h3'; clear h3 h3' hle3 V3 H2)
          | (go_at_call 20; refine (write_gen H3.out HD.out.good _ _ (data) (fun d' w' hs => HCV3.out.sat hs)).mono ?_; rintro x w5 ⟨rfl, h5⟩; have H5 := hide h5.swap; clear h5 H3)
          | (go_at_call 35; refine (rwrite_gen H5.out HD.out.ok _ _ (data) HCV3.out).mono ?_; rintro x w6 ⟨e6, hle6, rfl, h6⟩; rw [(HD.out.write (by have := HOP.out; omega) _ _).1]; have hd9 : DoAt e b b2 d L w6 := ⟨e6, _, _, HE.out.trans (HLE3.out.trans hle6), (HD.out.write (by have := HOP.out; omega) _ _).2, writeD_ops _ _ _, writeD_len _ _ _, h6.swap⟩; clear h6 hle6 H5; obtain ⟨e9, d9, r9, t1, t2, t3, t4, t5⟩ := hd9; have HE9 := hide t1; have HD9 := hide t2; have HO9 := hide t3; have HL9 := hide t4; have H9 := hide t5; clear t1 t2 t3 t4 t5)
          | (go_at_call 18; refine (ops_calls H9.out).mono ?_; rintro x w10 ⟨rfl, rfl⟩)
          | (go_at_call 39; refine (rops_calls H9.out.swap).mono ?_; rintro x w10 ⟨rfl, rfl⟩; rw [HD9.out.n])
          | (go_at_call 17; refine (size_calls H9.out).mono ?_; rintro x w10 ⟨rfl, rfl⟩)
          | (go_at_call 34; refine (rsize_calls H9.out.swap).mono ?_; rintro x w10 ⟨rfl, rfl⟩; rw [HD9.out.len.now]))
        go_ret
        exact ⟨e9, d9, r9, rfl, HE9.out, HD9.out, HO9.out, HL9.out, H9.out⟩
      · skip
        go_wp2_with (first
          | (go_at_call 13; refine (within_calls _ _ (by omega) (by omega) (by omega) (by omega)).mono ?_; rintro x w4 ⟨rfl, rfl⟩; (first | rw [hz] | rw [hK] | fail | skip))
          | (go_at_call 19; refine (sector_calls H2.out num _ data HCV.out).mono ?_; rintro x w3 ⟨g3, rfl, h3⟩; obtain ⟨e3, hle3, V3, h3'⟩ := (sec_own' h3).row_persist; obtain ⟨s0, s1, s2, s3⟩ := HC.out _ _ _ hle3 h3'; have HLE3 := hide hle3; have HV3 := hide V3; have HCV3 := hide (HCV.out.le hle3); have H3 := hide h3'; clear h3 h3' hle3 V3 H2)
          | (go_at_call 20; refine (write_gen H3.out HD.out.good _ _ (secOf num data) (fun d' w' hs => HV3.out.sat hs)).mono ?_; rintro x w5 ⟨rfl, h5⟩; have H5 := hide h5.swap; clear h5 H3)
          | (go_at_call 35; refine (rwrite_gen H5.out HD.out.ok _ _ (secOf num data) HV3.out).mono ?_; rintro x w6 ⟨e6, hle6, rfl, h6⟩; rw [(HD.out.write (by have := HOP.out; omega) _ _).1]; have hd9 : DoAt e b b2 d L w6 := ⟨e6, _, _, HE.out.trans (HLE3.out.trans hle6), (HD.out.write (by have := HOP.out; omega) _ _).2, writeD_ops _ _ _, writeD_len _ _ _, h6.swap⟩; clear h6 hle6 H5; obtain ⟨e9, d9, r9, t1, t2, t3, t4, t5⟩ := hd9; have HE9 := hide t1; have HD9 := hide t2; have HO9 := hide t3; have HL9 := hide t4; have H9 := hide t5; clear t1 t2 t3 t4 t5)
          | (go_at_call 18; refine (ops_calls H9.out).mono ?_; rintro x w10 ⟨rfl, rfl⟩)
          | (go_at_call 39; refine (rops_calls H9.out.swap).mono ?_; rintro x w10 ⟨rfl, rfl⟩; rw [HD9.out.n])
          | (go_at_call 17; refine (size_calls H9.out).mono ?_; rintro x w10 ⟨rfl, rfl⟩)
          | (go_at_call 34; refine (rsize_calls H9.out.swap).mono ?_; rintro x w10 ⟨rfl, rfl⟩; rw [HD9.out.len.now]))
        go_ret
        exact ⟨e9, d9, r9, rfl, HE9.out, HD9.out, HO9.out, HL9.out, H9.out⟩
    · skip
      go_wp2_with (first
        | (go_at_call 13; refine (within_calls _ _ (by omega) (by omega) (by omega) (by omega)).mono ?_; rintro x w4 ⟨rfl, rfl⟩; (first | rw [hz] | rw [hK] | fail | skip))
        | (go_at_call 16; refine (read_gen H2.out HD.out.good.fine.ok _).mono ?_; rintro x w5 ⟨rb, rc, rfl, h5⟩; have H5 := hide h5.bring3; clear h5 H2)
        | (go_at_call 36; refine (rread_calls H5.out HD.out.ok _).mono ?_; rintro x w6 ⟨sb, sc, rfl, h6⟩; rw [(HD.out.read _).2] at h6; rw [(HD.out.read _).1, (HD.out.read _).2]; have ca := run_conv_bytes (P := Try.prog) Try.underlying32 Try.underlying5 Try.underlying9 h6.row_view; have cb := run_conv_bytes (P := Try.prog) Try.underlying32 Try.underlying5 Try.underlying9 h6.drop.drop.row_view; have hd9 : DoAt e b b2 d L w6 := ⟨e1, _, _, HE.out, HD.out, by omega, rfl, (h6.drop.swap.drop).swap⟩; clear h6 H5; obtain ⟨e9, d9, r9, t1, t2, t3, t4, t5⟩ := hd9; have HE9 := hide t1; have HD9 := hide t2; have HO9 := hide t3; have HL9 := hide t4; have H9 := hide t5; clear t1 t2 t3 t4 t5)
        | (go_at_call 18; refine (ops_calls H9.out).mono ?_; rintro x w10 ⟨rfl, rfl⟩)
        | (go_at_call 39; refine (rops_calls H9.out.swap).mono ?_; rintro x w10 ⟨rfl, rfl⟩; rw [HD9.out.n])
        | (go_at_call 17; refine (size_calls H9.out).mono ?_; rintro x w10 ⟨rfl, rfl⟩)
        | (go_at_call 34; refine (rsize_calls H9.out.swap).mono ?_; rintro x w10 ⟨rfl, rfl⟩; rw [HD9.out.len.now]))
      go_ret
      exact ⟨e9, d9, r9, rfl, HE9.out, HD9.out, HO9.out, HL9.out, H9.out⟩
    · skip
      go_wp2_with (first
        | (go_at_call 13; refine (within_calls _ _ (by omega) (by omega) (by omega) (by omega)).mono ?_; rintro x w4 ⟨rfl, rfl⟩; (first | rw [hz] | rw [hK] | fail | skip))
        | (go_at_call 16; refine (read_gen H2.out HD.out.good.fine.ok _).mono ?_; rintro x w5 ⟨rb, rc, rfl, h5⟩; have H5 := hide h5.bring3; clear h5 H2)
        | (go_at_call 36; refine (rread_calls H5.out HD.out.ok _).mono ?_; rintro x w6 ⟨sb, sc, rfl, h6⟩; rw [(HD.out.read _).2] at h6; rw [(HD.out.read _).1, (HD.out.read _).2]; have ca := run_conv_bytes (P := Try.prog) Try.underlying32 Try.underlying5 Try.underlying9 h6.row_view; have cb := run_conv_bytes (P := Try.prog) Try.underlying32 Try.underlying5 Try.underlying9 h6.drop.drop.row_view; have hd9 : DoAt e b b2 d L w6 := ⟨e1, _, _, HE.out, HD.out, by omega, rfl, (h6.drop.swap.drop).swap⟩; clear h6 H5; obtain ⟨e9, d9, r9, t1, t2, t3, t4, t5⟩ := hd9; have HE9 := hide t1; have HD9 := hide t2; have HO9 := hide t3; have HL9 := hide t4; have H9 := hide t5; clear t1 t2 t3 t4 t5)
        | (go_at_call 18; refine (ops_calls H9.out).mono ?_; rintro x w10 ⟨rfl, rfl⟩)
        | (go_at_call 39; refine (rops_calls H9.out.swap).mono ?_; rintro x w10 ⟨rfl, rfl⟩; rw [HD9.out.n])
        | (go_at_call 17; refine (size_calls H9.out).mono ?_; rintro x w10 ⟨rfl, rfl⟩)
        | (go_at_call 34; refine (rsize_calls H9.out.swap).mono ?_; rintro x w10 ⟨rfl, rfl⟩; rw [HD9.out.len.now]))
      go_ret
      exact ⟨e9, d9, r9, rfl, HE9.out, HD9.out, HO9.out, HL9.out, H9.out⟩
    · skip
      go_wp2_with (first
        | (go_at_call 13; refine (within_calls _ _ (by omega) (by omega) (by omega) (by omega)).mono ?_; rintro x w4 ⟨rfl, rfl⟩; (first | rw [hz] | rw [hK] | fail | skip))
        | (go_at_call 22; refine (flush_gen H2.out HD.out.good).mono ?_; rintro x w5 ⟨rfl, h5⟩; have H5 := hide h5.swap; clear h5 H2)
        | (go_at_call 37; refine (rflush_gen H5.out HD.out.ok).mono ?_; rintro x w6 ⟨e6, hle6, rfl, h6⟩; rw [(HD.out.flush (by have := HOP.out; omega)).1]; have hd9 : DoAt e b b2 d L w6 := ⟨e6, _, _, HE.out.trans hle6, (HD.out.flush (by have := HOP.out; omega)).2, flushD_ops _, flushD_len _, h6.swap⟩; clear h6 hle6 H5; obtain ⟨e9, d9, r9, t1, t2, t3, t4, t5⟩ := hd9; have HE9 := hide t1; have HD9 := hide t2; have HO9 := hide t3; have HL9 := hide t4; have H9 := hide t5; clear t1 t2 t3 t4 t5)
        | (go_at_call 18; refine (ops_calls H9.out).mono ?_; rintro x w10 ⟨rfl, rfl⟩)
        | (go_at_call 39; refine (rops_calls H9.out.swap).mono ?_; rintro x w10 ⟨rfl, rfl⟩; rw [HD9.out.n])
        | (go_at_call 17; refine (size_calls H9.out).mono ?_; rintro x w10 ⟨rfl, rfl⟩)
        | (go_at_call 34; refine (rsize_calls H9.out.swap).mono ?_; rintro x w10 ⟨rfl, rfl⟩; rw [HD9.out.len.now]))
      go_ret
      exact ⟨e9, d9, r9, rfl, HE9.out, HD9.out, HO9.out, HL9.out, H9.out⟩
    · skip
      go_wp2_with (first
        | (go_at_call 13; refine (within_calls _ _ (by omega) (by omega) (by omega) (by omega)).mono ?_; rintro x w4 ⟨rfl, rfl⟩; (first | rw [hz] | rw [hK] | fail | skip))
        | (go_at_call 21; refine (fuse_calls H2.out _).mono ?_; rintro x w5 ⟨rfl, h5⟩; have H5 := hide h5.swap; clear h5 H2)
        | (go_at_call 38; refine (rfuse_calls H5.out _).mono ?_; rintro x w6 ⟨rfl, h6⟩; have hd9 : DoAt e b b2 d L w6 := ⟨e1, _, _, HE.out, HD.out.fuse (num % 9 - 1) (by omega) (by omega), (by show d.ops ≤ d.ops + 1; omega), rfl, h6.swap⟩; clear h6 H5; obtain ⟨e9, d9, r9, t1, t2, t3, t4, t5⟩ := hd9; have HE9 := hide t1; have HD9 := hide t2; have HO9 := hide t3; have HL9 := hide t4; have H9 := hide t5; clear t1 t2 t3 t4 t5)
        | (go_at_call 18; refine (ops_calls H9.out).mono ?_; rintro x w10 ⟨rfl, rfl⟩)
        | (go_at_call 39; refine (rops_calls H9.out.swap).mono ?_; rintro x w10 ⟨rfl, rfl⟩; rw [HD9.out.n])
        | (go_at_call 17; refine (size_calls H9.out).mono ?_; rintro x w10 ⟨rfl, rfl⟩)
        | (go_at_call 34; refine (rsize_calls H9.out.swap).mono ?_; rintro x w10 ⟨rfl, rfl⟩; rw [HD9.out.len.now]))
      go_ret
      exact ⟨e9, d9, r9, rfl, HE9.out, HD9.out, HO9.out, HL9.out, H9.out⟩
    · skip
      go_wp2_with (first
        | (go_at_call 13; refine (within_calls _ _ (by omega) (by omega) (by omega) (by omega)).mono ?_; rintro x w4 ⟨rfl, rfl⟩; (first | rw [hz] | rw [hK] | fail | skip))
        | (go_at_call 24; refine (crash_calls H2.out HD.out.good.fine _ data HCV.out).mono ?_; rintro x w5 ⟨rfl, h5⟩; obtain ⟨s0, s1, s2, s3⟩ := HC.out _ _ _ (Env.le_refl _) h5; have H5 := hide h5.swap; clear h5 H2)
        | (go_at_call 26; refine (rcrash_calls H5.out HD.out.ok _ data HCV.out).mono ?_; rintro x w6 ⟨e6, hle6, rfl, h6⟩; have hd9 : DoAt e b b2 d L w6 := ⟨e6, _, _, HE.out.trans hle6, HD.out.crash data, (by rw [(show (d.crashed data).ops = d.ops from (settleN_rest (d := d) d.keys (bitOf data) d.keys.length).1)]; omega), crashed_len _ _, h6.swap⟩; clear h6 hle6 H5; obtain ⟨e9, d9, r9, t1, t2, t3, t4, t5⟩ := hd9; have HE9 := hide t1; have HD9 := hide t2; have HO9 := hide t3; have HL9 := hide t4; have H9 := hide t5; clear t1 t2 t3 t4 t5)
        | (go_at_call 18; refine (ops_calls H9.out).mono ?_; rintro x w10 ⟨rfl, rfl⟩)
        | (go_at_call 39; refine (rops_calls H9.out.swap).mono ?_; rintro x w10 ⟨rfl, rfl⟩; rw [HD9.out.n])
        | (go_at_call 17; refine (size_calls H9.out).mono ?_; rintro x w10 ⟨rfl, rfl⟩)
        | (go_at_call 34; refine (rsize_calls H9.out.swap).mono ?_; rintro x w10 ⟨rfl, rfl⟩; rw [HD9.out.len.now]))
      go_ret
      exact ⟨e9, d9, r9, rfl, HE9.out, HD9.out, HO9.out, HL9.out, H9.out⟩
    · skip
      go_wp2_with (first
        | (go_at_call 13; refine (within_calls _ _ (by omega) (by omega) (by omega) (by omega)).mono ?_; rintro x w4 ⟨rfl, rfl⟩; (first | rw [hz] | rw [hK] | fail | skip))
        | (go_at_call 24; refine (crash_calls H2.out HD.out.good.fine _ data HCV.out).mono ?_; rintro x w5 ⟨rfl, h5⟩; obtain ⟨s0, s1, s2, s3⟩ := HC.out _ _ _ (Env.le_refl _) h5; have H5 := hide h5.swap; clear h5 H2)
        | (go_at_call 26; refine (rcrash_calls H5.out HD.out.ok _ data HCV.out).mono ?_; rintro x w6 ⟨e6, hle6, rfl, h6⟩; have hd9 : DoAt e b b2 d L w6 := ⟨e6, _, _, HE.out.trans hle6, HD.out.crash data, (by rw [(show (d.crashed data).ops = d.ops from (settleN_rest (d := d) d.keys (bitOf data) d.keys.length).1)]; omega), crashed_len _ _, h6.swap⟩; clear h6 hle6 H5; obtain ⟨e9, d9, r9, t1, t2, t3, t4, t5⟩ := hd9; have HE9 := hide t1; have HD9 := hide t2; have HO9 := hide t3; have HL9 := hide t4; have H9 := hide t5; clear t1 t2 t3 t4 t5)
        | (go_at_call 18; refine (ops_calls H9.out).mono ?_; rintro x w10 ⟨rfl, rfl⟩)
        | (go_at_call 39; refine (rops_calls H9.out.swap).mono ?_; rintro x w10 ⟨rfl, rfl⟩; rw [HD9.out.n])
        | (go_at_call 17; refine (size_calls H9.out).mono ?_; rintro x w10 ⟨rfl, rfl⟩)
        | (go_at_call 34; refine (rsize_calls H9.out.swap).mono ?_; rintro x w10 ⟨rfl, rfl⟩; rw [HD9.out.len.now]))
      go_ret
      exact ⟨e9, d9, r9, rfl, HE9.out, HD9.out, HO9.out, HL9.out, H9.out⟩
  · skip
    have k0 := Int.emod_nonneg kind (show (9 : Int) ≠ 0 by omega)
    have k1 := Int.emod_lt_of_pos kind (show (0 : Int) < 9 by omega)
    have v0 := Int.emod_nonneg num (show (9 : Int) ≠ 0 by omega)
    have v1 := Int.emod_lt_of_pos num (show (0 : Int) < 9 by omega)
    rcases (show kind % 9 = 0 ∨ kind % 9 = 1 ∨ kind % 9 = 2 ∨ kind % 9 = 3 ∨ kind % 9 = 4 ∨ kind % 9 = 5 ∨ kind % 9 = 6 ∨ kind % 9 = 7 ∨ kind % 9 = 8 by omega) with hK | hK | hK | hK | hK | hK | hK | hK | hK
    · by_cases hn20 : num % 20 = 0
      · skip
        go_wp2_with (first
          | (go_at_call 13; refine (within_calls _ _ (by omega) (by omega) (by omega) (by omega)).mono ?_; rintro x w4 ⟨rfl, rfl⟩; (first | fail | rw [hK] | rw [hn20] | skip))
          | (go_at_call 19; refine (sector_calls H2.out num _ data HCV.out).mono ?_; rintro x w3 ⟨g3, rfl, h3⟩; obtain ⟨e3, hle3, V3, h3'⟩ := (sec_own' h3).row_persist; obtain ⟨s0, s1, s2, s3⟩ := HC.out _ _ _ hle3 h3'; have HLE3 := hide hle3; have HV3 := hide V3; have HCV3 := hide (HCV.out.le hle3); have H3 := hide h3'; clear h3 h3' hle3 V3 H2)
          | (go_at_call 20; refine (write_gen H3.out HD.out.good _ _ (data) (fun d' w' hs => HCV3.out.sat hs)).mono ?_; rintro x w5 ⟨rfl, h5⟩; have H5 := hide h5.swap; clear h5 H3)
          | (go_at_call 35; refine (rwrite_gen H5.out HD.out.ok _ _ (data) HCV3.out).mono ?_; rintro x w6 ⟨e6, hle6, rfl, h6⟩; rw [(HD.out.write (by have := HOP.out; omega) _ _).1]; have hd9 : DoAt e b b2 d L w6 := ⟨e6, _, _, HE.out.trans (HLE3.out.trans hle6), (HD.out.write (by have := HOP.out; omega) _ _).2, writeD_ops _ _ _, writeD_len _ _ _, h6.swap⟩; clear h6 hle6 H5; obtain ⟨e9, d9, r9, t1, t2, t3, t4, t5⟩ := hd9; have HE9 := hide t1; have HD9 := hide t2; have HO9 := hide t3; have HL9 := hide t4; have H9 := hide t5; clear t1 t2 t3 t4 t5)
          | (go_at_call 18; refine (ops_calls H9.out).mono ?_; rintro x w10 ⟨rfl, rfl⟩)
          | (go_at_call 39; refine (rops_calls H9.out.swap).mono ?_; rintro x w10 ⟨rfl, rfl⟩; rw [HD9.out.n])
          | (go_at_call 17; refine (size_calls H9.out).mono ?_; rintro x w10 ⟨rfl, rfl⟩)
          | (go_at_call 34; refine (rsize_calls H9.out.swap).mono ?_; rintro x w10 ⟨rfl, rfl⟩; rw [HD9.out.len.now]))
        go_ret
        exact ⟨e9, d9, r9, rfl, HE9.out, HD9.out, HO9.out, HL9.out, H9.out⟩
      · skip
        go_wp2_with (first
          | (go_at_call 13; refine (within_calls _ _ (by omega) (by omega) (by omega) (by omega)).mono ?_; rintro x w4 ⟨rfl, rfl⟩; (first | fail | rw [hK] | fail | skip))
          | (go_at_call 19; refine (sector_calls H2.out num _ data HCV.out).mono ?_; rintro x w3 ⟨g3, rfl, h3⟩; obtain ⟨e3, hle3, V3, h3'⟩ := (sec_own' h3).row_persist; obtain ⟨s0, s1, s2, s3⟩ := HC.out _ _ _ hle3 h3'; have HLE3 := hide hle3; have HV3 := hide V3; have HCV3 := hide (HCV.out.le hle3); have H3 := hide h3'; clear h3 h3' hle3 V3 H2)
          | (go_at_call 20; refine (write_gen H3.out HD.out.good _ _ (secOf num data) (fun d' w' hs => HV3.out.sat hs)).mono ?_; rintro x w5 ⟨rfl, h5⟩; have H5 := hide h5.swap; clear h5 H3)
          | (go_at_call 35; refine (rwrite_gen H5.out HD.out.ok _ _ (secOf num data) HV3.out).mono ?_; rintro x w6 ⟨e6, hle6, rfl, h6⟩; rw [(HD.out.write (by have := HOP.out; omega) _ _).1]; have hd9 : DoAt e b b2 d L w6 := ⟨e6, _, _, HE.out.trans (HLE3.out.trans hle6), (HD.out.write (by have := HOP.out; omega) _ _).2, writeD_ops _ _ _, writeD_len _ _ _, h6.swap⟩; clear h6 hle6 H5; obtain ⟨e9, d9, r9, t1, t2, t3, t4, t5⟩ := hd9; have HE9 := hide t1; have HD9 := hide t2; have HO9 := hide t3; have HL9 := hide t4; have H9 := hide t5; clear t1 t2 t3 t4 t5)
          | (go_at_call 18; refine (ops_calls H9.out).mono ?_; rintro x w10 ⟨rfl, rfl⟩)
          | (go_at_call 39; refine (rops_calls H9.out.swap).mono ?_; rintro x w10 ⟨rfl, rfl⟩; rw [HD9.out.n])
          | (go_at_call 17; refine (size_calls H9.out).mono ?_; rintro x w10 ⟨rfl, rfl⟩)
          | (go_at_call 34; refine (rsize_calls H9.out.swap).mono ?_; rintro x w10 ⟨rfl, rfl⟩; rw [HD9.out.len.now]))
        go_ret
        exact ⟨e9, d9, r9, rfl, HE9.out, HD9.out, HO9.out, HL9.out, H9.out⟩
    · by_cases hn20 : num % 20 = 0
      · skip
        go_wp2_with (first
          | (go_at_call 13; refine (within_calls _ _ (by omega) (by omega) (by omega) (by omega)).mono ?_; rintro x w4 ⟨rfl, rfl⟩; (first | fail | rw [hK] | rw [hn20] | skip))
          | (go_at_call 19; refine (sector_calls H2.out num _ data HCV.out).mono ?_; rintro x w3 ⟨g3, rfl, h3⟩; obtain ⟨e3, hle3, V3, h3'⟩ := (sec_own' h3).row_persist; obtain ⟨s0, s1, s2, s3⟩ := HC.out _ _ _ hle3 h3'; have HLE3 := hide hle3; have HV3 := hide V3; have HCV3 := hide (HCV.out.le hle3); have H3 := hide h3'; clear h3 h3' hle3 V3 H2)
          | (go_at_call 20; refine (write_gen H3.out HD.out.good _ _ (data) (fun d' w' hs => HCV3.out.sat hs)).mono ?_; rintro x w5 ⟨rfl, h5⟩; have H5 := hide h5.swap; clear h5 H3)
          | (go_at_call 35; refine (rwrite_gen H5.out HD.out.ok _ _ (data) HCV3.out).mono ?_; rintro x w6 ⟨e6, hle6, rfl, h6⟩; rw [(HD.out.write (by have := HOP.out; omega) _ _).1]; have hd9 : DoAt e b b2 d L w6 := ⟨e6, _, _, HE.out.trans (HLE3.out.trans hle6), (HD.out.write (by have := HOP.out; omega) _ _).2, writeD_ops _ _ _, writeD_len _ _ _, h6.swap⟩; clear h6 hle6 H5; obtain ⟨e9, d9, r9, t1, t2, t3, t4, t5⟩ := hd9; have HE9 := hide t1; have HD9 := hide t2; have HO9 := hide t3; have HL9 := hide t4; have H9 := hide t5; clear t1 t2 t3 t4 t5)
          | (go_at_call 18; refine (ops_calls H9.out).mono ?_; rintro x w10 ⟨rfl, rfl⟩)
          | (go_at_call 39; refine (rops_calls H9.out.swap).mono ?_; rintro x w10 ⟨rfl, rfl⟩; rw [HD9.out.n])
          | (go_at_call 17; refine (size_calls H9.out).mono ?_; rintro x w10 ⟨rfl, rfl⟩)
          | (go_at_call 34; refine (rsize_calls H9.out.swap).mono ?_; rintro x w10 ⟨rfl, rfl⟩; rw [HD9.out.len.now]))
        go_ret
        exact ⟨e9, d9, r9, rfl, HE9.out, HD9.out, HO9.out, HL9.out, H9.out⟩
      · skip
        go_wp2_with (first
          | (go_at_call 13; refine (within_calls _ _ (by omega) (by omega) (by omega) (by omega)).mono ?_; rintro x w4 ⟨rfl, rfl⟩; (first | fail | rw [hK] | fail | skip))
          | (go_at_call 19; refine (sector_calls H2.out num _ data HCV.out).mono ?_; rintro x w3 ⟨g3, rfl, h3⟩; obtain ⟨e3, hle3, V3, h3'⟩ := (sec_own' h3).row_persist; obtain ⟨s0, s1, s2, s3⟩ := HC.out _ _ _ hle3 h3'; have HLE3 := hide hle3; have HV3 := hide V3; have HCV3 := hide (HCV.out.le hle3); have H3 := hide h3'; clear h3 h3' hle3 V3 H2)
          | (go_at_call 20; refine (write_gen H3.out HD.out.good _ _ (secOf num data) (fun d' w' hs => HV3.out.sat hs)).mono ?_; rintro x w5 ⟨rfl, h5⟩; have H5 := hide h5.swap; clear h5 H3)
          | (go_at_call 35; refine (rwrite_gen H5.out HD.out.ok _ _ (secOf num data) HV3.out).mono ?_; rintro x w6 ⟨e6, hle6, rfl, h6⟩; rw [(HD.out.write (by have := HOP.out; omega) _ _).1]; have hd9 : DoAt e b b2 d L w6 := ⟨e6, _, _, HE.out.trans (HLE3.out.trans hle6), (HD.out.write (by have := HOP.out; omega) _ _).2, writeD_ops _ _ _, writeD_len _ _ _, h6.swap⟩; clear h6 hle6 H5; obtain ⟨e9, d9, r9, t1, t2, t3, t4, t5⟩ := hd9; have HE9 := hide t1; have HD9 := hide t2; have HO9 := hide t3; have HL9 := hide t4; have H9 := hide t5; clear t1 t2 t3 t4 t5)
          | (go_at_call 18; refine (ops_calls H9.out).mono ?_; rintro x w10 ⟨rfl, rfl⟩)
          | (go_at_call 39; refine (rops_calls H9.out.swap).mono ?_; rintro x w10 ⟨rfl, rfl⟩; rw [HD9.out.n])
          | (go_at_call 17; refine (size_calls H9.out).mono ?_; rintro x w10 ⟨rfl, rfl⟩)
          | (go_at_call 34; refine (rsize_calls H9.out.swap).mono ?_; rintro x w10 ⟨rfl, rfl⟩; rw [HD9.out.len.now]))
        go_ret
        exact ⟨e9, d9, r9, rfl, HE9.out, HD9.out, HO9.out, HL9.out, H9.out⟩
    · by_cases hn20 : num % 20 = 0
      · skip
        go_wp2_with (first
          | (go_at_call 13; refine (within_calls _ _ (by omega) (by omega) (by omega) (by omega)).mono ?_; rintro x w4 ⟨rfl, rfl⟩; (first | fail | rw [hK] | rw [hn20] | skip))
          | (go_at_call 19; refine (sector_calls H2.out num _ data HCV.out).mono ?_; rintro x w3 ⟨g3, rfl, h3⟩; obtain ⟨e3, hle3, V3, h3'⟩ := (sec_own' h3).row_persist; obtain ⟨s0, s1, s2, s3⟩ := HC.out _ _ _ hle3 h3'; have HLE3 := hide hle3; have HV3 := hide V3; have HCV3 := hide (HCV.out.le hle3); have H3 := hide h3'; clear h3 h3' hle3 V3 H2)
          | (go_at_call 20; refine (write_gen H3.out HD.out.good _ _ (data) (fun d' w' hs => HCV3.out.sat hs)).mono ?_; rintro x w5 ⟨rfl, h5⟩; have H5 := hide h5.swap; clear h5 H3)
          | (go_at_call 35; refine (rwrite_gen H5.out HD.out.ok _ _ (data) HCV3.out).mono ?_; rintro x w6 ⟨e6, hle6, rfl, h6⟩; rw [(HD.out.write (by have := HOP.out; omega) _ _).1]; have hd9 : DoAt e b b2 d L w6 := ⟨e6, _, _, HE.out.trans (HLE3.out.trans hle6), (HD.out.write (by have := HOP.out; omega) _ _).2, writeD_ops _ _ _, writeD_len _ _ _, h6.swap⟩; clear h6 hle6 H5; obtain ⟨e9, d9, r9, t1, t2, t3, t4, t5⟩ := hd9; have HE9 := hide t1; have HD9 := hide t2; have HO9 := hide t3; have HL9 := hide t4; have H9 := hide t5; clear t1 t2 t3 t4 t5)
          | (go_at_call 18; refine (ops_calls H9.out).mono ?_; rintro x w10 ⟨rfl, rfl⟩)
          | (go_at_call 39; refine (rops_calls H9.out.swap).mono ?_; rintro x w10 ⟨rfl, rfl⟩; rw [HD9.out.n])
          | (go_at_call 17; refine (size_calls H9.out).mono ?_; rintro x w10 ⟨rfl, rfl⟩)
          | (go_at_call 34; refine (rsize_calls H9.out.swap).mono ?_; rintro x w10 ⟨rfl, rfl⟩; rw [HD9.out.len.now]))
        go_ret
        exact ⟨e9, d9, r9, rfl, HE9.out, HD9.out, HO9.out, HL9.out, H9.out⟩
      · skip
        go_wp2_with (first
          | (go_at_call 13; refine (within_calls _ _ (by omega) (by omega) (by omega) (by omega)).mono ?_; rintro x w4 ⟨rfl, rfl⟩; (first | fail | rw [hK] | fail | skip))
          | (go_at_call 19; refine (sector_calls H2.out num _ data HCV.out).mono ?_; rintro x w3 ⟨g3, rfl, h3⟩; obtain ⟨e3, hle3, V3, h3'⟩ := (sec_own' h3).row_persist; obtain ⟨s0, s1, s2, s3⟩ := HC.out _ _ _ hle3 h3'; have HLE3 := hide hle3; have HV3 := hide V3; have HCV3 := hide (HCV.out.le hle3); have H3 := hide h3'; clear h3 h3' hle3 V3 H2)
          | (go_at_call 20; refine (write_gen H3.out HD.out.good _ _ (secOf num data) (fun d' w' hs => HV3.out.sat hs)).mono ?_; rintro x w5 ⟨rfl, h5⟩; have H5 := hide h5.swap; clear h5 H3)
          | (go_at_call 35; refine (rwrite_gen H5.out HD.out.ok _ _ (secOf num data) HV3.out).mono ?_; rintro x w6 ⟨e6, hle6, rfl, h6⟩; rw [(HD.out.write (by have := HOP.out; omega) _ _).1]; have hd9 : DoAt e b b2 d L w6 := ⟨e6, _, _, HE.out.trans (HLE3.out.trans hle6), (HD.out.write (by have := HOP.out; omega) _ _).2, writeD_ops _ _ _, writeD_len _ _ _, h6.swap⟩; clear h6 hle6 H5; obtain ⟨e9, d9, r9, t1, t2, t3, t4, t5⟩ := hd9; have HE9 := hide t1; have HD9 := hide t2; have HO9 := hide t3; have HL9 := hide t4; have H9 := hide t5; clear t1 t2 t3 t4 t5)
          | (go_at_call 18; refine (ops_calls H9.out).mono ?_; rintro x w10 ⟨rfl, rfl⟩)
          | (go_at_call 39; refine (rops_calls H9.out.swap).mono ?_; rintro x w10 ⟨rfl, rfl⟩; rw [HD9.out.n])
          | (go_at_call 17; refine (size_calls H9.out).mono ?_; rintro x w10 ⟨rfl, rfl⟩)
          | (go_at_call 34; refine (rsize_calls H9.out.swap).mono ?_; rintro x w10 ⟨rfl, rfl⟩; rw [HD9.out.len.now]))
        go_ret
        exact ⟨e9, d9, r9, rfl, HE9.out, HD9.out, HO9.out, HL9.out, H9.out⟩
    · skip
      go_wp2_with (first
        | (go_at_call 13; refine (within_calls _ _ (by omega) (by omega) (by omega) (by omega)).mono ?_; rintro x w4 ⟨rfl, rfl⟩; (first | fail | rw [hK] | fail | skip))
        | (go_at_call 16; refine (read_gen H2.out HD.out.good.fine.ok _).mono ?_; rintro x w5 ⟨rb, rc, rfl, h5⟩; have H5 := hide h5.bring3; clear h5 H2)
        | (go_at_call 36; refine (rread_calls H5.out HD.out.ok _).mono ?_; rintro x w6 ⟨sb, sc, rfl, h6⟩; rw [(HD.out.read _).2] at h6; rw [(HD.out.read _).1, (HD.out.read _).2]; have ca := run_conv_bytes (P := Try.prog) Try.underlying32 Try.underlying5 Try.underlying9 h6.row_view; have cb := run_conv_bytes (P := Try.prog) Try.underlying32 Try.underlying5 Try.underlying9 h6.drop.drop.row_view; have hd9 : DoAt e b b2 d L w6 := ⟨e1, _, _, HE.out, HD.out, by omega, rfl, (h6.drop.swap.drop).swap⟩; clear h6 H5; obtain ⟨e9, d9, r9, t1, t2, t3, t4, t5⟩ := hd9; have HE9 := hide t1; have HD9 := hide t2; have HO9 := hide t3; have HL9 := hide t4; have H9 := hide t5; clear t1 t2 t3 t4 t5)
        | (go_at_call 18; refine (ops_calls H9.out).mono ?_; rintro x w10 ⟨rfl, rfl⟩)
        | (go_at_call 39; refine (rops_calls H9.out.swap).mono ?_; rintro x w10 ⟨rfl, rfl⟩; rw [HD9.out.n])
        | (go_at_call 17; refine (size_calls H9.out).mono ?_; rintro x w10 ⟨rfl, rfl⟩)
        | (go_at_call 34; refine (rsize_calls H9.out.swap).mono ?_; rintro x w10 ⟨rfl, rfl⟩; rw [HD9.out.len.now]))
      go_ret
      exact ⟨e9, d9, r9, rfl, HE9.out, HD9.out, HO9.out, HL9.out, H9.out⟩
    · skip
      go_wp2_with (first
        | (go_at_call 13; refine (within_calls _ _ (by omega) (by omega) (by omega) (by omega)).mono ?_; rintro x w4 ⟨rfl, rfl⟩; (first | fail | rw [hK] | fail | skip))
        | (go_at_call 16; refine (read_gen H2.out HD.out.good.fine.ok _).mono ?_; rintro x w5 ⟨rb, rc, rfl, h5⟩; have H5 := hide h5.bring3; clear h5 H2)
        | (go_at_call 36; refine (rread_calls H5.out HD.out.ok _).mono ?_; rintro x w6 ⟨sb, sc, rfl, h6⟩; rw [(HD.out.read _).2] at h6; rw [(HD.out.read _).1, (HD.out.read _).2]; have ca := run_conv_bytes (P := Try.prog) Try.underlying32 Try.underlying5 Try.underlying9 h6.row_view; have cb := run_conv_bytes (P := Try.prog) Try.underlying32 Try.underlying5 Try.underlying9 h6.drop.drop.row_view; have hd9 : DoAt e b b2 d L w6 := ⟨e1, _, _, HE.out, HD.out, by omega, rfl, (h6.drop.swap.drop).swap⟩; clear h6 H5; obtain ⟨e9, d9, r9, t1, t2, t3, t4, t5⟩ := hd9; have HE9 := hide t1; have HD9 := hide t2; have HO9 := hide t3; have HL9 := hide t4; have H9 := hide t5; clear t1 t2 t3 t4 t5)
        | (go_at_call 18; refine (ops_calls H9.out).mono ?_; rintro x w10 ⟨rfl, rfl⟩)
        | (go_at_call 39; refine (rops_calls H9.out.swap).mono ?_; rintro x w10 ⟨rfl, rfl⟩; rw [HD9.out.n])
        | (go_at_call 17; refine (size_calls H9.out).mono ?_; rintro x w10 ⟨rfl, rfl⟩)
        | (go_at_call 34; refine (rsize_calls H9.out.swap).mono ?_; rintro x w10 ⟨rfl, rfl⟩; rw [HD9.out.len.now]))
      go_ret
      exact ⟨e9, d9, r9, rfl, HE9.out, HD9.out, HO9.out, HL9.out, H9.out⟩
    · skip
      go_wp2_with (first
        | (go_at_call 13; refine (within_calls _ _ (by omega) (by omega) (by omega) (by omega)).mono ?_; rintro x w4 ⟨rfl, rfl⟩; (first | fail | rw [hK] | fail | skip))
        | (go_at_call 22; refine (flush_gen H2.out HD.out.good).mono ?_; rintro x w5 ⟨rfl, h5⟩; have H5 := hide h5.swap; clear h5 H2)
        | (go_at_call 37; refine (rflush_gen H5.out HD.out.ok).mono ?_; rintro x w6 ⟨e6, hle6, rfl, h6⟩; rw [(HD.out.flush (by have := HOP.out; omega)).1]; have hd9 : DoAt e b b2 d L w6 := ⟨e6, _, _, HE.out.trans hle6, (HD.out.flush (by have := HOP.out; omega)).2, flushD_ops _, flushD_len _, h6.swap⟩; clear h6 hle6 H5; obtain ⟨e9, d9, r9, t1, t2, t3, t4, t5⟩ := hd9; have HE9 := hide t1; have HD9 := hide t2; have HO9 := hide t3; have HL9 := hide t4; have H9 := hide t5; clear t1 t2 t3 t4 t5)
        | (go_at_call 18; refine (ops_calls H9.out).mono ?_; rintro x w10 ⟨rfl, rfl⟩)
        | (go_at_call 39; refine (rops_calls H9.out.swap).mono ?_; rintro x w10 ⟨rfl, rfl⟩; rw [HD9.out.n])
        | (go_at_call 17; refine (size_calls H9.out).mono ?_; rintro x w10 ⟨rfl, rfl⟩)
        | (go_at_call 34; refine (rsize_calls H9.out.swap).mono ?_; rintro x w10 ⟨rfl, rfl⟩; rw [HD9.out.len.now]))
      go_ret
      exact ⟨e9, d9, r9, rfl, HE9.out, HD9.out, HO9.out, HL9.out, H9.out⟩
    · skip
      go_wp2_with (first
        | (go_at_call 13; refine (within_calls _ _ (by omega) (by omega) (by omega) (by omega)).mono ?_; rintro x w4 ⟨rfl, rfl⟩; (first | fail | rw [hK] | fail | skip))
        | (go_at_call 21; refine (fuse_calls H2.out _).mono ?_; rintro x w5 ⟨rfl, h5⟩; have H5 := hide h5.swap; clear h5 H2)
        | (go_at_call 38; refine (rfuse_calls H5.out _).mono ?_; rintro x w6 ⟨rfl, h6⟩; have hd9 : DoAt e b b2 d L w6 := ⟨e1, _, _, HE.out, HD.out.fuse (num % 9 - 1) (by omega) (by omega), (by show d.ops ≤ d.ops + 1; omega), rfl, h6.swap⟩; clear h6 H5; obtain ⟨e9, d9, r9, t1, t2, t3, t4, t5⟩ := hd9; have HE9 := hide t1; have HD9 := hide t2; have HO9 := hide t3; have HL9 := hide t4; have H9 := hide t5; clear t1 t2 t3 t4 t5)
        | (go_at_call 18; refine (ops_calls H9.out).mono ?_; rintro x w10 ⟨rfl, rfl⟩)
        | (go_at_call 39; refine (rops_calls H9.out.swap).mono ?_; rintro x w10 ⟨rfl, rfl⟩; rw [HD9.out.n])
        | (go_at_call 17; refine (size_calls H9.out).mono ?_; rintro x w10 ⟨rfl, rfl⟩)
        | (go_at_call 34; refine (rsize_calls H9.out.swap).mono ?_; rintro x w10 ⟨rfl, rfl⟩; rw [HD9.out.len.now]))
      go_ret
      exact ⟨e9, d9, r9, rfl, HE9.out, HD9.out, HO9.out, HL9.out, H9.out⟩
    · skip
      go_wp2_with (first
        | (go_at_call 13; refine (within_calls _ _ (by omega) (by omega) (by omega) (by omega)).mono ?_; rintro x w4 ⟨rfl, rfl⟩; (first | fail | rw [hK] | fail | skip))
        | (go_at_call 24; refine (crash_calls H2.out HD.out.good.fine _ data HCV.out).mono ?_; rintro x w5 ⟨rfl, h5⟩; obtain ⟨s0, s1, s2, s3⟩ := HC.out _ _ _ (Env.le_refl _) h5; have H5 := hide h5.swap; clear h5 H2)
        | (go_at_call 26; refine (rcrash_calls H5.out HD.out.ok _ data HCV.out).mono ?_; rintro x w6 ⟨e6, hle6, rfl, h6⟩; have hd9 : DoAt e b b2 d L w6 := ⟨e6, _, _, HE.out.trans hle6, HD.out.crash data, (by rw [(show (d.crashed data).ops = d.ops from (settleN_rest (d := d) d.keys (bitOf data) d.keys.length).1)]; omega), crashed_len _ _, h6.swap⟩; clear h6 hle6 H5; obtain ⟨e9, d9, r9, t1, t2, t3, t4, t5⟩ := hd9; have HE9 := hide t1; have HD9 := hide t2; have HO9 := hide t3; have HL9 := hide t4; have H9 := hide t5; clear t1 t2 t3 t4 t5)
        | (go_at_call 18; refine (ops_calls H9.out).mono ?_; rintro x w10 ⟨rfl, rfl⟩)
        | (go_at_call 39; refine (rops_calls H9.out.swap).mono ?_; rintro x w10 ⟨rfl, rfl⟩; rw [HD9.out.n])
        | (go_at_call 17; refine (size_calls H9.out).mono ?_; rintro x w10 ⟨rfl, rfl⟩)
        | (go_at_call 34; refine (rsize_calls H9.out.swap).mono ?_; rintro x w10 ⟨rfl, rfl⟩; rw [HD9.out.len.now]))
      go_ret
      exact ⟨e9, d9, r9, rfl, HE9.out, HD9.out, HO9.out, HL9.out, H9.out⟩
    · skip
      go_wp2_with (first
        | (go_at_call 13; refine (within_calls _ _ (by omega) (by omega) (by omega) (by omega)).mono ?_; rintro x w4 ⟨rfl, rfl⟩; (first | fail | rw [hK] | fail | skip))
        | (go_at_call 24; refine (crash_calls H2.out HD.out.good.fine _ data HCV.out).mono ?_; rintro x w5 ⟨rfl, h5⟩; obtain ⟨s0, s1, s2, s3⟩ := HC.out _ _ _ (Env.le_refl _) h5; have H5 := hide h5.swap; clear h5 H2)
        | (go_at_call 26; refine (rcrash_calls H5.out HD.out.ok _ data HCV.out).mono ?_; rintro x w6 ⟨e6, hle6, rfl, h6⟩; have hd9 : DoAt e b b2 d L w6 := ⟨e6, _, _, HE.out.trans hle6, HD.out.crash data, (by rw [(show (d.crashed data).ops = d.ops from (settleN_rest (d := d) d.keys (bitOf data) d.keys.length).1)]; omega), crashed_len _ _, h6.swap⟩; clear h6 hle6 H5; obtain ⟨e9, d9, r9, t1, t2, t3, t4, t5⟩ := hd9; have HE9 := hide t1; have HD9 := hide t2; have HO9 := hide t3; have HL9 := hide t4; have H9 := hide t5; clear t1 t2 t3 t4 t5)
        | (go_at_call 18; refine (ops_calls H9.out).mono ?_; rintro x w10 ⟨rfl, rfl⟩)
        | (go_at_call 39; refine (rops_calls H9.out.swap).mono ?_; rintro x w10 ⟨rfl, rfl⟩; rw [HD9.out.n])
        | (go_at_call 17; refine (size_calls H9.out).mono ?_; rintro x w10 ⟨rfl, rfl⟩)
        | (go_at_call 34; refine (rsize_calls H9.out.swap).mono ?_; rintro x w10 ⟨rfl, rfl⟩; rw [HD9.out.len.now]))
      go_ret
      exact ⟨e9, d9, r9, rfl, HE9.out, HD9.out, HO9.out, HL9.out, H9.out⟩
end Go.Proofs.Ytbeabedpmoalpaa
