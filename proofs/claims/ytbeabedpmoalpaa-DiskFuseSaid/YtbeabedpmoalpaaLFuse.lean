/-
  The law DiskFuse, walked: it answers true.
-/
import Derived.Test.YtbeabedpmoalpaaDk11
import Derived.Test.YtbeabedpmoalpaaCa
import Derived.Deep.RegionWith
namespace Go.Proofs.Ytbeabedpmoalpaa
open Go.RowKit Go.Maps Go.MapKept
variable {e : Env} {b : Nat} {d : Dk} {L : List HP} {w : World}

/-- A disk of eight sectors with a fuse of n, i writes and flushes tried. -/
structure FuseAt (d : Dk) (n i : Nat) : Prop where
  good : d.Good
  len : d.last.length = 8
  ops : d.ops = (min i n : Nat)
  dead : d.dead = decide (n < i)
  fuse : d.fuse = (n - min i n : Nat)

theorem fuse_start (n : Nat) (h : n < 20) : FuseAt ((Dk.fresh0 8).fused n) n 0 :=
  ⟨fused_good (fresh0_good 8 (by omega)) n (by omega), by simp [Dk.fused, Dk.fresh0], by simp [Dk.fused, Dk.fresh0], by simp [Dk.fused, Dk.fresh0], by simp [Dk.fused]; omega⟩

theorem fuse_spend {n i : Nat} (h : FuseAt d n i) (hi : i < n) : d.dead = false ∧ d.fuse ≠ 0 ∧ d.spend.dead = decide (n < i + 1) ∧ d.spend.ops = (min (i + 1) n : Nat) ∧ d.spend.fuse = (n - min (i + 1) n : Nat) := by
  have hf : d.fuse ≠ 0 := by rw [h.fuse]; omega
  have hd : d.dead = false := by rw [h.dead]; simp; omega
  refine ⟨hd, hf, ?_, ?_, ?_⟩
  · simp [Dk.spend, hf, hd]; omega
  · simp [Dk.spend, hf, h.ops]; omega
  · have := h.fuse
    simp only [Dk.spend, hf, if_false]
    rw [if_pos (by omega)]; omega

theorem fuse_end {n i : Nat} (h : FuseAt d n i) (hi : n ≤ i) : d.fuse = 0 := by rw [h.fuse]; omega

theorem fuse_write {n i : Nat} (h : FuseAt d n i) (hi : i < 25) (j : Int) (h0 : 0 ≤ j) (h1 : j < 8) (l : List UInt8) (hl : l.length = 64) : d.writeR j l = (if i < n then 0 else 3) ∧ FuseAt (d.writeD j l) n (i + 1) := by
  have hh : d.has j = true := by simp [Dk.has, h.len, h0]; omega
  have hg : d.ops < 999999999 := by rw [h.ops]; omega
  have hlen := (writeD_len d j l).trans h.len
  have hgood := writeD_good h.good hg j l
  by_cases hin : i < n
  · obtain ⟨hd, hf, s1, s2, s3⟩ := fuse_spend h hin
    have e1 : d.writeD j l = d.wrote j l := by simp [Dk.writeD, hd, hh, hl, hf]
    refine ⟨by simp [Dk.writeR, hd, hh, hl, hf, hin], hgood, hlen, ?_, ?_, ?_⟩ <;> rw [e1]
    · exact s2
    · exact s1
    · exact s3
  · have hf := fuse_end h (by omega)
    rw [if_neg hin]
    by_cases hni : n < i
    · have hd : d.dead = true := by rw [h.dead]; simp [hni]
      have e1 : d.writeD j l = d := by simp [Dk.writeD, hd]
      refine ⟨by simp [Dk.writeR, hd], hgood, hlen, ?_, ?_, ?_⟩ <;> rw [e1]
      · rw [h.ops]; omega
      · rw [hd]; simp; omega
      · rw [hf]; omega
    · have hd : d.dead = false := by rw [h.dead]; simp; omega
      have e1 : d.writeD j l = { d with dead := true } := by simp [Dk.writeD, hd, hh, hl, hf]
      refine ⟨by simp [Dk.writeR, hd, hh, hl, hf], hgood, hlen, ?_, ?_, ?_⟩ <;> rw [e1]
      · show d.ops = _; rw [h.ops]; omega
      · simp; omega
      · show d.fuse = _; rw [hf]; omega

theorem fuse_flush {n i : Nat} (h : FuseAt d n i) (hi : i < 25) : d.flushR = (if i < n then 0 else 3) ∧ FuseAt d.flushD n (i + 1) := by
  have hg : d.ops < 999999999 := by rw [h.ops]; omega
  have hlen := (flushD_len d).trans h.len
  have hgood := flushD_good h.good hg
  by_cases hin : i < n
  · obtain ⟨hd, hf, s1, s2, s3⟩ := fuse_spend h hin
    have e1 : d.flushD = d.flushed := by simp [Dk.flushD, hd, hf]
    obtain ⟨r1, r2, r3⟩ := settleN_rest (d := d.spend) d.spend.keys (fun _ => true) d.spend.keys.length
    refine ⟨by simp [Dk.flushR, hd, hf, hin], hgood, hlen, ?_, ?_, ?_⟩ <;> (rw [e1]; unfold Dk.flushed)
    · rw [r1]; exact s2
    · rw [r3]; exact s1
    · rw [r2]; exact s3
  · have hf := fuse_end h (by omega)
    rw [if_neg hin]
    by_cases hni : n < i
    · have hd : d.dead = true := by rw [h.dead]; simp [hni]
      have e1 : d.flushD = d := by simp [Dk.flushD, hd]
      refine ⟨by simp [Dk.flushR, hd], hgood, hlen, ?_, ?_, ?_⟩ <;> rw [e1]
      · rw [h.ops]; omega
      · rw [hd]; simp; omega
      · rw [hf]; omega
    · have hd : d.dead = false := by rw [h.dead]; simp; omega
      have e1 : d.flushD = { d with dead := true } := by simp [Dk.flushD, hd, hf]
      refine ⟨by simp [Dk.flushR, hd, hf], hgood, hlen, ?_, ?_, ?_⟩ <;> rw [e1]
      · show d.ops = _; rw [h.ops]; omega
      · simp; omega
      · show d.fuse = _; rw [hf]; omega

def FuseIn (e : Env) (b : Nat) (L : List HP) (n : Nat) (i : Value) (w : World) : Prop := ∃ k : Nat, k ≤ 25 ∧ i = .int .i64 k ∧ ∃ d, FuseAt d n k ∧ Sat e (HP.disk b d :: L) w

set_option maxRecDepth 100000 in
set_option maxHeartbeats 2000000 in
theorem diskFuse_calls (h : Sat e L w) (n : Int) (v : Value) (cs : List CallR) (H : CallsV e.h v cs) (hn1 : -9223372036854775808 ≤ n) (hn2 : n ≤ 9223372036854775807) :
    Calls Try.prog 10 #[.int .i64 n, v] w fun x w' => x = .returned (.bool true) ∧ Sat e L w' := by
  obtain ⟨i0, hi, hz0, hz1, hz2⟩ := info_parts info_u8
  have HI := hide hi
  have HS := hide h
  have HV := hide H
  have n0 := Int.emod_nonneg n (show (20 : Int) ≠ 0 by omega)
  have n1 := Int.emod_lt_of_pos n (show (0 : Int) < 20 by omega)
  obtain ⟨N, hN⟩ : ∃ J : Nat, n % 20 = J := ⟨(n % 20).toNat, by omega⟩
  rw [hN] at n0 n1
  obtain ⟨base, cap, hv, _⟩ := H.view
  subst hv
  clear h hi H
  go_enter Try.func10, Try.ntmps10
  go_wp2_with (first
    | (go_at_call 12; refine (known_calls HS.out).mono ?_; rintro x w1 ⟨rfl, h1⟩; have H1 := hide h1; clear h1 HS)
    | (go_at_call 14; refine (new_good H1.out 8 (by omega) (by omega) (by omega)).mono ?_; rintro x w2 ⟨bb, rfl, h2⟩; have H2 := hide h2; clear h2 H1)
    | (go_at_call 13; refine (within_calls _ _ (by omega) (by omega) (by omega) (by omega)).mono ?_; rintro x w4 ⟨rfl, rfl⟩; rw [hN])
    | (go_at_call 21; refine (fuse_calls H2.out N).mono ?_; rintro x w3 ⟨rfl, h3⟩; have H3 := hide h3; clear h3 H2))
  go_loopw [7] (fun i wr => FuseIn e bb L N i wr) (fun i _ => 25 - (intOf i).toNat)
  case atStart => exact ⟨0, by omega, rfl, _, fuse_start N (by omega), H3.out⟩
  case round =>
    obtain ⟨k, hk, rfl, d, hat, hs⟩ := hrel
    have HA := hide hat
    have H5 := hide hs
    clear hat hs
    by_cases hlt : k < 25
    · have hk3 : (0 : Int) ≤ k := by omega
      have HMIN : Hid (((min (k + 1) N : Nat) : Int) = min ((k : Int) + 1) (N : Int)) := hide (by omega)
      by_cases hin : k < N
      · have hin' : (k : Int) < N := by omega
        have HRR : Hid ((if k < N then (0 : Int) else 3) = 0) := hide (by simp [hin])
        by_cases hm3 : (k : Int) % 3 = 2
        · go_wp2_with (first | (go_at_call 22; refine (flush_gen H5.out HA.out.good).mono ?_; rintro x w6 ⟨rfl, h6⟩; obtain ⟨a1, a2⟩ := fuse_flush HA.out (by omega); rw [a1, HRR.out]; have HA6 := hide a2; have H7 := hide h6; clear a1 a2 h6 H5) | (go_at_call 18; refine (ops_calls H7.out).mono ?_; rintro x w9 ⟨rfl, rfl⟩; rw [HA6.out.ops, HMIN.out]))
          go_roundw
          case rel => exact ⟨k + 1, by omega, by go_num, _, HA6.out, H7.out⟩
          case measure => simp [intOf]; omega
        · by_cases hlen : k < cs.length
          · obtain ⟨b', o', cap', hv', _, c1, _, _⟩ := (HV.out.sat H5.out).cells hlen
            simp only [Value.slice.injEq, true_and] at hv'
            obtain ⟨rfl, rfl⟩ := hv'
            have hp := (HV.out.each _ (List.getElem_mem hlen)).pos
            generalize cs[k].pos = PP at c1 hp
            have hq0 := Int.emod_nonneg PP (show (8 : Int) ≠ 0 by omega)
            have hq1 := Int.emod_lt_of_pos PP (show (0 : Int) < 8 by omega)
            go_wp2_with (go_at_call 13; refine (within_calls _ _ (by omega) (by omega) (by omega) (by omega)).mono ?_; rintro x w5 ⟨rfl, rfl⟩)
            obtain ⟨g6, w6, hmk, h6⟩ : ∃ g w', (Instr.makeSlice 32 (.int .i64 64) (.int .i64 64)).run Try.prog wr.drew = .ok (.slice (some ⟨g, 0, none⟩) 64 64) w' ∧ _ := H5.out.drew.make_ex Try.underlying32 HI.out hz0 hz1 hz2 .i64 .i64 64 (by omega) (by unfold maxLen; omega)
            rw [made_u8] at h6
            have H6 := hide (zs_row h6)
            clear h6
            go_region_with (first | (go_at_call 13; refine (within_calls _ _ (by omega) (by omega) (by omega) (by omega)).mono ?_; rintro x w5 ⟨rfl, rfl⟩) | (go_at_call 20; refine (write_own _ zs H6.out HA.out.good _).mono ?_; rintro x w7 ⟨rfl, h7⟩; obtain ⟨a1, a2⟩ := fuse_write HA.out (by omega) (PP % 8) (Int.emod_nonneg _ (by omega)) (Int.emod_lt_of_pos _ (by omega)) zs rfl; rw [a1, HRR.out]; have HA6 := hide a2; have H7 := hide h7.drop; clear a1 a2 h7 H6))
            all_goals (go_wp2_with (go_at_call 18; refine (ops_calls H7.out).mono ?_; rintro x w9 ⟨rfl, rfl⟩; rw [HA6.out.ops, HMIN.out]))
            all_goals
              go_roundw
              case rel => exact ⟨k + 1, by omega, by go_num, _, HA6.out, H7.out⟩
              case measure => simp [intOf]; omega
          · have hlen' : ¬ (k : Int) < cs.length := by omega
            go_wp2_with fail
            obtain ⟨g6, w6, hmk, h6⟩ : ∃ g w', (Instr.makeSlice 32 (.int .i64 64) (.int .i64 64)).run Try.prog wr.drew = .ok (.slice (some ⟨g, 0, none⟩) 64 64) w' ∧ _ := H5.out.drew.make_ex Try.underlying32 HI.out hz0 hz1 hz2 .i64 .i64 64 (by omega) (by unfold maxLen; omega)
            rw [made_u8] at h6
            have H6 := hide (zs_row h6)
            clear h6
            go_region_with (first | (go_at_call 13; refine (within_calls _ _ (by omega) (by omega) (by omega) (by omega)).mono ?_; rintro x w5 ⟨rfl, rfl⟩) | (go_at_call 20; refine (write_own _ zs H6.out HA.out.good _).mono ?_; rintro x w7 ⟨rfl, h7⟩; obtain ⟨a1, a2⟩ := fuse_write HA.out (by omega) ((k : Int) % 8) (Int.emod_nonneg _ (by omega)) (Int.emod_lt_of_pos _ (by omega)) zs rfl; rw [a1, HRR.out]; have HA6 := hide a2; have H7 := hide h7.drop; clear a1 a2 h7 H6))
            all_goals (go_wp2_with (go_at_call 18; refine (ops_calls H7.out).mono ?_; rintro x w9 ⟨rfl, rfl⟩; rw [HA6.out.ops, HMIN.out]))
            all_goals
              go_roundw
              case rel => exact ⟨k + 1, by omega, by go_num, _, HA6.out, H7.out⟩
              case measure => simp [intOf]; omega
      · have hin' : ¬ (k : Int) < N := by omega
        have HRR : Hid ((if k < N then (0 : Int) else 3) = 3) := hide (by simp [hin])
        by_cases hm3 : (k : Int) % 3 = 2
        · go_wp2_with (first | (go_at_call 22; refine (flush_gen H5.out HA.out.good).mono ?_; rintro x w6 ⟨rfl, h6⟩; obtain ⟨a1, a2⟩ := fuse_flush HA.out (by omega); rw [a1, HRR.out]; have HA6 := hide a2; have H7 := hide h6; clear a1 a2 h6 H5) | (go_at_call 18; refine (ops_calls H7.out).mono ?_; rintro x w9 ⟨rfl, rfl⟩; rw [HA6.out.ops, HMIN.out]))
          go_roundw
          case rel => exact ⟨k + 1, by omega, by go_num, _, HA6.out, H7.out⟩
          case measure => simp [intOf]; omega
        · by_cases hlen : k < cs.length
          · obtain ⟨b', o', cap', hv', _, c1, _, _⟩ := (HV.out.sat H5.out).cells hlen
            simp only [Value.slice.injEq, true_and] at hv'
            obtain ⟨rfl, rfl⟩ := hv'
            have hp := (HV.out.each _ (List.getElem_mem hlen)).pos
            generalize cs[k].pos = PP at c1 hp
            have hq0 := Int.emod_nonneg PP (show (8 : Int) ≠ 0 by omega)
            have hq1 := Int.emod_lt_of_pos PP (show (0 : Int) < 8 by omega)
            go_wp2_with (go_at_call 13; refine (within_calls _ _ (by omega) (by omega) (by omega) (by omega)).mono ?_; rintro x w5 ⟨rfl, rfl⟩)
            obtain ⟨g6, w6, hmk, h6⟩ : ∃ g w', (Instr.makeSlice 32 (.int .i64 64) (.int .i64 64)).run Try.prog wr.drew = .ok (.slice (some ⟨g, 0, none⟩) 64 64) w' ∧ _ := H5.out.drew.make_ex Try.underlying32 HI.out hz0 hz1 hz2 .i64 .i64 64 (by omega) (by unfold maxLen; omega)
            rw [made_u8] at h6
            have H6 := hide (zs_row h6)
            clear h6
            go_region_with (first | (go_at_call 13; refine (within_calls _ _ (by omega) (by omega) (by omega) (by omega)).mono ?_; rintro x w5 ⟨rfl, rfl⟩) | (go_at_call 20; refine (write_own _ zs H6.out HA.out.good _).mono ?_; rintro x w7 ⟨rfl, h7⟩; obtain ⟨a1, a2⟩ := fuse_write HA.out (by omega) (PP % 8) (Int.emod_nonneg _ (by omega)) (Int.emod_lt_of_pos _ (by omega)) zs rfl; rw [a1, HRR.out]; have HA6 := hide a2; have H7 := hide h7.drop; clear a1 a2 h7 H6))
            all_goals (go_wp2_with (go_at_call 18; refine (ops_calls H7.out).mono ?_; rintro x w9 ⟨rfl, rfl⟩; rw [HA6.out.ops, HMIN.out]))
            all_goals
              go_roundw
              case rel => exact ⟨k + 1, by omega, by go_num, _, HA6.out, H7.out⟩
              case measure => simp [intOf]; omega
          · have hlen' : ¬ (k : Int) < cs.length := by omega
            go_wp2_with fail
            obtain ⟨g6, w6, hmk, h6⟩ : ∃ g w', (Instr.makeSlice 32 (.int .i64 64) (.int .i64 64)).run Try.prog wr.drew = .ok (.slice (some ⟨g, 0, none⟩) 64 64) w' ∧ _ := H5.out.drew.make_ex Try.underlying32 HI.out hz0 hz1 hz2 .i64 .i64 64 (by omega) (by unfold maxLen; omega)
            rw [made_u8] at h6
            have H6 := hide (zs_row h6)
            clear h6
            go_region_with (first | (go_at_call 13; refine (within_calls _ _ (by omega) (by omega) (by omega) (by omega)).mono ?_; rintro x w5 ⟨rfl, rfl⟩) | (go_at_call 20; refine (write_own _ zs H6.out HA.out.good _).mono ?_; rintro x w7 ⟨rfl, h7⟩; obtain ⟨a1, a2⟩ := fuse_write HA.out (by omega) ((k : Int) % 8) (Int.emod_nonneg _ (by omega)) (Int.emod_lt_of_pos _ (by omega)) zs rfl; rw [a1, HRR.out]; have HA6 := hide a2; have H7 := hide h7.drop; clear a1 a2 h7 H6))
            all_goals (go_wp2_with (go_at_call 18; refine (ops_calls H7.out).mono ?_; rintro x w9 ⟨rfl, rfl⟩; rw [HA6.out.ops, HMIN.out]))
            all_goals
              go_roundw
              case rel => exact ⟨k + 1, by omega, by go_num, _, HA6.out, H7.out⟩
              case measure => simp [intOf]; omega
    · have hk25 : k = 25 := by omega
      subst hk25
      have hcr : (d.crashed []).Good ∧ (d.crashed []).dead = false ∧ (d.crashed []).fuse = -1 ∧ (d.crashed []).last.length = 8 := ⟨crashed_good HA.out.good [], rfl, rfl, (crashed_len d []).trans HA.out.len⟩
      have hrd : d.readR 0 = 3 := by simp [Dk.readR, HA.out.dead]; omega
      have hrd2 : (d.crashed []).readR 0 = 0 := by simp [Dk.readR, Dk.has, hcr.2.2.2, hcr.2.1]
      have hfl : (d.crashed []).flushR = 0 := by simp [Dk.flushR, hcr.2.1, hcr.2.2.1]
      have HC := hide hcr
      have HR := hide hrd
      have HR2 := hide hrd2
      have HF := hide hfl
      clear hcr hrd hrd2 hfl
      go_wp2_with (first
        | (go_at_call 16; refine (read_gen H5.out HA.out.good.fine.ok _).mono ?_; rintro x w6 ⟨rb, rc, rfl, h6⟩; rw [HR.out]; have H6 := hide h6.drop; clear h6 H5)
        | (go_at_call 24; refine (crash_calls H6.out HA.out.good.fine _ [] (View.nil _)).mono ?_; rintro x w7 ⟨rfl, h7⟩; have H7 := hide h7; clear h7 H6)
        | (go_at_call 16; refine (read_gen H7.out HC.out.1.fine.ok _).mono ?_; rintro x w8 ⟨rb, rc, rfl, h8⟩; rw [HR2.out]; have H8 := hide h8.drop; clear h8 H7)
        | (go_at_call 22; refine (flush_gen H8.out HC.out.1).mono ?_; rintro x w9 ⟨rfl, h9⟩; rw [HF.out]; have H9 := hide h9; clear h9 H8))
      go_ret
      exact ⟨rfl, H9.out.drop⟩
end Go.Proofs.Ytbeabedpmoalpaa
