/-
  The law DiskCounts, walked: it answers true.
-/
import Derived.Test.YtbeabedpmoalpaaDk10
namespace Go.Proofs.Ytbeabedpmoalpaa
open Go.RowKit Go.Maps Go.MapKept
variable {e : Env} {b : Nat} {d : Dk} {L : List HP} {w : World}

/-- A disk of n sectors after k operations lies at b. -/
def DiskAt (e : Env) (b n : Nat) (k : Int) (L : List HP) (w : World) : Prop := ∃ d, Alive d n k ∧ Sat e (HP.disk b d :: L) w
def CountAt (e : Env) (b : Nat) (L : List HP) (off top : Int) (i : Value) (w : World) : Prop := ∃ k : Nat, (k : Int) ≤ top ∧ i = .int .i64 k ∧ DiskAt e b 8 (off + k) L w

set_option maxRecDepth 100000 in
set_option maxHeartbeats 1000000 in
theorem diskCounts_calls (h : Sat e L w) (n m : Int) (v : Value) (l : List UInt8) (H : View e.h v l.length (l.map B8)) (hn1 : -9223372036854775808 ≤ n) (hn2 : n ≤ 9223372036854775807) (hm1 : -9223372036854775808 ≤ m) (hm2 : m ≤ 9223372036854775807) :
    Calls Try.prog 8 #[.int .i64 n, .int .i64 m, v] w fun x w' => x = .returned (.bool true) ∧ Sat e L w' := by
  obtain ⟨i0, hi, hz0, hz1, hz2⟩ := info_parts info_u8
  have HI := hide hi
  have HS := hide h
  have HV := hide H
  have n0 := Int.emod_nonneg n (show (30 : Int) ≠ 0 by omega)
  have n1 := Int.emod_lt_of_pos n (show (0 : Int) < 30 by omega)
  have m0 := Int.emod_nonneg m (show (10 : Int) ≠ 0 by omega)
  have m1 := Int.emod_lt_of_pos m (show (0 : Int) < 10 by omega)
  obtain ⟨base, cap, hv, _⟩ := H
  subst hv
  clear h hi
  go_enter Try.func8, Try.ntmps8
  go_wp2_with (first
    | (go_at_call 12; refine (known_calls HS.out).mono ?_; rintro x w1 ⟨rfl, h1⟩; have H1 := hide h1; clear h1)
    | (go_at_call 14; refine (new_good H1.out 8 (by omega) (by omega) (by omega)).mono ?_; rintro x w2 ⟨bb, rfl, h2⟩; have H2 := hide h2; clear h2)
    | (go_at_call 13; refine (within_calls _ _ (by omega) (by omega) (by omega) (by omega)).mono ?_; rintro x w4 ⟨rfl, rfl⟩))
  generalize n % 30 = N at n0 n1 ⊢
  generalize m % 10 = M at m0 m1 ⊢
  go_loopw [9] (fun i wr => CountAt e bb L 0 N i wr) (fun i _ => N.toNat - (intOf i).toNat)
  case atStart => exact ⟨0, by simpa using n0, rfl, _, alive_fresh 8 (by omega), H2.out⟩
  case round =>
    obtain ⟨k, hk, rfl, d, hal, hs⟩ := hrel
    have HA := hide hal
    have HSK := hide hs
    clear hal hs
    by_cases hlt : (k : Int) < N
    · have hk8 : (k : Int) % 8 < 8 := Int.emod_lt_of_pos _ (by omega)
      go_wp2_with (first
        | (at_make; (with_reducible refine wpList_make_sl rfl (.const (.int .i64 64)) (.const (.int .i64 64)) 32 rfl Try.underlying32 HI.out hz0 hz1 hz2 64 rfl rfl (by omega) (by omega) HSK.out (by omega) (by unfold maxLen; omega) ?_); intro g w3 h3; rw [made_u8] at h3; have H3 := hide (zs_row h3); clear h3)
        | (go_at_call 20; refine (write_own _ zs H3.out HA.out.good _).mono ?_; rintro x w5 ⟨rfl, h5⟩; obtain ⟨a1, a2, a3⟩ := alive_write HA.out (by omega) ((k : Int) % 8) (by omega) hk8 zs rfl; rw [a1]; rw [a2] at h5; have HA2 := hide a3; have H5 := hide h5; clear h5 a1 a2 a3)
        | (go_at_call 16; refine (read_gen H5.out.drop HA2.out.good.fine.ok _).mono ?_; rintro x w6 ⟨rb, rc, rfl, h6⟩; have H6 := hide h6; clear h6))
      go_roundw
      case rel => exact ⟨k + 1, by omega, by go_num, _, by have := HA2.out; simpa [Int.add_assoc] using this, H6.out.drop⟩
      case measure => simp [intOf]; omega
    · have hkN : N = (k : Int) := by omega
      subst hkN
      go_wp2_with fail
      go_loopw [10] (fun i wr => CountAt e bb L k M i wr) (fun i _ => M.toNat - (intOf i).toNat)
      case atStart => exact ⟨0, by simpa using m0, rfl, d, by simpa using HA.out, HSK.out⟩
      case round =>
        obtain ⟨j, hj, rfl, d2, hal2, hs2⟩ := hrel
        have HA2 := hide hal2
        have HS2 := hide hs2
        clear hal2 hs2
        by_cases hlt2 : (j : Int) < M
        · go_wp2_with (first
            | (go_at_call 22; refine (flush_gen HS2.out HA2.out.good).mono ?_; rintro x w5 ⟨rfl, h5⟩; obtain ⟨a1, a2, a3⟩ := alive_flush HA2.out (by omega); rw [a1]; rw [a2] at h5; have HA3 := hide a3; have H5 := hide h5; clear h5 a1 a2 a3)
            | (go_at_call 24; refine (crash_calls H5.out HA3.out.good.fine _ l HV.out).mono ?_; rintro x w6 ⟨rfl, h6⟩; have HA4 := hide (alive_crash HA3.out l); have H6 := hide h6; clear h6))
          go_roundw
          case rel => exact ⟨j + 1, by omega, by go_num, _, by have := HA4.out; simpa [Int.add_assoc] using this, H6.out⟩
          case measure => simp [intOf]; omega
        · have hjM : M = (j : Int) := by omega
          subst hjM
          go_wp2_with (first
            | (go_at_call 18; refine (ops_calls HS2.out).mono ?_; rintro x w5 ⟨rfl, rfl⟩; rw [HA2.out.ops])
            | (go_at_call 17; refine (size_calls HS2.out).mono ?_; rintro x w5 ⟨rfl, rfl⟩; rw [HA2.out.len]))
          go_ret
          exact ⟨rfl, HS2.out.drop⟩
end Go.Proofs.Ytbeabedpmoalpaa
