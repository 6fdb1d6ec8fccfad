/-
  The law DiskOwn, walked: it answers true.
-/
import Derived.Test.YtbeabedpmoalpaaLk
namespace Go.Proofs.Ytbeabedpmoalpaa
open Go.RowKit Go.Maps Go.MapKept
variable {e : Env} {b : Nat} {d : Dk} {L : List HP} {w : World}

theorem own_step (n : Int) (l : List UInt8) (k : Int) (hk0 : 0 ≤ k) (hk : k < 8) : ((Dk.fresh0 8).wrote k (secOf n l)).cur k = secOf n l ∧ ((Dk.fresh0 8).wrote k (secOf n l)).Ok ∧ ((Dk.fresh0 8).wrote k (secOf n l)).last.length = 8 ∧ ((Dk.fresh0 8).wrote k (secOf n l)).dead = false := by
  refine ⟨by rw [wrote_cur, if_pos rfl], wrote_ok (fresh0_ok 8 (by omega)) k _ (secOf_len n l) (by simp [Dk.has, Dk.fresh0]; omega), ?_, ?_⟩
  · simp [Dk.wrote, Dk.spend, Dk.fresh0]
  · simp [Dk.wrote, Dk.spend, Dk.fresh0]

set_option maxRecDepth 100000 in
set_option maxHeartbeats 1000000 in
theorem diskOwn_calls (h : Sat e L w) (n : Int) (v : Value) (l : List UInt8) (y : Int) (H : View e.h v l.length (l.map B8)) (hn1 : -9223372036854775808 ≤ n) (hn2 : n ≤ 9223372036854775807) (hy0 : 0 ≤ y) (hy : y < 256) :
    Calls Try.prog 4 #[.int .i64 n, v, .int .u8 y] w fun x w' => x = .returned (.bool true) ∧ Sat e L w' := by
  have HS := hide h
  have HV := hide H
  have hk0 := Int.emod_nonneg n (show (8 : Int) ≠ 0 by omega)
  have hk1 := Int.emod_lt_of_pos n (show (0 : Int) < 8 by omega)
  have hst := own_step n l (n % 8) hk0 hk1
  have HST := hide hst
  obtain ⟨base, cap, hv, _⟩ := H
  subst hv
  clear h hst
  go_enter Try.func4, Try.ntmps4
  go_wp2_with (first
    | (go_at_call 12; refine (known_calls HS.out).mono ?_; rintro x w1 ⟨rfl, h1⟩; have H1 := hide h1; clear h1)
    | (go_at_call 14; refine (new_good H1.out 8 (by omega) (by omega) (by omega)).mono ?_; rintro x w2 ⟨bb, rfl, h2⟩; have H2 := hide h2; clear h2)
    | (go_at_call 19; refine (sector_calls H2.out n _ l HV.out).mono ?_; rintro x w3 ⟨g, rfl, h3⟩; have V3 := hide (sec_view (secOf_len n l) h3); have H3 := hide h3; clear h3)
    | ((with_reducible refine wpList_string_sl rfl 32 9 5 (.tmp 27) rfl Try.underlying32 Try.underlying5 Try.underlying9 V3.out rfl ?_))
    | (go_at_call 13; refine (within_calls n 8 (by omega) (by omega) hn1 hn2).mono ?_; rintro x w4 ⟨rfl, rfl⟩)
    | (go_at_call 20; refine (write_row H3.out (secOf_len n l) (n % 8) (by simp [Dk.fresh0]) (by simp [Dk.fresh0]) (by simp [Dk.fresh0]) rfl (by simp [Dk.has, Dk.fresh0]; omega) (by simp [Dk.fresh0]) (by simp [Dk.fresh0])).mono ?_; rintro x w5 ⟨rfl, h5⟩; obtain ⟨c0, f0, h5'⟩ := sec_poke (secOf_len n l) h5 y; have H5 := hide h5'; clear h5 h5')
    | (go_at_call 16; refine (read_ok H5.out.swap HST.out.2.1 (n % 8) HST.out.2.2.2 hk0 (by rw [HST.out.2.2.1]; exact hk1)).mono ?_; rintro x w6 ⟨g6, cap6, rfl, h6⟩; rw [HST.out.1] at h6; have hconv := run_conv_bytes Try.underlying32 Try.underlying5 Try.underlying9 (sec_view (secOf_len n l) h6); obtain ⟨c6, f6, h6'⟩ := sec_poke (secOf_len n l) h6 y; clear c0 f0; have H6 := hide h6'; clear h6 h6')
    | (go_at_call 16; refine (read_ok H6.out.swap HST.out.2.1 (n % 8) HST.out.2.2.2 hk0 (by rw [HST.out.2.2.1]; exact hk1)).mono ?_; rintro x w7 ⟨g7, cap7, rfl, h7⟩; rw [HST.out.1] at h7; have hconv7 := run_conv_bytes Try.underlying32 Try.underlying5 Try.underlying9 (sec_view (secOf_len n l) h7); clear c6 f6 hconv; have H7 := hide h7; clear h7))
  go_ret
  exact ⟨rfl, H7.out.drop.drop.drop.drop⟩
end Go.Proofs.Ytbeabedpmoalpaa
