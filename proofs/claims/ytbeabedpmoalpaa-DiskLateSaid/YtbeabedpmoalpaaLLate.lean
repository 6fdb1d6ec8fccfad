/-
  The law DiskLate, walked: it answers true.
-/
import Derived.Test.YtbeabedpmoalpaaDk11
import Derived.Test.YtbeabedpmoalpaaOp2
namespace Go.Proofs.Ytbeabedpmoalpaa
open Go.RowKit Go.Maps Go.MapKept
variable {e : Env} {b : Nat} {d : Dk} {L : List HP} {w : World}

def late1 (I : Nat) (x : List UInt8) : Dk := (Dk.fresh0 10).wrote I x
def late3 (I J : Nat) (x y : List UInt8) : Dk := (late1 I x).flushed.wrote J y

theorem late_alive (I J : Nat) (hI : I < 10) (hJ : J < 10) (x y : List UInt8) (hx : x.length = 64) (hy : y.length = 64) :
    Alive (late1 I x) 10 1 ∧ Alive (late1 I x).flushed 10 2 ∧ Alive (late3 I J x y) 10 3 := by
  obtain ⟨_, _, a1⟩ := alive_write (alive_fresh 10 (by omega)) (by omega) (I : Int) (by omega) (by omega) x hx
  obtain ⟨_, _, a2⟩ := alive_flush a1 (by omega)
  obtain ⟨_, _, a3⟩ := alive_write a2 (by omega) (J : Int) (by omega) (by omega) y hy
  exact ⟨a1, a2, a3⟩

theorem late_cur (I J : Nat) (hI : I < 10) (hJ : J < 10) (x y : List UInt8) (hx : x.length = 64) (hy : y.length = 64) (pick : List UInt8) :
    (late3 I J x y).cur J = y ∧ ((late3 I J x y).crashed pick).cur J = (if bitOf pick 0 then y else if I = J then x else zs) ∧ (I ≠ J → ((late3 I J x y).crashed pick).cur I = x) := by
  obtain ⟨a1, a2, a3⟩ := late_alive I J hI hJ x y hx hy
  have hf : (late3 I J x y).fresh = [((J : Int), y)] := by
    unfold late3; rw [wrote_fresh, flushed_fresh a1.good.fine]; rfl
  have hlst : ∀ n : Nat, n < 10 → (late3 I J x y).lst n = if I = n then x else zs := by
    intro n hn
    unfold late3
    rw [wrote_lst, (flushed_cur a1.good.fine n (by omega) (by rw [a1.len]; omega)).2]
    unfold late1
    rw [wrote_cur, fresh0_cur (n : Int) (by omega) (by omega)]
    simp only [Int.ofNat_inj]
  have hc := fun (n : Nat) (hn : n < 10) => crashed_one a3.good.fine (J : Int) y hf pick n (by omega) (by rw [a3.len]; omega)
  refine ⟨by unfold late3; rw [wrote_cur, if_pos rfl], ?_, fun hne => ?_⟩
  · rw [hc J hJ, hlst J hJ]; simp
  · rw [hc I hI, hlst I hI, if_pos rfl, if_neg (by omega)]

theorem sec_own {g : Nat} {n : Int} {l : List UInt8} (h : Sat e (HP.row 5 1 (.slice (some ⟨g, 0, none⟩) 64 64) 64 ((secOf n l).map B8) :: L) w) : Sat e (HP.row 5 1 (.slice (some ⟨g, 0, none⟩) 64 64) (secOf n l).length ((secOf n l).map B8) :: L) w := by
  rw [secOf_len]; exact h

set_option maxRecDepth 100000 in
set_option maxHeartbeats 2000000 in
theorem diskLate_calls (h : Sat e L w) (n m : Int) (va : Value) (a : List UInt8) (hva : View e.h va a.length (a.map B8)) (vb : Value) (bs : List UInt8) (hvb : View e.h vb bs.length (bs.map B8)) (keep : Bool) (hn1 : -9223372036854775808 ≤ n) (hn2 : n ≤ 9223372036854775807) (hm1 : -9223372036854775808 ≤ m) (hm2 : m ≤ 9223372036854775807) :
    Calls Try.prog 7 #[.int .i64 n, .int .i64 m, va, vb, .bool keep] w fun x w' => x = .returned (.bool true) ∧ ∃ e', e.le e' ∧ Sat e' L w' := by
  obtain ⟨i0, hi, hz0, hz1, hz2⟩ := info_parts info_u8
  have HI := hide hi
  have HS := hide h
  have HVA := hide hva
  have HVB := hide hvb
  have n0 := Int.emod_nonneg n (show (10 : Int) ≠ 0 by omega)
  have n1 := Int.emod_lt_of_pos n (show (0 : Int) < 10 by omega)
  have m0 := Int.emod_nonneg m (show (10 : Int) ≠ 0 by omega)
  have m1 := Int.emod_lt_of_pos m (show (0 : Int) < 10 by omega)
  obtain ⟨J, hJ⟩ : ∃ M : Nat, m % 10 = M := ⟨(m % 10).toNat, by omega⟩
  rw [hJ] at m0 m1
  obtain ⟨I, hI⟩ : ∃ J : Nat, n % 10 = J := ⟨(n % 10).toNat, by omega⟩
  rw [hI] at n0 n1
  have HA := hide (late_alive I J (by omega) (by omega) (secOf 1 a) (secOf 2 bs) (secOf_len _ _) (secOf_len _ _))
  have HC := hide (late_cur I J (by omega) (by omega) (secOf 1 a) (secOf 2 bs) (secOf_len _ _) (secOf_len _ _))
  clear h hi hva hvb
  cases keep with
  | false =>
    have hb : bitOf [] 0 = false := rfl
    by_cases hIJ : I = J
    · subst hIJ
      have HQ : Hid (((late3 I I (secOf 1 a) (secOf 2 bs)).crashed []).cur I = secOf 1 a) := hide (by rw [(HC.out []).2.1]; simp [hb])
      have HR : Hid (((late3 I I (secOf 1 a) (secOf 2 bs)).crashed []).cur I = secOf 1 a) := HQ
      go_enter Try.func7, Try.ntmps7
      go_wp2_with (first
        | (go_at_call 12; refine (known_calls HS.out).mono ?_; rintro x w1 ⟨rfl, h1⟩; have H1 := hide h1; clear h1 HS)
        | (go_at_call 14; refine (new_good H1.out 10 (by omega) (by omega) (by omega)).mono ?_; rintro x w2 ⟨bb, rfl, h2⟩; have H2 := hide h2; clear h2 H1)
        | (go_at_call 13; refine (within_calls _ _ (by omega) (by omega) (by omega) (by omega)).mono ?_; rintro x w4 ⟨rfl, rfl⟩; (first | rw [hI] | rw [hJ]))
        | (go_at_call 19; refine (sector_calls H2.out 1 _ a HVA.out).mono ?_; rintro x w3 ⟨g3, rfl, h3⟩; have H3 := hide (sec_own h3); clear h3 H2)
        | (go_at_call 19; refine (sector_calls H3.out 2 _ bs HVB.out).mono ?_; rintro x w4 ⟨g4, rfl, h4⟩; have H4 := hide ((sec_own h4).rot3); clear h4 H3)
        | (go_at_call 20; refine (write_own _ _ H4.out (alive_fresh 10 (by omega)).good _).mono ?_; rintro x w5 ⟨rfl, h5⟩; obtain ⟨a1, a2, _⟩ := alive_write (alive_fresh 10 (by omega)) (by omega) (I : Int) (by omega) (by omega) (secOf 1 a) (secOf_len _ _); rw [a1]; rw [a2] at h5; have H5 : Hid (Sat e (HP.disk bb (late1 I (secOf 1 a)) :: _) w5) := hide h5.swap; clear h5 H4 a1 a2)
        | (go_at_call 22; refine (flush_gen H5.out HA.out.1.good).mono ?_; rintro x w6 ⟨rfl, h6⟩; obtain ⟨a1, a2, _⟩ := alive_flush HA.out.1 (by omega); rw [a1]; rw [a2] at h6; have H6 := hide h6.bring3; clear h6 H5 a1 a2)
        | (go_at_call 20; refine (write_own _ _ H6.out HA.out.2.1.good _).mono ?_; rintro x w7 ⟨rfl, h7⟩; obtain ⟨a1, a2, _⟩ := alive_write HA.out.2.1 (by omega) (I : Int) (by omega) (by omega) (secOf 2 bs) (secOf_len _ _); rw [a1]; rw [a2] at h7; have H7 : Hid (Sat e (HP.disk bb (late3 I I (secOf 1 a) (secOf 2 bs)) :: _) w7) := hide h7.swap; clear h7 H6 a1 a2)
        | (go_at_call 16; refine (read_gen H7.out HA.out.2.2.good.fine.ok _).mono ?_; rintro x w8 ⟨pb, pc, rfl, h8⟩; obtain ⟨a1, a2, _⟩ := alive_read HA.out.2.2 (I : Int) (by omega) (by omega); rw [a2, (HC.out []).1] at h8; rw [a1, a2, (HC.out []).1]; have H8 := hide h8.swap; clear h8 H7 a1 a2)
        | (go_at_call 24; refine (crash_calls H8.out HA.out.2.2.good.fine _ [] (View.nil _)).mono ?_; rintro x w10 ⟨rfl, h10⟩; have HA9 := hide (alive_crash HA.out.2.2 []); have H10 := hide h10; clear h10 H8)
        | (go_at_call 16; refine (read_gen H10.out HA9.out.good.fine.ok _).mono ?_; rintro x w11 ⟨qb, qc, rfl, h11⟩; obtain ⟨a1, a2, _⟩ := alive_read HA9.out (I : Int) (by omega) (by omega); rw [a2, HQ.out] at h11; rw [a1, a2, HQ.out]; have H11 := hide h11.swap; clear h11 H10 a1 a2)
        | (go_at_call 16; refine (read_gen H11.out HA9.out.good.fine.ok _).mono ?_; rintro x w12 ⟨rb, rc, rfl, h12⟩; obtain ⟨a1, a2, _⟩ := alive_read HA9.out (I : Int) (by omega) (by omega); rw [a2, HR.out] at h12; rw [a1, a2, HR.out]; have H12 := hide h12; clear h12 H11 a1 a2)
        | (at_make; (with_reducible refine wpList_make_sl rfl (.const (.int .i64 64)) (.const (.int .i64 64)) 32 rfl Try.underlying32 HI.out hz0 hz1 hz2 64 rfl rfl (by omega) (by omega) H12.out (by omega) (by unfold maxLen; omega) ?_); intro g13 w13 h13; rw [made_u8] at h13; have h13' := zs_row h13; have cz := run_conv_bytes (P := Try.prog) Try.underlying32 Try.underlying5 Try.underlying9 h13'.row_view; have cr := run_conv_bytes (P := Try.prog) Try.underlying32 Try.underlying5 Try.underlying9 h13'.drop.row_view; have cq := run_conv_bytes (P := Try.prog) Try.underlying32 Try.underlying5 Try.underlying9 h13'.drop.drop.drop.row_view; have cp := run_conv_bytes (P := Try.prog) Try.underlying32 Try.underlying5 Try.underlying9 h13'.drop.drop.drop.drop.row_view; have cy := run_conv_bytes (P := Try.prog) Try.underlying32 Try.underlying5 Try.underlying9 h13'.drop.drop.drop.drop.drop.row_view; have cx := run_conv_bytes (P := Try.prog) Try.underlying32 Try.underlying5 Try.underlying9 h13'.drop.drop.drop.drop.drop.drop.row_view; have H13 := hide h13'; clear h13 h13' H12))
      go_ret
      exact ⟨rfl, _, Env.le_refl _, H13.out.drop.drop.drop.drop.drop.drop.drop⟩
    · skip
      have HQ : Hid (((late3 I J (secOf 1 a) (secOf 2 bs)).crashed []).cur J = zs) := hide (by rw [(HC.out []).2.1]; simp [hb, hIJ])
      have HR : Hid (((late3 I J (secOf 1 a) (secOf 2 bs)).crashed []).cur I = secOf 1 a) := hide ((HC.out []).2.2 hIJ)
      have hIJ' : (I : Int) ≠ (J : Int) := by omega
      go_enter Try.func7, Try.ntmps7
      go_wp2_with (first
        | (go_at_call 12; refine (known_calls HS.out).mono ?_; rintro x w1 ⟨rfl, h1⟩; have H1 := hide h1; clear h1 HS)
        | (go_at_call 14; refine (new_good H1.out 10 (by omega) (by omega) (by omega)).mono ?_; rintro x w2 ⟨bb, rfl, h2⟩; have H2 := hide h2; clear h2 H1)
        | (go_at_call 13; refine (within_calls _ _ (by omega) (by omega) (by omega) (by omega)).mono ?_; rintro x w4 ⟨rfl, rfl⟩; (first | rw [hI] | rw [hJ]))
        | (go_at_call 19; refine (sector_calls H2.out 1 _ a HVA.out).mono ?_; rintro x w3 ⟨g3, rfl, h3⟩; have H3 := hide (sec_own h3); clear h3 H2)
        | (go_at_call 19; refine (sector_calls H3.out 2 _ bs HVB.out).mono ?_; rintro x w4 ⟨g4, rfl, h4⟩; have H4 := hide ((sec_own h4).rot3); clear h4 H3)
        | (go_at_call 20; refine (write_own _ _ H4.out (alive_fresh 10 (by omega)).good _).mono ?_; rintro x w5 ⟨rfl, h5⟩; obtain ⟨a1, a2, _⟩ := alive_write (alive_fresh 10 (by omega)) (by omega) (I : Int) (by omega) (by omega) (secOf 1 a) (secOf_len _ _); rw [a1]; rw [a2] at h5; have H5 : Hid (Sat e (HP.disk bb (late1 I (secOf 1 a)) :: _) w5) := hide h5.swap; clear h5 H4 a1 a2)
        | (go_at_call 22; refine (flush_gen H5.out HA.out.1.good).mono ?_; rintro x w6 ⟨rfl, h6⟩; obtain ⟨a1, a2, _⟩ := alive_flush HA.out.1 (by omega); rw [a1]; rw [a2] at h6; have H6 := hide h6.bring3; clear h6 H5 a1 a2)
        | (go_at_call 20; refine (write_own _ _ H6.out HA.out.2.1.good _).mono ?_; rintro x w7 ⟨rfl, h7⟩; obtain ⟨a1, a2, _⟩ := alive_write HA.out.2.1 (by omega) (J : Int) (by omega) (by omega) (secOf 2 bs) (secOf_len _ _); rw [a1]; rw [a2] at h7; have H7 : Hid (Sat e (HP.disk bb (late3 I J (secOf 1 a) (secOf 2 bs)) :: _) w7) := hide h7.swap; clear h7 H6 a1 a2)
        | (go_at_call 16; refine (read_gen H7.out HA.out.2.2.good.fine.ok _).mono ?_; rintro x w8 ⟨pb, pc, rfl, h8⟩; obtain ⟨a1, a2, _⟩ := alive_read HA.out.2.2 (J : Int) (by omega) (by omega); rw [a2, (HC.out []).1] at h8; rw [a1, a2, (HC.out []).1]; have H8 := hide h8.swap; clear h8 H7 a1 a2)
        | (go_at_call 24; refine (crash_calls H8.out HA.out.2.2.good.fine _ [] (View.nil _)).mono ?_; rintro x w10 ⟨rfl, h10⟩; have HA9 := hide (alive_crash HA.out.2.2 []); have H10 := hide h10; clear h10 H8)
        | (go_at_call 16; refine (read_gen H10.out HA9.out.good.fine.ok _).mono ?_; rintro x w11 ⟨qb, qc, rfl, h11⟩; obtain ⟨a1, a2, _⟩ := alive_read HA9.out (J : Int) (by omega) (by omega); rw [a2, HQ.out] at h11; rw [a1, a2, HQ.out]; have H11 := hide h11.swap; clear h11 H10 a1 a2)
        | (go_at_call 16; refine (read_gen H11.out HA9.out.good.fine.ok _).mono ?_; rintro x w12 ⟨rb, rc, rfl, h12⟩; obtain ⟨a1, a2, _⟩ := alive_read HA9.out (I : Int) (by omega) (by omega); rw [a2, HR.out] at h12; rw [a1, a2, HR.out]; have H12 := hide h12; clear h12 H11 a1 a2)
        | (at_make; (with_reducible refine wpList_make_sl rfl (.const (.int .i64 64)) (.const (.int .i64 64)) 32 rfl Try.underlying32 HI.out hz0 hz1 hz2 64 rfl rfl (by omega) (by omega) H12.out (by omega) (by unfold maxLen; omega) ?_); intro g13 w13 h13; rw [made_u8] at h13; have h13' := zs_row h13; have cz := run_conv_bytes (P := Try.prog) Try.underlying32 Try.underlying5 Try.underlying9 h13'.row_view; have cr := run_conv_bytes (P := Try.prog) Try.underlying32 Try.underlying5 Try.underlying9 h13'.drop.row_view; have cq := run_conv_bytes (P := Try.prog) Try.underlying32 Try.underlying5 Try.underlying9 h13'.drop.drop.drop.row_view; have cp := run_conv_bytes (P := Try.prog) Try.underlying32 Try.underlying5 Try.underlying9 h13'.drop.drop.drop.drop.row_view; have cy := run_conv_bytes (P := Try.prog) Try.underlying32 Try.underlying5 Try.underlying9 h13'.drop.drop.drop.drop.drop.row_view; have cx := run_conv_bytes (P := Try.prog) Try.underlying32 Try.underlying5 Try.underlying9 h13'.drop.drop.drop.drop.drop.drop.row_view; have H13 := hide h13'; clear h13 h13' H12))
      go_ret
      exact ⟨rfl, _, Env.le_refl _, H13.out.drop.drop.drop.drop.drop.drop.drop⟩
  | true =>
    have hb : bitOf [1] 0 = true := by decide
    by_cases hIJ : I = J
    · subst hIJ
      have HQ : Hid (((late3 I I (secOf 1 a) (secOf 2 bs)).crashed [1]).cur I = secOf 2 bs) := hide (by rw [(HC.out [1]).2.1]; simp [hb])
      have HR : Hid (((late3 I I (secOf 1 a) (secOf 2 bs)).crashed [1]).cur I = secOf 2 bs) := HQ
      go_enter Try.func7, Try.ntmps7
      go_wp2_with (first
        | (go_at_call 12; refine (known_calls HS.out).mono ?_; rintro x w1 ⟨rfl, h1⟩; have H1 := hide h1; clear h1 HS)
        | (go_at_call 14; refine (new_good H1.out 10 (by omega) (by omega) (by omega)).mono ?_; rintro x w2 ⟨bb, rfl, h2⟩; have H2 := hide h2; clear h2 H1)
        | (go_at_call 13; refine (within_calls _ _ (by omega) (by omega) (by omega) (by omega)).mono ?_; rintro x w4 ⟨rfl, rfl⟩; (first | rw [hI] | rw [hJ]))
        | (go_at_call 19; refine (sector_calls H2.out 1 _ a HVA.out).mono ?_; rintro x w3 ⟨g3, rfl, h3⟩; have H3 := hide (sec_own h3); clear h3 H2)
        | (go_at_call 19; refine (sector_calls H3.out 2 _ bs HVB.out).mono ?_; rintro x w4 ⟨g4, rfl, h4⟩; have H4 := hide ((sec_own h4).rot3); clear h4 H3)
        | (go_at_call 20; refine (write_own _ _ H4.out (alive_fresh 10 (by omega)).good _).mono ?_; rintro x w5 ⟨rfl, h5⟩; obtain ⟨a1, a2, _⟩ := alive_write (alive_fresh 10 (by omega)) (by omega) (I : Int) (by omega) (by omega) (secOf 1 a) (secOf_len _ _); rw [a1]; rw [a2] at h5; have H5 : Hid (Sat e (HP.disk bb (late1 I (secOf 1 a)) :: _) w5) := hide h5.swap; clear h5 H4 a1 a2)
        | (go_at_call 22; refine (flush_gen H5.out HA.out.1.good).mono ?_; rintro x w6 ⟨rfl, h6⟩; obtain ⟨a1, a2, _⟩ := alive_flush HA.out.1 (by omega); rw [a1]; rw [a2] at h6; have H6 := hide h6.bring3; clear h6 H5 a1 a2)
        | (go_at_call 20; refine (write_own _ _ H6.out HA.out.2.1.good _).mono ?_; rintro x w7 ⟨rfl, h7⟩; obtain ⟨a1, a2, _⟩ := alive_write HA.out.2.1 (by omega) (I : Int) (by omega) (by omega) (secOf 2 bs) (secOf_len _ _); rw [a1]; rw [a2] at h7; have H7 : Hid (Sat e (HP.disk bb (late3 I I (secOf 1 a) (secOf 2 bs)) :: _) w7) := hide h7.swap; clear h7 H6 a1 a2)
        | (go_at_call 16; refine (read_gen H7.out HA.out.2.2.good.fine.ok _).mono ?_; rintro x w8 ⟨pb, pc, rfl, h8⟩; obtain ⟨a1, a2, _⟩ := alive_read HA.out.2.2 (I : Int) (by omega) (by omega); rw [a2, (HC.out []).1] at h8; rw [a1, a2, (HC.out []).1]; have H8 := hide h8.swap; clear h8 H7 a1 a2)
        | ((with_reducible refine wpList_build_sl rfl 32 1 _ rfl Try.underlying32 HI.out hz0 hz1 (by omega) (by omega) (by omega) [Value.int .u8 1] ?_ rfl (by simp [Value.cells]) H8.out ?_); exact rfl; intro g9 w9 h9; have h9' : Sat e (HP.row 5 1 (.slice (some ⟨g9, 0, none⟩) 1 1) 1 (([1] : List UInt8).map B8) :: _) w9 := h9; obtain ⟨e', hle, hpv, h9''⟩ := h9'.row_persist; have HE := hide hle; have HP' := hide hpv; have H9 := hide h9''; clear h9 h9' h9'' hle hpv H8)
        | (go_at_call 24; refine (crash_calls H9.out HA.out.2.2.good.fine _ [1] HP'.out).mono ?_; rintro x w10 ⟨rfl, h10⟩; have HA9 := hide (alive_crash HA.out.2.2 [1]); have H10 := hide h10; clear h10 H9)
        | (go_at_call 16; refine (read_gen H10.out HA9.out.good.fine.ok _).mono ?_; rintro x w11 ⟨qb, qc, rfl, h11⟩; obtain ⟨a1, a2, _⟩ := alive_read HA9.out (I : Int) (by omega) (by omega); rw [a2, HQ.out] at h11; rw [a1, a2, HQ.out]; have H11 := hide h11.swap; clear h11 H10 a1 a2)
        | (go_at_call 16; refine (read_gen H11.out HA9.out.good.fine.ok _).mono ?_; rintro x w12 ⟨rb, rc, rfl, h12⟩; obtain ⟨a1, a2, _⟩ := alive_read HA9.out (I : Int) (by omega) (by omega); rw [a2, HR.out] at h12; rw [a1, a2, HR.out]; have H12 := hide h12; clear h12 H11 a1 a2)
        | (at_make; (with_reducible refine wpList_make_sl rfl (.const (.int .i64 64)) (.const (.int .i64 64)) 32 rfl Try.underlying32 HI.out hz0 hz1 hz2 64 rfl rfl (by omega) (by omega) H12.out (by omega) (by unfold maxLen; omega) ?_); intro g13 w13 h13; rw [made_u8] at h13; have h13' := zs_row h13; have cz := run_conv_bytes (P := Try.prog) Try.underlying32 Try.underlying5 Try.underlying9 h13'.row_view; have cr := run_conv_bytes (P := Try.prog) Try.underlying32 Try.underlying5 Try.underlying9 h13'.drop.row_view; have cq := run_conv_bytes (P := Try.prog) Try.underlying32 Try.underlying5 Try.underlying9 h13'.drop.drop.drop.row_view; have cp := run_conv_bytes (P := Try.prog) Try.underlying32 Try.underlying5 Try.underlying9 h13'.drop.drop.drop.drop.row_view; have cy := run_conv_bytes (P := Try.prog) Try.underlying32 Try.underlying5 Try.underlying9 h13'.drop.drop.drop.drop.drop.row_view; have cx := run_conv_bytes (P := Try.prog) Try.underlying32 Try.underlying5 Try.underlying9 h13'.drop.drop.drop.drop.drop.drop.row_view; have H13 := hide h13'; clear h13 h13' H12))
      go_ret
      exact ⟨rfl, _, HE.out, H13.out.drop.drop.drop.drop.drop.drop.drop⟩
    · skip
      have HQ : Hid (((late3 I J (secOf 1 a) (secOf 2 bs)).crashed [1]).cur J = secOf 2 bs) := hide (by rw [(HC.out [1]).2.1]; simp [hb, hIJ])
      have HR : Hid (((late3 I J (secOf 1 a) (secOf 2 bs)).crashed [1]).cur I = secOf 1 a) := hide ((HC.out [1]).2.2 hIJ)
      have hIJ' : (I : Int) ≠ (J : Int) := by omega
      go_enter Try.func7, Try.ntmps7
      go_wp2_with (first
        | (go_at_call 12; refine (known_calls HS.out).mono ?_; rintro x w1 ⟨rfl, h1⟩; have H1 := hide h1; clear h1 HS)
        | (go_at_call 14; refine (new_good H1.out 10 (by omega) (by omega) (by omega)).mono ?_; rintro x w2 ⟨bb, rfl, h2⟩; have H2 := hide h2; clear h2 H1)
        | (go_at_call 13; refine (within_calls _ _ (by omega) (by omega) (by omega) (by omega)).mono ?_; rintro x w4 ⟨rfl, rfl⟩; (first | rw [hI] | rw [hJ]))
        | (go_at_call 19; refine (sector_calls H2.out 1 _ a HVA.out).mono ?_; rintro x w3 ⟨g3, rfl, h3⟩; have H3 := hide (sec_own h3); clear h3 H2)
        | (go_at_call 19; refine (sector_calls H3.out 2 _ bs HVB.out).mono ?_; rintro x w4 ⟨g4, rfl, h4⟩; have H4 := hide ((sec_own h4).rot3); clear h4 H3)
        | (go_at_call 20; refine (write_own _ _ H4.out (alive_fresh 10 (by omega)).good _).mono ?_; rintro x w5 ⟨rfl, h5⟩; obtain ⟨a1, a2, _⟩ := alive_write (alive_fresh 10 (by omega)) (by omega) (I : Int) (by omega) (by omega) (secOf 1 a) (secOf_len _ _); rw [a1]; rw [a2] at h5; have H5 : Hid (Sat e (HP.disk bb (late1 I (secOf 1 a)) :: _) w5) := hide h5.swap; clear h5 H4 a1 a2)
        | (go_at_call 22; refine (flush_gen H5.out HA.out.1.good).mono ?_; rintro x w6 ⟨rfl, h6⟩; obtain ⟨a1, a2, _⟩ := alive_flush HA.out.1 (by omega); rw [a1]; rw [a2] at h6; have H6 := hide h6.bring3; clear h6 H5 a1 a2)
        | (go_at_call 20; refine (write_own _ _ H6.out HA.out.2.1.good _).mono ?_; rintro x w7 ⟨rfl, h7⟩; obtain ⟨a1, a2, _⟩ := alive_write HA.out.2.1 (by omega) (J : Int) (by omega) (by omega) (secOf 2 bs) (secOf_len _ _); rw [a1]; rw [a2] at h7; have H7 : Hid (Sat e (HP.disk bb (late3 I J (secOf 1 a) (secOf 2 bs)) :: _) w7) := hide h7.swap; clear h7 H6 a1 a2)
        | (go_at_call 16; refine (read_gen H7.out HA.out.2.2.good.fine.ok _).mono ?_; rintro x w8 ⟨pb, pc, rfl, h8⟩; obtain ⟨a1, a2, _⟩ := alive_read HA.out.2.2 (J : Int) (by omega) (by omega); rw [a2, (HC.out []).1] at h8; rw [a1, a2, (HC.out []).1]; have H8 := hide h8.swap; clear h8 H7 a1 a2)
        | ((with_reducible refine wpList_build_sl rfl 32 1 _ rfl Try.underlying32 HI.out hz0 hz1 (by omega) (by omega) (by omega) [Value.int .u8 1] ?_ rfl (by simp [Value.cells]) H8.out ?_); exact rfl; intro g9 w9 h9; have h9' : Sat e (HP.row 5 1 (.slice (some ⟨g9, 0, none⟩) 1 1) 1 (([1] : List UInt8).map B8) :: _) w9 := h9; obtain ⟨e', hle, hpv, h9''⟩ := h9'.row_persist; have HE := hide hle; have HP' := hide hpv; have H9 := hide h9''; clear h9 h9' h9'' hle hpv H8)
        | (go_at_call 24; refine (crash_calls H9.out HA.out.2.2.good.fine _ [1] HP'.out).mono ?_; rintro x w10 ⟨rfl, h10⟩; have HA9 := hide (alive_crash HA.out.2.2 [1]); have H10 := hide h10; clear h10 H9)
        | (go_at_call 16; refine (read_gen H10.out HA9.out.good.fine.ok _).mono ?_; rintro x w11 ⟨qb, qc, rfl, h11⟩; obtain ⟨a1, a2, _⟩ := alive_read HA9.out (J : Int) (by omega) (by omega); rw [a2, HQ.out] at h11; rw [a1, a2, HQ.out]; have H11 := hide h11.swap; clear h11 H10 a1 a2)
        | (go_at_call 16; refine (read_gen H11.out HA9.out.good.fine.ok _).mono ?_; rintro x w12 ⟨rb, rc, rfl, h12⟩; obtain ⟨a1, a2, _⟩ := alive_read HA9.out (I : Int) (by omega) (by omega); rw [a2, HR.out] at h12; rw [a1, a2, HR.out]; have H12 := hide h12; clear h12 H11 a1 a2)
        | (at_make; (with_reducible refine wpList_make_sl rfl (.const (.int .i64 64)) (.const (.int .i64 64)) 32 rfl Try.underlying32 HI.out hz0 hz1 hz2 64 rfl rfl (by omega) (by omega) H12.out (by omega) (by unfold maxLen; omega) ?_); intro g13 w13 h13; rw [made_u8] at h13; have h13' := zs_row h13; have cz := run_conv_bytes (P := Try.prog) Try.underlying32 Try.underlying5 Try.underlying9 h13'.row_view; have cr := run_conv_bytes (P := Try.prog) Try.underlying32 Try.underlying5 Try.underlying9 h13'.drop.row_view; have cq := run_conv_bytes (P := Try.prog) Try.underlying32 Try.underlying5 Try.underlying9 h13'.drop.drop.drop.row_view; have cp := run_conv_bytes (P := Try.prog) Try.underlying32 Try.underlying5 Try.underlying9 h13'.drop.drop.drop.drop.row_view; have cy := run_conv_bytes (P := Try.prog) Try.underlying32 Try.underlying5 Try.underlying9 h13'.drop.drop.drop.drop.drop.row_view; have cx := run_conv_bytes (P := Try.prog) Try.underlying32 Try.underlying5 Try.underlying9 h13'.drop.drop.drop.drop.drop.drop.row_view; have H13 := hide h13'; clear h13 h13' H12))
      go_ret
      exact ⟨rfl, _, HE.out, H13.out.drop.drop.drop.drop.drop.drop.drop⟩
end Go.Proofs.Ytbeabedpmoalpaa
