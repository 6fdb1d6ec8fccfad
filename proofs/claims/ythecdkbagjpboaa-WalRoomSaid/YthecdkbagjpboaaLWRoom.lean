/-
  The law WalRoom: the walk.
-/
import Derived.Test.YthecdkbagjpboaaWu
namespace Go.Proofs.Ythecdkbagjpboaa
open Go.RowKit Go.Maps Go.MapKept
variable {b : Env} {L : List HP} {w : World} {gd : Nat} {d : Dk}
set_option linter.unusedSimpArgs false in
set_option maxRecDepth 100000 in
set_option maxHeartbeats 4000000 in
theorem walRoom_calls (h : St b L w) (s n : Int) (hs1 : -9223372036854775808 ≤ s) (hs2 : s ≤ 9223372036854775807) (hn1 : -9223372036854775808 ≤ n) (hn2 : n ≤ 9223372036854775807) :
    Calls Try.prog 5 #[.int .i64 s, .int .i64 n] w fun x w' => x = .returned (.bool true) ∧ St b L w' := by
  obtain ⟨m, hm⟩ : ∃ m : Nat, s % 13 = (m : Int) := ⟨(s % 13).toNat, by omega⟩
  obtain ⟨j, hj⟩ : ∃ j : Nat, n % 7 = (j : Int) := ⟨(n % 7).toNat, by omega⟩
  have hm2 : m ≤ 12 := by omega
  have hj2 : (j : Int) ≤ 6 := by omega
  obtain ⟨N, hN⟩ : ∃ N : Nat, 8 + 2 * (m : Int) = (N : Int) := ⟨8 + 2 * m, by omega⟩
  have hN8 : (8 : Int) ≤ N := by omega
  have hN2 : (N : Int) ≤ 32 := by omega
  have hev : N % 2 = 0 := by omega
  have hm3 : (m : Int) ≤ 12 := by omega
  obtain ⟨Z, hZ⟩ : ∃ Z : Nat, Z = N / 2 * 52 - 7 + j := ⟨_, rfl⟩
  have hZI : (Z : Int) = (N : Int) / 2 * 52 - 4 - 3 + j := by omega
  have hA := alive_fresh N (by omega)
  have hmx : (Z : Int) ≤ 9223372036854775807 := by omega
  have hpz : partsOf (List.replicate Z (0 : UInt8)).length ≤ 255 := by rw [List.length_replicate]; unfold partsOf; omega
  have H := hide h
  have HM := hide hm
  have HJ := hide hj
  have HN := hide hN
  have HA := hide hA
  have HZ := hide hZ
  have HZI := hide hZI
  have HP := hide hpz
  clear h hm hj hN hA hZ hpz hZI
  by_cases hfit : j ≤ 3
  · have hle : ((N : Int) / 2 * 52 - 4 - 3 + j ≤ (N : Int) / 2 * 52 - 4) := by omega
    have hpq : partsOf (List.replicate Z (0 : UInt8)).length = N / 2 := by rw [List.length_replicate]; have := HZ.out; unfold partsOf; omega
    have HFI : Hid (decide (partsOf (List.replicate Z (0 : UInt8)).length ≤ (Dk.fresh0 N).last.length / 2) = true) := hide (by rw [hpq, show (Dk.fresh0 N).last.length = N from by simp [Dk.fresh0]]; exact decide_eq_true (by omega))
    obtain ⟨d', e1, e2, e3⟩ := fresh_alive (l := ⟨0, 0, 0, 0, 0⟩) (t := List.replicate Z (0 : UInt8)) HA.out (by omega) (by omega) (by rw [tab_fresh0]; intro i p hp; cases hp) (by decide) (by decide) (by omega)
    simp only [Nat.lt_irrefl, if_false] at e1 e3
    rw [hpq] at e1 e2 e3
    have a1 := (append_alive (t := []) e2 (by omega) (by omega) e3 (show 0 + 1 ≤ 4294967295 by decide) (show 1 ≤ 65535 by decide) (show partsOf 0 ≤ 255 by decide)).2 (show N / 2 < N / 2 + partsOf 0 by rw [show partsOf 0 = 1 from by decide]; omega)
    have HOPS : Hid (d'.ops = (N : Int) / 2 + 1) := hide (by rw [e2.ops]; omega)
    have HG := hide (And.intro e2.good (And.intro (show d'.ops ≤ 100000000 by rw [e2.ops]; omega) (show N / 2 ≤ d'.last.length / 2 by rw [e2.len]; exact Nat.le_refl _)))
    have E1 := hide e1
    have A1 := hide a1
    clear e1 e2 e3 a1 hpq
    go_enter Try.func5, Try.ntmps5
    go_wp2_with (first
      | (go_at_call 10; refine (known3_calls H.out).mono ?_; rintro x w1 ⟨rfl, h1⟩; have H1 := hide h1; clear h1 H)
      | (go_at_call 13; have hm9 := HM.out; refine (within3_calls s 13 (by omega) (by omega) hs1 hs2).mono ?_; rintro x w5 ⟨rfl, hw5⟩; subst hw5; rw [hm9]; clear hm9 HM)
      | (go_at_call 19; rw [HN.out]; refine (dnew_calls H1.out N (by omega) (by omega) hev).mono ?_; rintro x w2 ⟨gd, rfl, h2⟩; have H2 := hide h2; clear h2 H1 HN)
      | (go_at_call 12; refine (wopen_calls H2.out HA.out).mono ?_; rintro x w3 ⟨gl, b0, c0, rfl, h3⟩; rw [open_fresh0] at h3; rw [open_fresh0]; have H3 := hide h3.d2; clear h3 H2)
      | (go_at_call 13; have hm9 := HJ.out; refine (within3_calls n 7 (by omega) (by omega) hn1 hn2).mono ?_; rintro x w5 ⟨rfl, hw5⟩; subst hw5; rw [hm9]; clear hm9 HJ)
      | (refine wpList_make_st (E := byteE) (T := 5) rfl (.tmp 51) (.tmp 51) slByte rfl rfl Z rfl rfl ?_ ?_ (0 : UInt8) (fun _ => ⟨rfl, trivial⟩) H3.out ?_ ?_ ?_; (rw [HZI.out]); (rw [HZI.out]); (have := HZI.out; omega); (unfold maxLen; omega); intro g4 w4 h4; have H4 := hide h4.persist.b2; clear h4 H3)
      | (go_at_call 20; refine (fits_calls (l := ⟨0, 0, 0, 0, 0⟩) H4.out mem0 HA.out.good.fine.ok.most HP.out).mono ?_; rintro x w5 ⟨rfl, h5⟩; rw [HFI.out]; have H5 := hide h5; clear h5 H4)
      | (go_at_call 14; refine (fresh_calls (l := ⟨0, 0, 0, 0, 0⟩) (t := List.replicate Z (0 : UInt8)) H5.out mem0 HA.out.good (show (Dk.fresh0 N).ops ≤ 100000000 from (by decide : (0 : Int) ≤ 100000000)) HP.out (by decide) (by decide)).mono ?_; rintro x w7 ⟨rfl, h7⟩; rw [E1.out] at h7; rw [E1.out]; have H7 := hide (h7.sl_nil byteE).b2; clear h7 H5)
      | (go_at_call 17; refine (append_calls (l := ⟨0 + 1, 0, N / 2, 1, 0 + 1⟩) (t := []) H7.out mem0 HG.out.1 HG.out.2.1 (show partsOf 0 ≤ 255 by decide) (show 0 + 1 ≤ 4294967295 by decide) (show 0 ≤ 1 by decide) (show 1 ≤ 65535 by decide) HG.out.2.2).mono ?_; rintro x w8 ⟨rfl, h8⟩; rw [A1.out] at h8; rw [A1.out]; have H8 := hide h8; clear h8 H7)
      | (go_at_call 16; refine (dops_calls H8.out.drop).mono ?_; rintro x w9 ⟨rfl, hw9⟩; subst hw9; rw [HOPS.out]))
    go_ret
    exact ⟨rfl, H8.out.drop.drop.drop.drop⟩
  · have hle : ¬ ((N : Int) / 2 * 52 - 4 - 3 + j ≤ (N : Int) / 2 * 52 - 4) := by omega
    have hlt : ((N : Int) / 2 * 52 - 4 < (N : Int) / 2 * 52 - 4 - 3 + j) := by omega
    have hpq : (Dk.fresh0 N).last.length / 2 < partsOf (List.replicate Z (0 : UInt8)).length := by rw [List.length_replicate, show (Dk.fresh0 N).last.length = N from by simp [Dk.fresh0]]; have := HZ.out; unfold partsOf; omega
    have HFI : Hid (decide (partsOf (List.replicate Z (0 : UInt8)).length ≤ (Dk.fresh0 N).last.length / 2) = false) := hide (decide_eq_false (by omega))
    have E1 : Hid (freshD (Dk.fresh0 N) ⟨0, 0, 0, 0, 0⟩ (List.replicate Z (0 : UInt8)) = (4, Dk.fresh0 N, ⟨0, 0, 0, 0, 0⟩)) := hide (by unfold freshD; rw [if_pos hpq])
    have HOPS : Hid ((Dk.fresh0 N).ops = 0) := hide rfl
    clear hpq
    go_enter Try.func5, Try.ntmps5
    go_wp2_with (first
      | (go_at_call 10; refine (known3_calls H.out).mono ?_; rintro x w1 ⟨rfl, h1⟩; have H1 := hide h1; clear h1 H)
      | (go_at_call 13; have hm9 := HM.out; refine (within3_calls s 13 (by omega) (by omega) hs1 hs2).mono ?_; rintro x w5 ⟨rfl, hw5⟩; subst hw5; rw [hm9]; clear hm9 HM)
      | (go_at_call 19; rw [HN.out]; refine (dnew_calls H1.out N (by omega) (by omega) hev).mono ?_; rintro x w2 ⟨gd, rfl, h2⟩; have H2 := hide h2; clear h2 H1 HN)
      | (go_at_call 12; refine (wopen_calls H2.out HA.out).mono ?_; rintro x w3 ⟨gl, b0, c0, rfl, h3⟩; rw [open_fresh0] at h3; rw [open_fresh0]; have H3 := hide h3.d2; clear h3 H2)
      | (go_at_call 13; have hm9 := HJ.out; refine (within3_calls n 7 (by omega) (by omega) hn1 hn2).mono ?_; rintro x w5 ⟨rfl, hw5⟩; subst hw5; rw [hm9]; clear hm9 HJ)
      | (refine wpList_make_st (E := byteE) (T := 5) rfl (.tmp 51) (.tmp 51) slByte rfl rfl Z rfl rfl ?_ ?_ (0 : UInt8) (fun _ => ⟨rfl, trivial⟩) H3.out ?_ ?_ ?_; (rw [HZI.out]); (rw [HZI.out]); (have := HZI.out; omega); (unfold maxLen; omega); intro g4 w4 h4; have H4 := hide h4.persist.b2; clear h4 H3)
      | (go_at_call 20; refine (fits_calls (l := ⟨0, 0, 0, 0, 0⟩) H4.out mem0 HA.out.good.fine.ok.most HP.out).mono ?_; rintro x w5 ⟨rfl, h5⟩; rw [HFI.out]; have H5 := hide h5; clear h5 H4)
      | (go_at_call 14; refine (fresh_calls (l := ⟨0, 0, 0, 0, 0⟩) (t := List.replicate Z (0 : UInt8)) H5.out mem0 HA.out.good (show (Dk.fresh0 N).ops ≤ 100000000 from (by decide : (0 : Int) ≤ 100000000)) HP.out (by decide) (by decide)).mono ?_; rintro x w7 ⟨rfl, h7⟩; rw [E1.out] at h7; rw [E1.out]; have H8 := hide h7; clear h7 H5)
      | (go_at_call 16; refine (dops_calls H8.out.drop).mono ?_; rintro x w9 ⟨rfl, hw9⟩; subst hw9; rw [HOPS.out]))
    go_ret
    exact ⟨rfl, H8.out.drop.drop.drop⟩
end Go.Proofs.Ythecdkbagjpboaa
