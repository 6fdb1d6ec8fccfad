/-
  The law StoreFull: the walk.
-/
import Derived.Test.YtcgnkloljfgiaaaGreatDoorZf
namespace Go.Proofs.YtcgnkloljfgiaaaGreatDoor
open Go.RowKit Go.Maps Go.MapKept
variable {b : Env} {L : List HP} {w : World} {gd : Nat} {d : Dk}
set_option linter.unusedSimpArgs false in
set_option maxRecDepth 100000 in
set_option maxHeartbeats 4000000 in
theorem storeFull_calls (h : St b L w) (hsp : HP.spaces ∈ L) (n s : Int) (hn1 : -9223372036854775808 ≤ n) (hn2 : n ≤ 9223372036854775807) (hs1 : -9223372036854775808 ≤ s) (hs2 : s ≤ 9223372036854775807) :
    Calls Tryz.prog 4 #[.int .i64 n, .int .i64 s] w fun x w' => x = .returned (.bool true) ∧ St b L w' := by
  obtain ⟨q, hq⟩ : ∃ q : Nat, s % 13 = (q : Int) := ⟨(s % 13).toNat, by omega⟩
  obtain ⟨r, hr⟩ : ∃ r : Nat, n % 7 = (r : Int) := ⟨(n % 7).toNat, by omega⟩
  have hqI : (q : Int) ≤ 12 := by omega
  have hrI : (r : Int) ≤ 6 := by omega
  have en : (8 : Int) + 2 * (q : Int) = ((8 + 2 * q : Nat) : Int) := by omega
  obtain ⟨d1, l1, k1, o1, o2, o3, o4, o5, o6⟩ := open_new (8 + 2 * q) (by omega) (by omega)
  have hA := alive_fresh (8 + 2 * q) (by omega)
  obtain ⟨Z, hZ⟩ : ∃ Z : Nat, (4 + q) * 52 - 12 + r = Z := ⟨_, rfl⟩
  have el : ((8 + 2 * (q : Int)) / 2 * 52 - 4 - 5 - 3 + (r : Int)) = (Z : Int) := by omega
  have hZ2 : Z ≤ 900 := by omega
  obtain ⟨t, ht⟩ : ∃ t, List.replicate Z (0 : UInt8) = t := ⟨_, rfl⟩
  have htl : t.length = Z := by rw [← ht, List.length_replicate]
  have hnm : Nm [97] := ⟨97, rfl, by decide, by decide⟩
  have hL1 := okL_one (s := [97]) (t := t) hnm (by omega)
  have hG : OkF [(([97] : Str), t)] := by have := hL1.okF; rw [canon_one] at this; exact this
  have hsb : (setB [(([97] : Str), t)]).length = 5 + Z := by rw [setB_len hG]; simp [tot, htl]
  have hpp : partsOf (setB (canon [(([97] : Str), t)])).length ≤ 255 := by rw [canon_one, hsb]; unfold partsOf; omega
  obtain ⟨c1, -, c3⟩ := commit_alive (G := [([97], t)]) o3 ⟨o4, by omega⟩ (by omega) hG (by omega)
  have H := hide h
  have HSP := hide hsp
  have HA := hide hA
  have HQ := hide hq
  have HRR := hide hr
  have HEN := hide en
  have HO := hide (And.intro o1 (And.intro o2 (And.intro o3 (And.intro o4 (And.intro o5 o6)))))
  have HT0 : Hid (ReplayOf [] []) := hide (Or.inl ⟨rfl, rfl⟩)
  have HEL := hide el
  have HT := hide ht
  have HTL := hide htl
  have HL1 := hide hL1
  have HG := hide hG
  have HPP := hide hpp
  have hu : UInt8 := 0
  clear h hsp hA o1 o2 o3 o4 o5 o6 hq hr en ht htl hL1 hG hpp el hnm hu
  by_cases hbig : 3 < r
  · have hcmp : ((8 + 2 * (q : Int)) / 2 * 52 - 4 - 5) < (8 + 2 * (q : Int)) / 2 * 52 - 4 - 5 - 3 + (r : Int) := by omega
    have HE := hide (c1 (by rw [hsb]; unfold partsOf; omega))
    clear c1 c3 hsb hZ
    go_enter Tryz.func4, Tryz.ntmps4
    go_wp2_with (first
      | (go_at_call 11; refine (known4_calls H.out HSP.out).mono ?_; rintro x w0 ⟨rfl, h0⟩; have H0 := hide h0; clear h0 H)
      | (go_at_call 14; have hm9 := HQ.out; refine (within4_calls s 13 (by omega) (by omega) hs1 hs2).mono ?_; rintro x w5 ⟨rfl, hw5⟩; subst hw5; rw [hm9]; clear hm9 HQ)
      | (go_at_call 21; refine (show Calls _ _ _ _ _ from HEN.out ▸ dnew_calls H0.out (8 + 2 * q) (by omega) (by omega) (by omega)).mono ?_; rintro x w1 ⟨gd, rfl, h1⟩; have H1 := hide h1; clear h1 H0)
      | (go_at_call 15; refine (sopen_calls H1.out HA.out (show (Dk.fresh0 (8 + 2 * q)).ops ≤ 100000000 from (by decide : (0 : Int) ≤ 100000000)) HO.out.1 HT0.out okF_nil HO.out.2.1 (by decide) (by decide) (by decide) HSP.out).mono ?_; rintro x w2 ⟨gs, rfl, gl, m, kv, hcan, h2⟩; have H2 := hide h2; have HC2 := hide hcan; clear h2 hcan H1)
      | (go_at_call 14; have hm9 := HRR.out; refine (within4_calls n 7 (by omega) (by omega) hn1 hn2).mono ?_; rintro x w5 ⟨rfl, hw5⟩; subst hw5; rw [hm9]; clear hm9 HRR)
      | ((refine wpList_make_st (E := byteE) (T := 5) rfl (.tmp 52) (.tmp 52) slByte rfl rfl Z rfl rfl HEL.out HEL.out (0 : UInt8) (fun _ => ⟨rfl, trivial⟩) H2.out (by omega) (by unfold maxLen; omega) ?_); intro g3 w3 h3; rw [HT.out] at h3; have cv3 := conv_str h3 (Reads.of_rows mem0); have H3 := hide h3.drop; clear h3 H2)
      | (go_at_call 17; have hx3 := HC2.out; have h4 : St b (HP.store gs gl m :: HP.fmap m kv :: HP.log gl gd l1 :: HP.disk gd d1 :: HP.rows 48 pairE (.slice (some ⟨w3.heap.size, 0, none⟩) 1 1) [([97], t)] :: L) _ := (H3.out.file1 (T := 48) (s := [97]) (t := t) (by unfold okStr; decide) (by unfold okStr maxLen; rw [HTL.out]; omega)).pick [1, 2, 3, 4, 0] 5 (by decide) (by decide) (by simp); refine (scommit_calls (fl := [([97], t)]) h4 (Reads.of_rows mem0) HL1.out (by rw [hx3]; exact HO.out.2.2.1) ⟨HO.out.2.2.2.1, by have := HO.out.2.2.2.2.1; omega⟩ (by omega) (by have := HO.out.2.2.2.2.2; omega) HPP.out (up1 HSP.out)).mono ?_; rintro x w5 ⟨rfl, m2, kv2, hcan, h5⟩; rw [hx3, canon_one, HE.out] at hcan h5 ⊢; have H5 := hide h5.f1; have HC5 := hide hcan; clear h4 h5 hcan H3 HC2 hx3)
      | (go_at_call 20; have hx5 := HC5.out; refine (files_calls H5.out mem0 (by rw [hx5]; exact okF_nil)).mono ?_; rintro x w6 ⟨bf, nf, cf, rfl, hnf, h6⟩; rw [hx5] at hnf; simp only [List.length_cons, List.length_nil, Nat.zero_add] at hnf; subst hnf; have H6 := hide h6; clear h6 H5 hx5))
    go_ret
    exact ⟨rfl, H6.out.drop.drop.drop.drop.drop.drop⟩
  · have hcmp : ¬ ((8 + 2 * (q : Int)) / 2 * 52 - 4 - 5) < (8 + 2 * (q : Int)) / 2 * 52 - 4 - 5 - 3 + (r : Int) := by omega
    obtain ⟨d2, l2, k2, e1, -, -⟩ := c3 (by rw [hsb]; unfold partsOf; omega) (by intro e; cases e)
    have HE := hide e1
    clear c1 c3 hsb hZ e1
    go_enter Tryz.func4, Tryz.ntmps4
    go_wp2_with (first
      | (go_at_call 11; refine (known4_calls H.out HSP.out).mono ?_; rintro x w0 ⟨rfl, h0⟩; have H0 := hide h0; clear h0 H)
      | (go_at_call 14; have hm9 := HQ.out; refine (within4_calls s 13 (by omega) (by omega) hs1 hs2).mono ?_; rintro x w5 ⟨rfl, hw5⟩; subst hw5; rw [hm9]; clear hm9 HQ)
      | (go_at_call 21; refine (show Calls _ _ _ _ _ from HEN.out ▸ dnew_calls H0.out (8 + 2 * q) (by omega) (by omega) (by omega)).mono ?_; rintro x w1 ⟨gd, rfl, h1⟩; have H1 := hide h1; clear h1 H0)
      | (go_at_call 15; refine (sopen_calls H1.out HA.out (show (Dk.fresh0 (8 + 2 * q)).ops ≤ 100000000 from (by decide : (0 : Int) ≤ 100000000)) HO.out.1 HT0.out okF_nil HO.out.2.1 (by decide) (by decide) (by decide) HSP.out).mono ?_; rintro x w2 ⟨gs, rfl, gl, m, kv, hcan, h2⟩; have H2 := hide h2; have HC2 := hide hcan; clear h2 hcan H1)
      | (go_at_call 14; have hm9 := HRR.out; refine (within4_calls n 7 (by omega) (by omega) hn1 hn2).mono ?_; rintro x w5 ⟨rfl, hw5⟩; subst hw5; rw [hm9]; clear hm9 HRR)
      | ((refine wpList_make_st (E := byteE) (T := 5) rfl (.tmp 52) (.tmp 52) slByte rfl rfl Z rfl rfl HEL.out HEL.out (0 : UInt8) (fun _ => ⟨rfl, trivial⟩) H2.out (by omega) (by unfold maxLen; omega) ?_); intro g3 w3 h3; rw [HT.out] at h3; have cv3 := conv_str h3 (Reads.of_rows mem0); have H3 := hide h3.drop; clear h3 H2)
      | (go_at_call 17; have hx3 := HC2.out; have h4 : St b (HP.store gs gl m :: HP.fmap m kv :: HP.log gl gd l1 :: HP.disk gd d1 :: HP.rows 48 pairE (.slice (some ⟨w3.heap.size, 0, none⟩) 1 1) [([97], t)] :: L) _ := (H3.out.file1 (T := 48) (s := [97]) (t := t) (by unfold okStr; decide) (by unfold okStr maxLen; rw [HTL.out]; omega)).pick [1, 2, 3, 4, 0] 5 (by decide) (by decide) (by simp); refine (scommit_calls (fl := [([97], t)]) h4 (Reads.of_rows mem0) HL1.out (by rw [hx3]; exact HO.out.2.2.1) ⟨HO.out.2.2.2.1, by have := HO.out.2.2.2.2.1; omega⟩ (by omega) (by have := HO.out.2.2.2.2.2; omega) HPP.out (up1 HSP.out)).mono ?_; rintro x w5 ⟨rfl, m2, kv2, hcan, h5⟩; rw [hx3, canon_one, HE.out] at hcan h5 ⊢; have H5 := hide h5.f1; have HC5 := hide hcan; clear h4 h5 hcan H3 HC2 hx3)
      | (go_at_call 20; have hx5 := HC5.out; refine (files_calls H5.out mem0 (by rw [hx5]; exact HG.out)).mono ?_; rintro x w6 ⟨bf, nf, cf, rfl, hnf, h6⟩; rw [hx5] at hnf; simp only [List.length_cons, List.length_nil, Nat.zero_add] at hnf; subst hnf; have H6 := hide h6; clear h6 H5 hx5))
    go_ret
    exact ⟨rfl, H6.out.drop.drop.drop.drop.drop.drop⟩
end Go.Proofs.YtcgnkloljfgiaaaGreatDoor
