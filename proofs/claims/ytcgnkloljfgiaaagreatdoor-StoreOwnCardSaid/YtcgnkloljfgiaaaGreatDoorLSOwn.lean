/-
  The law StoreOwn: the walk.
-/
import Derived.Test.YtcgnkloljfgiaaaGreatDoorYva
import Derived.Test.YtcgnkloljfgiaaaGreatDoorZh
namespace Go.Proofs.YtcgnkloljfgiaaaGreatDoor
open Go.RowKit Go.Maps Go.MapKept
variable {b : Env} {L : List HP} {w : World}
def OwnAt (b : Env) (L : List HP) (v : Value) (n : Nat) (i : Value) (wr : World) : Prop :=
  ∃ (k : Nat) (X : List (Str × Str)), k ≤ n ∧ Hid (X.length = n) ∧ i = .int .i64 k ∧ St b (HP.rows 48 pairE v X :: L) wr
set_option linter.unusedSimpArgs false in
set_option maxRecDepth 100000 in
set_option maxHeartbeats 4000000 in
theorem storeOwn_calls {vl vn : Value} {l : List (Str × Str)} {ns : List Int} (h : St b L w) (hsp : HP.spaces ∈ L) (hl : HP.sl pairE vl l ∈ L) (hm : HP.sl intE vn ns ∈ L) (hns : ∀ x ∈ ns, -9223372036854775808 ≤ x ∧ x ≤ 9223372036854775807) :
    Calls Tryz.prog 5 #[vl, vn] w fun x w' => x = .returned (.bool true) ∧ St b L w' := by
  obtain ⟨M, hM⟩ : ∃ M, makeL l ns = M := ⟨_, rfl⟩
  obtain ⟨hok, -⟩ := makeL_ok l ns
  have hmp := make_parts l ns
  rw [hM] at hok hmp
  obtain ⟨G, hG⟩ : ∃ G, canon M = G := ⟨_, rfl⟩
  have hGo : OkF G := by rw [← hG]; exact hok.okF
  have hsort : sortF M = G := by rw [sortF_canon hok.nd, hG]
  rw [hG] at hmp
  have hlen : M.length ≤ 8 := hok.len
  obtain ⟨d1, l1, k1, o1, o2, o3, o4, o5, o6⟩ := open_new 256 (by omega) (by omega)
  obtain ⟨d2, l2, k2, e1, -, -, -, -⟩ := commit_fit o3 (by omega) (by omega) hGo (by omega) (by omega)
  have hA := alive_fresh 256 (by omega)
  have H := hide h
  have HSP := hide hsp
  have HL := hide hl
  have HM := hide hm
  have HNS := hide hns
  have HA := hide hA
  have HO := hide (And.intro o1 (And.intro o2 (And.intro o3 (And.intro o4 (And.intro o5 o6)))))
  have HMM := hide hM
  have HGG := hide hG
  have HOK := hide hok
  have HGO := hide hGo
  have HSO := hide hsort
  have HE := hide e1
  have HLEN := hide hlen
  have HPP := hide (show partsOf (setB (canon M)).length ≤ 255 by rw [hG]; omega)
  have HT0 : Hid (ReplayOf [] []) := hide (Or.inl ⟨rfl, rfl⟩)
  clear h hsp hl hm hns hA o1 o2 o3 o4 o5 o6 hM hG hok hGo hsort e1 hlen hmp
  go_enter Tryz.func5, Tryz.ntmps5
  go_wp2_with (first
    | (go_at_call 11; refine (known4_calls H.out HSP.out).mono ?_; rintro x w0 ⟨rfl, h0⟩; have H0 := hide h0; clear h0 H)
    | (go_at_call 22; refine (few_calls H0.out (Reads.of_sl HL.out)).mono ?_; rintro x w1 (⟨rfl, hw⟩ | ⟨rfl, hw⟩) <;> subst hw <;> have H1 := H0 <;> clear H0)
    | (go_at_call 16; refine (make_calls H1.out (Reads.of_sl HL.out) HM.out HNS.out).mono ?_; rintro x w2 ⟨ba, na, ca, rfl, hna, h2⟩; rw [HMM.out] at h2 hna; have H2 := hide h2; have HNA := hide hna; clear h2 hna H1)
    | (go_at_call 18; refine (sorted4_calls H2.out (Reads.of_rows mem0) (by have := HLEN.out; omega)).mono ?_; rintro x w3 ⟨bs, nb, cb, rfl, hnb, h3⟩; rw [HSO.out] at h3 hnb; have H3 := hide h3; have HNB := hide hnb; clear h3 hnb H2)
    | (go_at_call 21; refine (dnew_calls H3.out 256 (by omega) (by omega) (by omega)).mono ?_; rintro x w4 ⟨gd, rfl, h4⟩; have H4 := hide h4; clear h4 H3)
    | (go_at_call 15; refine (sopen_calls H4.out HA.out (by decide) HO.out.1 HT0.out okF_nil HO.out.2.1 (by decide) (by decide) (by decide) (up2 HSP.out)).mono ?_; rintro x w5 ⟨gs, rfl, gl, m, kv, hcan, h5⟩; have H5 := hide h5; have HC5 := hide hcan; clear h5 hcan H4)
    | (go_at_call 17; have hx3 := HC5.out; refine (scommit_calls (fl := M) H5.out (Reads.of_rows mem1) HOK.out (by rw [hx3]; exact HO.out.2.2.1) ⟨HO.out.2.2.2.1, by have := HO.out.2.2.2.2.1; omega⟩ (by omega) (by have := HO.out.2.2.2.2.2; omega) HPP.out (up2 HSP.out)).mono ?_; rintro x w6 ⟨rfl, m2, kv2, hcan, h6⟩; rw [hx3, HGG.out, HE.out] at hcan h6 ⊢; have H6 := hide (h6.pick [5, 0, 1, 2, 3, 4] 6 (by decide) (by decide) (by simp)); have HC6 := hide hcan; clear h6 hcan H5 HC5 hx3))
  · go_ret
    exact ⟨rfl, H1.out⟩
  have hnI : (na : Int) ≤ 8 := by have := HNA.out; have := HLEN.out; omega
  go_loopw [11] (fun i wr => OwnAt b (HP.store gs gl m2 :: HP.fmap m2 kv2 :: HP.log gl gd l2 :: HP.disk gd d2 :: HP.rows 48 pairE (.slice bs nb cb) G :: L) (.slice ba na ca) na i wr) (fun i _ => na - (intOf i).toNat)
  case atStart => exact ⟨0, M, by omega, hide HNA.out.symm, rfl, H6.out⟩
  case round =>
    obtain ⟨k, X, hk, hX, rfl, hs⟩ := hrel
    have H7 := hide hs
    clear hs H6
    by_cases hlt : k < na
    · have hlt' : (k : Int) < na := by omega
      obtain ⟨ga, rfl⟩ := H7.out.rows_base mem0 (by rw [hX.out]; omega)
      go_wp2_with (first
        | (refine wpList_storeE_st (E := pairE) (cs := [sv [122, 122], sv []]) rfl 48 (.tmp 52) (.tmp 51) rfl k szFileC rfl rfl rfl H7.out (by rw [hX.out]; exact hlt) (x' := ([122, 122], [])) (fun _ _ _ => ⟨rfl, by unfold okStr; decide, by unfold okStr; decide⟩) ?_; intro w8 h8; have H8 := hide h8; clear h8 H7))
      go_roundw
      case rel => exact ⟨k + 1, X.set k ([122, 122], []), by omega, hide (by rw [List.length_set, hX.out]), by go_num, H8.out⟩
      case measure => exact meas_step hlt
    · have hlt' : ¬ (k : Int) < na := by omega
      go_wp2_with (first
        | (go_at_call 20; have hx5 := HC6.out; refine (files_calls H7.out.drop.f1 mem0 (by rw [hx5]; exact HGO.out)).mono ?_; rintro x w8 ⟨bf, nf, cf, rfl, hnf, h8⟩; rw [hx5] at hnf h8; have H8 := hide h8; have HNF := hide hnf; clear h8 H7 hx5 hnf)
        | (go_at_call 19; refine (fsame_calls H8.out (Reads.of_rows mem0) (Reads.of_rows mem5)).mono ?_; rintro x w9 ⟨rfl, h9⟩; rw [decide_eq_true rfl]; have H9 := hide h9; clear h9 H8))
      have hfI : (nf : Int) ≤ 8 := by have := HNF.out; have := HGO.out.len; omega
      go_loopw [13] (fun i wr => OwnAt b (HP.fmap m2 kv2 :: HP.store gs gl m2 :: HP.log gl gd l2 :: HP.disk gd d2 :: HP.rows 48 pairE (.slice bs nb cb) G :: L) (.slice bf nf cf) nf i wr) (fun i _ => nf - (intOf i).toNat)
      case atStart => exact ⟨0, G, by omega, hide HNF.out.symm, rfl, H9.out⟩
      case round =>
        obtain ⟨j, Y, hj, hY, rfl, hs⟩ := hrel
        have H10 := hide hs
        clear hs H9
        by_cases hlt2 : j < nf
        · have hlt3 : (j : Int) < nf := by omega
          obtain ⟨gf, rfl⟩ := H10.out.rows_base mem0 (by rw [hY.out]; omega)
          go_wp2_with (first
            | (refine wpList_storeE_st (E := pairE) (cs := [sv [121, 121], sv []]) rfl 48 (.tmp 68) (.tmp 67) rfl j szFileC rfl rfl rfl H10.out (by rw [hY.out]; exact hlt2) (x' := ([121, 121], [])) (fun _ _ _ => ⟨rfl, by unfold okStr; decide, by unfold okStr; decide⟩) ?_; intro w11 h11; have H11 := hide h11; clear h11 H10))
          go_roundw
          case rel => exact ⟨j + 1, Y.set j ([121, 121], []), by omega, hide (by rw [List.length_set, hY.out]), by go_num, H11.out⟩
          case measure => exact meas_step hlt2
        · have hlt3 : ¬ (j : Int) < nf := by omega
          go_wp2_with (first
            | (go_at_call 20; have hx5 := HC6.out; refine (files_calls H10.out.drop mem0 (by rw [hx5]; exact HGO.out)).mono ?_; rintro x w12 ⟨bf2, nf2, cf2, rfl, hnf2, h12⟩; rw [hx5] at hnf2 h12; have H12 := hide h12; clear h12 H10 hx5 hnf2)
            | (go_at_call 19; refine (fsame_calls H12.out (Reads.of_rows mem0) (Reads.of_rows mem5)).mono ?_; rintro x w13 ⟨rfl, h13⟩; rw [decide_eq_true rfl]; have H13 := hide h13; clear h13 H12))
          go_ret
          exact ⟨rfl, H13.out.drop.drop.drop.drop.drop.drop⟩
end Go.Proofs.YtcgnkloljfgiaaaGreatDoor
