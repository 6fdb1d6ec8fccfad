/-
  The law StoreAgain: the walk.
-/
import Derived.Test.YtcgnkloljfgiaaaGreatDoorYva
import Derived.Test.YtcgnkloljfgiaaaGreatDoorZh
namespace Go.Proofs.YtcgnkloljfgiaaaGreatDoor
open Go.RowKit Go.Maps Go.MapKept
variable {b : Env} {L : List HP} {w : World}
def AgainAt (b : Env) (L : List HP) (gd : Nat) (G : List (Str × Str)) (q : Nat) (i : Value) (wr : World) : Prop :=
  ∃ (k : Nat) (d : Dk) (K : Int) (l : LogR), k ≤ q ∧ i = .int .i64 k ∧ Hid (StoreI d 256 K l G ∧ 0 ≤ K ∧ K ≤ 600 + 300 * k ∧ l.gen ≤ 2 + k) ∧ St b (HP.disk gd d :: L) wr
set_option linter.unusedSimpArgs false in
set_option maxRecDepth 100000 in
set_option maxHeartbeats 4000000 in
theorem storeAgain_calls {vl vn : Value} {l : List (Str × Str)} {ns : List Int} (h : St b L w) (hsp : HP.spaces ∈ L) (hl : HP.sl pairE vl l ∈ L) (hm : HP.sl intE vn ns ∈ L) (hns : ∀ x ∈ ns, -9223372036854775808 ≤ x ∧ x ≤ 9223372036854775807) (n : Int) (hn1 : -9223372036854775808 ≤ n) (hn2 : n ≤ 9223372036854775807) :
    Calls Tryz.prog 8 #[vl, vn, .int .i64 n] w fun x w' => x = .returned (.bool true) ∧ St b L w' := by
  obtain ⟨M, hM⟩ : ∃ M, makeL l ns = M := ⟨_, rfl⟩
  obtain ⟨q, hq⟩ : ∃ q : Nat, n % 9 = (q : Int) := ⟨(n % 9).toNat, by omega⟩
  have hq9 : q ≤ 8 := by omega
  have hqI : (q : Int) ≤ 8 := by omega
  obtain ⟨hok, -⟩ := makeL_ok l ns
  have hmp := make_parts l ns
  rw [hM] at hok hmp
  obtain ⟨G, hG⟩ : ∃ G, canon M = G := ⟨_, rfl⟩
  have hGo : OkF G := by rw [← hG]; exact hok.okF
  have hsort : sortF M = G := by rw [sortF_canon hok.nd, hG]
  rw [hG] at hmp
  have hlen : M.length ≤ 8 := hok.len
  obtain ⟨d1, l1, k1, o1, o2, o3, o4, o5, o6⟩ := open_new 256 (by omega) (by omega)
  obtain ⟨d2, l2, k2, e1, e2, e3, e4, e5⟩ := commit_fit o3 (by omega) (by omega) hGo (by omega) (by omega)
  have hA := alive_fresh 256 (by omega)
  have H := hide h
  have HSP := hide hsp
  have HL := hide hl
  have HM := hide hm
  have HNS := hide hns
  have HQ := hide hq
  have HA := hide hA
  have HO := hide (And.intro o1 (And.intro o2 (And.intro o3 (And.intro o4 (And.intro o5 o6)))))
  have HMM := hide hM
  have HGG := hide hG
  have HOK := hide hok
  have HGO := hide hGo
  have HSO := hide hsort
  have HE := hide e1
  have HE2 : Hid (StoreI d2 256 k2 l2 G ∧ 0 ≤ k2 ∧ k2 ≤ 600 + 300 * ((0 : Nat) : Int) ∧ l2.gen ≤ 2 + 0) := hide ⟨e2, by omega, by omega, by omega⟩
  have HLEN := hide hlen
  have HMP := hide hmp
  have HPP := hide (show partsOf (setB (canon M)).length ≤ 255 by rw [hG]; omega)
  have HT0 : Hid (ReplayOf [] []) := hide (Or.inl ⟨rfl, rfl⟩)
  clear h hsp hl hm hns hA o1 o2 o3 o4 o5 o6 hM hG hok hGo hsort e1 e2 e3 e4 e5 hlen hmp hq
  go_enter Tryz.func8, Tryz.ntmps8
  go_wp2_with (first
    | (go_at_call 11; refine (known4_calls H.out HSP.out).mono ?_; rintro x w0 ⟨rfl, h0⟩; have H0 := hide h0; clear h0 H)
    | (go_at_call 22; refine (few_calls H0.out (Reads.of_sl HL.out)).mono ?_; rintro x w1 (⟨rfl, hw⟩ | ⟨rfl, hw⟩) <;> subst hw <;> have H1 := H0 <;> clear H0)
    | (go_at_call 16; refine (make_calls H1.out (Reads.of_sl HL.out) HM.out HNS.out).mono ?_; rintro x w2 ⟨ba, na, ca, rfl, hna, h2⟩; rw [HMM.out] at h2; have H2 := hide h2; clear h2 hna H1)
    | (go_at_call 21; refine (dnew_calls H2.out 256 (by omega) (by omega) (by omega)).mono ?_; rintro x w4 ⟨gd, rfl, h4⟩; have H4 := hide h4; clear h4 H2)
    | (go_at_call 15; refine (sopen_calls H4.out HA.out (by decide) HO.out.1 HT0.out okF_nil HO.out.2.1 (by decide) (by decide) (by decide) (up1 HSP.out)).mono ?_; rintro x w5 ⟨gs, rfl, gl, m, kv, hcan, h5⟩; have H5 := hide h5; have HC5 := hide hcan; clear h5 hcan H4)
    | (go_at_call 17; have hx3 := HC5.out; refine (scommit_calls (fl := M) H5.out (Reads.of_rows mem0) HOK.out (by rw [hx3]; exact HO.out.2.2.1) ⟨HO.out.2.2.2.1, by have := HO.out.2.2.2.2.1; omega⟩ (by omega) (by have := HO.out.2.2.2.2.2; omega) HPP.out (up1 HSP.out)).mono ?_; rintro x w6 ⟨rfl, m2, kv2, hcan, h6⟩; rw [hx3, HGG.out, HE.out] at h6 ⊢; have H6 := hide (h6.drop.drop.drop); clear h6 hcan H5 HC5 hx3))
  · go_ret
    exact ⟨rfl, H1.out⟩
  go_loopw [12] (fun i wr => AgainAt b (HP.rows 48 pairE (.slice ba na ca) M :: L) gd G q i wr) (fun i _ => q - (intOf i).toNat)
  case atStart => exact ⟨0, d2, k2, l2, by omega, rfl, HE2, H6.out⟩
  case round =>
    obtain ⟨k, d, K, lg, hk, rfl, HI, hs⟩ := hrel
    have H7 := hide hs
    clear hs H6
    by_cases hlt : k < q
    · have hlt' : (k : Int) < q := by omega
      obtain ⟨hI, hI1, hI2, hI3⟩ := HI.out
      obtain ⟨rows, d', l', K', r1, r2, r3, r4, r5, r6, r7⟩ := reopen_alive hI (by omega) (by omega) (by omega) (by have := HMP.out; omega)
      have hcmp : ¬ (K' ≤ K) := by omega
      have HOPS := hide hI.al.ops
      have HOPS2 := hide r4.al.ops
      have HR := hide (And.intro r1 (And.intro r2 r3))
      have HAL := hide hI.al
      have HLG := hide (show d.ops ≤ 100000000 ∧ lg.most + 1 ≤ 4294967295 ∧ lg.half ≤ 1 by
        obtain ⟨rs, hL, -⟩ := hI.rows
        rw [hI.al.ops, hL.mo]
        exact ⟨by omega, by omega, hL.hf⟩)
      have HN : Hid (StoreI d' 256 K' l' G ∧ 0 ≤ K' ∧ K' ≤ 600 + 300 * ((k + 1 : Nat) : Int) ∧ l'.gen ≤ 2 + (k + 1)) := hide ⟨r4, by omega, by omega, by omega⟩
      clear hI hI1 hI2 hI3 r1 r2 r3 r4 r5 r6 r7 HI
      go_wp2_with (first
        | (go_at_call 14; have hm9 := HQ.out; refine (within4_calls n 9 (by omega) (by omega) hn1 hn2).mono ?_; rintro x w8 ⟨rfl, hw8⟩; subst hw8; rw [hm9]; clear hm9)
        | (go_at_call 23; have h8 := H7.out; clear H7; refine (dops_calls h8).mono ?_; rintro x w9 ⟨rfl, hw9⟩; subst hw9; rw [HOPS.out]; have H8 := hide h8; clear h8)
        | (go_at_call 15; refine (sopen_calls H8.out HAL.out HLG.out.1 HR.out.1 (Or.inr HR.out.2.1) HGO.out HR.out.2.2 (by have := HMP.out; omega) HLG.out.2.1 HLG.out.2.2 (up1 HSP.out)).mono ?_; rintro x w9 ⟨gs9, rfl, gl9, m9, kv9, hcan, h9⟩; have H9 := hide h9.f1; have HC9 := hide hcan; clear h9 hcan H8)
        | (go_at_call 20; have hx5 := HC9.out; refine (files_calls H9.out mem0 (by rw [hx5]; exact HGO.out)).mono ?_; rintro x w10 ⟨bf, nf, cf, rfl, hnf, h10⟩; rw [hx5] at h10; have H10 := hide h10; clear h10 H9 hx5 hnf)
        | (go_at_call 18; refine (sorted4_calls H10.out (Reads.of_rows mem5) (by have := HLEN.out; omega)).mono ?_; rintro x w11 ⟨bs, nb, cb, rfl, hnb, h11⟩; rw [HSO.out] at h11; have H11 := hide h11; clear h11 hnb H10)
        | (go_at_call 19; refine (fsame_calls H11.out (Reads.of_rows mem1) (Reads.of_rows mem0)).mono ?_; rintro x w12 ⟨rfl, h12⟩; rw [decide_eq_true rfl]; have H12 := hide h12.drop.drop.drop.drop.drop; clear h12 H11)
        | (go_at_call 23; have h8 := H12.out; clear H12; refine (dops_calls h8).mono ?_; rintro x w9 ⟨rfl, hw9⟩; subst hw9; rw [HOPS2.out]; have H13 := hide h8; clear h8))
      go_roundw
      case rel => exact ⟨k + 1, d', K', l', by omega, by go_num, HN, H13.out⟩
      case measure => exact meas_step hlt
    · have hlt' : ¬ (k : Int) < q := by omega
      go_wp2_with (first
        | (go_at_call 14; have hm9 := HQ.out; refine (within4_calls n 9 (by omega) (by omega) hn1 hn2).mono ?_; rintro x w8 ⟨rfl, hw8⟩; subst hw8; rw [hm9]; clear hm9))
      go_ret
      exact ⟨rfl, H7.out.drop.drop⟩
end Go.Proofs.YtcgnkloljfgiaaaGreatDoor
