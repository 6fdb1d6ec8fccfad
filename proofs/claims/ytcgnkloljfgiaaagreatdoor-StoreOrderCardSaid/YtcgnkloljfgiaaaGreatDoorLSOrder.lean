/-
  The law StoreOrder: the walk.
-/
import Derived.Test.YtcgnkloljfgiaaaGreatDoorYva
import Derived.Test.YtcgnkloljfgiaaaGreatDoorZh
namespace Go.Proofs.YtcgnkloljfgiaaaGreatDoor
open Go.RowKit Go.Maps Go.MapKept
variable {b : Env} {L : List HP} {w : World}
theorem few0_calls : Calls Tryz.prog 25 #[.slice none 0 0] w fun x w' => x = .returned (.bool true) ∧ w' = w := by
  go_enter Tryz.func25, Tryz.ntmps25
  go_wp2_with fail
  go_loopw [3] (fun i wr => i = .int .i64 0 ∧ wr = w) (fun _ _ => 0)
  case atStart => exact ⟨rfl, rfl⟩
  case round =>
    obtain ⟨rfl, rfl⟩ := hrel
    go_wp2
    go_ret
    exact ⟨rfl, rfl⟩
/-- A row, turned. -/
def turnN (M : List (Str × Str)) (r k : Nat) : List (Str × Str) := ((M ++ M).drop r).take k
theorem turn_step {M : List (Str × Str)} {r k : Nat} (hr : r < M.length) (hk : k < M.length) : ∃ (j : Nat) (h : j < M.length), ((k : Int) + (r : Int)).tmod (M.length : Int) = (j : Int) ∧ turnN M r (k + 1) = turnN M r k ++ [M[j]] := by
  have hm : ((k : Int) + (r : Int)).tmod (M.length : Int) = (((k + r) % M.length : Nat) : Int) := by
    rw [Int.tmod_eq_emod_of_nonneg (by omega)]; norm_cast
  have hl : r + k < (M ++ M).length := by rw [List.length_append]; omega
  refine ⟨(k + r) % M.length, Nat.mod_lt _ (by omega), hm, ?_⟩
  unfold turnN
  have hkd : k < ((M ++ M).drop r).length := by rw [List.length_drop]; omega
  rw [← List.take_append_getElem hkd]
  congr 2
  rw [List.getElem_drop]
  by_cases hw : r + k < M.length
  · rw [List.getElem_append_left hw]
    congr 1
    rw [Nat.mod_eq_of_lt (by omega)]; omega
  · rw [List.getElem_append_right (by omega)]
    congr 1
    rw [show k + r = (r + k - M.length) + M.length by omega, Nat.add_mod_right, Nat.mod_eq_of_lt (by omega)]
theorem turn_perm {M : List (Str × Str)} {r : Nat} (hr : r ≤ M.length) : (turnN M r M.length).Perm M := by
  unfold turnN
  rw [List.drop_append_of_le_length hr, List.take_append, List.take_of_length_le (by rw [List.length_drop]; omega), List.length_drop]
  rw [show M.length - (M.length - r) = r by omega]
  refine List.perm_append_comm.trans ?_
  rw [List.take_append_drop]
theorem turn_len {M : List (Str × Str)} {r k : Nat} (hr : r ≤ M.length) (hk : k ≤ M.length) : (turnN M r k).length = k := by
  unfold turnN; rw [List.length_take, List.length_drop, List.length_append]; omega
theorem OkL.perm {l m : List (Str × Str)} (h : OkL l) (hp : l.Perm m) : OkL m where
  nd := (List.Perm.nodup_iff (hp.map _)).1 h.nd
  nm := fun p hm => h.nm p (hp.mem_iff.2 hm)
  tx := fun p hm => h.tx p (hp.mem_iff.2 hm)
  len := by rw [← hp.length_eq]; exact h.len
def OrderAt (b : Env) (L : List HP) (M : List (Str × Str)) (n r : Nat) (v i : Value) (wr : World) : Prop :=
  ∃ (k : Nat), k ≤ n ∧ i = .int .i64 k ∧ ∃ base q cap, v = .slice base q cap ∧ Hid (q = k) ∧ St b (HP.rows 48 pairE (.slice base q cap) (turnN M r k) :: L) wr
set_option linter.unusedSimpArgs false in
set_option maxRecDepth 100000 in
set_option maxHeartbeats 4000000 in
theorem storeOrder_calls {vl vn : Value} {l : List (Str × Str)} {ns : List Int} (h : St b L w) (hsp : HP.spaces ∈ L) (hl : HP.sl pairE vl l ∈ L) (hm : HP.sl intE vn ns ∈ L) (hns : ∀ x ∈ ns, -9223372036854775808 ≤ x ∧ x ≤ 9223372036854775807) (by_ : Int) (hn1 : -9223372036854775808 ≤ by_) (hn2 : by_ ≤ 9223372036854775807) :
    Calls Tryz.prog 7 #[vl, vn, .int .i64 by_] w fun x w' => x = .returned (.bool true) ∧ St b L w' := by
  obtain ⟨M, hM⟩ : ∃ M, makeL l ns = M := ⟨_, rfl⟩
  obtain ⟨hok, -⟩ := makeL_ok l ns
  have hmp := make_parts l ns
  rw [hM] at hok hmp
  obtain ⟨G, hG⟩ : ∃ G, canon M = G := ⟨_, rfl⟩
  have hGo : OkF G := by rw [← hG]; exact hok.okF
  have hsort : sortF M = G := by rw [sortF_canon hok.nd, hG]
  rw [hG] at hmp
  have hlen : M.length ≤ 8 := hok.len
  obtain ⟨r, hr0, hr1⟩ : ∃ r : Nat, (0 < M.length → by_ % (M.length : Int) = (r : Int) ∧ r < M.length) ∧ r ≤ M.length := by
    by_cases h0 : 0 < M.length
    · have h1 := Int.emod_nonneg by_ (show (M.length : Int) ≠ 0 by omega)
      have h2 := Int.emod_lt_of_pos by_ (show (0 : Int) < M.length by omega)
      exact ⟨(by_ % (M.length : Int)).toNat, fun _ => ⟨by omega, by omega⟩, by omega⟩
    · exact ⟨0, fun h => absurd h h0, by omega⟩
  obtain ⟨U, hU⟩ : ∃ U, turnN M r M.length = U := ⟨_, rfl⟩
  have hUp : U.Perm M := by rw [← hU]; exact turn_perm hr1
  have hUok : OkL U := hok.perm hUp.symm
  have hUG : canon U = G := by rw [canon_perm hUok.nd hUp, hG]
  have hUl : U.length ≤ 8 := hUok.len
  obtain ⟨d1, l1, k1, o1, o2, o3, o4, o5, o6⟩ := open_new 256 (by omega) (by omega)
  obtain ⟨d2, l2, k2, e1, e2, e3, e4, e5⟩ := commit_fit o3 (by omega) (by omega) hGo (by omega) (by omega)
  have e6 := commit_same e2 (by omega) (by omega) (by omega) (by omega)
  have hA := alive_fresh 256 (by omega)
  have H := hide h
  have HSP := hide hsp
  have HL := hide hl
  have HM := hide hm
  have HNS := hide hns
  have HA := hide hA
  have HO := hide (And.intro o1 (And.intro o2 (And.intro o3 (And.intro o4 (And.intro o5 o6)))))
  have HMM := hide hM
  have HGG := hide hG
  have HOK := hide hok
  have HUOK := hide hUok
  have HUG := hide hUG
  have HU := hide hU
  have HR0 := hide hr0
  have HR1 := hide hr1
  have HGO := hide hGo
  have HSO := hide hsort
  have HE := hide e1
  have HE6 := hide e6
  have HE2 : Hid (StoreI d2 256 k2 l2 G ∧ 0 ≤ k2 ∧ k2 ≤ 600 ∧ l2.gen ≤ 2) := hide ⟨e2, by omega, by omega, by omega⟩
  have HOPS := hide e2.al.ops
  have HLEN := hide hlen
  have HPP := hide (show partsOf (setB (canon M)).length ≤ 255 by rw [hG]; omega)
  have HPU := hide (show partsOf (setB (canon U)).length ≤ 255 by rw [hUG]; omega)
  have HT0 : Hid (ReplayOf [] []) := hide (Or.inl ⟨rfl, rfl⟩)
  clear h hsp hl hm hns hA o1 o2 o3 o4 o5 o6 hM hG hok hGo hsort e1 e2 e3 e4 e5 e6 hlen hmp hr0 hr1 hU hUp hUok hUG hUl
  go_enter Tryz.func7, Tryz.ntmps7
  go_wp2_with (first
    | (go_at_call 11; refine (known4_calls H.out HSP.out).mono ?_; rintro x w0 ⟨rfl, h0⟩; have H0 := hide h0; clear h0 H)
    | (go_at_call 22; refine (few_calls H0.out (Reads.of_sl HL.out)).mono ?_; rintro x w1 (⟨rfl, hw⟩ | ⟨rfl, hw⟩) <;> subst hw <;> have H1 := H0 <;> clear H0)
    | (go_at_call 16; refine (make_calls H1.out (Reads.of_sl HL.out) HM.out HNS.out).mono ?_; rintro x w2 ⟨ba, na, ca, rfl, hna, h2⟩; rw [HMM.out] at h2 hna; have H2 := hide h2; have HNA := hide hna; clear h2 hna H1))
  · go_ret
    exact ⟨rfl, H1.out⟩
  have hnI : (na : Int) ≤ 8 := by have := HNA.out; have := HLEN.out; omega
  go_loopw [8, 9] (fun v i wr => OrderAt b (HP.rows 48 pairE (.slice ba na ca) M :: L) M na r v i wr) (fun _ i _ => na - (intOf i).toNat)
  case atStart => exact ⟨0, by omega, rfl, none, 0, 0, rfl, hide rfl, H2.out.rows_nil _ _⟩
  case round =>
    obtain ⟨k, hk, rfl, bt, q, ct, rfl, hq, hs⟩ := hrel
    have H3 := hide hs
    clear hs H2
    by_cases hlt : k < na
    · have hlt' : (k : Int) < na := by omega
      have hn0 : ¬ ((na : Int) = 0) := by omega
      have hkM : k < M.length := by rw [← HNA.out]; exact hlt
      obtain ⟨hrm, hrM⟩ := HR0.out (by omega)
      obtain ⟨j, hj, hj1, hj2⟩ := turn_step hrM hkM
      rw [← HNA.out] at hj1 hrm
      have hjI : (j : Int) < na := by rw [HNA.out]; omega
      have hj0 : ¬ ((j : Int) < 0) := by omega
      have hrI : (r : Int) ≤ 8 := by have := HLEN.out; omega
      obtain ⟨ga, rfl⟩ := H3.out.rows_base mem1 (by omega)
      obtain ⟨hc, ok1, ok2⟩ := (Reads.of_rows (T := 48) mem1).pair_at H3.out hj
      obtain ⟨s, hs1⟩ : ∃ s, M[j].1 = s := ⟨_, rfl⟩
      obtain ⟨t, ht1⟩ : ∃ t, M[j].2 = t := ⟨_, rfl⟩
      have hpe : M[j] = (s, t) := by rw [← hs1, ← ht1]
      rw [hpe] at hj2
      rw [hs1, ht1] at hc
      rw [hs1] at ok1
      rw [ht1] at ok2
      rw [Nat.zero_add] at hc
      have HC := hide hc
      have HOKP := hide (And.intro ok1 ok2)
      have HJ2 := hide hj2
      have HRM := hide hrm
      have QQ := hide (show (turnN M r k).length + ([(s, t)] : List (Str × Str)).length ≤ maxLen ∧ ((turnN M r k).length + ([(s, t)] : List (Str × Str)).length) * 32 ≤ 140737488355328 ∧ (turnN M r k).length = k from by
        have e := turn_len (k := k) HR1.out (by omega)
        have := HLEN.out
        refine ⟨?_, ?_, e⟩ <;> rw [e] <;> simp only [List.length_cons, List.length_nil] <;> (try unfold maxLen) <;> omega)
      clear hc ok1 ok2 hpe hs1 ht1 hj2 hrm hrM hkM hj
      go_wp2_with (first
        | (go_at_call 14; have hm9 := HRM.out; refine (within4_calls by_ na (by omega) (by omega) hn1 hn2).mono ?_; rintro x w8 ⟨rfl, hw8⟩; subst hw8; rw [hm9]; clear hm9 HRM)
        | (with_reducible refine wpList_load_ag (cs := [sv s, sv t]) rfl agFile (.tmp 40) rfl rfl rfl HC.out ?_)
        | (refine wpList_build1_st (E := pairE) rfl (.tmp 41) slFile rfl (s, t) rfl H3.out ?_ ?_; exact (fun _ _ _ => ⟨rfl, HOKP.out.1, HOKP.out.2⟩); intro g4 w4 h4; have H4 := hide h4.f1; clear h4 H3)
        | (at_builtin; refine wpList_append_st (E := pairE) rfl (.tmp 29) (.tmp 42) slFile rfl H4.out (Src.of_rows mem1) rfl rfl QQ.out.1 QQ.out.2.1 ?_; intro b5 n5 c5 w5 hn5 h5; rw [← HJ2.out] at h5; have H5 := hide h5.d1; have HN5 := hide hn5; clear h5 H4 hn5))
      go_roundw
      case rel => exact ⟨k + 1, by omega, by go_num, b5, n5, c5, rfl, hide (by rw [HN5.out, QQ.out.2.2]; rfl), H5.out⟩
      case measure => exact meas_step hlt
    · have hlt' : ¬ (k : Int) < na := by omega
      have hke : k = M.length := by have := HNA.out; omega
      have h4 := H3.out
      rw [hke, HU.out] at h4
      have H4 := hide h4
      clear h4 H3
      go_wp2_with (first
        | (go_at_call 21; refine (dnew_calls H4.out 256 (by omega) (by omega) (by omega)).mono ?_; rintro x w5 ⟨gd, rfl, h5⟩; have H5 := hide h5; clear h5 H4)
        | (go_at_call 15; refine (sopen_calls H5.out HA.out (by decide) HO.out.1 HT0.out okF_nil HO.out.2.1 (by decide) (by decide) (by decide) (up2 HSP.out)).mono ?_; rintro x w6 ⟨gs, rfl, gl, m, kv, hcan, h6⟩; have H6 := hide h6; have HC6 := hide hcan; clear h6 hcan H5)
        | (go_at_call 17; have hx3 := HC6.out; refine (scommit_calls (fl := U) H6.out (Reads.of_rows mem0) HUOK.out (by rw [hx3]; exact HO.out.2.2.1) ⟨HO.out.2.2.2.1, by have := HO.out.2.2.2.2.1; omega⟩ (by omega) (by have := HO.out.2.2.2.2.2; omega) HPU.out (up2 HSP.out)).mono ?_; rintro x w7 ⟨rfl, m2, kv2, hcan, h7⟩; rw [hx3, HUG.out, HE.out] at hcan h7 ⊢; have H7 := hide h7.f1; have HC7 := hide hcan; clear h7 hcan H6 HC6 hx3)
        | (go_at_call 20; have hx5 := HC7.out; refine (files_calls H7.out mem0 (by rw [hx5]; exact HGO.out)).mono ?_; rintro x w8 ⟨bf, nf, cf, rfl, hnf, h8⟩; rw [hx5] at h8; have H8 := hide h8; clear h8 H7 hx5 hnf)
        | (go_at_call 18; refine (sorted4_calls H8.out (Reads.of_rows mem6) (by have := HLEN.out; omega)).mono ?_; rintro x w9 ⟨bs, nb, cb, rfl, hnb, h9⟩; rw [HSO.out] at h9; have H9 := hide h9; clear h9 hnb H8)
        | (go_at_call 19; refine (fsame_calls H9.out (Reads.of_rows mem1) (Reads.of_rows mem0)).mono ?_; rintro x w10 ⟨rfl, h10⟩; rw [decide_eq_true rfl]; have H10 := hide h10.drop.drop; clear h10 H9)
        | (go_at_call 23; have h8 := H10.out.drop.drop.drop; refine (dops_calls h8).mono ?_; rintro x w9 ⟨rfl, hw9⟩; subst hw9; rw [HOPS.out]; have H11 := hide H10.out.f1; clear h8 H10)
        | (go_at_call 17; have hx3 := HC7.out; refine (scommit_calls (fl := M) H11.out (Reads.of_rows mem1) HOK.out (by rw [hx3]; exact HE2.out.1) ⟨HE2.out.2.1, by have := HE2.out.2.2.1; omega⟩ (by omega) (by have := HE2.out.2.2.2; omega) HPP.out (up2 HSP.out)).mono ?_; rintro x w12 ⟨rfl, m3, kv3, hcan, h12⟩; rw [hx3, HGG.out, HE6.out] at hcan h12 ⊢; have H12 := hide h12.drop.drop.drop; clear h12 hcan H11 HC7 hx3)
        | (go_at_call 23; have h8 := H12.out; clear H12; refine (dops_calls h8).mono ?_; rintro x w9 ⟨rfl, hw9⟩; subst hw9; rw [HOPS.out]; have H13 := hide h8; clear h8)
        | (go_at_call 25; have h8 := H13.out; clear H13; refine few0_calls.mono ?_; rintro x w9 ⟨rfl, hw9⟩; subst hw9; have H14 := hide h8; clear h8))
      go_ret
      exact ⟨rfl, H14.out.drop.drop.drop⟩
end Go.Proofs.YtcgnkloljfgiaaaGreatDoor
