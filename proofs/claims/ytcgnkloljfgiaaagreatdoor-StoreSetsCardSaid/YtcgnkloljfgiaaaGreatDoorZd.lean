/-
  package store: told. package store: changed.
-/
import Derived.Test.YtcgnkloljfgiaaaGreatDoorZc
namespace Go.Proofs.YtcgnkloljfgiaaaGreatDoor
open Go.RowKit Go.Maps Go.MapKept
variable {b : Env} {L : List HP} {w : World}
theorem u8_nat (n : Nat) (h : n ≤ 255) : (UInt8.ofNat n).toNat = n := by rw [UInt8.toNat_ofNat', Nat.mod_eq_of_lt (by omega)]
theorem nm_read (s : Str) (r : Byt) (h : s.length ≤ 255) : numB ((nmB s ++ r).take 1) = s.length ∧ ((nmB s ++ r).drop 1).take s.length = s ∧ ((nmB s ++ r).drop 1).drop s.length = r ∧ 1 + s.length ≤ (nmB s ++ r).length := by
  refine ⟨by simp [nmB, numB, u8_nat _ h], by simp [nmB], by simp [nmB], by simp [nmB]; omega⟩
theorem tx_read (s : Str) (r : Byt) (h : s.length ≤ 65535) : numB ((txB s ++ r).take 2) = s.length ∧ ((txB s ++ r).drop 2).take s.length = s ∧ ((txB s ++ r).drop 2).drop s.length = r ∧ 2 + s.length ≤ (txB s ++ r).length := by
  refine ⟨?_, by simp [txB], by simp [txB], by simp [txB]; omega⟩
  simp only [txB, List.cons_append, List.take_succ_cons, List.take_zero, numB]
  rw [UInt8.toNat_ofNat', UInt8.toNat_ofNat']
  omega
theorem run_convert_op {P : Program} {o : Oper} {a : Act} {w : World} {s t : TypeId} {x : Operand} {v r : Value} (ho : o.op = .convert s t x) (hx : a.eval x = v) (h : (convert s t v).run P w = .ok r w) : (execOp a.eval o).run P w = .ok (.value r) w := by simp [execOp, ho, hx, h]
def ToldFAt (b : Env) (L : List HP) (gr m : Nat) (F : List (Str × Str)) (i : Value) (wr : World) : Prop :=
  ∃ k : Nat, k ≤ F.length ∧ i = .int .i64 k ∧ ∃ v2, St b (HP.rd gr v2 :: HP.sl byteE v2 ((F.drop k).flatMap fileB) :: HP.fmap m (layF (F.take k)) :: L) wr
set_option linter.unusedSimpArgs false in
set_option maxRecDepth 100000 in
set_option maxHeartbeats 4000000 in
theorem toldF_calls {v : Value} {F : List (Str × Str)} (h : St b L w) (hm : HP.sl byteE v (setB F) ∈ L) (hF : OkF F) (hsp : HP.spaces ∈ L) :
    Calls Tryz.prog 68 #[v] w fun x w' => ∃ m, x = .returned (.tuple #[.map (some m), .bool true]) ∧ St b (HP.fmap m F :: L) w' := by
  obtain ⟨b0, c0, rfl, u1, u2⟩ := h.sl_form hm
  obtain ⟨n, hn⟩ : ∃ n, F.length = n := ⟨_, rfl⟩
  have hn8 : n ≤ 8 := by rw [← hn]; exact hF.len
  have hnI : (n : Int) ≤ 8 := by omega
  obtain ⟨l, hl⟩ : ∃ l, setB F = l := ⟨_, rfl⟩
  have hl1 : numB (l.take 1) = n := by rw [← hl]; simp [setB, numB, hn, u8_nat n (by omega)]
  have hl2 : l.drop 1 = (F.drop 0).flatMap fileB := by rw [← hl]; simp [setB]
  have hl3 : 1 ≤ l.length := by rw [← hl]; simp [setB]
  rw [hl] at hm ⊢
  obtain ⟨N0, hN0⟩ : ∃ N0, l.length = N0 := ⟨_, rfl⟩
  rw [hN0] at hm ⊢
  have H := hide h
  have HM := hide hm
  have HF := hide hF
  have HN := hide hn
  have HL := hide hl
  have HL1 := hide hl1
  have HL2 := hide hl2
  have HL3 := hide hl3
  have HSP := hide hsp
  clear h hm hF hn hl hl1 hl2 hl3 hsp u1 u2 hN0
  go_enter Tryz.func68, Tryz.ntmps68
  go_wp2_with (first
    | ((with_reducible refine wpList_box_st (cs := [.slice b0 N0 c0, .bool false]) rfl (.tmp 8) rfl rfl H.out ?_); intro gr w1 h1; have H1 := hide h1; clear h1 H)
    | ((with_reducible refine wpList_makeMap_st rfl 72 rfl sv okStr sv H1.out ?_); intro m w2 h2; have H2 := hide h2.f1; clear h2 H1)
    | (go_at_call 94; refine (number_calls H2.out (up1 HM.out) 1 HL3.out (by decide)).mono ?_; rintro x w3 ⟨rfl, v3, h3⟩; rw [HL1.out]; rw [HL2.out] at h3; have H3 := hide h3; clear h3 H2))
  go_loopw [13] (fun i wr => ToldFAt b L gr m F i wr) (fun i _ => n - (intOf i).toNat)
  case atStart => exact ⟨0, by omega, rfl, v3, H3.out⟩
  case round =>
    obtain ⟨k, hk, rfl, v2, hs⟩ := hrel
    rw [HN.out] at hk
    clear H3
    by_cases hlt : k < n
    · have hlt' : (k : Int) < n := by omega
      have hkF : k < F.length := by rw [HN.out]; exact hlt
      have hat : layF (F.take (k + 1)) = kput (layF (F.take k)) F[k].1 F[k].2 := by rw [← List.take_append_getElem hkF, layF_snoc]
      have hdr : (F.drop k).flatMap fileB = nmB F[k].1 ++ (txB F[k].2 ++ (F.drop (k + 1)).flatMap fileB) := by rw [List.drop_eq_getElem_cons hkF, List.flatMap_cons]; simp [fileB]
      have hnm := HF.out.nm _ (List.getElem_mem hkF)
      have htx := HF.out.tx _ (List.getElem_mem hkF)
      obtain ⟨s, hs1⟩ : ∃ s, F[k].1 = s := ⟨_, rfl⟩
      obtain ⟨t, ht1⟩ : ∃ t, F[k].2 = t := ⟨_, rfl⟩
      obtain ⟨r2, hr2⟩ : ∃ r, (F.drop (k + 1)).flatMap fileB = r := ⟨_, rfl⟩
      rw [hs1, ht1] at hat
      rw [hs1, ht1, hr2] at hdr
      rw [hs1] at hnm
      rw [ht1] at htx
      rw [hdr] at hs
      have hs255 : s.length ≤ 255 := by obtain ⟨c, hc1, _⟩ := hnm; rw [hc1]; exact (show 1 ≤ 255 by decide)
      have HA := hide (nm_read s (txB t ++ r2) hs255)
      have HB := hide (tx_read t r2 (by omega))
      have HOK := hide (nm_ok hnm)
      have HAT := hide hat
      have HR2 := hide hr2
      have HKF := hide hkF
      have H4 := hide hs
      clear hs hat hdr hnm htx hs1 ht1 hr2 hkF hs255
      go_wp2_with (first
        | (go_at_call 95; refine (text_calls (l := nmB s ++ (txB t ++ r2)) H4.out mem0 1 (by decide) (by rw [HA.out.1]; exact HA.out.2.2.2)).mono ?_; rintro x w5 ⟨rfl, v5, h5⟩; rw [HA.out.1, HA.out.2.2.1] at h5; rw [HA.out.1, HA.out.2.1]; have H5 := hide (show St b (HP.rd gr v5 :: HP.sl byteE v5 (txB t ++ r2) :: HP.fmap m (layF (F.take k)) :: L) w5 from h5.pick [0, 1, 3] 4 (by decide) (by decide) (by simp)); clear h5 H4)
        | (go_at_call 95; refine (text_calls (l := txB t ++ r2) H5.out mem0 2 (by decide) (by rw [HB.out.1]; exact HB.out.2.2.2)).mono ?_; rintro x w6 ⟨rfl, v6, h6⟩; rw [HB.out.1, HB.out.2.2.1] at h6; rw [HB.out.1, HB.out.2.1]; have H6 := hide (show St b (HP.fmap m (layF (F.take k)) :: HP.rd gr v6 :: HP.sl byteE v6 r2 :: L) w6 from h6.pick [3, 0, 1] 4 (by decide) (by decide) (by simp)); clear h6 H5)
        | (at_mapUpdate; refine wpList_mapUpdate_st rfl 72 (.tmp 17) (.tmp 18) (.tmp 20) rfl keyStr mapFiles s t rfl rfl HOK.out rfl H6.out ?_; intro w7 h7; rw [← HAT.out, ← HR2.out] at h7; have H7 := hide h7.b2; clear h7 H6))
      go_roundw
      case rel => exact ⟨k + 1, HKF.out, by go_num, v6, H7.out⟩
      case measure => exact meas_step hlt
    · have hke : k = n := by omega
      subst hke
      have h4 := hs
      rw [← HN.out, List.drop_length, List.take_length, layF_nodup HF.out.inc.nodup] at h4
      have H4 := hide (show St b (HP.fmap m F :: HP.rd gr v2 :: L) wr from h4.pick [2, 0] 3 (by decide) (by decide) (by simp))
      clear hs h4
      go_wp2_with fail
      refine wp_region_held_drew (S := fun w' => w'.cell? ⟨gr, 1, none⟩ = some (.bool false) ∧ (convert 37 9 (.slice b0 N0 c0)).run Tryz.prog w' = .ok (.string ⟨l.toArray⟩) w') (by kernel_rfl) ?_ (fun hHeld => ?_)
      · exact ⟨H4.out.drew.blk_cell mem1 1, conv_str H4.out.drew (Reads.of_sl (up2 HM.out))⟩
      refine wpAnyH_takeD (i := 0) (some 22) (v := ?v0_1) rfl rfl (by kernel_rfl) (by kernel_rfl) (by kernel_rfl) (fun _ _ _ h => h) (by rfl) ?y0_1 (by assumption) ?r0_1
      case y0_1 => (intro w hSw; (try dsimp only at hSw); first | (go_simp; done) | (go_simp; with_reducible rfl))
      try simp only [Act.put, List.setIfInBounds_toArray, List.set_cons_zero, List.set_cons_succ]
      refine wpAnyH_takeD (i := 1) (some 23) (v := ?v1_2) rfl rfl (by kernel_rfl) (by kernel_rfl) (by kernel_rfl) (fun _ _ _ h => h) (by rfl) ?y1_2 (by assumption) ?r1_2
      case y1_2 => (intro w hSw; (try dsimp only at hSw); first | (go_simp; done) | (go_simp; with_reducible rfl))
      try simp only [Act.put, List.setIfInBounds_toArray, List.set_cons_zero, List.set_cons_succ]
      refine wpAnyH_takeD (i := 2) (some 24) (v := ?v2_3) rfl rfl (by kernel_rfl) (by kernel_rfl) (by kernel_rfl) (fun _ _ _ h => h) (by rfl) ?y2_3 (by assumption) ?r2_3
      case y2_3 => (intro w hSw; (try dsimp only at hSw); first | (go_simp; done) | (go_simp; with_reducible rfl))
      try simp only [Act.put, List.setIfInBounds_toArray, List.set_cons_zero, List.set_cons_succ]
      refine wpAnyH_takeD (i := 3) (some 25) (v := ?v3_4) rfl rfl (by kernel_rfl) (by kernel_rfl) (by kernel_rfl) (fun _ _ _ h => h) (by rfl) ?y3_4 (by assumption) ?r3_4
      case y3_4 => (intro w hSw; (try dsimp only at hSw); first | (go_simp; done) | (go_simp; with_reducible rfl))
      try simp only [Act.put, List.setIfInBounds_toArray, List.set_cons_zero, List.set_cons_succ]
      refine wpAnyH_takeD (i := 4) (some 26) (v := ?v4_5) rfl rfl (by kernel_rfl) (by kernel_rfl) (by kernel_rfl) (fun _ _ _ h => h) (by rfl) ?y4_5 (by assumption) ?r4_5
      case y4_5 => (intro w hSw; (try dsimp only at hSw); first | (go_simp; done) | (go_simp; with_reducible rfl))
      try simp only [Act.put, List.setIfInBounds_toArray, List.set_cons_zero, List.set_cons_succ]
      refine wpAnyH_takeD (i := 5) (some 27) (v := ?v5_6) rfl rfl (by kernel_rfl) (by kernel_rfl) (by kernel_rfl) (fun _ _ _ h => h) (by rfl) ?y5_6 (by assumption) ?r5_6
      case y5_6 => (intro w hSw; (try dsimp only at hSw); first | (go_simp; done) | (go_simp; with_reducible rfl))
      try simp only [Act.put, List.setIfInBounds_toArray, List.set_cons_zero, List.set_cons_succ]
      refine wpAnyH_takeD (i := 6) (some 28) (v := ?v6_7) rfl rfl (by kernel_rfl) (by kernel_rfl) (by kernel_rfl) (fun _ _ _ h => h) (by rfl) ?y6_7 (by assumption) ?r6_7
      case y6_7 => (intro w hSw; (try dsimp only at hSw); first | (go_simp; done) | (go_simp; with_reducible rfl))
      try simp only [Act.put, List.setIfInBounds_toArray, List.set_cons_zero, List.set_cons_succ]
      refine wpAnyH_takeD (i := 7) (some 29) (v := ?v7_8) rfl rfl (by kernel_rfl) (by kernel_rfl) (by kernel_rfl) (fun _ _ _ h => h) (by rfl) ?y7_8 (by assumption) ?r7_8
      case y7_8 => (intro w hSw; (try dsimp only at hSw); first | (go_simp; done) | (go_simp; with_reducible rfl))
      try simp only [Act.put, List.setIfInBounds_toArray, List.set_cons_zero, List.set_cons_succ]
      refine wpAnyH_ready (rs := [8]) (by kernel_rfl) (by simp) ?_
      refine AllReadyH.cons rfl (fun K hK => ?_) ?_
      · go_simp
        go_at_call 73
        refine (sound_calls H4.out.drew (up1 HSP.out) (fun p hp => ⟨HF.out.nm p hp, HF.out.tx p hp⟩) HF.out.len).mono ?_
        rintro z w5 ⟨rfl, h5⟩
        have H5 := hide h5
        clear h5 H4
        refine hK.out _ _ ?_ (fun hHeld => ?_)
        · exact ⟨H5.out.blk_cell mem1 1, conv_str H5.out (Reads.of_sl (up2 HM.out))⟩
        clear hK K
        try simp only [Act.put, List.setIfInBounds_toArray, List.set_cons_zero, List.set_cons_succ]
        refine wpAnyH_takeD (i := 9) (some 31) (v := ?v9_9) rfl rfl (by kernel_rfl) (by kernel_rfl) (by kernel_rfl) (fun _ _ _ h => h) (by rfl) ?y9_9 (by assumption) ?r9_9
        case y9_9 => (intro w hSw; (try dsimp only at hSw); first | (go_simp; done) | (go_simp; with_reducible rfl))
        try simp only [Act.put, List.setIfInBounds_toArray, List.set_cons_zero, List.set_cons_succ]
        refine wpAnyH_takeD (i := 10) (some 32) (v := ?v10_10) rfl rfl (by kernel_rfl) (by kernel_rfl) (by kernel_rfl) (fun _ _ _ h => h) (by rfl) ?y10_10 (by assumption) ?r10_10
        case y10_10 => (intro w hSw; (try dsimp only at hSw); first | (go_simp; done) | (go_simp; with_reducible rfl))
        try simp only [Act.put, List.setIfInBounds_toArray, List.set_cons_zero, List.set_cons_succ]
        refine wpAnyH_takeD (i := 11) (some 33) (v := ?v11_11) rfl rfl (by kernel_rfl) (by kernel_rfl) (by kernel_rfl) (fun _ _ _ h => h) (by rfl) ?y11_11 (by assumption) ?r11_11
        case y11_11 => (intro w hSw; (try dsimp only at hSw); first | (go_simp; done) | (go_simp; with_reducible rfl))
        try simp only [Act.put, List.setIfInBounds_toArray, List.set_cons_zero, List.set_cons_succ]
        refine wpAnyH_takeD (i := 14) (some 36) (v := ?v14_12) rfl rfl (by kernel_rfl) (by kernel_rfl) (by kernel_rfl) (fun _ _ _ h => h) (by rfl) ?y14_12 (by assumption) ?r14_12
        case y14_12 => (intro w hSw; (try dsimp only at hSw); first | (go_simp; done) | (go_simp; with_reducible rfl))
        try simp only [Act.put, List.setIfInBounds_toArray, List.set_cons_zero, List.set_cons_succ]
        refine wpAnyH_takeD (i := 15) (some 37) (v := .string ⟨l.toArray⟩) rfl rfl (by kernel_rfl) (by kernel_rfl) (by kernel_rfl) (fun _ _ _ h => h) (by rfl) ?y15_13 (by assumption) ?r15_13
        case y15_13 => (intro w hSw; exact run_convert_op rfl rfl hSw.2)
        try simp only [Act.put, List.setIfInBounds_toArray, List.set_cons_zero, List.set_cons_succ]
        refine wpAnyH_ready (rs := [12]) (by kernel_rfl) (by simp) ?_
        refine AllReadyH.cons rfl (fun K hK => ?_) ?_
        · go_simp
          go_at_call 40
          refine (whole_calls H5.out (by rw [canon_self HF.out.inc]; exact HF.out)).mono ?_
          rintro z w6 ⟨b6, n6, c6, rfl, hn6, h6⟩
          rw [canon_self HF.out.inc, HL.out] at h6
          have H6 := hide h6
          clear h6 hn6 H5
          refine hK.out _ _ ?_ (fun hHeld => ?_)
          · exact ⟨H6.out.blk_cell mem2 1, conv_str H6.out (Reads.of_sl (up3 HM.out))⟩
          clear hK K
          try simp only [Act.put, List.setIfInBounds_toArray, List.set_cons_zero, List.set_cons_succ]
          refine wpAnyH_takeD (i := 18) (some 2) (v := ?v18_14) rfl rfl (by kernel_rfl) (by kernel_rfl) (by kernel_rfl) (fun _ _ _ h => h) (by rfl) ?y18_14 (by assumption) ?r18_14
          case y18_14 => (intro w hSw; (try dsimp only at hSw); first | (go_simp; done) | (go_simp; with_reducible rfl))
          try simp only [Act.put, List.setIfInBounds_toArray, List.set_cons_zero, List.set_cons_succ]
          refine wpAnyH_ready (rs := [13]) (by kernel_rfl) (by simp) ?_
          refine AllReadyH.cons rfl (fun K hK => ?_) ?_
          · have cv6 := conv_str H6.out (Reads.of_rows mem0)
            go_simp
            refine hK.out _ _ ?_ (fun hHeld => ?_)
            · exact ⟨H6.out.blk_cell mem2 1, conv_str H6.out (Reads.of_sl (up3 HM.out))⟩
            clear hK K
            try simp only [Act.put, List.setIfInBounds_toArray, List.set_cons_zero, List.set_cons_succ]
            refine wpAnyH_takeD (i := 16) (some 38) (v := ?v16_15) rfl rfl (by kernel_rfl) (by kernel_rfl) (by kernel_rfl) (fun _ _ _ h => h) (by rfl) ?y16_15 (by assumption) ?r16_15
            case y16_15 => (intro w hSw; (try dsimp only at hSw); first | (go_simp; done) | (go_simp; with_reducible rfl))
            try simp only [Act.put, List.setIfInBounds_toArray, List.set_cons_zero, List.set_cons_succ]
            refine wpAnyH_takeD (i := 17) (some 39) (v := ?v17_16) rfl rfl (by kernel_rfl) (by kernel_rfl) (by kernel_rfl) (fun _ _ _ h => h) (by rfl) ?y17_16 (by assumption) ?r17_16
            case y17_16 => (intro w hSw; (try dsimp only at hSw); first | (go_simp; done) | (go_simp; with_reducible rfl))
            try simp only [Act.put, List.setIfInBounds_toArray, List.set_cons_zero, List.set_cons_succ]
            refine wpAnyH_takeD (i := 19) (some 3) (v := ?v19_17) rfl rfl (by kernel_rfl) (by kernel_rfl) (by kernel_rfl) (fun _ _ _ h => h) (by rfl) ?y19_17 (by assumption) ?r19_17
            case y19_17 => (intro w hSw; (try dsimp only at hSw); first | (go_simp; done) | (go_simp; with_reducible rfl))
            try simp only [Act.put, List.setIfInBounds_toArray, List.set_cons_zero, List.set_cons_succ]
            refine wpAnyH_done (by kernel_rfl) ?_ _
            clear hHeld
            go_wp2_with fail
            go_ret2
            exact ⟨m, rfl, H6.out.drop.f1.drop⟩
          exact AllReadyH.nil
        exact AllReadyH.nil
      exact AllReadyH.nil
end Go.Proofs.YtcgnkloljfgiaaaGreatDoor

namespace Go.Proofs.YtcgnkloljfgiaaaGreatDoor
open Go.RowKit Go.Maps Go.MapKept
variable {b : Env} {L : List HP} {w : World}
def ChgAt (b : Env) (L : List HP) (gr m : Nat) (kf : List (Str × Str)) (C : List (Str × Option Str)) (i : Value) (wr : World) : Prop :=
  ∃ k : Nat, k ≤ C.length ∧ i = .int .i64 k ∧ ∃ v2, St b (HP.rd gr v2 :: HP.sl byteE v2 ((C.drop k).flatMap chB) :: HP.fmap m ((C.take k).foldl applyC kf) :: L) wr
set_option linter.unusedSimpArgs false in
set_option maxRecDepth 100000 in
set_option maxHeartbeats 4000000 in
theorem changed_calls {mf : Nat} {kf G : List (Str × Str)} {v : Value} (h : St b (HP.fmap mf kf :: L) w) (hm : HP.sl byteE v (changesB (canon kf) G) ∈ L) (hF : OkF (canon kf)) (hG : OkF G) (hsp : HP.spaces ∈ L) :
    Calls Tryz.prog 67 #[.map (some mf), v] w fun x w' => ∃ m, x = .returned (.tuple #[.map (some m), .bool true]) ∧ ∃ kv, canon kv = G ∧ St b (HP.fmap m kv :: HP.fmap mf kf :: L) w' := by
  obtain ⟨b0, c0, rfl, u1, u2⟩ := h.sl_form (List.mem_cons_of_mem _ hm)
  have hnf : (keysOf kf).Nodup := by obtain ⟨e, _, hs⟩ := h; exact hs.map_nodup
  obtain ⟨C, hC⟩ : ∃ C, chN (canon kf) G = C := ⟨_, rfl⟩
  have hCnm := chN_nm hF hG
  have hCtx : ∀ c ∈ C, ∀ t, c.2 = some t → t.length ≤ 2000 := fun c hc t ht => by
    rw [← hC] at hc
    obtain ⟨s, o⟩ := c
    have := (mem_chN.1 hc).2.2
    simp only at ht
    rw [ht] at this
    exact hG.tx _ (kget_mem this.symm)
  have hlen := chN_len (canon kf) G
  obtain ⟨n, hn⟩ : ∃ n, C.length = n := ⟨_, rfl⟩
  have hn8 : n ≤ 16 := by have := hF.len; have := hG.len; rw [hC, hn] at hlen; omega
  have hnI : (n : Int) ≤ 16 := by omega
  obtain ⟨l, hl⟩ : ∃ l, changesB (canon kf) G = l := ⟨_, rfl⟩
  have hl1 : numB (l.take 1) = n := by rw [← hl]; simp [changesB, numB, hC, hn, u8_nat n (by omega)]
  have hl2 : l.drop 1 = (C.drop 0).flatMap chB := by rw [← hl]; simp [changesB, hC]
  have hl3 : 1 ≤ l.length := by rw [← hl]; simp [changesB]
  have hget : ∀ s, kget (C.foldl applyC kf) s = kget G s := by rw [← hC]; exact apply_all hF.inc.nodup hG.inc.nodup hnf fun s => (kget_canon kf s).symm
  have hcan : canon (C.foldl applyC kf) = G := canon_ext hG.inc (nodup_apply C hnf) hget
  rw [hC] at hCnm
  rw [hl] at hm ⊢
  obtain ⟨N0, hN0⟩ : ∃ N0, l.length = N0 := ⟨_, rfl⟩
  rw [hN0] at hm ⊢
  have H := hide h
  have HM := hide hm
  have HF := hide hF
  have HG := hide hG
  have HN := hide hn
  have HL := hide hl
  have HL1 := hide hl1
  have HL2 := hide hl2
  have HL3 := hide hl3
  have HSP := hide hsp
  have HNM := hide hCnm
  have HTX := hide hCtx
  have HCAN := hide hcan
  have HNF := hide hnf
  clear h hm hF hG hn hl hl1 hl2 hl3 hsp u1 u2 hN0 hC hCnm hCtx hlen hget hcan hnf
  go_enter Tryz.func67, Tryz.ntmps67
  go_wp2_with (first
    | ((with_reducible refine wpList_box_st (cs := [.slice b0 N0 c0, .bool false]) rfl (.tmp 11) rfl rfl H.out ?_); intro gr w1 h1; have H1 := hide h1.f1; clear h1 H)
    | (go_at_call 74; refine (mapclone_calls H1.out).mono ?_; rintro x w2 ⟨m, rfl, h2⟩; have H2 := hide (show St b (HP.rd gr (.slice b0 N0 c0) :: HP.fmap m kf :: HP.fmap mf kf :: L) w2 from h2.f2); clear h2 H1)
    | (go_at_call 94; refine (number_calls H2.out (up2 HM.out) 1 HL3.out (by decide)).mono ?_; rintro x w3 ⟨rfl, v3, h3⟩; rw [HL1.out]; rw [HL2.out] at h3; have H3 := hide h3; clear h3 H2))
  go_loopw [17] (fun i wr => ChgAt b (HP.fmap mf kf :: L) gr m kf C i wr) (fun i _ => n - (intOf i).toNat)
  case atStart => exact ⟨0, by omega, rfl, v3, H3.out⟩
  case round =>
    obtain ⟨k, hk, rfl, v2, hs⟩ := hrel
    rw [HN.out] at hk
    clear H3
    by_cases hlt : k < n
    · have hlt' : (k : Int) < n := by omega
      have hkF : k < C.length := by rw [HN.out]; exact hlt
      have hat : (C.take (k + 1)).foldl applyC kf = applyC ((C.take k).foldl applyC kf) C[k] := by rw [← List.take_append_getElem hkF, List.foldl_append]; rfl
      have hdr : (C.drop k).flatMap chB = chB C[k] ++ (C.drop (k + 1)).flatMap chB := by rw [List.drop_eq_getElem_cons hkF, List.flatMap_cons]
      have hnm := HNM.out _ (List.getElem_mem hkF)
      have htx := HTX.out _ (List.getElem_mem hkF)
      obtain ⟨c, hc⟩ : ∃ c, C[k] = c := ⟨_, rfl⟩
      rw [hc] at hat hdr hnm htx
      obtain ⟨s, o⟩ := c
      obtain ⟨r2, hr2⟩ : ∃ r, (C.drop (k + 1)).flatMap chB = r := ⟨_, rfl⟩
      rw [hr2] at hdr
      rw [hdr] at hs
      simp only at hnm htx
      have hs255 : s.length ≤ 255 := by obtain ⟨c, hc1, _⟩ := hnm; rw [hc1]; exact (show 1 ≤ 255 by decide)
      have HOK := hide (nm_ok hnm)
      have HAT := hide hat
      have HR2 := hide hr2
      have HKF := hide hkF
      cases o with
      | none =>
        have HD := hide (show numB ((chB (s, none) ++ r2).take 1) = 0 ∧ (chB (s, none) ++ r2).drop 1 = nmB s ++ r2 ∧ 1 ≤ (chB (s, none) ++ r2).length from ⟨by simp [chB, numB], by simp [chB], by simp [chB]⟩)
        have HA := hide (nm_read s r2 hs255)
        have H4 := hide hs
        clear hs hat hdr hnm htx hr2 hkF hs255 hc
        go_wp2_with (first
          | (go_at_call 94; refine (number_calls (l := chB (s, none) ++ r2) H4.out mem0 1 HD.out.2.2 (by decide)).mono ?_; rintro x w5 ⟨rfl, v5, h5⟩; rw [HD.out.1]; rw [HD.out.2.1] at h5; have H5 := hide (show St b (HP.rd gr v5 :: HP.sl byteE v5 (nmB s ++ r2) :: HP.fmap m ((C.take k).foldl applyC kf) :: HP.fmap mf kf :: L) w5 from h5.pick [0, 1, 3] 4 (by decide) (by decide) (by simp)); clear h5 H4)
          | (go_at_call 95; refine (text_calls (l := nmB s ++ r2) H5.out mem0 1 (by decide) (by rw [HA.out.1]; exact HA.out.2.2.2)).mono ?_; rintro x w6 ⟨rfl, v6, h6⟩; rw [HA.out.1, HA.out.2.2.1] at h6; rw [HA.out.1, HA.out.2.1]; have H6 := hide (show St b (HP.fmap m ((C.take k).foldl applyC kf) :: HP.rd gr v6 :: HP.sl byteE v6 r2 :: HP.fmap mf kf :: L) w6 from h6.pick [3, 0, 1] 4 (by decide) (by decide) (by simp)); clear h6 H5)
          | (at_delete; refine wpList_delete_st rfl 72 9 (.tmp 23) (.tmp 24) rfl keyStr mapFiles s rfl rfl HOK.out H6.out ?_; intro w7 h7; have H7 := hide h7; clear h7 H6))
        go_roundw
        case rel => exact ⟨k + 1, HKF.out, by go_num, v6, by rw [HAT.out, HR2.out]; exact H7.out.b2⟩
        case measure => exact meas_step hlt
      | some t =>
        have htl := htx t rfl
        have HD := hide (show numB ((chB (s, some t) ++ r2).take 1) = 1 ∧ (chB (s, some t) ++ r2).drop 1 = nmB s ++ (txB t ++ r2) ∧ 1 ≤ (chB (s, some t) ++ r2).length from ⟨by simp [chB, numB], by simp [chB], by simp [chB]⟩)
        have HA := hide (nm_read s (txB t ++ r2) hs255)
        have HB := hide (tx_read t r2 (by omega))
        have H4 := hide hs
        clear hs hat hdr hnm htx hr2 hkF hs255 hc htl
        go_wp2_with (first
          | (go_at_call 94; refine (number_calls (l := chB (s, some t) ++ r2) H4.out mem0 1 HD.out.2.2 (by decide)).mono ?_; rintro x w5 ⟨rfl, v5, h5⟩; rw [HD.out.1]; rw [HD.out.2.1] at h5; have H5 := hide (show St b (HP.rd gr v5 :: HP.sl byteE v5 (nmB s ++ (txB t ++ r2)) :: HP.fmap m ((C.take k).foldl applyC kf) :: HP.fmap mf kf :: L) w5 from h5.pick [0, 1, 3] 4 (by decide) (by decide) (by simp)); clear h5 H4)
          | (go_at_call 95; refine (text_calls (l := nmB s ++ (txB t ++ r2)) H5.out mem0 1 (by decide) (by rw [HA.out.1]; exact HA.out.2.2.2)).mono ?_; rintro x w6 ⟨rfl, v6, h6⟩; rw [HA.out.1, HA.out.2.2.1] at h6; rw [HA.out.1, HA.out.2.1]; have H6 := hide (show St b (HP.fmap m ((C.take k).foldl applyC kf) :: HP.rd gr v6 :: HP.sl byteE v6 (txB t ++ r2) :: HP.fmap mf kf :: L) w6 from h6.pick [3, 0, 1] 4 (by decide) (by decide) (by simp)); clear h6 H5)
          | (at_delete; refine wpList_delete_st rfl 72 9 (.tmp 23) (.tmp 24) rfl keyStr mapFiles s rfl rfl HOK.out H6.out ?_; intro w7 h7; have H7 := hide h7; clear h7 H6)
          | (go_at_call 95; refine (text_calls (l := txB t ++ r2) H7.out.b2 mem0 2 (by decide) (by rw [HB.out.1]; exact HB.out.2.2.2)).mono ?_; rintro x w8 ⟨rfl, v8, h8⟩; rw [HB.out.1, HB.out.2.2.1] at h8; rw [HB.out.1, HB.out.2.1]; have H8 := hide (show St b (HP.fmap m (kdel ((C.take k).foldl applyC kf) s) :: HP.rd gr v8 :: HP.sl byteE v8 r2 :: HP.fmap mf kf :: L) w8 from h8.pick [3, 0, 1] 4 (by decide) (by decide) (by simp)); clear h8 H7)
          | (at_mapUpdate; refine wpList_mapUpdate_st rfl 72 (.tmp 27) (.tmp 28) (.tmp 30) rfl keyStr mapFiles s t rfl rfl HOK.out rfl H8.out ?_; intro w9 h9; have H9 := hide h9.b2; clear h9 H8))
        go_roundw
        case rel => exact ⟨k + 1, HKF.out, by go_num, v8, by rw [HAT.out, HR2.out]; exact H9.out⟩
        case measure => exact meas_step hlt
    · have hke : k = n := by omega
      subst hke
      have h4 := hs
      rw [← HN.out, List.drop_length, List.take_length] at h4
      obtain ⟨kv, hkv⟩ : ∃ kv, C.foldl applyC kf = kv := ⟨_, rfl⟩
      have hcan := HCAN.out
      rw [hkv] at h4 hcan
      have hkn : (keysOf kv).Nodup := by rw [← hkv]; exact nodup_apply C HNF.out
      have hpm := canon_mem hkn
      rw [hcan] at hpm
      have H4 := hide (show St b (HP.fmap m kv :: HP.rd gr v2 :: HP.fmap mf kf :: L) wr from h4.pick [2, 0, 3] 4 (by decide) (by decide) (by simp))
      have HC2 := hide hcan
      have HPM := hide hpm
      clear hs h4 hcan hkv hkn hpm
      go_wp2_with fail
      refine wp_region_held_drew (S := fun w' => w'.cell? ⟨gr, 1, none⟩ = some (.bool false) ∧ (convert 37 9 (.slice b0 N0 c0)).run Tryz.prog w' = .ok (.string ⟨l.toArray⟩) w') (by kernel_rfl) ?_ (fun hHeld => ?_)
      · exact ⟨H4.out.drew.blk_cell mem1 1, conv_str H4.out.drew (Reads.of_sl (up3 HM.out))⟩
      refine wpAnyH_takeD (i := 0) (some 32) (v := ?v0_1) rfl rfl (by kernel_rfl) (by kernel_rfl) (by kernel_rfl) (fun _ _ _ h => h) (by rfl) ?y0_1 (by assumption) ?r0_1
      case y0_1 => (intro w hSw; (try dsimp only at hSw); first | (go_simp; done) | (go_simp; with_reducible rfl))
      try simp only [Act.put, List.setIfInBounds_toArray, List.set_cons_zero, List.set_cons_succ]
      refine wpAnyH_takeD (i := 1) (some 33) (v := ?v1_2) rfl rfl (by kernel_rfl) (by kernel_rfl) (by kernel_rfl) (fun _ _ _ h => h) (by rfl) ?y1_2 (by assumption) ?r1_2
      case y1_2 => (intro w hSw; (try dsimp only at hSw); first | (go_simp; done) | (go_simp; with_reducible rfl))
      try simp only [Act.put, List.setIfInBounds_toArray, List.set_cons_zero, List.set_cons_succ]
      refine wpAnyH_takeD (i := 2) (some 34) (v := ?v2_3) rfl rfl (by kernel_rfl) (by kernel_rfl) (by kernel_rfl) (fun _ _ _ h => h) (by rfl) ?y2_3 (by assumption) ?r2_3
      case y2_3 => (intro w hSw; (try dsimp only at hSw); first | (go_simp; done) | (go_simp; with_reducible rfl))
      try simp only [Act.put, List.setIfInBounds_toArray, List.set_cons_zero, List.set_cons_succ]
      refine wpAnyH_takeD (i := 3) (some 35) (v := ?v3_4) rfl rfl (by kernel_rfl) (by kernel_rfl) (by kernel_rfl) (fun _ _ _ h => h) (by rfl) ?y3_4 (by assumption) ?r3_4
      case y3_4 => (intro w hSw; (try dsimp only at hSw); first | (go_simp; done) | (go_simp; with_reducible rfl))
      try simp only [Act.put, List.setIfInBounds_toArray, List.set_cons_zero, List.set_cons_succ]
      refine wpAnyH_takeD (i := 4) (some 36) (v := ?v4_5) rfl rfl (by kernel_rfl) (by kernel_rfl) (by kernel_rfl) (fun _ _ _ h => h) (by rfl) ?y4_5 (by assumption) ?r4_5
      case y4_5 => (intro w hSw; (try dsimp only at hSw); first | (go_simp; done) | (go_simp; with_reducible rfl))
      try simp only [Act.put, List.setIfInBounds_toArray, List.set_cons_zero, List.set_cons_succ]
      refine wpAnyH_takeD (i := 5) (some 37) (v := ?v5_6) rfl rfl (by kernel_rfl) (by kernel_rfl) (by kernel_rfl) (fun _ _ _ h => h) (by rfl) ?y5_6 (by assumption) ?r5_6
      case y5_6 => (intro w hSw; (try dsimp only at hSw); first | (go_simp; done) | (go_simp; with_reducible rfl))
      try simp only [Act.put, List.setIfInBounds_toArray, List.set_cons_zero, List.set_cons_succ]
      refine wpAnyH_takeD (i := 6) (some 38) (v := ?v6_7) rfl rfl (by kernel_rfl) (by kernel_rfl) (by kernel_rfl) (fun _ _ _ h => h) (by rfl) ?y6_7 (by assumption) ?r6_7
      case y6_7 => (intro w hSw; (try dsimp only at hSw); first | (go_simp; done) | (go_simp; with_reducible rfl))
      try simp only [Act.put, List.setIfInBounds_toArray, List.set_cons_zero, List.set_cons_succ]
      refine wpAnyH_takeD (i := 7) (some 39) (v := ?v7_8) rfl rfl (by kernel_rfl) (by kernel_rfl) (by kernel_rfl) (fun _ _ _ h => h) (by rfl) ?y7_8 (by assumption) ?r7_8
      case y7_8 => (intro w hSw; (try dsimp only at hSw); first | (go_simp; done) | (go_simp; with_reducible rfl))
      try simp only [Act.put, List.setIfInBounds_toArray, List.set_cons_zero, List.set_cons_succ]
      refine wpAnyH_ready (rs := [8]) (by kernel_rfl) (by simp) ?_
      refine AllReadyH.cons rfl (fun K hK => ?_) ?_
      · go_simp
        go_at_call 73
        refine (sound_calls H4.out.drew (up2 HSP.out) (fun p hp => ⟨HG.out.nm p (HPM.out.mem_iff.2 hp), HG.out.tx p (HPM.out.mem_iff.2 hp)⟩) (by rw [← HPM.out.length_eq]; exact HG.out.len)).mono ?_
        rintro z w5 ⟨rfl, h5⟩
        have H5 := hide (show St b (HP.fmap mf kf :: HP.fmap m kv :: HP.rd gr v2 :: L) w5 from h5.f2)
        clear h5 H4
        refine hK.out _ _ ?_ (fun hHeld => ?_)
        · exact ⟨H5.out.blk_cell mem2 1, conv_str H5.out (Reads.of_sl (up3 HM.out))⟩
        clear hK K
        try simp only [Act.put, List.setIfInBounds_toArray, List.set_cons_zero, List.set_cons_succ]
        refine wpAnyH_takeD (i := 9) (some 41) (v := ?v9_9) rfl rfl (by kernel_rfl) (by kernel_rfl) (by kernel_rfl) (fun _ _ _ h => h) (by rfl) ?y9_9 (by assumption) ?r9_9
        case y9_9 => (intro w hSw; (try dsimp only at hSw); first | (go_simp; done) | (go_simp; with_reducible rfl))
        try simp only [Act.put, List.setIfInBounds_toArray, List.set_cons_zero, List.set_cons_succ]
        refine wpAnyH_takeD (i := 10) (some 42) (v := ?v10_10) rfl rfl (by kernel_rfl) (by kernel_rfl) (by kernel_rfl) (fun _ _ _ h => h) (by rfl) ?y10_10 (by assumption) ?r10_10
        case y10_10 => (intro w hSw; (try dsimp only at hSw); first | (go_simp; done) | (go_simp; with_reducible rfl))
        try simp only [Act.put, List.setIfInBounds_toArray, List.set_cons_zero, List.set_cons_succ]
        refine wpAnyH_takeD (i := 11) (some 43) (v := ?v11_11) rfl rfl (by kernel_rfl) (by kernel_rfl) (by kernel_rfl) (fun _ _ _ h => h) (by rfl) ?y11_11 (by assumption) ?r11_11
        case y11_11 => (intro w hSw; (try dsimp only at hSw); first | (go_simp; done) | (go_simp; with_reducible rfl))
        try simp only [Act.put, List.setIfInBounds_toArray, List.set_cons_zero, List.set_cons_succ]
        refine wpAnyH_takeD (i := 12) (some 44) (v := ?v12_12) rfl rfl (by kernel_rfl) (by kernel_rfl) (by kernel_rfl) (fun _ _ _ h => h) (by rfl) ?y12_12 (by assumption) ?r12_12
        case y12_12 => (intro w hSw; (try dsimp only at hSw); first | (go_simp; done) | (go_simp; with_reducible rfl))
        try simp only [Act.put, List.setIfInBounds_toArray, List.set_cons_zero, List.set_cons_succ]
        refine wpAnyH_takeD (i := 15) (some 47) (v := ?v15_13) rfl rfl (by kernel_rfl) (by kernel_rfl) (by kernel_rfl) (fun _ _ _ h => h) (by rfl) ?y15_13 (by assumption) ?r15_13
        case y15_13 => (intro w hSw; (try dsimp only at hSw); first | (go_simp; done) | (go_simp; with_reducible rfl))
        try simp only [Act.put, List.setIfInBounds_toArray, List.set_cons_zero, List.set_cons_succ]
        refine wpAnyH_takeD (i := 16) (some 48) (v := .string ⟨l.toArray⟩) rfl rfl (by kernel_rfl) (by kernel_rfl) (by kernel_rfl) (fun _ _ _ h => h) (by rfl) ?y16_14 (by assumption) ?r16_14
        case y16_14 => (intro w hSw; exact run_convert_op rfl rfl hSw.2)
        try simp only [Act.put, List.setIfInBounds_toArray, List.set_cons_zero, List.set_cons_succ]
        refine wpAnyH_ready (rs := [13]) (by kernel_rfl) (by simp) ?_
        refine AllReadyH.cons rfl (fun K hK => ?_) ?_
        · go_simp
          go_at_call 46
          refine (changes_calls H5.out HF.out (by rw [HC2.out]; exact HG.out)).mono ?_
          rintro z w6 ⟨b6, n6, c6, rfl, hn6, h6⟩
          rw [HC2.out, HL.out] at h6
          have H6 := hide h6
          clear h6 hn6 H5
          refine hK.out _ _ ?_ (fun hHeld => ?_)
          · exact ⟨H6.out.blk_cell mem3 1, conv_str H6.out (Reads.of_sl (up4 HM.out))⟩
          clear hK K
          try simp only [Act.put, List.setIfInBounds_toArray, List.set_cons_zero, List.set_cons_succ]
          refine wpAnyH_takeD (i := 19) (some 4) (v := ?v19_15) rfl rfl (by kernel_rfl) (by kernel_rfl) (by kernel_rfl) (fun _ _ _ h => h) (by rfl) ?y19_15 (by assumption) ?r19_15
          case y19_15 => (intro w hSw; (try dsimp only at hSw); first | (go_simp; done) | (go_simp; with_reducible rfl))
          try simp only [Act.put, List.setIfInBounds_toArray, List.set_cons_zero, List.set_cons_succ]
          refine wpAnyH_ready (rs := [14]) (by kernel_rfl) (by simp) ?_
          refine AllReadyH.cons rfl (fun K hK => ?_) ?_
          · have cv6 := conv_str H6.out (Reads.of_rows mem0)
            go_simp
            refine hK.out _ _ ?_ (fun hHeld => ?_)
            · exact ⟨H6.out.blk_cell mem3 1, conv_str H6.out (Reads.of_sl (up4 HM.out))⟩
            clear hK K
            try simp only [Act.put, List.setIfInBounds_toArray, List.set_cons_zero, List.set_cons_succ]
            refine wpAnyH_takeD (i := 17) (some 49) (v := ?v17_16) rfl rfl (by kernel_rfl) (by kernel_rfl) (by kernel_rfl) (fun _ _ _ h => h) (by rfl) ?y17_16 (by assumption) ?r17_16
            case y17_16 => (intro w hSw; (try dsimp only at hSw); first | (go_simp; done) | (go_simp; with_reducible rfl))
            try simp only [Act.put, List.setIfInBounds_toArray, List.set_cons_zero, List.set_cons_succ]
            refine wpAnyH_takeD (i := 18) (some 50) (v := ?v18_17) rfl rfl (by kernel_rfl) (by kernel_rfl) (by kernel_rfl) (fun _ _ _ h => h) (by rfl) ?y18_17 (by assumption) ?r18_17
            case y18_17 => (intro w hSw; (try dsimp only at hSw); first | (go_simp; done) | (go_simp; with_reducible rfl))
            try simp only [Act.put, List.setIfInBounds_toArray, List.set_cons_zero, List.set_cons_succ]
            refine wpAnyH_takeD (i := 20) (some 5) (v := ?v20_18) rfl rfl (by kernel_rfl) (by kernel_rfl) (by kernel_rfl) (fun _ _ _ h => h) (by rfl) ?y20_18 (by assumption) ?r20_18
            case y20_18 => (intro w hSw; (try dsimp only at hSw); first | (go_simp; done) | (go_simp; with_reducible rfl))
            try simp only [Act.put, List.setIfInBounds_toArray, List.set_cons_zero, List.set_cons_succ]
            refine wpAnyH_done (by kernel_rfl) ?_ _
            clear hHeld
            go_wp2_with fail
            go_ret2
            exact ⟨m, rfl, kv, HC2.out, (H6.out.drop.pick [1, 0] 3 (by decide) (by decide) (by simp))⟩
          exact AllReadyH.nil
        exact AllReadyH.nil
      exact AllReadyH.nil
end Go.Proofs.YtcgnkloljfgiaaaGreatDoor
