/-
  package store: whole. package store: changes. package store: a reader of bytes: take, number, text.
-/
import Derived.Test.YtcgnkloljfgiaaaGreatDoorZb
import Derived.Test.YtcgnkloljfgiaaaGreatDoorGqd
import Derived.Test.YtcgnkloljfgiaaaGreatDoorSp
namespace Go.Proofs.YtcgnkloljfgiaaaGreatDoor
open Go.RowKit Go.Maps Go.MapKept
variable {b : Env} {L : List HP} {w : World}
theorem flat_take_le {α : Type} (F : List α) (f : α → Byt) (k : Nat) : ((F.take k).flatMap f).length ≤ (F.flatMap f).length := by
  have := congrArg (fun l : List α => (l.flatMap f).length) (List.take_append_drop k F)
  simp only [List.flatMap_append, List.length_append] at this
  omega
theorem set_short {F : List (Str × Str)} (h : OkF F) : (setB F).length ≤ 17000 := by
  rw [setB_len h]
  have h1 := tot_le h.tx
  have h2 := h.len
  have : 2000 * F.length ≤ 16000 := by omega
  omega
def WholeAt (b : Env) (L : List HP) (F : List (Str × Str)) (y : UInt8) (v3 i : Value) (wr : World) : Prop :=
  ∃ k : Nat, k ≤ F.length ∧ i = .int .i64 k ∧ ∃ base n cap, v3 = .slice base n cap ∧ n = (y :: (F.take k).flatMap fileB).length ∧ St b (HP.rows 5 byteE (.slice base n cap) (y :: (F.take k).flatMap fileB) :: L) wr
set_option linter.unusedSimpArgs false in
set_option maxRecDepth 100000 in
set_option maxHeartbeats 4000000 in
theorem whole_calls {m : Nat} {kvs : List (Str × Str)} (h : St b (HP.fmap m kvs :: L) w) (hF : OkF (canon kvs)) :
    Calls Tryz.prog 40 #[.map (some m)] w fun x w' => ∃ base n cap, x = .returned (.slice base n cap) ∧ n = (setB (canon kvs)).length ∧ St b (HP.rows 5 byteE (.slice base n cap) (setB (canon kvs)) :: HP.fmap m kvs :: L) w' := by
  have hnd : (keysOf kvs).Nodup := by obtain ⟨e, _, hs⟩ := h; exact hs.map_nodup
  have hpm := canon_mem hnd
  have htx : ∀ p ∈ kvs, p.2.length ≤ 1000000 := fun p hp => Nat.le_trans (hF.tx p (hpm.mem_iff.2 hp)) (by decide)
  obtain ⟨F, hFe⟩ : ∃ F, canon kvs = F := ⟨_, rfl⟩
  obtain ⟨n, hn⟩ : ∃ n, kvs.length = n := ⟨_, rfl⟩
  have hnF : F.length = n := by rw [← hFe, hpm.length_eq, hn]
  have ln := h.len_map (P := Tryz.prog) mem0 (t := 72) (ty := 3) mapFiles
  rw [hn] at ln
  rw [hFe] at hF ⊢
  have hn8 : n ≤ 8 := by rw [← hnF]; exact hF.len
  have hnI : (n : Int) ≤ 8 := by omega
  obtain ⟨y, hy⟩ : ∃ y : UInt8, UInt8.ofNat n = y := ⟨_, rfl⟩
  have hyv := u8_len n (by omega)
  rw [hy] at hyv
  have hset : setB F = y :: F.flatMap fileB := by unfold setB; rw [hnF, hy]
  have hsl := set_short hF
  rw [hset] at hsl ⊢
  have H := hide h
  have HF := hide hF
  have HFE := hide hFe
  have HN := hide hn
  have HNF := hide hnF
  have HY := hide hyv
  have HTX := hide htx
  have HSL := hide hsl
  clear h hnd hpm htx hFe hn hnF hF hy hyv hset hsl
  go_enter Tryz.func40, Tryz.ntmps40
  go_wp2_with (first
    | (refine wpList_build1_st (E := byteE) rfl (.tmp 8) slByte rfl y HY.out H.out ?_ ?_; exact (fun _ _ _ => ⟨rfl, trivial⟩); intro g1 w1 h1; have H1 := hide h1.f1; clear h1 H)
    | (go_at_call 47; refine (list_calls H1.out HTX.out (by rw [HN.out]; omega)).mono ?_; rintro x w2 ⟨bf, nf, cf, rfl, hnf, h2⟩; rw [HFE.out] at hnf h2; rw [HNF.out] at hnf; have hnf2 := hnf.symm; subst hnf2; have H2 := hide (h2.persist.f2); clear h2 H1))
  go_loopw [3, 13] (fun v3 i wr => WholeAt b (HP.sl pairE (.slice bf n cf) F :: HP.fmap m kvs :: L) F y v3 i wr) (fun _ i _ => n - (intOf i).toNat)
  case atStart => exact ⟨0, by omega, rfl, _, _, _, rfl, rfl, H2.out⟩
  case round =>
    obtain ⟨k, hk, rfl, b3, n3, c3, rfl, hn3, hs⟩ := hrel
    rw [HNF.out] at hk
    have HN3 := hide hn3
    clear H2 hn3
    by_cases hlt : k < n
    · have hlt' : (k : Int) < n := by omega
      have hkl : k < F.length := by rw [HNF.out]; exact hlt
      obtain ⟨gf, of, rfl⟩ := (Reads.of_sl (L := HP.rows 5 byteE (.slice b3 n3 c3) (y :: (F.take k).flatMap fileB) :: HP.sl pairE (.slice bf n cf) F :: HP.fmap m kvs :: L) mem1).base hs (by omega) (by decide)
      obtain ⟨hc, -, -⟩ := (Reads.of_sl (L := HP.rows 5 byteE (.slice b3 n3 c3) (y :: (F.take k).flatMap fileB) :: HP.sl pairE (.slice (some ⟨gf, of, none⟩) n cf) F :: HP.fmap m kvs :: L) mem1).pair_at hs hkl
      have hp : F[k] ∈ F := List.getElem_mem _
      have hnm := HF.out.nm _ hp
      have htx := HF.out.tx _ hp
      have hat : F.take (k + 1) = F.take k ++ [F[k]] := (List.take_append_getElem hkl).symm
      obtain ⟨s, hs1⟩ : ∃ s, F[k].1 = s := ⟨_, rfl⟩
      obtain ⟨t, ht1⟩ : ∃ t, F[k].2 = t := ⟨_, rfl⟩
      have hpe : F[k] = (s, t) := by rw [← hs1, ← ht1]
      rw [hs1] at hnm hc
      rw [ht1] at htx hc
      rw [hpe] at hat
      obtain ⟨l, hl⟩ : ∃ l, y :: (F.take k).flatMap fileB = l := ⟨_, rfl⟩
      have hll : l.length ≤ 17000 := by
        have h1 := flat_take_le F fileB k
        have h2 := HSL.out
        rw [← hl]
        simp only [List.length_cons] at h2 ⊢
        omega
      have hnx : y :: (F.take (k + 1)).flatMap fileB = l ++ nmB s ++ txB t := by
        rw [← hl, hat, List.flatMap_append]
        simp [fileB]
      have hns : (nmB s).length = 2 := nmB_len hnm
      have hs255 : s.length ≤ 255 := by obtain ⟨c, hc1, _⟩ := hnm; rw [hc1]; exact (show 1 ≤ 255 by decide)
      rw [hl] at hs
      have HC := hide hc
      have HONE := hide (two_cells s t)
      have HLS := hide (And.intro hs255 (And.intro (show l.length ≤ 100000 by omega) (And.intro (show t.length ≤ 65535 by omega) (show (l ++ nmB s).length ≤ 100000 by rw [List.length_append]; omega))))
      have HNX := hide hnx
      have H3 := hide hs
      have HKL := hide hkl
      clear hs hc hkl hp hnm htx hat hs1 ht1 hpe hl hll hnx hns hs255 HN3
      go_wp2_with (first
        | (with_reducible refine wpList_load_ag (cs := [sv s, sv t]) rfl agFile (.tmp 15) rfl rfl rfl HC.out ?_)
        | ((with_reducible refine wpList_alloc_ag rfl agFile rfl H3.out ?_); intro g4 w4 h4; have H4 := hide h4; clear h4 H3)
        | ((with_reducible refine wpList_store_ag (cs := [sv s, sv t]) rfl agFile (.tmp 5) (.tmp 16) rfl rfl rfl rfl rfl HONE.out H4.out ?_); intro w5 h5; have H5 := hide h5.f1; clear h5 H4))
      refine wp_region_held_drew (S := fun w' => w'.cell? ⟨g4, 0, none⟩ = some (sv s) ∧ w'.cell? ⟨g4, 1, none⟩ = some (sv t)) (by kernel_rfl) ?_ (fun hHeld => ?_)
      · exact ⟨H5.out.blk_cell mem1 0, H5.out.blk_cell mem1 1⟩
      refine wpAnyH_takeD (i := 0) (some 17) (v := ?v0_1) rfl rfl (by kernel_rfl) (by kernel_rfl) (by kernel_rfl) (fun _ _ _ h => h) (by rfl) ?y0_1 (by assumption) ?r0_1
      case y0_1 => (intro w hSw; (try dsimp only at hSw); first | (go_simp; done) | (go_simp; with_reducible rfl))
      try simp only [Act.put, List.setIfInBounds_toArray, List.set_cons_zero, List.set_cons_succ]
      refine wpAnyH_takeD (i := 1) (some 18) (v := ?v1_2) rfl rfl (by kernel_rfl) (by kernel_rfl) (by kernel_rfl) (fun _ _ _ h => h) (by rfl) ?y1_2 (by assumption) ?r1_2
      case y1_2 => (intro w hSw; (try dsimp only at hSw); first | (go_simp; done) | (go_simp; with_reducible rfl))
      try simp only [Act.put, List.setIfInBounds_toArray, List.set_cons_zero, List.set_cons_succ]
      refine wpAnyH_takeD (i := 2) (some 19) (v := ?v2_3) rfl rfl (by kernel_rfl) (by kernel_rfl) (by kernel_rfl) (fun _ _ _ h => h) (by rfl) ?y2_3 (by assumption) ?r2_3
      case y2_3 => (intro w hSw; (try dsimp only at hSw); first | (go_simp; done) | (go_simp; with_reducible rfl))
      try simp only [Act.put, List.setIfInBounds_toArray, List.set_cons_zero, List.set_cons_succ]
      refine wpAnyH_takeD (i := 4) (some 21) (v := ?v4_4) rfl rfl (by kernel_rfl) (by kernel_rfl) (by kernel_rfl) (fun _ _ _ h => h) (by rfl) ?y4_4 (by assumption) ?r4_4
      case y4_4 => (intro w hSw; (try dsimp only at hSw); first | (go_simp; done) | (go_simp; with_reducible rfl))
      try simp only [Act.put, List.setIfInBounds_toArray, List.set_cons_zero, List.set_cons_succ]
      refine wpAnyH_takeD (i := 5) (some 22) (v := ?v5_5) rfl rfl (by kernel_rfl) (by kernel_rfl) (by kernel_rfl) (fun _ _ _ h => h) (by rfl) ?y5_5 (by assumption) ?r5_5
      case y5_5 => (intro w hSw; (try dsimp only at hSw); first | (go_simp; done) | (go_simp; with_reducible rfl))
      try simp only [Act.put, List.setIfInBounds_toArray, List.set_cons_zero, List.set_cons_succ]
      refine wpAnyH_ready (rs := [3]) (by kernel_rfl) (by simp) ?_
      refine AllReadyH.cons rfl (fun K hK => ?_) ?_
      · go_simp
        go_at_call 72
        refine (nm_calls H5.out.drew HLS.out.1 HLS.out.2.1).mono ?_
        rintro z w6 ⟨b6, n6, c6, rfl, hn6, h6⟩
        have H6 := hide h6
        clear h6 hn6 H5
        refine hK.out _ _ ?_ (fun hHeld => ?_)
        · exact ⟨H6.out.blk_cell mem1 0, H6.out.blk_cell mem1 1⟩
        clear hK K
        try simp only [Act.put, List.setIfInBounds_toArray, List.set_cons_zero, List.set_cons_succ]
        refine wpAnyH_ready (rs := [6]) (by kernel_rfl) (by simp) ?_
        refine AllReadyH.cons rfl (fun K hK => ?_) ?_
        · go_simp
          go_at_call 71
          refine (tx_calls H6.out HLS.out.2.2.1 HLS.out.2.2.2).mono ?_
          rintro z w7 ⟨b7, n7, c7, rfl, hn7, h7⟩
          rw [← HNX.out] at h7 hn7
          have H7 := hide h7
          have HN7 := hide hn7
          clear h7 hn7 H6
          refine hK.out _ _ ?_ (fun hHeld => ?_)
          · exact ⟨H7.out.blk_cell mem1 0, H7.out.blk_cell mem1 1⟩
          clear hK K
          try simp only [Act.put, List.setIfInBounds_toArray, List.set_cons_zero, List.set_cons_succ]
          refine wpAnyH_takeD (i := 7) (some 3) (v := ?v7_6) rfl rfl (by kernel_rfl) (by kernel_rfl) (by kernel_rfl) (fun _ _ _ h => h) (by rfl) ?y7_6 (by assumption) ?r7_6
          case y7_6 => (intro w hSw; (try dsimp only at hSw); first | (go_simp; done) | (go_simp; with_reducible rfl))
          try simp only [Act.put, List.setIfInBounds_toArray, List.set_cons_zero, List.set_cons_succ]
          refine wpAnyH_done (by kernel_rfl) ?_ _
          clear hHeld
          go_wp2_with fail
          go_roundw
          case rel => exact ⟨k + 1, HKL.out, by go_num, _, _, _, rfl, HN7.out, H7.out.f1.drop⟩
          case measure => exact meas_step hlt
        exact AllReadyH.nil
      exact AllReadyH.nil
    · have hke : k = n := by omega
      subst hke
      have h3 := hs
      have hn3 := HN3.out
      rw [List.take_of_length_le (by rw [HNF.out]; exact Nat.le_refl _)] at h3 hn3
      have H3 := hide h3.f1.drop
      have HN4 := hide hn3
      clear hs h3 hn3 HN3
      go_wp2_with fail
      go_ret
      exact ⟨b3, n3, c3, rfl, HN4.out, H3.out⟩
end Go.Proofs.YtcgnkloljfgiaaaGreatDoor

namespace Go.Proofs.YtcgnkloljfgiaaaGreatDoor
open Go.RowKit Go.Maps Go.MapKept
variable {b : Env} {L : List HP} {w : World}
theorem szByte : (Tryz.prog.info? 5).map (·.size) = some ([(.int .u8 0 : Value)]).length := by kernel_rfl
theorem u8_next (n : Nat) (h : n < 255) : Value.int .u8 (((UInt8.ofNat n).toNat : Int) + 1) = B8 (UInt8.ofNat (n + 1)) := by
  unfold B8
  rw [UInt8.toNat_ofNat', UInt8.toNat_ofNat', Nat.mod_eq_of_lt (by omega), Nat.mod_eq_of_lt (by omega)]
  rfl
def chUp (F G : List (Str × Str)) (k : Nat) : List (Str × Option Str) := ((unionK F G).take k).filterMap fun s => if kget F s = kget G s then none else some (s, kget G s)
theorem chUp_all (F G : List (Str × Str)) : chUp F G (unionK F G).length = chN F G := by unfold chUp chN; rw [List.take_length]
theorem chUp_same {F G : List (Str × Str)} {k : Nat} (h : k < (unionK F G).length) (he : kget F (unionK F G)[k] = kget G (unionK F G)[k]) : chUp F G (k + 1) = chUp F G k := by
  unfold chUp
  rw [← List.take_append_getElem h, List.filterMap_append]
  simp [he]
theorem chUp_new {F G : List (Str × Str)} {k : Nat} (h : k < (unionK F G).length) (he : kget F (unionK F G)[k] ≠ kget G (unionK F G)[k]) : chUp F G (k + 1) = chUp F G k ++ [((unionK F G)[k], kget G (unionK F G)[k])] := by
  unfold chUp
  rw [← List.take_append_getElem h, List.filterMap_append]
  simp [he]
theorem chUp_len (F G : List (Str × Str)) (k : Nat) : (chUp F G k).length ≤ k := by
  unfold chUp
  refine Nat.le_trans (List.length_filterMap_le _ _) ?_
  rw [List.length_take]; omega
theorem chUp_bytes {F G : List (Str × Str)} (hF : OkF F) (hG : OkF G) (k : Nat) : ((chUp F G k).flatMap chB).length ≤ 17000 := by
  have e : (chUp F G k).flatMap chB = ((unionK F G).take k).flatMap (fun s => if kget F s = kget G s then [] else chB (s, kget G s)) := by
    unfold chUp
    generalize (unionK F G).take k = l
    induction l with
    | nil => rfl
    | cons s l ih =>
      by_cases h : kget F s = kget G s
      · rw [List.filterMap_cons_none (by rw [if_pos h]), List.flatMap_cons, if_pos h, ih]; rfl
      · rw [List.filterMap_cons_some (b := (s, kget G s)) (by rw [if_neg h]), List.flatMap_cons, List.flatMap_cons, if_neg h, ih]
  have e2 : (chN F G).flatMap chB = (unionK F G).flatMap (fun s => if kget F s = kget G s then [] else chB (s, kget G s)) := by
    unfold chN
    generalize unionK F G = l
    induction l with
    | nil => rfl
    | cons s l ih =>
      by_cases h : kget F s = kget G s
      · rw [List.filterMap_cons_none (by rw [if_pos h]), List.flatMap_cons, if_pos h, ih]; rfl
      · rw [List.filterMap_cons_some (b := (s, kget G s)) (by rw [if_neg h]), List.flatMap_cons, List.flatMap_cons, if_neg h, ih]
  have h1 := flat_take_le (unionK F G) (fun s => if kget F s = kget G s then [] else chB (s, kget G s)) k
  have h2 := changesB_len hF hG
  unfold changesB at h2
  rw [List.length_cons, e2] at h2
  have h3 := tot_le hG.tx
  have h4 := hG.len
  rw [e]
  have : 2000 * G.length ≤ 16000 := by omega
  omega
theorem union_join {kf kt kd : List (Str × Str)} (hd : (keysOf kd).Nodup) (hf : (keysOf kf).Nodup) (ht : (keysOf kt).Nodup) (h : KeysJoin kf kt kd) : sortS (keysOf kd) = unionK (canon kf) (canon kt) := by
  refine Inc.ext (inc_sortS hd) (inc_unionK (inc_canon hf).nodup (inc_canon ht).nodup) fun x => ?_
  rw [mem_sortS, mem_unionK, keysOf_canon, keysOf_canon, mem_sortS, mem_sortS]
  exact h x
def ChAt (b : Env) (L : List HP) (F G : List (Str × Str)) (v6 i : Value) (wr : World) : Prop :=
  ∃ k : Nat, k ≤ (unionK F G).length ∧ i = .int .i64 k ∧ ∃ g n cap, v6 = .slice (some ⟨g, 0, none⟩) n cap ∧ n = (UInt8.ofNat (chUp F G k).length :: (chUp F G k).flatMap chB).length ∧ St b (HP.rows 5 byteE (.slice (some ⟨g, 0, none⟩) n cap) (UInt8.ofNat (chUp F G k).length :: (chUp F G k).flatMap chB) :: L) wr
set_option linter.unusedSimpArgs false in
set_option maxRecDepth 100000 in
set_option maxHeartbeats 4000000 in
theorem changes_calls {mf mt : Nat} {kf kt : List (Str × Str)} (h : St b (HP.fmap mf kf :: HP.fmap mt kt :: L) w) (hF : OkF (canon kf)) (hG : OkF (canon kt)) :
    Calls Tryz.prog 46 #[.map (some mf), .map (some mt)] w fun x w' => ∃ base n cap, x = .returned (.slice base n cap) ∧ n = (changesB (canon kf) (canon kt)).length ∧ St b (HP.rows 5 byteE (.slice base n cap) (changesB (canon kf) (canon kt)) :: HP.fmap mf kf :: HP.fmap mt kt :: L) w' := by
  have hnf : (keysOf kf).Nodup := by obtain ⟨e, _, hs⟩ := h; exact hs.map_nodup
  have hnt : (keysOf kt).Nodup := by obtain ⟨e, _, hs⟩ := h.f1; exact hs.map_nodup
  have hl1 : kf.length ≤ 8 := by rw [← (canon_mem hnf).length_eq]; exact hF.len
  have hl2 : kt.length ≤ 8 := by rw [← (canon_mem hnt).length_eq]; exact hG.len
  obtain ⟨N, hN⟩ : ∃ N, (unionK (canon kf) (canon kt)).length = N := ⟨_, rfl⟩
  have hul := unionK_len (canon kf) (canon kt)
  have hN16 : N ≤ 16 := by have := hF.len; have := hG.len; omega
  have hNI : (N : Int) ≤ 16 := by omega
  have H := hide h
  have HF := hide hF
  have HG := hide hG
  have HNF := hide hnf
  have HNT := hide hnt
  have HN := hide hN
  clear h hF hG hnf hnt hN hul
  go_enter Tryz.func46, Tryz.ntmps46
  go_wp2_with (first
    | (go_at_call 74; refine (mapclone_calls H.out).mono ?_; rintro x w1 ⟨m2, rfl, h1⟩; have H1 := hide h1.b2.f1.f2; clear h1 H)
    | (go_at_call 75; refine (copy_calls H1.out).mono ?_; rintro x w2 ⟨rfl, kd, hkj, hkl, h2⟩; have H2 := hide h2; have HKJ := hide hkj; have HKL := hide hkl; clear h2 hkj hkl H1)
    | (refine wpList_build1_st (E := byteE) rfl (.const (.int .u8 0)) slByte rfl 0 rfl H2.out ?_ ?_; exact (fun _ _ _ => ⟨rfl, trivial⟩); intro g3 w3 h3; have H3 := hide h3.f1; clear h3 H2)
    | (go_at_call 76; refine (names_calls H3.out (by have := HKL.out; omega)).mono ?_; rintro x w4 ⟨bn, nn, cn, rfl, hnn, h4⟩; have H4 := hide h4; have HNN := hide hnn; clear h4 hnn H3))
  have huj := union_join (by obtain ⟨e, _, hs⟩ := H4.out.drop; exact hs.map_nodup) HNF.out HNT.out HKJ.out
  have hnn := HNN.out
  rw [huj, HN.out] at hnn
  have h4 := H4.out
  rw [huj] at h4
  have hnn2 := hnn.symm
  subst hnn2
  have H5 := hide h4.f2
  clear hnn h4 huj H4 HNN HKJ HKL
  go_loopw [6, 22] (fun v6 i wr => ChAt b (HP.sl strE (.slice bn N cn) (unionK (canon kf) (canon kt)) :: HP.fmap m2 kd :: HP.fmap mt kt :: HP.fmap mf kf :: L) (canon kf) (canon kt) v6 i wr) (fun _ i _ => N - (intOf i).toNat)
  case atStart => exact ⟨0, by omega, rfl, g3, 1, 1, rfl, rfl, H5.out⟩
  case round =>
    obtain ⟨k, hk, rfl, g, n, cap, rfl, hn, hs⟩ := hrel
    rw [HN.out] at hk
    have HN5 := hide hn
    clear H5 hn
    by_cases hlt : k < N
    · have hlt' : (k : Int) < N := by omega
      have hku : k < (unionK (canon kf) (canon kt)).length := by rw [HN.out]; exact hlt
      obtain ⟨gu, ou, rfl⟩ := hs.sl_base mem1 (by omega) Nat.one_pos
      have hc := (hs.sc_at mem1 (i := k) hku).1
      obtain ⟨s, hse⟩ : ∃ s, (unionK (canon kf) (canon kt))[k] = s := ⟨_, rfl⟩
      have hsm : s ∈ unionK (canon kf) (canon kt) := by rw [← hse]; exact List.getElem_mem _
      have hnm : Nm s := by
        rcases mem_unionK.1 hsm with h | h
        · obtain ⟨p, hp, rfl⟩ := List.mem_map.1 h; exact HF.out.nm p hp
        · obtain ⟨p, hp, rfl⟩ := List.mem_map.1 h; exact HG.out.nm p hp
      have hsok := nm_ok hnm
      have hs255 : s.length ≤ 255 := by obtain ⟨c, hc1, _⟩ := hnm; rw [hc1]; exact (show 1 ≤ 255 by decide)
      rw [hse] at hc
      have lu1 := hs.lookup (P := Tryz.prog) (t := 72) keyStr mem4 mapFiles (Tryz.zeroValue9 _) s hsok true
      have lu2 := hs.lookup (P := Tryz.prog) (t := 72) keyStr mem3 mapFiles (Tryz.zeroValue9 _) s hsok true
      obtain ⟨C, hC⟩ : ∃ C, (chUp (canon kf) (canon kt) k).length = C := ⟨_, rfl⟩
      obtain ⟨R, hR⟩ : ∃ R, (chUp (canon kf) (canon kt) k).flatMap chB = R := ⟨_, rfl⟩
      have hCl : C ≤ 16 := by rw [← hC]; have := chUp_len (canon kf) (canon kt) k; omega
      have hRl : R.length ≤ 17000 := by rw [← hR]; exact chUp_bytes HF.out HG.out k
      obtain ⟨y, hy⟩ : ∃ y, UInt8.ofNat C = y := ⟨_, rfl⟩
      obtain ⟨y2, hy2⟩ : ∃ y, UInt8.ofNat (C + 1) = y := ⟨_, rfl⟩
      have hyy := u8_next C (by omega)
      have hyI : (y.toNat : Int) ≤ 16 := by rw [← hy, UInt8.toNat_ofNat']; omega
      have hyw : IntKind.u8.wrap ((y.toNat : Int) + 1) = (y.toNat : Int) + 1 := by show ((y.toNat : Int) + 1) % 256 = _; omega
      rw [hy, hy2] at hyy
      obtain ⟨l, hl⟩ : ∃ l, y :: R = l := ⟨_, rfl⟩
      have hll : l.length ≤ 17001 := by rw [← hl, List.length_cons]; omega
      rw [hC, hR, hy, hl] at hs
      have HY2 := hide hyy
      have H5 := hide hs
      obtain ⟨o1, ho1⟩ : ∃ o, kget kf s = o := ⟨_, rfl⟩
      obtain ⟨o2, ho2⟩ : ∃ o, kget kt s = o := ⟨_, rfl⟩
      rw [ho1] at lu1
      rw [ho2] at lu2
      have ho12 : o1 = none → o2 = none → False := fun e1 e2 => by
        rcases mem_unionK.1 hsm with h | h
        · have := kget_isSome.2 h; rw [kget_canon, ho1, e1] at this; cases this
        · have := kget_isSome.2 h; rw [kget_canon, ho2, e2] at this; cases this
      clear hs hyy hsm hsok hCl hRl
      rcases o2 with _ | now
      · rcases o1 with _ | was
        · exact (ho12 rfl rfl).elim
        clear ho12
        have hne : kget (canon kf) (unionK (canon kf) (canon kt))[k] ≠ kget (canon kt) (unionK (canon kf) (canon kt))[k] := by rw [hse, kget_canon, kget_canon, ho1, ho2]; intro e; cases e
        have hup := chUp_new hku hne
        rw [hse, kget_canon, ho2] at hup
        have hnx : l ++ [0] ++ nmB s = y :: (R ++ chB (s, none)) := by rw [← hl]; simp [chB]
        have hny : UInt8.ofNat (chUp (canon kf) (canon kt) (k + 1)).length :: (chUp (canon kf) (canon kt) (k + 1)).flatMap chB = y2 :: (R ++ chB (s, none)) := by
          rw [hup, List.length_append, List.flatMap_append, hR, hC]; simp [← hy2]
        have Q := hide (And.intro (show l.length + ([0] : Byt).length ≤ maxLen by simp only [List.length_cons, List.length_nil]; unfold maxLen; omega) (And.intro (show (l.length + ([0] : Byt).length) * 1 ≤ 140737488355328 by simp only [List.length_cons, List.length_nil]; omega) (And.intro hs255 (And.intro (show (l ++ [0] : Byt).length ≤ 100000 by rw [List.length_append]; simp only [List.length_cons, List.length_nil]; omega) trivial))))
        have HNX := hide hnx
        have HNY := hide hny
        have HKL := hide (show k + 1 ≤ (unionK (canon kf) (canon kt)).length from hku)
        clear hne hup hnx hny hku hse ho1 ho2 hC hR hl hll hs255 hnm
        go_wp2_with (first
          | (refine wpList_build1_st (E := byteE) rfl (.const (.int .u8 0)) slByte rfl 0 rfl H5.out ?_ ?_; exact (fun _ _ _ => ⟨rfl, trivial⟩); intro g6 w6 h6; have H6 := hide h6.f1; clear h6 H5)
          | (at_builtin; refine wpList_append_st (E := byteE) rfl (.tmp 59) (.tmp 60) slByte rfl H6.out (Src.of_rows mem1) rfl rfl Q.out.1 Q.out.2.1 ?_; intro b7 n7 c7 w7 hn7 h7; have H7 := hide h7.f1.drop; clear h7 H6 hn7)
          | (go_at_call 72; refine (nm_calls H7.out Q.out.2.2.1 Q.out.2.2.2.1).mono ?_; rintro z w9 ⟨b9, n9, c9v, rfl, hn9, h9⟩; rw [HNX.out] at h9 hn9; have hp9 : 0 < n9 := (by rw [hn9]; simp); have hp9I : (0 : Int) < n9 := (by omega); obtain ⟨g9, rfl⟩ := h9.rows_base mem0 (by simp); have c9 : w9.cell? ⟨g9, 0, none⟩ = some (.int .u8 (y.toNat : Int)) := (h9.sc_row_at mem0 (i := 0) (by simp)).1; have H9 := hide h9; have HN9 := hide hn9; clear h9 hn9; clear H7)
          | (refine wpList_storeE_st (E := byteE) (cs := [.int .u8 ((y.toNat : Int) + 1)]) rfl 5 (.tmp 68) (.tmp 67) rfl 0 szByte rfl rfl rfl H9.out (by simp) (x' := y2) (fun e hl hs => ⟨by rw [HY2.out], trivial⟩) ?_; intro w10 h10; simp only [List.set_cons_zero] at h10; rw [← HNY.out] at h10; have H10 := hide h10; clear h10 H9))
        go_roundw
        case rel => exact ⟨k + 1, HKL.out, by go_num, g9, n9, c9v, rfl, by rw [HN9.out, HNY.out]; simp, H10.out⟩
        case measure => exact meas_step hlt
      · clear ho12
        rcases o1 with _ | was
        · clear hk
          have hne : kget (canon kf) (unionK (canon kf) (canon kt))[k] ≠ kget (canon kt) (unionK (canon kf) (canon kt))[k] := by rw [hse, kget_canon, kget_canon, ho1, ho2]; intro e; cases e
          have hup := chUp_new hku hne
          rw [hse, kget_canon, ho2] at hup
          have hnx : l ++ [1] ++ nmB s ++ txB now = y :: (R ++ chB (s, some now)) := by rw [← hl]; simp [chB]
          have hny : UInt8.ofNat (chUp (canon kf) (canon kt) (k + 1)).length :: (chUp (canon kf) (canon kt) (k + 1)).flatMap chB = y2 :: (R ++ chB (s, some now)) := by
            rw [hup, List.length_append, List.flatMap_append, hR, hC]; simp [← hy2]
          have htx : now.length ≤ 2000 := by have := kget_mem ho2; exact HG.out.tx _ ((canon_mem HNT.out).mem_iff.2 this)
          have Q := hide (And.intro (show l.length + ([1] : Byt).length ≤ maxLen by simp only [List.length_cons, List.length_nil]; unfold maxLen; omega) (And.intro (show (l.length + ([1] : Byt).length) * 1 ≤ 140737488355328 by simp only [List.length_cons, List.length_nil]; omega) (And.intro hs255 (And.intro (show (l ++ [1] : Byt).length ≤ 100000 by rw [List.length_append]; simp only [List.length_cons, List.length_nil]; omega) (And.intro (show now.length ≤ 65535 by omega) (show (l ++ [1] ++ nmB s : Byt).length ≤ 100000 by rw [List.length_append, List.length_append, nmB_len hnm]; simp only [List.length_cons, List.length_nil]; omega))))))
          have HNX := hide hnx
          have HNY := hide hny
          have HKL := hide (show k + 1 ≤ (unionK (canon kf) (canon kt)).length from hku)
          clear hne hup hnx hny hku hse ho1 ho2 hC hR hl hll hs255 hnm
          go_wp2_with (first
            | (refine wpList_build1_st (E := byteE) rfl (.const (.int .u8 1)) slByte rfl 1 rfl H5.out ?_ ?_; exact (fun _ _ _ => ⟨rfl, trivial⟩); intro g6 w6 h6; have H6 := hide h6.f1; clear h6 H5)
            | (at_builtin; refine wpList_append_st (E := byteE) rfl (.tmp 49) (.tmp 50) slByte rfl H6.out (Src.of_rows mem1) rfl rfl Q.out.1 Q.out.2.1 ?_; intro b7 n7 c7 w7 hn7 h7; have H7 := hide h7.f1.drop; clear h7 H6 hn7)
            | (go_at_call 72; refine (nm_calls H7.out Q.out.2.2.1 Q.out.2.2.2.1).mono ?_; rintro z w8 ⟨b8, n8, c8, rfl, hn8, h8⟩; have H8 := hide h8; clear h8 hn8 H7)
            | (go_at_call 71; refine (tx_calls H8.out Q.out.2.2.2.2.1 Q.out.2.2.2.2.2).mono ?_; rintro z w9 ⟨b9, n9, c9v, rfl, hn9, h9⟩; rw [HNX.out] at h9 hn9; have hp9 : 0 < n9 := (by rw [hn9]; simp); have hp9I : (0 : Int) < n9 := (by omega); obtain ⟨g9, rfl⟩ := h9.rows_base mem0 (by simp); have c9 : w9.cell? ⟨g9, 0, none⟩ = some (.int .u8 (y.toNat : Int)) := (h9.sc_row_at mem0 (i := 0) (by simp)).1; have H9 := hide h9; have HN9 := hide hn9; clear h9 hn9; clear H8)
            | (refine wpList_storeE_st (E := byteE) (cs := [.int .u8 ((y.toNat : Int) + 1)]) rfl 5 (.tmp 68) (.tmp 67) rfl 0 szByte rfl rfl rfl H9.out (by simp) (x' := y2) (fun e hl hs => ⟨by rw [HY2.out], trivial⟩) ?_; intro w10 h10; simp only [List.set_cons_zero] at h10; rw [← HNY.out] at h10; have H10 := hide h10; clear h10 H9))
          go_roundw
          case rel => exact ⟨k + 1, HKL.out, by go_num, g9, n9, c9v, rfl, by rw [HN9.out, HNY.out]; simp, H10.out⟩
          case measure => exact meas_step hlt
        · by_cases hb0 : was = now
          · have hbe : (was == now) = true := beq_iff_eq.2 hb0
            have he : kget (canon kf) (unionK (canon kf) (canon kt))[k] = kget (canon kt) (unionK (canon kf) (canon kt))[k] := by rw [hse, kget_canon, kget_canon, ho1, ho2, hb0]
            have hup := chUp_same hku he
            have HUP := hide hup
            have HKL := hide (show k + 1 ≤ (unionK (canon kf) (canon kt)).length from hku)
            have HL := hide (show UInt8.ofNat (chUp (canon kf) (canon kt) k).length :: (chUp (canon kf) (canon kt) k).flatMap chB = l by rw [hC, hR, ← hl]; congr 1)
            clear he hup hku hse ho1 ho2 hC hR hl hll hs255 hnm hb0
            go_wp2_with fail
            go_roundw
            case rel => exact ⟨k + 1, HKL.out, by go_num, g, n, cap, rfl, by rw [HUP.out]; exact HN5.out, by rw [HUP.out, HL.out]; exact H5.out⟩
            case measure => exact meas_step hlt
          · have hbe : (was == now) = false := beq_eq_false_iff_ne.2 hb0
            have hne : kget (canon kf) (unionK (canon kf) (canon kt))[k] ≠ kget (canon kt) (unionK (canon kf) (canon kt))[k] := by rw [hse, kget_canon, kget_canon, ho1, ho2]; intro e; exact hb0 (Option.some.inj e)
            have hup := chUp_new hku hne
            rw [hse, kget_canon, ho2] at hup
            have hnx : l ++ [1] ++ nmB s ++ txB now = y :: (R ++ chB (s, some now)) := by rw [← hl]; simp [chB]
            have hny : UInt8.ofNat (chUp (canon kf) (canon kt) (k + 1)).length :: (chUp (canon kf) (canon kt) (k + 1)).flatMap chB = y2 :: (R ++ chB (s, some now)) := by
              rw [hup, List.length_append, List.flatMap_append, hR, hC]; simp [← hy2]
            have htx : now.length ≤ 2000 := by have := kget_mem ho2; exact HG.out.tx _ ((canon_mem HNT.out).mem_iff.2 this)
            have Q := hide (And.intro (show l.length + ([1] : Byt).length ≤ maxLen by simp only [List.length_cons, List.length_nil]; unfold maxLen; omega) (And.intro (show (l.length + ([1] : Byt).length) * 1 ≤ 140737488355328 by simp only [List.length_cons, List.length_nil]; omega) (And.intro hs255 (And.intro (show (l ++ [1] : Byt).length ≤ 100000 by rw [List.length_append]; simp only [List.length_cons, List.length_nil]; omega) (And.intro (show now.length ≤ 65535 by omega) (show (l ++ [1] ++ nmB s : Byt).length ≤ 100000 by rw [List.length_append, List.length_append, nmB_len hnm]; simp only [List.length_cons, List.length_nil]; omega))))))
            have HNX := hide hnx
            have HNY := hide hny
            have HKL := hide (show k + 1 ≤ (unionK (canon kf) (canon kt)).length from hku)
            clear hne hup hnx hny hku hse ho1 ho2 hC hR hl hll hs255 hnm
            go_wp2_with (first
              | (refine wpList_build1_st (E := byteE) rfl (.const (.int .u8 1)) slByte rfl 1 rfl H5.out ?_ ?_; exact (fun _ _ _ => ⟨rfl, trivial⟩); intro g6 w6 h6; have H6 := hide h6.f1; clear h6 H5)
              | (at_builtin; refine wpList_append_st (E := byteE) rfl (.tmp 49) (.tmp 50) slByte rfl H6.out (Src.of_rows mem1) rfl rfl Q.out.1 Q.out.2.1 ?_; intro b7 n7 c7 w7 hn7 h7; have H7 := hide h7.f1.drop; clear h7 H6 hn7)
              | (go_at_call 72; refine (nm_calls H7.out Q.out.2.2.1 Q.out.2.2.2.1).mono ?_; rintro z w8 ⟨b8, n8, c8, rfl, hn8, h8⟩; have H8 := hide h8; clear h8 hn8 H7)
              | (go_at_call 71; refine (tx_calls H8.out Q.out.2.2.2.2.1 Q.out.2.2.2.2.2).mono ?_; rintro z w9 ⟨b9, n9, c9v, rfl, hn9, h9⟩; rw [HNX.out] at h9 hn9; have hp9 : 0 < n9 := (by rw [hn9]; simp); have hp9I : (0 : Int) < n9 := (by omega); obtain ⟨g9, rfl⟩ := h9.rows_base mem0 (by simp); have c9 : w9.cell? ⟨g9, 0, none⟩ = some (.int .u8 (y.toNat : Int)) := (h9.sc_row_at mem0 (i := 0) (by simp)).1; have H9 := hide h9; have HN9 := hide hn9; clear h9 hn9; clear H8)
              | (refine wpList_storeE_st (E := byteE) (cs := [.int .u8 ((y.toNat : Int) + 1)]) rfl 5 (.tmp 68) (.tmp 67) rfl 0 szByte rfl rfl rfl H9.out (by simp) (x' := y2) (fun e hl hs => ⟨by rw [HY2.out], trivial⟩) ?_; intro w10 h10; simp only [List.set_cons_zero] at h10; rw [← HNY.out] at h10; have H10 := hide h10; clear h10 H9))
            go_roundw
            case rel => exact ⟨k + 1, HKL.out, by go_num, g9, n9, c9v, rfl, by rw [HN9.out, HNY.out]; simp, H10.out⟩
            case measure => exact meas_step hlt
    · have hke : k = N := by omega
      subst hke
      have h6 := hs
      have hn6 := HN5.out
      rw [← HN.out, chUp_all] at h6 hn6
      have H6 := hide h6
      have HN6 := hide hn6
      clear hs h6 hn6
      go_wp2_with fail
      go_ret
      exact ⟨_, n, cap, rfl, HN6.out, (H6.out.f1.drop.f1.drop).f2.f2.f1.f2⟩
end Go.Proofs.YtcgnkloljfgiaaaGreatDoor

namespace Go.Proofs.YtcgnkloljfgiaaaGreatDoor
open Go.RowKit Go.Maps Go.MapKept
variable {b : Env} {L : List HP} {w : World}
theorem szBool : (Tryz.prog.info? 4).map (·.size) = some 1 := by kernel_rfl
theorem szBytes : (Tryz.prog.info? 37).map (·.size) = some 1 := by kernel_rfl
abbrev HP.rd (gr : Nat) (v : Value) : HP := HP.blk gr (.cells ([v, .bool false] : List Value).toArray 170)
set_option linter.unusedSimpArgs false in
set_option maxRecDepth 100000 in
set_option maxHeartbeats 4000000 in
theorem take_calls {gr : Nat} {v : Value} {l : Byt} (h : St b (HP.rd gr v :: L) w) (hm : HP.sl byteE v l ∈ L) (n : Nat) (hn : n ≤ l.length) :
    Calls Tryz.prog 118 #[.pointer (some ⟨gr, 0, none⟩), .int .i64 n] w
      fun x w' => ∃ b1 c1, x = .returned (.slice b1 n c1) ∧ ∃ v2, St b (HP.rd gr v2 :: HP.sl byteE (.slice b1 n c1) (l.take n) :: HP.sl byteE v2 (l.drop n) :: L) w' := by
  obtain ⟨b0, c0, rfl, u1, u2⟩ := h.sl_form (List.mem_cons_of_mem _ hm)
  obtain ⟨b1, c1, hr1, h1⟩ := St.slice_to (P := Tryz.prog) slByte h (List.mem_cons_of_mem _ hm) n hn .i64
  obtain ⟨b2, c2, hr2, h2⟩ := St.slice_from (P := Tryz.prog) slByte h1 (List.mem_cons_of_mem _ (List.mem_cons_of_mem _ hm)) n hn .i64
  obtain ⟨m, hlm⟩ : ∃ m, l.length = m := ⟨_, rfl⟩
  rw [hlm] at hr1 hr2 h1 h2 h hn
  have hmI : (m : Int) ≤ 9223372036854775807 := by unfold maxLen at u2; omega
  have hnI : (n : Int) ≤ m := by omega
  have hnm : ¬ (m : Int) < n := by omega
  have H := hide h2.f2
  have d0 : w.cell? ⟨gr, 0, none⟩ = some (.slice b0 m c0) := h.blk_cell mem0 0
  have d1 : w.cell? ⟨gr, 1, none⟩ = some (.bool false) := h.blk_cell mem0 1
  clear h h1 h2 u1 u2
  go_enter Tryz.func118, Tryz.ntmps118
  go_wp2_with (first
    | ((with_reducible refine wpList_storeF_st (cs := [.slice b0 m c0, .bool false]) (ds := [.slice b0 m c0, .bool false]) rfl 4 (.tmp 21) (.tmp 19) rfl szBool rfl rfl rfl rfl H.out (by simp) rfl ?_); intro w1 h3; have e0 : w1.cell? ⟨gr, 0, none⟩ = some (.slice b0 m c0) := h3.blk_cell mem0 0; have e1 : w1.cell? ⟨gr, 1, none⟩ = some (.bool false) := h3.blk_cell mem0 1; have H3 := hide h3; clear h3 H)
    | ((refine wpList_storeF_st (cs := [.slice b0 m c0, .bool false]) (ds := [.slice b2 (m - n) c2, .bool false]) rfl 37 (.tmp 42) (.tmp 40) rfl szBytes rfl rfl rfl rfl H3.out (by simp) rfl ?_); intro w2 h4; have H4 := hide h4; clear h4 H3))
  go_ret
  exact ⟨b1, c1, rfl, _, H4.out.pick [0, 2, 1] 3 (by decide) (by decide) (by simp)⟩
set_option linter.unusedSimpArgs false in
set_option maxRecDepth 100000 in
set_option maxHeartbeats 4000000 in
theorem number_calls {gr : Nat} {v : Value} {l : Byt} (h : St b (HP.rd gr v :: L) w) (hm : HP.sl byteE v l ∈ L) (n : Nat) (hn : n ≤ l.length) (h4 : n ≤ 4) :
    Calls Tryz.prog 94 #[.pointer (some ⟨gr, 0, none⟩), .int .i64 n] w
      fun x w' => x = .returned (.int .i64 (numB (l.take n) : Nat)) ∧ ∃ v2, St b (HP.rd gr v2 :: HP.sl byteE v2 (l.drop n) :: L) w' := by
  have hlen : (l.take n).length = n := by rw [List.length_take]; omega
  have hnI : (n : Int) ≤ 4 := by omega
  obtain ⟨t, ht⟩ : ∃ t, l.take n = t := ⟨_, rfl⟩
  rw [ht] at hlen ⊢
  have H := hide h
  have HM := hide hm
  have HT := hide ht
  have HLEN := hide hlen
  have HNL := hide hn
  clear h hm ht hlen hn
  go_enter Tryz.func94, Tryz.ntmps94
  go_wp2_with (first
    | (go_at_call 118; refine (take_calls H.out HM.out n HNL.out).mono ?_; rintro x w1 ⟨b1, c1, rfl, v2, h1⟩; rw [HT.out] at h1; have H1 := hide h1; clear h1 H))
  go_loopw [5, 12] (fun v5 i wr => ToldAt w1 t v5 i wr) (fun _ i _ => n - (intOf i).toNat)
  case atStart => exact ⟨0, by omega, rfl, rfl, rfl⟩
  case round =>
    obtain ⟨k, hk, rfl, rfl, rfl⟩ := hrel
    rw [HLEN.out] at hk
    by_cases hlt : k < n
    · have hlt' : (k : Int) < n := by omega
      have hkt : k < t.length := by rw [HLEN.out]; exact hlt
      obtain ⟨g, o, rfl⟩ := H1.out.sl_base mem1 (by omega) Nat.one_pos
      have hcc : w1.cell? ⟨g, o + k, none⟩ = some (.int .u8 (t[k].toNat : Int)) := (H1.out.sc_at mem1 (i := k) hkt).1
      have hsu := numB_succ hkt
      have hml := numB_lt (t.take k)
      rw [List.length_take, Nat.min_eq_left (by omega)] at hml
      have hor := or_add (numB (t.take k)) t[k].toNat k hml t[k].toNat_lt (by omega)
      rw [← hsu] at hor
      have HOR := hide hor
      have HKT := hide hkt
      clear hsu hml hor
      generalize t[k].toNat = x at hcc HOR
      generalize numB (t.take k) = m at HOR ⊢
      clear hkt
      go_wp2_with fail
      go_roundw
      case rel => exact ⟨k + 1, HKT.out, by go_num, by rw [HOR.out], rfl⟩
      case measure => exact meas_step hlt
    · go_wp2_with fail
      go_ret
      have hk2 : k = t.length := by rw [HLEN.out]; omega
      exact ⟨by rw [hk2, List.take_of_length_le (Nat.le_refl _)]; rfl, _, H1.out.f1.drop⟩
set_option linter.unusedSimpArgs false in
set_option maxRecDepth 100000 in
set_option maxHeartbeats 4000000 in
theorem text_calls {gr : Nat} {v : Value} {l : Byt} (h : St b (HP.rd gr v :: L) w) (hm : HP.sl byteE v l ∈ L) (n : Nat) (h4 : n ≤ 4) (hn : n + numB (l.take n) ≤ l.length) :
    Calls Tryz.prog 95 #[.pointer (some ⟨gr, 0, none⟩), .int .i64 n] w
      fun x w' => x = .returned (.string ⟨((l.drop n).take (numB (l.take n))).toArray⟩) ∧ ∃ v2, St b (HP.rd gr v2 :: HP.sl byteE v2 ((l.drop n).drop (numB (l.take n))) :: L) w' := by
  obtain ⟨q, hq⟩ : ∃ q, numB (l.take n) = q := ⟨_, rfl⟩
  have hn1 : n ≤ l.length := by omega
  have hn2 : q ≤ (l.drop n).length := by rw [List.length_drop]; omega
  rw [hq]
  have H := hide h
  have HM := hide hm
  have HQ := hide hq
  have HN1 := hide hn1
  have HN2 := hide hn2
  clear h hm hq hn1 hn2 hn
  go_enter Tryz.func95, Tryz.ntmps95
  go_wp2_with (first
    | (go_at_call 94; refine (number_calls H.out HM.out n HN1.out h4).mono ?_; rintro x w1 ⟨rfl, v2, h1⟩; rw [HQ.out]; have H1 := hide h1; clear h1 H)
    | (go_at_call 118; refine (take_calls H1.out mem0 q HN2.out).mono ?_; rintro x w2 ⟨b2, c2, rfl, v3, h2⟩; have cv := conv_str h2 (Reads.of_sl mem1); have H2 := hide h2; clear h2 H1))
  go_ret
  exact ⟨rfl, _, H2.out.pick [0, 2] 4 (by decide) (by decide) (by simp)⟩
end Go.Proofs.YtcgnkloljfgiaaaGreatDoor
