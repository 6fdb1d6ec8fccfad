/-
  deadboltlaw6: Prog, its functions exchanged.
-/
import Derived.Test.YtmebmgbjpbapjaaP4
import Derived.Test.YtmebmgbjpbapjaaSs
import Derived.Test.YtmebmgbjpbapjaaGqd
namespace Go.Proofs.Ytmebmgbjpbapjaa
open Go.RowKit Go.Maps Go.MapKept
variable {b : Env} {L : List HP} {w : World}
theorem szFunc3 : (Try.prog.info? 48).map (·.size) = some 3 := by kernel_rfl

set_option linter.unusedSimpArgs false in
set_option maxRecDepth 100000 in
set_option maxHeartbeats 8000000 in
theorem prog6e_calls (h : St b L w) {v1 v2 v3 v4 : Value} (l1 l2 l3 l4 : Raws) (h1 : HP.sl rawE v1 l1.toL ∈ L) (h2 : HP.sl rawE v2 l2.toL ∈ L) (h3 : HP.sl rawE v3 l3.toL ∈ L) (h4 : HP.sl rawE v4 l4.toL ∈ L)
    (s1 : l1.size ≤ 1000) (s2 : l2.size ≤ 1000) (s3 : l3.size ≤ 1000) (s4 : l4.size ≤ 1000) (t : Int) (ht1 : -9223372036854775808 ≤ t) (ht2 : t ≤ 9223372036854775807) (heven : t % 2 = 0) :
    Calls Try.prog 19 #[v1, v2, v3, v4, .int .i64 t] w fun x w' => ∃ vv vl vf, x = .returned (.agg #[vv, vl, vf]) ∧ St b (HP.sl funcE vf (funcsR l1 l2 l3 l4 t) :: HP.sl declE vl (locksR t) :: HP.sl declE vv varsR :: L) w' := by
  have H := hide h
  have M1 := hide h1
  have M2 := hide h2
  have M3 := hide h3
  have M4 := hide h4
  have C2 : Hid (∀ w, Calls Try.prog 42 #[.int .i64 t, .int .i64 2] w (fun e w' => e = .returned (.int .i64 0) ∧ w = w')) := hide (fun w => (within6_calls t 2 (by decide) (by decide) ht1 ht2).mono (fun e w' he => ⟨by rw [he.1, heven], he.2⟩))
  have HF : Hid (funcsR l1 l2 l3 l4 t = [⟨sG, 0, blockR l3⟩, ⟨sF, 0, blockR l2⟩, ⟨sMain, 0, blockR l1⟩, ⟨sH, 0, blockR l4⟩]) := hide (by unfold funcsR; rw [if_pos heven])
  have ONE : ∀ (a c d : Value), a.oneCell' = true → c.oneCell' = true → d.oneCell' = true → ∀ v ∈ [a, c, d], v.oneCell' = true := by intro a c d h1 h2 h3 v hv; simp at hv; rcases hv with rfl | rfl | rfl <;> assumption
  have ONE' := hide ONE
  clear h h1 h2 h3 h4 heven ONE
  by_cases h3 : t % 3 = 0
  · have C3 : Hid (∀ w, Calls Try.prog 42 #[.int .i64 t, .int .i64 3] w (fun e w' => e = .returned (.int .i64 0) ∧ w = w')) := hide (fun w => (within6_calls t 3 (by decide) (by decide) ht1 ht2).mono (fun e w' he => ⟨by rw [he.1, h3], he.2⟩))
    have HLK : Hid (locksR t = [⟨sN, 0⟩, ⟨sL, 0⟩, ⟨sM, 0⟩]) := hide (by unfold locksR; rw [if_pos h3])
    clear h3
    go_enter Try.func19, Try.ntmps19
    go_wp2_with (first
      | ((with_reducible refine wpList_alloc_ag rfl agProg rfl H.out ?_); intro g10 w1 h1; have H1 := hide h1; clear h1 H)
      | (refine wpList_build_st (E := declE) rfl 3 _ slDecl rfl (by omega) (by omega) [.agg #[sv sX, .int .i64 0], .agg #[sv sY, .int .i64 0], .agg #[sv sZ, .int .i64 0]] ([⟨sX, 0⟩, ⟨sY, 0⟩, ⟨sZ, 0⟩] : List DRec) ?_ rfl rfl H1.out ?_ ?_; exact rfl; exact (fun _ _ _ => ⟨⟨rfl, okStr_small _ (by decide)⟩, ⟨rfl, okStr_small _ (by decide)⟩, ⟨rfl, okStr_small _ (by decide)⟩, trivial⟩); intro g2 w2 h2; have H2 := hide h2.persist; clear h2 H1)
      | (refine wpList_build_st (E := declE) rfl 3 _ slDecl rfl (by omega) (by omega) [.agg #[sv sL, .int .i64 0], .agg #[sv sM, .int .i64 0], .agg #[sv sN, .int .i64 0]] ([⟨sL, 0⟩, ⟨sM, 0⟩, ⟨sN, 0⟩] : List DRec) ?_ rfl rfl H2.out ?_ ?_; exact rfl; exact (fun _ _ _ => ⟨⟨rfl, okStr_small _ (by decide)⟩, ⟨rfl, okStr_small _ (by decide)⟩, ⟨rfl, okStr_small _ (by decide)⟩, trivial⟩); intro g3 w3 h3; have H3 := hide h3.persist; clear h3 H2)
      | ((with_reducible refine wpList_alloc_ag rfl agProg rfl H3.out ?_); intro g11 w4 h4; have H4 := hide h4; clear h4 H3)
      | ((with_reducible refine wpList_store_ag (cs := [.slice (some ⟨g2, 0, none⟩) 3 3, .slice (some ⟨g3, 0, none⟩) 3 3, .slice none 0 0]) rfl agProg (.tmp 11) (.tmp 20) rfl rfl rfl rfl rfl (ONE'.out _ _ _ rfl rfl rfl) H4.out ?_); intro w5 h5; have H5 := hide h5; clear h5 H4)
      | (go_at_call 42; with_reducible refine (C3.out _).mono ?_; rintro z w6 ⟨rfl, rfl⟩; clear C3)
      | (refine wpList_build_st (E := declE) rfl 3 _ slDecl rfl (by omega) (by omega) [.agg #[sv sN, .int .i64 0], .agg #[sv sL, .int .i64 0], .agg #[sv sM, .int .i64 0]] ([⟨sN, 0⟩, ⟨sL, 0⟩, ⟨sM, 0⟩] : List DRec) ?_ rfl rfl H5.out ?_ ?_; exact rfl; exact (fun _ _ _ => ⟨⟨rfl, okStr_small _ (by decide)⟩, ⟨rfl, okStr_small _ (by decide)⟩, ⟨rfl, okStr_small _ (by decide)⟩, trivial⟩); intro g6 w6 h6; have H6 := hide h6.persist; clear h6 H5)
      | ((with_reducible refine wpList_storeF_st (cs := [.slice (some ⟨g2, 0, none⟩) 3 3, .slice (some ⟨g3, 0, none⟩) 3 3, .slice none 0 0]) (ds := [.slice (some ⟨g2, 0, none⟩) 3 3, .slice (some ⟨g6, 0, none⟩) 3 3, .slice none 0 0]) rfl 40 (.tmp 28) (.tmp 27) rfl szDecls rfl rfl rfl rfl H6.out.f1 (by simp) rfl ?_); intro w7 h7; have H7 := hide h7.d2; clear h7 H6)
      | (go_at_call 43; refine (gblock_calls l1 b _ _ v1 H7.out (up4 M1.out) s1).mono ?_; rintro z w8 ⟨u1, rfl, h8⟩; obtain ⟨b1, c1, hu1, _⟩ := h8.sl_form mem0; subst hu1; have H8 := hide h8; clear h8 H7)
      | (go_at_call 43; refine (gblock_calls l2 b _ _ v2 H8.out (up5 M2.out) s2).mono ?_; rintro z w9 ⟨u2, rfl, h9⟩; obtain ⟨b2, c2, hu2, _⟩ := h9.sl_form mem0; subst hu2; have H9 := hide h9; clear h9 H8)
      | (go_at_call 43; refine (gblock_calls l3 b _ _ v3 H9.out (up6 M3.out) s3).mono ?_; rintro z w10 ⟨u3, rfl, h10⟩; obtain ⟨b3, c3, hu3, _⟩ := h10.sl_form mem0; subst hu3; have H10 := hide h10; clear h10 H9)
      | (go_at_call 43; refine (gblock_calls l4 b _ _ v4 H10.out (up1 (up6 M4.out)) s4).mono ?_; rintro z w11 ⟨u4, rfl, h11⟩; obtain ⟨b4, c4, hu4, _⟩ := h11.sl_form mem0; subst hu4; have H11 := hide h11; clear h11 H10)
      | (refine wpList_buildB_st (cs := [sv sMain, .int .i64 0, .slice b1 (blockR l1).toL.length c1, sv sF, .int .i64 0, .slice b2 (blockR l2).toL.length c2, sv sG, .int .i64 0, .slice b3 (blockR l3).toL.length c3, sv sH, .int .i64 0, .slice b4 (blockR l4).toL.length c4]) rfl 4 _ slFunc rfl (by omega) (by omega) [.agg #[sv sMain, .int .i64 0, .slice b1 (blockR l1).toL.length c1], .agg #[sv sF, .int .i64 0, .slice b2 (blockR l2).toL.length c2], .agg #[sv sG, .int .i64 0, .slice b3 (blockR l3).toL.length c3], .agg #[sv sH, .int .i64 0, .slice b4 (blockR l4).toL.length c4]] ?_ rfl ?_ H11.out ?_ ?_; exact rfl; (intro v hv; simp only [List.mem_cons, List.not_mem_nil, or_false] at hv; rcases hv with rfl | rfl | rfl | rfl <;> rfl); exact rfl; intro g12 w12 h12; have H12 := hide h12; clear h12 H11)
      | ((with_reducible refine wpList_storeF_st (cs := [.slice (some ⟨g2, 0, none⟩) 3 3, .slice (some ⟨g6, 0, none⟩) 3 3, .slice none 0 0]) (ds := [.slice (some ⟨g2, 0, none⟩) 3 3, .slice (some ⟨g6, 0, none⟩) 3 3, .slice (some ⟨g12, 0, none⟩) 4 4]) rfl 41 (.tmp 42) (.tmp 41) rfl szFuncs rfl rfl rfl rfl H12.out.f5 (by simp) rfl ?_); intro w13 h13; have H13 := hide h13; clear h13 H12)
      | (go_at_call 42; with_reducible refine (C2.out _).mono ?_; rintro z w14 ⟨rfl, rfl⟩; clear C2))
    have HD := hide H13.out.drew
    have HC1 : Hid (∀ j u, ([sv sMain, .int .i64 0, .slice b1 (blockR l1).toL.length c1] : List Value)[j]? = some u → w13.drew.cell? ⟨g12, 0 + j, none⟩ = some u) := hide (fun j u hj => (HD.out.blk_cell mem1 (0 + j)).trans (by match j, hj with | 0, hj => exact hj | 1, hj => exact hj | 2, hj => exact hj | j + 3, hj => simp at hj))
    have HC3 : Hid (∀ j u, ([sv sG, .int .i64 0, .slice b3 (blockR l3).toL.length c3] : List Value)[j]? = some u → w13.drew.cell? ⟨g12, 6 + j, none⟩ = some u) := hide (fun j u hj => (HD.out.blk_cell mem1 (6 + j)).trans (by match j, hj with | 0, hj => exact hj | 1, hj => exact hj | 2, hj => exact hj | j + 3, hj => simp at hj))
    refine wp_region_held_drew (S := fun w' => w'.cell? ⟨g11, 2, none⟩ = some (.slice (some ⟨g12, 0, none⟩) 4 4)) (by kernel_rfl) ?_ (fun hHeld => ?_)
    · exact H13.out.blk_cell mem0 2
    refine wpAnyH_takeD (i := 0) (some 46) (v := ?v0_1) rfl rfl (by kernel_rfl) (by kernel_rfl) (by kernel_rfl) (fun _ _ _ h => h) (by rfl) ?y0_1 (by assumption) ?r0_1
    case y0_1 => (intro w hSw; (try dsimp only at hSw); first | (go_simp; done) | (go_simp; with_reducible rfl))
    try simp only [Act.put, List.setIfInBounds_toArray, List.set_cons_zero, List.set_cons_succ]
    refine wpAnyH_takeD (i := 1) (some 47) (v := ?v1_2) rfl rfl (by kernel_rfl) (by kernel_rfl) (by kernel_rfl) (fun _ _ _ h => h) (by rfl) ?y1_2 (by assumption) ?r1_2
    case y1_2 => (intro w hSw; (try dsimp only at hSw); first | (go_simp; done) | (go_simp; with_reducible rfl))
    try simp only [Act.put, List.setIfInBounds_toArray, List.set_cons_zero, List.set_cons_succ]
    refine wpAnyH_takeD (i := 2) (some 48) (v := ?v2_3) rfl rfl (by kernel_rfl) (by kernel_rfl) (by kernel_rfl) (fun _ _ _ h => h) (by rfl) ?y2_3 (by assumption) ?r2_3
    case y2_3 => (intro w hSw; (try dsimp only at hSw); first | (go_simp; done) | (go_simp; with_reducible rfl))
    try simp only [Act.put, List.setIfInBounds_toArray, List.set_cons_zero, List.set_cons_succ]
    refine wpAnyH_takeD (i := 3) (some 49) (v := ?v3_4) rfl rfl (by kernel_rfl) (by kernel_rfl) (by kernel_rfl) (fun _ _ _ h => h) (by rfl) ?y3_4 (by assumption) ?r3_4
    case y3_4 => (intro w hSw; (try dsimp only at hSw); first | (go_simp; done) | (go_simp; with_reducible rfl))
    try simp only [Act.put, List.setIfInBounds_toArray, List.set_cons_zero, List.set_cons_succ]
    refine wpAnyH_takeD (i := 4) (some 50) (v := ?v4_5) rfl rfl (by kernel_rfl) (by kernel_rfl) (by kernel_rfl) (fun _ _ _ h => h) (by rfl) ?y4_5 (by assumption) ?r4_5
    case y4_5 => (intro w hSw; (try dsimp only at hSw); first | (go_simp; done) | (go_simp; with_reducible rfl))
    try simp only [Act.put, List.setIfInBounds_toArray, List.set_cons_zero, List.set_cons_succ]
    refine wpAnyH_takeD (i := 5) (some 51) (v := ?v5_6) rfl rfl (by kernel_rfl) (by kernel_rfl) (by kernel_rfl) (fun _ _ _ h => h) (by rfl) ?y5_6 (by assumption) ?r5_6
    case y5_6 => (intro w hSw; (try dsimp only at hSw); first | (go_simp; done) | (go_simp; with_reducible rfl))
    try simp only [Act.put, List.setIfInBounds_toArray, List.set_cons_zero, List.set_cons_succ]
    refine wpAnyH_takeD (i := 6) (some 52) (v := ?v6_7) rfl rfl (by kernel_rfl) (by kernel_rfl) (by kernel_rfl) (fun _ _ _ h => h) (by rfl) ?y6_7 (by assumption) ?r6_7
    case y6_7 => (intro w hSw; (try dsimp only at hSw); first | (go_simp; done) | (go_simp; with_reducible rfl))
    try simp only [Act.put, List.setIfInBounds_toArray, List.set_cons_zero, List.set_cons_succ]
    refine wpAnyH_takeD (i := 8) (some 54) (v := ?v8_8) rfl rfl (by kernel_rfl) (by kernel_rfl) (by kernel_rfl) (fun _ _ _ h => h) (by rfl) ?y8_8 (by assumption) ?r8_8
    case y8_8 => (intro w hSw; (try dsimp only at hSw); first | (go_simp; done) | (go_simp; with_reducible rfl))
    try simp only [Act.put, List.setIfInBounds_toArray, List.set_cons_zero, List.set_cons_succ]
    refine wpAnyH_takeD (i := 9) (some 55) (v := ?v9_9) rfl rfl (by kernel_rfl) (by kernel_rfl) (by kernel_rfl) (fun _ _ _ h => h) (by rfl) ?y9_9 (by assumption) ?r9_9
    case y9_9 => (intro w hSw; (try dsimp only at hSw); first | (go_simp; done) | (go_simp; with_reducible rfl))
    try simp only [Act.put, List.setIfInBounds_toArray, List.set_cons_zero, List.set_cons_succ]
    refine wpAnyH_takeD (i := 10) (some 56) (v := ?v10_10) rfl rfl (by kernel_rfl) (by kernel_rfl) (by kernel_rfl) (fun _ _ _ h => h) (by rfl) ?y10_10 (by assumption) ?r10_10
    case y10_10 => (intro w hSw; (try dsimp only at hSw); first | (go_simp; done) | (go_simp; with_reducible rfl))
    try simp only [Act.put, List.setIfInBounds_toArray, List.set_cons_zero, List.set_cons_succ]
    refine wpAnyH_ready (rs := [7, 11]) (by kernel_rfl) (by simp) ?_
    refine AllReadyH.cons rfl (fun K hK => ?_) ?_
    · refine step_val rfl (run_loadO (cs := [sv sG, .int .i64 0, .slice b3 (blockR l3).toL.length c3]) agFunc (.tmp 52) rfl rfl rfl HC3.out) ?_
      refine hK.out _ _ ?_ (fun hHeld => ?_)
      · exact HD.out.blk_cell mem0 2
      clear hK K
      try simp only [Act.put, List.setIfInBounds_toArray, List.set_cons_zero, List.set_cons_succ]
      refine wpAnyH_ready (rs := [11]) (by kernel_rfl) (by simp) ?_
      refine AllReadyH.cons rfl (fun K hK => ?_) ?_
      · refine step_val rfl (run_loadO (cs := [sv sMain, .int .i64 0, .slice b1 (blockR l1).toL.length c1]) agFunc (.tmp 56) rfl rfl rfl HC1.out) ?_
        refine hK.out _ _ ?_ (fun hHeld => ?_)
        · exact HD.out.blk_cell mem0 2
        clear hK K
        try simp only [Act.put, List.setIfInBounds_toArray, List.set_cons_zero, List.set_cons_succ]
        refine wpAnyH_takeD (i := 12) (some 58) (v := ?v12_11) rfl rfl (by kernel_rfl) (by kernel_rfl) (by kernel_rfl) (fun _ _ _ h => h) (by rfl) ?y12_11 (by assumption) ?r12_11
        case y12_11 => (intro w hSw; (try dsimp only at hSw); first | (go_simp; done) | (go_simp; with_reducible rfl))
        try simp only [Act.put, List.setIfInBounds_toArray, List.set_cons_zero, List.set_cons_succ]
        refine wpAnyH_ready (rs := [13]) (by kernel_rfl) (by simp) ?_
        refine AllReadyH.cons rfl (fun K hK => ?_) ?_
        · refine step_storeB_st (cs := [sv sG, .int .i64 0, .slice b3 (blockR l3).toL.length c3]) (c := [sv sMain, .int .i64 0, .slice b1 (blockR l1).toL.length c1, sv sF, .int .i64 0, .slice b2 (blockR l2).toL.length c2, sv sG, .int .i64 0, .slice b3 (blockR l3).toL.length c3, sv sH, .int .i64 0, .slice b4 (blockR l4).toL.length c4]) (d := [sv sG, .int .i64 0, .slice b3 (blockR l3).toL.length c3, sv sF, .int .i64 0, .slice b2 (blockR l2).toL.length c2, sv sG, .int .i64 0, .slice b3 (blockR l3).toL.length c3, sv sH, .int .i64 0, .slice b4 (blockR l4).toL.length c4]) rfl 48 (.tmp 58) (.tmp 53) rfl szFunc3 rfl rfl (by intro v hv; simp only [List.mem_cons, List.not_mem_nil, or_false] at hv; rcases hv with rfl | rfl | rfl <;> rfl) HD.out.f1 (by simp) rfl ?_
          intro w20 h20
          have H20 := hide h20
          clear h20
          refine hK.out _ _ ?_ (fun hHeld => ?_)
          · exact H20.out.blk_cell mem1 2
          clear hK K
          try simp only [Act.put, List.setIfInBounds_toArray, List.set_cons_zero, List.set_cons_succ]
          refine wpAnyH_takeD (i := 14) (some 59) (v := ?v14_12) rfl rfl (by kernel_rfl) (by kernel_rfl) (by kernel_rfl) (fun _ _ _ h => h) (by rfl) ?y14_12 (by assumption) ?r14_12
          case y14_12 => (intro w hSw; (try dsimp only at hSw); first | (go_simp; done) | (go_simp; with_reducible rfl))
          try simp only [Act.put, List.setIfInBounds_toArray, List.set_cons_zero, List.set_cons_succ]
          refine wpAnyH_ready (rs := [15]) (by kernel_rfl) (by simp) ?_
          refine AllReadyH.cons rfl (fun K hK => ?_) ?_
          · refine step_storeB_st (cs := [sv sMain, .int .i64 0, .slice b1 (blockR l1).toL.length c1]) (c := [sv sG, .int .i64 0, .slice b3 (blockR l3).toL.length c3, sv sF, .int .i64 0, .slice b2 (blockR l2).toL.length c2, sv sG, .int .i64 0, .slice b3 (blockR l3).toL.length c3, sv sH, .int .i64 0, .slice b4 (blockR l4).toL.length c4]) (d := [sv sG, .int .i64 0, .slice b3 (blockR l3).toL.length c3, sv sF, .int .i64 0, .slice b2 (blockR l2).toL.length c2, sv sMain, .int .i64 0, .slice b1 (blockR l1).toL.length c1, sv sH, .int .i64 0, .slice b4 (blockR l4).toL.length c4]) rfl 48 (.tmp 59) (.tmp 57) rfl szFunc3 rfl rfl (by intro v hv; simp only [List.mem_cons, List.not_mem_nil, or_false] at hv; rcases hv with rfl | rfl | rfl <;> rfl) H20.out (by simp) rfl ?_
            intro w21 h21
            have H21 := hide h21
            clear h21
            refine hK.out _ _ ?_ (fun hHeld => ?_)
            · exact H21.out.blk_cell mem1 2
            clear hK K
            try simp only [Act.put, List.setIfInBounds_toArray, List.set_cons_zero, List.set_cons_succ]
            refine wpAnyH_done (by kernel_rfl) ?_ _
            have h22 : St b (HP.rows 48 funcE (.slice (some ⟨g12, 0, none⟩) 4 4) [⟨sG, 0, blockR l3⟩, ⟨sF, 0, blockR l2⟩, ⟨sMain, 0, blockR l1⟩, ⟨sH, 0, blockR l4⟩] :: _) _ := H21.out.rowsN (E := funcE) 4 _ rfl (by decide) (fun e hl hs => ⟨[sv sG, .int .i64 0, .slice b3 (blockR l3).toL.length c3], _, rfl, ⟨_, rfl, okStr_small sG (by decide), Stms.sl_iff.2 (hs.sl_mem mem3)⟩, ⟨[sv sF, .int .i64 0, .slice b2 (blockR l2).toL.length c2], _, rfl, ⟨_, rfl, okStr_small sF (by decide), Stms.sl_iff.2 (hs.sl_mem mem4)⟩, ⟨[sv sMain, .int .i64 0, .slice b1 (blockR l1).toL.length c1], _, rfl, ⟨_, rfl, okStr_small sMain (by decide), Stms.sl_iff.2 (hs.sl_mem mem5)⟩, ⟨[sv sH, .int .i64 0, .slice b4 (blockR l4).toL.length c4], _, rfl, ⟨_, rfl, okStr_small sH (by decide), Stms.sl_iff.2 (hs.sl_mem mem2)⟩, rfl⟩⟩⟩⟩)
            have H22 := hide h22.persist.f1.d2.d2.d2.d2
            clear h22 H21 H20 HD
            go_wp2_with (first
              | (refine wpList_loadB_st (cs := [.slice (some ⟨g2, 0, none⟩) 3 3, .slice (some ⟨g6, 0, none⟩) 3 3, .slice (some ⟨g12, 0, none⟩) 4 4]) rfl agProg (.tmp 11) rfl rfl rfl H22.out mem0 ?_)
              | ((with_reducible refine wpList_store_ag (cs := [.slice (some ⟨g2, 0, none⟩) 3 3, .slice (some ⟨g6, 0, none⟩) 3 3, .slice (some ⟨g12, 0, none⟩) 4 4]) rfl agProg (.tmp 10) (.tmp 60) rfl rfl rfl rfl rfl (ONE'.out _ _ _ rfl rfl rfl) H22.out.f4 ?_); intro w15 h15; have H15 := hide h15; clear h15 H22))
            (try simp only [Exit.inBlock, Exit.then])
            have hb10 := H15.out.mem_blk mem0
            refine bodyPost_ret (results_cell_row rfl _ _ g10 _ _ _ _ rfl hb10 Try.underlying43 rfl szProg) rfl ?_
            refine ⟨_, _, _, rfl, ?_⟩
            rw [HF.out, HLK.out]
            exact H15.out.drop.drop
          exact AllReadyH.nil
        exact AllReadyH.nil
      exact AllReadyH.nil
    refine AllReadyH.cons rfl (fun K hK => ?_) ?_
    · refine step_val rfl (run_loadO (cs := [sv sMain, .int .i64 0, .slice b1 (blockR l1).toL.length c1]) agFunc (.tmp 56) rfl rfl rfl HC1.out) ?_
      refine hK.out _ _ ?_ (fun hHeld => ?_)
      · exact HD.out.blk_cell mem0 2
      clear hK K
      try simp only [Act.put, List.setIfInBounds_toArray, List.set_cons_zero, List.set_cons_succ]
      refine wpAnyH_ready (rs := [7]) (by kernel_rfl) (by simp) ?_
      refine AllReadyH.cons rfl (fun K hK => ?_) ?_
      · refine step_val rfl (run_loadO (cs := [sv sG, .int .i64 0, .slice b3 (blockR l3).toL.length c3]) agFunc (.tmp 52) rfl rfl rfl HC3.out) ?_
        refine hK.out _ _ ?_ (fun hHeld => ?_)
        · exact HD.out.blk_cell mem0 2
        clear hK K
        try simp only [Act.put, List.setIfInBounds_toArray, List.set_cons_zero, List.set_cons_succ]
        refine wpAnyH_takeD (i := 12) (some 58) (v := ?v12_13) rfl rfl (by kernel_rfl) (by kernel_rfl) (by kernel_rfl) (fun _ _ _ h => h) (by rfl) ?y12_13 (by assumption) ?r12_13
        case y12_13 => (intro w hSw; (try dsimp only at hSw); first | (go_simp; done) | (go_simp; with_reducible rfl))
        try simp only [Act.put, List.setIfInBounds_toArray, List.set_cons_zero, List.set_cons_succ]
        refine wpAnyH_ready (rs := [13]) (by kernel_rfl) (by simp) ?_
        refine AllReadyH.cons rfl (fun K hK => ?_) ?_
        · refine step_storeB_st (cs := [sv sG, .int .i64 0, .slice b3 (blockR l3).toL.length c3]) (c := [sv sMain, .int .i64 0, .slice b1 (blockR l1).toL.length c1, sv sF, .int .i64 0, .slice b2 (blockR l2).toL.length c2, sv sG, .int .i64 0, .slice b3 (blockR l3).toL.length c3, sv sH, .int .i64 0, .slice b4 (blockR l4).toL.length c4]) (d := [sv sG, .int .i64 0, .slice b3 (blockR l3).toL.length c3, sv sF, .int .i64 0, .slice b2 (blockR l2).toL.length c2, sv sG, .int .i64 0, .slice b3 (blockR l3).toL.length c3, sv sH, .int .i64 0, .slice b4 (blockR l4).toL.length c4]) rfl 48 (.tmp 58) (.tmp 53) rfl szFunc3 rfl rfl (by intro v hv; simp only [List.mem_cons, List.not_mem_nil, or_false] at hv; rcases hv with rfl | rfl | rfl <;> rfl) HD.out.f1 (by simp) rfl ?_
          intro w20 h20
          have H20 := hide h20
          clear h20
          refine hK.out _ _ ?_ (fun hHeld => ?_)
          · exact H20.out.blk_cell mem1 2
          clear hK K
          try simp only [Act.put, List.setIfInBounds_toArray, List.set_cons_zero, List.set_cons_succ]
          refine wpAnyH_takeD (i := 14) (some 59) (v := ?v14_14) rfl rfl (by kernel_rfl) (by kernel_rfl) (by kernel_rfl) (fun _ _ _ h => h) (by rfl) ?y14_14 (by assumption) ?r14_14
          case y14_14 => (intro w hSw; (try dsimp only at hSw); first | (go_simp; done) | (go_simp; with_reducible rfl))
          try simp only [Act.put, List.setIfInBounds_toArray, List.set_cons_zero, List.set_cons_succ]
          refine wpAnyH_ready (rs := [15]) (by kernel_rfl) (by simp) ?_
          refine AllReadyH.cons rfl (fun K hK => ?_) ?_
          · refine step_storeB_st (cs := [sv sMain, .int .i64 0, .slice b1 (blockR l1).toL.length c1]) (c := [sv sG, .int .i64 0, .slice b3 (blockR l3).toL.length c3, sv sF, .int .i64 0, .slice b2 (blockR l2).toL.length c2, sv sG, .int .i64 0, .slice b3 (blockR l3).toL.length c3, sv sH, .int .i64 0, .slice b4 (blockR l4).toL.length c4]) (d := [sv sG, .int .i64 0, .slice b3 (blockR l3).toL.length c3, sv sF, .int .i64 0, .slice b2 (blockR l2).toL.length c2, sv sMain, .int .i64 0, .slice b1 (blockR l1).toL.length c1, sv sH, .int .i64 0, .slice b4 (blockR l4).toL.length c4]) rfl 48 (.tmp 59) (.tmp 57) rfl szFunc3 rfl rfl (by intro v hv; simp only [List.mem_cons, List.not_mem_nil, or_false] at hv; rcases hv with rfl | rfl | rfl <;> rfl) H20.out (by simp) rfl ?_
            intro w21 h21
            have H21 := hide h21
            clear h21
            refine hK.out _ _ ?_ (fun hHeld => ?_)
            · exact H21.out.blk_cell mem1 2
            clear hK K
            try simp only [Act.put, List.setIfInBounds_toArray, List.set_cons_zero, List.set_cons_succ]
            refine wpAnyH_done (by kernel_rfl) ?_ _
            have h22 : St b (HP.rows 48 funcE (.slice (some ⟨g12, 0, none⟩) 4 4) [⟨sG, 0, blockR l3⟩, ⟨sF, 0, blockR l2⟩, ⟨sMain, 0, blockR l1⟩, ⟨sH, 0, blockR l4⟩] :: _) _ := H21.out.rowsN (E := funcE) 4 _ rfl (by decide) (fun e hl hs => ⟨[sv sG, .int .i64 0, .slice b3 (blockR l3).toL.length c3], _, rfl, ⟨_, rfl, okStr_small sG (by decide), Stms.sl_iff.2 (hs.sl_mem mem3)⟩, ⟨[sv sF, .int .i64 0, .slice b2 (blockR l2).toL.length c2], _, rfl, ⟨_, rfl, okStr_small sF (by decide), Stms.sl_iff.2 (hs.sl_mem mem4)⟩, ⟨[sv sMain, .int .i64 0, .slice b1 (blockR l1).toL.length c1], _, rfl, ⟨_, rfl, okStr_small sMain (by decide), Stms.sl_iff.2 (hs.sl_mem mem5)⟩, ⟨[sv sH, .int .i64 0, .slice b4 (blockR l4).toL.length c4], _, rfl, ⟨_, rfl, okStr_small sH (by decide), Stms.sl_iff.2 (hs.sl_mem mem2)⟩, rfl⟩⟩⟩⟩)
            have H22 := hide h22.persist.f1.d2.d2.d2.d2
            clear h22 H21 H20 HD
            go_wp2_with (first
              | (refine wpList_loadB_st (cs := [.slice (some ⟨g2, 0, none⟩) 3 3, .slice (some ⟨g6, 0, none⟩) 3 3, .slice (some ⟨g12, 0, none⟩) 4 4]) rfl agProg (.tmp 11) rfl rfl rfl H22.out mem0 ?_)
              | ((with_reducible refine wpList_store_ag (cs := [.slice (some ⟨g2, 0, none⟩) 3 3, .slice (some ⟨g6, 0, none⟩) 3 3, .slice (some ⟨g12, 0, none⟩) 4 4]) rfl agProg (.tmp 10) (.tmp 60) rfl rfl rfl rfl rfl (ONE'.out _ _ _ rfl rfl rfl) H22.out.f4 ?_); intro w15 h15; have H15 := hide h15; clear h15 H22))
            (try simp only [Exit.inBlock, Exit.then])
            have hb10 := H15.out.mem_blk mem0
            refine bodyPost_ret (results_cell_row rfl _ _ g10 _ _ _ _ rfl hb10 Try.underlying43 rfl szProg) rfl ?_
            refine ⟨_, _, _, rfl, ?_⟩
            rw [HF.out, HLK.out]
            exact H15.out.drop.drop
          exact AllReadyH.nil
        exact AllReadyH.nil
      exact AllReadyH.nil
    exact AllReadyH.nil
  · obtain ⟨r3, hr3⟩ : ∃ r, t % 3 = r := ⟨_, rfl⟩
    have hne : (r3 == 0) = false := by rw [beq_eq_false_iff_ne, ← hr3]; exact h3
    have C3 : Hid (∀ w, Calls Try.prog 42 #[.int .i64 t, .int .i64 3] w (fun e w' => e = .returned (.int .i64 r3) ∧ w = w')) := hide (fun w => (within6_calls t 3 (by decide) (by decide) ht1 ht2).mono (fun e w' he => ⟨by rw [he.1, hr3], he.2⟩))
    have HLK : Hid (locksR t = [⟨sL, 0⟩, ⟨sM, 0⟩, ⟨sN, 0⟩]) := hide (by unfold locksR; rw [if_neg h3])
    clear hr3
    clear h3
    go_enter Try.func19, Try.ntmps19
    go_wp2_with (first
      | ((with_reducible refine wpList_alloc_ag rfl agProg rfl H.out ?_); intro g10 w1 h1; have H1 := hide h1; clear h1 H)
      | (refine wpList_build_st (E := declE) rfl 3 _ slDecl rfl (by omega) (by omega) [.agg #[sv sX, .int .i64 0], .agg #[sv sY, .int .i64 0], .agg #[sv sZ, .int .i64 0]] ([⟨sX, 0⟩, ⟨sY, 0⟩, ⟨sZ, 0⟩] : List DRec) ?_ rfl rfl H1.out ?_ ?_; exact rfl; exact (fun _ _ _ => ⟨⟨rfl, okStr_small _ (by decide)⟩, ⟨rfl, okStr_small _ (by decide)⟩, ⟨rfl, okStr_small _ (by decide)⟩, trivial⟩); intro g2 w2 h2; have H2 := hide h2.persist; clear h2 H1)
      | (refine wpList_build_st (E := declE) rfl 3 _ slDecl rfl (by omega) (by omega) [.agg #[sv sL, .int .i64 0], .agg #[sv sM, .int .i64 0], .agg #[sv sN, .int .i64 0]] ([⟨sL, 0⟩, ⟨sM, 0⟩, ⟨sN, 0⟩] : List DRec) ?_ rfl rfl H2.out ?_ ?_; exact rfl; exact (fun _ _ _ => ⟨⟨rfl, okStr_small _ (by decide)⟩, ⟨rfl, okStr_small _ (by decide)⟩, ⟨rfl, okStr_small _ (by decide)⟩, trivial⟩); intro g3 w3 h3; have H3 := hide h3.persist; clear h3 H2)
      | ((with_reducible refine wpList_alloc_ag rfl agProg rfl H3.out ?_); intro g11 w4 h4; have H4 := hide h4; clear h4 H3)
      | ((with_reducible refine wpList_store_ag (cs := [.slice (some ⟨g2, 0, none⟩) 3 3, .slice (some ⟨g3, 0, none⟩) 3 3, .slice none 0 0]) rfl agProg (.tmp 11) (.tmp 20) rfl rfl rfl rfl rfl (ONE'.out _ _ _ rfl rfl rfl) H4.out ?_); intro w5 h5; have H5 := hide h5; clear h5 H4)
      | (go_at_call 42; with_reducible refine (C3.out _).mono ?_; rintro z w6 ⟨rfl, rfl⟩; clear C3)
      | (go_at_call 43; refine (gblock_calls l1 b _ _ v1 H5.out (up4 M1.out) s1).mono ?_; rintro z w8 ⟨u1, rfl, h8⟩; obtain ⟨b1, c1, hu1, _⟩ := h8.sl_form mem0; subst hu1; have H8 := hide h8; clear h8 H5)
      | (go_at_call 43; refine (gblock_calls l2 b _ _ v2 H8.out (up5 M2.out) s2).mono ?_; rintro z w9 ⟨u2, rfl, h9⟩; obtain ⟨b2, c2, hu2, _⟩ := h9.sl_form mem0; subst hu2; have H9 := hide h9; clear h9 H8)
      | (go_at_call 43; refine (gblock_calls l3 b _ _ v3 H9.out (up6 M3.out) s3).mono ?_; rintro z w10 ⟨u3, rfl, h10⟩; obtain ⟨b3, c3, hu3, _⟩ := h10.sl_form mem0; subst hu3; have H10 := hide h10; clear h10 H9)
      | (go_at_call 43; refine (gblock_calls l4 b _ _ v4 H10.out (up1 (up6 M4.out)) s4).mono ?_; rintro z w11 ⟨u4, rfl, h11⟩; obtain ⟨b4, c4, hu4, _⟩ := h11.sl_form mem0; subst hu4; have H11 := hide h11; clear h11 H10)
      | (refine wpList_buildB_st (cs := [sv sMain, .int .i64 0, .slice b1 (blockR l1).toL.length c1, sv sF, .int .i64 0, .slice b2 (blockR l2).toL.length c2, sv sG, .int .i64 0, .slice b3 (blockR l3).toL.length c3, sv sH, .int .i64 0, .slice b4 (blockR l4).toL.length c4]) rfl 4 _ slFunc rfl (by omega) (by omega) [.agg #[sv sMain, .int .i64 0, .slice b1 (blockR l1).toL.length c1], .agg #[sv sF, .int .i64 0, .slice b2 (blockR l2).toL.length c2], .agg #[sv sG, .int .i64 0, .slice b3 (blockR l3).toL.length c3], .agg #[sv sH, .int .i64 0, .slice b4 (blockR l4).toL.length c4]] ?_ rfl ?_ H11.out ?_ ?_; exact rfl; (intro v hv; simp only [List.mem_cons, List.not_mem_nil, or_false] at hv; rcases hv with rfl | rfl | rfl | rfl <;> rfl); exact rfl; intro g12 w12 h12; have H12 := hide h12; clear h12 H11)
      | ((with_reducible refine wpList_storeF_st (cs := [.slice (some ⟨g2, 0, none⟩) 3 3, .slice (some ⟨g3, 0, none⟩) 3 3, .slice none 0 0]) (ds := [.slice (some ⟨g2, 0, none⟩) 3 3, .slice (some ⟨g3, 0, none⟩) 3 3, .slice (some ⟨g12, 0, none⟩) 4 4]) rfl 41 (.tmp 42) (.tmp 41) rfl szFuncs rfl rfl rfl rfl H12.out.f5 (by simp) rfl ?_); intro w13 h13; have H13 := hide h13; clear h13 H12)
      | (go_at_call 42; with_reducible refine (C2.out _).mono ?_; rintro z w14 ⟨rfl, rfl⟩; clear C2))
    have HD := hide H13.out.drew
    have HC1 : Hid (∀ j u, ([sv sMain, .int .i64 0, .slice b1 (blockR l1).toL.length c1] : List Value)[j]? = some u → w13.drew.cell? ⟨g12, 0 + j, none⟩ = some u) := hide (fun j u hj => (HD.out.blk_cell mem1 (0 + j)).trans (by match j, hj with | 0, hj => exact hj | 1, hj => exact hj | 2, hj => exact hj | j + 3, hj => simp at hj))
    have HC3 : Hid (∀ j u, ([sv sG, .int .i64 0, .slice b3 (blockR l3).toL.length c3] : List Value)[j]? = some u → w13.drew.cell? ⟨g12, 6 + j, none⟩ = some u) := hide (fun j u hj => (HD.out.blk_cell mem1 (6 + j)).trans (by match j, hj with | 0, hj => exact hj | 1, hj => exact hj | 2, hj => exact hj | j + 3, hj => simp at hj))
    refine wp_region_held_drew (S := fun w' => w'.cell? ⟨g11, 2, none⟩ = some (.slice (some ⟨g12, 0, none⟩) 4 4)) (by kernel_rfl) ?_ (fun hHeld => ?_)
    · exact H13.out.blk_cell mem0 2
    refine wpAnyH_takeD (i := 0) (some 46) (v := ?v0_15) rfl rfl (by kernel_rfl) (by kernel_rfl) (by kernel_rfl) (fun _ _ _ h => h) (by rfl) ?y0_15 (by assumption) ?r0_15
    case y0_15 => (intro w hSw; (try dsimp only at hSw); first | (go_simp; done) | (go_simp; with_reducible rfl))
    try simp only [Act.put, List.setIfInBounds_toArray, List.set_cons_zero, List.set_cons_succ]
    refine wpAnyH_takeD (i := 1) (some 47) (v := ?v1_16) rfl rfl (by kernel_rfl) (by kernel_rfl) (by kernel_rfl) (fun _ _ _ h => h) (by rfl) ?y1_16 (by assumption) ?r1_16
    case y1_16 => (intro w hSw; (try dsimp only at hSw); first | (go_simp; done) | (go_simp; with_reducible rfl))
    try simp only [Act.put, List.setIfInBounds_toArray, List.set_cons_zero, List.set_cons_succ]
    refine wpAnyH_takeD (i := 2) (some 48) (v := ?v2_17) rfl rfl (by kernel_rfl) (by kernel_rfl) (by kernel_rfl) (fun _ _ _ h => h) (by rfl) ?y2_17 (by assumption) ?r2_17
    case y2_17 => (intro w hSw; (try dsimp only at hSw); first | (go_simp; done) | (go_simp; with_reducible rfl))
    try simp only [Act.put, List.setIfInBounds_toArray, List.set_cons_zero, List.set_cons_succ]
    refine wpAnyH_takeD (i := 3) (some 49) (v := ?v3_18) rfl rfl (by kernel_rfl) (by kernel_rfl) (by kernel_rfl) (fun _ _ _ h => h) (by rfl) ?y3_18 (by assumption) ?r3_18
    case y3_18 => (intro w hSw; (try dsimp only at hSw); first | (go_simp; done) | (go_simp; with_reducible rfl))
    try simp only [Act.put, List.setIfInBounds_toArray, List.set_cons_zero, List.set_cons_succ]
    refine wpAnyH_takeD (i := 4) (some 50) (v := ?v4_19) rfl rfl (by kernel_rfl) (by kernel_rfl) (by kernel_rfl) (fun _ _ _ h => h) (by rfl) ?y4_19 (by assumption) ?r4_19
    case y4_19 => (intro w hSw; (try dsimp only at hSw); first | (go_simp; done) | (go_simp; with_reducible rfl))
    try simp only [Act.put, List.setIfInBounds_toArray, List.set_cons_zero, List.set_cons_succ]
    refine wpAnyH_takeD (i := 5) (some 51) (v := ?v5_20) rfl rfl (by kernel_rfl) (by kernel_rfl) (by kernel_rfl) (fun _ _ _ h => h) (by rfl) ?y5_20 (by assumption) ?r5_20
    case y5_20 => (intro w hSw; (try dsimp only at hSw); first | (go_simp; done) | (go_simp; with_reducible rfl))
    try simp only [Act.put, List.setIfInBounds_toArray, List.set_cons_zero, List.set_cons_succ]
    refine wpAnyH_takeD (i := 6) (some 52) (v := ?v6_21) rfl rfl (by kernel_rfl) (by kernel_rfl) (by kernel_rfl) (fun _ _ _ h => h) (by rfl) ?y6_21 (by assumption) ?r6_21
    case y6_21 => (intro w hSw; (try dsimp only at hSw); first | (go_simp; done) | (go_simp; with_reducible rfl))
    try simp only [Act.put, List.setIfInBounds_toArray, List.set_cons_zero, List.set_cons_succ]
    refine wpAnyH_takeD (i := 8) (some 54) (v := ?v8_22) rfl rfl (by kernel_rfl) (by kernel_rfl) (by kernel_rfl) (fun _ _ _ h => h) (by rfl) ?y8_22 (by assumption) ?r8_22
    case y8_22 => (intro w hSw; (try dsimp only at hSw); first | (go_simp; done) | (go_simp; with_reducible rfl))
    try simp only [Act.put, List.setIfInBounds_toArray, List.set_cons_zero, List.set_cons_succ]
    refine wpAnyH_takeD (i := 9) (some 55) (v := ?v9_23) rfl rfl (by kernel_rfl) (by kernel_rfl) (by kernel_rfl) (fun _ _ _ h => h) (by rfl) ?y9_23 (by assumption) ?r9_23
    case y9_23 => (intro w hSw; (try dsimp only at hSw); first | (go_simp; done) | (go_simp; with_reducible rfl))
    try simp only [Act.put, List.setIfInBounds_toArray, List.set_cons_zero, List.set_cons_succ]
    refine wpAnyH_takeD (i := 10) (some 56) (v := ?v10_24) rfl rfl (by kernel_rfl) (by kernel_rfl) (by kernel_rfl) (fun _ _ _ h => h) (by rfl) ?y10_24 (by assumption) ?r10_24
    case y10_24 => (intro w hSw; (try dsimp only at hSw); first | (go_simp; done) | (go_simp; with_reducible rfl))
    try simp only [Act.put, List.setIfInBounds_toArray, List.set_cons_zero, List.set_cons_succ]
    refine wpAnyH_ready (rs := [7, 11]) (by kernel_rfl) (by simp) ?_
    refine AllReadyH.cons rfl (fun K hK => ?_) ?_
    · refine step_val rfl (run_loadO (cs := [sv sG, .int .i64 0, .slice b3 (blockR l3).toL.length c3]) agFunc (.tmp 52) rfl rfl rfl HC3.out) ?_
      refine hK.out _ _ ?_ (fun hHeld => ?_)
      · exact HD.out.blk_cell mem0 2
      clear hK K
      try simp only [Act.put, List.setIfInBounds_toArray, List.set_cons_zero, List.set_cons_succ]
      refine wpAnyH_ready (rs := [11]) (by kernel_rfl) (by simp) ?_
      refine AllReadyH.cons rfl (fun K hK => ?_) ?_
      · refine step_val rfl (run_loadO (cs := [sv sMain, .int .i64 0, .slice b1 (blockR l1).toL.length c1]) agFunc (.tmp 56) rfl rfl rfl HC1.out) ?_
        refine hK.out _ _ ?_ (fun hHeld => ?_)
        · exact HD.out.blk_cell mem0 2
        clear hK K
        try simp only [Act.put, List.setIfInBounds_toArray, List.set_cons_zero, List.set_cons_succ]
        refine wpAnyH_takeD (i := 12) (some 58) (v := ?v12_25) rfl rfl (by kernel_rfl) (by kernel_rfl) (by kernel_rfl) (fun _ _ _ h => h) (by rfl) ?y12_25 (by assumption) ?r12_25
        case y12_25 => (intro w hSw; (try dsimp only at hSw); first | (go_simp; done) | (go_simp; with_reducible rfl))
        try simp only [Act.put, List.setIfInBounds_toArray, List.set_cons_zero, List.set_cons_succ]
        refine wpAnyH_ready (rs := [13]) (by kernel_rfl) (by simp) ?_
        refine AllReadyH.cons rfl (fun K hK => ?_) ?_
        · refine step_storeB_st (cs := [sv sG, .int .i64 0, .slice b3 (blockR l3).toL.length c3]) (c := [sv sMain, .int .i64 0, .slice b1 (blockR l1).toL.length c1, sv sF, .int .i64 0, .slice b2 (blockR l2).toL.length c2, sv sG, .int .i64 0, .slice b3 (blockR l3).toL.length c3, sv sH, .int .i64 0, .slice b4 (blockR l4).toL.length c4]) (d := [sv sG, .int .i64 0, .slice b3 (blockR l3).toL.length c3, sv sF, .int .i64 0, .slice b2 (blockR l2).toL.length c2, sv sG, .int .i64 0, .slice b3 (blockR l3).toL.length c3, sv sH, .int .i64 0, .slice b4 (blockR l4).toL.length c4]) rfl 48 (.tmp 58) (.tmp 53) rfl szFunc3 rfl rfl (by intro v hv; simp only [List.mem_cons, List.not_mem_nil, or_false] at hv; rcases hv with rfl | rfl | rfl <;> rfl) HD.out.f1 (by simp) rfl ?_
          intro w20 h20
          have H20 := hide h20
          clear h20
          refine hK.out _ _ ?_ (fun hHeld => ?_)
          · exact H20.out.blk_cell mem1 2
          clear hK K
          try simp only [Act.put, List.setIfInBounds_toArray, List.set_cons_zero, List.set_cons_succ]
          refine wpAnyH_takeD (i := 14) (some 59) (v := ?v14_26) rfl rfl (by kernel_rfl) (by kernel_rfl) (by kernel_rfl) (fun _ _ _ h => h) (by rfl) ?y14_26 (by assumption) ?r14_26
          case y14_26 => (intro w hSw; (try dsimp only at hSw); first | (go_simp; done) | (go_simp; with_reducible rfl))
          try simp only [Act.put, List.setIfInBounds_toArray, List.set_cons_zero, List.set_cons_succ]
          refine wpAnyH_ready (rs := [15]) (by kernel_rfl) (by simp) ?_
          refine AllReadyH.cons rfl (fun K hK => ?_) ?_
          · refine step_storeB_st (cs := [sv sMain, .int .i64 0, .slice b1 (blockR l1).toL.length c1]) (c := [sv sG, .int .i64 0, .slice b3 (blockR l3).toL.length c3, sv sF, .int .i64 0, .slice b2 (blockR l2).toL.length c2, sv sG, .int .i64 0, .slice b3 (blockR l3).toL.length c3, sv sH, .int .i64 0, .slice b4 (blockR l4).toL.length c4]) (d := [sv sG, .int .i64 0, .slice b3 (blockR l3).toL.length c3, sv sF, .int .i64 0, .slice b2 (blockR l2).toL.length c2, sv sMain, .int .i64 0, .slice b1 (blockR l1).toL.length c1, sv sH, .int .i64 0, .slice b4 (blockR l4).toL.length c4]) rfl 48 (.tmp 59) (.tmp 57) rfl szFunc3 rfl rfl (by intro v hv; simp only [List.mem_cons, List.not_mem_nil, or_false] at hv; rcases hv with rfl | rfl | rfl <;> rfl) H20.out (by simp) rfl ?_
            intro w21 h21
            have H21 := hide h21
            clear h21
            refine hK.out _ _ ?_ (fun hHeld => ?_)
            · exact H21.out.blk_cell mem1 2
            clear hK K
            try simp only [Act.put, List.setIfInBounds_toArray, List.set_cons_zero, List.set_cons_succ]
            refine wpAnyH_done (by kernel_rfl) ?_ _
            have h22 : St b (HP.rows 48 funcE (.slice (some ⟨g12, 0, none⟩) 4 4) [⟨sG, 0, blockR l3⟩, ⟨sF, 0, blockR l2⟩, ⟨sMain, 0, blockR l1⟩, ⟨sH, 0, blockR l4⟩] :: _) _ := H21.out.rowsN (E := funcE) 4 _ rfl (by decide) (fun e hl hs => ⟨[sv sG, .int .i64 0, .slice b3 (blockR l3).toL.length c3], _, rfl, ⟨_, rfl, okStr_small sG (by decide), Stms.sl_iff.2 (hs.sl_mem mem3)⟩, ⟨[sv sF, .int .i64 0, .slice b2 (blockR l2).toL.length c2], _, rfl, ⟨_, rfl, okStr_small sF (by decide), Stms.sl_iff.2 (hs.sl_mem mem4)⟩, ⟨[sv sMain, .int .i64 0, .slice b1 (blockR l1).toL.length c1], _, rfl, ⟨_, rfl, okStr_small sMain (by decide), Stms.sl_iff.2 (hs.sl_mem mem5)⟩, ⟨[sv sH, .int .i64 0, .slice b4 (blockR l4).toL.length c4], _, rfl, ⟨_, rfl, okStr_small sH (by decide), Stms.sl_iff.2 (hs.sl_mem mem2)⟩, rfl⟩⟩⟩⟩)
            have H22 := hide h22.persist.f1.d2.d2.d2.d2
            clear h22 H21 H20 HD
            go_wp2_with (first
              | (refine wpList_loadB_st (cs := [.slice (some ⟨g2, 0, none⟩) 3 3, .slice (some ⟨g3, 0, none⟩) 3 3, .slice (some ⟨g12, 0, none⟩) 4 4]) rfl agProg (.tmp 11) rfl rfl rfl H22.out mem0 ?_)
              | ((with_reducible refine wpList_store_ag (cs := [.slice (some ⟨g2, 0, none⟩) 3 3, .slice (some ⟨g3, 0, none⟩) 3 3, .slice (some ⟨g12, 0, none⟩) 4 4]) rfl agProg (.tmp 10) (.tmp 60) rfl rfl rfl rfl rfl (ONE'.out _ _ _ rfl rfl rfl) H22.out.f4 ?_); intro w15 h15; have H15 := hide h15; clear h15 H22))
            (try simp only [Exit.inBlock, Exit.then])
            have hb10 := H15.out.mem_blk mem0
            refine bodyPost_ret (results_cell_row rfl _ _ g10 _ _ _ _ rfl hb10 Try.underlying43 rfl szProg) rfl ?_
            refine ⟨_, _, _, rfl, ?_⟩
            rw [HF.out, HLK.out]
            exact H15.out.drop.drop
          exact AllReadyH.nil
        exact AllReadyH.nil
      exact AllReadyH.nil
    refine AllReadyH.cons rfl (fun K hK => ?_) ?_
    · refine step_val rfl (run_loadO (cs := [sv sMain, .int .i64 0, .slice b1 (blockR l1).toL.length c1]) agFunc (.tmp 56) rfl rfl rfl HC1.out) ?_
      refine hK.out _ _ ?_ (fun hHeld => ?_)
      · exact HD.out.blk_cell mem0 2
      clear hK K
      try simp only [Act.put, List.setIfInBounds_toArray, List.set_cons_zero, List.set_cons_succ]
      refine wpAnyH_ready (rs := [7]) (by kernel_rfl) (by simp) ?_
      refine AllReadyH.cons rfl (fun K hK => ?_) ?_
      · refine step_val rfl (run_loadO (cs := [sv sG, .int .i64 0, .slice b3 (blockR l3).toL.length c3]) agFunc (.tmp 52) rfl rfl rfl HC3.out) ?_
        refine hK.out _ _ ?_ (fun hHeld => ?_)
        · exact HD.out.blk_cell mem0 2
        clear hK K
        try simp only [Act.put, List.setIfInBounds_toArray, List.set_cons_zero, List.set_cons_succ]
        refine wpAnyH_takeD (i := 12) (some 58) (v := ?v12_27) rfl rfl (by kernel_rfl) (by kernel_rfl) (by kernel_rfl) (fun _ _ _ h => h) (by rfl) ?y12_27 (by assumption) ?r12_27
        case y12_27 => (intro w hSw; (try dsimp only at hSw); first | (go_simp; done) | (go_simp; with_reducible rfl))
        try simp only [Act.put, List.setIfInBounds_toArray, List.set_cons_zero, List.set_cons_succ]
        refine wpAnyH_ready (rs := [13]) (by kernel_rfl) (by simp) ?_
        refine AllReadyH.cons rfl (fun K hK => ?_) ?_
        · refine step_storeB_st (cs := [sv sG, .int .i64 0, .slice b3 (blockR l3).toL.length c3]) (c := [sv sMain, .int .i64 0, .slice b1 (blockR l1).toL.length c1, sv sF, .int .i64 0, .slice b2 (blockR l2).toL.length c2, sv sG, .int .i64 0, .slice b3 (blockR l3).toL.length c3, sv sH, .int .i64 0, .slice b4 (blockR l4).toL.length c4]) (d := [sv sG, .int .i64 0, .slice b3 (blockR l3).toL.length c3, sv sF, .int .i64 0, .slice b2 (blockR l2).toL.length c2, sv sG, .int .i64 0, .slice b3 (blockR l3).toL.length c3, sv sH, .int .i64 0, .slice b4 (blockR l4).toL.length c4]) rfl 48 (.tmp 58) (.tmp 53) rfl szFunc3 rfl rfl (by intro v hv; simp only [List.mem_cons, List.not_mem_nil, or_false] at hv; rcases hv with rfl | rfl | rfl <;> rfl) HD.out.f1 (by simp) rfl ?_
          intro w20 h20
          have H20 := hide h20
          clear h20
          refine hK.out _ _ ?_ (fun hHeld => ?_)
          · exact H20.out.blk_cell mem1 2
          clear hK K
          try simp only [Act.put, List.setIfInBounds_toArray, List.set_cons_zero, List.set_cons_succ]
          refine wpAnyH_takeD (i := 14) (some 59) (v := ?v14_28) rfl rfl (by kernel_rfl) (by kernel_rfl) (by kernel_rfl) (fun _ _ _ h => h) (by rfl) ?y14_28 (by assumption) ?r14_28
          case y14_28 => (intro w hSw; (try dsimp only at hSw); first | (go_simp; done) | (go_simp; with_reducible rfl))
          try simp only [Act.put, List.setIfInBounds_toArray, List.set_cons_zero, List.set_cons_succ]
          refine wpAnyH_ready (rs := [15]) (by kernel_rfl) (by simp) ?_
          refine AllReadyH.cons rfl (fun K hK => ?_) ?_
          · refine step_storeB_st (cs := [sv sMain, .int .i64 0, .slice b1 (blockR l1).toL.length c1]) (c := [sv sG, .int .i64 0, .slice b3 (blockR l3).toL.length c3, sv sF, .int .i64 0, .slice b2 (blockR l2).toL.length c2, sv sG, .int .i64 0, .slice b3 (blockR l3).toL.length c3, sv sH, .int .i64 0, .slice b4 (blockR l4).toL.length c4]) (d := [sv sG, .int .i64 0, .slice b3 (blockR l3).toL.length c3, sv sF, .int .i64 0, .slice b2 (blockR l2).toL.length c2, sv sMain, .int .i64 0, .slice b1 (blockR l1).toL.length c1, sv sH, .int .i64 0, .slice b4 (blockR l4).toL.length c4]) rfl 48 (.tmp 59) (.tmp 57) rfl szFunc3 rfl rfl (by intro v hv; simp only [List.mem_cons, List.not_mem_nil, or_false] at hv; rcases hv with rfl | rfl | rfl <;> rfl) H20.out (by simp) rfl ?_
            intro w21 h21
            have H21 := hide h21
            clear h21
            refine hK.out _ _ ?_ (fun hHeld => ?_)
            · exact H21.out.blk_cell mem1 2
            clear hK K
            try simp only [Act.put, List.setIfInBounds_toArray, List.set_cons_zero, List.set_cons_succ]
            refine wpAnyH_done (by kernel_rfl) ?_ _
            have h22 : St b (HP.rows 48 funcE (.slice (some ⟨g12, 0, none⟩) 4 4) [⟨sG, 0, blockR l3⟩, ⟨sF, 0, blockR l2⟩, ⟨sMain, 0, blockR l1⟩, ⟨sH, 0, blockR l4⟩] :: _) _ := H21.out.rowsN (E := funcE) 4 _ rfl (by decide) (fun e hl hs => ⟨[sv sG, .int .i64 0, .slice b3 (blockR l3).toL.length c3], _, rfl, ⟨_, rfl, okStr_small sG (by decide), Stms.sl_iff.2 (hs.sl_mem mem3)⟩, ⟨[sv sF, .int .i64 0, .slice b2 (blockR l2).toL.length c2], _, rfl, ⟨_, rfl, okStr_small sF (by decide), Stms.sl_iff.2 (hs.sl_mem mem4)⟩, ⟨[sv sMain, .int .i64 0, .slice b1 (blockR l1).toL.length c1], _, rfl, ⟨_, rfl, okStr_small sMain (by decide), Stms.sl_iff.2 (hs.sl_mem mem5)⟩, ⟨[sv sH, .int .i64 0, .slice b4 (blockR l4).toL.length c4], _, rfl, ⟨_, rfl, okStr_small sH (by decide), Stms.sl_iff.2 (hs.sl_mem mem2)⟩, rfl⟩⟩⟩⟩)
            have H22 := hide h22.persist.f1.d2.d2.d2.d2
            clear h22 H21 H20 HD
            go_wp2_with (first
              | (refine wpList_loadB_st (cs := [.slice (some ⟨g2, 0, none⟩) 3 3, .slice (some ⟨g3, 0, none⟩) 3 3, .slice (some ⟨g12, 0, none⟩) 4 4]) rfl agProg (.tmp 11) rfl rfl rfl H22.out mem0 ?_)
              | ((with_reducible refine wpList_store_ag (cs := [.slice (some ⟨g2, 0, none⟩) 3 3, .slice (some ⟨g3, 0, none⟩) 3 3, .slice (some ⟨g12, 0, none⟩) 4 4]) rfl agProg (.tmp 10) (.tmp 60) rfl rfl rfl rfl rfl (ONE'.out _ _ _ rfl rfl rfl) H22.out.f4 ?_); intro w15 h15; have H15 := hide h15; clear h15 H22))
            (try simp only [Exit.inBlock, Exit.then])
            have hb10 := H15.out.mem_blk mem0
            refine bodyPost_ret (results_cell_row rfl _ _ g10 _ _ _ _ rfl hb10 Try.underlying43 rfl szProg) rfl ?_
            refine ⟨_, _, _, rfl, ?_⟩
            rw [HF.out, HLK.out]
            exact H15.out.drop.drop
          exact AllReadyH.nil
        exact AllReadyH.nil
      exact AllReadyH.nil
    exact AllReadyH.nil
theorem prog6a_calls (h : St b L w) {v1 v2 v3 v4 : Value} (l1 l2 l3 l4 : Raws) (h1 : HP.sl rawE v1 l1.toL ∈ L) (h2 : HP.sl rawE v2 l2.toL ∈ L) (h3 : HP.sl rawE v3 l3.toL ∈ L) (h4 : HP.sl rawE v4 l4.toL ∈ L)
    (s1 : l1.size ≤ 1000) (s2 : l2.size ≤ 1000) (s3 : l3.size ≤ 1000) (s4 : l4.size ≤ 1000) (t : Int) (ht1 : -9223372036854775808 ≤ t) (ht2 : t ≤ 9223372036854775807) :
    Calls Try.prog 19 #[v1, v2, v3, v4, .int .i64 t] w fun x w' => ∃ vv vl vf, x = .returned (.agg #[vv, vl, vf]) ∧ St b (HP.sl funcE vf (funcsR l1 l2 l3 l4 t) :: HP.sl declE vl (locksR t) :: HP.sl declE vv varsR :: L) w' := by
  by_cases ht : t % 2 = 0
  · exact prog6e_calls h l1 l2 l3 l4 h1 h2 h3 h4 s1 s2 s3 s4 t ht1 ht2 ht
  · exact prog6_calls h l1 l2 l3 l4 h1 h2 h3 h4 s1 s2 s3 s4 t ht1 ht2 ht
end Go.Proofs.Ytmebmgbjpbapjaa
