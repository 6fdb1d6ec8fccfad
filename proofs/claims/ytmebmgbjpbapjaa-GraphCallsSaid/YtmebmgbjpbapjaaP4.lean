/-
  deadboltlaw6: Prog.
-/
import Derived.Test.YtmebmgbjpbapjaaP3
import Derived.Test.YtmebmgbjpbapjaaGk
import Derived.Laws.Rows
namespace Go.Proofs.Ytmebmgbjpbapjaa
open Go.RowKit Go.Maps Go.MapKept
variable {b : Env} {L : List HP} {w : World}

def varsR : List DRec := [⟨sX, 0⟩, ⟨sY, 0⟩, ⟨sZ, 0⟩]
def locksR (t : Int) : List DRec := if t % 3 = 0 then [⟨sN, 0⟩, ⟨sL, 0⟩, ⟨sM, 0⟩] else [⟨sL, 0⟩, ⟨sM, 0⟩, ⟨sN, 0⟩]
def funcsR (a b c d : Raws) (t : Int) : List FRec := if t % 2 = 0 then [⟨sG, 0, blockR c⟩, ⟨sF, 0, blockR b⟩, ⟨sMain, 0, blockR a⟩, ⟨sH, 0, blockR d⟩] else [⟨sMain, 0, blockR a⟩, ⟨sF, 0, blockR b⟩, ⟨sG, 0, blockR c⟩, ⟨sH, 0, blockR d⟩]
theorem szDecls : (Try.prog.info? 40).map (·.size) = some 1 := by kernel_rfl
theorem szFuncs : (Try.prog.info? 41).map (·.size) = some 1 := by kernel_rfl
theorem szProg : (Try.prog.info? 43).map (·.size) = some 3 := by kernel_rfl

set_option maxRecDepth 100000 in
set_option maxHeartbeats 8000000 in
theorem prog6_calls (h : St b L w) {v1 v2 v3 v4 : Value} (l1 l2 l3 l4 : Raws) (h1 : HP.sl rawE v1 l1.toL ∈ L) (h2 : HP.sl rawE v2 l2.toL ∈ L) (h3 : HP.sl rawE v3 l3.toL ∈ L) (h4 : HP.sl rawE v4 l4.toL ∈ L)
    (s1 : l1.size ≤ 1000) (s2 : l2.size ≤ 1000) (s3 : l3.size ≤ 1000) (s4 : l4.size ≤ 1000) (t : Int) (ht1 : -9223372036854775808 ≤ t) (ht2 : t ≤ 9223372036854775807) (hodd : t % 2 ≠ 0) :
    Calls Try.prog 19 #[v1, v2, v3, v4, .int .i64 t] w fun x w' => ∃ vv vl vf, x = .returned (.agg #[vv, vl, vf]) ∧ St b (HP.sl funcE vf (funcsR l1 l2 l3 l4 t) :: HP.sl declE vl (locksR t) :: HP.sl declE vv varsR :: L) w' := by
  have H := hide h
  have M1 := hide h1
  have M2 := hide h2
  have M3 := hide h3
  have M4 := hide h4
  have C2 : Hid (∀ w, Calls Try.prog 42 #[.int .i64 t, .int .i64 2] w (fun e w' => e = .returned (.int .i64 1) ∧ w = w')) := hide (fun w => (within6_calls t 2 (by decide) (by decide) ht1 ht2).mono (fun e w' he => ⟨by rw [he.1]; have := Int.emod_nonneg t (show (2 : Int) ≠ 0 by omega); have := Int.emod_lt_of_pos t (show (0 : Int) < 2 by omega); rw [show t % 2 = 1 by omega], he.2⟩))
  have HF : Hid (funcsR l1 l2 l3 l4 t = [⟨sMain, 0, blockR l1⟩, ⟨sF, 0, blockR l2⟩, ⟨sG, 0, blockR l3⟩, ⟨sH, 0, blockR l4⟩]) := hide (by unfold funcsR; rw [if_neg hodd])
  have ONE : ∀ (a c d : Value), a.oneCell' = true → c.oneCell' = true → d.oneCell' = true → ∀ v ∈ [a, c, d], v.oneCell' = true := by intro a c d h1 h2 h3 v hv; simp at hv; rcases hv with rfl | rfl | rfl <;> assumption
  have ONE' := hide ONE
  clear h h1 h2 h3 h4 hodd ONE
  by_cases h3 : t % 3 = 0
  · have C3 : Hid (∀ w, Calls Try.prog 42 #[.int .i64 t, .int .i64 3] w (fun e w' => e = .returned (.int .i64 0) ∧ w = w')) := hide (fun w => (within6_calls t 3 (by decide) (by decide) ht1 ht2).mono (fun e w' he => ⟨by rw [he.1, h3], he.2⟩))
    have HLK : Hid (locksR t = [⟨sN, 0⟩, ⟨sL, 0⟩, ⟨sM, 0⟩]) := hide (by unfold locksR; rw [if_pos h3])
    clear h3
    go_enter Try.func19, Try.ntmps19
    go_wp2_with (first
      | ((with_reducible refine wpList_alloc_ag rfl agProg rfl H.out ?_); intro g10 w1 h1; have H1 := hide h1; clear h1 H)
      | (refine wpList_build_st (E := declE) rfl 3 _ slDecl rfl (by omega) (by omega) [.agg #[sv sX, .int .i64 0], .agg #[sv sY, .int .i64 0], .agg #[sv sZ, .int .i64 0]] ([⟨sX, 0⟩, ⟨sY, 0⟩, ⟨sZ, 0⟩] : List DRec) ?_ rfl rfl H1.out ?_ ?_; exact rfl; exact (fun _ _ _ => ⟨⟨rfl, okStr_small _ (by decide)⟩, ⟨rfl, okStr_small _ (by decide)⟩, ⟨rfl, okStr_small _ (by decide)⟩, trivial⟩); intro g2 w2 h2; have H2 := hide h2.persist; clear h2 H1)
      | (refine wpList_build_st (E := declE) rfl 3 _ slDecl rfl (by omega) (by omega) [.agg #[sv sL, .int .i64 0], .agg #[sv sM, .int .i64 0], .agg #[sv sN, .int .i64 0]] ([⟨sL, 0⟩, ⟨sM, 0⟩, ⟨sN, 0⟩] : List DRec) ?_ rfl rfl H2.out ?_ ?_; exact rfl; exact (fun _ _ _ => ⟨⟨rfl, okStr_small _ (by decide)⟩, ⟨rfl, okStr_small _ (by decide)⟩, ⟨rfl, okStr_small _ (by decide)⟩, trivial⟩); intro g3 w3 h3; have H3 := hide h3.persist; clear h3 H2)
      | ((with_reducible refine wpList_alloc_ag rfl agProg rfl H3.out ?_); intro g11 w4 h4; have H4 := hide h4; clear h4 H3)
      | ((with_reducible refine wpList_store_ag (cs := [.slice (some ⟨g2, 0, none⟩) 3 3, .slice (some ⟨g3, 0, none⟩) 3 3, .slice none 0 0]) rfl agProg (.tmp 11) (.tmp 20) rfl rfl rfl rfl rfl (ONE'.out _ _ _ rfl rfl rfl) H4.out ?_); intro w5 h5; have H5 := hide h5; clear h5 H4)
      | (go_at_call 42; with_reducible refine (C3.out _).mono ?_; rintro z w6 ⟨rfl, rfl⟩; clear C3)
      | (refine wpList_build_st (E := declE) rfl 3 _ slDecl rfl (by omega) (by omega) [.agg #[sv sN, .int .i64 0], .agg #[sv sL, .int .i64 0], .agg #[sv sM, .int .i64 0]] ([⟨sN, 0⟩, ⟨sL, 0⟩, ⟨sM, 0⟩] : List DRec) ?_ rfl rfl H5.out ?_ ?_; exact rfl; exact (fun _ _ _ => ⟨⟨rfl, okStr_small _ (by decide)⟩, ⟨rfl, okStr_small _ (by decide)⟩, ⟨rfl, okStr_small _ (by decide)⟩, trivial⟩); intro g6 w6 h6; have H6 := hide h6.persist; clear h6 H5)
      | ((with_reducible refine wpList_storeF_st (cs := [.slice (some ⟨g2, 0, none⟩) 3 3, .slice (some ⟨g3, 0, none⟩) 3 3, .slice none 0 0]) (ds := [.slice (some ⟨g2, 0, none⟩) 3 3, .slice (some ⟨g6, 0, none⟩) 3 3, .slice none 0 0]) rfl 40 (.tmp 28) (.tmp 27) rfl szDecls rfl rfl rfl rfl H6.out.f1 (by simp) rfl ?_); intro w7 h7; have H7 := hide h7.d2; clear h7 H6)
      | (go_at_call 43; refine (gblock_calls l1 b _ _ v1 H7.out (up4 M1.out) s1).mono ?_; rintro z w8 ⟨u1, rfl, h8⟩; obtain ⟨b1, c1, hu1, _⟩ := h8.sl_form mem0; subst hu1; have H8 := hide h8; clear h8 H7)
      | (go_at_call 43; refine (gblock_calls l2 b _ _ v2 H8.out (up5 M2.out) s2).mono ?_; rintro z w9 ⟨u2, rfl, h9⟩; obtain ⟨b2, c2, hu2, _⟩ := h9.sl_form mem0; subst hu2; have H9 := hide h9; clear h9 H8)
      | (go_at_call 43; refine (gblock_calls l3 b _ _ v3 H9.out (up6 M3.out) s3).mono ?_; rintro z w10 ⟨u3, rfl, h10⟩; obtain ⟨b3, c3, hu3, _⟩ := h10.sl_form mem0; subst hu3; have H10 := hide h10; clear h10 H9)
      | (go_at_call 43; refine (gblock_calls l4 b _ _ v4 H10.out (up1 (up6 M4.out)) s4).mono ?_; rintro z w11 ⟨u4, rfl, h11⟩; obtain ⟨b4, c4, hu4, _⟩ := h11.sl_form mem0; subst hu4; have H11 := hide h11; clear h11 H10)
      | (refine wpList_build_st (E := funcE) rfl 4 _ slFunc rfl (by omega) (by omega) [.agg #[sv sMain, .int .i64 0, .slice b1 (blockR l1).toL.length c1], .agg #[sv sF, .int .i64 0, .slice b2 (blockR l2).toL.length c2], .agg #[sv sG, .int .i64 0, .slice b3 (blockR l3).toL.length c3], .agg #[sv sH, .int .i64 0, .slice b4 (blockR l4).toL.length c4]] ([⟨sMain, 0, blockR l1⟩, ⟨sF, 0, blockR l2⟩, ⟨sG, 0, blockR l3⟩, ⟨sH, 0, blockR l4⟩] : List FRec) ?_ rfl rfl H11.out ?_ ?_; exact rfl; exact (fun e hl hs => ⟨⟨_, rfl, okStr_small sMain (by decide), Stms.sl_iff.2 (hs.sl_mem mem3)⟩, ⟨_, rfl, okStr_small sF (by decide), Stms.sl_iff.2 (hs.sl_mem mem2)⟩, ⟨_, rfl, okStr_small sG (by decide), Stms.sl_iff.2 (hs.sl_mem mem1)⟩, ⟨_, rfl, okStr_small sH (by decide), Stms.sl_iff.2 (hs.sl_mem mem0)⟩, trivial⟩); intro g12 w12 h12; have H12 := hide h12.persist; clear h12 H11)
      | ((with_reducible refine wpList_storeF_st (cs := [.slice (some ⟨g2, 0, none⟩) 3 3, .slice (some ⟨g6, 0, none⟩) 3 3, .slice none 0 0]) (ds := [.slice (some ⟨g2, 0, none⟩) 3 3, .slice (some ⟨g6, 0, none⟩) 3 3, .slice (some ⟨g12, 0, none⟩) 4 4]) rfl 41 (.tmp 42) (.tmp 41) rfl szFuncs rfl rfl rfl rfl H12.out.f5 (by simp) rfl ?_); intro w13 h13; have H13 := hide h13.d2.d2.d2.d2; clear h13 H12)
      | (go_at_call 42; with_reducible refine (C2.out _).mono ?_; rintro z w14 ⟨rfl, rfl⟩; clear C2)
      | (refine wpList_loadB_st (cs := [.slice (some ⟨g2, 0, none⟩) 3 3, .slice (some ⟨g6, 0, none⟩) 3 3, .slice (some ⟨g12, 0, none⟩) 4 4]) rfl agProg (.tmp 11) rfl rfl rfl H13.out mem0 ?_)
      | ((with_reducible refine wpList_store_ag (cs := [.slice (some ⟨g2, 0, none⟩) 3 3, .slice (some ⟨g6, 0, none⟩) 3 3, .slice (some ⟨g12, 0, none⟩) 4 4]) rfl agProg (.tmp 10) (.tmp 60) rfl rfl rfl rfl rfl (ONE'.out _ _ _ rfl rfl rfl) H13.out.f4 ?_); intro w15 h15; have H15 := hide h15; clear h15 H13))
    (try simp only [Exit.inBlock, Exit.then])
    have hb10 := H15.out.mem_blk mem0
    refine bodyPost_ret (results_cell_row rfl _ _ g10 _ _ _ _ rfl hb10 Try.underlying43 rfl szProg) rfl ?_
    refine ⟨_, _, _, rfl, ?_⟩
    rw [HF.out, HLK.out]
    exact H15.out.drop.drop
  · obtain ⟨r3, hr3⟩ : ∃ r, t % 3 = r := ⟨_, rfl⟩
    have hne : (r3 == 0) = false := by rw [beq_eq_false_iff_ne, ← hr3]; exact h3
    have C3 : Hid (∀ w, Calls Try.prog 42 #[.int .i64 t, .int .i64 3] w (fun e w' => e = .returned (.int .i64 r3) ∧ w = w')) := hide (fun w => (within6_calls t 3 (by decide) (by decide) ht1 ht2).mono (fun e w' he => ⟨by rw [he.1, hr3], he.2⟩))
    have HLK : Hid (locksR t = [⟨sL, 0⟩, ⟨sM, 0⟩, ⟨sN, 0⟩]) := hide (by unfold locksR; rw [if_neg h3])
    clear hr3
    clear h3
    go_enter Try.func19, Try.ntmps19
    go_wp2_with (first
      | ((with_reducible refine wpList_alloc_ag rfl agProg rfl H.out ?_); intro g10 w1 h1; have H1 := hide h1; clear h1 H)
      | (refine wpList_build_st (E := declE) rfl 3 _ slDecl rfl (by omega) (by omega) [.agg #[sv sX, .int .i64 0], .agg #[sv sY, .int .i64 0], .agg #[sv sZ, .int .i64 0]] ([⟨sX, 0⟩, ⟨sY, 0⟩, ⟨sZ, 0⟩] : List DRec) ?_ rfl rfl H1.out ?_ ?_; exact rfl; exact (fun _ _ _ => ⟨⟨rfl, okStr_small _ (by decide)⟩, ⟨rfl, okStr_small _ (by decide)⟩, ⟨rfl, okStr_small _ (by decide)⟩, trivial⟩); intro g2 w2 h2; have H2 := hide h2.persist; clear h2 H1)
      | (refine wpList_build_st (E := declE) rfl 3 _ slDecl rfl (by omega) (by omega) [.agg #[sv sL, .int .i64 0], .agg #[sv sM, .int .i64 0], .agg #[sv sN, .int .i64 0]] ([⟨sL, 0⟩, ⟨sM, 0⟩, ⟨sN, 0⟩] : List DRec) ?_ rfl rfl H2.out ?_ ?_; exact rfl; exact (fun _ _ _ => ⟨⟨rfl, okStr_small _ (by decide)⟩, ⟨rfl, okStr_small _ (by decide)⟩, ⟨rfl, okStr_small _ (by decide)⟩, trivial⟩); intro g3 w3 h3; have H3 := hide h3.persist; clear h3 H2)
      | ((with_reducible refine wpList_alloc_ag rfl agProg rfl H3.out ?_); intro g11 w4 h4; have H4 := hide h4; clear h4 H3)
      | ((with_reducible refine wpList_store_ag (cs := [.slice (some ⟨g2, 0, none⟩) 3 3, .slice (some ⟨g3, 0, none⟩) 3 3, .slice none 0 0]) rfl agProg (.tmp 11) (.tmp 20) rfl rfl rfl rfl rfl (ONE'.out _ _ _ rfl rfl rfl) H4.out ?_); intro w5 h5; have H5 := hide h5; clear h5 H4)
      | (go_at_call 42; with_reducible refine (C3.out _).mono ?_; rintro z w6 ⟨rfl, rfl⟩; clear C3)
      | (go_at_call 43; refine (gblock_calls l1 b _ _ v1 H5.out (up4 M1.out) s1).mono ?_; rintro z w8 ⟨u1, rfl, h8⟩; obtain ⟨b1, c1, hu1, _⟩ := h8.sl_form mem0; subst hu1; have H8 := hide h8; clear h8 H5)
      | (go_at_call 43; refine (gblock_calls l2 b _ _ v2 H8.out (up5 M2.out) s2).mono ?_; rintro z w9 ⟨u2, rfl, h9⟩; obtain ⟨b2, c2, hu2, _⟩ := h9.sl_form mem0; subst hu2; have H9 := hide h9; clear h9 H8)
      | (go_at_call 43; refine (gblock_calls l3 b _ _ v3 H9.out (up6 M3.out) s3).mono ?_; rintro z w10 ⟨u3, rfl, h10⟩; obtain ⟨b3, c3, hu3, _⟩ := h10.sl_form mem0; subst hu3; have H10 := hide h10; clear h10 H9)
      | (go_at_call 43; refine (gblock_calls l4 b _ _ v4 H10.out (up1 (up6 M4.out)) s4).mono ?_; rintro z w11 ⟨u4, rfl, h11⟩; obtain ⟨b4, c4, hu4, _⟩ := h11.sl_form mem0; subst hu4; have H11 := hide h11; clear h11 H10)
      | (refine wpList_build_st (E := funcE) rfl 4 _ slFunc rfl (by omega) (by omega) [.agg #[sv sMain, .int .i64 0, .slice b1 (blockR l1).toL.length c1], .agg #[sv sF, .int .i64 0, .slice b2 (blockR l2).toL.length c2], .agg #[sv sG, .int .i64 0, .slice b3 (blockR l3).toL.length c3], .agg #[sv sH, .int .i64 0, .slice b4 (blockR l4).toL.length c4]] ([⟨sMain, 0, blockR l1⟩, ⟨sF, 0, blockR l2⟩, ⟨sG, 0, blockR l3⟩, ⟨sH, 0, blockR l4⟩] : List FRec) ?_ rfl rfl H11.out ?_ ?_; exact rfl; exact (fun e hl hs => ⟨⟨_, rfl, okStr_small sMain (by decide), Stms.sl_iff.2 (hs.sl_mem mem3)⟩, ⟨_, rfl, okStr_small sF (by decide), Stms.sl_iff.2 (hs.sl_mem mem2)⟩, ⟨_, rfl, okStr_small sG (by decide), Stms.sl_iff.2 (hs.sl_mem mem1)⟩, ⟨_, rfl, okStr_small sH (by decide), Stms.sl_iff.2 (hs.sl_mem mem0)⟩, trivial⟩); intro g12 w12 h12; have H12 := hide h12.persist; clear h12 H11)
      | ((with_reducible refine wpList_storeF_st (cs := [.slice (some ⟨g2, 0, none⟩) 3 3, .slice (some ⟨g3, 0, none⟩) 3 3, .slice none 0 0]) (ds := [.slice (some ⟨g2, 0, none⟩) 3 3, .slice (some ⟨g3, 0, none⟩) 3 3, .slice (some ⟨g12, 0, none⟩) 4 4]) rfl 41 (.tmp 42) (.tmp 41) rfl szFuncs rfl rfl rfl rfl H12.out.f5 (by simp) rfl ?_); intro w13 h13; have H13 := hide h13.d2.d2.d2.d2; clear h13 H12)
      | (go_at_call 42; with_reducible refine (C2.out _).mono ?_; rintro z w14 ⟨rfl, rfl⟩; clear C2)
      | (refine wpList_loadB_st (cs := [.slice (some ⟨g2, 0, none⟩) 3 3, .slice (some ⟨g3, 0, none⟩) 3 3, .slice (some ⟨g12, 0, none⟩) 4 4]) rfl agProg (.tmp 11) rfl rfl rfl H13.out mem0 ?_)
      | ((with_reducible refine wpList_store_ag (cs := [.slice (some ⟨g2, 0, none⟩) 3 3, .slice (some ⟨g3, 0, none⟩) 3 3, .slice (some ⟨g12, 0, none⟩) 4 4]) rfl agProg (.tmp 10) (.tmp 60) rfl rfl rfl rfl rfl (ONE'.out _ _ _ rfl rfl rfl) H13.out.f4 ?_); intro w15 h15; have H15 := hide h15; clear h15 H13))
    (try simp only [Exit.inBlock, Exit.then])
    have hb10 := H15.out.mem_blk mem0
    refine bodyPost_ret (results_cell_row rfl _ _ g10 _ _ _ _ rfl hb10 Try.underlying43 rfl szProg) rfl ?_
    refine ⟨_, _, _, rfl, ?_⟩
    rw [HF.out, HLK.out]
    exact H15.out.drop.drop
end Go.Proofs.Ytmebmgbjpbapjaa
