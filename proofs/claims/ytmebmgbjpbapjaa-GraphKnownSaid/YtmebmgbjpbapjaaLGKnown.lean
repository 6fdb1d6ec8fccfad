/-
  GraphKnown.
-/
import Derived.Test.YtmebmgbjpbapjaaKk
import Derived.Test.YtmebmgbjpbapjaaLGParts
namespace Go.Proofs.Ytmebmgbjpbapjaa
open Go.RowKit Go.Maps Go.MapKept
variable {b : Env} {L : List HP} {w : World}

def prog0 : List FRec := [⟨sMain, 0, bodyC [sD, sA]⟩, ⟨sA, 0, bodyC [sB]⟩, ⟨sB, 0, bodyC [sC, sB]⟩, ⟨sC, 0, bodyC [sA]⟩, ⟨sD, 0, bodyC []⟩, ⟨sE, 0, bodyC [sC]⟩, ⟨sF, 0, bodyC [sF]⟩]
theorem funcE_of {e : Env} (hs : Sat e L w) {v : Value} {nm : Str} {l : List SRec} (hok : okStr nm) (hm : HP.sl stmtE v l ∈ L) : funcE.rd e.h ⟨nm, 0, Stms.ofL l⟩ [sv nm, .int .i64 0, v] :=
  ⟨v, rfl, hok, Stms.sl_iff.2 (by rw [Stms.toL_ofL]; exact hs.sl_mem hm)⟩
theorem all_true : ∀ (k : Nat) (h : k < [true, true, true, true, true, true].length), [true, true, true, true, true, true][k] = true := by decide

set_option linter.unusedSimpArgs false in
set_option maxRecDepth 100000 in
set_option maxHeartbeats 16000000 in
theorem graphKnown_calls (h : St b L w) (which : Int) (hk1 : -9223372036854775808 ≤ which) (hk2 : which ≤ 9223372036854775807) :
    Calls Try.prog 10 #[.int .i64 which] w fun x w' => x = .returned (.bool true) ∧ St b L w' := by
  have ONE : Hid (∀ (a c d : Value), a.oneCell' = true → c.oneCell' = true → d.oneCell' = true → ∀ v ∈ [a, c, d], v.oneCell' = true) := hide (by intro a c d h1 h2 h3 v hv; simp at hv; rcases hv with rfl | rfl | rfl <;> assumption)
  have H := hide h
  clear h
  go_enter Try.func10, Try.ntmps10
  go_wp2_with (first
    | (go_at_call 11; refine (known_calls H.out).mono ?_; rintro x w1 ⟨rfl, h1⟩; have H1 := hide h1; clear h1 H)
    | (refine wpList_build_st (E := strE) rfl 2 _ slStr rfl (by omega) (by omega) [sv sD, sv sA] [sD, sA] ?_ rfl rfl H1.out ?_ ?_; exact rfl; exact (fun _ _ _ => ⟨⟨rfl, okS1 _⟩, ⟨rfl, okS1 _⟩, trivial⟩); intro g2 w2 h2; have H2 := hide h2.persist; clear h2 H1)
    | (go_at_call 34; refine (fun_calls H2.out sMain (okK 0 _ (by decide)) (cto := [sD, sA]) mem0 (by decide)).mono ?_; rintro x w3 ⟨vf0, rfl, h3⟩; have H3 := hide h3.d1; clear h3 H2)
    | (refine wpList_build_st (E := strE) rfl 1 _ slStr rfl (by omega) (by omega) [sv sB] [sB] ?_ rfl rfl H3.out ?_ ?_; exact rfl; exact (fun _ _ _ => ⟨⟨rfl, okS1 _⟩, trivial⟩); intro g4 w4 h4; have H4 := hide h4.persist; clear h4 H3)
    | (go_at_call 34; refine (fun_calls H4.out sA (okK 0 _ (by decide)) (cto := [sB]) mem0 (by decide)).mono ?_; rintro x w5 ⟨vf1, rfl, h5⟩; have H5 := hide h5.d1; clear h5 H4)
    | (refine wpList_build_st (E := strE) rfl 2 _ slStr rfl (by omega) (by omega) [sv sC, sv sB] [sC, sB] ?_ rfl rfl H5.out ?_ ?_; exact rfl; exact (fun _ _ _ => ⟨⟨rfl, okS1 _⟩, ⟨rfl, okS1 _⟩, trivial⟩); intro g6 w6 h6; have H6 := hide h6.persist; clear h6 H5)
    | (go_at_call 34; refine (fun_calls H6.out sB (okK 0 _ (by decide)) (cto := [sC, sB]) mem0 (by decide)).mono ?_; rintro x w7 ⟨vf2, rfl, h7⟩; have H7 := hide h7.d1; clear h7 H6)
    | (refine wpList_build_st (E := strE) rfl 1 _ slStr rfl (by omega) (by omega) [sv sA] [sA] ?_ rfl rfl H7.out ?_ ?_; exact rfl; exact (fun _ _ _ => ⟨⟨rfl, okS1 _⟩, trivial⟩); intro g8 w8 h8; have H8 := hide h8.persist; clear h8 H7)
    | (go_at_call 34; refine (fun_calls H8.out sC (okK 0 _ (by decide)) (cto := [sA]) mem0 (by decide)).mono ?_; rintro x w9 ⟨vf3, rfl, h9⟩; have H9 := hide h9.d1; clear h9 H8)
    | (go_at_call 34; refine (fun_calls (H9.out.sl_nil strE) sD (okK 0 _ (by decide)) (cto := []) mem0 (by decide)).mono ?_; rintro x w10 ⟨vf4, rfl, h10⟩; have H10 := hide h10.d1; clear h10 H9)
    | (refine wpList_build_st (E := strE) rfl 1 _ slStr rfl (by omega) (by omega) [sv sC] [sC] ?_ rfl rfl H10.out ?_ ?_; exact rfl; exact (fun _ _ _ => ⟨⟨rfl, okS1 _⟩, trivial⟩); intro g11 w11 h11; have H11 := hide h11.persist; clear h11 H10)
    | (go_at_call 34; refine (fun_calls H11.out sE (okK 0 _ (by decide)) (cto := [sC]) mem0 (by decide)).mono ?_; rintro x w12 ⟨vf5, rfl, h12⟩; have H12 := hide h12.d1; clear h12 H11)
    | (refine wpList_build_st (E := strE) rfl 1 _ slStr rfl (by omega) (by omega) [sv sF] [sF] ?_ rfl rfl H12.out ?_ ?_; exact rfl; exact (fun _ _ _ => ⟨⟨rfl, okS1 _⟩, trivial⟩); intro g13 w13 h13; have H13 := hide h13.persist; clear h13 H12)
    | (go_at_call 34; refine (fun_calls H13.out sF (okK 0 _ (by decide)) (cto := [sF]) mem0 (by decide)).mono ?_; rintro x w14 ⟨vf6, rfl, h14⟩; have H14 := hide h14.d1; clear h14 H13)
    | (refine wpList_build_st (E := funcE) rfl 7 _ slFunc rfl (by omega) (by omega) [.agg #[sv sMain, .int .i64 0, vf0], .agg #[sv sA, .int .i64 0, vf1], .agg #[sv sB, .int .i64 0, vf2], .agg #[sv sC, .int .i64 0, vf3], .agg #[sv sD, .int .i64 0, vf4], .agg #[sv sE, .int .i64 0, vf5], .agg #[sv sF, .int .i64 0, vf6]] prog0 ?_ rfl rfl H14.out ?_ ?_; exact rfl; exact (fun e _ hs => ⟨funcE_of hs (okK 0 _ (by decide)) mem6, funcE_of hs (okK 0 _ (by decide)) mem5, funcE_of hs (okK 0 _ (by decide)) mem4, funcE_of hs (okK 0 _ (by decide)) mem3, funcE_of hs (okK 0 _ (by decide)) mem2, funcE_of hs (okK 0 _ (by decide)) mem1, funcE_of hs (okK 0 _ (by decide)) mem0, trivial⟩); intro gf w15 h15; have H15 := hide h15.d1.d1.d1.d1.d1.d1.d1; clear h15 H14)
    | ((with_reducible refine wpList_alloc_ag rfl agProg (by rfl) H15.out ?_); intro g3 w16 h16; have H16 := hide h16; clear h16 H15)
    | ((with_reducible refine wpList_store_ag (cs := [.slice none 0 0, .slice none 0 0, .slice (some ⟨gf, 0, none⟩) 7 7]) rfl agProg (.tmp 3) (.tmp 21) rfl rfl rfl rfl rfl (ONE.out _ _ _ rfl rfl rfl) H16.out ?_); intro w17 h17; have c3 : w17.cell? ⟨g3, 2, none⟩ = some (.slice (some ⟨gf, 0, none⟩) 7 7) := h17.blk_cell mem0 2; have H17 := hide h17; clear h17 H16)
    | (refine wpList_build1_st (E := stmtE) rfl (.tmp 24) slStmt rfl ⟨6, 0, sE, .nil, .nil⟩ rfl H17.out ?_ ?_; exact (fun e hl hs => ⟨_, _, rfl, okS1 _, sl_nil_stms _, sl_nil_stms _⟩); intro g18 w18 h18; have H18 := hide h18.persist; clear h18 H17)
    | (refine wpList_build_st (E := stmtE) rfl 2 _ slStmt rfl (by omega) (by omega) [.agg #[.int .i64 6, .int .i64 0, sv sA, .slice none 0 0, .slice none 0 0], .agg #[.int .i64 6, .int .i64 0, sv sE, .slice none 0 0, .slice none 0 0]] [⟨6, 0, sA, .nil, .nil⟩, ⟨6, 0, sE, .nil, .nil⟩] ?_ rfl rfl H18.out ?_ ?_; exact rfl; exact (fun e hl hs => ⟨⟨_, _, rfl, okS1 _, sl_nil_stms _, sl_nil_stms _⟩, ⟨_, _, rfl, okS1 _, sl_nil_stms _, sl_nil_stms _⟩, trivial⟩); intro g19 w19 h19; have H19 := hide h19.persist; clear h19 H18)
    | (refine wpList_build_st (E := stmtE) rfl 2 _ slStmt rfl (by omega) (by omega) [.agg #[.int .i64 8, .int .i64 0, .string ⟨#[]⟩, .slice (some ⟨g18, 0, none⟩) 1 1, .slice none 0 0], .agg #[.int .i64 7, .int .i64 0, .string ⟨#[]⟩, .slice none 0 0, .slice (some ⟨g19, 0, none⟩) 2 2]] bodyD.toL ?_ rfl rfl H19.out ?_ ?_; exact rfl; exact (fun e hl hs => ⟨⟨_, _, rfl, okStr_small ([] : Str) (by decide), Stms.sl_iff.2 (hs.sl_mem mem1), sl_nil_stms _⟩, ⟨_, _, rfl, okStr_small ([] : Str) (by decide), sl_nil_stms _, Stms.sl_iff.2 (hs.sl_mem mem0)⟩, trivial⟩); intro g20 w20 h20; have hq := (h20.persist).f4; obtain ⟨⟨u0, hcu0⟩, hfz0, hset⟩ := hq.rows_setAt (i := 4) (j := 2) (x := ⟨sD, 0, .nil⟩) rfl (by decide); have hcu : w20.cell? ⟨gf, 14, none⟩ = some u0 := hcu0; have hfz : w20.frozen? ⟨gf, 14, none⟩ = false := hfz0; have h19 : St b (HP.rows _ funcE _ progK :: _) (World.setCell w20 ⟨gf, 14, none⟩ (.slice (some ⟨g20, 0, none⟩) 2 2)) := hset (.slice (some ⟨g20, 0, none⟩) 2 2) ⟨sD, 0, bodyD⟩ (fun e hl hs c hc => (by obtain ⟨v, rfl, hn, _⟩ := hc; exact ⟨_, rfl, hn, Stms.sl_iff.2 (hs.sl_mem mem1)⟩)); have H20 := hide h19; clear h20 hq hcu0 hfz0 hset h19 H19))
  have H99 := hide H20.out.persist.f4
  clear H20
  generalize (w20 : World).setCell _ _ = w50 at H99 ⊢
  have HW := hide (And.intro hk1 hk2)
  clear hk1 hk2
  refine wp_region_table (tabK (.slice (some ⟨gf, 0, none⟩) 7 7)) (by kernel_rfl) (by kernel_rfl) (by kernel_rfl) (by kernel_rfl) H99.out ?steps ?fin
  case steps =>
    refine StepsFrom.cons ?_ ?_
    · exact at_load (cs := [.slice none 0 0, .slice none 0 0, .slice (some ⟨gf, 0, none⟩) 7 7]) rfl (Wants.free rfl) agProg 3 rfl (by kernel_rfl) rfl mem0 rfl rfl
    refine StepsFrom.cons ?_ ?_
    · exact at_call rfl (Wants.free rfl) (f := .parts ordK) rfl [.at 0 34 (.is (.agg #[.slice none 0 0, .slice none 0 0, .slice (some ⟨gf, 0, none⟩) 7 7]))] rfl ⟨⟨by kernel_rfl, rfl, rfl⟩, trivial⟩ (enters_of Try.func28 (by kernel_rfl) rfl) (fun w e vs _ hs hv => by obtain ⟨v0, r0, rfl, h0, rfl⟩ := hv; cases h0; exact order_K hs mem1)
    refine StepsFrom.cons ?_ ?_
    · exact at_strs rfl (Wants.free rfl) slStr [sA, sB, sC] rfl (by decide) (by decide) (fun s hs => okK 0 s ((by decide : ∀ s ∈ [sA, sB, sC], s ∈ setK) s hs)) rfl
    refine StepsFrom.cons ?_ ?_
    · exact at_strs rfl (Wants.free rfl) slStr [sD] rfl (by decide) (by decide) (fun s hs => okK 0 s ((by decide : ∀ s ∈ [sD], s ∈ setK) s hs)) rfl
    refine StepsFrom.cons ?_ ?_
    · exact at_strs rfl (Wants.free rfl) slStr [sE] rfl (by decide) (by decide) (fun s hs => okK 0 s ((by decide : ∀ s ∈ [sE], s ∈ setK) s hs)) rfl
    refine StepsFrom.cons ?_ ?_
    · exact at_strs rfl (Wants.free rfl) slStr [sF] rfl (by decide) (by decide) (fun s hs => okK 0 s ((by decide : ∀ s ∈ [sF], s ∈ setK) s hs)) rfl
    refine StepsFrom.cons ?_ ?_
    · exact at_strs rfl (Wants.free rfl) slStr [sMain] rfl (by decide) (by decide) (fun s hs => okK 0 s ((by decide : ∀ s ∈ [sMain], s ∈ setK) s hs)) rfl
    refine StepsFrom.cons ?_ ?_
    · exact at_build (E := strE.in) rfl (Wants.free rfl) slStrs [.at 2 36 (.strs [sA, sB, sC]), .at 3 37 (.strs [sD]), .at 4 38 (.strs [sE]), .at 5 39 (.strs [sF]), .at 6 40 (.strs [sMain])] ordK rfl (by decide) (by decide) rfl ⟨⟨by kernel_rfl, rfl, rfl⟩, ⟨by kernel_rfl, rfl, rfl⟩, ⟨by kernel_rfl, rfl, rfl⟩, ⟨by kernel_rfl, rfl, rfl⟩, ⟨by kernel_rfl, rfl, rfl⟩, trivial⟩ (fun e vs hv => by obtain ⟨v0, r0, rfl, h0, v1, r1, rfl, h1, v2, r2, rfl, h2, v3, r3, rfl, h3, v4, r4, rfl, h4, rfl⟩ := hv; exact ⟨⟨v0, El.sl_cells h0, h0⟩, ⟨v1, El.sl_cells h1, h1⟩, ⟨v2, El.sl_cells h2, h2⟩, ⟨v3, El.sl_cells h3, h3⟩, ⟨v4, El.sl_cells h4, h4⟩, trivial⟩) (f := .parts ordK) (fun _ _ h => h) rfl
    refine StepsFrom.cons ?_ ?_
    · exact at_call rfl (Wants.free rfl) (f := .is (.bool true)) rfl [.at 1 35 (.parts ordK), .at 7 41 (.parts ordK)] rfl ⟨⟨by kernel_rfl, rfl, rfl⟩, ⟨by kernel_rfl, rfl, rfl⟩, trivial⟩ (enters_of Try.func14 (by kernel_rfl) rfl) (fun w e vs _ hs hv => by obtain ⟨v0, r0, rfl, h0, v1, r1, rfl, h1, rfl⟩ := hv; exact all_K hs h0 h1)
    refine StepsFrom.cons ?_ ?_
    · exact at_load (cs := [.slice none 0 0, .slice none 0 0, .slice (some ⟨gf, 0, none⟩) 7 7]) rfl (Wants.free rfl) agProg 3 rfl (by kernel_rfl) rfl mem0 rfl rfl
    refine StepsFrom.cons ?_ ?_
    · exact at_call rfl (Wants.free rfl) (f := .strs [sA, sB, sC, sD, sMain]) rfl [.at 9 43 (.is (.agg #[.slice none 0 0, .slice none 0 0, .slice (some ⟨gf, 0, none⟩) 7 7])), .cst (sv sMain)] rfl ⟨⟨by kernel_rfl, rfl, rfl⟩, trivial, trivial⟩ (enters_of Try.func26 (by kernel_rfl) rfl) (fun w e vs _ hs hv => by obtain ⟨v0, r0, rfl, h0, v1, r1, rfl, h1, rfl⟩ := hv; cases h0; cases h1; exact reach_K hs mem1 sMain (by decide) _ (fun R h1 h2 => reachK_main h1 h2))
    refine StepsFrom.cons ?_ ?_
    · exact at_strs rfl (Wants.free rfl) slStr [sA, sB, sC, sD, sMain] rfl (by decide) (by decide) (fun s hs => okK 0 s ((by decide : ∀ s ∈ [sA, sB, sC, sD, sMain], s ∈ setK) s hs)) rfl
    refine StepsFrom.cons ?_ ?_
    · exact at_call rfl (Wants.free rfl) (f := .is (.bool true)) rfl [.at 10 44 (.strs [sA, sB, sC, sD, sMain]), .at 11 45 (.strs [sA, sB, sC, sD, sMain])] rfl ⟨⟨by kernel_rfl, rfl, rfl⟩, ⟨by kernel_rfl, rfl, rfl⟩, trivial⟩ (enters_of Try.func21 (by kernel_rfl) rfl) (fun w e vs _ hs hv => by obtain ⟨v0, r0, rfl, h0, v1, r1, rfl, h1, rfl⟩ := hv; exact same_K hs h0 h1)
    refine StepsFrom.cons ?_ ?_
    · exact at_load (cs := [.slice none 0 0, .slice none 0 0, .slice (some ⟨gf, 0, none⟩) 7 7]) rfl (Wants.free rfl) agProg 3 rfl (by kernel_rfl) rfl mem0 rfl rfl
    refine StepsFrom.cons ?_ ?_
    · exact at_call rfl (Wants.free rfl) (f := .strs [sA, sB, sC]) rfl [.at 13 47 (.is (.agg #[.slice none 0 0, .slice none 0 0, .slice (some ⟨gf, 0, none⟩) 7 7])), .cst (sv sC)] rfl ⟨⟨by kernel_rfl, rfl, rfl⟩, trivial, trivial⟩ (enters_of Try.func26 (by kernel_rfl) rfl) (fun w e vs _ hs hv => by obtain ⟨v0, r0, rfl, h0, v1, r1, rfl, h1, rfl⟩ := hv; cases h0; cases h1; exact reach_K hs mem1 sC (by decide) _ (fun R h1 h2 => reachK_c h1 h2))
    refine StepsFrom.cons ?_ ?_
    · exact at_strs rfl (Wants.free rfl) slStr [sA, sB, sC] rfl (by decide) (by decide) (fun s hs => okK 0 s ((by decide : ∀ s ∈ [sA, sB, sC], s ∈ setK) s hs)) rfl
    refine StepsFrom.cons ?_ ?_
    · exact at_call rfl (Wants.free rfl) (f := .is (.bool true)) rfl [.at 14 48 (.strs [sA, sB, sC]), .at 15 49 (.strs [sA, sB, sC])] rfl ⟨⟨by kernel_rfl, rfl, rfl⟩, ⟨by kernel_rfl, rfl, rfl⟩, trivial⟩ (enters_of Try.func21 (by kernel_rfl) rfl) (fun w e vs _ hs hv => by obtain ⟨v0, r0, rfl, h0, v1, r1, rfl, h1, rfl⟩ := hv; exact same_K hs h0 h1)
    refine StepsFrom.cons ?_ ?_
    · exact at_val rfl (Wants.free rfl) [.at 16 50 (.is (.bool true))] ⟨⟨by kernel_rfl, rfl, rfl⟩, trivial⟩ (f := .is (.bool true)) rfl (fun a w e hv => ⟨_, hv.one, by simp [execOp, OpK.op]⟩)
    refine StepsFrom.cons ?_ ?_
    · exact at_load (cs := [.slice none 0 0, .slice none 0 0, .slice (some ⟨gf, 0, none⟩) 7 7]) rfl (Wants.guard 17 51 rfl rfl (by kernel_rfl) rfl) agProg 3 rfl (by kernel_rfl) rfl mem0 rfl rfl
    refine StepsFrom.cons ?_ ?_
    · exact at_call rfl (Wants.guard 17 51 rfl rfl (by kernel_rfl) rfl) (f := .strs [sF]) rfl [.at 18 52 (.is (.agg #[.slice none 0 0, .slice none 0 0, .slice (some ⟨gf, 0, none⟩) 7 7])), .cst (sv sF)] rfl ⟨⟨by kernel_rfl, rfl, rfl⟩, trivial, trivial⟩ (enters_of Try.func26 (by kernel_rfl) rfl) (fun w e vs _ hs hv => by obtain ⟨v0, r0, rfl, h0, v1, r1, rfl, h1, rfl⟩ := hv; cases h0; cases h1; exact reach_K hs mem1 sF (by decide) _ (fun R h1 h2 => reachK_f h1 h2))
    refine StepsFrom.cons ?_ ?_
    · exact at_strs rfl (Wants.guard 17 51 rfl rfl (by kernel_rfl) rfl) slStr [sF] rfl (by decide) (by decide) (fun s hs => okK 0 s ((by decide : ∀ s ∈ [sF], s ∈ setK) s hs)) rfl
    refine StepsFrom.cons ?_ ?_
    · exact at_call rfl (Wants.guard 17 51 rfl rfl (by kernel_rfl) rfl) (f := .is (.bool true)) rfl [.at 19 53 (.strs [sF]), .at 20 54 (.strs [sF])] rfl ⟨⟨by kernel_rfl, rfl, rfl⟩, ⟨by kernel_rfl, rfl, rfl⟩, trivial⟩ (enters_of Try.func21 (by kernel_rfl) rfl) (fun w e vs _ hs hv => by obtain ⟨v0, r0, rfl, h0, v1, r1, rfl, h1, rfl⟩ := hv; exact same_K hs h0 h1)
    refine StepsFrom.cons ?_ ?_
    · exact at_val rfl (Wants.free rfl) [.at 17 51 (.is (.bool true)), .at 21 55 (.is (.bool true))] ⟨⟨by kernel_rfl, rfl, rfl⟩, ⟨by kernel_rfl, rfl, rfl⟩, trivial⟩ (f := .is (.bool true)) rfl (fun a w e hv => by have h1 : a.eval (.tmp 51) = .bool true := hv.one; have h2 : a.eval (.tmp 55) = .bool true := hv.two; exact ⟨_, rfl, by simp [execOp, h1, h2, asBool]⟩)
    refine StepsFrom.cons ?_ ?_
    · exact at_load (cs := [.slice none 0 0, .slice none 0 0, .slice (some ⟨gf, 0, none⟩) 7 7]) rfl (Wants.free rfl) agProg 3 rfl (by kernel_rfl) rfl mem0 rfl rfl
    refine StepsFrom.cons ?_ ?_
    · exact at_call rfl (Wants.free rfl) (f := .strs [sB, sC]) rfl [.at 23 57 (.is (.agg #[.slice none 0 0, .slice none 0 0, .slice (some ⟨gf, 0, none⟩) 7 7])), .cst (sv sB)] rfl ⟨⟨by kernel_rfl, rfl, rfl⟩, trivial, trivial⟩ (enters_of Try.func22 (by kernel_rfl) rfl) (fun w e vs _ hs hv => by obtain ⟨v0, r0, rfl, h0, v1, r1, rfl, h1, rfl⟩ := hv; cases h0; cases h1; exact calls_K hs mem1 sB _ nxK_b)
    refine StepsFrom.cons ?_ ?_
    · exact at_strs rfl (Wants.free rfl) slStr [sB, sC] rfl (by decide) (by decide) (fun s hs => okK 0 s ((by decide : ∀ s ∈ [sB, sC], s ∈ setK) s hs)) rfl
    refine StepsFrom.cons ?_ ?_
    · exact at_call rfl (Wants.free rfl) (f := .is (.bool true)) rfl [.at 24 58 (.strs [sB, sC]), .at 25 59 (.strs [sB, sC])] rfl ⟨⟨by kernel_rfl, rfl, rfl⟩, ⟨by kernel_rfl, rfl, rfl⟩, trivial⟩ (enters_of Try.func21 (by kernel_rfl) rfl) (fun w e vs _ hs hv => by obtain ⟨v0, r0, rfl, h0, v1, r1, rfl, h1, rfl⟩ := hv; exact same_K hs h0 h1)
    refine StepsFrom.cons ?_ ?_
    · exact at_val rfl (Wants.free rfl) [.at 26 60 (.is (.bool true))] ⟨⟨by kernel_rfl, rfl, rfl⟩, trivial⟩ (f := .is (.bool true)) rfl (fun a w e hv => ⟨_, hv.one, by simp [execOp, OpK.op]⟩)
    refine StepsFrom.cons ?_ ?_
    · exact at_load (cs := [.slice none 0 0, .slice none 0 0, .slice (some ⟨gf, 0, none⟩) 7 7]) rfl (Wants.guard 27 61 rfl rfl (by kernel_rfl) rfl) agProg 3 rfl (by kernel_rfl) rfl mem0 rfl rfl
    refine StepsFrom.cons ?_ ?_
    · exact at_call rfl (Wants.guard 27 61 rfl rfl (by kernel_rfl) rfl) (f := .strs [sA, sD]) rfl [.at 28 62 (.is (.agg #[.slice none 0 0, .slice none 0 0, .slice (some ⟨gf, 0, none⟩) 7 7])), .cst (sv sMain)] rfl ⟨⟨by kernel_rfl, rfl, rfl⟩, trivial, trivial⟩ (enters_of Try.func22 (by kernel_rfl) rfl) (fun w e vs _ hs hv => by obtain ⟨v0, r0, rfl, h0, v1, r1, rfl, h1, rfl⟩ := hv; cases h0; cases h1; exact calls_K hs mem1 sMain _ nxK_main)
    refine StepsFrom.cons ?_ ?_
    · exact at_strs rfl (Wants.guard 27 61 rfl rfl (by kernel_rfl) rfl) slStr [sA, sD] rfl (by decide) (by decide) (fun s hs => okK 0 s ((by decide : ∀ s ∈ [sA, sD], s ∈ setK) s hs)) rfl
    refine StepsFrom.cons ?_ ?_
    · exact at_call rfl (Wants.guard 27 61 rfl rfl (by kernel_rfl) rfl) (f := .is (.bool true)) rfl [.at 29 63 (.strs [sA, sD]), .at 30 64 (.strs [sA, sD])] rfl ⟨⟨by kernel_rfl, rfl, rfl⟩, ⟨by kernel_rfl, rfl, rfl⟩, trivial⟩ (enters_of Try.func21 (by kernel_rfl) rfl) (fun w e vs _ hs hv => by obtain ⟨v0, r0, rfl, h0, v1, r1, rfl, h1, rfl⟩ := hv; exact same_K hs h0 h1)
    refine StepsFrom.cons ?_ ?_
    · exact at_val rfl (Wants.free rfl) [.at 27 61 (.is (.bool true)), .at 31 65 (.is (.bool true))] ⟨⟨by kernel_rfl, rfl, rfl⟩, ⟨by kernel_rfl, rfl, rfl⟩, trivial⟩ (f := .is (.bool true)) rfl (fun a w e hv => by have h1 : a.eval (.tmp 61) = .bool true := hv.one; have h2 : a.eval (.tmp 65) = .bool true := hv.two; exact ⟨_, rfl, by simp [execOp, h1, h2, asBool]⟩)
    refine StepsFrom.cons ?_ ?_
    · exact at_load (cs := [.slice none 0 0, .slice none 0 0, .slice (some ⟨gf, 0, none⟩) 7 7]) rfl (Wants.free rfl) agProg 3 rfl (by kernel_rfl) rfl mem0 rfl rfl
    refine StepsFrom.cons ?_ ?_
    · exact at_call rfl (Wants.free rfl) (f := .strs [sA, sE]) rfl [.at 33 67 (.is (.agg #[.slice none 0 0, .slice none 0 0, .slice (some ⟨gf, 0, none⟩) 7 7])), .cst (sv sD)] rfl ⟨⟨by kernel_rfl, rfl, rfl⟩, trivial, trivial⟩ (enters_of Try.func23 (by kernel_rfl) rfl) (fun w e vs _ hs hv => by obtain ⟨v0, r0, rfl, h0, v1, r1, rfl, h1, rfl⟩ := hv; cases h0; cases h1; exact spawns_K hs mem1 sD _ spK_d)
    refine StepsFrom.cons ?_ ?_
    · exact at_strs rfl (Wants.free rfl) slStr [sA, sE] rfl (by decide) (by decide) (fun s hs => okK 0 s ((by decide : ∀ s ∈ [sA, sE], s ∈ setK) s hs)) rfl
    refine StepsFrom.cons ?_ ?_
    · exact at_call rfl (Wants.free rfl) (f := .is (.bool true)) rfl [.at 34 68 (.strs [sA, sE]), .at 35 69 (.strs [sA, sE])] rfl ⟨⟨by kernel_rfl, rfl, rfl⟩, ⟨by kernel_rfl, rfl, rfl⟩, trivial⟩ (enters_of Try.func21 (by kernel_rfl) rfl) (fun w e vs _ hs hv => by obtain ⟨v0, r0, rfl, h0, v1, r1, rfl, h1, rfl⟩ := hv; exact same_K hs h0 h1)
    refine StepsFrom.cons ?_ ?_
    · exact at_val rfl (Wants.free rfl) [.at 36 70 (.is (.bool true))] ⟨⟨by kernel_rfl, rfl, rfl⟩, trivial⟩ (f := .is (.bool true)) rfl (fun a w e hv => ⟨_, hv.one, by simp [execOp, OpK.op]⟩)
    refine StepsFrom.cons ?_ ?_
    · exact at_load (cs := [.slice none 0 0, .slice none 0 0, .slice (some ⟨gf, 0, none⟩) 7 7]) rfl (Wants.guard 37 71 rfl rfl (by kernel_rfl) rfl) agProg 3 rfl (by kernel_rfl) rfl mem0 rfl rfl
    refine StepsFrom.cons ?_ ?_
    · exact at_call rfl (Wants.guard 37 71 rfl rfl (by kernel_rfl) rfl) (f := .strs []) rfl [.at 38 72 (.is (.agg #[.slice none 0 0, .slice none 0 0, .slice (some ⟨gf, 0, none⟩) 7 7])), .cst (sv sMain)] rfl ⟨⟨by kernel_rfl, rfl, rfl⟩, trivial, trivial⟩ (enters_of Try.func23 (by kernel_rfl) rfl) (fun w e vs _ hs hv => by obtain ⟨v0, r0, rfl, h0, v1, r1, rfl, h1, rfl⟩ := hv; cases h0; cases h1; exact spawns_K hs mem1 sMain _ spK_main)
    refine StepsFrom.cons ?_ ?_
    · exact at_val rfl (Wants.guard 37 71 rfl rfl (by kernel_rfl) rfl) [.at 39 73 (.strs [])] ⟨⟨by kernel_rfl, rfl, rfl⟩, trivial⟩ (f := .is (.int .i64 0)) rfl (fun a w e hv => by obtain ⟨base, cap, h1⟩ := El.sl_form hv.one; have h1 : a.eval (.tmp 73) = .slice base 0 cap := h1; exact ⟨_, rfl, lenK h1⟩)
    refine StepsFrom.cons ?_ ?_
    · exact at_val rfl (Wants.guard 37 71 rfl rfl (by kernel_rfl) rfl) [.at 40 74 (.is (.int .i64 0))] ⟨⟨by kernel_rfl, rfl, rfl⟩, trivial⟩ (f := .is (.bool true)) rfl (fun a w e hv => by have h1 : a.eval (.tmp 74) = .int .i64 0 := hv.one; exact ⟨_, rfl, eqlK h1⟩)
    refine StepsFrom.cons ?_ ?_
    · exact at_val rfl (Wants.free rfl) [.at 37 71 (.is (.bool true)), .at 41 75 (.is (.bool true))] ⟨⟨by kernel_rfl, rfl, rfl⟩, ⟨by kernel_rfl, rfl, rfl⟩, trivial⟩ (f := .is (.bool true)) rfl (fun a w e hv => by have h1 : a.eval (.tmp 71) = .bool true := hv.one; have h2 : a.eval (.tmp 75) = .bool true := hv.two; exact ⟨_, rfl, by simp [execOp, h1, h2, asBool]⟩)
    refine StepsFrom.cons ?_ ?_
    · exact at_load (cs := [.slice none 0 0, .slice none 0 0, .slice (some ⟨gf, 0, none⟩) 7 7]) rfl (Wants.free rfl) agProg 3 rfl (by kernel_rfl) rfl mem0 rfl rfl
    refine StepsFrom.cons ?_ ?_
    · exact at_call rfl (Wants.free rfl) (f := .strs []) rfl [.at 43 77 (.is (.agg #[.slice none 0 0, .slice none 0 0, .slice (some ⟨gf, 0, none⟩) 7 7])), .cst (sv sD)] rfl ⟨⟨by kernel_rfl, rfl, rfl⟩, trivial, trivial⟩ (enters_of Try.func22 (by kernel_rfl) rfl) (fun w e vs _ hs hv => by obtain ⟨v0, r0, rfl, h0, v1, r1, rfl, h1, rfl⟩ := hv; cases h0; cases h1; exact calls_K hs mem1 sD _ nxK_d)
    refine StepsFrom.cons ?_ ?_
    · exact at_val rfl (Wants.free rfl) [.at 44 78 (.strs [])] ⟨⟨by kernel_rfl, rfl, rfl⟩, trivial⟩ (f := .is (.int .i64 0)) rfl (fun a w e hv => by obtain ⟨base, cap, h1⟩ := El.sl_form hv.one; have h1 : a.eval (.tmp 78) = .slice base 0 cap := h1; exact ⟨_, rfl, lenK h1⟩)
    refine StepsFrom.cons ?_ ?_
    · exact at_val rfl (Wants.free rfl) [.at 45 79 (.is (.int .i64 0))] ⟨⟨by kernel_rfl, rfl, rfl⟩, trivial⟩ (f := .is (.bool true)) rfl (fun a w e hv => by have h1 : a.eval (.tmp 79) = .int .i64 0 := hv.one; exact ⟨_, rfl, eqlK h1⟩)
    refine StepsFrom.cons ?_ ?_
    · exact at_build (E := boolE) rfl (Wants.free rfl) slBool [.at 8 42 (.is (.bool true)), .at 12 46 (.is (.bool true)), .at 22 56 (.is (.bool true)), .at 32 66 (.is (.bool true)), .at 42 76 (.is (.bool true)), .at 46 80 (.is (.bool true))] [true, true, true, true, true, true] rfl (by decide) (by decide) rfl ⟨⟨by kernel_rfl, rfl, rfl⟩, ⟨by kernel_rfl, rfl, rfl⟩, ⟨by kernel_rfl, rfl, rfl⟩, ⟨by kernel_rfl, rfl, rfl⟩, ⟨by kernel_rfl, rfl, rfl⟩, ⟨by kernel_rfl, rfl, rfl⟩, trivial⟩ (fun e vs hv => by obtain ⟨v0, r0, rfl, h0, v1, r1, rfl, h1, v2, r2, rfl, h2, v3, r3, rfl, h3, v4, r4, rfl, h4, v5, r5, rfl, h5, rfl⟩ := hv; cases h0; cases h1; cases h2; cases h3; cases h4; cases h5; exact ⟨⟨rfl, trivial⟩, ⟨rfl, trivial⟩, ⟨rfl, trivial⟩, ⟨rfl, trivial⟩, ⟨rfl, trivial⟩, ⟨rfl, trivial⟩, trivial⟩) (f := .bools [true, true, true, true, true, true]) (fun _ _ h => h) rfl
    refine StepsFrom.cons ?_ ?_
    · exact at_val rfl (Wants.free rfl) [.at 47 81 (.bools [true, true, true, true, true, true])] ⟨⟨by kernel_rfl, rfl, rfl⟩, trivial⟩ (f := .bools [true, true, true, true, true, true]) rfl (fun a w e hv => ⟨_, hv.one, by simp [execOp, OpK.op]⟩)
    exact StepsFrom.nil
  case fin =>
    intro t w51 e hle hs hsz hout hR
    obtain ⟨g, ht, hg⟩ := tmps_told t 89 hsz
    have q4 : boolE.sl e.h (t.getD 4 undef) [true, true, true, true, true, true] := hR 48 4 (.bools [true, true, true, true, true, true]) rfl rfl
    have q0 : t.getD 0 undef = .int .i64 which := hout 0 (by kernel_rfl)
    rw [hg] at q4 q0
    obtain ⟨bq, cq, hbq⟩ := El.sl_form q4
    have h51 : St b (HP.sl boolE (.slice bq 6 cq) [true, true, true, true, true, true] :: L) w51 := by
      have := (hs.drop.drop.drop.drop.drop.in_sl (E := boolE) q4).st.base hle
      rw [hbq] at this; exact this
    have hq4 : g 4 = .slice bq 6 cq := hbq
    obtain ⟨gq, oq, hgq⟩ := h51.sl_base mem0 (by decide) (by decide)
    subst hgq
    have hk0 : 0 ≤ which % 6 := Int.emod_nonneg _ (by decide)
    have hk6 : which % 6 < 6 := Int.emod_lt_of_pos _ (by decide)
    obtain ⟨k, hk⟩ : ∃ k : Nat, which % 6 = (k : Int) := ⟨(which % 6).toNat, by omega⟩
    have hkl : k < [true, true, true, true, true, true].length := by show k < 6; omega
    have hkI : (k : Int) < 6 := by omega
    have hcell := (h51.sc_at mem0 hkl).1
    rw [all_true k hkl] at hcell
    have HK := hide hk
    have H51 := hide h51
    have hl : (List.range 89).map g = [g 0, g 1, g 2, g 3, g 4, g 5, g 6, g 7, g 8, g 9, g 10, g 11, g 12, g 13, g 14, g 15, g 16, g 17, g 18, g 19, g 20, g 21, g 22, g 23, g 24, g 25, g 26, g 27, g 28, g 29, g 30, g 31, g 32, g 33, g 34, g 35, g 36, g 37, g 38, g 39, g 40, g 41, g 42, g 43, g 44, g 45, g 46, g 47, g 48, g 49, g 50, g 51, g 52, g 53, g 54, g 55, g 56, g 57, g 58, g 59, g 60, g 61, g 62, g 63, g 64, g 65, g 66, g 67, g 68, g 69, g 70, g 71, g 72, g 73, g 74, g 75, g 76, g 77, g 78, g 79, g 80, g 81, g 82, g 83, g 84, g 85, g 86, g 87, g 88] := rfl
    rw [hl, q0, hq4] at ht
    subst ht
    clear hl hg hsz hout hR q4 q0 hbq hq4 hs h51 hk hk0 hk6 hkl H99 ONE hle
    go_wp2_with (go_at_call 13; refine (within8_calls which 6 (by decide) (by decide) HW.out.1 HW.out.2).mono ?_; rintro x w52 ⟨rfl, hw52⟩; subst hw52; rw [HK.out])
    go_ret
    exact ⟨rfl, H51.out.drop⟩

end Go.Proofs.Ytmebmgbjpbapjaa
