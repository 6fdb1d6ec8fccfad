/-
  GraphSpawns.
-/
import Derived.Test.YtmebmgbjpbapjaaP2
import Derived.Test.YtmebmgbjpbapjaaP7
import Derived.Test.YtmebmgbjpbapjaaLGParts
import Derived.Test.YtmebmgbjpbapjaaGqd
namespace Go.Proofs.Ytmebmgbjpbapjaa
open Go.RowKit Go.Maps Go.MapKept
variable {b : Env} {L : List HP} {w : World}

def mixF (F : List FRec) (i : Nat) : List FRec := (F.take i).map wrapF ++ F.drop i
theorem mixF_len (F : List FRec) (i : Nat) (hi : i ≤ F.length) : (mixF F i).length = F.length := by unfold mixF; simp; omega
theorem mixF_get {F : List FRec} {i : Nat} (hi : i < F.length) : (mixF F i)[i]? = some F[i] := by
  unfold mixF
  have hl : ((F.take i).map wrapF).length = i := by simp; omega
  rw [List.getElem?_append_right (by omega), hl, Nat.sub_self, List.getElem?_drop, Nat.add_zero, List.getElem?_eq_getElem hi]
theorem mixF_set {F : List FRec} {i : Nat} (hi : i < F.length) : (mixF F i).set i (wrapF F[i]) = mixF F (i + 1) := by
  unfold mixF
  have hl : ((F.take i).map wrapF).length = i := by simp; omega
  rw [List.set_append, if_neg (by omega), hl, Nat.sub_self, List.take_succ_eq_append_getElem hi, List.map_append, List.drop_eq_getElem_cons hi]
  simp only [List.set_cons_zero, List.append_assoc, List.map_cons, List.map_nil, List.singleton_append]
def ES1 (b : Env) (L : List HP) (v6 : Value) (F : List FRec) (i : Value) (wr : World) : Prop := ∃ k : Nat, k ≤ F.length ∧ i = .int .i64 k ∧ St b (HP.rows 48 funcE v6 (mixF F k) :: L) wr
def ES2 (b : Env) (L : List HP) (F : List FRec) (i : Value) (wr : World) : Prop := ∃ k : Nat, k ≤ F.length ∧ i = .int .i64 k ∧ St b L wr

set_option linter.unusedSimpArgs false in
set_option maxRecDepth 100000 in
set_option maxHeartbeats 16000000 in
theorem graphSpawns_calls (h : St b L w) {va vb : Value} (la lb : Raws) (hma : HP.sl rawE va la.toL ∈ L) (hmb : HP.sl rawE vb lb.toL ∈ L) :
    Calls Try.prog 6 #[va, vb] w fun x w' => x = .returned (.bool true) ∧ St b L w' := by
  have H := hide h
  have MA := hide hma
  have MB := hide hmb
  clear h hma hmb
  cases ha : fewR la with
  | false =>
    have HA := hide ha
    clear ha
    go_enter Try.func6, Try.ntmps6
    go_wp2_with (first
      | (go_at_call 11; refine (known_calls H.out).mono ?_; rintro x w1 ⟨rfl, h1⟩; have H1 := hide h1; clear h1 H)
      | (go_at_call 18; refine (few_calls H1.out la MA.out).mono ?_; rintro x w2 ⟨rfl, n, hw2⟩; rw [HA.out]; have H2 := hide (hw2 ▸ H1.out.drewN n); clear H1 hw2))
    go_ret
    exact ⟨rfl, H2.out⟩
  | true =>
    cases hb : fewR lb with
    | false =>
      have HA := hide ha
      have HB := hide hb
      clear ha hb
      go_enter Try.func6, Try.ntmps6
      go_wp2_with (first
        | (go_at_call 11; refine (known_calls H.out).mono ?_; rintro x w1 ⟨rfl, h1⟩; have H1 := hide h1; clear h1 H)
        | (go_at_call 18; refine (few_calls H1.out la MA.out).mono ?_; rintro x w2 ⟨rfl, n, hw2⟩; rw [HA.out]; have H2 := hide (hw2 ▸ H1.out.drewN n); clear H1 hw2)
        | (go_at_call 18; refine (few_calls H2.out lb MB.out).mono ?_; rintro x w3 ⟨rfl, n, hw3⟩; rw [HB.out]; have H3 := hide (hw3 ▸ H2.out.drewN n); clear H2 hw3))
      go_ret
      exact ⟨rfl, H3.out⟩
    | true =>
      have hsa := fewR_size ha
      have hsb := fewR_size hb
      have htot := funcsR_tot (a := la) (c := lb) (d := .nil) (e := .nil) 1 hsa hsb (Nat.zero_le _) (Nat.zero_le _)
      have hFl : (funcsR la lb .nil .nil 1).length = 4 := rfl
      have hsz : ∀ x ∈ funcsR la lb .nil .nil 1, x.body.size ≤ 1000 := by
        intro x hx
        have h1 := blockR_size la
        have h2 := blockR_size lb
        have h0 : (blockR .nil).size = 0 := rfl
        rw [show funcsR la lb .nil .nil 1 = [⟨sMain, 0, blockR la⟩, ⟨sF, 0, blockR lb⟩, ⟨sG, 0, blockR .nil⟩, ⟨sH, 0, blockR .nil⟩] from rfl] at hx
        simp only [List.mem_cons, List.not_mem_nil, or_false] at hx
        rcases hx with rfl | rfl | rfl | rfl <;> dsimp only <;> omega
      have HA := hide ha
      have HB := hide hb
      have HN : Hid (HP.sl rawE (.slice none 0 0) Raws.nil.toL ∈ HP.sl rawE (.slice none 0 0) Raws.nil.toL :: L) := hide mem0
      have q1 : la.size ≤ 1000 := by omega
      have q2 : lb.size ≤ 1000 := by omega
      have q3 : Raws.nil.size ≤ 1000 := Nat.zero_le _
      obtain ⟨F, hF⟩ : ∃ F, funcsR la lb .nil .nil 1 = F := ⟨_, rfl⟩
      rw [hF] at htot hFl hsz
      have HF := hide hF
      have HSZ := hide hsz
      have q4 : ([] : List FRec).length + F.length ≤ maxLen := by rw [hFl]; decide
      have q5 : (([] : List FRec).length + F.length) * 48 ≤ 140737488355328 := by rw [hFl]; decide
      have HNL : Hid (∀ k f, (namesP k F f).length ≤ 1000000) := hide (fun k f => Nat.le_trans (namesP_len k f F) (by omega))
      have HFL := hide hFl
      have hone : ∀ (a c d : Value), a.oneCell' = true → c.oneCell' = true → d.oneCell' = true → ∀ v ∈ [a, c, d], v.oneCell' = true := by intro a c d h1 h2 h3 v hv; simp at hv; rcases hv with rfl | rfl | rfl <;> assumption
      have ONE' := hide hone
      clear ha hb hsa hsb htot hFl hsz hF hone
      go_enter Try.func6, Try.ntmps6
      go_wp2_with (first
        | (go_at_call 11; refine (known_calls H.out).mono ?_; rintro x w1 ⟨rfl, h1⟩; have H1 := hide h1; clear h1 H)
        | (go_at_call 18; refine (few_calls H1.out la MA.out).mono ?_; rintro x w2 ⟨rfl, n, hw2⟩; rw [HA.out]; have H2 := hide (hw2 ▸ H1.out.drewN n); clear H1 hw2)
        | (go_at_call 18; refine (few_calls H2.out lb MB.out).mono ?_; rintro x w3 ⟨rfl, n, hw3⟩; rw [HB.out]; have H3 := hide ((hw3 ▸ H2.out.drewN n).sl_nil rawE); clear H2 hw3)
        | (go_at_call 19; refine (prog6_calls H3.out la lb .nil .nil (up1 MA.out) (up1 MB.out) HN.out HN.out q1 q2 q3 q3 1 (by decide) (by decide) (by decide)).mono ?_; rintro x w4 ⟨vv, vl, vf, rfl, h4⟩; rw [HF.out] at h4; obtain ⟨bv, cv, hvv, _⟩ := h4.sl_form mem2; obtain ⟨bl, cl, hvl, _⟩ := h4.sl_form mem1; obtain ⟨bf, cf, hvf, _⟩ := h4.sl_form mem0; subst hvv; subst hvl; subst hvf; have H4 := hide h4.d1.d1.d1; clear h4 H3)
        | ((with_reducible refine wpList_alloc_ag rfl agProg (by rfl) H4.out ?_); intro g5 w5 h5; have H5 := hide h5; clear h5 H4)
        | ((with_reducible refine wpList_store_ag (cs := [.slice bv varsR.length cv, .slice bl (locksR 1).length cl, .slice bf F.length cf]) rfl agProg (.tmp 5) (.tmp 22) rfl rfl rfl rfl rfl (ONE'.out _ _ _ rfl rfl rfl) H5.out ?_); intro w6 h6; have H6 := hide h6; clear h6 H5)
        | (refine wpList_loadB_st (cs := [.slice bv varsR.length cv, .slice bl (locksR 1).length cl, .slice bf F.length cf]) rfl agProg (.tmp 5) rfl rfl rfl H6.out mem0 ?_)
        | ((with_reducible refine wpList_alloc_ag rfl agProg (by rfl) H6.out ?_); intro g6 w7 h7; have H7 := hide h7; clear h7 H6)
        | ((with_reducible refine wpList_store_ag (cs := [.slice bv varsR.length cv, .slice bl (locksR 1).length cl, .slice bf F.length cf]) rfl agProg (.tmp 6) (.tmp 23) rfl rfl rfl rfl rfl (ONE'.out _ _ _ rfl rfl rfl) H7.out ?_); intro w8 h8; have H8 := hide h8; clear h8 H7)
        | (refine wpList_build0_st (E := funcE) rfl slFunc rfl H8.out ?_; intro g9 w9 h9; have c5 : w9.cell? ⟨g5, 2, none⟩ = some (.slice bf F.length cf) := h9.blk_cell mem2 2; have H9 := hide h9; clear h9 H8)
        | (at_builtin; refine wpList_append_st rfl (.tmp 24) (.tmp 26) slFunc rfl H9.out (Src.of_sl mem3) rfl rfl q4 q5 ?_; intro vb3 n3 vc3 w10 hn3 h10; rw [List.nil_append] at h10; have hn4 : n3 = F.length := (by rw [hn3]; simp); subst hn4; have H10 := hide h10.f1; clear h10 H9 hn3)
        | ((with_reducible refine wpList_storeF_st (cs := [.slice bv varsR.length cv, .slice bl (locksR 1).length cl, .slice bf F.length cf]) (ds := [.slice bv varsR.length cv, .slice bl (locksR 1).length cl, .slice vb3 F.length vc3]) rfl 41 (.tmp 28) (.tmp 27) rfl szFuncs rfl rfl rfl rfl H10.out (by simp) rfl ?_); intro w11 h11; have H11 := hide h11.f1; clear h11 H10))
      go_loopw [7] (fun i wr => ES1 b (HP.blk g6 (.cells [.slice bv varsR.length cv, .slice bl (locksR 1).length cl, .slice vb3 F.length vc3].toArray 43) :: HP.blk g5 (.cells [.slice bv varsR.length cv, .slice bl (locksR 1).length cl, .slice bf F.length cf].toArray 43) :: HP.sl funcE (.slice bf F.length cf) F :: L) (.slice vb3 F.length vc3) F i wr) (fun i _ => F.length - (intOf i).toNat)
      case atStart => exact ⟨0, by omega, rfl, H11.out⟩
      case round =>
        obtain ⟨k, hk, rfl, hs⟩ := hrel
        have H12 := hide hs
        clear hs H11
        have c6 : wr.cell? ⟨g6, 2, none⟩ = some (.slice vb3 F.length vc3) := H12.out.blk_cell mem1 2
        have c5 : wr.cell? ⟨g5, 2, none⟩ = some (.slice bf F.length cf) := H12.out.blk_cell mem2 2
        by_cases hlt : k < F.length
        · have hlt' : (k : Int) < F.length := by omega
          obtain ⟨gf, of, hgf⟩ := H12.out.sl_base mem3 (by omega) (by decide)
          subst hgf
          obtain ⟨gr, hgr⟩ := H12.out.rows_base mem0 (by rw [mixF_len F k hk]; omega)
          subst hgr
          obtain ⟨cs, h13⟩ := H12.out.elem mem3 (List.getElem?_eq_getElem hlt) (by decide)
          have hbs := HSZ.out F[k] (List.getElem_mem hlt)
          have hmg := mixF_get hlt
          have hms := mixF_set hlt
          obtain ⟨x, hx⟩ : ∃ x, F[k] = x := ⟨_, rfl⟩
          rw [hx] at h13 hbs hmg hms
          obtain ⟨vx, hok, rfl, h14⟩ := h13.func
          have c8 : wr.cell? ⟨gf, of + k * 3 + 2, none⟩ = some vx := h14.elem_cell mem1 2 rfl
          have HMG := hide hmg
          have HMS := hide hms
          have H14 := hide h14
          clear hx h13 h14 hok H12 hmg hms
          go_wp2_with fail
          refine wp_region_held_drew (S := fun w' => w'.cell? ⟨g6, 2, none⟩ = some (.slice (some ⟨gr, 0, none⟩) F.length vc3) ∧ w'.cell? ⟨g5, 2, none⟩ = some (.slice (some ⟨gf, of, none⟩) F.length cf) ∧ w'.cell? ⟨gf, of + k * 3 + 2, none⟩ = some vx) (by kernel_rfl) ?_ (fun hHeld => ?_)
          · exact ⟨c6, c5, c8⟩
          refine wpAnyH_takeD (i := 0) (some 36) (v := ?v0_1) rfl rfl (by kernel_rfl) (by kernel_rfl) (by kernel_rfl) (fun _ _ _ h => h) (by rfl) ?y0_1 (by assumption) ?r0_1
          case y0_1 => (intro w hSw; (try dsimp only at hSw); first | (go_simp; done) | (go_simp; with_reducible rfl))
          try simp only [Act.put, List.setIfInBounds_toArray, List.set_cons_zero, List.set_cons_succ]
          refine wpAnyH_takeD (i := 1) (some 37) (v := ?v1_2) rfl rfl (by kernel_rfl) (by kernel_rfl) (by kernel_rfl) (fun _ _ _ h => h) (by rfl) ?y1_2 (by assumption) ?r1_2
          case y1_2 => (intro w hSw; (try dsimp only at hSw); first | (go_simp; done) | (go_simp; with_reducible rfl))
          try simp only [Act.put, List.setIfInBounds_toArray, List.set_cons_zero, List.set_cons_succ]
          refine wpAnyH_takeD (i := 2) (some 38) (v := ?v2_3) rfl rfl (by kernel_rfl) (by kernel_rfl) (by kernel_rfl) (fun _ _ _ h => h) (by rfl) ?y2_3 (by assumption) ?r2_3
          case y2_3 => (intro w hSw; (try dsimp only at hSw); first | (go_simp; done) | (go_simp; with_reducible rfl))
          try simp only [Act.put, List.setIfInBounds_toArray, List.set_cons_zero, List.set_cons_succ]
          refine wpAnyH_takeD (i := 3) (some 39) (v := ?v3_4) rfl rfl (by kernel_rfl) (by kernel_rfl) (by kernel_rfl) (fun _ _ _ h => h) (by rfl) ?y3_4 (by assumption) ?r3_4
          case y3_4 => (intro w hSw; (try dsimp only at hSw); first | (go_simp; done) | (go_simp; with_reducible rfl))
          try simp only [Act.put, List.setIfInBounds_toArray, List.set_cons_zero, List.set_cons_succ]
          refine wpAnyH_takeD (i := 4) (some 40) (v := ?v4_5) rfl rfl (by kernel_rfl) (by kernel_rfl) (by kernel_rfl) (fun _ _ _ h => h) (by rfl) ?y4_5 (by assumption) ?r4_5
          case y4_5 => (intro w hSw; (try dsimp only at hSw); first | (go_simp; done) | (go_simp; with_reducible rfl))
          try simp only [Act.put, List.setIfInBounds_toArray, List.set_cons_zero, List.set_cons_succ]
          refine wpAnyH_takeD (i := 5) (some 41) (v := ?v5_6) rfl rfl (by kernel_rfl) (by kernel_rfl) (by kernel_rfl) (fun _ _ _ h => h) (by rfl) ?y5_6 (by assumption) ?r5_6
          case y5_6 => (intro w hSw; (try dsimp only at hSw); first | (go_simp; done) | (go_simp; with_reducible rfl))
          try simp only [Act.put, List.setIfInBounds_toArray, List.set_cons_zero, List.set_cons_succ]
          refine wpAnyH_takeD (i := 6) (some 42) (v := ?v6_7) rfl rfl (by kernel_rfl) (by kernel_rfl) (by kernel_rfl) (fun _ _ _ h => h) (by rfl) ?y6_7 (by assumption) ?r6_7
          case y6_7 => (intro w hSw; (try dsimp only at hSw); first | (go_simp; done) | (go_simp; with_reducible rfl))
          try simp only [Act.put, List.setIfInBounds_toArray, List.set_cons_zero, List.set_cons_succ]
          refine wpAnyH_takeD (i := 7) (some 43) (v := ?v7_8) rfl rfl (by kernel_rfl) (by kernel_rfl) (by kernel_rfl) (fun _ _ _ h => h) (by rfl) ?y7_8 (by assumption) ?r7_8
          case y7_8 => (intro w hSw; (try dsimp only at hSw); first | (go_simp; done) | (go_simp; with_reducible rfl))
          try simp only [Act.put, List.setIfInBounds_toArray, List.set_cons_zero, List.set_cons_succ]
          refine wpAnyH_takeD (i := 8) (some 44) (v := ?v8_9) rfl rfl (by kernel_rfl) (by kernel_rfl) (by kernel_rfl) (fun _ _ _ h => h) (by rfl) ?y8_9 (by assumption) ?r8_9
          case y8_9 => (intro w hSw; (try dsimp only at hSw); first | (go_simp; done) | (go_simp; with_reducible rfl))
          try simp only [Act.put, List.setIfInBounds_toArray, List.set_cons_zero, List.set_cons_succ]
          refine wpAnyH_ready (rs := [9]) (by kernel_rfl) (by simp) ?_
          refine AllReadyH.cons rfl (fun K hK => ?_) ?_
          · go_simp
            go_at_call 20
            refine (gturned_calls x.body b _ _ _ H14.out.drew mem0 hbs).mono ?_
            rintro z w15 ⟨vT, rfl, h15⟩
            obtain ⟨bT, cT, hvT, _⟩ := h15.sl_form mem0
            subst hvT
            have H15 := hide h15.d1
            clear h15 H14
            refine hK.out _ _ ?_ (fun hHeld => ?_)
            · exact ⟨H15.out.blk_cell mem3 2, H15.out.blk_cell mem4 2, H15.out.elem_cell mem1 2 rfl⟩
            clear hK K
            try simp only [Act.put, List.setIfInBounds_toArray, List.set_cons_zero, List.set_cons_succ]
            refine wpAnyH_takeD (i := 10) (some 46) (v := ?v10_10) rfl rfl (by kernel_rfl) (by kernel_rfl) (by kernel_rfl) (fun _ _ _ h => h) (by rfl) ?y10_10 (by assumption) ?r10_10
            case y10_10 => (intro w hSw; (try dsimp only at hSw); first | (go_simp; done) | (go_simp; with_reducible rfl))
            try simp only [Act.put, List.setIfInBounds_toArray, List.set_cons_zero, List.set_cons_succ]
            refine wpAnyH_ready (rs := [11]) (by kernel_rfl) (by simp) ?_
            refine AllReadyH.cons rfl (fun K hK => ?_) ?_
            · go_simp
              have h16 := (H15.out.alloc (.cells #[.int .i64 8, .int .i64 0, .string ⟨#[]⟩, .slice bT (turnS x.body).toL.length cT, .slice none 0 0] 50)).rows1 (E := stmtE) (cs := [.int .i64 8, .int .i64 0, .string ⟨#[]⟩, .slice bT (turnS x.body).toL.length cT, .slice none 0 0]) ⟨8, 0, [], turnS x.body, .nil⟩ (fun e hl hs => ⟨_, _, rfl, okStr_small ([] : Str) (by decide), Stms.sl_iff.2 (hs.sl_mem mem1), sl_nil_stms _⟩)
              have H16 := hide h16.persist
              clear h16 H15
              refine hK.out _ _ ?_ (fun hHeld => ?_)
              · exact ⟨H16.out.blk_cell mem4 2, H16.out.blk_cell mem5 2, H16.out.elem_cell mem2 2 rfl⟩
              clear hK K
              try simp only [Act.put, List.setIfInBounds_toArray, List.set_cons_zero, List.set_cons_succ]
              refine wpAnyH_takeD (i := 12) (some 48) (v := ?v12_11) rfl rfl (by kernel_rfl) (by kernel_rfl) (by kernel_rfl) (fun _ _ _ h => h) (by rfl) ?y12_11 (by assumption) ?r12_11
              case y12_11 => (intro w hSw; (try dsimp only at hSw); first | (go_simp; done) | (go_simp; with_reducible rfl))
              try simp only [Act.put, List.setIfInBounds_toArray, List.set_cons_zero, List.set_cons_succ]
              refine wpAnyH_ready (rs := [13]) (by kernel_rfl) (by simp) ?_
              refine AllReadyH.cons rfl (fun K hK => ?_) ?_
              · go_simp
                have h17 := (H16.out.alloc (.cells #[.int .i64 7, .int .i64 0, .string ⟨#[]⟩, .slice none 0 0, .slice (some ⟨w15.heap.size, 0, none⟩) 1 1] 50)).rows1 (E := stmtE) (cs := [.int .i64 7, .int .i64 0, .string ⟨#[]⟩, .slice none 0 0, .slice (some ⟨w15.heap.size, 0, none⟩) 1 1]) ⟨7, 0, [], .nil, .cons 8 0 [] (turnS x.body) .nil .nil⟩ (fun e hl hs => ⟨_, _, rfl, okStr_small ([] : Str) (by decide), sl_nil_stms _, Stms.sl_iff.2 (hs.sl_mem mem1)⟩)
                simp only [World.size_alloc] at h17
                have h18 := h17.persist.f4
                obtain ⟨⟨u0, hcu⟩, hfz, hset⟩ := h18.rows_setAt (j := 2) HMG.out (by decide)
                have h19 := hset (.slice (some ⟨w15.heap.size + 1, 0, none⟩) 1 1) (wrapF x) (fun e hl hs c hc => by
                  obtain ⟨v, rfl, hn, _⟩ := hc
                  exact ⟨_, rfl, hn, Stms.sl_iff.2 (hs.sl_mem mem1)⟩)
                rw [HMS.out] at h19
                have H19 := hide h19
                have H18 := hide h18
                clear h17 h18 h19 hset H16
                generalize (w15.alloc _).alloc _ = W2 at H18 H19 hcu hfz ⊢
                replace hcu : W2.cell? ⟨gr, k * 3 + 2, none⟩ = some u0 := hcu
                replace hfz : W2.frozen? ⟨gr, k * 3 + 2, none⟩ = false := hfz
                refine hK.out _ _ ?_ (fun hHeld => ?_)
                · exact ⟨H18.out.blk_cell mem5 2, H18.out.blk_cell mem6 2, H18.out.elem_cell mem4 2 rfl⟩
                clear hK K
                try simp only [Act.put, List.setIfInBounds_toArray, List.set_cons_zero, List.set_cons_succ]
                refine wpAnyH_takeD (i := 14) (some 50) (v := ?v14_12) rfl rfl (by kernel_rfl) (by kernel_rfl) (by kernel_rfl) (fun _ _ _ h => h) (by rfl) ?y14_12 (by assumption) ?r14_12
                case y14_12 => (intro w hSw; (try dsimp only at hSw); first | (go_simp; done) | (go_simp; with_reducible rfl))
                try simp only [Act.put, List.setIfInBounds_toArray, List.set_cons_zero, List.set_cons_succ]
                refine wpAnyH_takeD (i := 15) (some 51) (v := ?v15_13) rfl rfl (by kernel_rfl) (by kernel_rfl) (by kernel_rfl) (fun _ _ _ h => h) (by rfl) ?y15_13 (by assumption) ?r15_13
                case y15_13 => (intro w hSw; (try dsimp only at hSw); first | (go_simp; done) | (go_simp; with_reducible rfl))
                try simp only [Act.put, List.setIfInBounds_toArray, List.set_cons_zero, List.set_cons_succ]
                refine wpAnyH_ready (rs := [16]) (by kernel_rfl) (by simp) ?_
                refine AllReadyH.cons rfl (fun K hK => ?_) ?_
                · go_simp
                  clear hfz hcu
                  refine hK.out _ _ ?_ (fun hHeld => ?_)
                  · exact ⟨H19.out.blk_cell mem5 2, H19.out.blk_cell mem6 2, H19.out.elem_cell mem4 2 rfl⟩
                  clear hK K
                  try simp only [Act.put, List.setIfInBounds_toArray, List.set_cons_zero, List.set_cons_succ]
                  refine wpAnyH_done (by kernel_rfl) ?_ _
                  go_wp2_with fail
                  go_roundw
                  case rel => exact ⟨k + 1, by omega, by go_num, H19.out.d1.d1.d1.d1⟩
                  case measure => exact meas_step hlt
                exact AllReadyH.nil
              exact AllReadyH.nil
            exact AllReadyH.nil
          exact AllReadyH.nil
        · have hke : mixF F k = F.map wrapF := by unfold mixF; rw [List.take_of_length_le (by omega), List.drop_of_length_le (by omega), List.append_nil]
          have h13 := H12.out.persist
          rw [hke] at h13
          have HN6 : Hid (∀ f, (namesP 6 (F.map wrapF) f).length ≤ 1000000) := hide (fun f => by rw [(namesP_wrap F f).1]; exact HNL.out 5 f)
          have HN5 : Hid (∀ f, (namesP 5 (F.map wrapF) f).length ≤ 1000000) := hide (fun f => by rw [(namesP_wrap F f).2]; exact HNL.out 6 f)
          have H13 := hide h13
          clear h13 hke H12
          go_wp2_with fail
          go_loopw [8] (fun i wr => ES2 b (HP.sl funcE (.slice vb3 F.length vc3) (F.map wrapF) :: HP.blk g6 (.cells [.slice bv varsR.length cv, .slice bl (locksR 1).length cl, .slice vb3 F.length vc3].toArray 43) :: HP.blk g5 (.cells [.slice bv varsR.length cv, .slice bl (locksR 1).length cl, .slice bf F.length cf].toArray 43) :: HP.sl funcE (.slice bf F.length cf) F :: L) F i wr) (fun i _ => F.length - (intOf i).toNat)
          case atStart => exact ⟨0, by omega, rfl, H13.out⟩
          case round =>
            obtain ⟨k, hk, rfl, hs⟩ := hrel
            have H14 := hide hs
            clear hs H13
            have c5 : wr.cell? ⟨g5, 2, none⟩ = some (.slice bf F.length cf) := H14.out.blk_cell mem2 2
            by_cases hlt : k < F.length
            · have hlt' : (k : Int) < F.length := by omega
              obtain ⟨gf, of, hgf⟩ := H14.out.sl_base mem3 (by omega) (by decide)
              subst hgf
              obtain ⟨cs, h15⟩ := H14.out.elem mem3 (List.getElem?_eq_getElem hlt) (by decide)
              obtain ⟨x, hx⟩ : ∃ x, F[k] = x := ⟨_, rfl⟩
              rw [hx] at h15
              obtain ⟨vx, hok, rfl, h16⟩ := h15.func
              have c8 : wr.cell? ⟨gf, of + k * 3, none⟩ = some (.string ⟨x.name.toArray⟩) := h16.elem_cell mem1 0 rfl
              have H16 := hide h16.drop.drop
              have e1 : Hid (∀ j u, [Value.slice bv varsR.length cv, .slice bl (locksR 1).length cl, .slice (some ⟨gf, of, none⟩) F.length cf][j]? = some u → wr.cell? ⟨g5, 0 + j, none⟩ = some u) := hide (fun j u hj => by rw [Nat.zero_add]; exact (H16.out.blk_cell mem2 j).trans (by simpa using hj))
              have e2 : Hid (∀ j u, [Value.slice bv varsR.length cv, .slice bl (locksR 1).length cl, .slice vb3 F.length vc3][j]? = some u → wr.cell? ⟨g6, 0 + j, none⟩ = some u) := hide (fun j u hj => by rw [Nat.zero_add]; exact (H16.out.blk_cell mem1 j).trans (by simpa using hj))
              have W1 := hide (namesP_wrap F x.name).1
              have W2 := hide (namesP_wrap F x.name).2
              clear hx h15 h16 hok H14
              go_wp2_with fail
              refine wp_region_held_drew (S := fun w' => (∀ j u, [Value.slice bv varsR.length cv, .slice bl (locksR 1).length cl, .slice (some ⟨gf, of, none⟩) F.length cf][j]? = some u → w'.cell? ⟨g5, 0 + j, none⟩ = some u) ∧ (∀ j u, [Value.slice bv varsR.length cv, .slice bl (locksR 1).length cl, .slice vb3 F.length vc3][j]? = some u → w'.cell? ⟨g6, 0 + j, none⟩ = some u)) (by kernel_rfl) ?_ (fun hHeld => ?_)
              · exact ⟨e1.out, e2.out⟩
              refine wpAnyH_takeD (i := 0) (some 65) (v := .agg [Value.slice bv varsR.length cv, .slice bl (locksR 1).length cl, .slice (some ⟨gf, of, none⟩) F.length cf].toArray) rfl rfl (by kernel_rfl) (by kernel_rfl) (by kernel_rfl) (fun _ _ _ h => h) (by rfl) ?y0_14 (by assumption) ?r0_14
              case y0_14 => (intro w hSw; exact run_loadB agProg (.tmp 5) rfl rfl rfl hSw.1)
              try simp only [Act.put, List.setIfInBounds_toArray, List.set_cons_zero, List.set_cons_succ]
              refine wpAnyH_takeD (i := 1) (some 66) (v := ?v1_15) rfl rfl (by kernel_rfl) (by kernel_rfl) (by kernel_rfl) (fun _ _ _ h => h) (by rfl) ?y1_15 (by assumption) ?r1_15
              case y1_15 => (intro w hSw; (try dsimp only at hSw); first | (go_simp; done) | (go_simp; with_reducible rfl))
              try simp only [Act.put, List.setIfInBounds_toArray, List.set_cons_zero, List.set_cons_succ]
              refine wpAnyH_takeD (i := 3) (some 68) (v := .agg [Value.slice bv varsR.length cv, .slice bl (locksR 1).length cl, .slice vb3 F.length vc3].toArray) rfl rfl (by kernel_rfl) (by kernel_rfl) (by kernel_rfl) (fun _ _ _ h => h) (by rfl) ?y3_16 (by assumption) ?r3_16
              case y3_16 => (intro w hSw; exact run_loadB agProg (.tmp 6) rfl rfl rfl hSw.2)
              try simp only [Act.put, List.setIfInBounds_toArray, List.set_cons_zero, List.set_cons_succ]
              refine wpAnyH_takeD (i := 4) (some 69) (v := ?v4_17) rfl rfl (by kernel_rfl) (by kernel_rfl) (by kernel_rfl) (fun _ _ _ h => h) (by rfl) ?y4_17 (by assumption) ?r4_17
              case y4_17 => (intro w hSw; (try dsimp only at hSw); first | (go_simp; done) | (go_simp; with_reducible rfl))
              try simp only [Act.put, List.setIfInBounds_toArray, List.set_cons_zero, List.set_cons_succ]
              refine wpAnyH_ready (rs := [2]) (by kernel_rfl) (by simp) ?_
              refine AllReadyH.cons rfl (fun K hK => ?_) ?_
              · go_simp
                go_at_call 22
                refine (gcalls_calls H16.out.drew mem3 x.name (HNL.out _ _)).mono ?_
                rintro z w22 ⟨u2, rfl, h22⟩
                have H22 := hide h22
                clear h22 H16
                refine hK.out _ _ ?_ (fun hHeld => ?_)
                · exact ⟨fun j u hj => by rw [Nat.zero_add]; exact (H22.out.blk_cell mem3 j).trans (by simpa using hj), fun j u hj => by rw [Nat.zero_add]; exact (H22.out.blk_cell mem2 j).trans (by simpa using hj)⟩
                clear hK K
                try simp only [Act.put, List.setIfInBounds_toArray, List.set_cons_zero, List.set_cons_succ]
                refine wpAnyH_ready (rs := [5]) (by kernel_rfl) (by simp) ?_
                refine AllReadyH.cons rfl (fun K hK => ?_) ?_
                · go_simp
                  go_at_call 23
                  refine (gspawns_calls H22.out mem1 x.name (HN6.out _)).mono ?_
                  rintro z w25 ⟨u5, rfl, h25⟩
                  have H25 := hide h25
                  clear h25 H22
                  refine hK.out _ _ ?_ (fun hHeld => ?_)
                  · exact ⟨fun j u hj => by rw [Nat.zero_add]; exact (H25.out.blk_cell mem4 j).trans (by simpa using hj), fun j u hj => by rw [Nat.zero_add]; exact (H25.out.blk_cell mem3 j).trans (by simpa using hj)⟩
                  clear hK K
                  try simp only [Act.put, List.setIfInBounds_toArray, List.set_cons_zero, List.set_cons_succ]
                  refine wpAnyH_ready (rs := [6]) (by kernel_rfl) (by simp) ?_
                  refine AllReadyH.cons rfl (fun K hK => ?_) ?_
                  · go_simp
                    go_at_call 21
                    refine (same_calls H25.out (Reads.of_sl mem1) (Reads.of_sl mem0)).mono ?_
                    rintro z w26 ⟨rfl, n26, hw26⟩
                    rw [W1.out, decide_eq_true rfl]
                    have H26 := hide (hw26 ▸ H25.out.drewN n26)
                    clear H25 hw26
                    refine hK.out _ _ ?_ (fun hHeld => ?_)
                    · exact ⟨fun j u hj => by rw [Nat.zero_add]; exact (H26.out.blk_cell mem4 j).trans (by simpa using hj), fun j u hj => by rw [Nat.zero_add]; exact (H26.out.blk_cell mem3 j).trans (by simpa using hj)⟩
                    clear hK K
                    try simp only [Act.put, List.setIfInBounds_toArray, List.set_cons_zero, List.set_cons_succ]
                    refine wpAnyH_takeD (i := 7) (some 72) (v := ?v7_18) rfl rfl (by kernel_rfl) (by kernel_rfl) (by kernel_rfl) (fun _ _ _ h => h) (by rfl) ?y7_18 (by assumption) ?r7_18
                    case y7_18 => (intro w hSw; (try dsimp only at hSw); first | (go_simp; done) | (go_simp; with_reducible rfl))
                    try simp only [Act.put, List.setIfInBounds_toArray, List.set_cons_zero, List.set_cons_succ]
                    refine wpAnyH_takeD (i := 8) (some 73) (v := ?v8_19) rfl rfl (by kernel_rfl) (by kernel_rfl) (by kernel_rfl) (fun _ _ _ h => h) (by rfl) ?y8_19 (by assumption) ?r8_19
                    case y8_19 => (intro w hSw; (try dsimp only at hSw); first | (go_simp; done) | (go_simp; with_reducible rfl))
                    try simp only [Act.put, List.setIfInBounds_toArray, List.set_cons_zero, List.set_cons_succ]
                    refine wpAnyH_takeD (i := 9) (some 74) (v := .agg [Value.slice bv varsR.length cv, .slice bl (locksR 1).length cl, .slice (some ⟨gf, of, none⟩) F.length cf].toArray) rfl rfl (by kernel_rfl) (by kernel_rfl) (by kernel_rfl) (fun _ _ _ h => h) (by rfl) ?y9_20 (by assumption) ?r9_20
                    case y9_20 => (intro w hSw; exact run_loadB agProg (.tmp 5) rfl rfl rfl hSw.1)
                    try simp only [Act.put, List.setIfInBounds_toArray, List.set_cons_zero, List.set_cons_succ]
                    refine wpAnyH_takeD (i := 10) (some 75) (v := ?v10_21) rfl rfl (by kernel_rfl) (by kernel_rfl) (by kernel_rfl) (fun _ _ _ h => h) (by rfl) ?y10_21 (by assumption) ?r10_21
                    case y10_21 => (intro w hSw; (try dsimp only at hSw); first | (go_simp; done) | (go_simp; with_reducible rfl))
                    try simp only [Act.put, List.setIfInBounds_toArray, List.set_cons_zero, List.set_cons_succ]
                    refine wpAnyH_takeD (i := 12) (some 77) (v := .agg [Value.slice bv varsR.length cv, .slice bl (locksR 1).length cl, .slice vb3 F.length vc3].toArray) rfl rfl (by kernel_rfl) (by kernel_rfl) (by kernel_rfl) (fun _ _ _ h => h) (by rfl) ?y12_22 (by assumption) ?r12_22
                    case y12_22 => (intro w hSw; exact run_loadB agProg (.tmp 6) rfl rfl rfl hSw.2)
                    try simp only [Act.put, List.setIfInBounds_toArray, List.set_cons_zero, List.set_cons_succ]
                    refine wpAnyH_takeD (i := 13) (some 78) (v := ?v13_23) rfl rfl (by kernel_rfl) (by kernel_rfl) (by kernel_rfl) (fun _ _ _ h => h) (by rfl) ?y13_23 (by assumption) ?r13_23
                    case y13_23 => (intro w hSw; (try dsimp only at hSw); first | (go_simp; done) | (go_simp; with_reducible rfl))
                    try simp only [Act.put, List.setIfInBounds_toArray, List.set_cons_zero, List.set_cons_succ]
                    refine wpAnyH_ready (rs := [11]) (by kernel_rfl) (by simp) ?_
                    refine AllReadyH.cons rfl (fun K hK => ?_) ?_
                    · go_simp
                      go_at_call 23
                      refine (gspawns_calls H26.out mem5 x.name (HNL.out _ _)).mono ?_
                      rintro z w31 ⟨u11, rfl, h31⟩
                      have H31 := hide h31
                      clear h31 H26
                      refine hK.out _ _ ?_ (fun hHeld => ?_)
                      · exact ⟨fun j u hj => by rw [Nat.zero_add]; exact (H31.out.blk_cell mem5 j).trans (by simpa using hj), fun j u hj => by rw [Nat.zero_add]; exact (H31.out.blk_cell mem4 j).trans (by simpa using hj)⟩
                      clear hK K
                      try simp only [Act.put, List.setIfInBounds_toArray, List.set_cons_zero, List.set_cons_succ]
                      refine wpAnyH_ready (rs := [14]) (by kernel_rfl) (by simp) ?_
                      refine AllReadyH.cons rfl (fun K hK => ?_) ?_
                      · go_simp
                        go_at_call 22
                        refine (gcalls_calls H31.out mem3 x.name (HN5.out _)).mono ?_
                        rintro z w34 ⟨u14, rfl, h34⟩
                        have H34 := hide h34
                        clear h34 H31
                        refine hK.out _ _ ?_ (fun hHeld => ?_)
                        · exact ⟨fun j u hj => by rw [Nat.zero_add]; exact (H34.out.blk_cell mem6 j).trans (by simpa using hj), fun j u hj => by rw [Nat.zero_add]; exact (H34.out.blk_cell mem5 j).trans (by simpa using hj)⟩
                        clear hK K
                        try simp only [Act.put, List.setIfInBounds_toArray, List.set_cons_zero, List.set_cons_succ]
                        refine wpAnyH_ready (rs := [15]) (by kernel_rfl) (by simp) ?_
                        refine AllReadyH.cons rfl (fun K hK => ?_) ?_
                        · go_simp
                          go_at_call 21
                          refine (same_calls H34.out (Reads.of_sl mem1) (Reads.of_sl mem0)).mono ?_
                          rintro z w35 ⟨rfl, n35, hw35⟩
                          rw [W2.out, decide_eq_true rfl]
                          have H35 := hide (hw35 ▸ H34.out.drewN n35)
                          clear H34 hw35
                          refine hK.out _ _ ?_ (fun hHeld => ?_)
                          · exact ⟨fun j u hj => by rw [Nat.zero_add]; exact (H35.out.blk_cell mem6 j).trans (by simpa using hj), fun j u hj => by rw [Nat.zero_add]; exact (H35.out.blk_cell mem5 j).trans (by simpa using hj)⟩
                          clear hK K
                          try simp only [Act.put, List.setIfInBounds_toArray, List.set_cons_zero, List.set_cons_succ]
                          refine wpAnyH_takeD (i := 16) (some 81) (v := ?v16_24) rfl rfl (by kernel_rfl) (by kernel_rfl) (by kernel_rfl) (fun _ _ _ h => h) (by rfl) ?y16_24 (by assumption) ?r16_24
                          case y16_24 => (intro w hSw; (try dsimp only at hSw); first | (go_simp; done) | (go_simp; with_reducible rfl))
                          try simp only [Act.put, List.setIfInBounds_toArray, List.set_cons_zero, List.set_cons_succ]
                          refine wpAnyH_takeD (i := 17) (some 82) (v := ?v17_25) rfl rfl (by kernel_rfl) (by kernel_rfl) (by kernel_rfl) (fun _ _ _ h => h) (by rfl) ?y17_25 (by assumption) ?r17_25
                          case y17_25 => (intro w hSw; (try dsimp only at hSw); first | (go_simp; done) | (go_simp; with_reducible rfl))
                          try simp only [Act.put, List.setIfInBounds_toArray, List.set_cons_zero, List.set_cons_succ]
                          refine wpAnyH_done (by kernel_rfl) ?_ _
                          go_wp2_with fail
                          go_roundw
                          case rel => exact ⟨k + 1, by omega, by go_num, H35.out.drop.drop.drop.drop⟩
                          case measure => exact meas_step hlt
                        exact AllReadyH.nil
                      exact AllReadyH.nil
                    exact AllReadyH.nil
                  exact AllReadyH.nil
                exact AllReadyH.nil
              exact AllReadyH.nil
            · go_wp2_with fail
              go_ret
              exact ⟨rfl, H14.out.drop.drop.drop.drop⟩
end Go.Proofs.Ytmebmgbjpbapjaa
