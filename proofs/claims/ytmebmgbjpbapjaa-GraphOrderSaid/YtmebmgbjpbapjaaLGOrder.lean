/-
  GraphOrder.
-/
import Derived.Test.YtmebmgbjpbapjaaP2
import Derived.Test.YtmebmgbjpbapjaaQq
import Derived.Test.YtmebmgbjpbapjaaLGParts
import Derived.Test.YtmebmgbjpbapjaaGqd
namespace Go.Proofs.Ytmebmgbjpbapjaa
open Go.RowKit Go.Maps Go.MapKept
variable {b : Env} {L : List HP} {w : World}

def EL1 (b : Env) (L : List HP) (l : List (List Str)) (v i : Value) (wr : World) : Prop := ∃ k : Nat, k ≤ l.length ∧ i = .int .i64 k ∧ ∃ base n cap, v = .slice base n cap ∧ St b (HP.rows 9 strE v (l.take k).flatten :: L) wr
def EL2 (b : Env) (L : List HP) (P : List Str) (i : Value) (wr : World) : Prop := ∃ k : Nat, k ≤ P.length ∧ i = .int .i64 k ∧ St b L wr

set_option linter.unusedSimpArgs false in
set_option maxRecDepth 100000 in
set_option maxHeartbeats 16000000 in
theorem graphOrder_calls (h : St b L w) {v1 v2 v3 v4 : Value} (l1 l2 l3 l4 : Raws) (h1 : HP.sl rawE v1 l1.toL ∈ L) (h2 : HP.sl rawE v2 l2.toL ∈ L) (h3 : HP.sl rawE v3 l3.toL ∈ L) (h4 : HP.sl rawE v4 l4.toL ∈ L) :
    Calls Try.prog 8 #[v1, v2, v3, v4] w fun x w' => x = .returned (.bool true) ∧ St b L w' := by
  have H := hide h
  have M1 := hide h1
  have M2 := hide h2
  have M3 := hide h3
  have M4 := hide h4
  clear h h1 h2 h3 h4
  cases ha : allR l1 l2 l3 l4 with
  | false =>
    have HA := hide ha
    clear ha
    go_enter Try.func8, Try.ntmps8
    go_wp2_with (first
      | (go_at_call 11; refine (known_calls H.out).mono ?_; rintro x w1 ⟨rfl, h1⟩; have H1 := hide h1; clear h1 H)
      | (go_at_call 24; refine (all6_calls H1.out l1 l2 l3 l4 M1.out M2.out M3.out M4.out).mono ?_; rintro x w2 ⟨rfl, n, hw2⟩; rw [HA.out]; have H2 := hide (hw2 ▸ H1.out.drewN n); clear H1 hw2))
    go_ret
    exact ⟨rfl, H2.out⟩
  | true =>
    have hq := ha
    simp only [allR, Bool.and_eq_true] at hq
    obtain ⟨⟨⟨a1, a2⟩, a3⟩, a4⟩ := hq
    have z1 := fewR_size a1
    have z2 := fewR_size a2
    have z3 := fewR_size a3
    have z4 := fewR_size a4
    have htot := funcsR_tot (a := l1) (c := l2) (d := l3) (e := l4) 1 z1 z2 z3 z4
    have hFl : (funcsR l1 l2 l3 l4 1).length = 4 := rfl
    have hcl : ∀ a, ∀ z ∈ nxF (funcsR l1 l2 l3 l4 1) a, z ∈ namesU := fun a z hz => funcsR_calls 5 (Or.inl rfl) (mem_nxF.1 hz)
    have hfi : ∀ y ∈ namesU, ∃ (i : Nat) (x : FRec), (funcsR l1 l2 l3 l4 1)[i]? = some x ∧ findR (funcsR l1 l2 l3 l4 1) y = (i : Int) ∧ x.name = y := fun y hy => find_at ((funcsR_names y).2 hy)
    have hnu : ∀ y, y ∈ (funcsR l1 l2 l3 l4 1).map (·.name) ↔ y ∈ namesU := fun y => funcsR_names y
    have hnm : ∀ x ∈ funcsR l1 l2 l3 l4 1, x.name ∈ namesU := fun x hx => (funcsR_body hx).2
    obtain ⟨F, hF⟩ : ∃ F, funcsR l1 l2 l3 l4 1 = F := ⟨_, rfl⟩
    rw [hF] at htot hFl hcl hfi hnm hnu
    have hgo := fun (S : List Str) (h1 : Inc S) (h2 : ∀ y, y ∈ S ↔ y ∈ F.map (·.name)) => gord hnu hcl h1 h2
    have HGO := hide hgo
    have HTS : Hid (∀ x ∈ F, x.body.size ≤ 10000) := hide (fun x hx => Nat.le_trans (mem_tot hx) (by omega))
    have hF100 : F.length ≤ 100 := by rw [hFl]; decide
    have HF100 := hide hF100
    have HN100 : Hid (∀ f, (namesP 5 F f).length ≤ 100000) := hide (fun f => Nat.le_trans (namesP_len 5 f F) (by omega))
    have HF := hide hF
    have HA := hide ha
    have HNL : Hid (∀ f, (namesP 5 F f).length ≤ 1000000) := hide (fun f => Nat.le_trans (namesP_len 5 f F) (by omega))
    have HCL := hide hcl
    have HFI := hide hfi
    have HNM := hide hnm
    have HFL := hide hFl
    have hFb : (F.length : Int) ≤ 9223372036854775807 := by rw [hFl]; decide
    have q1 : l1.size ≤ 1000 := by omega
    have q2 : l2.size ≤ 1000 := by omega
    have q3 : l3.size ≤ 1000 := by omega
    have q4 : l4.size ≤ 1000 := by omega
    have hU4 : namesU.length ≤ 1000 := by decide
    have hone : ∀ (a c d : Value), a.oneCell' = true → c.oneCell' = true → d.oneCell' = true → ∀ v ∈ [a, c, d], v.oneCell' = true := by intro a c d h1 h2 h3 v hv; simp at hv; rcases hv with rfl | rfl | rfl <;> assumption
    have ONE' := hide hone
    have HNS : Hid (∀ f, (nxF F f).length ≤ 100) := hide (fun f => Nat.le_trans (nodup_len _ namesU (setS_inc _).nodup (fun x hx => hcl f x hx)) (by decide))
    clear ha a1 a2 a3 a4 z1 z2 z3 z4 htot hFl hcl hfi hnm hF hone hnu hgo hF100
    go_enter Try.func8, Try.ntmps8
    go_wp2_with (first
      | (go_at_call 11; refine (known_calls H.out).mono ?_; rintro x w1 ⟨rfl, h1⟩; have H1 := hide h1; clear h1 H)
      | (go_at_call 24; refine (all6_calls H1.out l1 l2 l3 l4 M1.out M2.out M3.out M4.out).mono ?_; rintro x w2 ⟨rfl, n, hw2⟩; rw [HA.out]; have H2 := hide (hw2 ▸ H1.out.drewN n); clear H1 hw2)
      | (go_at_call 19; refine (prog6_calls H2.out l1 l2 l3 l4 M1.out M2.out M3.out M4.out q1 q2 q3 q4 1 (by decide) (by decide) (by decide)).mono ?_; rintro x w4 ⟨vv, vl, vf, rfl, h4⟩; rw [HF.out] at h4; obtain ⟨bv, cv, hvv, _⟩ := h4.sl_form mem2; obtain ⟨bl, cl, hvl, _⟩ := h4.sl_form mem1; obtain ⟨bf, cf, hvf, _⟩ := h4.sl_form mem0; subst hvv; subst hvl; subst hvf; have H4 := hide h4.d1.d1; clear h4 H2)
      | ((with_reducible refine wpList_alloc_ag rfl agProg (by rfl) H4.out ?_); intro g9 w5 h5; have H5 := hide h5; clear h5 H4)
      | ((with_reducible refine wpList_store_ag (cs := [.slice bv varsR.length cv, .slice bl (locksR 1).length cl, .slice bf F.length cf]) rfl agProg (.tmp 9) (.tmp 29) rfl rfl rfl rfl rfl (ONE'.out _ _ _ rfl rfl rfl) H5.out ?_); intro w6 h6; have H6 := hide h6; clear h6 H5)
      | (refine wpList_loadB_st (cs := [.slice bv varsR.length cv, .slice bl (locksR 1).length cl, .slice bf F.length cf]) rfl agProg (.tmp 9) rfl rfl rfl H6.out mem0 ?_)
      | (go_at_call 28; refine (order_calls H6.out mem1 HF100.out HN100.out HNS.out).mono ?_; rintro x w7 ⟨v10, S, rfl, hinc, hmem, h7⟩; have hg := HGO.out S hinc hmem; generalize orderG (callE F F) (partsR (eqv (edgesN (inEdges (F.map (·.name)) (callE F F)))) S.length S).length [] (partsR (eqv (edgesN (inEdges (F.map (·.name)) (callE F F)))) S.length S) = l at h7 hg; obtain ⟨b10, c10, hv10, _, hcl⟩ := h7.sl_form mem0; have hlI : (l.length : Int) ≤ 9223372036854775807 := (by unfold maxLen at hcl; omega); subst hv10; have HG := hide hg; have H7 := hide (h7.rows_nil 9 strE); clear h7 H6 hinc hmem hg hcl))
    go_loopw [11, 12] (fun v i wr => EL1 b (HP.sl strE.in (.slice b10 l.length c10) l :: HP.blk g9 (.cells ([.slice bv varsR.length cv, .slice bl (locksR 1).length cl, .slice bf F.length cf] : List Value).toArray 43) :: HP.sl funcE (.slice bf F.length cf) F :: L) l v i wr) (fun _ i _ => l.length - (intOf i).toNat)
    case atStart => exact ⟨0, by omega, rfl, _, _, _, rfl, H7.out⟩
    case round =>
      obtain ⟨i, hi, rfl, b11, n11, c11, rfl, hs⟩ := hrel
      have H8 := hide hs
      clear hs H7
      by_cases hlt : i < l.length
      · have hlt' : (i : Int) < l.length := by omega
        obtain ⟨gl, ol, hgl⟩ := H8.out.sl_base mem1 (by omega) Nat.one_pos
        subst hgl
        obtain ⟨vP, h9⟩ := H8.out.in_elem mem1 hlt
        obtain ⟨P, hP⟩ : ∃ P, l[i] = P := ⟨_, rfl⟩
        have hP' : l[i]? = some P := by rw [List.getElem?_eq_getElem hlt, hP]
        rw [hP] at h9
        obtain ⟨bP, cP, hvP, _, hcP2⟩ := h9.sl_form mem0
        have hPI : (P.length : Int) ≤ 9223372036854775807 := by unfold maxLen at hcP2; omega
        subst hvP
        have hcP := h9.in_cell mem1
        have hdn : (l.take i).flatten.length ≤ 4 := by
          have e := congrArg List.flatten (List.take_append_drop i l)
          have := congrArg List.length e
          rw [List.flatten_append, List.length_append, HG.out.len] at this; omega
        have htk : (l.take (i + 1)).flatten = (l.take i).flatten ++ P := by rw [List.take_succ_eq_append_getElem hlt, List.flatten_append, hP]; simp
        have hPU : ∀ x ∈ P, x ∈ namesU := fun x hx => HG.out.inU x (List.mem_flatten.2 ⟨P, List.mem_of_getElem? hP', hx⟩)
        have hPN : ∀ x ∈ P, x ∉ (l.take i).flatten := fun x hx => uniq_at HG.out.uniq hP' hx
        have hPX : ∀ x ∈ P, ∀ y ∈ nxF F x, y ∈ (l.take i).flatten ++ P := fun x hx y hy => by rw [← htk]; exact HG.out.nxt i P hP' x hx y hy
        have hPL : P.length ≤ 4 := by
          have := nodup_len P namesU ((List.pairwise_flatten.1 HG.out.uniq).1 P (List.mem_of_getElem? hP')) hPU
          exact this
        generalize hD : (l.take i).flatten = Dn at H8 h9 hdn htk hPN hPX
        have HTK := hide htk
        have HPU := hide hPU
        have HPN := hide hPN
        have HPX := hide hPX
        have H9 := hide h9.f2
        clear h9 H8 hP hP' hcP2 htk hPU hPN hPX hD
        -- rows done :: sl P :: elem :: sl l :: blk :: sl F :: L
        go_wp2_with fail
        go_loopw [13] (fun k wr => EL2 b (HP.rows 9 strE (.slice b11 n11 c11) Dn :: HP.sl strE (.slice bP P.length cP) P :: HP.elem strE.in gl (ol + i) P [.slice bP P.length cP] :: HP.sl strE.in (.slice (some ⟨gl, ol, none⟩) l.length c10) l :: HP.blk g9 (.cells ([.slice bv varsR.length cv, .slice bl (locksR 1).length cl, .slice bf F.length cf] : List Value).toArray 43) :: HP.sl funcE (.slice bf F.length cf) F :: L) P k wr) (fun k _ => P.length - (intOf k).toNat)
        case atStart => exact ⟨0, by omega, rfl, H9.out⟩
        case round =>
          obtain ⟨k, hk, rfl, hs⟩ := hrel
          have H10 := hide hs
          clear hs H9
          have hcP := H10.out.in_cell mem2
          by_cases hltk : k < P.length
          · have hltk' : (k : Int) < P.length := by omega
            obtain ⟨gP, oP, hgP⟩ := H10.out.sl_base mem1 (by omega) Nat.one_pos
            subst hgP
            obtain ⟨hcx, hokx⟩ := H10.out.sc_at mem1 hltk
            have hxm := List.getElem_mem hltk
            obtain ⟨x, hx⟩ : ∃ x, P[k] = x := ⟨_, rfl⟩
            have HPX2 := hide hx
            rw [hx] at hcx hokx hxm
            have D1 := hide (decide_eq_false (HPN.out x hxm))
            obtain ⟨fi, fx, hf1, hf2, hf3⟩ := HFI.out x (HPU.out x hxm)
            have HF2 := hide hf2
            have hfn : decide ((fi : Int) < 0) = false := by simp
            have e1 : Hid (∀ j u, ([.slice bv varsR.length cv, .slice bl (locksR 1).length cl, .slice bf F.length cf] : List Value)[j]? = some u → wr.cell? ⟨g9, 0 + j, none⟩ = some u) := hide (fun j u hj => by rw [Nat.zero_add]; exact (H10.out.blk_cell mem4 j).trans (by simpa using hj))
            clear hx hokx hxm hf1 hf2 hf3
            go_wp2_with fail
            refine wp_region_held_drew (S := fun w' => (∀ j u, ([.slice bv varsR.length cv, .slice bl (locksR 1).length cl, .slice bf F.length cf] : List Value)[j]? = some u → w'.cell? ⟨g9, 0 + j, none⟩ = some u) ∧ w'.cell? ⟨gl, ol + i, none⟩ = some (.slice (some ⟨gP, oP, none⟩) P.length cP) ∧ w'.cell? ⟨gP, oP + k, none⟩ = some (.string ⟨x.toArray⟩)) (by kernel_rfl) ?_ (fun hHeld => ?_)
            · exact ⟨e1.out, hcP, hcx⟩
            refine wpAnyH_takeD (i := 0) (some 47) (v := ?v0_1) rfl rfl (by kernel_rfl) (by kernel_rfl) (by kernel_rfl) (fun _ _ _ h => h) (by rfl) ?y0_1 (by assumption) ?r0_1
            case y0_1 => (intro w hSw; (try dsimp only at hSw); first | (go_simp; done) | (go_simp; with_reducible rfl))
            try simp only [Act.put, List.setIfInBounds_toArray, List.set_cons_zero, List.set_cons_succ]
            refine wpAnyH_takeD (i := 1) (some 48) (v := ?v1_2) rfl rfl (by kernel_rfl) (by kernel_rfl) (by kernel_rfl) (fun _ _ _ h => h) (by rfl) ?y1_2 (by assumption) ?r1_2
            case y1_2 => (intro w hSw; (try dsimp only at hSw); first | (go_simp; done) | (go_simp; with_reducible rfl))
            try simp only [Act.put, List.setIfInBounds_toArray, List.set_cons_zero, List.set_cons_succ]
            refine wpAnyH_takeD (i := 2) (some 49) (v := ?v2_3) rfl rfl (by kernel_rfl) (by kernel_rfl) (by kernel_rfl) (fun _ _ _ h => h) (by rfl) ?y2_3 (by assumption) ?r2_3
            case y2_3 => (intro w hSw; (try dsimp only at hSw); first | (go_simp; done) | (go_simp; with_reducible rfl))
            try simp only [Act.put, List.setIfInBounds_toArray, List.set_cons_zero, List.set_cons_succ]
            refine wpAnyH_takeD (i := 3) (some 50) (v := ?v3_4) rfl rfl (by kernel_rfl) (by kernel_rfl) (by kernel_rfl) (fun _ _ _ h => h) (by rfl) ?y3_4 (by assumption) ?r3_4
            case y3_4 => (intro w hSw; (try dsimp only at hSw); first | (go_simp; done) | (go_simp; with_reducible rfl))
            try simp only [Act.put, List.setIfInBounds_toArray, List.set_cons_zero, List.set_cons_succ]
            refine wpAnyH_takeD (i := 4) (some 51) (v := ?v4_5) rfl rfl (by kernel_rfl) (by kernel_rfl) (by kernel_rfl) (fun _ _ _ h => h) (by rfl) ?y4_5 (by assumption) ?r4_5
            case y4_5 => (intro w hSw; (try dsimp only at hSw); first | (go_simp; done) | (go_simp; with_reducible rfl))
            try simp only [Act.put, List.setIfInBounds_toArray, List.set_cons_zero, List.set_cons_succ]
            refine wpAnyH_takeD (i := 5) (some 52) (v := ?v5_6) rfl rfl (by kernel_rfl) (by kernel_rfl) (by kernel_rfl) (fun _ _ _ h => h) (by rfl) ?y5_6 (by assumption) ?r5_6
            case y5_6 => (intro w hSw; (try dsimp only at hSw); first | (go_simp; done) | (go_simp; with_reducible rfl))
            try simp only [Act.put, List.setIfInBounds_toArray, List.set_cons_zero, List.set_cons_succ]
            refine wpAnyH_takeD (i := 6) (some 53) (v := ?v6_7) rfl rfl (by kernel_rfl) (by kernel_rfl) (by kernel_rfl) (fun _ _ _ h => h) (by rfl) ?y6_7 (by assumption) ?r6_7
            case y6_7 => (intro w hSw; (try dsimp only at hSw); first | (go_simp; done) | (go_simp; with_reducible rfl))
            try simp only [Act.put, List.setIfInBounds_toArray, List.set_cons_zero, List.set_cons_succ]
            refine wpAnyH_takeD (i := 7) (some 54) (v := ?v7_8) rfl rfl (by kernel_rfl) (by kernel_rfl) (by kernel_rfl) (fun _ _ _ h => h) (by rfl) ?y7_8 (by assumption) ?r7_8
            case y7_8 => (intro w hSw; (try dsimp only at hSw); first | (go_simp; done) | (go_simp; with_reducible rfl))
            try simp only [Act.put, List.setIfInBounds_toArray, List.set_cons_zero, List.set_cons_succ]
            refine wpAnyH_ready (rs := [8]) (by kernel_rfl) (by simp) ?_
            refine AllReadyH.cons rfl (fun K hK => ?_) ?_
            · go_simp
              go_at_call 17
              refine (in_calls H10.out.drew (Reads.of_rows mem0) x).mono ?_
              rintro z w12 ⟨rfl, hw12⟩
              rw [D1.out]
              have H12 := hide (hw12 ▸ H10.out.drew)
              clear hw12 H10
              refine hK.out _ _ ?_ (fun hHeld => ?_)
              · exact ⟨fun j u hj => by rw [Nat.zero_add]; exact (H12.out.blk_cell mem4 j).trans (by simpa using hj), H12.out.in_cell mem2, by rw [← HPX2.out]; exact (H12.out.sc_at mem1 hltk).1⟩
              clear hK K
              try simp only [Act.put, List.setIfInBounds_toArray, List.set_cons_zero, List.set_cons_succ]
              refine wpAnyH_takeD (i := 9) (some 56) (v := ?v9_9) rfl rfl (by kernel_rfl) (by kernel_rfl) (by kernel_rfl) (fun _ _ _ h => h) (by rfl) ?y9_9 (by assumption) ?r9_9
              case y9_9 => (intro w hSw; (try dsimp only at hSw); first | (go_simp; done) | (go_simp; with_reducible rfl))
              try simp only [Act.put, List.setIfInBounds_toArray, List.set_cons_zero, List.set_cons_succ]
              refine wpAnyH_takeD (i := 10) (some 57) (v := .agg ([.slice bv varsR.length cv, .slice bl (locksR 1).length cl, .slice bf F.length cf] : List Value).toArray) rfl rfl (by kernel_rfl) (by kernel_rfl) (by kernel_rfl) (fun _ _ _ h => h) (by rfl) ?y10_10 (by assumption) ?r10_10
              case y10_10 => (intro w hSw; exact run_loadB agProg (.tmp 9) rfl rfl rfl hSw.1)
              try simp only [Act.put, List.setIfInBounds_toArray, List.set_cons_zero, List.set_cons_succ]
              refine wpAnyH_takeD (i := 11) (some 58) (v := ?v11_11) rfl rfl (by kernel_rfl) (by kernel_rfl) (by kernel_rfl) (fun _ _ _ h => h) (by rfl) ?y11_11 (by assumption) ?r11_11
              case y11_11 => (intro w hSw; (try dsimp only at hSw); first | (go_simp; done) | (go_simp; with_reducible rfl))
              try simp only [Act.put, List.setIfInBounds_toArray, List.set_cons_zero, List.set_cons_succ]
              refine wpAnyH_takeD (i := 12) (some 59) (v := ?v12_12) rfl rfl (by kernel_rfl) (by kernel_rfl) (by kernel_rfl) (fun _ _ _ h => h) (by rfl) ?y12_12 (by assumption) ?r12_12
              case y12_12 => (intro w hSw; (try dsimp only at hSw); first | (go_simp; done) | (go_simp; with_reducible rfl))
              try simp only [Act.put, List.setIfInBounds_toArray, List.set_cons_zero, List.set_cons_succ]
              refine wpAnyH_takeD (i := 13) (some 60) (v := ?v13_13) rfl rfl (by kernel_rfl) (by kernel_rfl) (by kernel_rfl) (fun _ _ _ h => h) (by rfl) ?y13_13 (by assumption) ?r13_13
              case y13_13 => (intro w hSw; (try dsimp only at hSw); first | (go_simp; done) | (go_simp; with_reducible rfl))
              try simp only [Act.put, List.setIfInBounds_toArray, List.set_cons_zero, List.set_cons_succ]
              refine wpAnyH_takeD (i := 14) (some 61) (v := ?v14_14) rfl rfl (by kernel_rfl) (by kernel_rfl) (by kernel_rfl) (fun _ _ _ h => h) (by rfl) ?y14_14 (by assumption) ?r14_14
              case y14_14 => (intro w hSw; (try dsimp only at hSw); first | (go_simp; done) | (go_simp; with_reducible rfl))
              try simp only [Act.put, List.setIfInBounds_toArray, List.set_cons_zero, List.set_cons_succ]
              refine wpAnyH_takeD (i := 15) (some 62) (v := ?v15_15) rfl rfl (by kernel_rfl) (by kernel_rfl) (by kernel_rfl) (fun _ _ _ h => h) (by rfl) ?y15_15 (by assumption) ?r15_15
              case y15_15 => (intro w hSw; (try dsimp only at hSw); first | (go_simp; done) | (go_simp; with_reducible rfl))
              try simp only [Act.put, List.setIfInBounds_toArray, List.set_cons_zero, List.set_cons_succ]
              refine wpAnyH_takeD (i := 16) (some 63) (v := ?v16_16) rfl rfl (by kernel_rfl) (by kernel_rfl) (by kernel_rfl) (fun _ _ _ h => h) (by rfl) ?y16_16 (by assumption) ?r16_16
              case y16_16 => (intro w hSw; (try dsimp only at hSw); first | (go_simp; done) | (go_simp; with_reducible rfl))
              try simp only [Act.put, List.setIfInBounds_toArray, List.set_cons_zero, List.set_cons_succ]
              refine wpAnyH_takeD (i := 17) (some 64) (v := ?v17_17) rfl rfl (by kernel_rfl) (by kernel_rfl) (by kernel_rfl) (fun _ _ _ h => h) (by rfl) ?y17_17 (by assumption) ?r17_17
              case y17_17 => (intro w hSw; (try dsimp only at hSw); first | (go_simp; done) | (go_simp; with_reducible rfl))
              try simp only [Act.put, List.setIfInBounds_toArray, List.set_cons_zero, List.set_cons_succ]
              refine wpAnyH_ready (rs := [18]) (by kernel_rfl) (by simp) ?_
              refine AllReadyH.cons rfl (fun K hK => ?_) ?_
              · go_simp
                go_at_call 25
                refine (find_calls H12.out mem5 x).mono ?_
                rintro z w13 ⟨rfl, h13⟩
                rw [HF2.out]
                have H13 := hide h13
                clear h13 H12
                refine hK.out _ _ ?_ (fun hHeld => ?_)
                · exact ⟨fun j u hj => by rw [Nat.zero_add]; exact (H13.out.blk_cell mem4 j).trans (by simpa using hj), H13.out.in_cell mem2, by rw [← HPX2.out]; exact (H13.out.sc_at mem1 hltk).1⟩
                clear hK K
                try simp only [Act.put, List.setIfInBounds_toArray, List.set_cons_zero, List.set_cons_succ]
                refine wpAnyH_takeD (i := 19) (some 66) (v := ?v19_18) rfl rfl (by kernel_rfl) (by kernel_rfl) (by kernel_rfl) (fun _ _ _ h => h) (by rfl) ?y19_18 (by assumption) ?r19_18
                case y19_18 => (intro w hSw; (try dsimp only at hSw); first | (go_simp; done) | (go_simp; with_reducible rfl))
                try simp only [Act.put, List.setIfInBounds_toArray, List.set_cons_zero, List.set_cons_succ]
                refine wpAnyH_takeD (i := 20) (some 67) (v := ?v20_19) rfl rfl (by kernel_rfl) (by kernel_rfl) (by kernel_rfl) (fun _ _ _ h => h) (by rfl) ?y20_19 (by assumption) ?r20_19
                case y20_19 => (intro w hSw; (try dsimp only at hSw); first | (go_simp; done) | (go_simp; with_reducible rfl))
                try simp only [Act.put, List.setIfInBounds_toArray, List.set_cons_zero, List.set_cons_succ]
                refine wpAnyH_done (by kernel_rfl) ?_ _
                go_wp2_with fail
                go_roundw
                case rel => exact ⟨k + 1, by omega, by go_num, H13.out⟩
                case measure => exact meas_step hltk
              exact AllReadyH.nil
            exact AllReadyH.nil
          · have q1 : Dn.length + P.length ≤ maxLen := by unfold maxLen; omega
            have q2 : (Dn.length + P.length) * 16 ≤ 140737488355328 := by omega
            go_wp2_with (at_builtin; refine wpList_append_st rfl (.tmp 68) (.tmp 72) slStr rfl H10.out (Src.of_sl mem1) rfl rfl q1 q2 ?_; intro vb20 n20 vc20 w20 hn20 h20; have H20 := hide h20; clear h20 H10 hn20)
            go_loopw [14] (fun k wr => EL2 b (HP.rows 9 strE (.slice vb20 n20 vc20) (Dn ++ P) :: HP.sl strE (.slice bP P.length cP) P :: HP.elem strE.in gl (ol + i) P [.slice bP P.length cP] :: HP.sl strE.in (.slice (some ⟨gl, ol, none⟩) l.length c10) l :: HP.blk g9 (.cells ([.slice bv varsR.length cv, .slice bl (locksR 1).length cl, .slice bf F.length cf] : List Value).toArray 43) :: HP.sl funcE (.slice bf F.length cf) F :: L) P k wr) (fun k _ => P.length - (intOf k).toNat)
            case atStart => exact ⟨0, by omega, rfl, H20.out⟩
            case round =>
              obtain ⟨m, hm, rfl, hs⟩ := hrel
              have H21 := hide hs
              clear hs H20
              have hcP := H21.out.in_cell mem2
              by_cases hltm : m < P.length
              · have hltm' : (m : Int) < P.length := by omega
                obtain ⟨gP, oP, hgP⟩ := H21.out.sl_base mem1 (by omega) Nat.one_pos
                subst hgP
                obtain ⟨hcx, hokx⟩ := H21.out.sc_at mem1 hltm
                have hxm := List.getElem_mem hltm
                obtain ⟨x, hx⟩ : ∃ x, P[m] = x := ⟨_, rfl⟩
                have HPX2 := hide hx
                rw [hx] at hcx hokx hxm
                obtain ⟨fi, fx, hf1, hf2, hf3⟩ := HFI.out x (HPU.out x hxm)
                have hfm := List.mem_of_getElem? hf1
                have hbs := HTS.out fx hfm
                have hnx : ∀ y ∈ setS (names 5 fx.body), y ∈ Dn ++ P := fun y hy => HPX.out x hxm y (by have := nx_of_body hfm (mem_setS.1 hy); rw [hf3] at this; exact this)
                have HNX := hide hnx
                have e1 : Hid (∀ j u, ([.slice bv varsR.length cv, .slice bl (locksR 1).length cl, .slice bf F.length cf] : List Value)[j]? = some u → wr.cell? ⟨g9, 0 + j, none⟩ = some u) := hide (fun j u hj => by rw [Nat.zero_add]; exact (H21.out.blk_cell mem4 j).trans (by simpa using hj))
                have HF1 := hide hf1
                have HF2 := hide hf2
                have HBS := hide hbs
                clear hx hokx hxm hf1 hf2 hf3 hnx hbs hfm
                go_wp2_with fail
                refine wp_region_held_drew (S := fun w' => (∀ j u, ([.slice bv varsR.length cv, .slice bl (locksR 1).length cl, .slice bf F.length cf] : List Value)[j]? = some u → w'.cell? ⟨g9, 0 + j, none⟩ = some u) ∧ w'.cell? ⟨gl, ol + i, none⟩ = some (.slice (some ⟨gP, oP, none⟩) P.length cP) ∧ w'.cell? ⟨gP, oP + m, none⟩ = some (.string ⟨x.toArray⟩)) (by kernel_rfl) ?_ (fun hHeld => ?_)
                · exact ⟨e1.out, hcP, hcx⟩
                refine wpAnyH_takeD (i := 0) (some 83) (v := .agg ([.slice bv varsR.length cv, .slice bl (locksR 1).length cl, .slice bf F.length cf] : List Value).toArray) rfl rfl (by kernel_rfl) (by kernel_rfl) (by kernel_rfl) (fun _ _ _ h => h) (by rfl) ?y0_20 (by assumption) ?r0_20
                case y0_20 => (intro w hSw; exact run_loadB agProg (.tmp 9) rfl rfl rfl hSw.1)
                try simp only [Act.put, List.setIfInBounds_toArray, List.set_cons_zero, List.set_cons_succ]
                refine wpAnyH_takeD (i := 1) (some 84) (v := ?v1_21) rfl rfl (by kernel_rfl) (by kernel_rfl) (by kernel_rfl) (fun _ _ _ h => h) (by rfl) ?y1_21 (by assumption) ?r1_21
                case y1_21 => (intro w hSw; (try dsimp only at hSw); first | (go_simp; done) | (go_simp; with_reducible rfl))
                try simp only [Act.put, List.setIfInBounds_toArray, List.set_cons_zero, List.set_cons_succ]
                refine wpAnyH_takeD (i := 2) (some 85) (v := ?v2_22) rfl rfl (by kernel_rfl) (by kernel_rfl) (by kernel_rfl) (fun _ _ _ h => h) (by rfl) ?y2_22 (by assumption) ?r2_22
                case y2_22 => (intro w hSw; (try dsimp only at hSw); first | (go_simp; done) | (go_simp; with_reducible rfl))
                try simp only [Act.put, List.setIfInBounds_toArray, List.set_cons_zero, List.set_cons_succ]
                refine wpAnyH_takeD (i := 3) (some 86) (v := ?v3_23) rfl rfl (by kernel_rfl) (by kernel_rfl) (by kernel_rfl) (fun _ _ _ h => h) (by rfl) ?y3_23 (by assumption) ?r3_23
                case y3_23 => (intro w hSw; (try dsimp only at hSw); first | (go_simp; done) | (go_simp; with_reducible rfl))
                try simp only [Act.put, List.setIfInBounds_toArray, List.set_cons_zero, List.set_cons_succ]
                refine wpAnyH_takeD (i := 4) (some 87) (v := ?v4_24) rfl rfl (by kernel_rfl) (by kernel_rfl) (by kernel_rfl) (fun _ _ _ h => h) (by rfl) ?y4_24 (by assumption) ?r4_24
                case y4_24 => (intro w hSw; (try dsimp only at hSw); first | (go_simp; done) | (go_simp; with_reducible rfl))
                try simp only [Act.put, List.setIfInBounds_toArray, List.set_cons_zero, List.set_cons_succ]
                refine wpAnyH_takeD (i := 5) (some 88) (v := ?v5_25) rfl rfl (by kernel_rfl) (by kernel_rfl) (by kernel_rfl) (fun _ _ _ h => h) (by rfl) ?y5_25 (by assumption) ?r5_25
                case y5_25 => (intro w hSw; (try dsimp only at hSw); first | (go_simp; done) | (go_simp; with_reducible rfl))
                try simp only [Act.put, List.setIfInBounds_toArray, List.set_cons_zero, List.set_cons_succ]
                refine wpAnyH_takeD (i := 6) (some 89) (v := ?v6_26) rfl rfl (by kernel_rfl) (by kernel_rfl) (by kernel_rfl) (fun _ _ _ h => h) (by rfl) ?y6_26 (by assumption) ?r6_26
                case y6_26 => (intro w hSw; (try dsimp only at hSw); first | (go_simp; done) | (go_simp; with_reducible rfl))
                try simp only [Act.put, List.setIfInBounds_toArray, List.set_cons_zero, List.set_cons_succ]
                refine wpAnyH_takeD (i := 7) (some 90) (v := ?v7_27) rfl rfl (by kernel_rfl) (by kernel_rfl) (by kernel_rfl) (fun _ _ _ h => h) (by rfl) ?y7_27 (by assumption) ?r7_27
                case y7_27 => (intro w hSw; (try dsimp only at hSw); first | (go_simp; done) | (go_simp; with_reducible rfl))
                try simp only [Act.put, List.setIfInBounds_toArray, List.set_cons_zero, List.set_cons_succ]
                refine wpAnyH_ready (rs := [8]) (by kernel_rfl) (by simp) ?_
                refine AllReadyH.cons rfl (fun K hK => ?_) ?_
                · go_simp
                  go_at_call 29
                  refine (rcalls_calls H21.out.drew mem5 x HF1.out HF2.out HBS.out).mono ?_
                  rintro z w24 ⟨vt, rfl, h24⟩
                  have hnx := HNX.out
                  generalize setS (names 5 fx.body) = C at h24 hnx
                  obtain ⟨bt, ct, hvt, _, hct⟩ := h24.sl_form mem0
                  have hCI : (C.length : Int) ≤ 9223372036854775807 := by unfold maxLen at hct; omega
                  subst hvt
                  have HNX3 := hide hnx
                  have H24 := hide h24
                  clear h24 H21 hct hnx HNX
                  refine hK.out _ _ ?_ (fun hHeld => ?_)
                  · exact ⟨fun j u hj => by rw [Nat.zero_add]; exact (H24.out.blk_cell mem5 j).trans (by simpa using hj), H24.out.in_cell mem3, by rw [← HPX2.out]; exact (H24.out.sc_at mem2 hltm).1⟩
                  clear hK K
                  try simp only [Act.put, List.setIfInBounds_toArray, List.set_cons_zero, List.set_cons_succ]
                  refine wpAnyH_takeD (i := 9) (some 15) (v := ?v9_28) rfl rfl (by kernel_rfl) (by kernel_rfl) (by kernel_rfl) (fun _ _ _ h => h) (by rfl) ?y9_28 (by assumption) ?r9_28
                  case y9_28 => (intro w hSw; (try dsimp only at hSw); first | (go_simp; done) | (go_simp; with_reducible rfl))
                  try simp only [Act.put, List.setIfInBounds_toArray, List.set_cons_zero, List.set_cons_succ]
                  refine wpAnyH_done (by kernel_rfl) ?_ _
                  go_wp2_with fail
                  go_loopw [16] (fun j wr => EL2 b (HP.sl strE (.slice bt C.length ct) C :: HP.rows 9 strE (.slice vb20 n20 vc20) (Dn ++ P) :: HP.sl strE (.slice (some ⟨gP, oP, none⟩) P.length cP) P :: HP.elem strE.in gl (ol + i) P [.slice (some ⟨gP, oP, none⟩) P.length cP] :: HP.sl strE.in (.slice (some ⟨gl, ol, none⟩) l.length c10) l :: HP.blk g9 (.cells ([.slice bv varsR.length cv, .slice bl (locksR 1).length cl, .slice bf F.length cf] : List Value).toArray 43) :: HP.sl funcE (.slice bf F.length cf) F :: L) C j wr) (fun j _ => C.length - (intOf j).toNat)
                  case atStart => exact ⟨0, by omega, rfl, H24.out⟩
                  case round =>
                    obtain ⟨j, hj, rfl, hs⟩ := hrel
                    have H25 := hide hs
                    clear hs H24
                    by_cases hltj : j < C.length
                    · have hltj' : (j : Int) < C.length := by omega
                      obtain ⟨gt, ot, hgt⟩ := H25.out.sl_base mem0 (by omega) Nat.one_pos
                      subst hgt
                      obtain ⟨hcy, _⟩ := H25.out.sc_at mem0 hltj
                      have D3 := hide (decide_eq_true (HNX3.out _ (List.getElem_mem hltj)))
                      go_wp2_with (go_at_call 17; refine (in_calls H25.out (Reads.of_rows mem1) C[j]).mono ?_; rintro z w26 ⟨rfl, hw26⟩; rw [D3.out]; have H26 := hide (hw26 ▸ H25.out); clear hw26 H25)
                      go_roundw
                      case rel => exact ⟨j + 1, by omega, by go_num, H26.out⟩
                      case measure => exact meas_step hltj
                    · go_wp2_with fail
                      go_roundw
                      case rel => exact ⟨m + 1, by omega, by go_num, H25.out.drop⟩
                      case measure => exact meas_step hltm
                exact AllReadyH.nil
              · have H22 := hide H21.out.d1.d1
                clear H21
                go_wp2_with fail
                go_roundw
                case rel => exact ⟨i + 1, by omega, by go_num, vb20, n20, vc20, rfl, by rw [HTK.out]; exact H22.out⟩
                case measure => exact meas_step hlt
      · have hte : (l.take i).flatten.length = F.length := by rw [List.take_of_length_le (by omega), HG.out.len, HFL.out]
        obtain ⟨b30, c30, hv30, _⟩ := H8.out.rows_form mem0
        simp only [Value.slice.injEq] at hv30
        obtain ⟨-, hn30, -⟩ := hv30
        have hnF : n11 = F.length := by rw [hn30, hte]
        subst hnF
        have c9 : wr.cell? ⟨g9, 2, none⟩ = some (.slice bf F.length cf) := H8.out.blk_cell mem2 2
        clear hte hn30
        go_wp2_with fail
        go_ret
        exact ⟨by simp, H8.out.drop.drop.drop.drop⟩
end Go.Proofs.Ytmebmgbjpbapjaa
