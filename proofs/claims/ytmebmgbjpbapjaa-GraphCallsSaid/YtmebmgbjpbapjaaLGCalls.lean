/-
  GraphCalls.
-/
import Derived.Test.YtmebmgbjpbapjaaP2
import Derived.Test.YtmebmgbjpbapjaaP9
import Derived.Test.YtmebmgbjpbapjaaRor
import Derived.Test.YtmebmgbjpbapjaaPe
import Derived.Test.YtmebmgbjpbapjaaCc
import Derived.Test.YtmebmgbjpbapjaaLGParts
import Derived.Test.YtmebmgbjpbapjaaGqd
namespace Go.Proofs.Ytmebmgbjpbapjaa
open Go.RowKit Go.Maps Go.MapKept
variable {b : Env} {L : List HP} {w : World}

def EGc (b : Env) (L : List HP) (n : Nat) (i : Value) (wr : World) : Prop := ∃ k : Nat, k ≤ n ∧ i = .int .i64 k ∧ St b L wr
/-- What is found of each name. -/
theorem funcsR_at {a c d e : Raws} {t : Int} (ht : totS (funcsR a c d e t) ≤ 160) {y : Str} (hy : y ∈ namesU) : ∃ (i : Nat) (x : FRec), (funcsR a c d e t)[i]? = some x ∧ findR (funcsR a c d e t) y = (i : Int) ∧ x.body.size ≤ 10000 ∧ ∀ k, names k x.body = namesP k (funcsR a c d e t) y := by
  obtain ⟨i, x, h1, h2, h3⟩ := find_at ((funcsR_names y).2 hy)
  exact ⟨i, x, h1, h2, by have := mem_tot (List.mem_of_getElem? h1); omega, fun k => by rw [← h3]; exact (namesP_uniq funcsR_nd h1).symm⟩

set_option linter.unusedSimpArgs false in
set_option maxRecDepth 100000 in
set_option maxHeartbeats 16000000 in
theorem graphCalls_calls (h : St b L w) {v1 v2 v3 v4 : Value} (l1 l2 l3 l4 : Raws) (h1 : HP.sl rawE v1 l1.toL ∈ L) (h2 : HP.sl rawE v2 l2.toL ∈ L) (h3 : HP.sl rawE v3 l3.toL ∈ L) (h4 : HP.sl rawE v4 l4.toL ∈ L) (t : Int) (ht1 : -9223372036854775808 ≤ t) (ht2 : t ≤ 9223372036854775807) :
    Calls Try.prog 9 #[v1, v2, v3, v4, .int .i64 t] w fun x w' => x = .returned (.bool true) ∧ St b L w' := by
  have H := hide h
  have M1 := hide h1
  have M2 := hide h2
  have M3 := hide h3
  have M4 := hide h4
  clear h h1 h2 h3 h4
  cases ha : allR l1 l2 l3 l4 with
  | false =>
    have HA := hide ha
    clear ha
    go_enter Try.func9, Try.ntmps9
    go_wp2_with (first
      | (go_at_call 11; refine (known_calls H.out).mono ?_; rintro x w1 ⟨rfl, h1⟩; have H1 := hide h1; clear h1 H)
      | (go_at_call 24; refine (all6_calls H1.out l1 l2 l3 l4 M1.out M2.out M3.out M4.out).mono ?_; rintro x w2 ⟨rfl, n, hw2⟩; rw [HA.out]; have H2 := hide (hw2 ▸ H1.out.drewN n); clear H1 hw2))
    go_ret
    exact ⟨rfl, H2.out⟩
  | true =>
    have hq := ha
    simp only [allR, Bool.and_eq_true] at hq
    obtain ⟨⟨⟨a1, a2⟩, a3⟩, a4⟩ := hq
    have z1 := fewR_size a1
    have z2 := fewR_size a2
    have z3 := fewR_size a3
    have z4 := fewR_size a4
    have htot := funcsR_tot (a := l1) (c := l2) (d := l3) (e := l4) t z1 z2 z3 z4
    have hFl : (funcsR l1 l2 l3 l4 t).length = 4 := by unfold funcsR; split <;> rfl
    have hcl : ∀ a, ∀ z ∈ nxF (funcsR l1 l2 l3 l4 t) a, z ∈ namesU := fun a z hz => funcsR_calls 5 (Or.inl rfl) (mem_nxF.1 hz)
    have hnm : ∀ x ∈ funcsR l1 l2 l3 l4 t, x.name ∈ namesU := fun x hx => (funcsR_body hx).2
    have hnu : ∀ y, y ∈ (funcsR l1 l2 l3 l4 t).map (·.name) ↔ y ∈ namesU := fun y => funcsR_names y
    have hfa : ∀ y ∈ namesU, ∃ (i : Nat) (x : FRec), (funcsR l1 l2 l3 l4 t)[i]? = some x ∧ findR (funcsR l1 l2 l3 l4 t) y = (i : Int) ∧ x.body.size ≤ 10000 ∧ ∀ k, names k x.body = namesP k (funcsR l1 l2 l3 l4 t) y := fun y hy => funcsR_at htot hy
    have hnd := funcsR_nodup (a := l1) (c := l2) (d := l3) (e := l4) (t := t)
    have hgd := funcsR_good (a := l1) (c := l2) (d := l3) (e := l4) (t := t)
    obtain ⟨F, hF⟩ : ∃ F, funcsR l1 l2 l3 l4 t = F := ⟨_, rfl⟩
    rw [hF] at htot hFl hcl hnm hnu hfa hnd hgd
    have HF := hide hF
    have HA := hide ha
    have HNL : Hid (∀ k f, (namesP k F f).length ≤ 100000) := hide (fun k f => Nat.le_trans (namesP_len k f F) (by omega))
    have HNL2 : Hid (∀ k f, (namesP k F f).length ≤ 1000000) := hide (fun k f => Nat.le_trans (namesP_len k f F) (by omega))
    have HNS : Hid (∀ f, (nxF F f).length ≤ 100) := hide (fun f => Nat.le_trans (nodup_len _ namesU (setS_inc _).nodup (fun x hx => hcl f x hx)) (by decide))
    have HCL := hide hcl
    have HNM := hide hnm
    have HNU := hide hnu
    have HFA := hide hfa
    have HND := hide hnd
    have HGD := hide hgd
    have HT := hide htot
    have HOKU : Hid (∀ y ∈ namesU, okStr y) := hide (by intro y hy; simp only [namesU, List.mem_cons, List.not_mem_nil, or_false] at hy; rcases hy with rfl | rfl | rfl | rfl <;> exact okStr_small _ (by decide))
    have HAT : Hid (∀ y ∈ namesU, okStr y ∧ ∃ (i : Nat) (x : FRec), F[i]? = some x ∧ findR F y = (i : Int) ∧ x.body.size ≤ 10000 ∧ setS (names 5 x.body) = nxF F y) := hide (fun y hy => ⟨HOKU.out y hy, by obtain ⟨i, x, q1, q2, q3, q4⟩ := HFA.out y hy; exact ⟨i, x, q1, q2, q3, by rw [q4 5]; rfl⟩⟩)
    have hFb : (F.length : Int) ≤ 9223372036854775807 := by rw [hFl]; decide
    have HF4 := hide hFl
    have q1 : l1.size ≤ 1000 := by omega
    have q2 : l2.size ≤ 1000 := by omega
    have q3 : l3.size ≤ 1000 := by omega
    have q4 : l4.size ≤ 1000 := by omega
    have hU4 : namesU.length ≤ 1000 := by decide
    have HB := hide (And.intro ht1 ht2)
    have ONE' : Hid (∀ (a c d : Value), a.oneCell' = true → c.oneCell' = true → d.oneCell' = true → ∀ v ∈ [a, c, d], v.oneCell' = true) := hide (by intro a c d h1 h2 h3 v hv; simp at hv; rcases hv with rfl | rfl | rfl <;> assumption)
    clear ha a1 a2 a3 a4 z1 z2 z3 z4 htot hFl hcl hnm hnu hfa hnd hgd hF ht1 ht2
    go_enter Try.func9, Try.ntmps9
    go_wp2_with (first
      | (go_at_call 11; refine (known_calls H.out).mono ?_; rintro x w1 ⟨rfl, h1⟩; have H1 := hide h1; clear h1 H)
      | (go_at_call 24; refine (all6_calls H1.out l1 l2 l3 l4 M1.out M2.out M3.out M4.out).mono ?_; rintro x w2 ⟨rfl, n, hw2⟩; rw [HA.out]; have H2 := hide (hw2 ▸ H1.out.drewN n); clear H1 hw2)
      | (go_at_call 19; refine (prog6a_calls H2.out l1 l2 l3 l4 M1.out M2.out M3.out M4.out q1 q2 q3 q4 t HB.out.1 HB.out.2).mono ?_; rintro x w4 ⟨vv, vl, vf, rfl, h4⟩; rw [HF.out] at h4; obtain ⟨bv, cv, hvv, _⟩ := h4.sl_form mem2; obtain ⟨bl, cl, hvl, _⟩ := h4.sl_form mem1; obtain ⟨bf, cf, hvf, _⟩ := h4.sl_form mem0; subst hvv; subst hvl; subst hvf; have H4 := hide h4; clear h4 H2)
      | ((with_reducible refine wpList_alloc_ag rfl agProg (by rfl) H4.out ?_); intro g11 w5 h5; have H5 := hide h5; clear h5 H4)
      | ((with_reducible refine wpList_store_ag (cs := [.slice bv varsR.length cv, .slice bl (locksR t).length cl, .slice bf F.length cf]) rfl agProg (.tmp 11) (.tmp 29) rfl rfl rfl rfl rfl (ONE'.out _ _ _ rfl rfl rfl) H5.out ?_); intro w6 h6; have H6 := hide h6; clear h6 H5))
    go_loopw [12] (fun i wr => EGc b (HP.blk g11 (.cells ([.slice bv varsR.length cv, .slice bl (locksR t).length cl, .slice bf F.length cf] : List Value).toArray 43) :: HP.sl funcE (.slice bf F.length cf) F :: HP.sl declE (.slice bl (locksR t).length cl) (locksR t) :: HP.sl declE (.slice bv varsR.length cv) varsR :: L) F.length i wr) (fun i _ => F.length - (intOf i).toNat)
    case atStart => exact ⟨0, by omega, rfl, H6.out⟩
    case round =>
      obtain ⟨i, hi, rfl, hs⟩ := hrel
      have H7 := hide hs
      have c9 : wr.cell? ⟨g11, 2, none⟩ = some (.slice bf F.length cf) := hs.blk_cell mem0 2
      clear hs H6
      by_cases hlt : i < F.length
      · have hlt' : (i : Int) < F.length := by omega
        obtain ⟨gf, of, hgf⟩ := H7.out.sl_base mem1 (by omega) (by decide)
        subst hgf
        obtain ⟨cs, h8⟩ := H7.out.elem mem1 (List.getElem?_eq_getElem hlt) (by decide)
        have hxu := HNM.out F[i] (List.getElem_mem hlt)
        obtain ⟨x, hx⟩ : ∃ x, F[i] = x := ⟨_, rfl⟩
        rw [hx] at h8 hxu
        obtain ⟨vx, hok, rfl, h9⟩ := h8.func
        have c8 : wr.cell? ⟨gf, of + i * 3, none⟩ = some (.string ⟨x.name.toArray⟩) := h9.elem_cell mem1 0 rfl
        obtain ⟨s, hsn⟩ : ∃ s, x.name = s := ⟨_, rfl⟩
        rw [hsn] at c8 hok hxu
        have HOK := hide hok
        have HXU := hide hxu
        obtain ⟨ix, fx, e1, e2, e3, e4⟩ := HFA.out s hxu
        have E1 := hide e1
        have E2 := hide e2
        have E3 := hide e3
        have E4 := hide e4
        clear h8 h9 hok hxu hx hsn e1 e2 e3 e4
        go_wp2_with fail
        refine wp_region_held_drew (S := fun w' => ∀ j u, ([.slice bv varsR.length cv, .slice bl (locksR t).length cl, .slice (some ⟨gf, of, none⟩) F.length cf] : List Value)[j]? = some u → w'.cell? ⟨g11, 0 + j, none⟩ = some u) (by kernel_rfl) ?_ (fun hHeld => ?_)
        · exact fun j u hj => by rw [Nat.zero_add]; exact (H7.out.blk_cell mem0 j).trans (by simpa using hj)
        refine wpAnyH_takeD (i := 0) (some 43) (v := .agg ([.slice bv varsR.length cv, .slice bl (locksR t).length cl, .slice (some ⟨gf, of, none⟩) F.length cf] : List Value).toArray) rfl rfl (by kernel_rfl) (by kernel_rfl) (by kernel_rfl) (fun _ _ _ h => h) (by rfl) ?y0_1 (by assumption) ?r0_1
        case y0_1 => (intro w hSw; exact run_loadB agProg (.tmp 11) rfl rfl rfl hSw)
        try simp only [Act.put, List.setIfInBounds_toArray, List.set_cons_zero, List.set_cons_succ]
        refine wpAnyH_takeD (i := 1) (some 44) (v := ?v1_2) rfl rfl (by kernel_rfl) (by kernel_rfl) (by kernel_rfl) (fun _ _ _ h => h) (by rfl) ?y1_2 (by assumption) ?r1_2
        case y1_2 => (intro w hSw; (try dsimp only at hSw); first | (go_simp; done) | (go_simp; with_reducible rfl))
        try simp only [Act.put, List.setIfInBounds_toArray, List.set_cons_zero, List.set_cons_succ]
        refine wpAnyH_takeD (i := 3) (some 46) (v := .agg ([.slice bv varsR.length cv, .slice bl (locksR t).length cl, .slice (some ⟨gf, of, none⟩) F.length cf] : List Value).toArray) rfl rfl (by kernel_rfl) (by kernel_rfl) (by kernel_rfl) (fun _ _ _ h => h) (by rfl) ?y3_3 (by assumption) ?r3_3
        case y3_3 => (intro w hSw; exact run_loadB agProg (.tmp 11) rfl rfl rfl hSw)
        try simp only [Act.put, List.setIfInBounds_toArray, List.set_cons_zero, List.set_cons_succ]
        refine wpAnyH_takeD (i := 4) (some 47) (v := ?v4_4) rfl rfl (by kernel_rfl) (by kernel_rfl) (by kernel_rfl) (fun _ _ _ h => h) (by rfl) ?y4_4 (by assumption) ?r4_4
        case y4_4 => (intro w hSw; (try dsimp only at hSw); first | (go_simp; done) | (go_simp; with_reducible rfl))
        try simp only [Act.put, List.setIfInBounds_toArray, List.set_cons_zero, List.set_cons_succ]
        refine wpAnyH_ready (rs := [2]) (by kernel_rfl) (by simp) ?_
        refine AllReadyH.cons rfl (fun K hK => ?_) ?_
        · go_simp
          go_at_call 22
          refine (gcalls_calls H7.out.drew mem1 s (HNL2.out 5 s)).mono ?_
          rintro z w31 ⟨va, rfl, h31⟩
          have H31 := hide h31
          clear h31 H7
          refine hK.out _ _ ?_ (fun hHeld => ?_)
          · exact fun j u hj => by rw [Nat.zero_add]; exact (H31.out.blk_cell mem1 j).trans (by simpa using hj)
          clear hK K
          try simp only [Act.put, List.setIfInBounds_toArray, List.set_cons_zero, List.set_cons_succ]
          refine wpAnyH_ready (rs := [5]) (by kernel_rfl) (by simp) ?_
          refine AllReadyH.cons rfl (fun K hK => ?_) ?_
          · go_simp
            go_at_call 29
            refine (rcalls_calls H31.out mem2 s E1.out E2.out E3.out).mono ?_
            rintro z w32 ⟨vb, rfl, h32⟩
            rw [E4.out 5] at h32
            have H32 := hide h32
            clear h32 H31
            refine hK.out _ _ ?_ (fun hHeld => ?_)
            · exact fun j u hj => by rw [Nat.zero_add]; exact (H32.out.blk_cell mem2 j).trans (by simpa using hj)
            clear hK K
            try simp only [Act.put, List.setIfInBounds_toArray, List.set_cons_zero, List.set_cons_succ]
            refine wpAnyH_ready (rs := [6]) (by kernel_rfl) (by simp) ?_
            refine AllReadyH.cons rfl (fun K hK => ?_) ?_
            · go_simp
              go_at_call 21
              refine (same_calls H32.out (Reads.of_sl mem1) (Reads.of_sl mem0)).mono ?_
              rintro z w33 ⟨rfl, n33, hw33⟩
              rw [decide_eq_true rfl]
              have H33 := hide (hw33 ▸ H32.out.drop.drop.drewN n33)
              clear H32 hw33
              refine hK.out _ _ ?_ (fun hHeld => ?_)
              · exact fun j u hj => by rw [Nat.zero_add]; exact (H33.out.blk_cell mem0 j).trans (by simpa using hj)
              clear hK K
              try simp only [Act.put, List.setIfInBounds_toArray, List.set_cons_zero, List.set_cons_succ]
              refine wpAnyH_takeD (i := 7) (some 50) (v := ?v7_5) rfl rfl (by kernel_rfl) (by kernel_rfl) (by kernel_rfl) (fun _ _ _ h => h) (by rfl) ?y7_5 (by assumption) ?r7_5
              case y7_5 => (intro w hSw; (try dsimp only at hSw); first | (go_simp; done) | (go_simp; with_reducible rfl))
              try simp only [Act.put, List.setIfInBounds_toArray, List.set_cons_zero, List.set_cons_succ]
              refine wpAnyH_takeD (i := 8) (some 51) (v := ?v8_6) rfl rfl (by kernel_rfl) (by kernel_rfl) (by kernel_rfl) (fun _ _ _ h => h) (by rfl) ?y8_6 (by assumption) ?r8_6
              case y8_6 => (intro w hSw; (try dsimp only at hSw); first | (go_simp; done) | (go_simp; with_reducible rfl))
              try simp only [Act.put, List.setIfInBounds_toArray, List.set_cons_zero, List.set_cons_succ]
              refine wpAnyH_takeD (i := 9) (some 52) (v := .agg ([.slice bv varsR.length cv, .slice bl (locksR t).length cl, .slice (some ⟨gf, of, none⟩) F.length cf] : List Value).toArray) rfl rfl (by kernel_rfl) (by kernel_rfl) (by kernel_rfl) (fun _ _ _ h => h) (by rfl) ?y9_7 (by assumption) ?r9_7
              case y9_7 => (intro w hSw; exact run_loadB agProg (.tmp 11) rfl rfl rfl hSw)
              try simp only [Act.put, List.setIfInBounds_toArray, List.set_cons_zero, List.set_cons_succ]
              refine wpAnyH_takeD (i := 10) (some 53) (v := ?v10_8) rfl rfl (by kernel_rfl) (by kernel_rfl) (by kernel_rfl) (fun _ _ _ h => h) (by rfl) ?y10_8 (by assumption) ?r10_8
              case y10_8 => (intro w hSw; (try dsimp only at hSw); first | (go_simp; done) | (go_simp; with_reducible rfl))
              try simp only [Act.put, List.setIfInBounds_toArray, List.set_cons_zero, List.set_cons_succ]
              refine wpAnyH_takeD (i := 12) (some 55) (v := .agg ([.slice bv varsR.length cv, .slice bl (locksR t).length cl, .slice (some ⟨gf, of, none⟩) F.length cf] : List Value).toArray) rfl rfl (by kernel_rfl) (by kernel_rfl) (by kernel_rfl) (fun _ _ _ h => h) (by rfl) ?y12_9 (by assumption) ?r12_9
              case y12_9 => (intro w hSw; exact run_loadB agProg (.tmp 11) rfl rfl rfl hSw)
              try simp only [Act.put, List.setIfInBounds_toArray, List.set_cons_zero, List.set_cons_succ]
              refine wpAnyH_takeD (i := 13) (some 56) (v := ?v13_10) rfl rfl (by kernel_rfl) (by kernel_rfl) (by kernel_rfl) (fun _ _ _ h => h) (by rfl) ?y13_10 (by assumption) ?r13_10
              case y13_10 => (intro w hSw; (try dsimp only at hSw); first | (go_simp; done) | (go_simp; with_reducible rfl))
              try simp only [Act.put, List.setIfInBounds_toArray, List.set_cons_zero, List.set_cons_succ]
              refine wpAnyH_ready (rs := [11]) (by kernel_rfl) (by simp) ?_
              refine AllReadyH.cons rfl (fun K hK => ?_) ?_
              · go_simp
                go_at_call 23
                refine (gspawns_calls H33.out mem1 s (HNL2.out 6 s)).mono ?_
                rintro z w34 ⟨vc, rfl, h34⟩
                have H34 := hide h34
                clear h34 H33
                refine hK.out _ _ ?_ (fun hHeld => ?_)
                · exact fun j u hj => by rw [Nat.zero_add]; exact (H34.out.blk_cell mem1 j).trans (by simpa using hj)
                clear hK K
                try simp only [Act.put, List.setIfInBounds_toArray, List.set_cons_zero, List.set_cons_succ]
                refine wpAnyH_ready (rs := [14]) (by kernel_rfl) (by simp) ?_
                refine AllReadyH.cons rfl (fun K hK => ?_) ?_
                · go_simp
                  go_at_call 30
                  refine (rspawns_calls H34.out mem2 s E1.out E2.out E3.out).mono ?_
                  rintro z w35 ⟨vd, rfl, h35⟩
                  rw [E4.out 6] at h35
                  have H35 := hide h35
                  clear h35 H34
                  refine hK.out _ _ ?_ (fun hHeld => ?_)
                  · exact fun j u hj => by rw [Nat.zero_add]; exact (H35.out.blk_cell mem2 j).trans (by simpa using hj)
                  clear hK K
                  try simp only [Act.put, List.setIfInBounds_toArray, List.set_cons_zero, List.set_cons_succ]
                  refine wpAnyH_ready (rs := [15]) (by kernel_rfl) (by simp) ?_
                  refine AllReadyH.cons rfl (fun K hK => ?_) ?_
                  · go_simp
                    go_at_call 21
                    refine (same_calls H35.out (Reads.of_sl mem1) (Reads.of_sl mem0)).mono ?_
                    rintro z w36 ⟨rfl, n36, hw36⟩
                    rw [decide_eq_true rfl]
                    have H36 := hide (hw36 ▸ H35.out.drop.drop.drewN n36)
                    clear H35 hw36
                    refine hK.out _ _ ?_ (fun hHeld => ?_)
                    · exact fun j u hj => by rw [Nat.zero_add]; exact (H36.out.blk_cell mem0 j).trans (by simpa using hj)
                    clear hK K
                    try simp only [Act.put, List.setIfInBounds_toArray, List.set_cons_zero, List.set_cons_succ]
                    refine wpAnyH_takeD (i := 16) (some 59) (v := ?v16_11) rfl rfl (by kernel_rfl) (by kernel_rfl) (by kernel_rfl) (fun _ _ _ h => h) (by rfl) ?y16_11 (by assumption) ?r16_11
                    case y16_11 => (intro w hSw; (try dsimp only at hSw); first | (go_simp; done) | (go_simp; with_reducible rfl))
                    try simp only [Act.put, List.setIfInBounds_toArray, List.set_cons_zero, List.set_cons_succ]
                    refine wpAnyH_takeD (i := 17) (some 60) (v := ?v17_12) rfl rfl (by kernel_rfl) (by kernel_rfl) (by kernel_rfl) (fun _ _ _ h => h) (by rfl) ?y17_12 (by assumption) ?r17_12
                    case y17_12 => (intro w hSw; (try dsimp only at hSw); first | (go_simp; done) | (go_simp; with_reducible rfl))
                    try simp only [Act.put, List.setIfInBounds_toArray, List.set_cons_zero, List.set_cons_succ]
                    refine wpAnyH_takeD (i := 18) (some 61) (v := ?v18_13) rfl rfl (by kernel_rfl) (by kernel_rfl) (by kernel_rfl) (fun _ _ _ h => h) (by rfl) ?y18_13 (by assumption) ?r18_13
                    case y18_13 => (intro w hSw; (try dsimp only at hSw); first | (go_simp; done) | (go_simp; with_reducible rfl))
                    try simp only [Act.put, List.setIfInBounds_toArray, List.set_cons_zero, List.set_cons_succ]
                    refine wpAnyH_takeD (i := 19) (some 62) (v := .agg ([.slice bv varsR.length cv, .slice bl (locksR t).length cl, .slice (some ⟨gf, of, none⟩) F.length cf] : List Value).toArray) rfl rfl (by kernel_rfl) (by kernel_rfl) (by kernel_rfl) (fun _ _ _ h => h) (by rfl) ?y19_14 (by assumption) ?r19_14
                    case y19_14 => (intro w hSw; exact run_loadB agProg (.tmp 11) rfl rfl rfl hSw)
                    try simp only [Act.put, List.setIfInBounds_toArray, List.set_cons_zero, List.set_cons_succ]
                    refine wpAnyH_takeD (i := 20) (some 63) (v := ?v20_15) rfl rfl (by kernel_rfl) (by kernel_rfl) (by kernel_rfl) (fun _ _ _ h => h) (by rfl) ?y20_15 (by assumption) ?r20_15
                    case y20_15 => (intro w hSw; (try dsimp only at hSw); first | (go_simp; done) | (go_simp; with_reducible rfl))
                    try simp only [Act.put, List.setIfInBounds_toArray, List.set_cons_zero, List.set_cons_succ]
                    refine wpAnyH_takeD (i := 22) (some 65) (v := .agg ([.slice bv varsR.length cv, .slice bl (locksR t).length cl, .slice (some ⟨gf, of, none⟩) F.length cf] : List Value).toArray) rfl rfl (by kernel_rfl) (by kernel_rfl) (by kernel_rfl) (fun _ _ _ h => h) (by rfl) ?y22_16 (by assumption) ?r22_16
                    case y22_16 => (intro w hSw; exact run_loadB agProg (.tmp 11) rfl rfl rfl hSw)
                    try simp only [Act.put, List.setIfInBounds_toArray, List.set_cons_zero, List.set_cons_succ]
                    refine wpAnyH_takeD (i := 23) (some 66) (v := ?v23_17) rfl rfl (by kernel_rfl) (by kernel_rfl) (by kernel_rfl) (fun _ _ _ h => h) (by rfl) ?y23_17 (by assumption) ?r23_17
                    case y23_17 => (intro w hSw; (try dsimp only at hSw); first | (go_simp; done) | (go_simp; with_reducible rfl))
                    try simp only [Act.put, List.setIfInBounds_toArray, List.set_cons_zero, List.set_cons_succ]
                    refine wpAnyH_ready (rs := [21]) (by kernel_rfl) (by simp) ?_
                    refine AllReadyH.cons rfl (fun K hK => ?_) ?_
                    · go_simp
                      go_at_call 26
                      refine (greach_calls H36.out mem1 (HNL2.out 5) s HOK.out namesU HXU.out (fun a _ z hz => HCL.out a z hz) hU4).mono ?_
                      rintro z w37 ⟨ve, R, rfl, hRi, hRm, _, h37⟩
                      have HRI := hide hRi
                      have HRM := hide hRm
                      clear hRi hRm
                      have H37 := hide h37
                      clear h37 H36
                      refine hK.out _ _ ?_ (fun hHeld => ?_)
                      · exact fun j u hj => by rw [Nat.zero_add]; exact (H37.out.blk_cell mem1 j).trans (by simpa using hj)
                      clear hK K
                      try simp only [Act.put, List.setIfInBounds_toArray, List.set_cons_zero, List.set_cons_succ]
                      refine wpAnyH_ready (rs := [24]) (by kernel_rfl) (by simp) ?_
                      refine AllReadyH.cons rfl (fun K hK => ?_) ?_
                      · go_simp
                        go_at_call 31
                        refine (rreach_calls H37.out mem2 s HOK.out namesU HXU.out (fun a _ z hz => HCL.out a z hz) hU4 HAT.out).mono ?_
                        rintro z w38 ⟨vf2, R2, rfl, hRi, hRm, h38⟩
                        have hRR : R2 = R := hRi.ext HRI.out (fun y => by rw [hRm, HRM.out])
                        subst hRR
                        clear hRi hRm
                        have H38 := hide h38
                        clear h38 H37
                        refine hK.out _ _ ?_ (fun hHeld => ?_)
                        · exact fun j u hj => by rw [Nat.zero_add]; exact (H38.out.blk_cell mem2 j).trans (by simpa using hj)
                        clear hK K
                        try simp only [Act.put, List.setIfInBounds_toArray, List.set_cons_zero, List.set_cons_succ]
                        refine wpAnyH_ready (rs := [25]) (by kernel_rfl) (by simp) ?_
                        refine AllReadyH.cons rfl (fun K hK => ?_) ?_
                        · go_simp
                          go_at_call 21
                          refine (same_calls H38.out (Reads.of_sl mem1) (Reads.of_sl mem0)).mono ?_
                          rintro z w39 ⟨rfl, n39, hw39⟩
                          rw [decide_eq_true rfl]
                          have H39 := hide (hw39 ▸ H38.out.drop.drop.drewN n39)
                          clear H38 hw39
                          refine hK.out _ _ ?_ (fun hHeld => ?_)
                          · exact fun j u hj => by rw [Nat.zero_add]; exact (H39.out.blk_cell mem0 j).trans (by simpa using hj)
                          clear hK K
                          try simp only [Act.put, List.setIfInBounds_toArray, List.set_cons_zero, List.set_cons_succ]
                          refine wpAnyH_takeD (i := 26) (some 69) (v := ?v26_18) rfl rfl (by kernel_rfl) (by kernel_rfl) (by kernel_rfl) (fun _ _ _ h => h) (by rfl) ?y26_18 (by assumption) ?r26_18
                          case y26_18 => (intro w hSw; (try dsimp only at hSw); first | (go_simp; done) | (go_simp; with_reducible rfl))
                          try simp only [Act.put, List.setIfInBounds_toArray, List.set_cons_zero, List.set_cons_succ]
                          refine wpAnyH_takeD (i := 27) (some 70) (v := ?v27_19) rfl rfl (by kernel_rfl) (by kernel_rfl) (by kernel_rfl) (fun _ _ _ h => h) (by rfl) ?y27_19 (by assumption) ?r27_19
                          case y27_19 => (intro w hSw; (try dsimp only at hSw); first | (go_simp; done) | (go_simp; with_reducible rfl))
                          try simp only [Act.put, List.setIfInBounds_toArray, List.set_cons_zero, List.set_cons_succ]
                          refine wpAnyH_done (by kernel_rfl) ?_ _
                          go_wp2_with fail
                          go_roundw
                          case rel => exact ⟨i + 1, by omega, by go_num, H39.out⟩
                          case measure => exact meas_step hlt
                        exact AllReadyH.nil
                      exact AllReadyH.nil
                    exact AllReadyH.nil
                  exact AllReadyH.nil
                exact AllReadyH.nil
              exact AllReadyH.nil
            exact AllReadyH.nil
          exact AllReadyH.nil
        exact AllReadyH.nil
      · have hnlt : ¬ (i : Int) < F.length := by omega
        have HMM : Hid (sMain ∈ F.map (·.name)) := hide ((HNU.out sMain).2 (by simp [namesU]))
        have HCL2 : Hid (∀ a ∈ F.map (·.name), ∀ z ∈ nxF F a, z ∈ F.map (·.name)) := hide (fun a _ z hz => (HNU.out z).2 (HCL.out a z hz))
        have HAT2 : Hid (∀ y ∈ F.map (·.name), ∃ (i : Nat) (x : FRec), F[i]? = some x ∧ findR F y = (i : Int) ∧ x.body.size ≤ 10000 ∧ setS (names 5 x.body) = nxF F y) := hide (fun y hy => (HAT.out y ((HNU.out y).1 hy)).2)
        have hF20 : F.length ≤ 20 := by have := HF4.out; omega
        have HF20 := hide hF20
        have HT2 : Hid (totS F ≤ 200) := hide (by have := HT.out; omega)
        have hlk : (locksR t).length ≤ 20 := by unfold locksR; split <;> decide
        have HLK := hide hlk
        clear hF20 hlk
        go_wp2_with (first
          | (refine wpList_loadB_st (cs := [.slice bv varsR.length cv, .slice bl (locksR t).length cl, .slice bf F.length cf]) rfl agProg (.tmp 11) rfl rfl rfl H7.out mem0 ?_)
          | (go_at_call 32; refine (check_calls H7.out mem3 mem2 mem1 (by decide) HLK.out HF20.out HT2.out HND.out HGD.out HMM.out).mono ?_; rintro x w20 ⟨rfl, h20⟩; have H20 := hide h20; clear h20 H7))
        refine wp_region_held_drew (S := fun w' => ∀ j u, ([.slice bv varsR.length cv, .slice bl (locksR t).length cl, .slice bf F.length cf] : List Value)[j]? = some u → w'.cell? ⟨g11, 0 + j, none⟩ = some u) (by kernel_rfl) ?_ (fun hHeld => ?_)
        · exact fun j u hj => by rw [Nat.zero_add]; exact (H20.out.blk_cell mem0 j).trans (by simpa using hj)
        refine wpAnyH_takeD (i := 0) (some 76) (v := ?v0_20) rfl rfl (by kernel_rfl) (by kernel_rfl) (by kernel_rfl) (fun _ _ _ h => h) (by rfl) ?y0_20 (by assumption) ?r0_20
        case y0_20 => (intro w hSw; (try dsimp only at hSw); first | (go_simp; done) | (go_simp; with_reducible rfl))
        try simp only [Act.put, List.setIfInBounds_toArray, List.set_cons_zero, List.set_cons_succ]
        refine wpAnyH_takeD (i := 1) (some 77) (v := ?v1_21) rfl rfl (by kernel_rfl) (by kernel_rfl) (by kernel_rfl) (fun _ _ _ h => h) (by rfl) ?y1_21 (by assumption) ?r1_21
        case y1_21 => (intro w hSw; (try dsimp only at hSw); first | (go_simp; done) | (go_simp; with_reducible rfl))
        try simp only [Act.put, List.setIfInBounds_toArray, List.set_cons_zero, List.set_cons_succ]
        refine wpAnyH_takeD (i := 2) (some 78) (v := ?v2_22) rfl rfl (by kernel_rfl) (by kernel_rfl) (by kernel_rfl) (fun _ _ _ h => h) (by rfl) ?y2_22 (by assumption) ?r2_22
        case y2_22 => (intro w hSw; (try dsimp only at hSw); first | (go_simp; done) | (go_simp; with_reducible rfl))
        try simp only [Act.put, List.setIfInBounds_toArray, List.set_cons_zero, List.set_cons_succ]
        refine wpAnyH_takeD (i := 3) (some 79) (v := .agg ([.slice bv varsR.length cv, .slice bl (locksR t).length cl, .slice bf F.length cf] : List Value).toArray) rfl rfl (by kernel_rfl) (by kernel_rfl) (by kernel_rfl) (fun _ _ _ h => h) (by rfl) ?y3_23 (by assumption) ?r3_23
        case y3_23 => (intro w hSw; exact run_loadB agProg (.tmp 11) rfl rfl rfl hSw)
        try simp only [Act.put, List.setIfInBounds_toArray, List.set_cons_zero, List.set_cons_succ]
        refine wpAnyH_takeD (i := 5) (some 81) (v := .agg ([.slice bv varsR.length cv, .slice bl (locksR t).length cl, .slice bf F.length cf] : List Value).toArray) rfl rfl (by kernel_rfl) (by kernel_rfl) (by kernel_rfl) (fun _ _ _ h => h) (by rfl) ?y5_24 (by assumption) ?r5_24
        case y5_24 => (intro w hSw; exact run_loadB agProg (.tmp 11) rfl rfl rfl hSw)
        try simp only [Act.put, List.setIfInBounds_toArray, List.set_cons_zero, List.set_cons_succ]
        refine wpAnyH_ready (rs := [4]) (by kernel_rfl) (by simp) ?_
        refine AllReadyH.cons rfl (fun K hK => ?_) ?_
        · go_simp
          go_at_call 28
          refine (order_calls H20.out.drew mem1 (Nat.le_trans HF20.out (by decide)) (HNL.out 5) HNS.out).mono ?_
          rintro z w21 ⟨va, S, rfl, hSi, hSm, h21⟩
          have HSI := hide hSi
          have HSM := hide hSm
          clear hSi hSm
          have H21 := hide h21
          clear h21 H20
          refine hK.out _ _ ?_ (fun hHeld => ?_)
          · exact fun j u hj => by rw [Nat.zero_add]; exact (H21.out.blk_cell mem1 j).trans (by simpa using hj)
          clear hK K
          try simp only [Act.put, List.setIfInBounds_toArray, List.set_cons_zero, List.set_cons_succ]
          refine wpAnyH_ready (rs := [6]) (by kernel_rfl) (by simp) ?_
          refine AllReadyH.cons rfl (fun K hK => ?_) ?_
          · go_simp
            go_at_call 33
            refine (rorder_calls H21.out mem2 (Nat.le_trans HF20.out (by decide)) HNS.out HCL2.out HAT2.out).mono ?_
            rintro z w22 ⟨vb, S2, rfl, hSi, hSm, h22⟩
            have hSS : S2 = S := hSi.ext HSI.out (fun y => by rw [hSm, HSM.out])
            subst hSS
            clear hSi hSm
            have H22 := hide h22
            clear h22 H21
            refine hK.out _ _ ?_ (fun hHeld => ?_)
            · exact fun j u hj => by rw [Nat.zero_add]; exact (H22.out.blk_cell mem2 j).trans (by simpa using hj)
            clear hK K
            try simp only [Act.put, List.setIfInBounds_toArray, List.set_cons_zero, List.set_cons_succ]
            refine wpAnyH_ready (rs := [7]) (by kernel_rfl) (by simp) ?_
            refine AllReadyH.cons rfl (fun K hK => ?_) ?_
            · go_simp
              go_at_call 14
              refine (all_calls H22.out mem1 mem0).mono ?_
              rintro z w23 ⟨rfl, n23, hw23⟩
              rw [decide_eq_true rfl]
              have H23 := hide (hw23 ▸ H22.out.drop.drop.drewN n23)
              clear H22 hw23
              refine hK.out _ _ ?_ (fun hHeld => ?_)
              · exact fun j u hj => by rw [Nat.zero_add]; exact (H23.out.blk_cell mem0 j).trans (by simpa using hj)
              clear hK K
              try simp only [Act.put, List.setIfInBounds_toArray, List.set_cons_zero, List.set_cons_succ]
              refine wpAnyH_takeD (i := 8) (some 84) (v := ?v8_25) rfl rfl (by kernel_rfl) (by kernel_rfl) (by kernel_rfl) (fun _ _ _ h => h) (by rfl) ?y8_25 (by assumption) ?r8_25
              case y8_25 => (intro w hSw; (try dsimp only at hSw); first | (go_simp; done) | (go_simp; with_reducible rfl))
              try simp only [Act.put, List.setIfInBounds_toArray, List.set_cons_zero, List.set_cons_succ]
              refine wpAnyH_takeD (i := 9) (some 10) (v := ?v9_26) rfl rfl (by kernel_rfl) (by kernel_rfl) (by kernel_rfl) (fun _ _ _ h => h) (by rfl) ?y9_26 (by assumption) ?r9_26
              case y9_26 => (intro w hSw; (try dsimp only at hSw); first | (go_simp; done) | (go_simp; with_reducible rfl))
              try simp only [Act.put, List.setIfInBounds_toArray, List.set_cons_zero, List.set_cons_succ]
              refine wpAnyH_done (by kernel_rfl) ?_ _
              go_wp2_with fail
              go_ret
              exact ⟨rfl, H23.out.drop.drop.drop.drop⟩
            exact AllReadyH.nil
          exact AllReadyH.nil
        exact AllReadyH.nil
end Go.Proofs.Ytmebmgbjpbapjaa
