/-
  GraphReach.
-/
import Derived.Test.YtmebmgbjpbapjaaP2
import Derived.Test.YtmebmgbjpbapjaaP9
import Derived.Test.YtmebmgbjpbapjaaLGParts
import Derived.Test.YtmebmgbjpbapjaaGqd
namespace Go.Proofs.Ytmebmgbjpbapjaa
open Go.RowKit Go.Maps Go.MapKept
variable {b : Env} {L : List HP} {w : World}

def ERe1 (b : Env) (L : List HP) (F : List FRec) (i : Value) (wr : World) : Prop := ∃ k : Nat, k ≤ F.length ∧ i = .int .i64 k ∧ St b L wr
/-- Behind k of whom s calls, and j of what the next one reaches. -/
structure WantP (nxt : Str → List Str) (s : Str) (cto R : List Str) (k j : Nat) (W : List Str) : Prop where
  inc : Inc W
  mem : ∀ y, y ∈ W ↔ y = s ∨ (∃ t ∈ cto.take k, Rch nxt t y) ∨ y ∈ R.take j
  sub : ∀ y ∈ W, y ∈ namesU
theorem WantP.len {nxt : Str → List Str} {s : Str} {cto R : List Str} {k j : Nat} {W : List Str} (h : WantP nxt s cto R k j W) : W.length ≤ 1000000 :=
  Nat.le_trans (nodup_len W namesU h.inc.nodup h.sub) (by decide)
theorem WantP.start {nxt : Str → List Str} {s : Str} (cto : List Str) (hs : s ∈ namesU) : WantP nxt s cto [] 0 0 [s] :=
  ⟨by simp [Inc], fun y => by simp, fun y hy => by simp at hy; subst hy; exact hs⟩
theorem WantP.re {nxt : Str → List Str} {s : Str} {cto R R' : List Str} {k : Nat} {W : List Str} (h : WantP nxt s cto R k 0 W) : WantP nxt s cto R' k 0 W :=
  ⟨h.inc, fun y => by rw [h.mem]; simp, h.sub⟩
theorem WantP.step {nxt : Str → List Str} {s : Str} {cto R : List Str} {k j : Nat} {W : List Str} (h : WantP nxt s cto R k j W) (hj : j < R.length) (hu : R[j] ∈ namesU) : WantP nxt s cto R k (j + 1) (insS W R[j]) :=
  ⟨insS_inc h.inc _, fun y => by
    rw [mem_insS, h.mem, List.take_succ_eq_append_getElem hj, List.mem_append, List.mem_singleton]
    constructor
    · rintro ((h | h | h) | h)
      · exact Or.inl h
      · exact Or.inr (Or.inl h)
      · exact Or.inr (Or.inr (Or.inl h))
      · exact Or.inr (Or.inr (Or.inr h))
    · rintro (h | h | h | h)
      · exact Or.inl (Or.inl h)
      · exact Or.inl (Or.inr (Or.inl h))
      · exact Or.inl (Or.inr (Or.inr h))
      · exact Or.inr h, fun y hy => (mem_insS.1 hy).elim (h.sub y) (fun e => e ▸ hu)⟩
theorem WantP.row {nxt : Str → List Str} {s : Str} {cto R : List Str} {k : Nat} {W : List Str} (h : WantP nxt s cto R k R.length W) (hk : k < cto.length) (hR : ∀ y, y ∈ R ↔ Rch nxt cto[k] y) : WantP nxt s cto [] (k + 1) 0 W :=
  ⟨h.inc, fun y => by
    rw [h.mem, List.take_of_length_le (Nat.le_refl _), hR, List.take_succ_eq_append_getElem hk]
    simp only [List.mem_append, List.mem_singleton, List.take_nil, List.not_mem_nil, or_false]
    constructor
    · rintro (h | ⟨t, ht, hr⟩ | h)
      · exact Or.inl h
      · exact Or.inr ⟨t, Or.inl ht, hr⟩
      · exact Or.inr ⟨_, Or.inr rfl, h⟩
    · rintro (h | ⟨t, ht | rfl, hr⟩)
      · exact Or.inl h
      · exact Or.inr (Or.inl ⟨t, ht, hr⟩)
      · exact Or.inr (Or.inr hr), h.sub⟩
theorem WantP.done {nxt : Str → List Str} {s : Str} {cto W R : List Str} (h : WantP nxt s cto [] cto.length 0 W) (hto : cto = nxt s) (hi : Inc R) (hR : ∀ y, y ∈ R ↔ Rch nxt s y) : R = W :=
  hi.ext h.inc (fun y => by rw [hR, h.mem, rch_first, List.take_of_length_le (Nat.le_refl _), hto]; simp)
def ERe2 (b : Env) (L : List HP) (nxt : Str → List Str) (s : Str) (cto : List Str) (v i : Value) (wr : World) : Prop := ∃ (k : Nat) (W : List Str), k ≤ cto.length ∧ i = .int .i64 k ∧ WantP nxt s cto [] k 0 W ∧ St b (HP.sl strE v W :: L) wr
def ERe3 (b : Env) (L : List HP) (nxt : Str → List Str) (s : Str) (cto R : List Str) (k : Nat) (v i : Value) (wr : World) : Prop := ∃ (j : Nat) (W : List Str), j ≤ R.length ∧ i = .int .i64 j ∧ WantP nxt s cto R k j W ∧ St b (HP.sl strE v W :: L) wr

set_option linter.unusedSimpArgs false in
set_option maxRecDepth 100000 in
set_option maxHeartbeats 16000000 in
theorem graphReach_calls (h : St b L w) {v1 v2 v3 v4 : Value} (l1 l2 l3 l4 : Raws) (h1 : HP.sl rawE v1 l1.toL ∈ L) (h2 : HP.sl rawE v2 l2.toL ∈ L) (h3 : HP.sl rawE v3 l3.toL ∈ L) (h4 : HP.sl rawE v4 l4.toL ∈ L) :
    Calls Try.prog 7 #[v1, v2, v3, v4] w fun x w' => x = .returned (.bool true) ∧ St b L w' := by
  have H := hide h
  have M1 := hide h1
  have M2 := hide h2
  have M3 := hide h3
  have M4 := hide h4
  clear h h1 h2 h3 h4
  cases ha : allR l1 l2 l3 l4 with
  | false =>
    have HA := hide ha
    clear ha
    go_enter Try.func7, Try.ntmps7
    go_wp2_with (first
      | (go_at_call 11; refine (known_calls H.out).mono ?_; rintro x w1 ⟨rfl, h1⟩; have H1 := hide h1; clear h1 H)
      | (go_at_call 24; refine (all6_calls H1.out l1 l2 l3 l4 M1.out M2.out M3.out M4.out).mono ?_; rintro x w2 ⟨rfl, n, hw2⟩; rw [HA.out]; have H2 := hide (hw2 ▸ H1.out.drewN n); clear H1 hw2))
    go_ret
    exact ⟨rfl, H2.out⟩
  | true =>
    have hq := ha
    simp only [allR, Bool.and_eq_true] at hq
    obtain ⟨⟨⟨a1, a2⟩, a3⟩, a4⟩ := hq
    have z1 := fewR_size a1
    have z2 := fewR_size a2
    have z3 := fewR_size a3
    have z4 := fewR_size a4
    have htot := funcsR_tot (a := l1) (c := l2) (d := l3) (e := l4) 1 z1 z2 z3 z4
    have hFl : (funcsR l1 l2 l3 l4 1).length = 4 := rfl
    have hcl : ∀ a ∈ namesU, ∀ z ∈ nxF (funcsR l1 l2 l3 l4 1) a, z ∈ namesU := fun a _ z hz => funcsR_calls 5 (Or.inl rfl) (mem_nxF.1 hz)
    have hfi : ∀ y ∈ namesU, 0 ≤ findR (funcsR l1 l2 l3 l4 1) y := fun y hy => funcsR_find hy
    have hnm : ∀ x ∈ funcsR l1 l2 l3 l4 1, x.name ∈ namesU := fun x hx => (funcsR_body hx).2
    obtain ⟨F, hF⟩ : ∃ F, funcsR l1 l2 l3 l4 1 = F := ⟨_, rfl⟩
    rw [hF] at htot hFl hcl hfi hnm
    have HF := hide hF
    have HA := hide ha
    have HNL : Hid (∀ f, (namesP 5 F f).length ≤ 1000000) := hide (fun f => Nat.le_trans (namesP_len 5 f F) (by omega))
    have HCL := hide hcl
    have HFI := hide hfi
    have HNM := hide hnm
    have HFL := hide hFl
    have hFb : (F.length : Int) ≤ 9223372036854775807 := by rw [hFl]; decide
    have q1 : l1.size ≤ 1000 := by omega
    have q2 : l2.size ≤ 1000 := by omega
    have q3 : l3.size ≤ 1000 := by omega
    have q4 : l4.size ≤ 1000 := by omega
    have hU4 : namesU.length ≤ 1000 := by decide
    have hone : ∀ (a c d : Value), a.oneCell' = true → c.oneCell' = true → d.oneCell' = true → ∀ v ∈ [a, c, d], v.oneCell' = true := by intro a c d h1 h2 h3 v hv; simp at hv; rcases hv with rfl | rfl | rfl <;> assumption
    have ONE' := hide hone
    clear ha a1 a2 a3 a4 z1 z2 z3 z4 htot hFl hcl hfi hnm hF hone
    go_enter Try.func7, Try.ntmps7
    go_wp2_with (first
      | (go_at_call 11; refine (known_calls H.out).mono ?_; rintro x w1 ⟨rfl, h1⟩; have H1 := hide h1; clear h1 H)
      | (go_at_call 24; refine (all6_calls H1.out l1 l2 l3 l4 M1.out M2.out M3.out M4.out).mono ?_; rintro x w2 ⟨rfl, n, hw2⟩; rw [HA.out]; have H2 := hide (hw2 ▸ H1.out.drewN n); clear H1 hw2)
      | (go_at_call 19; refine (prog6_calls H2.out l1 l2 l3 l4 M1.out M2.out M3.out M4.out q1 q2 q3 q4 1 (by decide) (by decide) (by decide)).mono ?_; rintro x w4 ⟨vv, vl, vf, rfl, h4⟩; rw [HF.out] at h4; obtain ⟨bv, cv, hvv, _⟩ := h4.sl_form mem2; obtain ⟨bl, cl, hvl, _⟩ := h4.sl_form mem1; obtain ⟨bf, cf, hvf, _⟩ := h4.sl_form mem0; subst hvv; subst hvl; subst hvf; have H4 := hide h4.d1.d1; clear h4 H2)
      | ((with_reducible refine wpList_alloc_ag rfl agProg (by rfl) H4.out ?_); intro g9 w5 h5; have H5 := hide h5; clear h5 H4)
      | ((with_reducible refine wpList_store_ag (cs := [.slice bv varsR.length cv, .slice bl (locksR 1).length cl, .slice bf F.length cf]) rfl agProg (.tmp 9) (.tmp 29) rfl rfl rfl rfl rfl (ONE'.out _ _ _ rfl rfl rfl) H5.out ?_); intro w6 h6; have H6 := hide h6; clear h6 H5))
    go_loopw [10] (fun i wr => ERe1 b (HP.blk g9 (.cells ([.slice bv varsR.length cv, .slice bl (locksR 1).length cl, .slice bf F.length cf] : List Value).toArray 43) :: HP.sl funcE (.slice bf F.length cf) F :: L) F i wr) (fun i _ => F.length - (intOf i).toNat)
    case atStart => exact ⟨0, by omega, rfl, H6.out⟩
    case round =>
      obtain ⟨i, hi, rfl, hs⟩ := hrel
      have H7 := hide hs
      clear hs H6
      have c9 : wr.cell? ⟨g9, 2, none⟩ = some (.slice bf F.length cf) := H7.out.blk_cell mem0 2
      by_cases hlt : i < F.length
      · have hlt' : (i : Int) < F.length := by omega
        obtain ⟨gf, of, hgf⟩ := H7.out.sl_base mem1 (by omega) (by decide)
        subst hgf
        obtain ⟨cs, h8⟩ := H7.out.elem mem1 (List.getElem?_eq_getElem hlt) (by decide)
        have hxu := HNM.out F[i] (List.getElem_mem hlt)
        obtain ⟨x, hx⟩ : ∃ x, F[i] = x := ⟨_, rfl⟩
        rw [hx] at h8 hxu
        obtain ⟨vx, hok, rfl, h9⟩ := h8.func
        have c8 : wr.cell? ⟨gf, of + i * 3, none⟩ = some (.string ⟨x.name.toArray⟩) := h9.elem_cell mem1 0 rfl
        obtain ⟨s, hsn⟩ : ∃ s, x.name = s := ⟨_, rfl⟩
        rw [hsn] at c8 hok hxu
        have HOK := hide hok
        have HXU := hide hxu
        clear h8 h9 hok hxu hx hsn
        go_wp2_with (first
          | (refine wpList_build1_st (E := strE) rfl (.tmp 43) slStr rfl s rfl H7.out ?_ ?_; exact (fun _ _ _ => ⟨rfl, HOK.out⟩); intro g10 w10 h10; have H10 := hide h10.persist; clear h10 H7)
          | (refine wpList_loadB_st (cs := [.slice bv varsR.length cv, .slice bl (locksR 1).length cl, .slice (some ⟨gf, of, none⟩) F.length cf]) rfl agProg (.tmp 9) rfl rfl rfl H10.out mem1 ?_)
          | (go_at_call 22; refine (gcalls_calls H10.out mem2 s (HNL.out s)).mono ?_; rintro z w11 ⟨vt, rfl, h11⟩; obtain ⟨bt, ct, hvt, hc1, hc2⟩ := h11.sl_form mem0; have htl : ((setS (namesP 5 F s)).length : Int) ≤ 9223372036854775807 := (by unfold maxLen at hc2; omega); subst hvt; generalize hto : setS (namesP 5 F s) = cto at h11 htl ⊢; have HTO : Hid (cto = nxF F s) := hide hto.symm; have H11 := hide h11.f1; clear h11 H10 hc1 hc2 hto))
        go_loopw [12, 14] (fun v k wr => ERe2 b (HP.sl strE (.slice bt cto.length ct) cto :: HP.blk g9 (.cells ([.slice bv varsR.length cv, .slice bl (locksR 1).length cl, .slice (some ⟨gf, of, none⟩) F.length cf] : List Value).toArray 43) :: HP.sl funcE (.slice (some ⟨gf, of, none⟩) F.length cf) F :: L) (nxF F) s cto v k wr) (fun _ k _ => cto.length - (intOf k).toNat)
        case atStart => exact ⟨0, [s], by omega, rfl, WantP.start cto HXU.out, H11.out⟩
        case round =>
          obtain ⟨k, W, hk, rfl, hw, hs⟩ := hrel
          have H12 := hide hs
          have HW := hide hw
          clear hs hw H11
          by_cases hltk : k < cto.length
          · have hltk' : (k : Int) < cto.length := by omega
            obtain ⟨gt, ot, hgt⟩ := H12.out.sl_base mem1 (by omega) Nat.one_pos
            subst hgt
            obtain ⟨hct, hokt⟩ := H12.out.sc_at mem1 hltk
            have htu := HCL.out s HXU.out cto[k] (by rw [← HTO.out]; exact List.getElem_mem hltk)
            obtain ⟨t, ht⟩ : ∃ t, cto[k] = t := ⟨_, rfl⟩
            rw [ht] at hct hokt htu
            have hfp := HFI.out t htu
            have HT := hide ht
            have HTU := hide htu
            have HOKT := hide hokt
            have e1 : Hid (∀ j u, ([.slice bv varsR.length cv, .slice bl (locksR 1).length cl, .slice (some ⟨gf, of, none⟩) F.length cf] : List Value)[j]? = some u → wr.cell? ⟨g9, 0 + j, none⟩ = some u) := hide (fun j u hj => by rw [Nat.zero_add]; exact (H12.out.blk_cell mem2 j).trans (by simpa using hj))
            obtain ⟨fi, hfi⟩ : ∃ n, findR F t = n := ⟨_, rfl⟩
            have HFI2 := hide hfi
            rw [hfi] at hfp
            have hfn : decide (fi < 0) = false := by simp; omega
            clear ht htu hokt hfi hfp
            go_wp2_with fail
            refine wp_region_held_drew (S := fun w' => (∀ j u, ([.slice bv varsR.length cv, .slice bl (locksR 1).length cl, .slice (some ⟨gf, of, none⟩) F.length cf] : List Value)[j]? = some u → w'.cell? ⟨g9, 0 + j, none⟩ = some u) ∧ w'.cell? ⟨gt, ot + k, none⟩ = some (.string ⟨t.toArray⟩)) (by kernel_rfl) ?_ (fun hHeld => ?_)
            · exact ⟨e1.out, hct⟩
            refine wpAnyH_takeD (i := 0) (some 54) (v := .agg ([.slice bv varsR.length cv, .slice bl (locksR 1).length cl, .slice (some ⟨gf, of, none⟩) F.length cf] : List Value).toArray) rfl rfl (by kernel_rfl) (by kernel_rfl) (by kernel_rfl) (fun _ _ _ h => h) (by rfl) ?y0_7 (by assumption) ?r0_7
            case y0_7 => (intro w hSw; exact run_loadB agProg (.tmp 9) rfl rfl rfl hSw.1)
            try simp only [Act.put, List.setIfInBounds_toArray, List.set_cons_zero, List.set_cons_succ]
            refine wpAnyH_takeD (i := 1) (some 55) (v := ?v1_8) rfl rfl (by kernel_rfl) (by kernel_rfl) (by kernel_rfl) (fun _ _ _ h => h) (by rfl) ?y1_8 (by assumption) ?r1_8
            case y1_8 => (intro w hSw; (try dsimp only at hSw); first | (go_simp; done) | (go_simp; with_reducible rfl))
            try simp only [Act.put, List.setIfInBounds_toArray, List.set_cons_zero, List.set_cons_succ]
            refine wpAnyH_takeD (i := 2) (some 56) (v := ?v2_9) rfl rfl (by kernel_rfl) (by kernel_rfl) (by kernel_rfl) (fun _ _ _ h => h) (by rfl) ?y2_9 (by assumption) ?r2_9
            case y2_9 => (intro w hSw; (try dsimp only at hSw); first | (go_simp; done) | (go_simp; with_reducible rfl))
            try simp only [Act.put, List.setIfInBounds_toArray, List.set_cons_zero, List.set_cons_succ]
            refine wpAnyH_takeD (i := 3) (some 57) (v := ?v3_10) rfl rfl (by kernel_rfl) (by kernel_rfl) (by kernel_rfl) (fun _ _ _ h => h) (by rfl) ?y3_10 (by assumption) ?r3_10
            case y3_10 => (intro w hSw; (try dsimp only at hSw); first | (go_simp; done) | (go_simp; with_reducible rfl))
            try simp only [Act.put, List.setIfInBounds_toArray, List.set_cons_zero, List.set_cons_succ]
            refine wpAnyH_takeD (i := 4) (some 58) (v := ?v4_11) rfl rfl (by kernel_rfl) (by kernel_rfl) (by kernel_rfl) (fun _ _ _ h => h) (by rfl) ?y4_11 (by assumption) ?r4_11
            case y4_11 => (intro w hSw; (try dsimp only at hSw); first | (go_simp; done) | (go_simp; with_reducible rfl))
            try simp only [Act.put, List.setIfInBounds_toArray, List.set_cons_zero, List.set_cons_succ]
            refine wpAnyH_ready (rs := [5]) (by kernel_rfl) (by simp) ?_
            refine AllReadyH.cons rfl (fun K hK => ?_) ?_
            · go_simp
              go_at_call 25
              refine (find_calls H12.out.drew mem3 t).mono ?_
              rintro z w13 ⟨rfl, h13⟩
              rw [HFI2.out]
              have H13 := hide h13
              clear h13 H12
              refine hK.out _ _ ?_ (fun hHeld => ?_)
              · exact ⟨fun j u hj => by rw [Nat.zero_add]; exact (H13.out.blk_cell mem2 j).trans (by simpa using hj), by rw [← HT.out]; exact (H13.out.sc_at mem1 hltk).1⟩
              clear hK K
              try simp only [Act.put, List.setIfInBounds_toArray, List.set_cons_zero, List.set_cons_succ]
              refine wpAnyH_takeD (i := 6) (some 60) (v := ?v6_12) rfl rfl (by kernel_rfl) (by kernel_rfl) (by kernel_rfl) (fun _ _ _ h => h) (by rfl) ?y6_12 (by assumption) ?r6_12
              case y6_12 => (intro w hSw; (try dsimp only at hSw); first | (go_simp; done) | (go_simp; with_reducible rfl))
              try simp only [Act.put, List.setIfInBounds_toArray, List.set_cons_zero, List.set_cons_succ]
              refine wpAnyH_done (by kernel_rfl) ?_ _
              go_wp2_with fail
              refine wp_region_held_drew (S := fun w' => (∀ j u, ([.slice bv varsR.length cv, .slice bl (locksR 1).length cl, .slice (some ⟨gf, of, none⟩) F.length cf] : List Value)[j]? = some u → w'.cell? ⟨g9, 0 + j, none⟩ = some u) ∧ w'.cell? ⟨gt, ot + k, none⟩ = some (.string ⟨t.toArray⟩)) (by kernel_rfl) ?_ (fun hHeld2 => ?_)
              · exact ⟨fun j u hj => by rw [Nat.zero_add]; exact (H13.out.blk_cell mem2 j).trans (by simpa using hj), by rw [← HT.out]; exact (H13.out.sc_at mem1 hltk).1⟩
              refine wpAnyH_takeD (i := 0) (some 61) (v := .agg ([.slice bv varsR.length cv, .slice bl (locksR 1).length cl, .slice (some ⟨gf, of, none⟩) F.length cf] : List Value).toArray) rfl rfl (by kernel_rfl) (by kernel_rfl) (by kernel_rfl) (fun _ _ _ h => h) (by rfl) ?y0_1 (by assumption) ?r0_1
              case y0_1 => (intro w hSw; exact run_loadB agProg (.tmp 9) rfl rfl rfl hSw.1)
              try simp only [Act.put, List.setIfInBounds_toArray, List.set_cons_zero, List.set_cons_succ]
              refine wpAnyH_takeD (i := 1) (some 62) (v := ?v1_2) rfl rfl (by kernel_rfl) (by kernel_rfl) (by kernel_rfl) (fun _ _ _ h => h) (by rfl) ?y1_2 (by assumption) ?r1_2
              case y1_2 => (intro w hSw; (try dsimp only at hSw); first | (go_simp; done) | (go_simp; with_reducible rfl))
              try simp only [Act.put, List.setIfInBounds_toArray, List.set_cons_zero, List.set_cons_succ]
              refine wpAnyH_takeD (i := 2) (some 63) (v := ?v2_3) rfl rfl (by kernel_rfl) (by kernel_rfl) (by kernel_rfl) (fun _ _ _ h => h) (by rfl) ?y2_3 (by assumption) ?r2_3
              case y2_3 => (intro w hSw; (try dsimp only at hSw); first | (go_simp; done) | (go_simp; with_reducible rfl))
              try simp only [Act.put, List.setIfInBounds_toArray, List.set_cons_zero, List.set_cons_succ]
              refine wpAnyH_takeD (i := 3) (some 64) (v := ?v3_4) rfl rfl (by kernel_rfl) (by kernel_rfl) (by kernel_rfl) (fun _ _ _ h => h) (by rfl) ?y3_4 (by assumption) ?r3_4
              case y3_4 => (intro w hSw; (try dsimp only at hSw); first | (go_simp; done) | (go_simp; with_reducible rfl))
              try simp only [Act.put, List.setIfInBounds_toArray, List.set_cons_zero, List.set_cons_succ]
              refine wpAnyH_takeD (i := 4) (some 65) (v := ?v4_5) rfl rfl (by kernel_rfl) (by kernel_rfl) (by kernel_rfl) (fun _ _ _ h => h) (by rfl) ?y4_5 (by assumption) ?r4_5
              case y4_5 => (intro w hSw; (try dsimp only at hSw); first | (go_simp; done) | (go_simp; with_reducible rfl))
              try simp only [Act.put, List.setIfInBounds_toArray, List.set_cons_zero, List.set_cons_succ]
              refine wpAnyH_ready (rs := [5]) (by kernel_rfl) (by simp) ?_
              refine AllReadyH.cons rfl (fun K hK => ?_) ?_
              · go_simp
                go_at_call 26
                refine (greach_calls H13.out.drew mem3 HNL.out t HOKT.out namesU HTU.out HCL.out hU4).mono ?_
                rintro z w14 ⟨vR, R, rfl, hRi, hRm, hRl, h14⟩
                obtain ⟨bR, cR, hvR, _⟩ := h14.sl_form mem0
                subst hvR
                have HRM := hide hRm
                have hRlI : (R.length : Int) ≤ 9223372036854775807 := by omega
                have H14 := hide h14.f1
                clear h14 H13 hRi hRm
                refine hK.out _ _ ?_ (fun hHeld => ?_)
                · exact ⟨fun j u hj => by rw [Nat.zero_add]; exact (H14.out.blk_cell mem3 j).trans (by simpa using hj), by rw [← HT.out]; exact (H14.out.sc_at mem2 hltk).1⟩
                clear hK K
                try simp only [Act.put, List.setIfInBounds_toArray, List.set_cons_zero, List.set_cons_succ]
                refine wpAnyH_takeD (i := 6) (some 15) (v := ?v6_6) rfl rfl (by kernel_rfl) (by kernel_rfl) (by kernel_rfl) (fun _ _ _ h => h) (by rfl) ?y6_6 (by assumption) ?r6_6
                case y6_6 => (intro w hSw; (try dsimp only at hSw); first | (go_simp; done) | (go_simp; with_reducible rfl))
                try simp only [Act.put, List.setIfInBounds_toArray, List.set_cons_zero, List.set_cons_succ]
                refine wpAnyH_done (by kernel_rfl) ?_ _
                go_wp2_with fail
                go_loopw [12, 16] (fun v j wr => ERe3 b (HP.sl strE (.slice bR R.length cR) R :: HP.sl strE (.slice (some ⟨gt, ot, none⟩) cto.length ct) cto :: HP.blk g9 (.cells ([.slice bv varsR.length cv, .slice bl (locksR 1).length cl, .slice (some ⟨gf, of, none⟩) F.length cf] : List Value).toArray 43) :: HP.sl funcE (.slice (some ⟨gf, of, none⟩) F.length cf) F :: L) (nxF F) s cto R k v j wr) (fun _ j _ => R.length - (intOf j).toNat)
                case atStart => exact ⟨0, W, by omega, rfl, HW.out.re, H14.out⟩
                case round =>
                  obtain ⟨j, W2, hj, rfl, hw2, hs⟩ := hrel
                  have H15 := hide hs
                  have HW2 := hide hw2
                  clear hs hw2 H14
                  by_cases hltj : j < R.length
                  · have hltj' : (j : Int) < R.length := by omega
                    obtain ⟨gR, oR, hgR⟩ := H15.out.sl_base mem1 (by omega) Nat.one_pos
                    subst hgR
                    obtain ⟨hcr, hokr⟩ := H15.out.sc_at mem1 hltj
                    have hru := rch_in HCL.out HTU.out ((HRM.out R[j]).1 (List.getElem_mem hltj))
                    have HST := hide (HW2.out.step hltj hru)
                    have hwl := HW2.out.len
                    have HWL := hide hwl
                    have HOKR := hide hokr
                    clear hru hwl hokr
                    go_wp2_with (go_at_call 27; refine (with_calls H15.out mem0 R[j] HOKR.out HWL.out).mono ?_; rintro z w16 ⟨vW, rfl, h16⟩; have H16 := hide h16.d1; clear h16 H15)
                    go_roundw
                    case rel => exact ⟨j + 1, _, by omega, by go_num, HST.out, H16.out⟩
                    case measure => exact meas_step hltj
                  · have hje : j = R.length := by omega
                    subst hje
                    have HST := hide (HW2.out.row hltk (by rw [HT.out]; exact HRM.out))
                    go_wp2_with fail
                    go_roundw
                    case rel => exact ⟨k + 1, W2, by omega, by go_num, HST.out, H15.out.d1⟩
                    case measure => exact meas_step hltk
              exact AllReadyH.nil
            exact AllReadyH.nil
          · have hke : k = cto.length := by omega
            subst hke
            go_wp2_with (first
              | (refine wpList_loadB_st (cs := [.slice bv varsR.length cv, .slice bl (locksR 1).length cl, .slice (some ⟨gf, of, none⟩) F.length cf]) rfl agProg (.tmp 9) rfl rfl rfl H12.out mem2 ?_)
              | (go_at_call 26; refine (greach_calls H12.out mem3 HNL.out s HOK.out namesU HXU.out HCL.out hU4).mono ?_; rintro z w20 ⟨vR, R, rfl, hRi, hRm, hRl, h20⟩; have hRW := HW.out.done HTO.out hRi hRm; subst hRW; have H20 := hide h20; clear h20 H12 hRi hRm hRl)
              | (go_at_call 21; refine (same_calls H20.out (Reads.of_sl mem0) (Reads.of_sl mem1)).mono ?_; rintro z w21 ⟨rfl, n21, hw21⟩; rw [decide_eq_true rfl]; have H21 := hide (hw21 ▸ H20.out.drewN n21); clear H20 hw21))
            go_roundw
            case rel => exact ⟨i + 1, by omega, by go_num, H21.out.drop.drop.drop⟩
            case measure => exact meas_step hlt
      · go_wp2_with fail
        go_ret
        exact ⟨rfl, H7.out.drop.drop⟩
end Go.Proofs.Ytmebmgbjpbapjaa
