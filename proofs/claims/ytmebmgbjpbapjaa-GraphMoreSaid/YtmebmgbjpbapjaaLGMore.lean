/-
  GraphMore.
-/
import Derived.Test.YtmebmgbjpbapjaaLGParts
import Derived.Test.YtmebmgbjpbapjaaGn
import Derived.Test.YtmebmgbjpbapjaaGqd
namespace Go.Proofs.Ytmebmgbjpbapjaa
open Go.RowKit Go.Maps Go.MapKept
variable {b : Env} {L : List HP} {w : World}

theorem flipE_succ {es : List (Str × Str)} {k : Nat} (hk : k < es.length) {x : Str × Str} (hx : es[k] = x) : flipE (es.take (k + 1)) = flipE (es.take k) ++ [(x.2, x.1)] := by
  unfold flipE; rw [List.take_succ_eq_append_getElem hk, List.map_append, hx]; rfl
theorem flipE_len (es : List (Str × Str)) : (flipE es).length = es.length := List.length_map ..

def EM1 (b : Env) (L : List HP) (es : List (Str × Str)) (A B : HP) (v i : Value) (wr : World) : Prop := ∃ k : Nat, k ≤ es.length ∧ i = .int .i64 k ∧ ∃ base cap, v = .slice base k cap ∧ St b (HP.rows 35 pairE v (flipE (es.take k)) :: A :: B :: L) wr
def EM2 (w0 : World) (p : List (List Str)) (i : Value) (wr : World) : Prop := ∃ i' n : Nat, i' ≤ p.length ∧ i = .int .i64 i' ∧ wr = w0.drewN n
def EM3 (w0 : World) (r : List (List Str)) (x : Str) (k : Value) (wr : World) : Prop := ∃ k' n : Nat, k' ≤ r.length ∧ k = .int .i64 k' ∧ wr = w0.drewN n ∧ ∀ Q ∈ r.take k', x ∉ Q
def EM4 (w0 : World) (P : List Str) (j : Value) (wr : World) : Prop := ∃ j' n : Nat, j' ≤ P.length ∧ j = .int .i64 j' ∧ wr = w0.drewN n

set_option linter.unusedSimpArgs false in
set_option maxRecDepth 100000 in
set_option maxHeartbeats 16000000 in
theorem graphMore_calls (h : St b L w) (n : Int) {v : Value} {ns : List Int} (hm : HP.sl intE v ns ∈ L) (hns : ∀ x ∈ ns, i64 x) (a c : Int) (hn1 : -9223372036854775808 ≤ n) (hn2 : n ≤ 9223372036854775807)
    (ha1 : -9223372036854775808 ≤ a) (ha2 : a ≤ 9223372036854775807) (hc1 : -9223372036854775808 ≤ c) (hc2 : c ≤ 9223372036854775807) :
    Calls Try.prog 5 #[.int .i64 n, v, .int .i64 a, .int .i64 c] w fun x w' => x = .returned (.bool true) ∧ St b L w' := by
  have H := hide h
  have HM := hide hm
  have HNS := hide hns
  have p1 := Int.emod_nonneg n (show (8 : Int) ≠ 0 by omega)
  have p2 := Int.emod_lt_of_pos n (show (0 : Int) < 8 by omega)
  obtain ⟨m0, hmn⟩ : ∃ m, n % 8 = m := ⟨_, rfl⟩
  rw [hmn] at p1 p2
  have HMN := hide hmn
  obtain ⟨k1, hk1⟩ : ∃ k : Nat, a % (1 + m0) = (k : Int) := ⟨(a % (1 + m0)).toNat, by have := Int.emod_nonneg a (show 1 + m0 ≠ 0 by omega); omega⟩
  obtain ⟨k2, hk2⟩ : ∃ k : Nat, c % (1 + m0) = (k : Int) := ⟨(c % (1 + m0)).toNat, by have := Int.emod_nonneg c (show 1 + m0 ≠ 0 by omega); omega⟩
  have hlt1 := Int.emod_lt_of_pos a (show 0 < 1 + m0 by omega)
  have hlt2 := Int.emod_lt_of_pos c (show 0 < 1 + m0 by omega)
  rw [hk1] at hlt1
  rw [hk2] at hlt2
  have T1 : Hid (∀ w, Calls Try.prog 13 #[.int .i64 a, .int .i64 (1 + m0)] w (fun e w' => e = .returned (.int .i64 (k1 : Int)) ∧ w' = w)) := hide (fun w => (within8_calls a (1 + m0) (by omega) (by omega) ha1 ha2).mono (fun e w' he => ⟨by rw [he.1, hk1], he.2.symm⟩))
  have T2 : Hid (∀ w, Calls Try.prog 13 #[.int .i64 c, .int .i64 (1 + m0)] w (fun e w' => e = .returned (.int .i64 (k2 : Int)) ∧ w' = w)) := hide (fun w => (within8_calls c (1 + m0) (by omega) (by omega) hc1 hc2).mono (fun e w' he => ⟨by rw [he.1, hk2], he.2.symm⟩))
  have hNl0 : (namesN (1 + m0)).length = (1 + m0).toNat := by unfold namesN; rw [namesL_len]
  have hNl : (namesN (1 + m0)).length ≤ 1000 := by rw [hNl0]; omega
  have hi1 : k1 < (namesN (1 + m0)).length := by rw [hNl0]; omega
  have hi2 : k2 < (namesN (1 + m0)).length := by rw [hNl0]; omega
  have hel : (pairsN (1 + m0 + 2) ns).length ≤ 40 := by unfold pairsN; simp; omega
  have HINC : Hid (Inc (namesN (1 + m0))) := hide (namesL_inc (by omega))
  generalize hN : namesN (1 + m0) = N at hNl hi1 hi2 HINC
  generalize hE : pairsN (1 + m0 + 2) ns = E at hel
  have HN := hide hN
  have HE := hide hE
  have hi1' : (k1 : Int) < N.length := by omega
  have hi2' : (k2 : Int) < N.length := by omega
  have hk10 : (0 : Int) ≤ k1 := by omega
  have hk20 : (0 : Int) ≤ k2 := by omega
  obtain ⟨x1, hx1⟩ : ∃ x, N[k1] = x := ⟨_, rfl⟩
  obtain ⟨x2, hx2⟩ : ∃ x, N[k2] = x := ⟨_, rfl⟩
  have hMP := moreP N E (x1, x2)
  obtain ⟨p, hp⟩ : ∃ p, partsR (eqv (edgesN (inEdges N E))) N.length N = p := ⟨_, rfl⟩
  obtain ⟨r, hr⟩ : ∃ r, partsR (eqv (edgesN (inEdges N (E ++ [(x1, x2)])))) N.length N = r := ⟨_, rfl⟩
  rw [hp, hr] at hMP
  have HPP := hide hp
  have HRR := hide hr
  have HBB : Hid (partsR (eqv (edgesN (inEdges N (flipE E)))) N.length N = p) := hide (by rw [flip_edges, hp])
  have HMP := hide hMP
  have HX1 := hide hx1
  have HX2 := hide hx2
  clear h hm hns hmn hN hE hx1 hx2 hMP hp hr hNl0 hk1 hk2
  go_enter Try.func5, Try.ntmps5
  go_wp2_with (first
    | (go_at_call 11; refine (known_calls H.out).mono ?_; rintro x w1 ⟨rfl, h1⟩; have H1 := hide h1; clear h1 H)
    | (go_at_call 13; refine (within8_calls n 8 (by decide) (by decide) hn1 hn2).mono ?_; rintro x w2 ⟨rfl, rfl⟩; rw [HMN.out])
    | (go_at_call 12; refine (edges_calls H1.out HM.out HNS.out (1 + m0) (by omega) (by omega)).mono ?_; rintro x w3 ⟨v1, v2, rfl, h3⟩; rw [HN.out, HE.out] at h3; obtain ⟨b1, c1, hv1, _⟩ := h3.sl_form mem0; obtain ⟨b2, c2, hv2, _⟩ := h3.sl_form mem1; subst hv1; subst hv2; have H3 := hide (h3.rows_nil 35 pairE); clear h3 H1))
  obtain ⟨gn, on, hgn⟩ := H3.out.sl_base mem1 (by omega) Nat.one_pos
  subst hgn
  have HO1 : Hid (okStr x1) := hide (by rw [← HX1.out]; exact (H3.out.sc_at mem1 hi1).2)
  have HO2 : Hid (okStr x2) := hide (by rw [← HX2.out]; exact (H3.out.sc_at mem1 hi2).2)
  go_loopw [11, 12] (fun v11 i wr => EM1 b L E (HP.sl strE (.slice (some ⟨gn, on, none⟩) N.length c1) N) (HP.sl pairE (.slice b2 E.length c2) E) v11 i wr) (fun _ i _ => E.length - (intOf i).toNat)
  case atStart => exact ⟨0, by omega, rfl, none, 0, rfl, H3.out⟩
  case round =>
    obtain ⟨k, hk, rfl, b11, c11, rfl, hs⟩ := hrel
    have H4 := hide hs
    clear hs H3
    by_cases hlt : k < E.length
    · obtain ⟨ge, oe, hge⟩ := H4.out.sl_base mem2 (by omega) (by decide)
      subst hge
      obtain ⟨_, _, hok1, hok2⟩ := H4.out.pair_at mem2 hlt
      have d0 := And.intro (H4.out.drew.pair_at mem2 hlt).1 (H4.out.drew.pair_at mem2 hlt).2.1
      obtain ⟨x, hx⟩ : ∃ x, E[k] = x := ⟨_, rfl⟩
      have HFS := hide (flipE_succ hlt hx)
      have HX := hide hx
      rw [hx] at hok1 hok2 d0
      have hA := (H4.out.alloc (.cells #[.string ⟨x.2.toArray⟩, .string ⟨x.1.toArray⟩] 35)).rows1 (E := pairE) (cs := [sv x.2, sv x.1]) (x.2, x.1) (fun _ _ _ => ⟨rfl, hok2, hok1⟩)
      have d1 := And.intro (hA.drew.pair_at mem3 hlt).1 (hA.drew.pair_at mem3 hlt).2.1
      rw [hx] at d1
      have HA := hide hA.drew.f1
      obtain ⟨y1, y2⟩ := x
      dsimp only at d0 d1 HA HFS
      have q2 : (flipE (E.take k)).length + [(y2, y1)].length ≤ maxLen := by rw [flipE_len]; simp; unfold maxLen; omega
      have q3 : ((flipE (E.take k)).length + [(y2, y1)].length) * 32 ≤ 140737488355328 := by rw [flipE_len]; simp; omega
      have hltk' : (k : Int) < E.length := by omega
      have hk0 : (0 : Int) ≤ k := by omega
      clear hok1 hok2 hx hA H4
      go_wp2_with fail
      go_region_held_law (fun w' => w'.cell? ⟨ge, oe + k * 2, none⟩ = some (.string ⟨y1.toArray⟩) ∧ w'.cell? ⟨ge, oe + k * 2 + 1, none⟩ = some (.string ⟨y2.toArray⟩))
        (with_reducible assumption)
        (first
          | (refine step_append_st (E := pairE) rfl (.tmp 35) (.tmp 47) slPair rfl HA.out (Src.of_rows mem1) rfl rfl q2 q3 ?_; intro vb2 n2 vc2 w5 hn2 h5; have d2 := And.intro (h5.pair_at mem3 hlt).1 (h5.pair_at mem3 hlt).2.1; rw [HX.out] at d2; dsimp only at d2; have H5 := hide h5.d1; have HN2 := hide hn2; clear h5 HA hn2))
      go_wp2_with fail
      go_roundw
      case rel => exact ⟨k + 1, by omega, by go_num, vb2, vc2, by rw [HN2.out, flipE_len]; simp; omega, by rw [HFS.out]; exact H5.out⟩
      case measure => simp [intOf]; omega
    · have h5 := H4.out.persist
      rw [List.take_of_length_le (by omega)] at h5
      have H8 := hide h5
      clear h5 H4
      have q4 : ([] : List (Str × Str)).length + E.length ≤ maxLen := by simp; unfold maxLen; omega
      have q5 : (([] : List (Str × Str)).length + E.length) * 32 ≤ 140737488355328 := by simp; omega
      have q6 : E.length + [(x1, x2)].length ≤ maxLen := by simp; unfold maxLen; omega
      have q7 : (E.length + [(x1, x2)].length) * 32 ≤ 140737488355328 := by simp; omega
      have hE1 : (E ++ [(x1, x2)]).length ≤ 50000 := by simp; omega
      go_wp2_with fail
      go_cut [13, 14] from 49 to 71 (fun v13 v14 wx => St b (HP.sl strE.in v13 p :: HP.sl strE.in v14 r :: HP.sl pairE (.slice b11 k c11) (flipE E) :: HP.sl strE (.slice (some ⟨gn, on, none⟩) N.length c1) N :: HP.sl pairE (.slice b2 E.length c2) E :: L) wx)
      case first =>
        refine wp_region_held_drew (S := fun w' => w'.cell? ⟨gn, on + k1, none⟩ = some (.string ⟨x1.toArray⟩) ∧ w'.cell? ⟨gn, on + k2, none⟩ = some (.string ⟨x2.toArray⟩)) (by kernel_rfl) ?_ (fun hHeld => ?_)
        · exact ⟨(H8.out.drew.sc_at mem1 hi1).1.trans (by rw [HX1.out]), (H8.out.drew.sc_at mem1 hi2).1.trans (by rw [HX2.out])⟩
        refine wpAnyH_takeD (i := 0) (some 49) (v := ?v0_1) rfl rfl (by kernel_rfl) (by kernel_rfl) (by kernel_rfl) (fun _ _ _ h => h) (by rfl) ?y0_1 (by assumption) ?r0_1
        case y0_1 => (intro w hSw; (try dsimp only at hSw); first | (go_simp; done) | (go_simp; with_reducible rfl))
        try simp only [Act.put, List.setIfInBounds_toArray, List.set_cons_zero, List.set_cons_succ]
        refine wpAnyH_takeD (i := 1) (some 50) (v := ?v1_2) rfl rfl (by kernel_rfl) (by kernel_rfl) (by kernel_rfl) (fun _ _ _ h => h) (by rfl) ?y1_2 (by assumption) ?r1_2
        case y1_2 => (intro w hSw; (try dsimp only at hSw); first | (go_simp; done) | (go_simp; with_reducible rfl))
        try simp only [Act.put, List.setIfInBounds_toArray, List.set_cons_zero, List.set_cons_succ]
        refine wpAnyH_takeD (i := 3) (some 52) (v := ?v3_3) rfl rfl (by kernel_rfl) (by kernel_rfl) (by kernel_rfl) (fun _ _ _ h => h) (by rfl) ?y3_3 (by assumption) ?r3_3
        case y3_3 => (intro w hSw; (try dsimp only at hSw); first | (go_simp; done) | (go_simp; with_reducible rfl))
        try simp only [Act.put, List.setIfInBounds_toArray, List.set_cons_zero, List.set_cons_succ]
        refine wpAnyH_takeD (i := 5) (some 54) (v := ?v5_4) rfl rfl (by kernel_rfl) (by kernel_rfl) (by kernel_rfl) (fun _ _ _ h => h) (by rfl) ?y5_4 (by assumption) ?r5_4
        case y5_4 => (intro w hSw; (try dsimp only at hSw); first | (go_simp; done) | (go_simp; with_reducible rfl))
        try simp only [Act.put, List.setIfInBounds_toArray, List.set_cons_zero, List.set_cons_succ]
        refine wpAnyH_takeD (i := 7) (some 56) (v := ?v7_5) rfl rfl (by kernel_rfl) (by kernel_rfl) (by kernel_rfl) (fun _ _ _ h => h) (by rfl) ?y7_5 (by assumption) ?r7_5
        case y7_5 => (intro w hSw; (try dsimp only at hSw); first | (go_simp; done) | (go_simp; with_reducible rfl))
        try simp only [Act.put, List.setIfInBounds_toArray, List.set_cons_zero, List.set_cons_succ]
        refine wpAnyH_takeD (i := 8) (some 57) (v := ?v8_6) rfl rfl (by kernel_rfl) (by kernel_rfl) (by kernel_rfl) (fun _ _ _ h => h) (by rfl) ?y8_6 (by assumption) ?r8_6
        case y8_6 => (intro w hSw; (try dsimp only at hSw); first | (go_simp; done) | (go_simp; with_reducible rfl))
        try simp only [Act.put, List.setIfInBounds_toArray, List.set_cons_zero, List.set_cons_succ]
        refine wpAnyH_takeD (i := 9) (some 58) (v := ?v9_7) rfl rfl (by kernel_rfl) (by kernel_rfl) (by kernel_rfl) (fun _ _ _ h => h) (by rfl) ?y9_7 (by assumption) ?r9_7
        case y9_7 => (intro w hSw; (try dsimp only at hSw); first | (go_simp; done) | (go_simp; with_reducible rfl))
        try simp only [Act.put, List.setIfInBounds_toArray, List.set_cons_zero, List.set_cons_succ]
        refine wpAnyH_takeD (i := 13) (some 62) (v := ?v13_8) rfl rfl (by kernel_rfl) (by kernel_rfl) (by kernel_rfl) (fun _ _ _ h => h) (by rfl) ?y13_8 (by assumption) ?r13_8
        case y13_8 => (intro w hSw; (try dsimp only at hSw); first | (go_simp; done) | (go_simp; with_reducible rfl))
        try simp only [Act.put, List.setIfInBounds_toArray, List.set_cons_zero, List.set_cons_succ]
        refine wpAnyH_takeD (i := 14) (some 63) (v := ?v14_9) rfl rfl (by kernel_rfl) (by kernel_rfl) (by kernel_rfl) (fun _ _ _ h => h) (by rfl) ?y14_9 (by assumption) ?r14_9
        case y14_9 => (intro w hSw; (try dsimp only at hSw); first | (go_simp; done) | (go_simp; with_reducible rfl))
        try simp only [Act.put, List.setIfInBounds_toArray, List.set_cons_zero, List.set_cons_succ]
        refine wpAnyH_takeD (i := 15) (some 64) (v := ?v15_10) rfl rfl (by kernel_rfl) (by kernel_rfl) (by kernel_rfl) (fun _ _ _ h => h) (by rfl) ?y15_10 (by assumption) ?r15_10
        case y15_10 => (intro w hSw; (try dsimp only at hSw); first | (go_simp; done) | (go_simp; with_reducible rfl))
        try simp only [Act.put, List.setIfInBounds_toArray, List.set_cons_zero, List.set_cons_succ]
        refine wpAnyH_ready (rs := [2, 4]) (by kernel_rfl) (by simp) ?_
        refine AllReadyH.cons rfl (fun K hK => ?_) ?_
        · go_simp
          go_at_call 15
          refine (gparts_calls H8.out.drew mem1 mem2 hNl (by omega)).mono ?_
          rintro xx w6 ⟨vp, S, rfl, hinc, hmem, h6⟩
          have hSe := Inc.ext hinc HINC.out hmem
          rw [hSe, HPP.out] at h6
          have HS1 := hide h6
          clear h6 hinc hmem hSe H8
          refine hK.out _ _ ?_ (fun hHeld => ?_)
          · exact ⟨(HS1.out.sc_at mem2 hi1).1.trans (by rw [HX1.out]), (HS1.out.sc_at mem2 hi2).1.trans (by rw [HX2.out])⟩
          clear hK K
          try simp only [Act.put, List.setIfInBounds_toArray, List.set_cons_zero, List.set_cons_succ]
          refine wpAnyH_ready (rs := [4]) (by kernel_rfl) (by simp) ?_
          refine AllReadyH.cons rfl (fun K hK => ?_) ?_
          · go_simp
            have hz := (HS1.out.alloc (.cells #[] 35)).rows0 pairE
            try simp only [World.size_alloc] at hz
            have HS2 := hide hz.f1
            clear hz HS1
            refine hK.out _ _ ?_ (fun hHeld => ?_)
            · exact ⟨(HS2.out.sc_at mem3 hi1).1.trans (by rw [HX1.out]), (HS2.out.sc_at mem3 hi2).1.trans (by rw [HX2.out])⟩
            clear hK K
            try simp only [Act.put, List.setIfInBounds_toArray, List.set_cons_zero, List.set_cons_succ]
            refine wpAnyH_ready (rs := [6]) (by kernel_rfl) (by simp) ?_
            refine AllReadyH.cons rfl (fun K hK => ?_) ?_
            · refine step_append_st (E := pairE) rfl (.tmp 53) (.tmp 54) slPair rfl HS2.out.f1 (Src.of_sl mem4) rfl rfl q4 q5 ?_
              intro vb4 n4 vc4 w4 hn4 h4
              rw [List.nil_append] at h4
              have HS3 := hide h4.f1
              clear h4 hn4 HS2
              refine hK.out _ _ ?_ (fun hHeld => ?_)
              · exact ⟨(HS3.out.sc_at mem3 hi1).1.trans (by rw [HX1.out]), (HS3.out.sc_at mem3 hi2).1.trans (by rw [HX2.out])⟩
              clear hK K
              try simp only [Act.put, List.setIfInBounds_toArray, List.set_cons_zero, List.set_cons_succ]
              refine wpAnyH_tellsD (i := 10) (some 59) (v := .int .i64 (k1 : Int)) rfl rfl (by kernel_rfl) (by kernel_rfl) (by kernel_rfl) (fun _ _ _ h => h) ⟨by rfl, 13, #[.int .i64 a, .int .i64 (1 + m0)], fun w hSw => ⟨?y10_11, T1.out w⟩⟩ (by assumption) ?r10_11
              case y10_11 => first | (go_simp; done) | (go_simp; with_reducible rfl)
              try simp only [Act.put, List.setIfInBounds_toArray, List.set_cons_zero, List.set_cons_succ]
              refine wpAnyH_takeD (i := 11) (some 60) (v := ?v11_12) rfl rfl (by kernel_rfl) (by kernel_rfl) (by kernel_rfl) (fun _ _ _ h => h) (by rfl) ?y11_12 (by assumption) ?r11_12
              case y11_12 => (intro w hSw; (try dsimp only at hSw); first | (go_simp; done) | (go_simp; with_reducible rfl))
              try simp only [Act.put, List.setIfInBounds_toArray, List.set_cons_zero, List.set_cons_succ]
              refine wpAnyH_takeD (i := 12) (some 61) (v := ?v12_13) rfl rfl (by kernel_rfl) (by kernel_rfl) (by kernel_rfl) (fun _ _ _ h => h) (by rfl) ?y12_13 (by assumption) ?r12_13
              case y12_13 => (intro w hSw; (try dsimp only at hSw); first | (go_simp; done) | (go_simp; with_reducible rfl))
              try simp only [Act.put, List.setIfInBounds_toArray, List.set_cons_zero, List.set_cons_succ]
              refine wpAnyH_tellsD (i := 16) (some 65) (v := .int .i64 (k2 : Int)) rfl rfl (by kernel_rfl) (by kernel_rfl) (by kernel_rfl) (fun _ _ _ h => h) ⟨by rfl, 13, #[.int .i64 c, .int .i64 (1 + m0)], fun w hSw => ⟨?y16_14, T2.out w⟩⟩ (by assumption) ?r16_14
              case y16_14 => first | (go_simp; done) | (go_simp; with_reducible rfl)
              try simp only [Act.put, List.setIfInBounds_toArray, List.set_cons_zero, List.set_cons_succ]
              refine wpAnyH_takeD (i := 17) (some 66) (v := ?v17_15) rfl rfl (by kernel_rfl) (by kernel_rfl) (by kernel_rfl) (fun _ _ _ h => h) (by rfl) ?y17_15 (by assumption) ?r17_15
              case y17_15 => (intro w hSw; (try dsimp only at hSw); first | (go_simp; done) | (go_simp; with_reducible rfl))
              try simp only [Act.put, List.setIfInBounds_toArray, List.set_cons_zero, List.set_cons_succ]
              refine wpAnyH_takeD (i := 18) (some 67) (v := ?v18_16) rfl rfl (by kernel_rfl) (by kernel_rfl) (by kernel_rfl) (fun _ _ _ h => h) (by rfl) ?y18_16 (by assumption) ?r18_16
              case y18_16 => (intro w hSw; (try dsimp only at hSw); first | (go_simp; done) | (go_simp; with_reducible rfl))
              try simp only [Act.put, List.setIfInBounds_toArray, List.set_cons_zero, List.set_cons_succ]
              refine wpAnyH_takeD (i := 19) (some 68) (v := ?v19_17) rfl rfl (by kernel_rfl) (by kernel_rfl) (by kernel_rfl) (fun _ _ _ h => h) (by rfl) ?y19_17 (by assumption) ?r19_17
              case y19_17 => (intro w hSw; (try dsimp only at hSw); first | (go_simp; done) | (go_simp; with_reducible rfl))
              try simp only [Act.put, List.setIfInBounds_toArray, List.set_cons_zero, List.set_cons_succ]
              refine wpAnyH_ready (rs := [20]) (by kernel_rfl) (by simp) ?_
              refine AllReadyH.cons rfl (fun K hK => ?_) ?_
              · go_simp
                have hz := (HS3.out.alloc (.cells #[.string ⟨x1.toArray⟩, .string ⟨x2.toArray⟩] 35)).rows1 (E := pairE) (cs := [sv x1, sv x2]) (x1, x2) (fun _ _ _ => ⟨rfl, HO1.out, HO2.out⟩)
                try simp only [World.size_alloc] at hz
                have HS4 := hide hz.b2
                clear hz HS3
                refine hK.out _ _ ?_ (fun hHeld => ?_)
                · exact ⟨(HS4.out.sc_at mem4 hi1).1.trans (by rw [HX1.out]), (HS4.out.sc_at mem4 hi2).1.trans (by rw [HX2.out])⟩
                clear hK K
                try simp only [Act.put, List.setIfInBounds_toArray, List.set_cons_zero, List.set_cons_succ]
                refine wpAnyH_ready (rs := [21]) (by kernel_rfl) (by simp) ?_
                refine AllReadyH.cons rfl (fun K hK => ?_) ?_
                · refine step_append_st (E := pairE) rfl (.tmp 55) (.tmp 69) slPair rfl HS4.out.f1 (Src.of_rows mem2) rfl rfl q6 q7 ?_
                  intro vb5 n5 vc5 w5 hn5 h5
                  have HS5 := hide h5.persist.d2.f1
                  clear h5 hn5 HS4
                  refine hK.out _ _ ?_ (fun hHeld => ?_)
                  · exact ⟨(HS5.out.sc_at mem3 hi1).1.trans (by rw [HX1.out]), (HS5.out.sc_at mem3 hi2).1.trans (by rw [HX2.out])⟩
                  clear hK K
                  try simp only [Act.put, List.setIfInBounds_toArray, List.set_cons_zero, List.set_cons_succ]
                  refine wpAnyH_ready (rs := [22]) (by kernel_rfl) (by simp) ?_
                  refine AllReadyH.cons rfl (fun K hK => ?_) ?_
                  · go_simp
                    go_at_call 15
                    refine (gparts_calls HS5.out mem3 mem1 hNl hE1).mono ?_
                    rintro xx w7 ⟨vr, S, rfl, hinc, hmem, h7⟩
                    have hSe := Inc.ext hinc HINC.out hmem
                    rw [hSe, HRR.out] at h7
                    have HS6 := hide h7.f1
                    clear h7 hinc hmem hSe HS5
                    refine hK.out _ _ ?_ (fun hHeld => ?_)
                    · exact ⟨(HS6.out.sc_at mem4 hi1).1.trans (by rw [HX1.out]), (HS6.out.sc_at mem4 hi2).1.trans (by rw [HX2.out])⟩
                    clear hK K
                    try simp only [Act.put, List.setIfInBounds_toArray, List.set_cons_zero, List.set_cons_succ]
                    refine wpAnyH_takeD (i := 23) (some 13) (v := ?v23_18) rfl rfl (by kernel_rfl) (by kernel_rfl) (by kernel_rfl) (fun _ _ _ h => h) (by rfl) ?y23_18 (by assumption) ?r23_18
                    case y23_18 => (intro w hSw; (try dsimp only at hSw); first | (go_simp; done) | (go_simp; with_reducible rfl))
                    try simp only [Act.put, List.setIfInBounds_toArray, List.set_cons_zero, List.set_cons_succ]
                    refine wpAnyH_takeD (i := 24) (some 14) (v := ?v24_19) rfl rfl (by kernel_rfl) (by kernel_rfl) (by kernel_rfl) (fun _ _ _ h => h) (by rfl) ?y24_19 (by assumption) ?r24_19
                    case y24_19 => (intro w hSw; (try dsimp only at hSw); first | (go_simp; done) | (go_simp; with_reducible rfl))
                    try simp only [Act.put, List.setIfInBounds_toArray, List.set_cons_zero, List.set_cons_succ]
                    refine wpAnyH_done (by kernel_rfl) ?_ _
                    go_wp2_with fail
                    go_meet
                    first | exact ⟨vp, vr, rfl, rfl, HS6.out.d2⟩ | exact HS6.out.d2
                  exact AllReadyH.nil
                exact AllReadyH.nil
              exact AllReadyH.nil
            exact AllReadyH.nil
          exact AllReadyH.nil
        refine AllReadyH.cons rfl (fun K hK => ?_) ?_
        · go_simp
          have hz := (H8.out.alloc (.cells #[] 35)).rows0 pairE
          try simp only [World.size_alloc] at hz
          have HS7 := hide hz
          clear hz H8
          refine hK.out _ _ ?_ (fun hHeld => ?_)
          · exact ⟨(HS7.out.drew.sc_at mem2 hi1).1.trans (by rw [HX1.out]), (HS7.out.drew.sc_at mem2 hi2).1.trans (by rw [HX2.out])⟩
          clear hK K
          try simp only [Act.put, List.setIfInBounds_toArray, List.set_cons_zero, List.set_cons_succ]
          refine wpAnyH_ready (rs := [2]) (by kernel_rfl) (by simp) ?_
          refine AllReadyH.cons rfl (fun K hK => ?_) ?_
          · go_simp
            go_at_call 15
            refine (gparts_calls HS7.out.drew mem2 mem3 hNl (by omega)).mono ?_
            rintro xx w6 ⟨vp, S, rfl, hinc, hmem, h6⟩
            have hSe := Inc.ext hinc HINC.out hmem
            rw [hSe, HPP.out] at h6
            have HS8 := hide h6
            clear h6 hinc hmem hSe HS7
            refine hK.out _ _ ?_ (fun hHeld => ?_)
            · exact ⟨(HS8.out.sc_at mem3 hi1).1.trans (by rw [HX1.out]), (HS8.out.sc_at mem3 hi2).1.trans (by rw [HX2.out])⟩
            clear hK K
            try simp only [Act.put, List.setIfInBounds_toArray, List.set_cons_zero, List.set_cons_succ]
            refine wpAnyH_ready (rs := [6]) (by kernel_rfl) (by simp) ?_
            refine AllReadyH.cons rfl (fun K hK => ?_) ?_
            · refine step_append_st (E := pairE) rfl (.tmp 53) (.tmp 54) slPair rfl HS8.out.f1 (Src.of_sl mem4) rfl rfl q4 q5 ?_
              intro vb4 n4 vc4 w4 hn4 h4
              rw [List.nil_append] at h4
              have HS9 := hide h4.f1
              clear h4 hn4 HS8
              refine hK.out _ _ ?_ (fun hHeld => ?_)
              · exact ⟨(HS9.out.sc_at mem3 hi1).1.trans (by rw [HX1.out]), (HS9.out.sc_at mem3 hi2).1.trans (by rw [HX2.out])⟩
              clear hK K
              try simp only [Act.put, List.setIfInBounds_toArray, List.set_cons_zero, List.set_cons_succ]
              refine wpAnyH_tellsD (i := 10) (some 59) (v := .int .i64 (k1 : Int)) rfl rfl (by kernel_rfl) (by kernel_rfl) (by kernel_rfl) (fun _ _ _ h => h) ⟨by rfl, 13, #[.int .i64 a, .int .i64 (1 + m0)], fun w hSw => ⟨?y10_20, T1.out w⟩⟩ (by assumption) ?r10_20
              case y10_20 => first | (go_simp; done) | (go_simp; with_reducible rfl)
              try simp only [Act.put, List.setIfInBounds_toArray, List.set_cons_zero, List.set_cons_succ]
              refine wpAnyH_takeD (i := 11) (some 60) (v := ?v11_21) rfl rfl (by kernel_rfl) (by kernel_rfl) (by kernel_rfl) (fun _ _ _ h => h) (by rfl) ?y11_21 (by assumption) ?r11_21
              case y11_21 => (intro w hSw; (try dsimp only at hSw); first | (go_simp; done) | (go_simp; with_reducible rfl))
              try simp only [Act.put, List.setIfInBounds_toArray, List.set_cons_zero, List.set_cons_succ]
              refine wpAnyH_takeD (i := 12) (some 61) (v := ?v12_22) rfl rfl (by kernel_rfl) (by kernel_rfl) (by kernel_rfl) (fun _ _ _ h => h) (by rfl) ?y12_22 (by assumption) ?r12_22
              case y12_22 => (intro w hSw; (try dsimp only at hSw); first | (go_simp; done) | (go_simp; with_reducible rfl))
              try simp only [Act.put, List.setIfInBounds_toArray, List.set_cons_zero, List.set_cons_succ]
              refine wpAnyH_tellsD (i := 16) (some 65) (v := .int .i64 (k2 : Int)) rfl rfl (by kernel_rfl) (by kernel_rfl) (by kernel_rfl) (fun _ _ _ h => h) ⟨by rfl, 13, #[.int .i64 c, .int .i64 (1 + m0)], fun w hSw => ⟨?y16_23, T2.out w⟩⟩ (by assumption) ?r16_23
              case y16_23 => first | (go_simp; done) | (go_simp; with_reducible rfl)
              try simp only [Act.put, List.setIfInBounds_toArray, List.set_cons_zero, List.set_cons_succ]
              refine wpAnyH_takeD (i := 17) (some 66) (v := ?v17_24) rfl rfl (by kernel_rfl) (by kernel_rfl) (by kernel_rfl) (fun _ _ _ h => h) (by rfl) ?y17_24 (by assumption) ?r17_24
              case y17_24 => (intro w hSw; (try dsimp only at hSw); first | (go_simp; done) | (go_simp; with_reducible rfl))
              try simp only [Act.put, List.setIfInBounds_toArray, List.set_cons_zero, List.set_cons_succ]
              refine wpAnyH_takeD (i := 18) (some 67) (v := ?v18_25) rfl rfl (by kernel_rfl) (by kernel_rfl) (by kernel_rfl) (fun _ _ _ h => h) (by rfl) ?y18_25 (by assumption) ?r18_25
              case y18_25 => (intro w hSw; (try dsimp only at hSw); first | (go_simp; done) | (go_simp; with_reducible rfl))
              try simp only [Act.put, List.setIfInBounds_toArray, List.set_cons_zero, List.set_cons_succ]
              refine wpAnyH_takeD (i := 19) (some 68) (v := ?v19_26) rfl rfl (by kernel_rfl) (by kernel_rfl) (by kernel_rfl) (fun _ _ _ h => h) (by rfl) ?y19_26 (by assumption) ?r19_26
              case y19_26 => (intro w hSw; (try dsimp only at hSw); first | (go_simp; done) | (go_simp; with_reducible rfl))
              try simp only [Act.put, List.setIfInBounds_toArray, List.set_cons_zero, List.set_cons_succ]
              refine wpAnyH_ready (rs := [20]) (by kernel_rfl) (by simp) ?_
              refine AllReadyH.cons rfl (fun K hK => ?_) ?_
              · go_simp
                have hz := (HS9.out.alloc (.cells #[.string ⟨x1.toArray⟩, .string ⟨x2.toArray⟩] 35)).rows1 (E := pairE) (cs := [sv x1, sv x2]) (x1, x2) (fun _ _ _ => ⟨rfl, HO1.out, HO2.out⟩)
                try simp only [World.size_alloc] at hz
                have HS10 := hide hz.b2
                clear hz HS9
                refine hK.out _ _ ?_ (fun hHeld => ?_)
                · exact ⟨(HS10.out.sc_at mem4 hi1).1.trans (by rw [HX1.out]), (HS10.out.sc_at mem4 hi2).1.trans (by rw [HX2.out])⟩
                clear hK K
                try simp only [Act.put, List.setIfInBounds_toArray, List.set_cons_zero, List.set_cons_succ]
                refine wpAnyH_ready (rs := [21]) (by kernel_rfl) (by simp) ?_
                refine AllReadyH.cons rfl (fun K hK => ?_) ?_
                · refine step_append_st (E := pairE) rfl (.tmp 55) (.tmp 69) slPair rfl HS10.out.f1 (Src.of_rows mem2) rfl rfl q6 q7 ?_
                  intro vb5 n5 vc5 w5 hn5 h5
                  have HS11 := hide h5.persist.d2.f1
                  clear h5 hn5 HS10
                  refine hK.out _ _ ?_ (fun hHeld => ?_)
                  · exact ⟨(HS11.out.sc_at mem3 hi1).1.trans (by rw [HX1.out]), (HS11.out.sc_at mem3 hi2).1.trans (by rw [HX2.out])⟩
                  clear hK K
                  try simp only [Act.put, List.setIfInBounds_toArray, List.set_cons_zero, List.set_cons_succ]
                  refine wpAnyH_ready (rs := [22]) (by kernel_rfl) (by simp) ?_
                  refine AllReadyH.cons rfl (fun K hK => ?_) ?_
                  · go_simp
                    go_at_call 15
                    refine (gparts_calls HS11.out mem3 mem1 hNl hE1).mono ?_
                    rintro xx w7 ⟨vr, S, rfl, hinc, hmem, h7⟩
                    have hSe := Inc.ext hinc HINC.out hmem
                    rw [hSe, HRR.out] at h7
                    have HS12 := hide h7.f1
                    clear h7 hinc hmem hSe HS11
                    refine hK.out _ _ ?_ (fun hHeld => ?_)
                    · exact ⟨(HS12.out.sc_at mem4 hi1).1.trans (by rw [HX1.out]), (HS12.out.sc_at mem4 hi2).1.trans (by rw [HX2.out])⟩
                    clear hK K
                    try simp only [Act.put, List.setIfInBounds_toArray, List.set_cons_zero, List.set_cons_succ]
                    refine wpAnyH_takeD (i := 23) (some 13) (v := ?v23_27) rfl rfl (by kernel_rfl) (by kernel_rfl) (by kernel_rfl) (fun _ _ _ h => h) (by rfl) ?y23_27 (by assumption) ?r23_27
                    case y23_27 => (intro w hSw; (try dsimp only at hSw); first | (go_simp; done) | (go_simp; with_reducible rfl))
                    try simp only [Act.put, List.setIfInBounds_toArray, List.set_cons_zero, List.set_cons_succ]
                    refine wpAnyH_takeD (i := 24) (some 14) (v := ?v24_28) rfl rfl (by kernel_rfl) (by kernel_rfl) (by kernel_rfl) (fun _ _ _ h => h) (by rfl) ?y24_28 (by assumption) ?r24_28
                    case y24_28 => (intro w hSw; (try dsimp only at hSw); first | (go_simp; done) | (go_simp; with_reducible rfl))
                    try simp only [Act.put, List.setIfInBounds_toArray, List.set_cons_zero, List.set_cons_succ]
                    refine wpAnyH_done (by kernel_rfl) ?_ _
                    go_wp2_with fail
                    go_meet
                    first | exact ⟨vp, vr, rfl, rfl, HS12.out.d2⟩ | exact HS12.out.d2
                  exact AllReadyH.nil
                exact AllReadyH.nil
              exact AllReadyH.nil
            exact AllReadyH.nil
          exact AllReadyH.nil
        exact AllReadyH.nil
      case rest =>
        have h9 := hcut
        obtain ⟨bp, cp, hvp, hp1, hp2⟩ := h9.sl_form mem0
        obtain ⟨br, cr, hvr, hr1, hr2⟩ := h9.sl_form mem1
        have hpl : (p.length : Int) ≤ 9223372036854775807 := by unfold maxLen at hp2; omega
        have hrl : (r.length : Int) ≤ 9223372036854775807 := by unfold maxLen at hr2; omega
        clear hp1 hp2 hr1 hr2
        subst hvp
        subst hvr
        have H9 := hide h9
        have hfew := HMP.out.fewer
        have hfew' : ¬ ((p.length : Int) < r.length) := by omega
        clear h9 hcut H8
        go_wp2_with (first
          | (go_at_call 15; refine (gparts_calls H9.out mem3 mem2 hNl (by rw [flipE_len]; omega)).mono ?_; rintro x w10 ⟨v10, S, rfl, hinc, hmem, h10⟩; have hSe := Inc.ext hinc HINC.out hmem; rw [hSe, HBB.out] at h10; have H10 := hide h10; clear h10 H9 hinc hmem hSe)
          | (go_at_call 14; refine (all_calls H10.out mem0 mem1).mono ?_; rintro x w12 ⟨rfl, n12, hw12⟩; rw [decide_eq_true rfl]; have h11 := H10.out.drop.drewN n12; rw [← hw12] at h11; have H11 := hide h11; clear h11 H10 hw12))
        go_loopw [15] (fun i wr => EM2 w12 p i wr) (fun i _ => p.length - (intOf i).toNat)
        case atStart => exact ⟨0, 0, by omega, rfl, rfl⟩
        case round =>
          obtain ⟨i', n', hi', rfl, rfl⟩ := hrel
          by_cases hlt : i' < p.length
          · obtain ⟨gp, op, hgp⟩ := H11.out.sl_base mem0 (by omega) Nat.one_pos
            subst hgp
            obtain ⟨vP, hcP, h13⟩ := H11.out.in_at mem0 hlt
            have hPm := List.getElem_mem hlt
            obtain ⟨P, hP⟩ : ∃ P, p[i'] = P := ⟨_, rfl⟩
            rw [hP] at h13 hPm
            have hpos := HMP.out.pos P hPm
            obtain ⟨bP, cP, hvP, hP1, hP2⟩ := h13.sl_form mem0
            have hPl : (P.length : Int) ≤ 9223372036854775807 := by unfold maxLen at hP2; omega
            clear hP1 hP2
            subst hvP
            obtain ⟨gP, oP, hgP⟩ := h13.sl_base mem0 hpos Nat.one_pos
            subst hgP
            have hc0 := (h13.sc_at mem0 hpos).1
            obtain ⟨x0, hx0⟩ : ∃ x, P[0] = x := ⟨_, rfl⟩
            rw [hx0] at hc0
            simp only [Nat.add_zero] at hc0
            have hx0P : x0 ∈ P := by rw [← hx0]; exact List.getElem_mem hpos
            have HPM := hide hPm
            have HXP := hide hx0P
            have H13 := hide h13
            have hposI : (0 : Int) < P.length := by omega
            have hlp0 : ((P.length : Int) == 0) = false := by rw [beq_eq_false_iff_ne]; omega
            have hlti' : (i' : Int) < p.length := by omega
            clear h13 hP hPm hx0 hx0P
            go_wp2_with fail
            go_loopw [16] (fun kk wr => EM3 w12 r x0 kk wr) (fun kk _ => r.length - (intOf kk).toNat)
            case atStart => exact ⟨0, n', by omega, rfl, rfl, by simp⟩
            case round =>
              obtain ⟨k', n3, hk', rfl, rfl, hnot⟩ := hrel
              have HNOT := hide hnot
              clear hnot
              by_cases hltk : k' < r.length
              · obtain ⟨gr, or', hgr⟩ := H13.out.sl_base mem2 (by omega) Nat.one_pos
                subst hgr
                obtain ⟨vQ, hcQ, h14⟩ := H13.out.in_at mem2 hltk
                have hQm := List.getElem_mem hltk
                have HTK := hide (List.take_succ_eq_append_getElem hltk)
                obtain ⟨Q, hQ⟩ : ∃ Q, r[k'] = Q := ⟨_, rfl⟩
                rw [hQ] at h14 hQm HTK
                have H14 := hide h14
                have hltk' : (k' : Int) < r.length := by omega
                have hlkb : ((k' : Int) == r.length) = false := by rw [beq_eq_false_iff_ne]; omega
                clear h14 hQ
                by_cases hin : x0 ∈ Q
                · have D := hide (decide_eq_true hin)
                  have HJ : Hid (∀ y ∈ P, y ∈ Q) := hide (HMP.out.join P HPM.out Q hQm x0 HXP.out hin)
                  clear hin hQm
                  go_wp2_with fail
                  go_quiet ((go_at_call 17; refine (in_calls (H14.out.drewN _) (Reads.of_sl mem0) _).mono ?_; rintro x w' ⟨rfl, rfl⟩; exact ⟨by rw [D.out], _, rfl⟩))
                  go_wp2_with fail
                  go_loopw [17] (fun j wr => EM4 w12 P j wr) (fun j _ => P.length - (intOf j).toNat)
                  case atStart => exact ⟨0, _, by omega, rfl, rfl⟩
                  case round =>
                    obtain ⟨j', n4, hj', rfl, rfl⟩ := hrel
                    by_cases hltj : j' < P.length
                    · have hcj := (H13.out.sc_at mem0 hltj).1
                      have hltj' : (j' : Int) < P.length := by omega
                      have D2 := hide (decide_eq_true (HJ.out _ (List.getElem_mem hltj)))
                      go_wp2_with fail
                      go_quiet ((go_at_call 17; refine (in_calls (H14.out.drewN _) (Reads.of_sl mem0) _).mono ?_; rintro x w' ⟨rfl, rfl⟩; exact ⟨by rw [D2.out], _, rfl⟩))
                      go_wp2_with fail
                      go_roundw
                      case rel => exact ⟨j' + 1, _, by omega, by go_num, rfl⟩
                      case measure => simp [intOf]; omega
                    · go_wp2_with fail
                      go_roundw
                      case rel => exact ⟨i' + 1, _, by omega, by go_num, rfl⟩
                      case measure => simp [intOf]; omega
                · have D := hide (decide_eq_false hin)
                  have HIN := hide hin
                  clear hin hQm
                  go_wp2_with fail
                  go_quiet ((go_at_call 17; refine (in_calls (H14.out.drewN _) (Reads.of_sl mem0) _).mono ?_; rintro x w' ⟨rfl, rfl⟩; exact ⟨by rw [D.out], _, rfl⟩))
                  go_wp2_with fail
                  go_roundw
                  case rel => exact ⟨k' + 1, _, by omega, by go_num, rfl, by
                    rw [HTK.out]; intro Q' hQ'
                    rcases List.mem_append.1 hQ' with h | h
                    · exact HNOT.out Q' h
                    · simp at h; subst h; exact HIN.out⟩
                  case measure => simp [intOf]; omega
              · exfalso
                obtain ⟨Q, hQ, hxQ⟩ := HMP.out.ex P HPM.out x0 HXP.out
                have := HNOT.out Q (by rw [List.take_of_length_le (by omega)]; exact hQ)
                exact this hxQ
          · go_wp2_with fail
            go_ret
            exact ⟨rfl, (H11.out.drewN _).drop.drop.drop.drop.drop⟩
end Go.Proofs.Ytmebmgbjpbapjaa
