/-
  deadboltref8: Parts.
-/
import Derived.Test.YtmebmgbjpbapjaaG9
import Derived.Deep.RegionHeld3
namespace Go.Proofs.Ytmebmgbjpbapjaa
open Go.RowKit Go.Maps Go.MapKept
variable {b : Env} {L : List HP} {w : World}

def inEdges (N : List Str) (es : List (Str × Str)) : List (Str × Str) := es.filter (fun e => decide (e.1 ∈ N) && decide (e.2 ∈ N))
theorem inEdges_succ {N : List Str} {es : List (Str × Str)} {k : Nat} (hk : k < es.length) {x : Str × Str} (hx : es[k] = x) : inEdges N (es.take (k + 1)) = inEdges N (es.take k) ++ (if (decide (x.1 ∈ N) && decide (x.2 ∈ N)) = true then [x] else []) := by
  unfold inEdges
  rw [List.take_succ_eq_append_getElem hk, List.filter_append, hx]; congr 1
  cases h : (decide (x.1 ∈ N) && decide (x.2 ∈ N)) <;> simp [h]

def RP1 (b : Env) (L : List HP) (N : List Str) (es : List (Str × Str)) (v5 i : Value) (wr : World) : Prop :=
  ∃ k : Nat, k ≤ es.length ∧ i = .int .i64 k ∧ ∃ base n cap, v5 = .slice base n cap ∧ St b (HP.rows 35 pairE v5 (inEdges N (es.take k)) :: L) wr
def RP2 (b : Env) (L : List HP) (q : Str → Str → Bool) (N : List Str) (A : HP) (v7 v8 i : Value) (wr : World) : Prop :=
  ∃ k : Nat, k ≤ N.length ∧ i = .int .i64 k ∧ ∃ out dn, RPt q N k out dn ∧ out.length ≤ k ∧ dn.length ≤ k * N.length ∧ (∃ base n cap, v7 = .slice base n cap) ∧ (∃ base n cap, v8 = .slice base n cap) ∧ St b (HP.rows 24 strE.in v7 out :: HP.rows 9 strE v8 dn :: A :: L) wr
def RP3 (b : Env) (L : List HP) (p : Str → Bool) (N dn : List Str) (O T A : HP) (v8 v10 i : Value) (wr : World) : Prop :=
  ∃ k : Nat, k ≤ N.length ∧ i = .int .i64 k ∧ (∃ base n cap, v8 = .slice base n cap) ∧ (∃ base n cap, v10 = .slice base n cap) ∧ St b (HP.sl strE v10 ((N.take k).filter p) :: O :: HP.rows 9 strE v8 (dn ++ (N.take k).filter p) :: T :: A :: L) wr

set_option maxRecDepth 100000 in
set_option maxHeartbeats 4000000 in
theorem rparts_calls (h : St b L w) {vn ve : Value} {N : List Str} {es : List (Str × Str)} (hn : HP.sl strE vn N ∈ L) (he : HP.sl pairE ve es ∈ L) (hN : Inc N) (hNl : N.length ≤ 1000) (hel : es.length ≤ 50000) :
    Calls Try.prog 16 #[vn, ve] w fun x w' => ∃ v, x = .returned v ∧ St b (HP.sl strE.in v (partsR (eqv (edgesN (inEdges N es))) N.length N) :: L) w' := by
  obtain ⟨bn, cn, rfl, _, _⟩ := h.sl_form hn
  obtain ⟨be, ce, rfl, _, _⟩ := h.sl_form he
  have H := hide h
  have HN := hide hn
  have HE := hide he
  have HI := hide hN
  clear h hn he hN
  go_enter Try.func16, Try.ntmps16
  go_wp2_with fail
  go_loopw [5, 6] (fun v5 i wr => RP1 b L N es v5 i wr) (fun _ i _ => es.length - (intOf i).toNat)
  case atStart => exact ⟨0, by omega, rfl, none, 0, 0, rfl, H.out.rows_nil _ _⟩
  case round =>
    obtain ⟨k, hk, rfl, b5, n5, c5, rfl, hs⟩ := hrel
    have H1 := hide hs
    clear hs H
    by_cases hlt : k < es.length
    · obtain ⟨ge, oe, hge⟩ := H1.out.sl_base (up1 HE.out) (by omega) (by decide)
      subst hge
      obtain ⟨hc0, hc01, hok1, hok2⟩ := H1.out.pair_at (up1 HE.out) hlt
      obtain ⟨x, hx⟩ : ∃ x, es[k] = x := ⟨_, rfl⟩
      have HX := hide (inEdges_succ (N := N) hlt hx)
      rw [hx] at hc0 hc01 hok1 hok2
      have HO1 := hide hok1
      have HO2 := hide hok2
      obtain ⟨x1, x2⟩ := x
      dsimp only at hc0 hc01 HO1 HO2 HX
      have HCS : Hid (∀ j u, [sv x1, sv x2][j]? = some u → wr.cell? ⟨ge, oe + k * 2 + j, none⟩ = some u) := hide (fun j u hj => by
        match j, hj with
        | 0, hj => cases hj; exact hc0
        | 1, hj => cases hj; exact hc01)
      have hil : (inEdges N (es.take k)).length ≤ k := by
        have := List.length_filter_le (fun e : Str × Str => decide (e.1 ∈ N) && decide (e.2 ∈ N)) (es.take k)
        rw [List.length_take] at this; unfold inEdges; omega
      clear hok1 hok2 hx
      by_cases h1 : x1 ∈ N
      · by_cases h2 : x2 ∈ N
        · have D1 := hide (decide_eq_true h1)
          have D2 := hide (decide_eq_true h2)
          clear h1 h2
          go_wp2_with (first
            | (go_at_call 17; refine (in_calls H1.out (Reads.of_sl (up1 HN.out)) _).mono ?_; rintro x w1 ⟨rfl, rfl⟩; (first | rw [D1.out] | rw [D2.out]))
            | (with_reducible refine wpList_load_ag (cs := [sv x1, sv x2]) rfl agPair (.tmp 38) rfl rfl rfl HCS.out ?_)
            | (refine wpList_build1_st (E := pairE) rfl (.tmp 39) slPair rfl (x1, x2) rfl H1.out ?_ ?_; exact (fun _ _ _ => ⟨rfl, HO1.out, HO2.out⟩); intro g9 w9 h9; have H9 := hide h9.f1; clear h9 H1)
            | (at_builtin; refine wpList_append_st rfl (.tmp 35) (.tmp 40) slPair rfl H9.out (Src.of_rows mem1) rfl rfl ?_ ?_ ?_; (simp; unfold maxLen; omega); (simp; omega); intro vb3 n3 vc3 w10 hn3 h10; have H10 := hide h10.d1; clear h10 H9 hn3))
          go_roundw
          case rel => exact ⟨k + 1, by omega, by go_num, vb3, n3, vc3, rfl, by rw [HX.out, D1.out, D2.out]; exact H10.out⟩
          case measure => simp [intOf]; omega
        · have D1 := hide (decide_eq_true h1)
          have D2 := hide (decide_eq_false h2)
          clear h1 h2
          go_wp2_with (go_at_call 17; refine (in_calls H1.out (Reads.of_sl (up1 HN.out)) _).mono ?_; rintro x w1 ⟨rfl, rfl⟩; (first | rw [D1.out] | rw [D2.out]))
          go_roundw
          case rel => exact ⟨k + 1, by omega, by go_num, b5, n5, c5, rfl, by rw [HX.out, D1.out, D2.out]; simpa using H1.out⟩
          case measure => simp [intOf]; omega
      · have D1 := hide (decide_eq_false h1)
        clear h1
        go_wp2_with (go_at_call 17; refine (in_calls H1.out (Reads.of_sl (up1 HN.out)) _).mono ?_; rintro x w1 ⟨rfl, rfl⟩; rw [D1.out])
        go_roundw
        case rel => exact ⟨k + 1, by omega, by go_num, b5, n5, c5, rfl, by rw [HX.out, D1.out]; simpa using H1.out⟩
        case measure => simp [intOf]; omega
    · have hke : es.take k = es := List.take_of_length_le (by omega)
      have h2 := H1.out.persist
      rw [hke] at h2
      have hil : (inEdges N es).length ≤ 50000 := by
        have := List.length_filter_le (fun e : Str × Str => decide (e.1 ∈ N) && decide (e.2 ∈ N)) es
        unfold inEdges; omega
      generalize hS : inEdges N es = S at h2 hil
      have HSE := hide hS
      have H2 := hide ((h2.rows_nil 9 strE).rows_nil 24 strE.in)
      clear h2 H1 hke hS
      go_wp2_with fail
      go_loopw [7, 8, 9] (fun v7 v8 i wr => RP2 b L (eqv (edgesN S)) N (HP.sl pairE (.slice b5 n5 c5) S) v7 v8 i wr) (fun _ _ i _ => N.length - (intOf i).toNat)
      case atStart => exact ⟨0, by omega, rfl, [], [], RPt.start _ _, by simp, by simp, ⟨_, _, _, rfl⟩, ⟨_, _, _, rfl⟩, H2.out⟩
      case round =>
        obtain ⟨i, hi, rfl, out, dn, hp, hol, hdl, ⟨b7, n7, c7, rfl⟩, ⟨b8, n8, c8, rfl⟩, hs⟩ := hrel
        have H3 := hide hs
        have HP3 := hide hp
        clear hs hp H2
        by_cases hlt2 : i < N.length
        · obtain ⟨gn, on, hgn⟩ := H3.out.sl_base (up3 HN.out) (by omega) Nat.one_pos
          subst hgn
          obtain ⟨hci, hoki⟩ := H3.out.sc_at (up3 HN.out) hlt2
          have HOI := hide hoki
          have hdl2 : dn.length ≤ 1000000 := Nat.le_trans hdl (Nat.le_trans (Nat.mul_le_mul hi hNl) (by omega))
          clear hoki
          by_cases hd : N[i] ∈ dn
          · have D := hide (decide_eq_true hd)
            have HS := hide (HP3.out.skip hlt2 hd)
            clear hd
            go_wp2_with (go_at_call 17; refine (in_calls H3.out (Reads.of_rows mem1) _).mono ?_; rintro x w1 ⟨rfl, rfl⟩; rw [D.out])
            go_roundw
            case rel => exact ⟨i + 1, by omega, by go_num, out, dn, HS.out, by omega, Nat.le_trans hdl (Nat.mul_le_mul_right _ (by omega)), ⟨_, _, _, rfl⟩, ⟨_, _, _, rfl⟩, H3.out⟩
            case measure => simp [intOf]; omega
          · have D := hide (decide_eq_false hd)
            have HPT := hide (HP3.out.part (eqv_refl _) (fun _ _ => eqv_symm) (fun _ _ _ => eqv_trans) hlt2 hd)
            obtain ⟨ni, hni⟩ : ∃ x, N[i] = x := ⟨_, rfl⟩
            rw [hni] at HOI D HPT hci
            have HNI := hide hni
            clear hd hni
            go_wp2_with (first
              | (go_at_call 17; refine (in_calls H3.out (Reads.of_rows mem1) _).mono ?_; rintro x w1 ⟨rfl, rfl⟩; rw [D.out])
              | (go_at_call 40; refine (rled_calls H3.out mem2 ni HOI.out (by omega)).mono ?_; rintro x w4 ⟨v4, tl, rfl, hiff, htl, h4⟩; obtain ⟨b11, c11, hv4, _⟩ := h4.sl_form mem0; subst hv4; have HIF := hide hiff; have H4 := hide (h4.b3.sl_nil strE); clear hiff h4 H3))
            go_loopw [8, 10, 12] (fun v8 v10 k wr => RP3 b L (eqv (edgesN S) ni) N dn (HP.rows 24 strE.in (.slice b7 n7 c7) out) (HP.sl pairE (.slice b5 n5 c5) S) (HP.sl strE (.slice b11 tl.length c11) tl) v8 v10 k wr) (fun _ _ k _ => N.length - (intOf k).toNat)
            case atStart => exact ⟨0, by omega, rfl, ⟨_, _, _, rfl⟩, ⟨_, _, _, rfl⟩, by simpa using H4.out⟩
            case round =>
              obtain ⟨k3, hk3, rfl, ⟨b8', n8', c8', rfl⟩, ⟨b10, n10, c10, rfl⟩, hs⟩ := hrel
              have H5 := hide hs
              clear hs H4
              by_cases hlt3 : k3 < N.length
              · obtain ⟨hck, hok⟩ := H5.out.sc_at (up5 HN.out) hlt3
                have hci := (H5.out.sc_at (up5 HN.out) hlt2).1
                rw [HNI.out] at hci
                have HFS := hide (filter_take_succ (eqv (edgesN S) ni) hlt3)
                have HIS := hide (HI.out.part (eqv (edgesN S) ni) hlt3)
                obtain ⟨nk, hnk⟩ : ∃ x, N[k3] = x := ⟨_, rfl⟩
                rw [hnk] at hck hok
                have HNK := hide hnk
                have HOK := hide hok
                rw [HNK.out] at HIS
                have hfl : ((N.take k3).filter (eqv (edgesN S) ni)).length ≤ N.length := Nat.le_trans (List.length_filter_le _ _) (by rw [List.length_take]; omega)
                have hlti' : (i : Int) < N.length := by omega
                have hltk' : (k3 : Int) < N.length := by omega
                clear hnk hok
                by_cases r1 : Rch (edgesN S) ni nk
                · have D1 := hide (decide_eq_true ((HIF.out nk).2 r1))
                  by_cases r2 : Rch (edgesN S) nk ni
                  · have HEQ := hide (eqv_iff.2 ⟨r1, r2⟩)
                    have R2 := hide r2
                    clear r1 r2
                    go_wp2_with fail
                    have H6 := hide H5.out.drew
                    have q1 := And.intro ((H6.out.sc_at (up5 HN.out) hlt3).1.trans (by rw [HNK.out])) ((H6.out.sc_at (up5 HN.out) hlt2).1.trans (by rw [HNI.out]))
                    go_region_held3 (fun w' => w'.cell? ⟨gn, on + k3, none⟩ = some (.string ⟨nk.toArray⟩) ∧ w'.cell? ⟨gn, on + i, none⟩ = some (.string ⟨ni.toArray⟩))
                      (first | exact q1 | exact q2)
                      (first
                        | (go_at_call 17; refine (in_calls H6.out (Reads.of_sl mem4) _).mono ?_; rintro x w6 ⟨rfl, rfl⟩; rw [D1.out])
                        | (go_at_call 40; refine (rled_calls H6.out mem3 nk HOK.out (by omega)).mono ?_; rintro x w7 ⟨v7, t7, rfl, hiff, ht7, h7⟩; have q2 := And.intro ((h7.sc_at (up6 HN.out) hlt3).1.trans (by rw [HNK.out])) ((h7.sc_at (up6 HN.out) hlt2).1.trans (by rw [HNI.out])); have D2 := hide (decide_eq_true ((hiff ni).2 R2.out)); have H7 := hide h7; clear hiff h7 H6 ht7)
                        | (go_at_call 17; refine (in_calls H7.out (Reads.of_sl mem0) _).mono ?_; rintro x w8 ⟨rfl, rfl⟩; rw [D2.out]))
                    have H8 := hide H7.out.drop
                    clear q1 q2 H7 D1 D2
                    have hck8 := (H8.out.sc_at (up5 HN.out) hlt3).1
                    rw [HNK.out] at hck8
                    go_wp2_with (first
                      | (go_at_call 27; refine (with_calls H8.out mem0 nk HOK.out (Nat.le_trans hfl (by omega))).mono ?_; rintro x w9 ⟨v9, rfl, h9⟩; rw [HIS.out] at h9; obtain ⟨b9, c9, hv9, _⟩ := h9.sl_form mem0; subst hv9; have hck9 := (h9.sc_at (up6 HN.out) hlt3).1; rw [HNK.out] at hck9; have H9 := hide h9.d1; clear h9 H8 hck8)
                      | (refine wpList_build1_st (E := strE) rfl (.tmp 95) slStr rfl nk rfl H9.out ?_ ?_; exact (fun _ _ _ => ⟨rfl, HOK.out⟩); intro g10 w10 h10; have H10 := hide h10.f3; clear h10 H9)
                      | (at_builtin; refine wpList_append_st rfl (.tmp 91) (.tmp 96) slStr rfl H10.out (Src.of_rows mem1) rfl rfl ?_ ?_ ?_; (simp only [List.length_append, List.length_cons, List.length_nil]; unfold maxLen; omega); (simp only [List.length_append, List.length_cons, List.length_nil]; omega); intro vb3 n3 vc3 w11 hn3 h11; have H11 := hide h11.d1.b2; clear h11 H10 hn3))
                    go_roundw
                    case rel => exact ⟨k3 + 1, by omega, by go_num, ⟨_, _, _, rfl⟩, ⟨_, _, _, rfl⟩, by rw [HFS.out, HNK.out, if_pos (by rw [HEQ.out])]; simpa using H11.out⟩
                    case measure => simp [intOf]; omega
                  · have HEQ : Hid (eqv (edgesN S) ni nk = false) := hide (by rw [← Bool.not_eq_true]; exact fun hh => r2 (eqv_iff.1 hh).2)
                    have R2 := hide r2
                    clear r1 r2
                    go_wp2_with fail
                    have H6 := hide H5.out.drew
                    have q1 := And.intro ((H6.out.sc_at (up5 HN.out) hlt3).1.trans (by rw [HNK.out])) ((H6.out.sc_at (up5 HN.out) hlt2).1.trans (by rw [HNI.out]))
                    go_region_held3 (fun w' => w'.cell? ⟨gn, on + k3, none⟩ = some (.string ⟨nk.toArray⟩) ∧ w'.cell? ⟨gn, on + i, none⟩ = some (.string ⟨ni.toArray⟩))
                      (first | exact q1 | exact q2)
                      (first
                        | (go_at_call 17; refine (in_calls H6.out (Reads.of_sl mem4) _).mono ?_; rintro x w6 ⟨rfl, rfl⟩; rw [D1.out])
                        | (go_at_call 40; refine (rled_calls H6.out mem3 nk HOK.out (by omega)).mono ?_; rintro x w7 ⟨v7, t7, rfl, hiff, ht7, h7⟩; have q2 := And.intro ((h7.sc_at (up6 HN.out) hlt3).1.trans (by rw [HNK.out])) ((h7.sc_at (up6 HN.out) hlt2).1.trans (by rw [HNI.out])); have D2 := hide (decide_eq_false (fun hh => R2.out ((hiff ni).1 hh))); have H7 := hide h7; clear hiff h7 H6 ht7)
                        | (go_at_call 17; refine (in_calls H7.out (Reads.of_sl mem0) _).mono ?_; rintro x w8 ⟨rfl, rfl⟩; rw [D2.out]))
                    have H8 := hide H7.out.drop
                    clear q1 q2 H7 D1 D2
                    go_wp2_with fail
                    go_roundw
                    case rel => exact ⟨k3 + 1, by omega, by go_num, ⟨_, _, _, rfl⟩, ⟨_, _, _, rfl⟩, by rw [HFS.out, HNK.out, if_neg (by rw [HEQ.out]; simp)]; simpa using H8.out⟩
                    case measure => simp [intOf]; omega
                · have D1 := hide (decide_eq_false (fun hh => r1 ((HIF.out nk).1 hh)))
                  have HEQ : Hid (eqv (edgesN S) ni nk = false) := hide (by rw [← Bool.not_eq_true]; exact fun hh => r1 (eqv_iff.1 hh).1)
                  clear r1
                  go_wp2_with fail
                  go_quiet ((go_at_call 17; refine (in_calls (H5.out.drewN _) (Reads.of_sl mem4) _).mono ?_; rintro x w' ⟨rfl, rfl⟩; exact ⟨by rw [D1.out], _, rfl⟩))
                  go_wp2_with fail
                  go_roundw
                  case rel => exact ⟨k3 + 1, by omega, by go_num, ⟨_, _, _, rfl⟩, ⟨_, _, _, rfl⟩, by rw [HFS.out, HNK.out, if_neg (by rw [HEQ.out]; simp)]; simpa using H5.out.drewN _⟩
                  case measure => simp [intOf]; omega
              · have h6 := H5.out
                rw [List.take_of_length_le (by omega)] at h6
                have H6 := hide h6
                have hfl : (N.filter (eqv (edgesN S) ni)).length ≤ N.length := List.length_filter_le _ _
                clear h6 H5
                go_wp2_with (first
                  | (refine wpList_build1_st (E := strE.in) rfl (.tmp 99) slStrs rfl (N.filter (eqv (edgesN S) ni)) rfl H6.out ?_ ?_; exact (fun _ _ hs => ⟨_, rfl, hs.sl_mem mem0⟩); intro g10 w10 h10; have H10 := hide h10.f2; clear h10 H6)
                  | (at_builtin; refine wpList_append_st rfl (.tmp 98) (.tmp 100) slStrs rfl H10.out (Src.of_rows mem1) rfl rfl ?_ ?_ ?_; (simp; unfold maxLen; omega); (simp; omega); intro vb3 n3 vc3 w11 hn3 h11; have H11 := hide h11.d1.d1.d3; clear h11 H10 hn3))
                go_roundw
                case rel => exact ⟨i + 1, by omega, by go_num, _, _, HPT.out, by simp; omega, by rw [List.length_append, Nat.add_mul, Nat.one_mul]; omega, ⟨_, _, _, rfl⟩, ⟨_, _, _, rfl⟩, H11.out⟩
                case measure => simp [intOf]; omega
        · have hie : i = N.length := by omega
          subst hie
          have HQ := hide HP3.out.done
          have HF := hide H3.out.persist.d1.d1
          clear H3
          go_wp2_with fail
          go_ret
          exact ⟨_, rfl, by rw [HSE.out, ← HQ.out]; exact HF.out⟩
end Go.Proofs.Ytmebmgbjpbapjaa
