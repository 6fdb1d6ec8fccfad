/-
  The law WalTorn: the walk.
-/
import Derived.Test.YthecdkbagjpboaaWz
namespace Go.Proofs.Ythecdkbagjpboaa
open Go.RowKit Go.Maps Go.MapKept
variable {b : Env} {L : List HP} {w : World} {gd : Nat} {d : Dk}
def TornAt (b : Env) (L : List HP) (gd gl N : Nat) (rs : List Byt) (want i : Value) (wr : World) : Prop :=
  ∃ (k : Nat) (d : Dk) (ops : Int) (W : List Byt) (bw : Option Addr) (cw nw : Nat), k ≤ rs.length ∧ i = .int .i64 k ∧ nw = W.length ∧ want = .slice bw nw cw ∧ W.length = k + 1 ∧
    Alive d N ops ∧ (0 ≤ ops ∧ ops ≤ 1000 + 1000 * k) ∧ LogI (tabR d N) (N / 2) ⟨1, 0, k + 1, k + 1, 1⟩ W ∧
    St b (HP.log gl gd ⟨1, 0, k + 1, k + 1, 1⟩ :: HP.disk gd d :: HP.rows 34 byteE.in (.slice bw nw cw) W :: L) wr
set_option linter.unusedSimpArgs false in
set_option maxRecDepth 100000 in
set_option maxHeartbeats 4000000 in
theorem walTorn_calls {vr vl : Value} {rs : List Byt} {la : Byt} (h : St b L w) (hr : HP.sl byteE.in vr rs ∈ L) (hl : HP.sl byteE vl la ∈ L) (lost s : Int) (hl1 : -9223372036854775808 ≤ lost) (hl2 : lost ≤ 9223372036854775807) (hs1 : -9223372036854775808 ≤ s) (hs2 : s ≤ 9223372036854775807) :
    Calls Try.prog 8 #[vr, vl, .int .i64 lost, .int .i64 s] w fun x w' => x = .returned (.bool true) ∧ St b L w' := by
  obtain ⟨br, cr, rfl, ur1, ur2⟩ := h.sl_form hr
  obtain ⟨bl, cl, rfl, ul1, ul2⟩ := h.sl_form hl
  obtain ⟨nr, hnr⟩ : ∃ n, rs.length = n := ⟨_, rfl⟩
  obtain ⟨nl, hnl⟩ : ∃ n, la.length = n := ⟨_, rfl⟩
  obtain ⟨m, hm⟩ : ∃ m : Nat, s % 4 = (m : Int) := ⟨(s % 4).toNat, by omega⟩
  have hm2 : (m : Int) ≤ 3 := by omega
  obtain ⟨N, hN⟩ : ∃ N : Nat, 8 + 2 * ((9 + (m : Int)) % 13).toNat = N := ⟨_, rfl⟩
  have hN8 : 26 ≤ N := by omega
  have hN2 : N ≤ 32 := by omega
  have hA := alive_fresh N (by omega)
  rw [hnr] at hr ⊢
  rw [hnl] at hl ⊢
  have hcr : (nr : Int) ≤ 9223372036854775807 := by unfold maxLen at ur2; omega
  have hcl : (nl : Int) ≤ 9223372036854775807 := by unfold maxLen at ul2; omega
  clear ur1 ur2 ul1 ul2
  have H := hide h
  have HR := hide hr
  have HL := hide hl
  have HNR := hide hnr
  have HNL := hide hnl
  have HM := hide hm
  have HN := hide hN
  have HA := hide hA
  clear h hr hl hnr hnl hm hN hA
  by_cases hbig : 5 < nr
  · have hbig' : (5 : Int) < nr := by omega
    go_enter Try.func8, Try.ntmps8
    go_wp2_with (first
      | (go_at_call 10; refine (known3_calls H.out).mono ?_; rintro x w1 ⟨rfl, h1⟩; have H1 := hide h1; clear h1 H))
    go_ret
    exact ⟨rfl, H1.out⟩
  · have hbig' : ¬ (5 : Int) < nr := by omega
    by_cases hbig2 : 250 < nl
    · have hbig2' : (250 : Int) < nl := by omega
      go_enter Try.func8, Try.ntmps8
      go_wp2_with (first
        | (go_at_call 10; refine (known3_calls H.out).mono ?_; rintro x w1 ⟨rfl, h1⟩; have H1 := hide h1; clear h1 H))
      go_ret
      exact ⟨rfl, H1.out⟩
    · have hbig2' : ¬ (250 : Int) < nl := by omega
      obtain ⟨P, hP⟩ : ∃ P, partsOf la.length = P := ⟨_, rfl⟩
      have hPP : ((nl : Int) + 4 + 51) / 52 = (P : Nat) := by rw [← hP, HNL.out]; unfold partsOf; omega
      have hP5 : P ≤ 5 := by omega
      have hP1 : 1 ≤ P := by rw [← hP]; exact partsOf_pos _
      have hP5I : (P : Int) ≤ 5 := by omega
      have hP1I : (1 : Int) ≤ P := by omega
      obtain ⟨jj, hjj⟩ : ∃ jj : Nat, lost % (P : Int) = (jj : Int) := ⟨(lost % (P : Int)).toNat, by have := Int.emod_nonneg lost (show (P : Int) ≠ 0 by omega); omega⟩
      have hjl : jj < P := by have := Int.emod_lt_of_pos lost (show (0 : Int) < P by omega); omega
      have hjI : (jj : Int) ≤ 5 := by omega
      obtain ⟨d1, e1, e2, e3⟩ := fresh_alive (l := ⟨0, 0, 0, 0, 0⟩) (t := []) HA.out (by omega) (by omega) (by rw [tab_fresh0]; intro i p hp; cases hp) (by decide) (by decide) (show partsOf 0 ≤ N / 2 by rw [show partsOf 0 = 1 from by decide]; omega)
      have hp00 : partsOf ([] : Byt).length = 1 := by decide
      simp only [Nat.lt_irrefl, if_false, hp00] at e1 e2 e3
      have HPP := hide hPP
      have HPL := hide hP
      have HJJ := hide hjj
      have E1 := hide e1
      have E2 := hide e2
      have E3 := hide e3
      clear e1 e2 e3 hp00 hPP hP hjj
      go_enter Try.func8, Try.ntmps8
      go_wp2_with (first
        | (go_at_call 10; refine (known3_calls H.out).mono ?_; rintro x w1 ⟨rfl, h1⟩; have H1 := hide h1; clear h1 H)
        | (go_at_call 13; have hm9 := HM.out; refine (within3_calls s 4 (by omega) (by omega) (by omega) (by omega)).mono ?_; rintro x w5 ⟨rfl, hw5⟩; subst hw5; rw [hm9]; clear hm9 HM)
        | (go_at_call 11; refine (both_calls H1.out (9 + (m : Int)) (by omega) (by omega)).mono ?_; rintro x w2 ⟨gd, gx, rfl, h2⟩; rw [HN.out] at h2; have H2 := hide h2.drop; clear h2 H1)
        | (go_at_call 12; refine (wopen_calls H2.out HA.out).mono ?_; rintro x w3 ⟨gl, b0, c0, rfl, h3⟩; rw [open_fresh0] at h3; rw [open_fresh0]; have H3 := hide h3.d2; clear h3 H2)
        | (go_at_call 14; have H3a := hide (H3.out.sl_nil byteE).b2; refine (fresh_calls (l := ⟨0, 0, 0, 0, 0⟩) (t := []) H3a.out mem0 HA.out.good (show (Dk.fresh0 N).ops ≤ 100000000 from (by decide : (0 : Int) ≤ 100000000)) (by decide) (by decide) (by decide)).mono ?_; rintro x w7 ⟨rfl, h7⟩; rw [E1.out] at h7; rw [E1.out]; have H7 := hide h7; clear h7 H3 H3a)
        | (refine wpList_build1_st (E := byteE.in) rfl (.const (.slice none 0 0)) slBytes rfl [] rfl H7.out ?_ ?_; exact (fun _ _ hs => ⟨_, rfl, hs.sl_mem mem2⟩); intro g8 w8 h8; have H8 := hide (show St b (HP.log gl gd ⟨1, 0, 1, 1, 1⟩ :: HP.disk gd d1 :: HP.rows 34 byteE.in (.slice (some ⟨g8, 0, none⟩) 1 1) [[]] :: L) w8 from h8.pick [1, 2, 0] 4 (by decide) (by decide) (by simp)); clear h8 H7))
      go_loopw [14, 15] (fun want i wr => TornAt b L gd gl N rs want i wr) (fun _ i _ => nr - (intOf i).toNat)
      case atStart => exact ⟨0, d1, 2, [[]], some ⟨g8, 0, none⟩, 1, 1, by omega, rfl, rfl, rfl, rfl, E2.out, by omega, E3.out, H8.out⟩
      case round =>
        obtain ⟨k, d, ops, W, bw, cw, nw, hk, rfl, hnw, rfl, hwl, ha, ho, hI, hs⟩ := hrel
        have HWL := hide hwl
        have HO := hide ho
        rw [HNR.out] at hk
        have hg1 := ha.good
        have hop1 : d.ops ≤ 100000000 := by rw [ha.ops]; omega
        have hln1 : k + 1 ≤ d.last.length / 2 := by rw [ha.len]; omega
        clear H8 E1 E2 E3 HN HA
        by_cases hlt : k < nr
        · have hlt' : (k : Int) < nr := by omega
          have hkA : k < rs.length := by rw [HNR.out]; exact hlt
          obtain ⟨gr, or, rfl⟩ := hs.sl_base (up3 HR.out) (by omega) Nat.one_pos
          obtain ⟨hml, p, q, p2, q2, hc, hsl, h2⟩ := row_cut hs (up3 HR.out) hkA 40
          obtain ⟨t, ht⟩ : ∃ t, rs[k].take 40 = t := ⟨_, rfl⟩
          obtain ⟨n1, hn1⟩ : ∃ n, rs[k].length = n := ⟨_, rfl⟩
          have htl : t.length ≤ 40 := by rw [← ht, List.length_take]; omega
          have hn1m : (n1 : Int) ≤ 9223372036854775807 := by unfold maxLen at hml; omega
          clear hml
          rw [ht, hn1] at hsl
          rw [hn1] at hc
          rw [ht] at h2
          have hp2 : partsOf t.length = 1 := by unfold partsOf; omega
          obtain ⟨f1, -⟩ := append_alive (t := t) ha (by omega) (by omega) hI (show 1 ≤ 4294967295 by decide) (show k + 1 ≤ 65535 by omega) (by omega)
          have H3 := hide (show St b (HP.log gl gd ⟨1, 0, k + 1, k + 1, 1⟩ :: HP.disk gd d :: HP.sl byteE (.slice p2 t.length q2) t :: HP.rows 34 byteE.in (.slice bw nw cw) W :: L) wr from h2.pick [1, 2, 0, 3] 4 (by decide) (by decide) (by simp))
          have HC := hide hc
          have HSL := hide hsl
          have HG := hide (And.intro hg1 (And.intro hop1 (And.intro (show partsOf t.length ≤ 255 by omega) (And.intro (show k + 1 ≤ 65535 by omega) hln1))))
          have Q1 := hide (show W.length + ([t] : List Byt).length ≤ maxLen ∧ (W.length + ([t] : List Byt).length) * 24 ≤ 140737488355328 from ⟨by simp only [List.length_cons, List.length_nil]; unfold maxLen; omega, by simp only [List.length_cons, List.length_nil]; omega⟩)
          obtain ⟨d', a1, a2, a3⟩ := f1 (show k + 1 + partsOf t.length ≤ N / 2 by omega)
          rw [hp2] at a1 a2 a3
          have A1 := hide a1
          have A2 := hide (show Alive d' N (ops + 2) by rw [show ops + 2 = ops + ((1 : Nat) : Int) + 1 from by omega]; exact a2)
          have A3 := hide a3
          clear hs h2 hc hsl ha hI hg1 hop1 hln1 ht hn1 hnw hwl ho hkA f1 a1 a2 a3 hp2
          go_wp2_with fail
          refine wp_region_held_drew (S := fun w' => w'.cell? ⟨gr, or + k, none⟩ = some (.slice p n1 q)) (by kernel_rfl) ?_ (fun hHeld => ?_)
          · exact HC.out
          refine wpAnyH_takeD (i := 0) (some 69) (v := ?v0_1) rfl rfl (by kernel_rfl) (by kernel_rfl) (by kernel_rfl) (fun _ _ _ h => h) (by rfl) ?y0_1 (by assumption) ?r0_1
          case y0_1 => (intro w hSw; (try dsimp only at hSw); first | (go_simp; done) | (go_simp; with_reducible rfl))
          try simp only [Act.put, List.setIfInBounds_toArray, List.set_cons_zero, List.set_cons_succ]
          refine wpAnyH_takeD (i := 1) (some 70) (v := ?v1_2) rfl rfl (by kernel_rfl) (by kernel_rfl) (by kernel_rfl) (fun _ _ _ h => h) (by rfl) ?y1_2 (by assumption) ?r1_2
          case y1_2 => (intro w hSw; (try dsimp only at hSw); first | (go_simp; done) | (go_simp; with_reducible rfl))
          try simp only [Act.put, List.setIfInBounds_toArray, List.set_cons_zero, List.set_cons_succ]
          refine wpAnyH_takeD (i := 2) (some 71) (v := ?v2_3) rfl rfl (by kernel_rfl) (by kernel_rfl) (by kernel_rfl) (fun _ _ _ h => h) (by rfl) ?y2_3 (by assumption) ?r2_3
          case y2_3 => (intro w hSw; (try dsimp only at hSw); first | (go_simp; done) | (go_simp; with_reducible rfl))
          try simp only [Act.put, List.setIfInBounds_toArray, List.set_cons_zero, List.set_cons_succ]
          refine wpAnyH_takeD (i := 3) (some 72) (v := ?v3_4) rfl rfl (by kernel_rfl) (by kernel_rfl) (by kernel_rfl) (fun _ _ _ h => h) (by rfl) ?y3_4 (by assumption) ?r3_4
          case y3_4 => (intro w hSw; (try dsimp only at hSw); first | (go_simp; done) | (go_simp; with_reducible rfl))
          try simp only [Act.put, List.setIfInBounds_toArray, List.set_cons_zero, List.set_cons_succ]
          refine wpAnyH_takeD (i := 4) (some 73) (v := ?v4_5) rfl rfl (by kernel_rfl) (by kernel_rfl) (by kernel_rfl) (fun _ _ _ h => h) (by rfl) ?y4_5 (by assumption) ?r4_5
          case y4_5 => (intro w hSw; (try dsimp only at hSw); first | (go_simp; done) | (go_simp; with_reducible rfl))
          try simp only [Act.put, List.setIfInBounds_toArray, List.set_cons_zero, List.set_cons_succ]
          refine wpAnyH_takeD (i := 5) (some 74) (v := ?v5_6) rfl rfl (by kernel_rfl) (by kernel_rfl) (by kernel_rfl) (fun _ _ _ h => h) (by rfl) ?y5_6 (by assumption) ?r5_6
          case y5_6 => (intro w hSw; (try dsimp only at hSw); first | (go_simp; done) | (go_simp; with_reducible rfl))
          try simp only [Act.put, List.setIfInBounds_toArray, List.set_cons_zero, List.set_cons_succ]
          refine wpAnyH_takeD (i := 6) (some 75) (v := ?v6_7) rfl rfl (by kernel_rfl) (by kernel_rfl) (by kernel_rfl) (fun _ _ _ h => h) (by rfl) ?y6_7 (by assumption) ?r6_7
          case y6_7 => (intro w hSw; (try dsimp only at hSw); first | (go_simp; done) | (go_simp; with_reducible rfl))
          try simp only [Act.put, List.setIfInBounds_toArray, List.set_cons_zero, List.set_cons_succ]
          refine wpAnyH_takeD (i := 7) (some 76) (v := ?v7_8) rfl rfl (by kernel_rfl) (by kernel_rfl) (by kernel_rfl) (fun _ _ _ h => h) (by rfl) ?y7_8 (by assumption) ?r7_8
          case y7_8 => (intro w hSw; (try dsimp only at hSw); first | (go_simp; done) | (go_simp; with_reducible rfl))
          try simp only [Act.put, List.setIfInBounds_toArray, List.set_cons_zero, List.set_cons_succ]
          refine wpAnyH_takeD (i := 8) (some 77) (v := ?v8_9) rfl rfl (by kernel_rfl) (by kernel_rfl) (by kernel_rfl) (fun _ _ _ h => h) (by rfl) ?y8_9 (by assumption) ?r8_9
          case y8_9 => (intro w hSw; (try dsimp only at hSw); first | (go_simp; done) | (go_simp; with_reducible rfl))
          try simp only [Act.put, List.setIfInBounds_toArray, List.set_cons_zero, List.set_cons_succ]
          refine wpAnyH_takeD (i := 9) (some 78) (v := ?v9_10) rfl rfl (by kernel_rfl) (by kernel_rfl) (by kernel_rfl) (fun _ _ _ h => h) (by rfl) ?y9_10 (by assumption) ?r9_10
          case y9_10 => (intro w hSw; (try dsimp only at hSw); first | (go_simp; done) | (go_simp; with_reducible rfl))
          try simp only [Act.put, List.setIfInBounds_toArray, List.set_cons_zero, List.set_cons_succ]
          refine wpAnyH_takeD (i := 10) (some 79) (v := .slice p2 t.length q2) rfl rfl (by kernel_rfl) (by kernel_rfl) (by kernel_rfl) (fun _ _ _ h => h) (by rfl) ?y10_11 (by assumption) ?r10_11
          case y10_11 => (intro w hSw; exact run_slice_op rfl rfl rfl (HSL.out w))
          try simp only [Act.put, List.setIfInBounds_toArray, List.set_cons_zero, List.set_cons_succ]
          refine wpAnyH_takeD (i := 11) (some 16) (v := ?v11_12) rfl rfl (by kernel_rfl) (by kernel_rfl) (by kernel_rfl) (fun _ _ _ h => h) (by rfl) ?y11_12 (by assumption) ?r11_12
          case y11_12 => (intro w hSw; (try dsimp only at hSw); first | (go_simp; done) | (go_simp; with_reducible rfl))
          try simp only [Act.put, List.setIfInBounds_toArray, List.set_cons_zero, List.set_cons_succ]
          refine wpAnyH_done (by kernel_rfl) ?_ _
          have H3d := hide H3.out.drew
          clear hHeld H3
          go_wp2_with (first
            | (go_at_call 17; refine (append_calls (l := ⟨1, 0, k + 1, k + 1, 1⟩) (t := t) H3d.out mem0 HG.out.1 HG.out.2.1 HG.out.2.2.1 (show 1 ≤ 4294967295 by decide) (show 0 ≤ 1 by decide) HG.out.2.2.2.1 HG.out.2.2.2.2).mono ?_; rintro x w7 ⟨rfl, h7⟩; rw [A1.out] at h7; rw [A1.out]; have H7 := hide h7; clear h7 H3d)
            | (refine wpList_build1_st (E := byteE.in) rfl (.tmp 93) slBytes rfl t rfl H7.out ?_ ?_; exact (fun _ _ hs => ⟨_, rfl, hs.sl_mem mem2⟩); intro g8 w8 h8; have H8 := hide h8.f4; clear h8 H7)
            | (at_builtin; refine wpList_append_st (E := byteE.in) rfl (.tmp 92) (.tmp 94) slBytes rfl H8.out (Src.of_rows mem1) rfl rfl Q1.out.1 Q1.out.2 ?_; intro b9 n9 c9 w9 hn9 h9; have H9 := hide (h9.pick [2, 3, 0] 5 (by decide) (by decide) (by simp)); have HN9 := hide hn9; clear h9 H8 hn9))
          go_roundw
          case rel => exact ⟨k + 1, d', ops + 2, W ++ [t], b9, c9, n9, by rw [HNR.out]; omega, by go_num, by rw [HN9.out, List.length_append], rfl, by rw [List.length_append, HWL.out]; rfl, A2.out, by have := HO.out; omega, A3.out, H9.out⟩
          case measure => exact meas_step hlt
        · have hke : k = nr := by omega
          subst hke
          have hnw3 : W.length ≤ 1000 := by omega
          have HW3 := hide hnw3
          subst hnw
          have hppl : partsOf la.length ≤ 255 := by rw [HPL.out]; omega
          obtain ⟨f1, -⟩ := append_alive (t := la) ha (by omega) (by omega) hI (show 1 ≤ 4294967295 by decide) (show k + 1 ≤ 65535 by omega) hppl
          obtain ⟨d', a1, a2, a3⟩ := f1 (show k + 1 + partsOf la.length ≤ N / 2 by rw [HPL.out]; omega)
          obtain ⟨t1, t2, t3, t4, l9, t5⟩ := torn_open (d1 := d') ha (by omega) (by omega) hI (show 1 ≤ 4294967295 by decide) (show k + 1 ≤ 65535 by omega) hppl (show k + 1 + partsOf la.length ≤ N / 2 by rw [HPL.out]; omega) (by rw [a1]) a2 (by have := HPL.out; omega) jj (by rw [HPL.out]; exact hjl) ((k : Int) + 1 + jj) (by show _ = ((0 * (N / 2) : Nat) : Int) + ((k + 1 : Nat) : Int) + (jj : Nat); omega)
          have HLEN := hide a2.len
          have HGD := hide (And.intro a2.good t3.good)
          have T1 := hide t1
          have T2 := hide t2
          have T4 := hide t4
          have OL := hide t5
          have A1 := hide a1
          have HG := hide (And.intro hg1 (And.intro hop1 (And.intro hppl (And.intro (show k + 1 ≤ 65535 by omega) hln1))))
          have H4 := hide hs
          clear hs ha hI hg1 hop1 hln1 hwl ho hnw3 f1 a1 a2 a3 t1 t2 t3 t4 t5 hppl
          go_wp2_with (first
            | (go_at_call 15; refine (state_calls H4.out).mono ?_; rintro x w8 ⟨rfl, h8⟩; have H5 := hide h8; clear h8 H4)
            | (go_at_call 17; refine (append_calls (l := ⟨1, 0, k + 1, k + 1, 1⟩) (t := la) H5.out (up1 HL.out) HG.out.1 HG.out.2.1 HG.out.2.2.1 (show 1 ≤ 4294967295 by decide) (show 0 ≤ 1 by decide) HG.out.2.2.2.1 HG.out.2.2.2.2).mono ?_; rintro x w7 ⟨rfl, h7⟩; rw [A1.out] at h7; rw [A1.out]; have H6 := hide h7.drop; clear h7 H5)
            | (go_at_call 29; refine (dsize_calls H6.out).mono ?_; rintro x w9 ⟨rfl, hw9⟩; subst hw9; rw [HLEN.out])
            | (go_at_call 13; have hj9 := HJJ.out; rw [HPP.out]; refine (within3_calls lost (P : Int) (by omega) (by omega) hl1 hl2).mono ?_; rintro x w5 ⟨rfl, hw5⟩; subst hw5; rw [hj9]; clear hj9)
            | (refine wpList_make_st (E := byteE) (T := 5) rfl (.const (.int .i64 64)) (.const (.int .i64 64)) slByte rfl rfl 64 rfl rfl rfl rfl (0 : UInt8) (fun _ => ⟨rfl, trivial⟩) H6.out (by decide) (by unfold maxLen; decide) ?_; intro g4 w4 h4; have H7 := hide h4.persist.f1; clear h4 H6)
            | (go_at_call 30; refine (dwrite_calls (l := zs) H7.out HGD.out.1 _ mem0).mono ?_; rintro x w4 ⟨rfl, h4⟩; rw [T1.out]; have H8 := hide h4; clear h4 H7)
            | (go_at_call 31; refine (dflush_calls H8.out HGD.out.2).mono ?_; rintro x w4 ⟨rfl, h4⟩; rw [T2.out]; have H9 := hide h4; clear h4 H8)
            | (go_at_call 12; refine (wopen_calls H9.out T4.out).mono ?_; rintro x w3 ⟨gl2, b0, c0, rfl, h3⟩; rw [OL.out] at h3; rw [OL.out]; have H10 := hide (h3.f2.persist.f4.persist); clear h3 H9)
            | (go_at_call 18; refine (rows3_calls H10.out mem1 mem0 HW3.out HW3.out).mono ?_; rintro x w4 ⟨rfl, h4⟩; rw [decide_eq_true rfl]; have H11 := hide h4; clear h4 H10))
          go_ret
          exact ⟨rfl, H11.out.drop.drop.drop.drop.drop⟩
end Go.Proofs.Ythecdkbagjpboaa
