/-
  The law WalCrash: the walk.
-/
import Derived.Test.YthecdkbagjpboaaWzb
namespace Go.Proofs.Ythecdkbagjpboaa
open Go.RowKit Go.Maps Go.MapKept
variable {b : Env} {L : List HP} {w : World} {gd : Nat} {d : Dk}
def CrashAt (b : Env) (L : List HP) (gd gl N : Nat) (rs : List Byt) (want i : Value) (wr : World) : Prop :=
  ∃ (k : Nat) (l : LogR) (d : Dk) (ops : Int) (W : List Byt) (bw : Option Addr) (cw nw : Nat), k ≤ rs.length ∧ i = .int .i64 k ∧ nw = W.length ∧ want = .slice bw nw cw ∧ W.length ≤ k + 1 ∧
    Alive d N ops ∧ (0 ≤ ops ∧ ops ≤ 1000 + 1000 * k) ∧ LogI (tabR d N) (N / 2) l W ∧ l.gen ≤ 100 ∧ d.fresh = [] ∧
    St b (HP.log gl gd l :: HP.disk gd d :: HP.rows 34 byteE.in (.slice bw nw cw) W :: L) wr
set_option linter.unusedSimpArgs false in
set_option maxRecDepth 100000 in
set_option maxHeartbeats 40000000 in
theorem walCrash_calls {vr vl vp : Value} {rs : List Byt} {la pk : Byt} (h : St b L w) (s : Int) (hr : HP.sl byteE.in vr rs ∈ L) (hl : HP.sl byteE vl la ∈ L) (fu : Int) (hp : HP.sl byteE vp pk ∈ L) (fr : Bool) (hs1 : -9223372036854775808 ≤ s) (hs2 : s ≤ 9223372036854775807) (hf1 : -9223372036854775808 ≤ fu) (hf2 : fu ≤ 9223372036854775807) :
    Calls Try.prog 9 #[.int .i64 s, vr, vl, .int .i64 fu, vp, .bool fr] w fun x w' => x = .returned (.bool true) ∧ St b L w' := by
  obtain ⟨br, cr, rfl, ur1, ur2⟩ := h.sl_form hr
  obtain ⟨bl, cl, rfl, ul1, ul2⟩ := h.sl_form hl
  obtain ⟨bp, cp, rfl, -⟩ := h.sl_form hp
  obtain ⟨nr, hnr⟩ : ∃ n, rs.length = n := ⟨_, rfl⟩
  obtain ⟨nl, hnl⟩ : ∃ n, la.length = n := ⟨_, rfl⟩
  obtain ⟨np, hnp⟩ : ∃ n, pk.length = n := ⟨_, rfl⟩
  obtain ⟨m, hm⟩ : ∃ m : Nat, s % 8 = (m : Int) := ⟨(s % 8).toNat, by omega⟩
  obtain ⟨f, hf⟩ : ∃ m : Nat, fu % 8 = (m : Int) := ⟨(fu % 8).toNat, by omega⟩
  have hm2 : (m : Int) ≤ 7 := by omega
  have hff : (f : Int) ≤ 7 := by omega
  obtain ⟨N, hN⟩ : ∃ N : Nat, 8 + 2 * ((2 + (m : Int)) % 13).toNat = N := ⟨_, rfl⟩
  have hN8 : 12 ≤ N := by omega
  have hN2 : N ≤ 32 := by omega
  have hA := alive_fresh N (by omega)
  rw [hnr] at hr ⊢
  rw [hnl] at hl ⊢
  rw [hnp] at hp ⊢
  have hcr : (nr : Int) ≤ 9223372036854775807 := by unfold maxLen at ur2; omega
  have hcl : (nl : Int) ≤ 9223372036854775807 := by unfold maxLen at ul2; omega
  clear ur1 ur2 ul1 ul2
  have H := hide h
  have HR := hide hr
  have HL := hide hl
  have HPK := hide hp
  have HNR := hide hnr
  have HNL := hide hnl
  have HM := hide hm
  have HF := hide hf
  have HN := hide hN
  have HA := hide hA
  clear h hr hl hp hnr hnl hnp hm hf hN hA
  by_cases hbig : 10 < nr
  · have hbig' : (10 : Int) < nr := by omega
    go_enter Try.func9, Try.ntmps9
    go_wp2_with (first
      | (go_at_call 10; refine (known3_calls H.out).mono ?_; rintro x w1 ⟨rfl, h1⟩; have H1 := hide h1; clear h1 H))
    go_ret
    exact ⟨rfl, H1.out⟩
  · have hbig' : ¬ (10 : Int) < nr := by omega
    by_cases hbig2 : 200 < nl
    · have hbig2' : (200 : Int) < nl := by omega
      go_enter Try.func9, Try.ntmps9
      go_wp2_with (first
        | (go_at_call 10; refine (known3_calls H.out).mono ?_; rintro x w1 ⟨rfl, h1⟩; have H1 := hide h1; clear h1 H))
      go_ret
      exact ⟨rfl, H1.out⟩
    · have hbig2' : ¬ (200 : Int) < nl := by omega
      have hPL : partsOf la.length ≤ 4 := by rw [HNL.out]; unfold partsOf; omega
      have HPL := hide hPL
      obtain ⟨d1, e1, e2, e3⟩ := fresh_alive (l := ⟨0, 0, 0, 0, 0⟩) (t := [98, 101, 103, 105, 110]) HA.out (by omega) (by omega) (by rw [tab_fresh0]; intro i p hp; cases hp) (by decide) (by decide) (show partsOf 5 ≤ N / 2 by rw [show partsOf 5 = 1 from by decide]; omega)
      have hp00 : partsOf ([98, 101, 103, 105, 110] : Byt).length = 1 := by decide
      have e4 := fresh_fresh0 (l := ⟨0, 0, 0, 0, 0⟩) (t := [98, 101, 103, 105, 110]) HA.out (by omega) (by omega) rfl (by decide) (by decide) (by decide)
      simp only [Nat.lt_irrefl, if_false, hp00] at e1 e2 e3
      rw [e1] at e4
      have E1 := hide e1
      have E2 := hide e2
      have E3 := hide e3
      have E4 := hide e4
      clear e1 e2 e3 e4 hp00 hPL
      have kc := fun (w : World) (C : Array Value) (n c : Nat) => Lib.run_convert_bytes_const (P := Try.prog) w 34 5 C n c Try.underlying34 Try.underlying5
      go_enter Try.func9, Try.ntmps9
      go_wp2_with (first
        | (go_at_call 10; refine (known3_calls H.out).mono ?_; rintro x w1 ⟨rfl, h1⟩; have H1 := hide h1; clear h1 H)
        | (go_at_call 13; have hm9 := HM.out; refine (within3_calls s 8 (by omega) (by omega) (by omega) (by omega)).mono ?_; rintro x w5 ⟨rfl, hw5⟩; subst hw5; rw [hm9]; clear hm9 HM)
        | (go_at_call 11; refine (both_calls H1.out (2 + (m : Int)) (by omega) (by omega)).mono ?_; rintro x w2 ⟨gd, gx, rfl, h2⟩; rw [HN.out] at h2; have H2 := hide h2.drop; clear h2 H1)
        | (go_at_call 12; refine (wopen_calls H2.out HA.out).mono ?_; rintro x w3 ⟨gl, b0, c0, rfl, h3⟩; rw [open_fresh0] at h3; rw [open_fresh0]; have H3 := hide h3.d2; clear h3 H2)
        | (go_at_call 14; have H3a := hide (show St b (HP.log gl gd ⟨0, 0, 0, 0, 0⟩ :: HP.disk gd (Dk.fresh0 N) :: HP.sl byteE (.slice (some ⟨_, 0, none⟩) 5 5) [98, 101, 103, 105, 110] :: L) _ from (H3.out.lit (T := 5) (fz := (5, 6)) [98, 101, 103, 105, 110] (by decide)).b2); clear H3; refine (fresh_calls (l := ⟨0, 0, 0, 0, 0⟩) (t := [98, 101, 103, 105, 110]) H3a.out mem0 HA.out.good (show (Dk.fresh0 N).ops ≤ 100000000 from (by decide : (0 : Int) ≤ 100000000)) (by decide) (by decide) (by decide)).mono ?_; rintro x w7 ⟨rfl, h7⟩; rw [E1.out] at h7; rw [E1.out]; have H7 := hide h7; clear h7 H3a)
        | (have H7a := hide (H7.out.lit (T := 5) (fz := (5, 6)) [98, 101, 103, 105, 110] (by decide)); refine wpList_build1_st (E := byteE.in) rfl (.tmp 65) slBytes rfl [98, 101, 103, 105, 110] rfl H7a.out ?_ ?_; exact (fun _ _ hs => ⟨_, rfl, hs.sl_mem mem0⟩); intro g8 w8 h8; have H8 := hide (show St b (HP.log gl gd ⟨1, 0, 1, 1, 1⟩ :: HP.disk gd d1 :: HP.rows 34 byteE.in (.slice (some ⟨g8, 0, none⟩) 1 1) [[98, 101, 103, 105, 110]] :: L) w8 from h8.pick [2, 3, 0] 5 (by decide) (by decide) (by simp)); clear h8 H7 H7a))
      go_loopw [18, 19] (fun want i wr => CrashAt b L gd gl N rs want i wr) (fun _ i _ => nr - (intOf i).toNat)
      case atStart => exact ⟨0, _, d1, 2, [[98, 101, 103, 105, 110]], some ⟨g8, 0, none⟩, 1, 1, by omega, rfl, rfl, rfl, Nat.le_refl 1, E2.out, by omega, E3.out, (show 1 ≤ 100 by decide), E4.out, H8.out⟩
      case round =>
        obtain ⟨k, l, d, ops, W, bw, cw, nw, hk, rfl, hnw, rfl, hwl, ha, ho, hI, hge, hfe, hs⟩ := hrel
        have HNW2 := hide hnw
        have HWL := hide hwl
        have HA2 := hide ha
        have HO := hide ho
        have HI := hide hI
        have HGE := hide hge
        have HFE := hide hfe
        rw [HNR.out] at hk
        have hmo1 := hI.mo
        have hhf1 := hI.hf
        have hrc1 := hI.rc
        have hft1 := hI.fit
        have hg1 := ha.good
        have hop1 : d.ops ≤ 100000000 := by rw [ha.ops]; omega
        have hln1 : l.next ≤ d.last.length / 2 := by rw [ha.len]; exact hft1
        clear H8 E1 E2 E3 E4 HN HA
        by_cases hlt : k < nr
        · have hlt' : (k : Int) < nr := by omega
          have hkA : k < rs.length := by rw [HNR.out]; exact hlt
          obtain ⟨gr, or, rfl⟩ := hs.sl_base (up3 HR.out) (by omega) Nat.one_pos
          obtain ⟨hml, p, q, p2, q2, hc, hsl, h2⟩ := row_cut hs (up3 HR.out) hkA 150
          obtain ⟨t, ht⟩ : ∃ t, rs[k].take 150 = t := ⟨_, rfl⟩
          obtain ⟨n1, hn1⟩ : ∃ n, rs[k].length = n := ⟨_, rfl⟩
          have htl : t.length ≤ 150 := by rw [← ht, List.length_take]; omega
          have hn1m : (n1 : Int) ≤ 9223372036854775807 := by unfold maxLen at hml; omega
          clear hml
          rw [ht, hn1] at hsl
          rw [hn1] at hc
          rw [ht] at h2
          have hp2 : partsOf t.length ≤ 4 := by unfold partsOf; omega
          obtain ⟨f1, f2⟩ := append_alive (t := t) ha (by omega) (by omega) hI (by omega) (by omega) (by omega)
          have f3 := append_fresh0 (t := t) ha (by omega) (by omega) hfe hI (by omega) (by omega) (by omega)
          have H3 := hide (show St b (HP.log gl gd l :: HP.disk gd d :: HP.sl byteE (.slice p2 t.length q2) t :: HP.rows 34 byteE.in (.slice bw nw cw) W :: L) wr from h2.pick [1, 2, 0, 3] 4 (by decide) (by decide) (by simp))
          have HC := hide hc
          have HSL := hide hsl
          have HG := hide (And.intro hg1 (And.intro hop1 (And.intro (show partsOf t.length ≤ 255 by omega) (And.intro (show l.gen ≤ 4294967295 by omega) (And.intro hhf1 (And.intro (show l.rc ≤ 65535 by omega) hln1))))))
          have Q1 := hide (show W.length + ([t] : List Byt).length ≤ maxLen ∧ (W.length + ([t] : List Byt).length) * 24 ≤ 140737488355328 from ⟨by simp only [List.length_cons, List.length_nil]; unfold maxLen; omega, by simp only [List.length_cons, List.length_nil]; omega⟩)
          clear hs h2 hc hsl ha hI hge hfe hmo1 hhf1 hrc1 hft1 hg1 hop1 hln1 ht hn1 hnw hwl ho hkA
          by_cases hfit : l.next + partsOf t.length ≤ N / 2
          · obtain ⟨d', a1, a2, a3⟩ := f1 hfit
            rw [a1] at f3
            have A1 := hide a1
            have A2 := hide a2
            have A3 := hide a3
            have A4 := hide f3
            clear f1 f2 f3 a1 a2 a3 hfit
            go_wp2_with fail
            refine wp_region_held_drew (S := fun w' => w'.cell? ⟨gr, or + k, none⟩ = some (.slice p n1 q)) (by kernel_rfl) ?_ (fun hHeld => ?_)
            · exact HC.out
            refine wpAnyH_takeD (i := 0) (some 73) (v := ?v0_1) rfl rfl (by kernel_rfl) (by kernel_rfl) (by kernel_rfl) (fun _ _ _ h => h) (by rfl) ?y0_1 (by assumption) ?r0_1
            case y0_1 => (intro w hSw; (try dsimp only at hSw); first | (go_simp; done) | (go_simp; with_reducible rfl))
            try simp only [Act.put, List.setIfInBounds_toArray, List.set_cons_zero, List.set_cons_succ]
            refine wpAnyH_takeD (i := 1) (some 74) (v := ?v1_2) rfl rfl (by kernel_rfl) (by kernel_rfl) (by kernel_rfl) (fun _ _ _ h => h) (by rfl) ?y1_2 (by assumption) ?r1_2
            case y1_2 => (intro w hSw; (try dsimp only at hSw); first | (go_simp; done) | (go_simp; with_reducible rfl))
            try simp only [Act.put, List.setIfInBounds_toArray, List.set_cons_zero, List.set_cons_succ]
            refine wpAnyH_takeD (i := 2) (some 75) (v := ?v2_3) rfl rfl (by kernel_rfl) (by kernel_rfl) (by kernel_rfl) (fun _ _ _ h => h) (by rfl) ?y2_3 (by assumption) ?r2_3
            case y2_3 => (intro w hSw; (try dsimp only at hSw); first | (go_simp; done) | (go_simp; with_reducible rfl))
            try simp only [Act.put, List.setIfInBounds_toArray, List.set_cons_zero, List.set_cons_succ]
            refine wpAnyH_takeD (i := 3) (some 76) (v := ?v3_4) rfl rfl (by kernel_rfl) (by kernel_rfl) (by kernel_rfl) (fun _ _ _ h => h) (by rfl) ?y3_4 (by assumption) ?r3_4
            case y3_4 => (intro w hSw; (try dsimp only at hSw); first | (go_simp; done) | (go_simp; with_reducible rfl))
            try simp only [Act.put, List.setIfInBounds_toArray, List.set_cons_zero, List.set_cons_succ]
            refine wpAnyH_takeD (i := 4) (some 77) (v := ?v4_5) rfl rfl (by kernel_rfl) (by kernel_rfl) (by kernel_rfl) (fun _ _ _ h => h) (by rfl) ?y4_5 (by assumption) ?r4_5
            case y4_5 => (intro w hSw; (try dsimp only at hSw); first | (go_simp; done) | (go_simp; with_reducible rfl))
            try simp only [Act.put, List.setIfInBounds_toArray, List.set_cons_zero, List.set_cons_succ]
            refine wpAnyH_takeD (i := 5) (some 78) (v := ?v5_6) rfl rfl (by kernel_rfl) (by kernel_rfl) (by kernel_rfl) (fun _ _ _ h => h) (by rfl) ?y5_6 (by assumption) ?r5_6
            case y5_6 => (intro w hSw; (try dsimp only at hSw); first | (go_simp; done) | (go_simp; with_reducible rfl))
            try simp only [Act.put, List.setIfInBounds_toArray, List.set_cons_zero, List.set_cons_succ]
            refine wpAnyH_takeD (i := 6) (some 79) (v := ?v6_7) rfl rfl (by kernel_rfl) (by kernel_rfl) (by kernel_rfl) (fun _ _ _ h => h) (by rfl) ?y6_7 (by assumption) ?r6_7
            case y6_7 => (intro w hSw; (try dsimp only at hSw); first | (go_simp; done) | (go_simp; with_reducible rfl))
            try simp only [Act.put, List.setIfInBounds_toArray, List.set_cons_zero, List.set_cons_succ]
            refine wpAnyH_takeD (i := 7) (some 80) (v := ?v7_8) rfl rfl (by kernel_rfl) (by kernel_rfl) (by kernel_rfl) (fun _ _ _ h => h) (by rfl) ?y7_8 (by assumption) ?r7_8
            case y7_8 => (intro w hSw; (try dsimp only at hSw); first | (go_simp; done) | (go_simp; with_reducible rfl))
            try simp only [Act.put, List.setIfInBounds_toArray, List.set_cons_zero, List.set_cons_succ]
            refine wpAnyH_takeD (i := 8) (some 81) (v := ?v8_9) rfl rfl (by kernel_rfl) (by kernel_rfl) (by kernel_rfl) (fun _ _ _ h => h) (by rfl) ?y8_9 (by assumption) ?r8_9
            case y8_9 => (intro w hSw; (try dsimp only at hSw); first | (go_simp; done) | (go_simp; with_reducible rfl))
            try simp only [Act.put, List.setIfInBounds_toArray, List.set_cons_zero, List.set_cons_succ]
            refine wpAnyH_takeD (i := 9) (some 82) (v := ?v9_10) rfl rfl (by kernel_rfl) (by kernel_rfl) (by kernel_rfl) (fun _ _ _ h => h) (by rfl) ?y9_10 (by assumption) ?r9_10
            case y9_10 => (intro w hSw; (try dsimp only at hSw); first | (go_simp; done) | (go_simp; with_reducible rfl))
            try simp only [Act.put, List.setIfInBounds_toArray, List.set_cons_zero, List.set_cons_succ]
            refine wpAnyH_takeD (i := 10) (some 83) (v := .slice p2 t.length q2) rfl rfl (by kernel_rfl) (by kernel_rfl) (by kernel_rfl) (fun _ _ _ h => h) (by rfl) ?y10_11 (by assumption) ?r10_11
            case y10_11 => (intro w hSw; exact run_slice_op rfl rfl rfl (HSL.out w))
            try simp only [Act.put, List.setIfInBounds_toArray, List.set_cons_zero, List.set_cons_succ]
            refine wpAnyH_takeD (i := 11) (some 20) (v := ?v11_12) rfl rfl (by kernel_rfl) (by kernel_rfl) (by kernel_rfl) (fun _ _ _ h => h) (by rfl) ?y11_12 (by assumption) ?r11_12
            case y11_12 => (intro w hSw; (try dsimp only at hSw); first | (go_simp; done) | (go_simp; with_reducible rfl))
            try simp only [Act.put, List.setIfInBounds_toArray, List.set_cons_zero, List.set_cons_succ]
            refine wpAnyH_done (by kernel_rfl) ?_ _
            have H3d := hide H3.out.drew
            clear hHeld H3
            go_wp2_with (first
              | (go_at_call 17; refine (append_calls (l := l) (t := t) H3d.out mem0 HG.out.1 HG.out.2.1 HG.out.2.2.1 HG.out.2.2.2.1 HG.out.2.2.2.2.1 HG.out.2.2.2.2.2.1 HG.out.2.2.2.2.2.2).mono ?_; rintro x w7 ⟨rfl, h7⟩; rw [A1.out] at h7; rw [A1.out]; have H7 := hide h7; clear h7 H3d)
              | (refine wpList_build1_st (E := byteE.in) rfl (.tmp 94) slBytes rfl t rfl H7.out ?_ ?_; exact (fun _ _ hs => ⟨_, rfl, hs.sl_mem mem2⟩); intro g8 w8 h8; have H8 := hide h8.f4; clear h8 H7)
              | (at_builtin; refine wpList_append_st (E := byteE.in) rfl (.tmp 93) (.tmp 95) slBytes rfl H8.out (Src.of_rows mem1) rfl rfl Q1.out.1 Q1.out.2 ?_; intro b9 n9 c9 w9 hn9 h9; have H9 := hide (h9.pick [2, 3, 0] 5 (by decide) (by decide) (by simp)); have HN9 := hide hn9; clear h9 H8 hn9))
            go_roundw
            case rel => exact ⟨k + 1, _, d', ops + partsOf t.length + 1, W ++ [t], b9, c9, n9, by rw [HNR.out]; omega, by go_num, by rw [HN9.out, List.length_append], rfl, by rw [List.length_append]; have := HWL.out; simp only [List.length_cons, List.length_nil]; omega, A2.out, by have := HO.out; omega, A3.out, HGE.out, A4.out, H9.out⟩
            case measure => exact meas_step hlt
          · have A1 := hide (f2 (by omega))
            clear f1 f2 f3 hfit
            go_wp2_with fail
            refine wp_region_held_drew (S := fun w' => w'.cell? ⟨gr, or + k, none⟩ = some (.slice p n1 q)) (by kernel_rfl) ?_ (fun hHeld => ?_)
            · exact HC.out
            refine wpAnyH_takeD (i := 0) (some 73) (v := ?v0_13) rfl rfl (by kernel_rfl) (by kernel_rfl) (by kernel_rfl) (fun _ _ _ h => h) (by rfl) ?y0_13 (by assumption) ?r0_13
            case y0_13 => (intro w hSw; (try dsimp only at hSw); first | (go_simp; done) | (go_simp; with_reducible rfl))
            try simp only [Act.put, List.setIfInBounds_toArray, List.set_cons_zero, List.set_cons_succ]
            refine wpAnyH_takeD (i := 1) (some 74) (v := ?v1_14) rfl rfl (by kernel_rfl) (by kernel_rfl) (by kernel_rfl) (fun _ _ _ h => h) (by rfl) ?y1_14 (by assumption) ?r1_14
            case y1_14 => (intro w hSw; (try dsimp only at hSw); first | (go_simp; done) | (go_simp; with_reducible rfl))
            try simp only [Act.put, List.setIfInBounds_toArray, List.set_cons_zero, List.set_cons_succ]
            refine wpAnyH_takeD (i := 2) (some 75) (v := ?v2_15) rfl rfl (by kernel_rfl) (by kernel_rfl) (by kernel_rfl) (fun _ _ _ h => h) (by rfl) ?y2_15 (by assumption) ?r2_15
            case y2_15 => (intro w hSw; (try dsimp only at hSw); first | (go_simp; done) | (go_simp; with_reducible rfl))
            try simp only [Act.put, List.setIfInBounds_toArray, List.set_cons_zero, List.set_cons_succ]
            refine wpAnyH_takeD (i := 3) (some 76) (v := ?v3_16) rfl rfl (by kernel_rfl) (by kernel_rfl) (by kernel_rfl) (fun _ _ _ h => h) (by rfl) ?y3_16 (by assumption) ?r3_16
            case y3_16 => (intro w hSw; (try dsimp only at hSw); first | (go_simp; done) | (go_simp; with_reducible rfl))
            try simp only [Act.put, List.setIfInBounds_toArray, List.set_cons_zero, List.set_cons_succ]
            refine wpAnyH_takeD (i := 4) (some 77) (v := ?v4_17) rfl rfl (by kernel_rfl) (by kernel_rfl) (by kernel_rfl) (fun _ _ _ h => h) (by rfl) ?y4_17 (by assumption) ?r4_17
            case y4_17 => (intro w hSw; (try dsimp only at hSw); first | (go_simp; done) | (go_simp; with_reducible rfl))
            try simp only [Act.put, List.setIfInBounds_toArray, List.set_cons_zero, List.set_cons_succ]
            refine wpAnyH_takeD (i := 5) (some 78) (v := ?v5_18) rfl rfl (by kernel_rfl) (by kernel_rfl) (by kernel_rfl) (fun _ _ _ h => h) (by rfl) ?y5_18 (by assumption) ?r5_18
            case y5_18 => (intro w hSw; (try dsimp only at hSw); first | (go_simp; done) | (go_simp; with_reducible rfl))
            try simp only [Act.put, List.setIfInBounds_toArray, List.set_cons_zero, List.set_cons_succ]
            refine wpAnyH_takeD (i := 6) (some 79) (v := ?v6_19) rfl rfl (by kernel_rfl) (by kernel_rfl) (by kernel_rfl) (fun _ _ _ h => h) (by rfl) ?y6_19 (by assumption) ?r6_19
            case y6_19 => (intro w hSw; (try dsimp only at hSw); first | (go_simp; done) | (go_simp; with_reducible rfl))
            try simp only [Act.put, List.setIfInBounds_toArray, List.set_cons_zero, List.set_cons_succ]
            refine wpAnyH_takeD (i := 7) (some 80) (v := ?v7_20) rfl rfl (by kernel_rfl) (by kernel_rfl) (by kernel_rfl) (fun _ _ _ h => h) (by rfl) ?y7_20 (by assumption) ?r7_20
            case y7_20 => (intro w hSw; (try dsimp only at hSw); first | (go_simp; done) | (go_simp; with_reducible rfl))
            try simp only [Act.put, List.setIfInBounds_toArray, List.set_cons_zero, List.set_cons_succ]
            refine wpAnyH_takeD (i := 8) (some 81) (v := ?v8_21) rfl rfl (by kernel_rfl) (by kernel_rfl) (by kernel_rfl) (fun _ _ _ h => h) (by rfl) ?y8_21 (by assumption) ?r8_21
            case y8_21 => (intro w hSw; (try dsimp only at hSw); first | (go_simp; done) | (go_simp; with_reducible rfl))
            try simp only [Act.put, List.setIfInBounds_toArray, List.set_cons_zero, List.set_cons_succ]
            refine wpAnyH_takeD (i := 9) (some 82) (v := ?v9_22) rfl rfl (by kernel_rfl) (by kernel_rfl) (by kernel_rfl) (fun _ _ _ h => h) (by rfl) ?y9_22 (by assumption) ?r9_22
            case y9_22 => (intro w hSw; (try dsimp only at hSw); first | (go_simp; done) | (go_simp; with_reducible rfl))
            try simp only [Act.put, List.setIfInBounds_toArray, List.set_cons_zero, List.set_cons_succ]
            refine wpAnyH_takeD (i := 10) (some 83) (v := .slice p2 t.length q2) rfl rfl (by kernel_rfl) (by kernel_rfl) (by kernel_rfl) (fun _ _ _ h => h) (by rfl) ?y10_23 (by assumption) ?r10_23
            case y10_23 => (intro w hSw; exact run_slice_op rfl rfl rfl (HSL.out w))
            try simp only [Act.put, List.setIfInBounds_toArray, List.set_cons_zero, List.set_cons_succ]
            refine wpAnyH_takeD (i := 11) (some 20) (v := ?v11_24) rfl rfl (by kernel_rfl) (by kernel_rfl) (by kernel_rfl) (fun _ _ _ h => h) (by rfl) ?y11_24 (by assumption) ?r11_24
            case y11_24 => (intro w hSw; (try dsimp only at hSw); first | (go_simp; done) | (go_simp; with_reducible rfl))
            try simp only [Act.put, List.setIfInBounds_toArray, List.set_cons_zero, List.set_cons_succ]
            refine wpAnyH_done (by kernel_rfl) ?_ _
            have H3d := hide H3.out.drew
            clear hHeld H3
            go_wp2_with (first
              | (go_at_call 17; refine (append_calls (l := l) (t := t) H3d.out mem0 HG.out.1 HG.out.2.1 HG.out.2.2.1 HG.out.2.2.2.1 HG.out.2.2.2.2.1 HG.out.2.2.2.2.2.1 HG.out.2.2.2.2.2.2).mono ?_; rintro x w7 ⟨rfl, h7⟩; rw [A1.out] at h7; rw [A1.out]; have H7 := hide h7; clear h7 H3d))
            go_roundw
            case rel => exact ⟨k + 1, l, d, ops, W, bw, cw, nw, by rw [HNR.out]; omega, by go_num, HNW2.out, rfl, by have := HWL.out; omega, HA2.out, by have := HO.out; omega, HI.out, HGE.out, HFE.out, H7.out.pick [0, 1, 3] 4 (by decide) (by decide) (by simp)⟩
            case measure => exact meas_step hlt
        · have hke : k = nr := by omega
          subst hke
          subst hnw
          have hW3 : W.length ≤ 1000 := by omega
          have hWL1 : (W ++ [la]).length ≤ 1000 := by rw [List.length_append]; simp only [List.length_cons, List.length_nil]; omega
          obtain ⟨V, hV⟩ : ∃ V, W ++ [la] = V := ⟨_, rfl⟩
          rw [hV] at hWL1
          have HV := hide hV
          have HNE := hide (show ¬ W = V from fun h => by have := congrArg List.length (hV.trans h.symm); simp at this)
          clear hV
          have HW3 := hide hW3
          have HWL1 := hide hWL1
          have QW := hide (show ([] : List Byt).length + W.length ≤ maxLen ∧ (([] : List Byt).length + W.length) * 24 ≤ 140737488355328 from ⟨by simp only [List.length_nil]; unfold maxLen; omega, by simp only [List.length_nil]; omega⟩)
          have QL := hide (show W.length + ([la] : List Byt).length ≤ maxLen ∧ (W.length + ([la] : List Byt).length) * 24 ≤ 140737488355328 from ⟨by simp only [List.length_cons, List.length_nil]; unfold maxLen; omega, by simp only [List.length_cons, List.length_nil]; omega⟩)
          have hfd := fused_d ha hfe (f : Int) (by omega)
          obtain ⟨D0, hD0⟩ : ∃ x, d.fused (f : Int) = x := ⟨_, rfl⟩
          rw [hD0] at hfd
          have HD0 := hide hD0
          have hgD := hfd.good
          have hoD : D0.ops ≤ 100000000 := by rw [hfd.ops]; omega
          have hlD : l.next ≤ D0.last.length / 2 := by rw [hfd.len]; exact hft1
          have hpl := HPL.out
          have H4 := hide hs.f1
          cases fr with
          | true =>
            obtain ⟨R, D1, l1, o1, g1, g2, g3, g4⟩ := crash_fresh (t := la) hfd (by omega) (by omega) hI (by omega) (by omega) (by omega) pk
            have HG := hide (And.intro hgD (And.intro hoD (And.intro (show partsOf la.length ≤ 255 by omega) (And.intro (show l.most + 1 ≤ 4294967295 by omega) (And.intro hhf1 trivial)))))
            have HG1 := hide g1
            have AL := hide g2
            have A1 := hide g3
            clear hs ha hI hge hfe hmo1 hhf1 hrc1 hft1 hg1 hop1 hln1 hwl ho hW3 hWL1 hfd hD0 hgD hoD hlD hpl g1 g2 g3
            rcases g4 with ⟨rfl, l9, g5⟩ | ⟨hR, ⟨l9, g5⟩ | ⟨l9, g5⟩⟩
            · have OL := hide g5
              clear g5
              go_wp2_with (first
                | (go_at_call 13; have hm9 := HF.out; refine (within3_calls fu 8 (by omega) (by omega) (by omega) (by omega)).mono ?_; rintro x w5 ⟨rfl, hw5⟩; subst hw5; rw [hm9]; clear hm9 HF)
                | (go_at_call 32; refine (dfuse_calls H4.out (f : Int)).mono ?_; rintro x w2 ⟨rfl, h2⟩; rw [HD0.out] at h2; have H5 := hide h2; clear h2 H4)
                | (refine wpList_build0_st (α := Byt) (E := byteE.in) rfl slBytes rfl H5.out ?_; intro g6 w6 h6; have H6 := hide h6; clear h6 H5)
                | (at_builtin; refine wpList_append_st (E := byteE.in) rfl (.tmp 101) (.tmp 102) slBytes rfl H6.out (Src.of_rows mem3) rfl rfl QW.out.1 QW.out.2 ?_; intro b7 n7 c7 w7 hn7 h7; rw [List.nil_append] at h7; have H7 := hide h7; clear h7 H6 hn7)
                | (refine wpList_build1_st (E := byteE.in) rfl (.tmp 104) slBytes rfl la rfl H7.out ?_ ?_; exact (fun _ _ hs => ⟨_, rfl, hs.sl_mem (up4 HL.out)⟩); intro g8 w8 h8; have H8 := hide h8.f1; clear h8 H7)
                | (at_builtin; refine wpList_append_st (E := byteE.in) rfl (.tmp 103) (.tmp 105) slBytes rfl H8.out (Src.of_rows mem1) rfl rfl QL.out.1 QL.out.2 ?_; intro b9 n9 c9 w9 hn9 h9; rw [HV.out] at h9; have H9 := hide (show St b (HP.log gl gd l :: HP.disk gd D0 :: HP.rows 34 byteE.in (.slice b9 n9 c9) V :: HP.rows 34 byteE.in (.slice bw W.length cw) W :: L) w9 from h9.pick [3, 2, 0, 4] 5 (by decide) (by decide) (by simp)); clear h9 H8 hn9)
                | (refine wpList_build1_st (E := byteE.in) rfl (.tmp 108) slBytes rfl la rfl H9.out ?_ ?_; exact (fun _ _ hs => ⟨_, rfl, hs.sl_mem (up4 HL.out)⟩); intro g10 w10 h10; have H10 := hide (show St b (HP.log gl gd l :: HP.disk gd D0 :: HP.rows 34 byteE.in (.slice (some ⟨g10, 0, none⟩) 1 1) [la] :: HP.rows 34 byteE.in (.slice bw W.length cw) W :: L) w10 from h10.pick [1, 2, 0, 4] 5 (by decide) (by decide) (by simp)); clear h10 H9)
                | (go_at_call 14; refine (fresh_calls (l := l) (t := la) H10.out (up2 HL.out) HG.out.1 HG.out.2.1 HG.out.2.2.1 HG.out.2.2.2.1 HG.out.2.2.2.2.1).mono ?_; rintro x w7 ⟨rfl, h7⟩; rw [A1.out] at h7; rw [A1.out]; have H11 := hide h7.drop; clear h7 H10)
                | (go_at_call 33; refine (dcrash_calls (pick := pk) H11.out HG1.out (up2 HPK.out)).mono ?_; rintro x w8 ⟨rfl, h8⟩; have H12 := hide h8; clear h8 H11)
                | (go_at_call 12; refine (wopen_calls H12.out AL.out).mono ?_; rintro x w9 ⟨gl2, b0, c0, rfl, h9⟩; rw [OL.out] at h9; rw [OL.out]; have H13 := hide (h9.f2.persist.f3.persist.f4.persist); clear h9 H12)
                | (go_at_call 18; refine (rows3_calls (A := [la]) (B := [la]) H13.out mem2 mem1 (show 1 ≤ 1000 by decide) (show 1 ≤ 1000 by decide)).mono ?_; rintro x w4 ⟨rfl, h4⟩; rw [decide_eq_true rfl]; have H14 := hide h4; clear h4 H13))
              go_ret
              exact ⟨rfl, H14.out.drop.drop.drop.drop.drop⟩
            · have OL := hide g5
              clear g5
              have hRb : (R == 0) = false := by rw [beq_eq_false_iff_ne]; exact hR
              have hRt : (R != 0) = true := by rw [bne, hRb]; rfl
              clear hR
              go_wp2_with (first
                | (go_at_call 13; have hm9 := HF.out; refine (within3_calls fu 8 (by omega) (by omega) (by omega) (by omega)).mono ?_; rintro x w5 ⟨rfl, hw5⟩; subst hw5; rw [hm9]; clear hm9 HF)
                | (go_at_call 32; refine (dfuse_calls H4.out (f : Int)).mono ?_; rintro x w2 ⟨rfl, h2⟩; rw [HD0.out] at h2; have H5 := hide h2; clear h2 H4)
                | (refine wpList_build0_st (α := Byt) (E := byteE.in) rfl slBytes rfl H5.out ?_; intro g6 w6 h6; have H6 := hide h6; clear h6 H5)
                | (at_builtin; refine wpList_append_st (E := byteE.in) rfl (.tmp 101) (.tmp 102) slBytes rfl H6.out (Src.of_rows mem3) rfl rfl QW.out.1 QW.out.2 ?_; intro b7 n7 c7 w7 hn7 h7; rw [List.nil_append] at h7; have H7 := hide h7; clear h7 H6 hn7)
                | (refine wpList_build1_st (E := byteE.in) rfl (.tmp 104) slBytes rfl la rfl H7.out ?_ ?_; exact (fun _ _ hs => ⟨_, rfl, hs.sl_mem (up4 HL.out)⟩); intro g8 w8 h8; have H8 := hide h8.f1; clear h8 H7)
                | (at_builtin; refine wpList_append_st (E := byteE.in) rfl (.tmp 103) (.tmp 105) slBytes rfl H8.out (Src.of_rows mem1) rfl rfl QL.out.1 QL.out.2 ?_; intro b9 n9 c9 w9 hn9 h9; rw [HV.out] at h9; have H9 := hide (show St b (HP.log gl gd l :: HP.disk gd D0 :: HP.rows 34 byteE.in (.slice b9 n9 c9) V :: HP.rows 34 byteE.in (.slice bw W.length cw) W :: L) w9 from h9.pick [3, 2, 0, 4] 5 (by decide) (by decide) (by simp)); clear h9 H8 hn9)
                | (refine wpList_build1_st (E := byteE.in) rfl (.tmp 108) slBytes rfl la rfl H9.out ?_ ?_; exact (fun _ _ hs => ⟨_, rfl, hs.sl_mem (up4 HL.out)⟩); intro g10 w10 h10; have H10 := hide (show St b (HP.log gl gd l :: HP.disk gd D0 :: HP.rows 34 byteE.in (.slice (some ⟨g10, 0, none⟩) 1 1) [la] :: HP.rows 34 byteE.in (.slice bw W.length cw) W :: L) w10 from h10.pick [1, 2, 0, 4] 5 (by decide) (by decide) (by simp)); clear h10 H9)
                | (go_at_call 14; refine (fresh_calls (l := l) (t := la) H10.out (up2 HL.out) HG.out.1 HG.out.2.1 HG.out.2.2.1 HG.out.2.2.2.1 HG.out.2.2.2.2.1).mono ?_; rintro x w7 ⟨rfl, h7⟩; rw [A1.out] at h7; rw [A1.out]; have H11 := hide h7.drop; clear h7 H10)
                | (go_at_call 33; refine (dcrash_calls (pick := pk) H11.out HG1.out (up2 HPK.out)).mono ?_; rintro x w8 ⟨rfl, h8⟩; have H12 := hide h8; clear h8 H11)
                | (go_at_call 12; refine (wopen_calls H12.out AL.out).mono ?_; rintro x w9 ⟨gl2, b0, c0, rfl, h9⟩; rw [OL.out] at h9; rw [OL.out]; have H13 := hide (h9.f2.persist.f3.persist.f4.persist); clear h9 H12)
                | (go_at_call 18; refine (rows3_calls (A := [la]) (B := [la]) H13.out mem2 mem1 (show 1 ≤ 1000 by decide) (show 1 ≤ 1000 by decide)).mono ?_; rintro x w4 ⟨rfl, h4⟩; rw [decide_eq_true rfl]; have H14 := hide h4; clear h4 H13))
              go_ret
              exact ⟨rfl, H14.out.drop.drop.drop.drop.drop⟩
            · have OL := hide g5
              clear g5
              have hRb : (R == 0) = false := by rw [beq_eq_false_iff_ne]; exact hR
              have hRt : (R != 0) = true := by rw [bne, hRb]; rfl
              clear hR
              by_cases hE : W = [la]
              · have HE := hide hE
                clear hE
                go_wp2_with (first
                  | (go_at_call 13; have hm9 := HF.out; refine (within3_calls fu 8 (by omega) (by omega) (by omega) (by omega)).mono ?_; rintro x w5 ⟨rfl, hw5⟩; subst hw5; rw [hm9]; clear hm9 HF)
                  | (go_at_call 32; refine (dfuse_calls H4.out (f : Int)).mono ?_; rintro x w2 ⟨rfl, h2⟩; rw [HD0.out] at h2; have H5 := hide h2; clear h2 H4)
                  | (refine wpList_build0_st (α := Byt) (E := byteE.in) rfl slBytes rfl H5.out ?_; intro g6 w6 h6; have H6 := hide h6; clear h6 H5)
                  | (at_builtin; refine wpList_append_st (E := byteE.in) rfl (.tmp 101) (.tmp 102) slBytes rfl H6.out (Src.of_rows mem3) rfl rfl QW.out.1 QW.out.2 ?_; intro b7 n7 c7 w7 hn7 h7; rw [List.nil_append] at h7; have H7 := hide h7; clear h7 H6 hn7)
                  | (refine wpList_build1_st (E := byteE.in) rfl (.tmp 104) slBytes rfl la rfl H7.out ?_ ?_; exact (fun _ _ hs => ⟨_, rfl, hs.sl_mem (up4 HL.out)⟩); intro g8 w8 h8; have H8 := hide h8.f1; clear h8 H7)
                  | (at_builtin; refine wpList_append_st (E := byteE.in) rfl (.tmp 103) (.tmp 105) slBytes rfl H8.out (Src.of_rows mem1) rfl rfl QL.out.1 QL.out.2 ?_; intro b9 n9 c9 w9 hn9 h9; rw [HV.out] at h9; have H9 := hide (show St b (HP.log gl gd l :: HP.disk gd D0 :: HP.rows 34 byteE.in (.slice b9 n9 c9) V :: HP.rows 34 byteE.in (.slice bw W.length cw) W :: L) w9 from h9.pick [3, 2, 0, 4] 5 (by decide) (by decide) (by simp)); clear h9 H8 hn9)
                  | (refine wpList_build1_st (E := byteE.in) rfl (.tmp 108) slBytes rfl la rfl H9.out ?_ ?_; exact (fun _ _ hs => ⟨_, rfl, hs.sl_mem (up4 HL.out)⟩); intro g10 w10 h10; have H10 := hide (show St b (HP.log gl gd l :: HP.disk gd D0 :: HP.rows 34 byteE.in (.slice (some ⟨g10, 0, none⟩) 1 1) [la] :: HP.rows 34 byteE.in (.slice bw W.length cw) W :: L) w10 from h10.pick [1, 2, 0, 4] 5 (by decide) (by decide) (by simp)); clear h10 H9)
                  | (go_at_call 14; refine (fresh_calls (l := l) (t := la) H10.out (up2 HL.out) HG.out.1 HG.out.2.1 HG.out.2.2.1 HG.out.2.2.2.1 HG.out.2.2.2.2.1).mono ?_; rintro x w7 ⟨rfl, h7⟩; rw [A1.out] at h7; rw [A1.out]; have H11 := hide h7.drop; clear h7 H10)
                  | (go_at_call 33; refine (dcrash_calls (pick := pk) H11.out HG1.out (up2 HPK.out)).mono ?_; rintro x w8 ⟨rfl, h8⟩; have H12 := hide h8; clear h8 H11)
                  | (go_at_call 12; refine (wopen_calls H12.out AL.out).mono ?_; rintro x w9 ⟨gl2, b0, c0, rfl, h9⟩; rw [OL.out] at h9; rw [OL.out]; have H13 := hide (h9.f2.persist.f3.persist.f4.persist); clear h9 H12)
                  | (go_at_call 18; refine (rows3_calls (A := W) (B := [la]) H13.out mem2 mem1 HW3.out (show 1 ≤ 1000 by decide)).mono ?_; rintro x w4 ⟨rfl, h4⟩; rw [decide_eq_true HE.out]; have H14 := hide h4; clear h4 H13))
                go_ret
                exact ⟨rfl, H14.out.drop.drop.drop.drop.drop⟩
              · have HE := hide hE
                clear hE
                go_wp2_with (first
                  | (go_at_call 13; have hm9 := HF.out; refine (within3_calls fu 8 (by omega) (by omega) (by omega) (by omega)).mono ?_; rintro x w5 ⟨rfl, hw5⟩; subst hw5; rw [hm9]; clear hm9 HF)
                  | (go_at_call 32; refine (dfuse_calls H4.out (f : Int)).mono ?_; rintro x w2 ⟨rfl, h2⟩; rw [HD0.out] at h2; have H5 := hide h2; clear h2 H4)
                  | (refine wpList_build0_st (α := Byt) (E := byteE.in) rfl slBytes rfl H5.out ?_; intro g6 w6 h6; have H6 := hide h6; clear h6 H5)
                  | (at_builtin; refine wpList_append_st (E := byteE.in) rfl (.tmp 101) (.tmp 102) slBytes rfl H6.out (Src.of_rows mem3) rfl rfl QW.out.1 QW.out.2 ?_; intro b7 n7 c7 w7 hn7 h7; rw [List.nil_append] at h7; have H7 := hide h7; clear h7 H6 hn7)
                  | (refine wpList_build1_st (E := byteE.in) rfl (.tmp 104) slBytes rfl la rfl H7.out ?_ ?_; exact (fun _ _ hs => ⟨_, rfl, hs.sl_mem (up4 HL.out)⟩); intro g8 w8 h8; have H8 := hide h8.f1; clear h8 H7)
                  | (at_builtin; refine wpList_append_st (E := byteE.in) rfl (.tmp 103) (.tmp 105) slBytes rfl H8.out (Src.of_rows mem1) rfl rfl QL.out.1 QL.out.2 ?_; intro b9 n9 c9 w9 hn9 h9; rw [HV.out] at h9; have H9 := hide (show St b (HP.log gl gd l :: HP.disk gd D0 :: HP.rows 34 byteE.in (.slice b9 n9 c9) V :: HP.rows 34 byteE.in (.slice bw W.length cw) W :: L) w9 from h9.pick [3, 2, 0, 4] 5 (by decide) (by decide) (by simp)); clear h9 H8 hn9)
                  | (refine wpList_build1_st (E := byteE.in) rfl (.tmp 108) slBytes rfl la rfl H9.out ?_ ?_; exact (fun _ _ hs => ⟨_, rfl, hs.sl_mem (up4 HL.out)⟩); intro g10 w10 h10; have H10 := hide (show St b (HP.log gl gd l :: HP.disk gd D0 :: HP.rows 34 byteE.in (.slice (some ⟨g10, 0, none⟩) 1 1) [la] :: HP.rows 34 byteE.in (.slice bw W.length cw) W :: L) w10 from h10.pick [1, 2, 0, 4] 5 (by decide) (by decide) (by simp)); clear h10 H9)
                  | (go_at_call 14; refine (fresh_calls (l := l) (t := la) H10.out (up2 HL.out) HG.out.1 HG.out.2.1 HG.out.2.2.1 HG.out.2.2.2.1 HG.out.2.2.2.2.1).mono ?_; rintro x w7 ⟨rfl, h7⟩; rw [A1.out] at h7; rw [A1.out]; have H11 := hide h7.drop; clear h7 H10)
                  | (go_at_call 33; refine (dcrash_calls (pick := pk) H11.out HG1.out (up2 HPK.out)).mono ?_; rintro x w8 ⟨rfl, h8⟩; have H12 := hide h8; clear h8 H11)
                  | (go_at_call 12; refine (wopen_calls H12.out AL.out).mono ?_; rintro x w9 ⟨gl2, b0, c0, rfl, h9⟩; rw [OL.out] at h9; rw [OL.out]; have H13 := hide (h9.f2.persist.f3.persist.f4.persist); clear h9 H12)
                  | (go_at_call 18; refine (rows3_calls (A := W) (B := [la]) H13.out mem2 mem1 HW3.out (show 1 ≤ 1000 by decide)).mono ?_; rintro x w4 ⟨rfl, h4⟩; rw [decide_eq_false HE.out]; have H14 := hide h4; clear h4 H13)
                  | (go_at_call 18; refine (rows3_calls (A := W) (B := W) H14.out mem2 mem0 HW3.out HW3.out).mono ?_; rintro x w4 ⟨rfl, h4⟩; rw [decide_eq_true rfl]; have H15 := hide h4; clear h4 H14))
                go_ret
                exact ⟨rfl, H15.out.drop.drop.drop.drop.drop⟩
          | false =>
            obtain ⟨c1, c2⟩ := crash_append (t := la) hfd (by omega) (by omega) hI (by omega) (by omega) (by omega) pk
            have HG := hide (And.intro hgD (And.intro hoD (And.intro (show partsOf la.length ≤ 255 by omega) (And.intro (show l.gen ≤ 4294967295 by omega) (And.intro hhf1 (And.intro (show l.rc ≤ 65535 by omega) hlD))))))
            clear hs ha hI hge hfe hmo1 hhf1 hrc1 hft1 hg1 hop1 hln1 hwl ho hW3 hWL1 hfd hD0 hoD hlD hpl
            by_cases hfit : l.next + partsOf la.length ≤ N / 2
            · obtain ⟨R, D1, l1, o1, g1, g2, g4⟩ := c2 hfit
              have HG1 := hide g1
              have AL := hide g2
              clear c1 c2 g1 g2 hfit hgD
              rcases g4 with ⟨rfl, g3, l9, g5⟩ | ⟨hR, g3, ⟨l9, g5⟩ | ⟨l9, g5⟩⟩
              · rw [HV.out] at g5
                have OL := hide g5
                have A1 := hide g3
                clear g5 g3
                go_wp2_with (first
                  | (go_at_call 13; have hm9 := HF.out; refine (within3_calls fu 8 (by omega) (by omega) (by omega) (by omega)).mono ?_; rintro x w5 ⟨rfl, hw5⟩; subst hw5; rw [hm9]; clear hm9 HF)
                  | (go_at_call 32; refine (dfuse_calls H4.out (f : Int)).mono ?_; rintro x w2 ⟨rfl, h2⟩; rw [HD0.out] at h2; have H5 := hide h2; clear h2 H4)
                  | (refine wpList_build0_st (α := Byt) (E := byteE.in) rfl slBytes rfl H5.out ?_; intro g6 w6 h6; have H6 := hide h6; clear h6 H5)
                  | (at_builtin; refine wpList_append_st (E := byteE.in) rfl (.tmp 101) (.tmp 102) slBytes rfl H6.out (Src.of_rows mem3) rfl rfl QW.out.1 QW.out.2 ?_; intro b7 n7 c7 w7 hn7 h7; rw [List.nil_append] at h7; have H7 := hide h7; clear h7 H6 hn7)
                  | (refine wpList_build1_st (E := byteE.in) rfl (.tmp 104) slBytes rfl la rfl H7.out ?_ ?_; exact (fun _ _ hs => ⟨_, rfl, hs.sl_mem (up4 HL.out)⟩); intro g8 w8 h8; have H8 := hide h8.f1; clear h8 H7)
                  | (at_builtin; refine wpList_append_st (E := byteE.in) rfl (.tmp 103) (.tmp 105) slBytes rfl H8.out (Src.of_rows mem1) rfl rfl QL.out.1 QL.out.2 ?_; intro b9 n9 c9 w9 hn9 h9; rw [HV.out] at h9; have H9 := hide (show St b (HP.log gl gd l :: HP.disk gd D0 :: HP.rows 34 byteE.in (.slice b9 n9 c9) V :: HP.rows 34 byteE.in (.slice bw W.length cw) W :: L) w9 from h9.pick [3, 2, 0, 4] 5 (by decide) (by decide) (by simp)); clear h9 H8 hn9)
                  | (go_at_call 17; refine (append_calls (l := l) (t := la) H9.out (up2 HL.out) HG.out.1 HG.out.2.1 HG.out.2.2.1 HG.out.2.2.2.1 HG.out.2.2.2.2.1 HG.out.2.2.2.2.2.1 HG.out.2.2.2.2.2.2).mono ?_; rintro x w7 ⟨rfl, h7⟩; rw [A1.out] at h7; rw [A1.out]; have H11 := hide h7.drop; clear h7 H9)
                  | (go_at_call 33; refine (dcrash_calls (pick := pk) H11.out HG1.out (up2 HPK.out)).mono ?_; rintro x w8 ⟨rfl, h8⟩; have H12 := hide h8; clear h8 H11)
                  | (go_at_call 12; refine (wopen_calls H12.out AL.out).mono ?_; rintro x w9 ⟨gl2, b0, c0, rfl, h9⟩; rw [OL.out] at h9; rw [OL.out]; have H13 := hide (h9.f2.persist.f3.persist.f4.persist); clear h9 H12)
                  | (go_at_call 18; refine (rows3_calls (A := V) (B := V) H13.out mem2 mem1 HWL1.out HWL1.out).mono ?_; rintro x w4 ⟨rfl, h4⟩; rw [decide_eq_true rfl]; have H14 := hide h4; clear h4 H13))
                go_ret
                exact ⟨rfl, H14.out.drop.drop.drop.drop.drop⟩
              · rw [HV.out] at g5
                have OL := hide g5
                have A1 := hide g3
                clear g5 g3
                have hRb : (R == 0) = false := by rw [beq_eq_false_iff_ne]; exact hR
                have hRt : (R != 0) = true := by rw [bne, hRb]; rfl
                clear hR
                go_wp2_with (first
                  | (go_at_call 13; have hm9 := HF.out; refine (within3_calls fu 8 (by omega) (by omega) (by omega) (by omega)).mono ?_; rintro x w5 ⟨rfl, hw5⟩; subst hw5; rw [hm9]; clear hm9 HF)
                  | (go_at_call 32; refine (dfuse_calls H4.out (f : Int)).mono ?_; rintro x w2 ⟨rfl, h2⟩; rw [HD0.out] at h2; have H5 := hide h2; clear h2 H4)
                  | (refine wpList_build0_st (α := Byt) (E := byteE.in) rfl slBytes rfl H5.out ?_; intro g6 w6 h6; have H6 := hide h6; clear h6 H5)
                  | (at_builtin; refine wpList_append_st (E := byteE.in) rfl (.tmp 101) (.tmp 102) slBytes rfl H6.out (Src.of_rows mem3) rfl rfl QW.out.1 QW.out.2 ?_; intro b7 n7 c7 w7 hn7 h7; rw [List.nil_append] at h7; have H7 := hide h7; clear h7 H6 hn7)
                  | (refine wpList_build1_st (E := byteE.in) rfl (.tmp 104) slBytes rfl la rfl H7.out ?_ ?_; exact (fun _ _ hs => ⟨_, rfl, hs.sl_mem (up4 HL.out)⟩); intro g8 w8 h8; have H8 := hide h8.f1; clear h8 H7)
                  | (at_builtin; refine wpList_append_st (E := byteE.in) rfl (.tmp 103) (.tmp 105) slBytes rfl H8.out (Src.of_rows mem1) rfl rfl QL.out.1 QL.out.2 ?_; intro b9 n9 c9 w9 hn9 h9; rw [HV.out] at h9; have H9 := hide (show St b (HP.log gl gd l :: HP.disk gd D0 :: HP.rows 34 byteE.in (.slice b9 n9 c9) V :: HP.rows 34 byteE.in (.slice bw W.length cw) W :: L) w9 from h9.pick [3, 2, 0, 4] 5 (by decide) (by decide) (by simp)); clear h9 H8 hn9)
                  | (go_at_call 17; refine (append_calls (l := l) (t := la) H9.out (up2 HL.out) HG.out.1 HG.out.2.1 HG.out.2.2.1 HG.out.2.2.2.1 HG.out.2.2.2.2.1 HG.out.2.2.2.2.2.1 HG.out.2.2.2.2.2.2).mono ?_; rintro x w7 ⟨rfl, h7⟩; rw [A1.out] at h7; rw [A1.out]; have H11 := hide h7.drop; clear h7 H9)
                  | (go_at_call 33; refine (dcrash_calls (pick := pk) H11.out HG1.out (up2 HPK.out)).mono ?_; rintro x w8 ⟨rfl, h8⟩; have H12 := hide h8; clear h8 H11)
                  | (go_at_call 12; refine (wopen_calls H12.out AL.out).mono ?_; rintro x w9 ⟨gl2, b0, c0, rfl, h9⟩; rw [OL.out] at h9; rw [OL.out]; have H13 := hide (h9.f2.persist.f3.persist.f4.persist); clear h9 H12)
                  | (go_at_call 18; refine (rows3_calls (A := V) (B := V) H13.out mem2 mem1 HWL1.out HWL1.out).mono ?_; rintro x w4 ⟨rfl, h4⟩; rw [decide_eq_true rfl]; have H14 := hide h4; clear h4 H13))
                go_ret
                exact ⟨rfl, H14.out.drop.drop.drop.drop.drop⟩
              · have OL := hide g5
                have A1 := hide g3
                clear g5 g3
                have hRb : (R == 0) = false := by rw [beq_eq_false_iff_ne]; exact hR
                have hRt : (R != 0) = true := by rw [bne, hRb]; rfl
                clear hR
                have HE := HNE
                go_wp2_with (first
                  | (go_at_call 13; have hm9 := HF.out; refine (within3_calls fu 8 (by omega) (by omega) (by omega) (by omega)).mono ?_; rintro x w5 ⟨rfl, hw5⟩; subst hw5; rw [hm9]; clear hm9 HF)
                  | (go_at_call 32; refine (dfuse_calls H4.out (f : Int)).mono ?_; rintro x w2 ⟨rfl, h2⟩; rw [HD0.out] at h2; have H5 := hide h2; clear h2 H4)
                  | (refine wpList_build0_st (α := Byt) (E := byteE.in) rfl slBytes rfl H5.out ?_; intro g6 w6 h6; have H6 := hide h6; clear h6 H5)
                  | (at_builtin; refine wpList_append_st (E := byteE.in) rfl (.tmp 101) (.tmp 102) slBytes rfl H6.out (Src.of_rows mem3) rfl rfl QW.out.1 QW.out.2 ?_; intro b7 n7 c7 w7 hn7 h7; rw [List.nil_append] at h7; have H7 := hide h7; clear h7 H6 hn7)
                  | (refine wpList_build1_st (E := byteE.in) rfl (.tmp 104) slBytes rfl la rfl H7.out ?_ ?_; exact (fun _ _ hs => ⟨_, rfl, hs.sl_mem (up4 HL.out)⟩); intro g8 w8 h8; have H8 := hide h8.f1; clear h8 H7)
                  | (at_builtin; refine wpList_append_st (E := byteE.in) rfl (.tmp 103) (.tmp 105) slBytes rfl H8.out (Src.of_rows mem1) rfl rfl QL.out.1 QL.out.2 ?_; intro b9 n9 c9 w9 hn9 h9; rw [HV.out] at h9; have H9 := hide (show St b (HP.log gl gd l :: HP.disk gd D0 :: HP.rows 34 byteE.in (.slice b9 n9 c9) V :: HP.rows 34 byteE.in (.slice bw W.length cw) W :: L) w9 from h9.pick [3, 2, 0, 4] 5 (by decide) (by decide) (by simp)); clear h9 H8 hn9)
                  | (go_at_call 17; refine (append_calls (l := l) (t := la) H9.out (up2 HL.out) HG.out.1 HG.out.2.1 HG.out.2.2.1 HG.out.2.2.2.1 HG.out.2.2.2.2.1 HG.out.2.2.2.2.2.1 HG.out.2.2.2.2.2.2).mono ?_; rintro x w7 ⟨rfl, h7⟩; rw [A1.out] at h7; rw [A1.out]; have H11 := hide h7.drop; clear h7 H9)
                  | (go_at_call 33; refine (dcrash_calls (pick := pk) H11.out HG1.out (up2 HPK.out)).mono ?_; rintro x w8 ⟨rfl, h8⟩; have H12 := hide h8; clear h8 H11)
                  | (go_at_call 12; refine (wopen_calls H12.out AL.out).mono ?_; rintro x w9 ⟨gl2, b0, c0, rfl, h9⟩; rw [OL.out] at h9; rw [OL.out]; have H13 := hide (h9.f2.persist.f3.persist.f4.persist); clear h9 H12)
                  | (go_at_call 18; refine (rows3_calls (A := W) (B := V) H13.out mem2 mem1 HW3.out HWL1.out).mono ?_; rintro x w4 ⟨rfl, h4⟩; rw [decide_eq_false HE.out]; have H14 := hide h4; clear h4 H13)
                  | (go_at_call 18; refine (rows3_calls (A := W) (B := W) H14.out mem2 mem0 HW3.out HW3.out).mono ?_; rintro x w4 ⟨rfl, h4⟩; rw [decide_eq_true rfl]; have H15 := hide h4; clear h4 H14))
                go_ret
                exact ⟨rfl, H15.out.drop.drop.drop.drop.drop⟩
            · obtain ⟨g3, g2, l9, g5⟩ := c1 (by omega)
              have HG1 := hide hgD
              have AL := hide g2
              have A1 := hide g3
              have OL := hide g5
              clear c1 c2 g2 g3 g5 hfit hgD
              go_wp2_with (first
                | (go_at_call 13; have hm9 := HF.out; refine (within3_calls fu 8 (by omega) (by omega) (by omega) (by omega)).mono ?_; rintro x w5 ⟨rfl, hw5⟩; subst hw5; rw [hm9]; clear hm9 HF)
                | (go_at_call 32; refine (dfuse_calls H4.out (f : Int)).mono ?_; rintro x w2 ⟨rfl, h2⟩; rw [HD0.out] at h2; have H5 := hide h2; clear h2 H4)
                | (refine wpList_build0_st (α := Byt) (E := byteE.in) rfl slBytes rfl H5.out ?_; intro g6 w6 h6; have H6 := hide h6; clear h6 H5)
                | (at_builtin; refine wpList_append_st (E := byteE.in) rfl (.tmp 101) (.tmp 102) slBytes rfl H6.out (Src.of_rows mem3) rfl rfl QW.out.1 QW.out.2 ?_; intro b7 n7 c7 w7 hn7 h7; rw [List.nil_append] at h7; have H7 := hide h7; clear h7 H6 hn7)
                | (refine wpList_build1_st (E := byteE.in) rfl (.tmp 104) slBytes rfl la rfl H7.out ?_ ?_; exact (fun _ _ hs => ⟨_, rfl, hs.sl_mem (up4 HL.out)⟩); intro g8 w8 h8; have H8 := hide h8.f1; clear h8 H7)
                | (at_builtin; refine wpList_append_st (E := byteE.in) rfl (.tmp 103) (.tmp 105) slBytes rfl H8.out (Src.of_rows mem1) rfl rfl QL.out.1 QL.out.2 ?_; intro b9 n9 c9 w9 hn9 h9; rw [HV.out] at h9; have H9 := hide (show St b (HP.log gl gd l :: HP.disk gd D0 :: HP.rows 34 byteE.in (.slice b9 n9 c9) V :: HP.rows 34 byteE.in (.slice bw W.length cw) W :: L) w9 from h9.pick [3, 2, 0, 4] 5 (by decide) (by decide) (by simp)); clear h9 H8 hn9)
                | (go_at_call 17; refine (append_calls (l := l) (t := la) H9.out (up2 HL.out) HG.out.1 HG.out.2.1 HG.out.2.2.1 HG.out.2.2.2.1 HG.out.2.2.2.2.1 HG.out.2.2.2.2.2.1 HG.out.2.2.2.2.2.2).mono ?_; rintro x w7 ⟨rfl, h7⟩; rw [A1.out] at h7; rw [A1.out]; have H11 := hide h7.drop; clear h7 H9)
                | (go_at_call 33; refine (dcrash_calls (pick := pk) H11.out HG1.out (up2 HPK.out)).mono ?_; rintro x w8 ⟨rfl, h8⟩; have H12 := hide h8; clear h8 H11)
                | (go_at_call 12; refine (wopen_calls H12.out AL.out).mono ?_; rintro x w9 ⟨gl2, b0, c0, rfl, h9⟩; rw [OL.out] at h9; rw [OL.out]; have H13 := hide (h9.f2.persist.f3.persist.f4.persist); clear h9 H12)
                | (go_at_call 18; refine (rows3_calls (A := W) (B := W) H13.out mem2 mem0 HW3.out HW3.out).mono ?_; rintro x w4 ⟨rfl, h4⟩; rw [decide_eq_true rfl]; have H14 := hide h4; clear h4 H13))
              go_ret
              exact ⟨rfl, H14.out.drop.drop.drop.drop.drop⟩
end Go.Proofs.Ythecdkbagjpboaa
