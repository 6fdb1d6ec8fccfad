/-
  The law WalRows: the walk.
-/
import Derived.Test.YthecdkbagjpboaaWv
namespace Go.Proofs.Ythecdkbagjpboaa
open Go.RowKit Go.Maps Go.MapKept
variable {b : Env} {L : List HP} {w : World} {gd : Nat} {d : Dk}
/-- A log in a loop over rows. -/
def WLoopAt (b : Env) (L : List HP) (gd gl N : Nat) (rs : List Byt) (want i : Value) (wr : World) : Prop :=
  ∃ (k : Nat) (l : LogR) (d : Dk) (ops : Int) (W : List Byt) (bw : Option Addr) (cw nw : Nat), k ≤ rs.length ∧ i = .int .i64 k ∧ nw = W.length ∧ want = .slice bw nw cw ∧ W.length ≤ k + 1 ∧
    Alive d N ops ∧ (0 ≤ ops ∧ ops ≤ 1000 + 1000 * k) ∧ LogI (tabR d N) (N / 2) l W ∧ l.gen ≤ 100 ∧
    St b (HP.rows 34 byteE.in (.slice bw nw cw) W :: HP.log gl gd l :: HP.disk gd d :: L) wr
theorem run_slice_op {P : Program} {o : Oper} {a : Act} {w : World} {t : TypeId} {x h : Operand} {v k r : Value} (ho : o.op = .slice t x none (some h) none) (hx : a.eval x = v) (hh : a.eval h = k) (hr : (Instr.sliceAt t v none (some k) none).run P w = .ok r w) : (execOp a.eval o).run P w = .ok (.value r) w := by simp [execOp, ho, hx, hh, hr]
theorem row_cut {A : List Byt} {k : Nat} {ga oa n ca : Nat} (h : St b L w) (ha : HP.sl byteE.in (.slice (some ⟨ga, oa, none⟩) n ca) A ∈ L) (hk : k < A.length) (m : Nat) :
    A[k].length ≤ maxLen ∧ ∃ p q p2 q2, w.cell? ⟨ga, oa + k, none⟩ = some (.slice p A[k].length q) ∧
      (∀ w', (Instr.sliceAt 34 (.slice p A[k].length q) none (some (.int .i64 (min (A[k].length : Int) (m : Int)))) none).run Try.prog w' = .ok (.slice p2 (A[k].take m).length q2) w') ∧
      St b (HP.sl byteE (.slice p2 (A[k].take m).length q2) (A[k].take m) :: L) w := by
  obtain ⟨v, h1⟩ := h.in_elem ha hk
  obtain ⟨p, q, rfl, hm1, hm2⟩ := h1.sl_form mem0
  have hc := h1.in_cell mem1
  obtain ⟨p2, q2, hr, h2⟩ := St.slice_to slByte h1 mem0 (min A[k].length m) (Nat.min_le_left _ _) .i64
  have e1 : (A[k].take m).length = min A[k].length m := by rw [List.length_take, Nat.min_comm]
  have e2 : A[k].take (min A[k].length m) = A[k].take m := by rw [Nat.min_comm, List.take_eq_take_iff]; simp
  rw [e2] at h2
  rw [show ((min A[k].length m : Nat) : Int) = min (A[k].length : Int) (m : Int) from by omega] at hr
  exact ⟨Nat.le_trans hm1 hm2, p, q, p2, q2, hc, by rw [e1]; exact hr, by rw [e1]; exact h2.d1.d1⟩
set_option linter.unusedSimpArgs false in
set_option maxRecDepth 100000 in
set_option maxHeartbeats 4000000 in
theorem walRows_calls {vr vw : Value} {rs : List Byt} {wh : Byt} (h : St b L w) (s : Int) (hr : HP.sl byteE.in vr rs ∈ L) (hw : HP.sl byteE vw wh ∈ L) (anew : Bool) (hs1 : -9223372036854775808 ≤ s) (hs2 : s ≤ 9223372036854775807) :
    Calls Try.prog 4 #[.int .i64 s, vr, vw, .bool anew] w fun x w' => x = .returned (.bool true) ∧ St b L w' := by
  obtain ⟨br, cr, rfl, ur1, ur2⟩ := h.sl_form hr
  obtain ⟨bw, cw, rfl, uw1, uw2⟩ := h.sl_form hw
  obtain ⟨nr, hnr⟩ : ∃ n, rs.length = n := ⟨_, rfl⟩
  obtain ⟨nw, hnw⟩ : ∃ n, wh.length = n := ⟨_, rfl⟩
  obtain ⟨m, hm⟩ : ∃ m : Nat, s % 10 = (m : Int) := ⟨(s % 10).toNat, by omega⟩
  have hm2 : (m : Int) ≤ 9 := by omega
  obtain ⟨N, hN⟩ : ∃ N : Nat, 8 + 2 * ((2 + (m : Int)) % 13).toNat = N := ⟨_, rfl⟩
  have hN8 : 12 ≤ N := by omega
  have hN2 : N ≤ 32 := by omega
  have hA := alive_fresh N (by omega)
  rw [hnr] at hr ⊢
  rw [hnw] at hw ⊢
  have hcr : (nr : Int) ≤ 9223372036854775807 := by unfold maxLen at ur2; omega
  have hcw : (nw : Int) ≤ 9223372036854775807 := by unfold maxLen at uw2; omega
  clear ur1 ur2 uw1 uw2
  have H := hide h
  have HR := hide hr
  have HW := hide hw
  have HNR := hide hnr
  have HNW := hide hnw
  have HM := hide hm
  have HN := hide hN
  have HA := hide hA
  clear h hr hw hnr hnw hm hN hA
  by_cases hbig : 12 < nr
  · have hbig' : (12 : Int) < nr := by omega
    go_enter Try.func4, Try.ntmps4
    go_wp2_with (first
      | (go_at_call 10; refine (known3_calls H.out).mono ?_; rintro x w1 ⟨rfl, h1⟩; have H1 := hide h1; clear h1 H))
    go_ret
    exact ⟨rfl, H1.out⟩
  · have hbig' : ¬ (12 : Int) < nr := by omega
    by_cases hbig2 : 150 < nw
    · have hbig2' : (150 : Int) < nw := by omega
      go_enter Try.func4, Try.ntmps4
      go_wp2_with (first
        | (go_at_call 10; refine (known3_calls H.out).mono ?_; rintro x w1 ⟨rfl, h1⟩; have H1 := hide h1; clear h1 H))
      go_ret
      exact ⟨rfl, H1.out⟩
    · have hbig2' : ¬ (150 : Int) < nw := by omega
      have hpw : partsOf wh.length ≤ 4 := by rw [HNW.out]; unfold partsOf; omega
      obtain ⟨d1, e1, e2, e3⟩ := fresh_alive (l := ⟨0, 0, 0, 0, 0⟩) (t := wh) HA.out (by omega) (by omega) (by rw [tab_fresh0]; intro i p hp; cases hp) (by decide) (by decide) (by omega)
      have hp255 : partsOf wh.length ≤ 255 := by omega
      have hop2 : 0 + (partsOf wh.length : Int) + 1 ≤ 1000 := by omega
      simp only [Nat.lt_irrefl, if_false] at e1 e3
      have E1 := hide e1
      have E2 := hide e2
      have E3 := hide e3
      have HP2 := hide hp255
      have HOP := hide hop2
      clear e1 e2 e3 hp255 hop2 hpw
      go_enter Try.func4, Try.ntmps4
      go_wp2_with (first
        | (go_at_call 10; refine (known3_calls H.out).mono ?_; rintro x w1 ⟨rfl, h1⟩; have H1 := hide h1; clear h1 H)
        | (go_at_call 13; have hm9 := HM.out; refine (within3_calls s 10 (by omega) (by omega) (by omega) (by omega)).mono ?_; rintro x w5 ⟨rfl, hw5⟩; subst hw5; rw [hm9]; clear hm9)
        | (go_at_call 11; refine (both_calls H1.out (2 + (m : Int)) (by omega) (by omega)).mono ?_; rintro x w2 ⟨gd, gx, rfl, h2⟩; rw [HN.out] at h2; have H2 := hide h2.drop; clear h2 H1)
        | (go_at_call 12; refine (wopen_calls H2.out HA.out).mono ?_; rintro x w3 ⟨gl, b0, c0, rfl, h3⟩; rw [open_fresh0] at h3; rw [open_fresh0]; have H3 := hide h3.d2; clear h3 H2)
        | (go_at_call 14; refine (fresh_calls (l := ⟨0, 0, 0, 0, 0⟩) (t := wh) H3.out HW.out HA.out.good (show (Dk.fresh0 N).ops ≤ 100000000 from (by decide : (0 : Int) ≤ 100000000)) HP2.out (by decide) (by decide)).mono ?_; rintro x w7 ⟨rfl, h7⟩; rw [E1.out] at h7; rw [E1.out]; have H7 := hide h7; clear h7 H3)
        | (refine wpList_build1_st (E := byteE.in) rfl (.tmp 59) slBytes rfl wh rfl H7.out ?_ ?_; exact (fun _ _ hs => ⟨_, rfl, hs.sl_mem (up2 HW.out)⟩); intro g8 w8 h8; have H8 := hide h8; clear h8 H7))
      go_loopw [14, 15] (fun want i wr => WLoopAt b L gd gl N rs want i wr) (fun _ i _ => nr - (intOf i).toNat)
      case atStart => exact ⟨0, _, d1, _, [wh], some ⟨g8, 0, none⟩, 1, 1, by omega, rfl, rfl, rfl, Nat.le_refl 1, E2.out, by have := HOP.out; omega, E3.out, (show 0 + 1 ≤ 100 by decide), H8.out⟩
      case round =>
        obtain ⟨k, l, d, ops, W, bw, cw, nw, hk, rfl, hnw, rfl, hwl, ha, ho, hI, hge, hs⟩ := hrel
        have HNW2 := hide hnw
        have HWL := hide hwl
        have HA2 := hide ha
        have HO := hide ho
        have HI := hide hI
        have HGE := hide hge
        rw [HNR.out] at hk
        have hmo1 := hI.mo
        have hhf1 := hI.hf
        have hrc1 := hI.rc
        have hft1 := hI.fit
        have hg1 := ha.good
        have hop1 : d.ops ≤ 100000000 := by rw [ha.ops]; omega
        have hln1 : l.next ≤ d.last.length / 2 := by rw [ha.len]; exact hft1
        clear H8 E1 E2 E3 HOP HP2 HN HA HM
        by_cases hlt : k < nr
        · have hlt' : (k : Int) < nr := by omega
          have hkA : k < rs.length := by rw [HNR.out]; exact hlt
          obtain ⟨gr, or, rfl⟩ := hs.sl_base (up3 HR.out) (by omega) Nat.one_pos
          obtain ⟨hml, p, q, p2, q2, hc, hsl, h2⟩ := row_cut hs (up3 HR.out) hkA 100
          obtain ⟨t, ht⟩ : ∃ t, rs[k].take 100 = t := ⟨_, rfl⟩
          obtain ⟨n1, hn1⟩ : ∃ n, rs[k].length = n := ⟨_, rfl⟩
          have htl : t.length ≤ 100 := by rw [← ht, List.length_take]; omega
          have hn1m : (n1 : Int) ≤ 9223372036854775807 := by unfold maxLen at hml; omega
          clear hml
          rw [ht, hn1] at hsl
          rw [hn1] at hc
          rw [ht] at h2
          have hp2 : partsOf t.length ≤ 3 := by unfold partsOf; omega
          obtain ⟨f1, f2⟩ := append_alive (t := t) ha (by omega) (by omega) hI (by omega) (by omega) (by omega)
          have H3 := hide (show St b (HP.log gl gd l :: HP.disk gd d :: HP.sl byteE (.slice p2 t.length q2) t :: HP.rows 34 byteE.in (.slice bw nw cw) W :: L) wr from h2.pick [2, 3, 0, 1] 4 (by decide) (by decide) (by simp))
          have HC := hide hc
          have HSL := hide hsl
          have HG := hide (And.intro hg1 (And.intro hop1 (And.intro (show partsOf t.length ≤ 255 by omega) (And.intro (show l.gen ≤ 4294967295 by omega) (And.intro hhf1 (And.intro (show l.rc ≤ 65535 by omega) hln1))))))
          have Q1 := hide (show W.length + ([t] : List Byt).length ≤ maxLen ∧ (W.length + ([t] : List Byt).length) * 24 ≤ 140737488355328 from ⟨by simp only [List.length_cons, List.length_nil]; unfold maxLen; omega, by simp only [List.length_cons, List.length_nil]; omega⟩)
          clear hs h2 hc hsl ha hI hge hmo1 hhf1 hrc1 hft1 hg1 hop1 hln1 ht hn1 hnw hwl ho hkA
          by_cases hfit : l.next + partsOf t.length ≤ N / 2
          · obtain ⟨d', a1, a2, a3⟩ := f1 hfit
            have A1 := hide a1
            have A2 := hide a2
            have A3 := hide a3
            clear f1 f2 a1 a2 a3 hfit
            go_wp2_with fail
            refine wp_region_held_drew (S := fun w' => w'.cell? ⟨gr, or + k, none⟩ = some (.slice p n1 q)) (by kernel_rfl) ?_ (fun hHeld => ?_)
            · exact HC.out
            refine wpAnyH_takeD (i := 0) (some 67) (v := ?v0_1) rfl rfl (by kernel_rfl) (by kernel_rfl) (by kernel_rfl) (fun _ _ _ h => h) (by rfl) ?y0_1 (by assumption) ?r0_1
            case y0_1 => (intro w hSw; (try dsimp only at hSw); first | (go_simp; done) | (go_simp; with_reducible rfl))
            try simp only [Act.put, List.setIfInBounds_toArray, List.set_cons_zero, List.set_cons_succ]
            refine wpAnyH_takeD (i := 1) (some 68) (v := ?v1_2) rfl rfl (by kernel_rfl) (by kernel_rfl) (by kernel_rfl) (fun _ _ _ h => h) (by rfl) ?y1_2 (by assumption) ?r1_2
            case y1_2 => (intro w hSw; (try dsimp only at hSw); first | (go_simp; done) | (go_simp; with_reducible rfl))
            try simp only [Act.put, List.setIfInBounds_toArray, List.set_cons_zero, List.set_cons_succ]
            refine wpAnyH_takeD (i := 2) (some 69) (v := ?v2_3) rfl rfl (by kernel_rfl) (by kernel_rfl) (by kernel_rfl) (fun _ _ _ h => h) (by rfl) ?y2_3 (by assumption) ?r2_3
            case y2_3 => (intro w hSw; (try dsimp only at hSw); first | (go_simp; done) | (go_simp; with_reducible rfl))
            try simp only [Act.put, List.setIfInBounds_toArray, List.set_cons_zero, List.set_cons_succ]
            refine wpAnyH_takeD (i := 3) (some 70) (v := ?v3_4) rfl rfl (by kernel_rfl) (by kernel_rfl) (by kernel_rfl) (fun _ _ _ h => h) (by rfl) ?y3_4 (by assumption) ?r3_4
            case y3_4 => (intro w hSw; (try dsimp only at hSw); first | (go_simp; done) | (go_simp; with_reducible rfl))
            try simp only [Act.put, List.setIfInBounds_toArray, List.set_cons_zero, List.set_cons_succ]
            refine wpAnyH_takeD (i := 4) (some 71) (v := ?v4_5) rfl rfl (by kernel_rfl) (by kernel_rfl) (by kernel_rfl) (fun _ _ _ h => h) (by rfl) ?y4_5 (by assumption) ?r4_5
            case y4_5 => (intro w hSw; (try dsimp only at hSw); first | (go_simp; done) | (go_simp; with_reducible rfl))
            try simp only [Act.put, List.setIfInBounds_toArray, List.set_cons_zero, List.set_cons_succ]
            refine wpAnyH_takeD (i := 5) (some 72) (v := ?v5_6) rfl rfl (by kernel_rfl) (by kernel_rfl) (by kernel_rfl) (fun _ _ _ h => h) (by rfl) ?y5_6 (by assumption) ?r5_6
            case y5_6 => (intro w hSw; (try dsimp only at hSw); first | (go_simp; done) | (go_simp; with_reducible rfl))
            try simp only [Act.put, List.setIfInBounds_toArray, List.set_cons_zero, List.set_cons_succ]
            refine wpAnyH_takeD (i := 6) (some 73) (v := ?v6_7) rfl rfl (by kernel_rfl) (by kernel_rfl) (by kernel_rfl) (fun _ _ _ h => h) (by rfl) ?y6_7 (by assumption) ?r6_7
            case y6_7 => (intro w hSw; (try dsimp only at hSw); first | (go_simp; done) | (go_simp; with_reducible rfl))
            try simp only [Act.put, List.setIfInBounds_toArray, List.set_cons_zero, List.set_cons_succ]
            refine wpAnyH_takeD (i := 7) (some 74) (v := ?v7_8) rfl rfl (by kernel_rfl) (by kernel_rfl) (by kernel_rfl) (fun _ _ _ h => h) (by rfl) ?y7_8 (by assumption) ?r7_8
            case y7_8 => (intro w hSw; (try dsimp only at hSw); first | (go_simp; done) | (go_simp; with_reducible rfl))
            try simp only [Act.put, List.setIfInBounds_toArray, List.set_cons_zero, List.set_cons_succ]
            refine wpAnyH_takeD (i := 8) (some 75) (v := ?v8_9) rfl rfl (by kernel_rfl) (by kernel_rfl) (by kernel_rfl) (fun _ _ _ h => h) (by rfl) ?y8_9 (by assumption) ?r8_9
            case y8_9 => (intro w hSw; (try dsimp only at hSw); first | (go_simp; done) | (go_simp; with_reducible rfl))
            try simp only [Act.put, List.setIfInBounds_toArray, List.set_cons_zero, List.set_cons_succ]
            refine wpAnyH_takeD (i := 9) (some 76) (v := ?v9_10) rfl rfl (by kernel_rfl) (by kernel_rfl) (by kernel_rfl) (fun _ _ _ h => h) (by rfl) ?y9_10 (by assumption) ?r9_10
            case y9_10 => (intro w hSw; (try dsimp only at hSw); first | (go_simp; done) | (go_simp; with_reducible rfl))
            try simp only [Act.put, List.setIfInBounds_toArray, List.set_cons_zero, List.set_cons_succ]
            refine wpAnyH_takeD (i := 10) (some 77) (v := .slice p2 t.length q2) rfl rfl (by kernel_rfl) (by kernel_rfl) (by kernel_rfl) (fun _ _ _ h => h) (by rfl) ?y10_11 (by assumption) ?r10_11
            case y10_11 => (intro w hSw; exact run_slice_op rfl rfl rfl (HSL.out w))
            try simp only [Act.put, List.setIfInBounds_toArray, List.set_cons_zero, List.set_cons_succ]
            refine wpAnyH_takeD (i := 11) (some 16) (v := ?v11_12) rfl rfl (by kernel_rfl) (by kernel_rfl) (by kernel_rfl) (fun _ _ _ h => h) (by rfl) ?y11_12 (by assumption) ?r11_12
            case y11_12 => (intro w hSw; (try dsimp only at hSw); first | (go_simp; done) | (go_simp; with_reducible rfl))
            try simp only [Act.put, List.setIfInBounds_toArray, List.set_cons_zero, List.set_cons_succ]
            refine wpAnyH_done (by kernel_rfl) ?_ _
            have H3d := hide H3.out.drew
            clear hHeld H3
            go_wp2_with (first
              | (go_at_call 17; refine (append_calls (l := l) (t := t) H3d.out mem0 HG.out.1 HG.out.2.1 HG.out.2.2.1 HG.out.2.2.2.1 HG.out.2.2.2.2.1 HG.out.2.2.2.2.2.1 HG.out.2.2.2.2.2.2).mono ?_; rintro x w7 ⟨rfl, h7⟩; rw [A1.out] at h7; rw [A1.out]; have H7 := hide h7; clear h7 H3d)
              | (refine wpList_build1_st (E := byteE.in) rfl (.tmp 88) slBytes rfl t rfl H7.out ?_ ?_; exact (fun _ _ hs => ⟨_, rfl, hs.sl_mem mem2⟩); intro g8 w8 h8; have H8 := hide h8.f4; clear h8 H7)
              | (at_builtin; refine wpList_append_st (E := byteE.in) rfl (.tmp 87) (.tmp 89) slBytes rfl H8.out (Src.of_rows mem1) rfl rfl Q1.out.1 Q1.out.2 ?_; intro b9 n9 c9 w9 hn9 h9; have H9 := hide (h9.pick [0, 2, 3] 5 (by decide) (by decide) (by simp)); have HN9 := hide hn9; clear h9 H8 hn9))
            go_roundw
            case rel => exact ⟨k + 1, _, d', ops + partsOf t.length + 1, W ++ [t], b9, c9, n9, by rw [HNR.out]; omega, by go_num, by rw [HN9.out, List.length_append], rfl, by rw [List.length_append]; have := HWL.out; simp only [List.length_cons, List.length_nil]; omega, A2.out, by have := HO.out; omega, A3.out, HGE.out, H9.out⟩
            case measure => exact meas_step hlt
          · have A1 := hide (f2 (by omega))
            clear f1 f2 hfit
            go_wp2_with fail
            refine wp_region_held_drew (S := fun w' => w'.cell? ⟨gr, or + k, none⟩ = some (.slice p n1 q)) (by kernel_rfl) ?_ (fun hHeld => ?_)
            · exact HC.out
            refine wpAnyH_takeD (i := 0) (some 67) (v := ?v0_13) rfl rfl (by kernel_rfl) (by kernel_rfl) (by kernel_rfl) (fun _ _ _ h => h) (by rfl) ?y0_13 (by assumption) ?r0_13
            case y0_13 => (intro w hSw; (try dsimp only at hSw); first | (go_simp; done) | (go_simp; with_reducible rfl))
            try simp only [Act.put, List.setIfInBounds_toArray, List.set_cons_zero, List.set_cons_succ]
            refine wpAnyH_takeD (i := 1) (some 68) (v := ?v1_14) rfl rfl (by kernel_rfl) (by kernel_rfl) (by kernel_rfl) (fun _ _ _ h => h) (by rfl) ?y1_14 (by assumption) ?r1_14
            case y1_14 => (intro w hSw; (try dsimp only at hSw); first | (go_simp; done) | (go_simp; with_reducible rfl))
            try simp only [Act.put, List.setIfInBounds_toArray, List.set_cons_zero, List.set_cons_succ]
            refine wpAnyH_takeD (i := 2) (some 69) (v := ?v2_15) rfl rfl (by kernel_rfl) (by kernel_rfl) (by kernel_rfl) (fun _ _ _ h => h) (by rfl) ?y2_15 (by assumption) ?r2_15
            case y2_15 => (intro w hSw; (try dsimp only at hSw); first | (go_simp; done) | (go_simp; with_reducible rfl))
            try simp only [Act.put, List.setIfInBounds_toArray, List.set_cons_zero, List.set_cons_succ]
            refine wpAnyH_takeD (i := 3) (some 70) (v := ?v3_16) rfl rfl (by kernel_rfl) (by kernel_rfl) (by kernel_rfl) (fun _ _ _ h => h) (by rfl) ?y3_16 (by assumption) ?r3_16
            case y3_16 => (intro w hSw; (try dsimp only at hSw); first | (go_simp; done) | (go_simp; with_reducible rfl))
            try simp only [Act.put, List.setIfInBounds_toArray, List.set_cons_zero, List.set_cons_succ]
            refine wpAnyH_takeD (i := 4) (some 71) (v := ?v4_17) rfl rfl (by kernel_rfl) (by kernel_rfl) (by kernel_rfl) (fun _ _ _ h => h) (by rfl) ?y4_17 (by assumption) ?r4_17
            case y4_17 => (intro w hSw; (try dsimp only at hSw); first | (go_simp; done) | (go_simp; with_reducible rfl))
            try simp only [Act.put, List.setIfInBounds_toArray, List.set_cons_zero, List.set_cons_succ]
            refine wpAnyH_takeD (i := 5) (some 72) (v := ?v5_18) rfl rfl (by kernel_rfl) (by kernel_rfl) (by kernel_rfl) (fun _ _ _ h => h) (by rfl) ?y5_18 (by assumption) ?r5_18
            case y5_18 => (intro w hSw; (try dsimp only at hSw); first | (go_simp; done) | (go_simp; with_reducible rfl))
            try simp only [Act.put, List.setIfInBounds_toArray, List.set_cons_zero, List.set_cons_succ]
            refine wpAnyH_takeD (i := 6) (some 73) (v := ?v6_19) rfl rfl (by kernel_rfl) (by kernel_rfl) (by kernel_rfl) (fun _ _ _ h => h) (by rfl) ?y6_19 (by assumption) ?r6_19
            case y6_19 => (intro w hSw; (try dsimp only at hSw); first | (go_simp; done) | (go_simp; with_reducible rfl))
            try simp only [Act.put, List.setIfInBounds_toArray, List.set_cons_zero, List.set_cons_succ]
            refine wpAnyH_takeD (i := 7) (some 74) (v := ?v7_20) rfl rfl (by kernel_rfl) (by kernel_rfl) (by kernel_rfl) (fun _ _ _ h => h) (by rfl) ?y7_20 (by assumption) ?r7_20
            case y7_20 => (intro w hSw; (try dsimp only at hSw); first | (go_simp; done) | (go_simp; with_reducible rfl))
            try simp only [Act.put, List.setIfInBounds_toArray, List.set_cons_zero, List.set_cons_succ]
            refine wpAnyH_takeD (i := 8) (some 75) (v := ?v8_21) rfl rfl (by kernel_rfl) (by kernel_rfl) (by kernel_rfl) (fun _ _ _ h => h) (by rfl) ?y8_21 (by assumption) ?r8_21
            case y8_21 => (intro w hSw; (try dsimp only at hSw); first | (go_simp; done) | (go_simp; with_reducible rfl))
            try simp only [Act.put, List.setIfInBounds_toArray, List.set_cons_zero, List.set_cons_succ]
            refine wpAnyH_takeD (i := 9) (some 76) (v := ?v9_22) rfl rfl (by kernel_rfl) (by kernel_rfl) (by kernel_rfl) (fun _ _ _ h => h) (by rfl) ?y9_22 (by assumption) ?r9_22
            case y9_22 => (intro w hSw; (try dsimp only at hSw); first | (go_simp; done) | (go_simp; with_reducible rfl))
            try simp only [Act.put, List.setIfInBounds_toArray, List.set_cons_zero, List.set_cons_succ]
            refine wpAnyH_takeD (i := 10) (some 77) (v := .slice p2 t.length q2) rfl rfl (by kernel_rfl) (by kernel_rfl) (by kernel_rfl) (fun _ _ _ h => h) (by rfl) ?y10_23 (by assumption) ?r10_23
            case y10_23 => (intro w hSw; exact run_slice_op rfl rfl rfl (HSL.out w))
            try simp only [Act.put, List.setIfInBounds_toArray, List.set_cons_zero, List.set_cons_succ]
            refine wpAnyH_takeD (i := 11) (some 16) (v := ?v11_24) rfl rfl (by kernel_rfl) (by kernel_rfl) (by kernel_rfl) (fun _ _ _ h => h) (by rfl) ?y11_24 (by assumption) ?r11_24
            case y11_24 => (intro w hSw; (try dsimp only at hSw); first | (go_simp; done) | (go_simp; with_reducible rfl))
            try simp only [Act.put, List.setIfInBounds_toArray, List.set_cons_zero, List.set_cons_succ]
            refine wpAnyH_done (by kernel_rfl) ?_ _
            have H3d := hide H3.out.drew
            clear hHeld H3
            go_wp2_with (first
              | (go_at_call 17; refine (append_calls (l := l) (t := t) H3d.out mem0 HG.out.1 HG.out.2.1 HG.out.2.2.1 HG.out.2.2.2.1 HG.out.2.2.2.2.1 HG.out.2.2.2.2.2.1 HG.out.2.2.2.2.2.2).mono ?_; rintro x w7 ⟨rfl, h7⟩; rw [A1.out] at h7; rw [A1.out]; have H7 := hide h7; clear h7 H3d))
            go_roundw
            case rel => exact ⟨k + 1, l, d, ops, W, bw, cw, nw, by rw [HNR.out]; omega, by go_num, HNW2.out, rfl, by have := HWL.out; omega, HA2.out, by have := HO.out; omega, HI.out, HGE.out, H7.out.pick [3, 0, 1] 4 (by decide) (by decide) (by simp)⟩
            case measure => exact meas_step hlt
        · have hke : k = nr := by omega
          have hnw3 : W.length ≤ 1000 := by omega
          have HW3 := hide hnw3
          subst hnw
          cases anew with
          | false =>
            have OL := hide (open_log ha.len rfl (by omega) hI)
            have H4 := hide (show St b (HP.disk gd d :: HP.rows 34 byteE.in (.slice bw W.length cw) W :: L) wr from hs.pick [2, 0] 3 (by decide) (by decide) (by simp))
            clear hs ha hI hge hmo1 hhf1 hrc1 hft1 hg1 hop1 hln1 hwl ho hnw3
            go_wp2_with (first
              | (go_at_call 12; refine (wopen_calls H4.out HA2.out).mono ?_; rintro x w3 ⟨gl2, b0, c0, rfl, h3⟩; rw [OL.out] at h3; rw [OL.out]; have H5 := hide (h3.f2.persist.f3.persist); clear h3 H4)
              | (go_at_call 18; refine (rows3_calls H5.out mem1 mem0 HW3.out HW3.out).mono ?_; rintro x w4 ⟨rfl, h4⟩; rw [decide_eq_true rfl]; have H6 := hide h4; clear h4 H5))
            go_ret
            exact ⟨rfl, H6.out.drop.drop.drop.drop⟩
          | true =>
            obtain ⟨d', f1, f2, f3⟩ := fresh_alive (l := l) (t := [97, 110, 101, 119]) ha (by omega) (by omega) (fun i p hp => by rw [hmo1]; exact (hI.all i p hp).1) hhf1 (by omega) (by show partsOf 4 ≤ N / 2; unfold partsOf; omega)
            have OL := hide (open_log f2.len rfl (by omega) f3)
            have F1 := hide f1
            have F2 := hide f2
            have HG := hide (And.intro hg1 (And.intro hop1 (And.intro (show l.most + 1 ≤ 4294967295 by omega) hhf1)))
            have H4 := hide hs
            clear hs ha hI hge hmo1 hhf1 hrc1 hft1 hg1 hop1 hln1 hwl ho hnw3 f1 f2 f3
            have kc := fun (w : World) (C : Array Value) (n c : Nat) => Lib.run_convert_bytes_const (P := Try.prog) w 34 5 C n c Try.underlying34 Try.underlying5
            go_wp2_with (first
              | (go_at_call 14; have H4a := hide (show St b (HP.log gl gd l :: HP.disk gd d :: HP.sl byteE (.slice (some ⟨_, 0, none⟩) 4 4) [97, 110, 101, 119] :: L) _ from (H4.out.lit (T := 5) (fz := (4, 5)) [97, 110, 101, 119] (by decide)).pick [2, 3, 0] 4 (by decide) (by decide) (by simp)); clear H4; refine (fresh_calls (l := l) (t := [97, 110, 101, 119]) H4a.out mem0 HG.out.1 HG.out.2.1 (by decide) HG.out.2.2.1 HG.out.2.2.2).mono ?_; rintro x w7 ⟨rfl, h7⟩; rw [F1.out] at h7; rw [F1.out]; have H7 := hide h7; clear h7 H4a)
              | (have H7a := hide (H7.out.lit (T := 5) (fz := (4, 5)) [97, 110, 101, 119] (by decide)); refine wpList_build1_st (E := byteE.in) rfl (.tmp 98) slBytes rfl [97, 110, 101, 119] rfl H7a.out ?_ ?_; exact (fun _ _ hs => ⟨_, rfl, hs.sl_mem mem0⟩); intro g8 w8 h8; have H8 := hide (show St b (HP.disk gd d' :: HP.rows 34 byteE.in (.slice (some ⟨g8, 0, none⟩) 1 1) [[97, 110, 101, 119]] :: HP.sl byteE (.slice (some ⟨_, 0, none⟩) 4 4) [97, 110, 101, 119] :: L) w8 from h8.pick [3, 0] 4 (by decide) (by decide) (by simp)); clear h8 H7 H7a)
              | (go_at_call 12; refine (wopen_calls H8.out F2.out).mono ?_; rintro x w3 ⟨gl2, b0, c0, rfl, h3⟩; rw [OL.out] at h3; rw [OL.out]; change St b (HP.log _ _ _ :: HP.disk _ _ :: HP.rows 34 byteE.in (.slice b0 1 c0) [[97, 110, 101, 119]] :: HP.rows 34 byteE.in _ [[97, 110, 101, 119]] :: _) w3 at h3; have H5 := hide (h3.f2.persist.f3.persist); clear h3 H8)
              | (go_at_call 18; refine (rows3_calls (A := [[97, 110, 101, 119]]) (B := [[97, 110, 101, 119]]) H5.out mem1 mem0 (by decide) (by decide)).mono ?_; rintro x w4 ⟨rfl, h4⟩; rw [decide_eq_true rfl]; have H6 := hide h4; clear h4 H5))
            go_ret
            exact ⟨rfl, H6.out.drop.drop.drop.drop.drop⟩
end Go.Proofs.Ythecdkbagjpboaa
