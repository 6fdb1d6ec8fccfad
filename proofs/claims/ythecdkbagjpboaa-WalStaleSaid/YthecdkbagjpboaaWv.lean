/-
  deadboltlaw3: Rows; rows of rows of bytes.
-/
import Derived.Test.YthecdkbagjpboaaWu
namespace Go.Proofs.Ythecdkbagjpboaa
open Go.RowKit Go.Maps Go.MapKept
variable {b : Env} {L : List HP} {w : World}
theorem St.in_elem {α : Type} {E : El α} {g o n cap i : Nat} {xss : List (List α)} (h : St b L w) (hm : HP.sl E.in (.slice (some ⟨g, o, none⟩) n cap) xss ∈ L) (hi : i < xss.length) : ∃ v, St b (HP.sl E v xss[i] :: HP.elem E.in g (o + i) xss[i] [v] :: L) w := by
  obtain ⟨cs, h'⟩ := h.elem hm (List.getElem?_eq_getElem hi) Nat.one_pos
  obtain ⟨e, hl, hs, v, hc, hv⟩ := h'.elem_rd List.mem_cons_self
  subst hc
  rw [show o + i * E.in.sz = o + i by show o + i * 1 = o + i; omega] at hs
  exact ⟨v, e, hl, hs.lay (fun _ => hv)⟩
theorem St.in_cell {α : Type} {E : El α} {g off : Nat} {xs : List α} {v : Value} (h : St b L w) (hm : HP.elem E.in g off xs [v] ∈ L) : w.cell? ⟨g, off, none⟩ = some v := h.elem_cell hm 0 rfl
theorem run_convert_op {P : Program} {o : Oper} {a : Act} {w : World} {s t : TypeId} {x : Operand} {v r : Value} (ho : o.op = .convert s t x) (hx : a.eval x = v) (h : (convert s t v).run P w = .ok r w) : (execOp a.eval o).run P w = .ok (.value r) w := by simp [execOp, ho, hx, h]
theorem take_next {α : Type} {A B : List α} {k : Nat} (h : A.take k = B.take k) (h1 : k < A.length) (h2 : k < B.length) (he : A[k] = B[k]) : A.take (k + 1) = B.take (k + 1) := by
  rw [List.take_succ_eq_append_getElem h1, List.take_succ_eq_append_getElem h2, h, he]
def RowsAt (b : Env) (L : List HP) (A B : List Byt) (i : Value) (wr : World) : Prop := ∃ k : Nat, k ≤ A.length ∧ i = .int .i64 k ∧ A.take k = B.take k ∧ St b L wr
set_option linter.unusedSimpArgs false in
set_option maxRecDepth 100000 in
set_option maxHeartbeats 4000000 in
theorem rows3_calls {va vb : Value} {A B : List Byt} (h : St b L w) (ha : HP.sl byteE.in va A ∈ L) (hb : HP.sl byteE.in vb B ∈ L) (hA : A.length ≤ 1000) (hB : B.length ≤ 1000) :
    Calls Try.prog 18 #[va, vb] w fun x w' => x = .returned (.bool (decide (A = B))) ∧ St b L w' := by
  obtain ⟨ba, ca, rfl, -⟩ := h.sl_form ha
  obtain ⟨bb, cb, rfl, -⟩ := h.sl_form hb
  obtain ⟨n, hn⟩ : ∃ n, A.length = n := ⟨_, rfl⟩
  obtain ⟨m, hm⟩ : ∃ m, B.length = m := ⟨_, rfl⟩
  rw [hn] at ha hA ⊢
  rw [hm] at hb hB ⊢
  have hnI : (n : Int) ≤ 1000 := by omega
  have hmI : (m : Int) ≤ 1000 := by omega
  have H := hide h
  have HA := hide ha
  have HB := hide hb
  have HN := hide hn
  have HM := hide hm
  clear h ha hb hn hm
  by_cases hnm : n = m
  · subst hnm
    have hnn : ((n : Int) != (n : Int)) = false := by rw [bne, beq_self_eq_true]; rfl
    go_enter Try.func18, Try.ntmps18
    go_wp2_with fail
    go_loopw [5] (fun i wr => RowsAt b L A B i wr) (fun i _ => n - (intOf i).toNat)
    case atStart => exact ⟨0, by omega, rfl, rfl, H.out⟩
    case round =>
      obtain ⟨k, hk, rfl, htk, hs⟩ := hrel
      have HT := hide htk
      rw [HN.out] at hk
      clear htk H
      by_cases hlt : k < n
      · have hlt' : (k : Int) < n := by omega
        have hkA : k < A.length := by rw [HN.out]; exact hlt
        have hkB : k < B.length := by rw [HM.out]; exact hlt
        obtain ⟨ga, oa, rfl⟩ := hs.sl_base HA.out (by omega) Nat.one_pos
        obtain ⟨gb, ob, rfl⟩ := hs.sl_base HB.out (by omega) Nat.one_pos
        obtain ⟨v1, h1⟩ := hs.in_elem HA.out hkA
        obtain ⟨v2, h2⟩ := h1.in_elem (up2 HB.out) hkB
        obtain ⟨p1, q1, rfl, -⟩ := h2.sl_form mem2
        obtain ⟨p2, q2, rfl, -⟩ := h2.sl_form mem0
        obtain ⟨sa, hsa⟩ : ∃ x, A[k] = x := ⟨_, rfl⟩
        obtain ⟨sb, hsb⟩ : ∃ x, B[k] = x := ⟨_, rfl⟩
        rw [hsa, hsb] at h2
        have H2 := hide h2
        have HSA := hide hsa
        have HSB := hide hsb
        clear h1 h2 hs hsa hsb
        by_cases he : sa = sb
        · subst he
          go_wp2_with fail
          refine wp_region_held_drew (S := fun w' => w'.cell? ⟨ga, oa + k, none⟩ = some (.slice p1 sa.length q1) ∧ w'.cell? ⟨gb, ob + k, none⟩ = some (.slice p2 sa.length q2) ∧ St b (HP.sl byteE (.slice p2 sa.length q2) sa :: HP.elem byteE.in gb (ob + k) sa [.slice p2 sa.length q2] :: HP.sl byteE (.slice p1 sa.length q1) sa :: HP.elem byteE.in ga (oa + k) sa [.slice p1 sa.length q1] :: L) w') (by kernel_rfl) ?_ (fun hHeld => ?_)
          · exact ⟨H2.out.drew.in_cell mem3, H2.out.drew.in_cell mem1, H2.out.drew⟩
          refine wpAnyH_takeD (i := 0) (some 17) (v := ?v0_1) rfl rfl (by kernel_rfl) (by kernel_rfl) (by kernel_rfl) (fun _ _ _ h => h) (by rfl) ?y0_1 (by assumption) ?r0_1
          case y0_1 => (intro w hSw; (try dsimp only at hSw); first | (go_simp; done) | (go_simp; with_reducible rfl))
          try simp only [Act.put, List.setIfInBounds_toArray, List.set_cons_zero, List.set_cons_succ]
          refine wpAnyH_takeD (i := 1) (some 18) (v := ?v1_2) rfl rfl (by kernel_rfl) (by kernel_rfl) (by kernel_rfl) (fun _ _ _ h => h) (by rfl) ?y1_2 (by assumption) ?r1_2
          case y1_2 => (intro w hSw; (try dsimp only at hSw); first | (go_simp; done) | (go_simp; with_reducible rfl))
          try simp only [Act.put, List.setIfInBounds_toArray, List.set_cons_zero, List.set_cons_succ]
          refine wpAnyH_takeD (i := 2) (some 19) (v := ?v2_3) rfl rfl (by kernel_rfl) (by kernel_rfl) (by kernel_rfl) (fun _ _ _ h => h) (by rfl) ?y2_3 (by assumption) ?r2_3
          case y2_3 => (intro w hSw; (try dsimp only at hSw); first | (go_simp; done) | (go_simp; with_reducible rfl))
          try simp only [Act.put, List.setIfInBounds_toArray, List.set_cons_zero, List.set_cons_succ]
          refine wpAnyH_takeD (i := 3) (some 20) (v := ?v3_4) rfl rfl (by kernel_rfl) (by kernel_rfl) (by kernel_rfl) (fun _ _ _ h => h) (by rfl) ?y3_4 (by assumption) ?r3_4
          case y3_4 => (intro w hSw; (try dsimp only at hSw); first | (go_simp; done) | (go_simp; with_reducible rfl))
          try simp only [Act.put, List.setIfInBounds_toArray, List.set_cons_zero, List.set_cons_succ]
          refine wpAnyH_takeD (i := 4) (some 21) (v := .string ⟨sa.toArray⟩) rfl rfl (by kernel_rfl) (by kernel_rfl) (by kernel_rfl) (fun _ _ _ h => h) (by rfl) ?y4_5 (by assumption) ?r4_5
          case y4_5 => (intro w hSw; exact run_convert_op (x := .tmp 20) rfl rfl (conv_str hSw.2.2 (Reads.of_sl mem2)))
          try simp only [Act.put, List.setIfInBounds_toArray, List.set_cons_zero, List.set_cons_succ]
          refine wpAnyH_takeD (i := 5) (some 22) (v := ?v5_6) rfl rfl (by kernel_rfl) (by kernel_rfl) (by kernel_rfl) (fun _ _ _ h => h) (by rfl) ?y5_6 (by assumption) ?r5_6
          case y5_6 => (intro w hSw; (try dsimp only at hSw); first | (go_simp; done) | (go_simp; with_reducible rfl))
          try simp only [Act.put, List.setIfInBounds_toArray, List.set_cons_zero, List.set_cons_succ]
          refine wpAnyH_takeD (i := 6) (some 23) (v := ?v6_7) rfl rfl (by kernel_rfl) (by kernel_rfl) (by kernel_rfl) (fun _ _ _ h => h) (by rfl) ?y6_7 (by assumption) ?r6_7
          case y6_7 => (intro w hSw; (try dsimp only at hSw); first | (go_simp; done) | (go_simp; with_reducible rfl))
          try simp only [Act.put, List.setIfInBounds_toArray, List.set_cons_zero, List.set_cons_succ]
          refine wpAnyH_takeD (i := 7) (some 24) (v := ?v7_8) rfl rfl (by kernel_rfl) (by kernel_rfl) (by kernel_rfl) (fun _ _ _ h => h) (by rfl) ?y7_8 (by assumption) ?r7_8
          case y7_8 => (intro w hSw; (try dsimp only at hSw); first | (go_simp; done) | (go_simp; with_reducible rfl))
          try simp only [Act.put, List.setIfInBounds_toArray, List.set_cons_zero, List.set_cons_succ]
          refine wpAnyH_takeD (i := 8) (some 25) (v := ?v8_9) rfl rfl (by kernel_rfl) (by kernel_rfl) (by kernel_rfl) (fun _ _ _ h => h) (by rfl) ?y8_9 (by assumption) ?r8_9
          case y8_9 => (intro w hSw; (try dsimp only at hSw); first | (go_simp; done) | (go_simp; with_reducible rfl))
          try simp only [Act.put, List.setIfInBounds_toArray, List.set_cons_zero, List.set_cons_succ]
          refine wpAnyH_takeD (i := 9) (some 26) (v := .string ⟨sa.toArray⟩) rfl rfl (by kernel_rfl) (by kernel_rfl) (by kernel_rfl) (fun _ _ _ h => h) (by rfl) ?y9_10 (by assumption) ?r9_10
          case y9_10 => (intro w hSw; exact run_convert_op (x := .tmp 25) rfl rfl (conv_str hSw.2.2 (Reads.of_sl mem0)))
          try simp only [Act.put, List.setIfInBounds_toArray, List.set_cons_zero, List.set_cons_succ]
          refine wpAnyH_takeD (i := 10) (some 27) (v := ?v10_11) rfl rfl (by kernel_rfl) (by kernel_rfl) (by kernel_rfl) (fun _ _ _ h => h) (by rfl) ?y10_11 (by assumption) ?r10_11
          case y10_11 => (intro w hSw; (try dsimp only at hSw); first | (go_simp; done) | (go_simp; with_reducible rfl))
          try simp only [Act.put, List.setIfInBounds_toArray, List.set_cons_zero, List.set_cons_succ]
          refine wpAnyH_done (by kernel_rfl) ?_ _
          have H3 := hide hHeld.2.2
          clear hHeld H2
          go_wp2_with fail
          go_roundw
          case rel => exact ⟨k + 1, by rw [HN.out]; omega, by go_num, take_next HT.out hkA hkB (by rw [HSA.out, HSB.out]), H3.out.drop.drop.drop.drop⟩
          case measure => exact meas_step hlt
        · have hq : (sa == sb) = false := by rw [beq_eq_false_iff_ne]; exact he
          have HE := hide he
          clear he
          go_wp2_with fail
          refine wp_region_held_drew (S := fun w' => w'.cell? ⟨ga, oa + k, none⟩ = some (.slice p1 sa.length q1) ∧ w'.cell? ⟨gb, ob + k, none⟩ = some (.slice p2 sb.length q2) ∧ St b (HP.sl byteE (.slice p2 sb.length q2) sb :: HP.elem byteE.in gb (ob + k) sb [.slice p2 sb.length q2] :: HP.sl byteE (.slice p1 sa.length q1) sa :: HP.elem byteE.in ga (oa + k) sa [.slice p1 sa.length q1] :: L) w') (by kernel_rfl) ?_ (fun hHeld => ?_)
          · exact ⟨H2.out.drew.in_cell mem3, H2.out.drew.in_cell mem1, H2.out.drew⟩
          refine wpAnyH_takeD (i := 0) (some 17) (v := ?v0_12) rfl rfl (by kernel_rfl) (by kernel_rfl) (by kernel_rfl) (fun _ _ _ h => h) (by rfl) ?y0_12 (by assumption) ?r0_12
          case y0_12 => (intro w hSw; (try dsimp only at hSw); first | (go_simp; done) | (go_simp; with_reducible rfl))
          try simp only [Act.put, List.setIfInBounds_toArray, List.set_cons_zero, List.set_cons_succ]
          refine wpAnyH_takeD (i := 1) (some 18) (v := ?v1_13) rfl rfl (by kernel_rfl) (by kernel_rfl) (by kernel_rfl) (fun _ _ _ h => h) (by rfl) ?y1_13 (by assumption) ?r1_13
          case y1_13 => (intro w hSw; (try dsimp only at hSw); first | (go_simp; done) | (go_simp; with_reducible rfl))
          try simp only [Act.put, List.setIfInBounds_toArray, List.set_cons_zero, List.set_cons_succ]
          refine wpAnyH_takeD (i := 2) (some 19) (v := ?v2_14) rfl rfl (by kernel_rfl) (by kernel_rfl) (by kernel_rfl) (fun _ _ _ h => h) (by rfl) ?y2_14 (by assumption) ?r2_14
          case y2_14 => (intro w hSw; (try dsimp only at hSw); first | (go_simp; done) | (go_simp; with_reducible rfl))
          try simp only [Act.put, List.setIfInBounds_toArray, List.set_cons_zero, List.set_cons_succ]
          refine wpAnyH_takeD (i := 3) (some 20) (v := ?v3_15) rfl rfl (by kernel_rfl) (by kernel_rfl) (by kernel_rfl) (fun _ _ _ h => h) (by rfl) ?y3_15 (by assumption) ?r3_15
          case y3_15 => (intro w hSw; (try dsimp only at hSw); first | (go_simp; done) | (go_simp; with_reducible rfl))
          try simp only [Act.put, List.setIfInBounds_toArray, List.set_cons_zero, List.set_cons_succ]
          refine wpAnyH_takeD (i := 4) (some 21) (v := .string ⟨sa.toArray⟩) rfl rfl (by kernel_rfl) (by kernel_rfl) (by kernel_rfl) (fun _ _ _ h => h) (by rfl) ?y4_16 (by assumption) ?r4_16
          case y4_16 => (intro w hSw; exact run_convert_op (x := .tmp 20) rfl rfl (conv_str hSw.2.2 (Reads.of_sl mem2)))
          try simp only [Act.put, List.setIfInBounds_toArray, List.set_cons_zero, List.set_cons_succ]
          refine wpAnyH_takeD (i := 5) (some 22) (v := ?v5_17) rfl rfl (by kernel_rfl) (by kernel_rfl) (by kernel_rfl) (fun _ _ _ h => h) (by rfl) ?y5_17 (by assumption) ?r5_17
          case y5_17 => (intro w hSw; (try dsimp only at hSw); first | (go_simp; done) | (go_simp; with_reducible rfl))
          try simp only [Act.put, List.setIfInBounds_toArray, List.set_cons_zero, List.set_cons_succ]
          refine wpAnyH_takeD (i := 6) (some 23) (v := ?v6_18) rfl rfl (by kernel_rfl) (by kernel_rfl) (by kernel_rfl) (fun _ _ _ h => h) (by rfl) ?y6_18 (by assumption) ?r6_18
          case y6_18 => (intro w hSw; (try dsimp only at hSw); first | (go_simp; done) | (go_simp; with_reducible rfl))
          try simp only [Act.put, List.setIfInBounds_toArray, List.set_cons_zero, List.set_cons_succ]
          refine wpAnyH_takeD (i := 7) (some 24) (v := ?v7_19) rfl rfl (by kernel_rfl) (by kernel_rfl) (by kernel_rfl) (fun _ _ _ h => h) (by rfl) ?y7_19 (by assumption) ?r7_19
          case y7_19 => (intro w hSw; (try dsimp only at hSw); first | (go_simp; done) | (go_simp; with_reducible rfl))
          try simp only [Act.put, List.setIfInBounds_toArray, List.set_cons_zero, List.set_cons_succ]
          refine wpAnyH_takeD (i := 8) (some 25) (v := ?v8_20) rfl rfl (by kernel_rfl) (by kernel_rfl) (by kernel_rfl) (fun _ _ _ h => h) (by rfl) ?y8_20 (by assumption) ?r8_20
          case y8_20 => (intro w hSw; (try dsimp only at hSw); first | (go_simp; done) | (go_simp; with_reducible rfl))
          try simp only [Act.put, List.setIfInBounds_toArray, List.set_cons_zero, List.set_cons_succ]
          refine wpAnyH_takeD (i := 9) (some 26) (v := .string ⟨sb.toArray⟩) rfl rfl (by kernel_rfl) (by kernel_rfl) (by kernel_rfl) (fun _ _ _ h => h) (by rfl) ?y9_21 (by assumption) ?r9_21
          case y9_21 => (intro w hSw; exact run_convert_op (x := .tmp 25) rfl rfl (conv_str hSw.2.2 (Reads.of_sl mem0)))
          try simp only [Act.put, List.setIfInBounds_toArray, List.set_cons_zero, List.set_cons_succ]
          refine wpAnyH_takeD (i := 10) (some 27) (v := ?v10_22) rfl rfl (by kernel_rfl) (by kernel_rfl) (by kernel_rfl) (fun _ _ _ h => h) (by rfl) ?y10_22 (by assumption) ?r10_22
          case y10_22 => (intro w hSw; (try dsimp only at hSw); first | (go_simp; done) | (go_simp; with_reducible rfl))
          try simp only [Act.put, List.setIfInBounds_toArray, List.set_cons_zero, List.set_cons_succ]
          refine wpAnyH_done (by kernel_rfl) ?_ _
          have H3 := hide hHeld.2.2
          clear hHeld H2
          go_wp2_with fail
          go_ret
          exact ⟨by rw [decide_eq_false (fun h => HE.out (by rw [← HSA.out, ← HSB.out]; subst h; rfl))]; rfl, H3.out.drop.drop.drop.drop⟩
      · have hke : k = n := by omega
        have hab : A = B := by
          have := HT.out
          rw [hke, List.take_of_length_le (by rw [HN.out]; omega), List.take_of_length_le (by rw [HM.out]; omega)] at this
          exact this
        have HAB := hide hab
        have H2 := hide hs
        clear hs hab
        go_wp2_with fail
        go_ret
        exact ⟨by rw [decide_eq_true HAB.out]; rfl, H2.out⟩
  · have hne : ((n : Int) != (m : Int)) = true := by rw [bne_iff_ne]; omega
    have hneb : ((n : Int) == (m : Int)) = false := by rw [beq_eq_false_iff_ne]; omega
    have hAB : A ≠ B := fun h => hnm (by rw [← HN.out, ← HM.out, h])
    have HAB := hide hAB
    clear hAB
    go_enter Try.func18, Try.ntmps18
    go_wp2_with fail
    go_ret
    exact ⟨by rw [decide_eq_false HAB.out]; rfl, H.out⟩
end Go.Proofs.Ythecdkbagjpboaa
