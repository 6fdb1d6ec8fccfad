/-
  deadboltref3: Open of a disk without Parts.
-/
import Derived.Test.YthecdkbagjpboaaV6
namespace Go.Proofs.Ythecdkbagjpboaa
open Go.RowKit Go.Maps Go.MapKept
variable {b : Env} {L : List HP} {w : World}
theorem rsize_st {gx : Nat} {r : Rk} (h : St b (HP.ref gx r :: L) w) : Calls Try.prog 42 #[.pointer (some ⟨gx, 0, none⟩)] w fun x w' => x = .returned (.int .i64 r.now.length) ∧ w = w' := by
  obtain ⟨e, hl, hs⟩ := h
  exact rsize_calls hs
theorem rbuild_log (gx : Nat) (w : World) : (Instr.build 90 #[(0, .pointer (some ⟨gx, 0, none⟩))]).run Try.prog w = .ok (.agg #[.pointer (some ⟨gx, 0, none⟩), .int .i64 0, .int .i64 0, .int .i64 0, .int .i64 0, .int .i64 0]) w := by kernel_rfl
def ROpA (b : Env) (L : List HP) (gx gl : Nat) (r : Rk) (m : Nat) (i : Value) (wr : World) : Prop := ∃ k : Nat, k ≤ m ∧ i = .int .i64 k ∧ St b (HP.ref gx r :: HP.blk gl (.cells ([.pointer (some ⟨gx, 0, none⟩), .int .i64 0, .int .i64 0, .int .i64 0, .int .i64 0, .int .i64 0] : List Value).toArray 90) :: L) wr
set_option linter.unusedSimpArgs false in
set_option maxRecDepth 100000 in
set_option maxHeartbeats 4000000 in
theorem ropen_empty {gx : Nat} {r : Rk} {N : Nat} (h : St b (HP.ref gx r :: L) w) (hOk : r.Ok) (hN : r.now.length = N) (hN8 : 8 ≤ N) (hN2 : N ≤ 256) (hR : ∀ i : Int, 0 ≤ i → i < N → r.readR i = 0 ∧ (r.readB i).length = 64 ∧ parseB (r.readB i) = none) :
    Calls Try.prog 21 #[.pointer (some ⟨gx, 0, none⟩)] w fun x w' => ∃ gl, x = .returned (.tuple #[.pointer (some ⟨gl, 0, none⟩), .slice none 0 0, .int .i64 0]) ∧ St b (HP.ref gx r :: L) w' := by
  have hNI : (8 : Int) ≤ N := by omega
  have hNJ : (N : Int) ≤ 256 := by omega
  have hbl := rbuild_log gx
  have H := hide h
  have HOK := hide hOk
  have HN := hide hN
  have HR := hide hR
  have HR0 := hide (hR 0 (by omega) (by omega))
  clear h hOk hN hR
  go_enter Try.func21, Try.ntmps21
  go_wp2_with (first
    | (go_at_call 41; refine (rread_st H.out HOK.out 0).mono ?_; rintro z w2 ⟨b3, c3, rfl, h3⟩; rw [HR0.out.1]; have H3 := hide h3.drop; clear h3 H)
    | ((with_reducible refine wpList_box_st (cs := [.pointer (some ⟨gx, 0, none⟩), .int .i64 0, .int .i64 0, .int .i64 0, .int .i64 0, .int .i64 0]) rfl (.tmp 31) rfl rfl H3.out ?_); intro gl w4 h4; have H4 := hide h4.f1; clear h4 H3)
    | (go_at_call 42; refine (rsize_st H4.out).mono ?_; rintro z w5 ⟨rfl, hw5⟩; subst hw5; rw [HN.out]))
  go_loopw [9] (fun i wr => ROpA b L gx gl r N i wr) (fun i _ => N - (intOf i).toNat)
  case atStart => exact ⟨0, by omega, rfl, H4.out⟩
  case round =>
    obtain ⟨k, hk, rfl, hs⟩ := hrel
    have H5 := hide hs
    clear hs H4
    by_cases hlt : k < N
    · have hlt' : (k : Int) < N := by omega
      go_wp2_with (first
        | (go_at_call 42; refine (rsize_st H5.out).mono ?_; rintro z w5 ⟨rfl, hw5⟩; subst hw5; rw [HN.out])
        | (go_at_call 43; have hr9 := HR.out ((k : Int)) (by omega) (by omega); refine (rpart_calls H5.out HOK.out ((k : Int)) hr9.1 rfl hr9.2.1).mono ?_; rintro z w4 (⟨p9, v9, hp9, rfl, h4⟩ | ⟨hp9, rfl, h4⟩); (rw [hr9.2.2] at hp9; cases hp9); clear hp9 hr9; have H6 := hide h4; clear h4 H5)
        | ((with_reducible refine wpList_alloc_ag rfl agPartX rfl H6.out ?_); intro g2 w1 h1; have H7 := hide h1; clear h1 H6)
        | ((with_reducible refine wpList_store_ag (cs := [.int .i64 0, .int .i64 0, .int .i64 0, .int .i64 0, .slice none 0 0]) rfl agPartX (.tmp 10) (.tmp 46) rfl rfl rfl rfl rfl ONE0.out H7.out ?_); intro w20 h20; have H8 := hide h20.drop; clear h20 H7))
      refine wp_region_held_drew (S := fun _ => True) (by kernel_rfl) ?_ (fun hHeld => ?_)
      · trivial
      refine wpAnyH_takeD (i := 0) (some 48) (v := ?v0_1) rfl rfl (by kernel_rfl) (by kernel_rfl) (by kernel_rfl) (fun _ _ _ h => h) (by rfl) ?y0_1 (by assumption) ?r0_1
      case y0_1 => (intro w hSw; (try dsimp only at hSw); first | (go_simp; done) | (go_simp; with_reducible rfl))
      try simp only [Act.put, List.setIfInBounds_toArray, List.set_cons_zero, List.set_cons_succ]
      refine wpAnyH_takeD (i := 1) (some 49) (v := ?v1_2) rfl rfl (by kernel_rfl) (by kernel_rfl) (by kernel_rfl) (fun _ _ _ h => h) (by rfl) ?y1_2 (by assumption) ?r1_2
      case y1_2 => (intro w hSw; (try dsimp only at hSw); first | (go_simp; done) | (go_simp; with_reducible rfl))
      try simp only [Act.put, List.setIfInBounds_toArray, List.set_cons_zero, List.set_cons_succ]
      refine wpAnyH_skipD (i := 2) (some 50) rfl rfl (by kernel_rfl) (by kernel_rfl) (by kernel_rfl) (fun _ _ _ h => h) (by rfl) (by assumption) ?r2_3
      try simp only [Act.put, List.setIfInBounds_toArray, List.set_cons_zero, List.set_cons_succ]
      refine wpAnyH_skipD (i := 3) (some 51) rfl rfl (by kernel_rfl) (by kernel_rfl) (by kernel_rfl) (fun _ _ _ h => h) (by rfl) (by assumption) ?r3_4
      try simp only [Act.put, List.setIfInBounds_toArray, List.set_cons_zero, List.set_cons_succ]
      refine wpAnyH_skipD (i := 4) (some 52) rfl rfl (by kernel_rfl) (by kernel_rfl) (by kernel_rfl) (fun _ _ _ h => h) (by rfl) (by assumption) ?r4_5
      try simp only [Act.put, List.setIfInBounds_toArray, List.set_cons_zero, List.set_cons_succ]
      refine wpAnyH_skipD (i := 5) (some 53) rfl rfl (by kernel_rfl) (by kernel_rfl) (by kernel_rfl) (fun _ _ _ h => h) (by rfl) (by assumption) ?r5_6
      try simp only [Act.put, List.setIfInBounds_toArray, List.set_cons_zero, List.set_cons_succ]
      refine wpAnyH_skipD (i := 6) (some 54) rfl rfl (by kernel_rfl) (by kernel_rfl) (by kernel_rfl) (fun _ _ _ h => h) (by rfl) (by assumption) ?r6_7
      try simp only [Act.put, List.setIfInBounds_toArray, List.set_cons_zero, List.set_cons_succ]
      refine wpAnyH_skipD (i := 7) (some 55) rfl rfl (by kernel_rfl) (by kernel_rfl) (by kernel_rfl) (fun _ _ _ h => h) (by rfl) (by assumption) ?r7_8
      try simp only [Act.put, List.setIfInBounds_toArray, List.set_cons_zero, List.set_cons_succ]
      refine wpAnyH_skipD (i := 8) (some 56) rfl rfl (by kernel_rfl) (by kernel_rfl) (by kernel_rfl) (fun _ _ _ h => h) (by rfl) (by assumption) ?r8_9
      try simp only [Act.put, List.setIfInBounds_toArray, List.set_cons_zero, List.set_cons_succ]
      refine wpAnyH_takeD (i := 9) (some 57) (v := ?v9_10) rfl rfl (by kernel_rfl) (by kernel_rfl) (by kernel_rfl) (fun _ _ _ h => h) (by rfl) ?y9_10 (by assumption) ?r9_10
      case y9_10 => (intro w hSw; (try dsimp only at hSw); first | (go_simp; done) | (go_simp; with_reducible rfl))
      try simp only [Act.put, List.setIfInBounds_toArray, List.set_cons_zero, List.set_cons_succ]
      refine wpAnyH_done (by kernel_rfl) ?_ _
      go_wp2_with fail
      go_roundw
      case rel => exact ⟨k + 1, by omega, by go_num, H8.out.drew⟩
      case measure => exact meas_step hlt
    · have hkN : k = N := by omega
      subst hkN
      go_wp2_with (first
        | (go_at_call 42; refine (rsize_st H5.out).mono ?_; rintro z w5 ⟨rfl, hw5⟩; subst hw5; rw [HN.out]))
      go_loopw [12] (fun i wr => ROpA b L gx gl r 2 i wr) (fun i _ => 2 - (intOf i).toNat)
      case atStart => exact ⟨0, by omega, rfl, H5.out⟩
      case round =>
        obtain ⟨j, hj, rfl, hs⟩ := hrel
        have c2 : wr.cell? ⟨gl, 2, none⟩ = some (.int .i64 0) := hs.blk_cell mem1 2
        have H6 := hide hs
        clear hs H5
        have hj3 : j = 0 ∨ j = 1 ∨ j = 2 := by omega
        rcases hj3 with rfl | rfl | rfl
        · have hlt2 : ((0 : Nat) : Int) < 2 := by omega
          go_wp2_with (first
            | (go_at_call 43; have hr9 := HR.out ((0 : Int)) (by omega) (by omega); refine (rpart_calls H6.out HOK.out ((0 : Int)) hr9.1 rfl hr9.2.1).mono ?_; rintro z w4 (⟨p9, v9, hp9, rfl, h4⟩ | ⟨hp9, rfl, h4⟩); (rw [hr9.2.2] at hp9; cases hp9); clear hp9 hr9; have H7 := hide h4; clear h4 H6)
            | ((with_reducible refine wpList_alloc_ag rfl agPartX rfl H7.out ?_); intro g2 w1 h1; have H8 := hide h1; clear h1 H7)
            | ((with_reducible refine wpList_store_ag (cs := [.int .i64 0, .int .i64 0, .int .i64 0, .int .i64 0, .slice none 0 0]) rfl agPartX (.tmp 13) (.tmp 73) rfl rfl rfl rfl rfl ONE0.out H8.out ?_); intro w20 h20; have H9 := hide h20.drop; clear h20 H8)
            | (go_at_call 44; have hr9 := HR.out ((0 : Int)) (by omega) (by omega); refine (rrecord_none H9.out HOK.out ((0 : Int)) ((k : Int) / 2) 0 0 (by omega) hr9.1 rfl hr9.2.1 hr9.2.2).mono ?_; rintro z w4 ⟨rfl, h4⟩; clear hr9; have H10 := hide h4; clear h4 H9))
          refine wp_region_held_drew (S := fun _ => True) (by kernel_rfl) ?_ (fun hHeld => ?_)
          · trivial
          refine wpAnyH_takeD (i := 0) (some 88) (v := ?v0_11) rfl rfl (by kernel_rfl) (by kernel_rfl) (by kernel_rfl) (fun _ _ _ h => h) (by rfl) ?y0_11 (by assumption) ?r0_11
          case y0_11 => (intro w hSw; (try dsimp only at hSw); first | (go_simp; done) | (go_simp; with_reducible rfl))
          try simp only [Act.put, List.setIfInBounds_toArray, List.set_cons_zero, List.set_cons_succ]
          refine wpAnyH_takeD (i := 1) (some 89) (v := ?v1_12) rfl rfl (by kernel_rfl) (by kernel_rfl) (by kernel_rfl) (fun _ _ _ h => h) (by rfl) ?y1_12 (by assumption) ?r1_12
          case y1_12 => (intro w hSw; (try dsimp only at hSw); first | (go_simp; done) | (go_simp; with_reducible rfl))
          try simp only [Act.put, List.setIfInBounds_toArray, List.set_cons_zero, List.set_cons_succ]
          refine wpAnyH_skipD (i := 2) (some 90) rfl rfl (by kernel_rfl) (by kernel_rfl) (by kernel_rfl) (fun _ _ _ h => h) (by rfl) (by assumption) ?r2_13
          try simp only [Act.put, List.setIfInBounds_toArray, List.set_cons_zero, List.set_cons_succ]
          refine wpAnyH_skipD (i := 3) (some 91) rfl rfl (by kernel_rfl) (by kernel_rfl) (by kernel_rfl) (fun _ _ _ h => h) (by rfl) (by assumption) ?r3_14
          try simp only [Act.put, List.setIfInBounds_toArray, List.set_cons_zero, List.set_cons_succ]
          refine wpAnyH_skipD (i := 4) (some 92) rfl rfl (by kernel_rfl) (by kernel_rfl) (by kernel_rfl) (fun _ _ _ h => h) (by rfl) (by assumption) ?r4_15
          try simp only [Act.put, List.setIfInBounds_toArray, List.set_cons_zero, List.set_cons_succ]
          refine wpAnyH_skipD (i := 5) (some 93) rfl rfl (by kernel_rfl) (by kernel_rfl) (by kernel_rfl) (fun _ _ _ h => h) (by rfl) (by assumption) ?r5_16
          try simp only [Act.put, List.setIfInBounds_toArray, List.set_cons_zero, List.set_cons_succ]
          refine wpAnyH_skipD (i := 6) (some 94) rfl rfl (by kernel_rfl) (by kernel_rfl) (by kernel_rfl) (fun _ _ _ h => h) (by rfl) (by assumption) ?r6_17
          try simp only [Act.put, List.setIfInBounds_toArray, List.set_cons_zero, List.set_cons_succ]
          refine wpAnyH_skipD (i := 7) (some 95) rfl rfl (by kernel_rfl) (by kernel_rfl) (by kernel_rfl) (fun _ _ _ h => h) (by rfl) (by assumption) ?r7_18
          try simp only [Act.put, List.setIfInBounds_toArray, List.set_cons_zero, List.set_cons_succ]
          refine wpAnyH_skipD (i := 8) (some 96) rfl rfl (by kernel_rfl) (by kernel_rfl) (by kernel_rfl) (fun _ _ _ h => h) (by rfl) (by assumption) ?r8_19
          try simp only [Act.put, List.setIfInBounds_toArray, List.set_cons_zero, List.set_cons_succ]
          refine wpAnyH_takeD (i := 9) (some 97) (v := ?v9_20) rfl rfl (by kernel_rfl) (by kernel_rfl) (by kernel_rfl) (fun _ _ _ h => h) (by rfl) ?y9_20 (by assumption) ?r9_20
          case y9_20 => (intro w hSw; (try dsimp only at hSw); first | (go_simp; done) | (go_simp; with_reducible rfl))
          try simp only [Act.put, List.setIfInBounds_toArray, List.set_cons_zero, List.set_cons_succ]
          refine wpAnyH_done (by kernel_rfl) ?_ _
          go_wp2_with fail
          go_roundw
          case rel => exact ⟨1, by omega, rfl, H10.out.drew⟩
          case measure => decide
        · have hlt2 : ((1 : Nat) : Int) < 2 := by omega
          go_wp2_with (first
            | (go_at_call 43; have hr9 := HR.out ((k : Int) / 2) (by omega) (by omega); refine (rpart_calls H6.out HOK.out ((k : Int) / 2) hr9.1 rfl hr9.2.1).mono ?_; rintro z w4 (⟨p9, v9, hp9, rfl, h4⟩ | ⟨hp9, rfl, h4⟩); (rw [hr9.2.2] at hp9; cases hp9); clear hp9 hr9; have H7 := hide h4; clear h4 H6)
            | ((with_reducible refine wpList_alloc_ag rfl agPartX rfl H7.out ?_); intro g2 w1 h1; have H8 := hide h1; clear h1 H7)
            | ((with_reducible refine wpList_store_ag (cs := [.int .i64 0, .int .i64 0, .int .i64 0, .int .i64 0, .slice none 0 0]) rfl agPartX (.tmp 13) (.tmp 73) rfl rfl rfl rfl rfl ONE0.out H8.out ?_); intro w20 h20; have H9 := hide h20.drop; clear h20 H8)
            | (go_at_call 44; have hr9 := HR.out ((k : Int) / 2) (by omega) (by omega); refine (rrecord_none H9.out HOK.out ((k : Int) / 2) (2 * ((k : Int) / 2)) 0 0 (by omega) hr9.1 rfl hr9.2.1 hr9.2.2).mono ?_; rintro z w4 ⟨rfl, h4⟩; clear hr9; have H10 := hide h4; clear h4 H9))
          refine wp_region_held_drew (S := fun _ => True) (by kernel_rfl) ?_ (fun hHeld => ?_)
          · trivial
          refine wpAnyH_takeD (i := 0) (some 88) (v := ?v0_21) rfl rfl (by kernel_rfl) (by kernel_rfl) (by kernel_rfl) (fun _ _ _ h => h) (by rfl) ?y0_21 (by assumption) ?r0_21
          case y0_21 => (intro w hSw; (try dsimp only at hSw); first | (go_simp; done) | (go_simp; with_reducible rfl))
          try simp only [Act.put, List.setIfInBounds_toArray, List.set_cons_zero, List.set_cons_succ]
          refine wpAnyH_takeD (i := 1) (some 89) (v := ?v1_22) rfl rfl (by kernel_rfl) (by kernel_rfl) (by kernel_rfl) (fun _ _ _ h => h) (by rfl) ?y1_22 (by assumption) ?r1_22
          case y1_22 => (intro w hSw; (try dsimp only at hSw); first | (go_simp; done) | (go_simp; with_reducible rfl))
          try simp only [Act.put, List.setIfInBounds_toArray, List.set_cons_zero, List.set_cons_succ]
          refine wpAnyH_skipD (i := 2) (some 90) rfl rfl (by kernel_rfl) (by kernel_rfl) (by kernel_rfl) (fun _ _ _ h => h) (by rfl) (by assumption) ?r2_23
          try simp only [Act.put, List.setIfInBounds_toArray, List.set_cons_zero, List.set_cons_succ]
          refine wpAnyH_skipD (i := 3) (some 91) rfl rfl (by kernel_rfl) (by kernel_rfl) (by kernel_rfl) (fun _ _ _ h => h) (by rfl) (by assumption) ?r3_24
          try simp only [Act.put, List.setIfInBounds_toArray, List.set_cons_zero, List.set_cons_succ]
          refine wpAnyH_skipD (i := 4) (some 92) rfl rfl (by kernel_rfl) (by kernel_rfl) (by kernel_rfl) (fun _ _ _ h => h) (by rfl) (by assumption) ?r4_25
          try simp only [Act.put, List.setIfInBounds_toArray, List.set_cons_zero, List.set_cons_succ]
          refine wpAnyH_skipD (i := 5) (some 93) rfl rfl (by kernel_rfl) (by kernel_rfl) (by kernel_rfl) (fun _ _ _ h => h) (by rfl) (by assumption) ?r5_26
          try simp only [Act.put, List.setIfInBounds_toArray, List.set_cons_zero, List.set_cons_succ]
          refine wpAnyH_skipD (i := 6) (some 94) rfl rfl (by kernel_rfl) (by kernel_rfl) (by kernel_rfl) (fun _ _ _ h => h) (by rfl) (by assumption) ?r6_27
          try simp only [Act.put, List.setIfInBounds_toArray, List.set_cons_zero, List.set_cons_succ]
          refine wpAnyH_skipD (i := 7) (some 95) rfl rfl (by kernel_rfl) (by kernel_rfl) (by kernel_rfl) (fun _ _ _ h => h) (by rfl) (by assumption) ?r7_28
          try simp only [Act.put, List.setIfInBounds_toArray, List.set_cons_zero, List.set_cons_succ]
          refine wpAnyH_skipD (i := 8) (some 96) rfl rfl (by kernel_rfl) (by kernel_rfl) (by kernel_rfl) (fun _ _ _ h => h) (by rfl) (by assumption) ?r8_29
          try simp only [Act.put, List.setIfInBounds_toArray, List.set_cons_zero, List.set_cons_succ]
          refine wpAnyH_takeD (i := 9) (some 97) (v := ?v9_30) rfl rfl (by kernel_rfl) (by kernel_rfl) (by kernel_rfl) (fun _ _ _ h => h) (by rfl) ?y9_30 (by assumption) ?r9_30
          case y9_30 => (intro w hSw; (try dsimp only at hSw); first | (go_simp; done) | (go_simp; with_reducible rfl))
          try simp only [Act.put, List.setIfInBounds_toArray, List.set_cons_zero, List.set_cons_succ]
          refine wpAnyH_done (by kernel_rfl) ?_ _
          go_wp2_with fail
          go_roundw
          case rel => exact ⟨2, by omega, rfl, H10.out.drew⟩
          case measure => decide
        · go_wp2_with fail
          go_ret3
          exact ⟨gl, rfl, H6.out.d1⟩
end Go.Proofs.Ythecdkbagjpboaa
