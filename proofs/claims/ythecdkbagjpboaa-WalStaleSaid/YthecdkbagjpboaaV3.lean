/-
  deadboltref2: Bytes.
-/
import Derived.Test.YthecdkbagjpboaaV2
namespace Go.Proofs.Ythecdkbagjpboaa
open Go.RowKit Go.Maps Go.MapKept
variable {b : Env} {L : List HP} {w : World}
set_option linter.unusedSimpArgs false in
set_option maxRecDepth 100000 in
set_option maxHeartbeats 4000000 in
theorem rbytes_bad1 {v : Value} {gen rc n of : Nat} (h : St b L w) (_b1 : gen ≤ 4294967295) (_b2 : rc ≤ 65535) (_b3 : of ≤ 255) (_b4 : n ≤ 255) (hb : gen = 0) :
    Calls Try.prog 46 #[.agg #[.int .i64 (gen : Nat), .int .i64 (rc : Nat), .int .i64 (n : Nat), .int .i64 (of : Nat), v]] w fun x w' => x = .returned (.tuple #[.slice none 0 0, .int .i64 1]) ∧ St b L w' := by
  have H := hide h
  have c1 : ¬ (4294967295 : Int) < (gen : Nat) := by omega
  have c2 : ¬ ((rc : Nat) : Int) < 0 := by omega
  have c3 : ¬ (65535 : Int) < (rc : Nat) := by omega
  have c4 : ¬ (255 : Int) < (of : Nat) := by omega
  have c5 : ¬ ((n : Nat) : Int) < 0 := by omega
  have d1 : ((gen : Nat) : Int) < 1 := by omega
  clear h
  go_enter Try.func46, Try.ntmps46
  go_wp2_with (first
    | ((with_reducible refine wpList_box_st (cs := [.int .i64 (gen : Nat), .int .i64 (rc : Nat), .int .i64 (n : Nat), .int .i64 (of : Nat), v]) rfl (.tmp 0) rfl rfl H.out ?_); intro g1 w1 h1; have p0 : w1.cell? ⟨g1, 0, none⟩ = some (.int .i64 (gen : Nat)) := h1.blk_cell mem0 0; have p1 : w1.cell? ⟨g1, 1, none⟩ = some (.int .i64 (rc : Nat)) := h1.blk_cell mem0 1; have p2 : w1.cell? ⟨g1, 2, none⟩ = some (.int .i64 (n : Nat)) := h1.blk_cell mem0 2; have p3 : w1.cell? ⟨g1, 3, none⟩ = some (.int .i64 (of : Nat)) := h1.blk_cell mem0 3; have p4 : w1.cell? ⟨g1, 4, none⟩ = some v := h1.blk_cell mem0 4; have H1 := hide h1; clear h1 H))
  go_ret2
  exact ⟨rfl, H1.out.drop⟩
set_option linter.unusedSimpArgs false in
set_option maxRecDepth 100000 in
set_option maxHeartbeats 4000000 in
theorem rbytes_bad2 {v : Value} {gen rc n of : Nat} (h : St b L w) (_b1 : gen ≤ 4294967295) (_b2 : rc ≤ 65535) (_b3 : of ≤ 255) (_b4 : n ≤ 255) (ha : 1 ≤ gen) (hb : of = 0) :
    Calls Try.prog 46 #[.agg #[.int .i64 (gen : Nat), .int .i64 (rc : Nat), .int .i64 (n : Nat), .int .i64 (of : Nat), v]] w fun x w' => x = .returned (.tuple #[.slice none 0 0, .int .i64 1]) ∧ St b L w' := by
  have H := hide h
  have c1 : ¬ (4294967295 : Int) < (gen : Nat) := by omega
  have c2 : ¬ ((rc : Nat) : Int) < 0 := by omega
  have c3 : ¬ (65535 : Int) < (rc : Nat) := by omega
  have c4 : ¬ (255 : Int) < (of : Nat) := by omega
  have c5 : ¬ ((n : Nat) : Int) < 0 := by omega
  have d1 : ¬ ((gen : Nat) : Int) < 1 := by omega
  have d2 : ((of : Nat) : Int) < 1 := by omega
  clear h
  go_enter Try.func46, Try.ntmps46
  go_wp2_with (first
    | ((with_reducible refine wpList_box_st (cs := [.int .i64 (gen : Nat), .int .i64 (rc : Nat), .int .i64 (n : Nat), .int .i64 (of : Nat), v]) rfl (.tmp 0) rfl rfl H.out ?_); intro g1 w1 h1; have p0 : w1.cell? ⟨g1, 0, none⟩ = some (.int .i64 (gen : Nat)) := h1.blk_cell mem0 0; have p1 : w1.cell? ⟨g1, 1, none⟩ = some (.int .i64 (rc : Nat)) := h1.blk_cell mem0 1; have p2 : w1.cell? ⟨g1, 2, none⟩ = some (.int .i64 (n : Nat)) := h1.blk_cell mem0 2; have p3 : w1.cell? ⟨g1, 3, none⟩ = some (.int .i64 (of : Nat)) := h1.blk_cell mem0 3; have p4 : w1.cell? ⟨g1, 4, none⟩ = some v := h1.blk_cell mem0 4; have H1 := hide h1; clear h1 H))
  go_ret2
  exact ⟨rfl, H1.out.drop⟩
set_option linter.unusedSimpArgs false in
set_option maxRecDepth 100000 in
set_option maxHeartbeats 4000000 in
theorem rbytes_bad3 {v : Value} {gen rc n of : Nat} (h : St b L w) (_b1 : gen ≤ 4294967295) (_b2 : rc ≤ 65535) (_b3 : of ≤ 255) (_b4 : n ≤ 255) (ha : 1 ≤ gen) (hb : 1 ≤ of) (hc : of ≤ n) :
    Calls Try.prog 46 #[.agg #[.int .i64 (gen : Nat), .int .i64 (rc : Nat), .int .i64 (n : Nat), .int .i64 (of : Nat), v]] w fun x w' => x = .returned (.tuple #[.slice none 0 0, .int .i64 1]) ∧ St b L w' := by
  have H := hide h
  have c1 : ¬ (4294967295 : Int) < (gen : Nat) := by omega
  have c2 : ¬ ((rc : Nat) : Int) < 0 := by omega
  have c3 : ¬ (65535 : Int) < (rc : Nat) := by omega
  have c4 : ¬ (255 : Int) < (of : Nat) := by omega
  have c5 : ¬ ((n : Nat) : Int) < 0 := by omega
  have d1 : ¬ ((gen : Nat) : Int) < 1 := by omega
  have d2 : ¬ ((of : Nat) : Int) < 1 := by omega
  have d3 : ((of : Nat) : Int) ≤ n := by omega
  clear h
  go_enter Try.func46, Try.ntmps46
  go_wp2_with (first
    | ((with_reducible refine wpList_box_st (cs := [.int .i64 (gen : Nat), .int .i64 (rc : Nat), .int .i64 (n : Nat), .int .i64 (of : Nat), v]) rfl (.tmp 0) rfl rfl H.out ?_); intro g1 w1 h1; have p0 : w1.cell? ⟨g1, 0, none⟩ = some (.int .i64 (gen : Nat)) := h1.blk_cell mem0 0; have p1 : w1.cell? ⟨g1, 1, none⟩ = some (.int .i64 (rc : Nat)) := h1.blk_cell mem0 1; have p2 : w1.cell? ⟨g1, 2, none⟩ = some (.int .i64 (n : Nat)) := h1.blk_cell mem0 2; have p3 : w1.cell? ⟨g1, 3, none⟩ = some (.int .i64 (of : Nat)) := h1.blk_cell mem0 3; have p4 : w1.cell? ⟨g1, 4, none⟩ = some v := h1.blk_cell mem0 4; have H1 := hide h1; clear h1 H))
  go_ret2
  exact ⟨rfl, H1.out.drop⟩
theorem rbytes_bad {v : Value} {p : PartR} (h : St b L w) (b1 : p.gen ≤ 4294967295) (b2 : p.rc ≤ 65535) (b3 : p.of ≤ 255) (b4 : p.n ≤ 255) (b5 : p.data.length = 52) (hb : okP p = false) :
    Calls Try.prog 46 #[.agg #[.int .i64 (p.gen : Nat), .int .i64 (p.rc : Nat), .int .i64 (p.n : Nat), .int .i64 (p.of : Nat), v]] w fun x w' => x = .returned (.tuple #[.slice none 0 0, .int .i64 1]) ∧ St b L w' := by
  by_cases h1 : p.gen = 0
  · exact rbytes_bad1 h b1 b2 b3 b4 h1
  · by_cases h2 : p.of = 0
    · exact rbytes_bad2 h b1 b2 b3 b4 (by omega) h2
    · by_cases h3 : p.of ≤ p.n
      · exact rbytes_bad3 h b1 b2 b3 b4 (by omega) (by omega) h3
      · exfalso
        have := (okP_iff p).2 ⟨by omega, b1, b2, by omega, b3, by omega, b5⟩
        rw [hb] at this; cases this
set_option linter.unusedSimpArgs false in
set_option maxRecDepth 100000 in
set_option maxHeartbeats 4000000 in
theorem rbytes_calls {v : Value} {p : PartR} (h : St b L w) (hm : HP.sl byteE v p.data ∈ L) (hok : p.ok) :
    Calls Try.prog 46 #[.agg #[.int .i64 (p.gen : Nat), .int .i64 (p.rc : Nat), .int .i64 (p.n : Nat), .int .i64 (p.of : Nat), v]] w fun x w' => ∃ b2 c2, x = .returned (.tuple #[.slice b2 64 c2, .int .i64 0]) ∧ St b (HP.rows 5 byteE (.slice b2 64 c2) (partB p) :: L) w' := by
  obtain ⟨gen, rc, n, of, data⟩ := p
  obtain ⟨o1, o2, o3, o4, o5, o6, o7⟩ := hok
  simp only at o1 o2 o3 o4 o5 o6 o7 hm ⊢
  obtain ⟨bd, cd, rfl, -⟩ := h.sl_form hm
  rw [o7] at hm ⊢
  have H := hide h
  have HM := hide hm
  have O7 := hide o7
  clear h hm o7
  have c1 : ¬ (4294967295 : Int) < (gen : Nat) := by omega
  have c2 : ¬ ((rc : Nat) : Int) < 0 := by omega
  have c3 : ¬ (65535 : Int) < (rc : Nat) := by omega
  have c4 : ¬ (255 : Int) < (of : Nat) := by omega
  have c5 : ¬ ((n : Nat) : Int) < 0 := by omega
  have d1 : ¬ ((gen : Nat) : Int) < 1 := by omega
  have d2 : ¬ ((of : Nat) : Int) < 1 := by omega
  have d3 : ¬ ((of : Nat) : Int) ≤ n := by omega
  go_enter Try.func46, Try.ntmps46
  go_wp2_with (first
    | ((with_reducible refine wpList_box_st (cs := [.int .i64 (gen : Nat), .int .i64 (rc : Nat), .int .i64 (n : Nat), .int .i64 (of : Nat), .slice bd 52 cd]) rfl (.tmp 0) rfl rfl H.out ?_); intro g1 w1 h1; have p0 : w1.cell? ⟨g1, 0, none⟩ = some (.int .i64 (gen : Nat)) := h1.blk_cell mem0 0; have p1 : w1.cell? ⟨g1, 1, none⟩ = some (.int .i64 (rc : Nat)) := h1.blk_cell mem0 1; have p2 : w1.cell? ⟨g1, 2, none⟩ = some (.int .i64 (n : Nat)) := h1.blk_cell mem0 2; have p3 : w1.cell? ⟨g1, 3, none⟩ = some (.int .i64 (of : Nat)) := h1.blk_cell mem0 3; have p4 : w1.cell? ⟨g1, 4, none⟩ = some (.slice bd 52 cd) := h1.blk_cell mem0 4; have H1 := hide h1; clear h1 H))
  refine wp_region_held_drew (S := fun w' => w'.cell? ⟨g1, 0, none⟩ = some (.int .i64 (gen : Nat)) ∧ w'.cell? ⟨g1, 1, none⟩ = some (.int .i64 (rc : Nat)) ∧ w'.cell? ⟨g1, 2, none⟩ = some (.int .i64 (n : Nat)) ∧ w'.cell? ⟨g1, 3, none⟩ = some (.int .i64 (of : Nat)) ∧ w'.cell? ⟨g1, 4, none⟩ = some (.slice bd 52 cd)) (by kernel_rfl) ?_ (fun hHeld => ?_)
  · exact ⟨H1.out.drew.blk_cell mem0 0, H1.out.drew.blk_cell mem0 1, H1.out.drew.blk_cell mem0 2, H1.out.drew.blk_cell mem0 3, H1.out.drew.blk_cell mem0 4⟩
  have Hxx := hide (H1.out.drew.rows_nil 5 byteE)
  refine wpAnyH_takeD (i := 0) (some 52) (v := ?v0_12) rfl rfl (by kernel_rfl) (by kernel_rfl) (by kernel_rfl) (fun _ _ _ h => h) (by rfl) ?y0_12 (by assumption) ?r0_12
  case y0_12 => (intro w hSw; (try dsimp only at hSw); first | (go_simp; done) | (go_simp; with_reducible rfl))
  try simp only [Act.put, List.setIfInBounds_toArray, List.set_cons_zero, List.set_cons_succ]
  refine wpAnyH_takeD (i := 1) (some 53) (v := ?v1_13) rfl rfl (by kernel_rfl) (by kernel_rfl) (by kernel_rfl) (fun _ _ _ h => h) (by rfl) ?y1_13 (by assumption) ?r1_13
  case y1_13 => (intro w hSw; (try dsimp only at hSw); first | (go_simp; done) | (go_simp; with_reducible rfl))
  try simp only [Act.put, List.setIfInBounds_toArray, List.set_cons_zero, List.set_cons_succ]
  refine wpAnyH_takeD (i := 3) (some 55) (v := ?v3_14) rfl rfl (by kernel_rfl) (by kernel_rfl) (by kernel_rfl) (fun _ _ _ h => h) (by rfl) ?y3_14 (by assumption) ?r3_14
  case y3_14 => (intro w hSw; (try dsimp only at hSw); first | (go_simp; done) | (go_simp; with_reducible rfl))
  try simp only [Act.put, List.setIfInBounds_toArray, List.set_cons_zero, List.set_cons_succ]
  refine wpAnyH_takeD (i := 4) (some 56) (v := ?v4_15) rfl rfl (by kernel_rfl) (by kernel_rfl) (by kernel_rfl) (fun _ _ _ h => h) (by rfl) ?y4_15 (by assumption) ?r4_15
  case y4_15 => (intro w hSw; (try dsimp only at hSw); first | (go_simp; done) | (go_simp; with_reducible rfl))
  try simp only [Act.put, List.setIfInBounds_toArray, List.set_cons_zero, List.set_cons_succ]
  refine wpAnyH_takeD (i := 6) (some 58) (v := ?v6_16) rfl rfl (by kernel_rfl) (by kernel_rfl) (by kernel_rfl) (fun _ _ _ h => h) (by rfl) ?y6_16 (by assumption) ?r6_16
  case y6_16 => (intro w hSw; (try dsimp only at hSw); first | (go_simp; done) | (go_simp; with_reducible rfl))
  try simp only [Act.put, List.setIfInBounds_toArray, List.set_cons_zero, List.set_cons_succ]
  refine wpAnyH_takeD (i := 7) (some 59) (v := ?v7_17) rfl rfl (by kernel_rfl) (by kernel_rfl) (by kernel_rfl) (fun _ _ _ h => h) (by rfl) ?y7_17 (by assumption) ?r7_17
  case y7_17 => (intro w hSw; (try dsimp only at hSw); first | (go_simp; done) | (go_simp; with_reducible rfl))
  try simp only [Act.put, List.setIfInBounds_toArray, List.set_cons_zero, List.set_cons_succ]
  refine wpAnyH_takeD (i := 9) (some 61) (v := ?v9_18) rfl rfl (by kernel_rfl) (by kernel_rfl) (by kernel_rfl) (fun _ _ _ h => h) (by rfl) ?y9_18 (by assumption) ?r9_18
  case y9_18 => (intro w hSw; (try dsimp only at hSw); first | (go_simp; done) | (go_simp; with_reducible rfl))
  try simp only [Act.put, List.setIfInBounds_toArray, List.set_cons_zero, List.set_cons_succ]
  refine wpAnyH_takeD (i := 10) (some 62) (v := ?v10_19) rfl rfl (by kernel_rfl) (by kernel_rfl) (by kernel_rfl) (fun _ _ _ h => h) (by rfl) ?y10_19 (by assumption) ?r10_19
  case y10_19 => (intro w hSw; (try dsimp only at hSw); first | (go_simp; done) | (go_simp; with_reducible rfl))
  try simp only [Act.put, List.setIfInBounds_toArray, List.set_cons_zero, List.set_cons_succ]
  refine wpAnyH_ready (rs := [2]) (by kernel_rfl) (by simp) ?_
  refine AllReadyH.cons rfl (fun K hK => ?_) ?_
  · go_simp
    go_at_call 66
    refine (rle_calls (xs := []) Hxx.out gen 4 (by omega) (by omega) (by first | decide | (simp only [List.length_append, leB_len, List.length_nil]; decide))).mono ?_
    rintro x w5 ⟨b4, c4, rfl, h5⟩
    have Hxxx := hide h5
    clear h5 Hxx
    refine hK.out _ _ ?_ (fun hHeld => ?_)
    · exact ⟨Hxxx.out.blk_cell mem1 0, Hxxx.out.blk_cell mem1 1, Hxxx.out.blk_cell mem1 2, Hxxx.out.blk_cell mem1 3, Hxxx.out.blk_cell mem1 4⟩
    clear hK K
    try simp only [Act.put, List.setIfInBounds_toArray, List.set_cons_zero, List.set_cons_succ]
    refine wpAnyH_ready (rs := [5]) (by kernel_rfl) (by simp) ?_
    refine AllReadyH.cons rfl (fun K hK => ?_) ?_
    · go_simp
      go_at_call 66
      refine (rle_calls (xs := ([] ++ leB gen 4)) Hxxx.out rc 2 (by omega) (by omega) (by first | decide | (simp only [List.length_append, leB_len, List.length_nil]; decide))).mono ?_
      rintro x w5 ⟨b5, c5, rfl, h5⟩
      have Hxxxx := hide h5
      clear h5 Hxxx
      refine hK.out _ _ ?_ (fun hHeld => ?_)
      · exact ⟨Hxxxx.out.blk_cell mem1 0, Hxxxx.out.blk_cell mem1 1, Hxxxx.out.blk_cell mem1 2, Hxxxx.out.blk_cell mem1 3, Hxxxx.out.blk_cell mem1 4⟩
      clear hK K
      try simp only [Act.put, List.setIfInBounds_toArray, List.set_cons_zero, List.set_cons_succ]
      refine wpAnyH_ready (rs := [8]) (by kernel_rfl) (by simp) ?_
      refine AllReadyH.cons rfl (fun K hK => ?_) ?_
      · go_simp
        go_at_call 66
        refine (rle_calls (xs := (([] ++ leB gen 4) ++ leB rc 2)) Hxxxx.out n 1 (by omega) (by omega) (by first | decide | (simp only [List.length_append, leB_len, List.length_nil]; decide))).mono ?_
        rintro x w5 ⟨b6, c6, rfl, h5⟩
        have Hxxxxx := hide h5
        clear h5 Hxxxx
        refine hK.out _ _ ?_ (fun hHeld => ?_)
        · exact ⟨Hxxxxx.out.blk_cell mem1 0, Hxxxxx.out.blk_cell mem1 1, Hxxxxx.out.blk_cell mem1 2, Hxxxxx.out.blk_cell mem1 3, Hxxxxx.out.blk_cell mem1 4⟩
        clear hK K
        try simp only [Act.put, List.setIfInBounds_toArray, List.set_cons_zero, List.set_cons_succ]
        refine wpAnyH_ready (rs := [11]) (by kernel_rfl) (by simp) ?_
        refine AllReadyH.cons rfl (fun K hK => ?_) ?_
        · go_simp
          go_at_call 66
          refine (rle_calls (xs := ((([] ++ leB gen 4) ++ leB rc 2) ++ leB n 1)) Hxxxxx.out of 1 (by omega) (by omega) (by first | decide | (simp only [List.length_append, leB_len, List.length_nil]; decide))).mono ?_
          rintro x w5 ⟨b7, c7, rfl, h5⟩
          have Hxxxxxx := hide h5
          clear h5 Hxxxxx
          refine hK.out _ _ ?_ (fun hHeld => ?_)
          · exact ⟨Hxxxxxx.out.blk_cell mem1 0, Hxxxxxx.out.blk_cell mem1 1, Hxxxxxx.out.blk_cell mem1 2, Hxxxxxx.out.blk_cell mem1 3, Hxxxxxx.out.blk_cell mem1 4⟩
          clear hK K
          try simp only [Act.put, List.setIfInBounds_toArray, List.set_cons_zero, List.set_cons_succ]
          refine wpAnyH_takeD (i := 12) (some 4) (v := ?v12_20) rfl rfl (by kernel_rfl) (by kernel_rfl) (by kernel_rfl) (fun _ _ _ h => h) (by rfl) ?y12_20 (by assumption) ?r12_20
          case y12_20 => (intro w hSw; (try dsimp only at hSw); first | (go_simp; done) | (go_simp; with_reducible rfl))
          try simp only [Act.put, List.setIfInBounds_toArray, List.set_cons_zero, List.set_cons_succ]
          refine wpAnyH_done (by kernel_rfl) ?_ _
          have h8 := Hxxxxxx.out
          have hx : ((([] ++ leB gen 4) ++ leB rc 2) ++ leB n 1) ++ leB of 1 = partHead ⟨gen, rc, n, of, data⟩ := by simp [partHead]
          rw [hx, partHead_len] at h8
          have e8 : List.length (leB gen 4) + (List.length (leB rc 2) + (List.length (leB n 1) + List.length (leB of 1))) = 8 := by simp [leB_len]
          rewrite [e8]
          have H8 := hide h8
          obtain ⟨C, hC⟩ : ∃ C, crcN (partHead ⟨gen, rc, n, of, data⟩ ++ data) = C := ⟨_, rfl⟩
          have hcr := crcN_is (partHead ⟨gen, rc, n, of, data⟩ ++ data)
          rw [hC] at hcr
          have HCR := hide hcr.1
          have HC := hide hC
          have hC2 : (C : Int) ≤ 4294967295 := by have := hcr.2; omega
          have hwC : IntKind.i64.wrap (C : Int) = (C : Int) := wrap_small (by omega) (by omega)
          clear hHeld h8 hx e8 Hxxxxxx hcr hC
          go_wp2_with fail
          refine wp_region_held_drew (S := fun w' => w'.cell? ⟨g1, 0, none⟩ = some (.int .i64 (gen : Nat)) ∧ w'.cell? ⟨g1, 1, none⟩ = some (.int .i64 (rc : Nat)) ∧ w'.cell? ⟨g1, 2, none⟩ = some (.int .i64 (n : Nat)) ∧ w'.cell? ⟨g1, 3, none⟩ = some (.int .i64 (of : Nat)) ∧ w'.cell? ⟨g1, 4, none⟩ = some (.slice bd 52 cd)) (by kernel_rfl) ?_ (fun hHeld => ?_)
          · exact ⟨H8.out.drew.blk_cell mem1 0, H8.out.drew.blk_cell mem1 1, H8.out.drew.blk_cell mem1 2, H8.out.drew.blk_cell mem1 3, H8.out.drew.blk_cell mem1 4⟩
          refine wpAnyH_takeD (i := 1) (some 65) (v := ?v1_8) rfl rfl (by kernel_rfl) (by kernel_rfl) (by kernel_rfl) (fun _ _ _ h => h) (by rfl) ?y1_8 (by assumption) ?r1_8
          case y1_8 => (intro w hSw; (try dsimp only at hSw); first | (go_simp; done) | (go_simp; with_reducible rfl))
          try simp only [Act.put, List.setIfInBounds_toArray, List.set_cons_zero, List.set_cons_succ]
          refine wpAnyH_takeD (i := 3) (some 67) (v := ?v3_9) rfl rfl (by kernel_rfl) (by kernel_rfl) (by kernel_rfl) (fun _ _ _ h => h) (by rfl) ?y3_9 (by assumption) ?r3_9
          case y3_9 => (intro w hSw; (try dsimp only at hSw); first | (go_simp; done) | (go_simp; with_reducible rfl))
          try simp only [Act.put, List.setIfInBounds_toArray, List.set_cons_zero, List.set_cons_succ]
          refine wpAnyH_takeD (i := 4) (some 68) (v := ?v4_10) rfl rfl (by kernel_rfl) (by kernel_rfl) (by kernel_rfl) (fun _ _ _ h => h) (by rfl) ?y4_10 (by assumption) ?r4_10
          case y4_10 => (intro w hSw; (try dsimp only at hSw); first | (go_simp; done) | (go_simp; with_reducible rfl))
          try simp only [Act.put, List.setIfInBounds_toArray, List.set_cons_zero, List.set_cons_succ]
          refine wpAnyH_ready (rs := [0]) (by kernel_rfl) (by simp) ?_
          refine AllReadyH.cons rfl (fun K hK => ?_) ?_
          · refine step_build0_st (α := UInt8) (E := byteE) rfl slByte rfl H8.out.drew ?_
            intro g9 w9 h9
            have H9 := hide h9
            clear h9 H8
            refine hK.out _ _ ?_ (fun hHeld => ?_)
            · exact ⟨H9.out.blk_cell mem2 0, H9.out.blk_cell mem2 1, H9.out.blk_cell mem2 2, H9.out.blk_cell mem2 3, H9.out.blk_cell mem2 4⟩
            clear hK K
            try simp only [Act.put, List.setIfInBounds_toArray, List.set_cons_zero, List.set_cons_succ]
            refine wpAnyH_ready (rs := [2]) (by kernel_rfl) (by simp) ?_
            refine AllReadyH.cons rfl (fun K hK => ?_) ?_
            · refine step_append_st (E := byteE) rfl (.tmp 64) (.tmp 65) slByte rfl H9.out (Src.of_rows mem1) rfl rfl (by simp only [partHead_len, List.length_append, List.length_nil]; unfold maxLen; have := O7.out; omega) (by simp only [partHead_len, List.length_append, List.length_nil]; have := O7.out; omega) ?_
              intro b10 n10 c10 w10 hn10 h10
              rw [List.nil_append] at h10
              have H10 := hide h10
              clear h10 H9 hn10
              refine hK.out _ _ ?_ (fun hHeld => ?_)
              · exact ⟨H10.out.blk_cell mem2 0, H10.out.blk_cell mem2 1, H10.out.blk_cell mem2 2, H10.out.blk_cell mem2 3, H10.out.blk_cell mem2 4⟩
              clear hK K
              try simp only [Act.put, List.setIfInBounds_toArray, List.set_cons_zero, List.set_cons_succ]
              refine wpAnyH_ready (rs := [5]) (by kernel_rfl) (by simp) ?_
              refine AllReadyH.cons rfl (fun K hK => ?_) ?_
              · refine step_append_st (E := byteE) rfl (.tmp 66) (.tmp 68) slByte rfl H10.out (Src.of_sl (up3 HM.out)) rfl rfl (by simp only [partHead_len, List.length_append, List.length_nil]; unfold maxLen; have := O7.out; omega) (by simp only [partHead_len, List.length_append, List.length_nil]; have := O7.out; omega) ?_
                intro b11 n11 c11 w11 hn11 h11
                have H11 := hide h11
                clear h11 H10 hn11
                refine hK.out _ _ ?_ (fun hHeld => ?_)
                · exact ⟨H11.out.blk_cell mem2 0, H11.out.blk_cell mem2 1, H11.out.blk_cell mem2 2, H11.out.blk_cell mem2 3, H11.out.blk_cell mem2 4⟩
                clear hK K
                try simp only [Act.put, List.setIfInBounds_toArray, List.set_cons_zero, List.set_cons_succ]
                refine wpAnyH_ready (rs := [6]) (by kernel_rfl) (by simp) ?_
                refine AllReadyH.cons rfl (fun K hK => ?_) ?_
                · go_simp
                  go_at_call 67
                  have h12 := H11.out.persist
                  refine (rcrc_calls h12 mem0).mono ?_
                  rintro x w12 ⟨rfl, hw12⟩
                  subst hw12
                  rw [HCR.out]
                  have H12 := hide h12.drop
                  clear h12 H11
                  refine hK.out _ _ ?_ (fun hHeld => ?_)
                  · exact ⟨H12.out.blk_cell mem1 0, H12.out.blk_cell mem1 1, H12.out.blk_cell mem1 2, H12.out.blk_cell mem1 3, H12.out.blk_cell mem1 4⟩
                  clear hK K
                  try simp only [Act.put, List.setIfInBounds_toArray, List.set_cons_zero, List.set_cons_succ]
                  refine wpAnyH_takeD (i := 7) (some 5) (v := ?v7_11) rfl rfl (by kernel_rfl) (by kernel_rfl) (by kernel_rfl) (fun _ _ _ h => h) (by rfl) ?y7_11 (by assumption) ?r7_11
                  case y7_11 => (intro w hSw; (try dsimp only at hSw); first | (go_simp; done) | (go_simp; with_reducible rfl))
                  try simp only [Act.put, List.setIfInBounds_toArray, List.set_cons_zero, List.set_cons_succ]
                  refine wpAnyH_done (by kernel_rfl) ?_ _
                  clear hHeld
                  go_wp2_with fail
                  refine wp_region_held_drew (S := fun w' => w'.cell? ⟨g1, 0, none⟩ = some (.int .i64 (gen : Nat)) ∧ w'.cell? ⟨g1, 1, none⟩ = some (.int .i64 (rc : Nat)) ∧ w'.cell? ⟨g1, 2, none⟩ = some (.int .i64 (n : Nat)) ∧ w'.cell? ⟨g1, 3, none⟩ = some (.int .i64 (of : Nat)) ∧ w'.cell? ⟨g1, 4, none⟩ = some (.slice bd 52 cd)) (by kernel_rfl) ?_ (fun hHeld => ?_)
                  · exact ⟨H12.out.drew.blk_cell mem1 0, H12.out.drew.blk_cell mem1 1, H12.out.drew.blk_cell mem1 2, H12.out.drew.blk_cell mem1 3, H12.out.drew.blk_cell mem1 4⟩
                  have H13 := hide H12.out.drew
                  clear H12
                  refine wpAnyH_takeD (i := 0) (some 71) (v := ?v0_1) rfl rfl (by kernel_rfl) (by kernel_rfl) (by kernel_rfl) (fun _ _ _ h => h) (by rfl) ?y0_1 (by assumption) ?r0_1
                  case y0_1 => (intro w hSw; (try dsimp only at hSw); first | (go_simp; done) | (go_simp; with_reducible rfl))
                  try simp only [Act.put, List.setIfInBounds_toArray, List.set_cons_zero, List.set_cons_succ]
                  refine wpAnyH_takeD (i := 1) (some 72) (v := ?v1_2) rfl rfl (by kernel_rfl) (by kernel_rfl) (by kernel_rfl) (fun _ _ _ h => h) (by rfl) ?y1_2 (by assumption) ?r1_2
                  case y1_2 => (intro w hSw; (try dsimp only at hSw); first | (go_simp; done) | (go_simp; with_reducible rfl))
                  try simp only [Act.put, List.setIfInBounds_toArray, List.set_cons_zero, List.set_cons_succ]
                  refine wpAnyH_takeD (i := 2) (some 73) (v := ?v2_3) rfl rfl (by kernel_rfl) (by kernel_rfl) (by kernel_rfl) (fun _ _ _ h => h) (by rfl) ?y2_3 (by assumption) ?r2_3
                  case y2_3 => (intro w hSw; (try dsimp only at hSw); first | (go_simp; done) | (go_simp; with_reducible rfl))
                  try simp only [Act.put, List.setIfInBounds_toArray, List.set_cons_zero, List.set_cons_succ]
                  refine wpAnyH_takeD (i := 4) (some 75) (v := ?v4_4) rfl rfl (by kernel_rfl) (by kernel_rfl) (by kernel_rfl) (fun _ _ _ h => h) (by rfl) ?y4_4 (by assumption) ?r4_4
                  case y4_4 => (intro w hSw; (try dsimp only at hSw); first | (go_simp; done) | (go_simp; with_reducible rfl))
                  try simp only [Act.put, List.setIfInBounds_toArray, List.set_cons_zero, List.set_cons_succ]
                  refine wpAnyH_takeD (i := 5) (some 76) (v := ?v5_5) rfl rfl (by kernel_rfl) (by kernel_rfl) (by kernel_rfl) (fun _ _ _ h => h) (by rfl) ?y5_5 (by assumption) ?r5_5
                  case y5_5 => (intro w hSw; (try dsimp only at hSw); first | (go_simp; done) | (go_simp; with_reducible rfl))
                  try simp only [Act.put, List.setIfInBounds_toArray, List.set_cons_zero, List.set_cons_succ]
                  refine wpAnyH_ready (rs := [3]) (by kernel_rfl) (by simp) ?_
                  refine AllReadyH.cons rfl (fun K hK => ?_) ?_
                  · go_simp
                    go_at_call 66
                    refine (rle_calls (xs := (partHead ⟨gen, rc, n, of, data⟩)) H13.out C 4 (by omega) (by omega) (by rw [partHead_len]; decide)).mono ?_
                    rintro x w5 ⟨b3, c3, rfl, h5⟩
                    have H14 := hide h5
                    clear h5 H13
                    refine hK.out _ _ ?_ (fun hHeld => ?_)
                    · exact ⟨H14.out.blk_cell mem1 0, H14.out.blk_cell mem1 1, H14.out.blk_cell mem1 2, H14.out.blk_cell mem1 3, H14.out.blk_cell mem1 4⟩
                    clear hK K
                    try simp only [Act.put, List.setIfInBounds_toArray, List.set_cons_zero, List.set_cons_succ]
                    refine wpAnyH_ready (rs := [6]) (by kernel_rfl) (by simp) ?_
                    refine AllReadyH.cons rfl (fun K hK => ?_) ?_
                    · refine step_append_st (E := byteE) rfl (.tmp 74) (.tmp 76) slByte rfl H14.out (Src.of_sl (up2 HM.out)) rfl rfl (by simp only [partHead_len, leB_len, List.length_append, List.length_nil]; unfold maxLen; have := O7.out; omega) (by simp only [partHead_len, leB_len, List.length_append, List.length_nil]; have := O7.out; omega) ?_
                      intro b15 n15 c15 w15 hn15 h15
                      have HN15 := hide hn15
                      have H15 := hide h15
                      clear h15 H14 hn15
                      change K (Act.put _ (some 77) _) _
                      refine hK.out _ _ ?_ (fun hHeld => ?_)
                      · exact ⟨H15.out.blk_cell mem1 0, H15.out.blk_cell mem1 1, H15.out.blk_cell mem1 2, H15.out.blk_cell mem1 3, H15.out.blk_cell mem1 4⟩
                      clear hK K
                      try simp only [Act.put, List.setIfInBounds_toArray, List.set_cons_zero, List.set_cons_succ]
                      refine wpAnyH_takeD (i := 7) (some 2) (v := ?v7_6) rfl rfl (by kernel_rfl) (by kernel_rfl) (by kernel_rfl) (fun _ _ _ h => h) (by rfl) ?y7_6 (by assumption) ?r7_6
                      case y7_6 => (intro w hSw; (try dsimp only at hSw); first | (go_simp; done) | (go_simp; with_reducible rfl))
                      try simp only [Act.put, List.setIfInBounds_toArray, List.set_cons_zero, List.set_cons_succ]
                      refine wpAnyH_takeD (i := 8) (some 3) (v := ?v8_7) rfl rfl (by kernel_rfl) (by kernel_rfl) (by kernel_rfl) (fun _ _ _ h => h) (by rfl) ?y8_7 (by assumption) ?r8_7
                      case y8_7 => (intro w hSw; (try dsimp only at hSw); first | (go_simp; done) | (go_simp; with_reducible rfl))
                      try simp only [Act.put, List.setIfInBounds_toArray, List.set_cons_zero, List.set_cons_succ]
                      refine wpAnyH_done (by kernel_rfl) ?_ _
                      go_wp2_with fail
                      go_ret2
                      have h16 := H15.out.d1
                      have e64 : n15 = 64 := by rw [HN15.out, List.length_append, partHead_len, leB_len, O7.out]
                      subst e64
                      refine ⟨b15, c15, rfl, ?_⟩
                      have epb : (partHead ⟨gen, rc, n, of, data⟩ ++ leB C 4) ++ data = partB ⟨gen, rc, n, of, data⟩ := by rw [← HC.out]; rfl
                      rw [epb] at h16
                      exact h16
                    exact AllReadyH.nil
                  exact AllReadyH.nil
                exact AllReadyH.nil
              exact AllReadyH.nil
            exact AllReadyH.nil
          exact AllReadyH.nil
        exact AllReadyH.nil
      exact AllReadyH.nil
    exact AllReadyH.nil
  exact AllReadyH.nil
end Go.Proofs.Ythecdkbagjpboaa
