/-
  deadboltref2: Parse.
-/
import Derived.Test.YthecdkbagjpboaaV3
namespace Go.Proofs.Ythecdkbagjpboaa
open Go.RowKit Go.Maps Go.MapKept
variable {b : Env} {L : List HP} {w : World}
theorem szPartX : (Try.prog.info? 91).map (·.size) = some 5 := by kernel_rfl
theorem agPartX : AgT Try.prog 91 [.int .i64 0, .int .i64 0, .int .i64 0, .int .i64 0, .slice none 0 0] := ⟨Try.zeroValue91, ⟨_, Try.underlying91, rfl⟩, by kernel_rfl⟩
theorem fieldB1 {l : Byt} {k : Nat} (h : k < l.length) : fieldB l k 1 = l[k].toNat := by
  unfold fieldB
  rw [List.drop_eq_getElem_cons h]
  show (l[k].toNat + 256 * numB ((l.drop (k + 1)).take 0)) = _
  simp [numB]
theorem rnum_sub {g o : Nat} {l : Byt} (hl : l.length = 64) (off n cap : Nat) (hfit : off + n ≤ 64) (hn : n ≤ 4) (hS : ∀ j (_ : j < l.length), w.cell? ⟨g, o + j, none⟩ = some (B8 l[j])) :
    Calls Try.prog 77 #[.slice (some ⟨g, o + off, none⟩) n cap] w (fun e w' => e = .returned (.int .i64 (fieldB l off n : Nat)) ∧ w' = w) := by
  have hlen : ((l.drop off).take n).length = n := by rw [List.length_take, List.length_drop]; omega
  have := rnum_calls (w := w) (g := g) (off := o + off) (cap := cap) (l := (l.drop off).take n) (fun j hj => by
    rw [hlen] at hj
    rw [Nat.add_assoc, hS (off + j) (by omega)]
    simp) (by omega)
  rw [hlen] at this
  exact this.mono (fun e w' he => ⟨he.1, he.2.symm⟩)
set_option linter.unusedSimpArgs false in
set_option maxRecDepth 100000 in
set_option maxHeartbeats 4000000 in
theorem rparse_calls {g o cap : Nat} {l : Byt} (h : St b L w) (hm : HP.sl byteE (.slice (some ⟨g, o, none⟩) 64 cap) l ∈ L) :
    Calls Try.prog 64 #[.slice (some ⟨g, o, none⟩) 64 cap] w fun x w' =>
      (∃ p vd, parseB l = some p ∧ x = .returned (.tuple #[.agg #[.int .i64 (p.gen : Nat), .int .i64 (p.rc : Nat), .int .i64 (p.n : Nat), .int .i64 (p.of : Nat), vd], .bool true]) ∧ St b (HP.sl byteE vd p.data :: L) w') ∨
      (parseB l = none ∧ x = .returned (.tuple #[.agg #[.int .i64 0, .int .i64 0, .int .i64 0, .int .i64 0, .slice none 0 0], .bool false]) ∧ St b L w') := by
  obtain ⟨b0, c0, hv0, hc1, hc2⟩ := h.sl_form hm
  simp only [Value.slice.injEq] at hv0
  obtain ⟨-, hl, rfl⟩ := hv0
  replace hl := hl.symm
  rw [hl] at hc1
  have hcap4 : (4 : Int) ≤ cap := by omega
  have hcap6 : (6 : Int) ≤ cap := by omega
  have hcap7 : (7 : Int) ≤ cap := by omega
  have hcap8 : (8 : Int) ≤ cap := by omega
  have hcap12 : (12 : Int) ≤ cap := by omega
  have hcap64 : (64 : Int) ≤ cap := by omega
  have ncap4 : ¬ cap = 4 := by omega
  have ncap6 : ¬ cap = 6 := by omega
  have ncap7 : ¬ cap = 7 := by omega
  have ncap12 : ¬ cap = 12 := by omega
  have hdl : (l.drop 12).length = 52 := by rw [List.length_drop]; omega
  have h2 := h.sl_sub hm 12 52 (cap - 12) (by omega) (by omega) (by omega)
  rw [List.take_of_length_le (by omega)] at h2
  have hsk : ∀ (L' : List HP) (w' : World), St b L' w' → HP.sl byteE (.slice (some ⟨g, o, none⟩) 64 cap) l ∈ L' → ∀ j (_ : j < l.length), w'.cell? ⟨g, o + j, none⟩ = some (B8 l[j]) := fun L' w' h' hm' j hj => (h'.sc_at hm' hj).1
  have hb : (headR l).gen ≤ 4294967295 ∧ (headR l).rc ≤ 65535 ∧ (headR l).of ≤ 255 ∧ (headR l).n ≤ 255 := by
    have a1 := fieldB_lt l 0 4
    have a2 := fieldB_lt l 4 2
    have a3 := fieldB_lt l 7 1
    have a4 := fieldB_lt l 6 1
    refine ⟨?_, ?_, ?_, ?_⟩ <;> (unfold headR; simp only; omega)
  have hp : ∀ q, parseB l = q ↔ (if okP (headR l) = true ∧ partB (headR l) = l then some (headR l) else none) = q := fun q => Iff.rfl
  have HM2 := hide (List.mem_cons_of_mem (HP.sl byteE (.slice (some ⟨g, o + 12, none⟩) 52 (cap - 12)) (l.drop 12)) hm)
  unfold headR at hb hp
  generalize hdt : l.drop 12 = dt at h2 hdl hb hp HM2
  generalize hf0 : fieldB l 0 4 = f0 at hb hp
  generalize hf1 : fieldB l 4 2 = f1 at hb hp
  generalize hf2 : fieldB l 6 1 = f2 at hb hp
  generalize hf3 : fieldB l 7 1 = f3 at hb hp
  have h6 : ∀ w' : World, (∀ j (_ : j < l.length), w'.cell? ⟨g, o + j, none⟩ = some (B8 l[j])) → w'.cell? ⟨g, o + 6, none⟩ = some (.int .u8 (f2 : Nat)) := fun w' hc => by
    rw [hc 6 (by omega), ← hf2, fieldB1 (by omega)]; rfl
  have h7 : ∀ w' : World, (∀ j (_ : j < l.length), w'.cell? ⟨g, o + j, none⟩ = some (B8 l[j])) → w'.cell? ⟨g, o + 7, none⟩ = some (.int .u8 (f3 : Nat)) := fun w' hc => by
    rw [hc 7 (by omega), ← hf3, fieldB1 (by omega)]; rfl
  have SK : Hid (∀ (L' : List HP) (w' : World), St b L' w' → HP.sl byteE (.slice (some ⟨g, o, none⟩) 64 cap) l ∈ L' → (∀ j (_ : j < l.length), w'.cell? ⟨g, o + j, none⟩ = some (B8 l[j])) ∧ w'.cell? ⟨g, o + 6, none⟩ = some (.int .u8 (f2 : Nat)) ∧ w'.cell? ⟨g, o + 7, none⟩ = some (.int .u8 (f3 : Nat))) := hide (fun L' w' h' hm' => ⟨hsk L' w' h' hm', h6 _ (hsk L' w' h' hm'), h7 _ (hsk L' w' h' hm')⟩)
  have q2 : (f2 : Int) ≤ 255 := by have := hb.2.2.2; simp only at this; omega
  have q3 : (f3 : Int) ≤ 255 := by have := hb.2.2.1; simp only at this; omega
  have hw2 : IntKind.i64.wrap (f2 : Int) = (f2 : Int) := wrap_small (by omega) (by omega)
  have hw3 : IntKind.i64.wrap (f3 : Int) = (f3 : Int) := wrap_small (by omega) (by omega)
  clear h6 h7
  have HF0 := hide hf0
  have HF1 := hide hf1
  have HF2 := hide hf2
  have HF3 := hide hf3
  have HB := hide hb
  have HL := hide hl
  have HDL := hide hdl
  have HD := hide (show HP.sl byteE (.slice (some ⟨g, o + 12, none⟩) 52 (cap - 12)) dt ∈ HP.sl byteE (.slice (some ⟨g, o + 12, none⟩) 52 (cap - 12)) dt :: L from mem0)
  have hb64 := partB_len (p := ⟨f0, f1, f2, f3, dt⟩) hdl
  have HB64 := hide hb64
  have ONE5 : Hid (∀ (a c d e f : Value), a.oneCell' = true → c.oneCell' = true → d.oneCell' = true → e.oneCell' = true → f.oneCell' = true → ∀ v ∈ [a, c, d, e, f], v.oneCell' = true) := hide (by intro a c d e f h1 h2 h3 h4 h5 v hv; simp only [List.mem_cons, List.not_mem_nil, or_false] at hv; rcases hv with rfl | rfl | rfl | rfl | rfl <;> assumption)
  have H := hide h2
  clear h h2 hm hl hdl hsk hb hdt hf0 hf1 hf2 hf3 hc1 hc2 hb64
  by_cases hk : okP ⟨f0, f1, f2, f3, dt⟩ = true
  · obtain ⟨PB, hPB⟩ : ∃ x, partB ⟨f0, f1, f2, f3, dt⟩ = x := ⟨_, rfl⟩
    have HPB := hide hPB
    by_cases he : PB = l
    · have HPN := hide ((hp (some ⟨f0, f1, f2, f3, dt⟩)).2 (if_pos ⟨hk, hPB.trans he⟩))
      have HOKP := hide ((okP_iff _).1 hk)
      have hq : (PB == l) = true := by rw [he]; exact beq_self_eq_true _
      clear hp hk he hPB
      go_enter Try.func64, Try.ntmps64
      go_wp2_with (first
        | ((with_reducible refine wpList_alloc_ag rfl agPartX rfl H.out ?_); intro g2 w1 h1; have H1 := hide h1; clear h1 H))
      refine wp_region_held_drew (S := fun w' => (∀ j (_ : j < l.length), w'.cell? ⟨g, o + j, none⟩ = some (B8 l[j])) ∧ w'.cell? ⟨g, o + 6, none⟩ = some (.int .u8 (f2 : Nat)) ∧ w'.cell? ⟨g, o + 7, none⟩ = some (.int .u8 (f3 : Nat))) (by kernel_rfl) ?_ (fun hHeld => ?_)
      · exact SK.out _ _ H1.out.drew (up1 HM2.out)
      have HX := hide H1.out.drew
      clear H1
      refine wpAnyH_takeD (i := 0) (some 11) (v := ?v0_1) rfl rfl (by kernel_rfl) (by kernel_rfl) (by kernel_rfl) (fun _ _ _ h => h) (by rfl) ?y0_1 (by assumption) ?r0_1
      case y0_1 => (intro w hSw; (try dsimp only at hSw); first | (go_simp; done) | (go_simp; with_reducible rfl))
      try simp only [Act.put, List.setIfInBounds_toArray, List.set_cons_zero, List.set_cons_succ]
      refine wpAnyH_takeD (i := 1) (some 12) (v := ?v1_2) rfl rfl (by kernel_rfl) (by kernel_rfl) (by kernel_rfl) (fun _ _ _ h => h) (by rfl) ?y1_2 (by assumption) ?r1_2
      case y1_2 => (intro w hSw; (try dsimp only at hSw); first | (go_simp; done) | (go_simp; with_reducible rfl))
      try simp only [Act.put, List.setIfInBounds_toArray, List.set_cons_zero, List.set_cons_succ]
      refine wpAnyH_tellsD (i := 2) (some 13) (v := .int .i64 (f0 : Nat)) rfl rfl (by kernel_rfl) (by kernel_rfl) (by kernel_rfl) (fun _ _ _ h => h) ⟨by rfl, 77, #[.slice (some ⟨g, o, none⟩) 4 cap], fun w hSw => ⟨?y2_3, (by have := rnum_sub HL.out 0 4 cap (by decide) (by decide) hSw.1; rw [HF0.out] at this; exact this)⟩⟩ (by assumption) ?r2_3
      case y2_3 => first | (go_simp; done) | (go_simp; with_reducible rfl)
      try simp only [Act.put, List.setIfInBounds_toArray, List.set_cons_zero, List.set_cons_succ]
      refine wpAnyH_takeD (i := 3) (some 14) (v := ?v3_4) rfl rfl (by kernel_rfl) (by kernel_rfl) (by kernel_rfl) (fun _ _ _ h => h) (by rfl) ?y3_4 (by assumption) ?r3_4
      case y3_4 => (intro w hSw; (try dsimp only at hSw); first | (go_simp; done) | (go_simp; with_reducible rfl))
      try simp only [Act.put, List.setIfInBounds_toArray, List.set_cons_zero, List.set_cons_succ]
      refine wpAnyH_takeD (i := 4) (some 15) (v := ?v4_5) rfl rfl (by kernel_rfl) (by kernel_rfl) (by kernel_rfl) (fun _ _ _ h => h) (by rfl) ?y4_5 (by assumption) ?r4_5
      case y4_5 => (intro w hSw; (try dsimp only at hSw); first | (go_simp; done) | (go_simp; with_reducible rfl))
      try simp only [Act.put, List.setIfInBounds_toArray, List.set_cons_zero, List.set_cons_succ]
      refine wpAnyH_tellsD (i := 5) (some 16) (v := .int .i64 (f1 : Nat)) rfl rfl (by kernel_rfl) (by kernel_rfl) (by kernel_rfl) (fun _ _ _ h => h) ⟨by rfl, 77, #[.slice (some ⟨g, o + 4, none⟩) 2 (cap - 4)], fun w hSw => ⟨?y5_6, (by have := rnum_sub HL.out 4 2 (cap - 4) (by decide) (by decide) hSw.1; rw [HF1.out] at this; exact this)⟩⟩ (by assumption) ?r5_6
      case y5_6 => first | (go_simp; done) | (go_simp; with_reducible rfl)
      try simp only [Act.put, List.setIfInBounds_toArray, List.set_cons_zero, List.set_cons_succ]
      refine wpAnyH_takeD (i := 6) (some 17) (v := ?v6_7) rfl rfl (by kernel_rfl) (by kernel_rfl) (by kernel_rfl) (fun _ _ _ h => h) (by rfl) ?y6_7 (by assumption) ?r6_7
      case y6_7 => (intro w hSw; (try dsimp only at hSw); first | (go_simp; done) | (go_simp; with_reducible rfl))
      try simp only [Act.put, List.setIfInBounds_toArray, List.set_cons_zero, List.set_cons_succ]
      refine wpAnyH_takeD (i := 7) (some 18) (v := ?v7_8) rfl rfl (by kernel_rfl) (by kernel_rfl) (by kernel_rfl) (fun _ _ _ h => h) (by rfl) ?y7_8 (by assumption) ?r7_8
      case y7_8 => (intro w hSw; (try dsimp only at hSw); first | (go_simp; done) | (go_simp; with_reducible rfl))
      try simp only [Act.put, List.setIfInBounds_toArray, List.set_cons_zero, List.set_cons_succ]
      refine wpAnyH_takeD (i := 8) (some 19) (v := ?v8_9) rfl rfl (by kernel_rfl) (by kernel_rfl) (by kernel_rfl) (fun _ _ _ h => h) (by rfl) ?y8_9 (by assumption) ?r8_9
      case y8_9 => (intro w hSw; (try dsimp only at hSw); first | (go_simp; done) | (go_simp; with_reducible rfl))
      try simp only [Act.put, List.setIfInBounds_toArray, List.set_cons_zero, List.set_cons_succ]
      refine wpAnyH_takeD (i := 9) (some 20) (v := ?v9_10) rfl rfl (by kernel_rfl) (by kernel_rfl) (by kernel_rfl) (fun _ _ _ h => h) (by rfl) ?y9_10 (by assumption) ?r9_10
      case y9_10 => (intro w hSw; (try dsimp only at hSw); first | (go_simp; done) | (go_simp; with_reducible rfl))
      try simp only [Act.put, List.setIfInBounds_toArray, List.set_cons_zero, List.set_cons_succ]
      refine wpAnyH_takeD (i := 10) (some 21) (v := ?v10_11) rfl rfl (by kernel_rfl) (by kernel_rfl) (by kernel_rfl) (fun _ _ _ h => h) (by rfl) ?y10_11 (by assumption) ?r10_11
      case y10_11 => (intro w hSw; (try dsimp only at hSw); first | (go_simp; done) | (go_simp; with_reducible rfl))
      try simp only [Act.put, List.setIfInBounds_toArray, List.set_cons_zero, List.set_cons_succ]
      refine wpAnyH_takeD (i := 11) (some 22) (v := ?v11_12) rfl rfl (by kernel_rfl) (by kernel_rfl) (by kernel_rfl) (fun _ _ _ h => h) (by rfl) ?y11_12 (by assumption) ?r11_12
      case y11_12 => (intro w hSw; (try dsimp only at hSw); first | (go_simp; done) | (go_simp; with_reducible rfl))
      try simp only [Act.put, List.setIfInBounds_toArray, List.set_cons_zero, List.set_cons_succ]
      refine wpAnyH_takeD (i := 12) (some 23) (v := ?v12_13) rfl rfl (by kernel_rfl) (by kernel_rfl) (by kernel_rfl) (fun _ _ _ h => h) (by rfl) ?y12_13 (by assumption) ?r12_13
      case y12_13 => (intro w hSw; (try dsimp only at hSw); first | (go_simp; done) | (go_simp; with_reducible rfl))
      try simp only [Act.put, List.setIfInBounds_toArray, List.set_cons_zero, List.set_cons_succ]
      refine wpAnyH_takeD (i := 13) (some 24) (v := ?v13_14) rfl rfl (by kernel_rfl) (by kernel_rfl) (by kernel_rfl) (fun _ _ _ h => h) (by rfl) ?y13_14 (by assumption) ?r13_14
      case y13_14 => (intro w hSw; (try dsimp only at hSw); first | (go_simp; done) | (go_simp; with_reducible rfl))
      try simp only [Act.put, List.setIfInBounds_toArray, List.set_cons_zero, List.set_cons_succ]
      refine wpAnyH_takeD (i := 15) (some 26) (v := ?v15_15) rfl rfl (by kernel_rfl) (by kernel_rfl) (by kernel_rfl) (fun _ _ _ h => h) (by rfl) ?y15_15 (by assumption) ?r15_15
      case y15_15 => (intro w hSw; (try dsimp only at hSw); first | (go_simp; done) | (go_simp; with_reducible rfl))
      try simp only [Act.put, List.setIfInBounds_toArray, List.set_cons_zero, List.set_cons_succ]
      refine wpAnyH_takeD (i := 16) (some 27) (v := ?v16_16) rfl rfl (by kernel_rfl) (by kernel_rfl) (by kernel_rfl) (fun _ _ _ h => h) (by rfl) ?y16_16 (by assumption) ?r16_16
      case y16_16 => (intro w hSw; (try dsimp only at hSw); first | (go_simp; done) | (go_simp; with_reducible rfl))
      try simp only [Act.put, List.setIfInBounds_toArray, List.set_cons_zero, List.set_cons_succ]
      refine wpAnyH_ready (rs := [14, 19]) (by kernel_rfl) (by simp) ?_
      refine AllReadyH.cons rfl (fun K hK => ?_) ?_
      · refine step_build0_st (α := UInt8) (E := byteE) rfl slByte rfl HX.out ?_
        intro g4 w4 h4
        have HY := hide h4
        clear h4
        change K (Act.put _ (some 25) _) _
        clear HX
        have HX := HY
        clear HY
        refine hK.out _ _ ?_ (fun hHeld => ?_)
        · exact SK.out _ _ HX.out (up2 HM2.out)
        clear hK K
        try simp only [Act.put, List.setIfInBounds_toArray, List.set_cons_zero, List.set_cons_succ]
        refine wpAnyH_ready (rs := [17, 19]) (by kernel_rfl) (by simp) ?_
        refine AllReadyH.cons rfl (fun K hK => ?_) ?_
        · refine step_append_st (E := byteE) rfl (.tmp 25) (.tmp 27) slByte rfl HX.out (Src.of_sl (up2 HD.out)) rfl rfl (by have := HDL.out; simp only [List.length_nil]; unfold maxLen; omega) (by have := HDL.out; simp only [List.length_nil]; omega) ?_
          intro bD nD cD w5 hnD h5
          have hnD2 : nD = dt.length := by rw [hnD, List.length_nil, Nat.zero_add]
          clear hnD
          subst hnD2
          rw [List.nil_append] at h5
          have HY := hide h5
          clear h5
          change K (Act.put _ (some 28) _) _
          clear HX
          have HX := HY
          clear HY
          refine hK.out _ _ ?_ (fun hHeld => ?_)
          · exact SK.out _ _ HX.out (up2 HM2.out)
          clear hK K
          try simp only [Act.put, List.setIfInBounds_toArray, List.set_cons_zero, List.set_cons_succ]
          refine wpAnyH_takeD (i := 18) (some 29) (v := ?v18_17) rfl rfl (by kernel_rfl) (by kernel_rfl) (by kernel_rfl) (fun _ _ _ h => h) (by rfl) ?y18_17 (by assumption) ?r18_17
          case y18_17 => (intro w hSw; (try dsimp only at hSw); first | (go_simp; done) | (go_simp; with_reducible rfl))
          try simp only [Act.put, List.setIfInBounds_toArray, List.set_cons_zero, List.set_cons_succ]
          refine wpAnyH_ready (rs := [19]) (by kernel_rfl) (by simp) ?_
          refine AllReadyH.cons rfl (fun K hK => ?_) ?_
          · refine step_alloc_ag rfl agPartX rfl HX.out ?_
            intro g5 w6 h6
            have HY := hide h6.f1
            clear h6
            change K (Act.put _ (some 4) _) _
            clear HX
            have HX := HY
            clear HY
            refine hK.out _ _ ?_ (fun hHeld => ?_)
            · exact SK.out _ _ HX.out (up3 HM2.out)
            clear hK K
            try simp only [Act.put, List.setIfInBounds_toArray, List.set_cons_zero, List.set_cons_succ]
            refine wpAnyH_ready (rs := [20]) (by kernel_rfl) (by simp) ?_
            refine AllReadyH.cons rfl (fun K hK => ?_) ?_
            · refine step_storeB_st (cs := [.int .i64 (f0 : Nat), .int .i64 (f1 : Nat), .int .i64 (f2 : Nat), .int .i64 (f3 : Nat), .slice bD dt.length cD]) (c := [.int .i64 0, .int .i64 0, .int .i64 0, .int .i64 0, .slice none 0 0]) (d := [.int .i64 (f0 : Nat), .int .i64 (f1 : Nat), .int .i64 (f2 : Nat), .int .i64 (f3 : Nat), .slice bD dt.length cD]) rfl 91 (.tmp 4) (.tmp 29) rfl szPartX rfl rfl (by intro v hv; simp only [List.mem_cons, List.not_mem_nil, or_false] at hv; rcases hv with rfl | rfl | rfl | rfl | rfl <;> rfl) HX.out.f1 (by simp) rfl ?_
              intro w7 h7
              have HY := hide h7
              clear h7
              clear HX
              have HX := HY
              clear HY
              refine hK.out _ _ ?_ (fun hHeld => ?_)
              · exact SK.out _ _ HX.out (up3 HM2.out)
              clear hK K
              try simp only [Act.put, List.setIfInBounds_toArray, List.set_cons_zero, List.set_cons_succ]
              refine wpAnyH_done (by kernel_rfl) ?_ _
              have HZ := hide HX.out.f1.persist.f1
              clear HX hHeld
              go_wp2_with (first
                | (refine wpList_loadB_st (cs := [.int .i64 (f0 : Nat), .int .i64 (f1 : Nat), .int .i64 (f2 : Nat), .int .i64 (f3 : Nat), .slice bD dt.length cD]) rfl agPartX (.tmp 4) rfl rfl rfl HZ.out mem0 ?_)
                | (go_at_call 46; refine (rbytes_calls (p := ⟨f0, f1, f2, f3, dt⟩) HZ.out mem1 HOKP.out).mono ?_; rintro z w8 ⟨b7, c7, rfl, h8⟩; rw [HPB.out] at h8; have cv1 := conv_str h8 (Reads.of_rows mem0); have cv2 := conv_str h8 (Reads.of_sl (up4 HM2.out)); have H8 := hide h8; clear h8 HZ)
                | (refine wpList_loadB_st (cs := [.int .i64 (f0 : Nat), .int .i64 (f1 : Nat), .int .i64 (f2 : Nat), .int .i64 (f3 : Nat), .slice bD dt.length cD]) rfl agPartX (.tmp 4) rfl rfl rfl H8.out.drop mem0 ?_)
                | ((with_reducible refine wpList_store_ag (cs := [.int .i64 (f0 : Nat), .int .i64 (f1 : Nat), .int .i64 (f2 : Nat), .int .i64 (f3 : Nat), .slice bD dt.length cD]) rfl agPartX (.tmp 2) (.tmp 45) rfl rfl rfl rfl rfl (ONE5.out _ _ _ _ _ rfl rfl rfl rfl rfl) H8.out.drop.f2 ?_); intro w20 h20; have H20 := hide h20; clear h20 H8))
              (try simp only [Exit.inBlock, Exit.then])
              have hb2 := H20.out.mem_blk mem0
              refine bodyPost_ret (results_cell_row2 rfl _ _ g2 _ _ _ _ rfl hb2 Try.underlying91 rfl szPartX) rfl ?_
              exact Or.inl ⟨⟨f0, f1, f2, f3, dt⟩, _, HPN.out, rfl, H20.out.drop.drop.d1⟩
            exact AllReadyH.nil
          exact AllReadyH.nil
        refine AllReadyH.cons rfl (fun K hK => ?_) ?_
        · refine step_alloc_ag rfl agPartX rfl HX.out ?_
          intro g5 w6 h6
          have HY := hide h6.f1
          clear h6
          change K (Act.put _ (some 4) _) _
          clear HX
          have HX := HY
          clear HY
          refine hK.out _ _ ?_ (fun hHeld => ?_)
          · exact SK.out _ _ HX.out (up3 HM2.out)
          clear hK K
          try simp only [Act.put, List.setIfInBounds_toArray, List.set_cons_zero, List.set_cons_succ]
          refine wpAnyH_ready (rs := [17]) (by kernel_rfl) (by simp) ?_
          refine AllReadyH.cons rfl (fun K hK => ?_) ?_
          · refine step_append_st (E := byteE) rfl (.tmp 25) (.tmp 27) slByte rfl HX.out (Src.of_sl (up3 HD.out)) rfl rfl (by have := HDL.out; simp only [List.length_nil]; unfold maxLen; omega) (by have := HDL.out; simp only [List.length_nil]; omega) ?_
            intro bD nD cD w5 hnD h5
            have hnD2 : nD = dt.length := by rw [hnD, List.length_nil, Nat.zero_add]
            clear hnD
            subst hnD2
            rw [List.nil_append] at h5
            have HY := hide h5
            clear h5
            change K (Act.put _ (some 28) _) _
            clear HX
            have HX := HY
            clear HY
            refine hK.out _ _ ?_ (fun hHeld => ?_)
            · exact SK.out _ _ HX.out (up3 HM2.out)
            clear hK K
            try simp only [Act.put, List.setIfInBounds_toArray, List.set_cons_zero, List.set_cons_succ]
            refine wpAnyH_takeD (i := 18) (some 29) (v := ?v18_18) rfl rfl (by kernel_rfl) (by kernel_rfl) (by kernel_rfl) (fun _ _ _ h => h) (by rfl) ?y18_18 (by assumption) ?r18_18
            case y18_18 => (intro w hSw; (try dsimp only at hSw); first | (go_simp; done) | (go_simp; with_reducible rfl))
            try simp only [Act.put, List.setIfInBounds_toArray, List.set_cons_zero, List.set_cons_succ]
            refine wpAnyH_ready (rs := [20]) (by kernel_rfl) (by simp) ?_
            refine AllReadyH.cons rfl (fun K hK => ?_) ?_
            · refine step_storeB_st (cs := [.int .i64 (f0 : Nat), .int .i64 (f1 : Nat), .int .i64 (f2 : Nat), .int .i64 (f3 : Nat), .slice bD dt.length cD]) (c := [.int .i64 0, .int .i64 0, .int .i64 0, .int .i64 0, .slice none 0 0]) (d := [.int .i64 (f0 : Nat), .int .i64 (f1 : Nat), .int .i64 (f2 : Nat), .int .i64 (f3 : Nat), .slice bD dt.length cD]) rfl 91 (.tmp 4) (.tmp 29) rfl szPartX rfl rfl (by intro v hv; simp only [List.mem_cons, List.not_mem_nil, or_false] at hv; rcases hv with rfl | rfl | rfl | rfl | rfl <;> rfl) HX.out.f1 (by simp) rfl ?_
              intro w7 h7
              have HY := hide h7
              clear h7
              clear HX
              have HX := HY
              clear HY
              refine hK.out _ _ ?_ (fun hHeld => ?_)
              · exact SK.out _ _ HX.out (up3 HM2.out)
              clear hK K
              try simp only [Act.put, List.setIfInBounds_toArray, List.set_cons_zero, List.set_cons_succ]
              refine wpAnyH_done (by kernel_rfl) ?_ _
              have HZ := hide HX.out.f1.persist.f1
              clear HX hHeld
              go_wp2_with (first
                | (refine wpList_loadB_st (cs := [.int .i64 (f0 : Nat), .int .i64 (f1 : Nat), .int .i64 (f2 : Nat), .int .i64 (f3 : Nat), .slice bD dt.length cD]) rfl agPartX (.tmp 4) rfl rfl rfl HZ.out mem0 ?_)
                | (go_at_call 46; refine (rbytes_calls (p := ⟨f0, f1, f2, f3, dt⟩) HZ.out mem1 HOKP.out).mono ?_; rintro z w8 ⟨b7, c7, rfl, h8⟩; rw [HPB.out] at h8; have cv1 := conv_str h8 (Reads.of_rows mem0); have cv2 := conv_str h8 (Reads.of_sl (up4 HM2.out)); have H8 := hide h8; clear h8 HZ)
                | (refine wpList_loadB_st (cs := [.int .i64 (f0 : Nat), .int .i64 (f1 : Nat), .int .i64 (f2 : Nat), .int .i64 (f3 : Nat), .slice bD dt.length cD]) rfl agPartX (.tmp 4) rfl rfl rfl H8.out.drop mem0 ?_)
                | ((with_reducible refine wpList_store_ag (cs := [.int .i64 (f0 : Nat), .int .i64 (f1 : Nat), .int .i64 (f2 : Nat), .int .i64 (f3 : Nat), .slice bD dt.length cD]) rfl agPartX (.tmp 2) (.tmp 45) rfl rfl rfl rfl rfl (ONE5.out _ _ _ _ _ rfl rfl rfl rfl rfl) H8.out.drop.f2 ?_); intro w20 h20; have H20 := hide h20; clear h20 H8))
              (try simp only [Exit.inBlock, Exit.then])
              have hb2 := H20.out.mem_blk mem0
              refine bodyPost_ret (results_cell_row2 rfl _ _ g2 _ _ _ _ rfl hb2 Try.underlying91 rfl szPartX) rfl ?_
              exact Or.inl ⟨⟨f0, f1, f2, f3, dt⟩, _, HPN.out, rfl, H20.out.drop.drop.d1⟩
            exact AllReadyH.nil
          exact AllReadyH.nil
        exact AllReadyH.nil
      refine AllReadyH.cons rfl (fun K hK => ?_) ?_
      · refine step_alloc_ag rfl agPartX rfl HX.out ?_
        intro g5 w6 h6
        have HY := hide h6
        clear h6
        change K (Act.put _ (some 4) _) _
        clear HX
        have HX := HY
        clear HY
        refine hK.out _ _ ?_ (fun hHeld => ?_)
        · exact SK.out _ _ HX.out (up2 HM2.out)
        clear hK K
        try simp only [Act.put, List.setIfInBounds_toArray, List.set_cons_zero, List.set_cons_succ]
        refine wpAnyH_ready (rs := [14]) (by kernel_rfl) (by simp) ?_
        refine AllReadyH.cons rfl (fun K hK => ?_) ?_
        · refine step_build0_st (α := UInt8) (E := byteE) rfl slByte rfl HX.out ?_
          intro g4 w4 h4
          have HY := hide h4
          clear h4
          change K (Act.put _ (some 25) _) _
          clear HX
          have HX := HY
          clear HY
          refine hK.out _ _ ?_ (fun hHeld => ?_)
          · exact SK.out _ _ HX.out (up3 HM2.out)
          clear hK K
          try simp only [Act.put, List.setIfInBounds_toArray, List.set_cons_zero, List.set_cons_succ]
          refine wpAnyH_ready (rs := [17]) (by kernel_rfl) (by simp) ?_
          refine AllReadyH.cons rfl (fun K hK => ?_) ?_
          · refine step_append_st (E := byteE) rfl (.tmp 25) (.tmp 27) slByte rfl HX.out (Src.of_sl (up3 HD.out)) rfl rfl (by have := HDL.out; simp only [List.length_nil]; unfold maxLen; omega) (by have := HDL.out; simp only [List.length_nil]; omega) ?_
            intro bD nD cD w5 hnD h5
            have hnD2 : nD = dt.length := by rw [hnD, List.length_nil, Nat.zero_add]
            clear hnD
            subst hnD2
            rw [List.nil_append] at h5
            have HY := hide h5
            clear h5
            change K (Act.put _ (some 28) _) _
            clear HX
            have HX := HY
            clear HY
            refine hK.out _ _ ?_ (fun hHeld => ?_)
            · exact SK.out _ _ HX.out (up3 HM2.out)
            clear hK K
            try simp only [Act.put, List.setIfInBounds_toArray, List.set_cons_zero, List.set_cons_succ]
            refine wpAnyH_takeD (i := 18) (some 29) (v := ?v18_19) rfl rfl (by kernel_rfl) (by kernel_rfl) (by kernel_rfl) (fun _ _ _ h => h) (by rfl) ?y18_19 (by assumption) ?r18_19
            case y18_19 => (intro w hSw; (try dsimp only at hSw); first | (go_simp; done) | (go_simp; with_reducible rfl))
            try simp only [Act.put, List.setIfInBounds_toArray, List.set_cons_zero, List.set_cons_succ]
            refine wpAnyH_ready (rs := [20]) (by kernel_rfl) (by simp) ?_
            refine AllReadyH.cons rfl (fun K hK => ?_) ?_
            · refine step_storeB_st (cs := [.int .i64 (f0 : Nat), .int .i64 (f1 : Nat), .int .i64 (f2 : Nat), .int .i64 (f3 : Nat), .slice bD dt.length cD]) (c := [.int .i64 0, .int .i64 0, .int .i64 0, .int .i64 0, .slice none 0 0]) (d := [.int .i64 (f0 : Nat), .int .i64 (f1 : Nat), .int .i64 (f2 : Nat), .int .i64 (f3 : Nat), .slice bD dt.length cD]) rfl 91 (.tmp 4) (.tmp 29) rfl szPartX rfl rfl (by intro v hv; simp only [List.mem_cons, List.not_mem_nil, or_false] at hv; rcases hv with rfl | rfl | rfl | rfl | rfl <;> rfl) HX.out.f1 (by simp) rfl ?_
              intro w7 h7
              have HY := hide h7
              clear h7
              clear HX
              have HX := HY
              clear HY
              refine hK.out _ _ ?_ (fun hHeld => ?_)
              · exact SK.out _ _ HX.out (up3 HM2.out)
              clear hK K
              try simp only [Act.put, List.setIfInBounds_toArray, List.set_cons_zero, List.set_cons_succ]
              refine wpAnyH_done (by kernel_rfl) ?_ _
              have HZ := hide HX.out.f1.persist.f1
              clear HX hHeld
              go_wp2_with (first
                | (refine wpList_loadB_st (cs := [.int .i64 (f0 : Nat), .int .i64 (f1 : Nat), .int .i64 (f2 : Nat), .int .i64 (f3 : Nat), .slice bD dt.length cD]) rfl agPartX (.tmp 4) rfl rfl rfl HZ.out mem0 ?_)
                | (go_at_call 46; refine (rbytes_calls (p := ⟨f0, f1, f2, f3, dt⟩) HZ.out mem1 HOKP.out).mono ?_; rintro z w8 ⟨b7, c7, rfl, h8⟩; rw [HPB.out] at h8; have cv1 := conv_str h8 (Reads.of_rows mem0); have cv2 := conv_str h8 (Reads.of_sl (up4 HM2.out)); have H8 := hide h8; clear h8 HZ)
                | (refine wpList_loadB_st (cs := [.int .i64 (f0 : Nat), .int .i64 (f1 : Nat), .int .i64 (f2 : Nat), .int .i64 (f3 : Nat), .slice bD dt.length cD]) rfl agPartX (.tmp 4) rfl rfl rfl H8.out.drop mem0 ?_)
                | ((with_reducible refine wpList_store_ag (cs := [.int .i64 (f0 : Nat), .int .i64 (f1 : Nat), .int .i64 (f2 : Nat), .int .i64 (f3 : Nat), .slice bD dt.length cD]) rfl agPartX (.tmp 2) (.tmp 45) rfl rfl rfl rfl rfl (ONE5.out _ _ _ _ _ rfl rfl rfl rfl rfl) H8.out.drop.f2 ?_); intro w20 h20; have H20 := hide h20; clear h20 H8))
              (try simp only [Exit.inBlock, Exit.then])
              have hb2 := H20.out.mem_blk mem0
              refine bodyPost_ret (results_cell_row2 rfl _ _ g2 _ _ _ _ rfl hb2 Try.underlying91 rfl szPartX) rfl ?_
              exact Or.inl ⟨⟨f0, f1, f2, f3, dt⟩, _, HPN.out, rfl, H20.out.drop.drop.d1⟩
            exact AllReadyH.nil
          exact AllReadyH.nil
        exact AllReadyH.nil
      exact AllReadyH.nil
    · have HPN := hide ((hp none).2 (if_neg (fun q => he (hPB.symm.trans q.2))))
      have hq : (PB == l) = false := by rw [beq_eq_false_iff_ne]; exact he
      have HOKP := hide ((okP_iff _).1 hk)
      clear hp hk he hPB
      go_enter Try.func64, Try.ntmps64
      go_wp2_with (first
        | ((with_reducible refine wpList_alloc_ag rfl agPartX rfl H.out ?_); intro g2 w1 h1; have H1 := hide h1; clear h1 H))
      refine wp_region_held_drew (S := fun w' => (∀ j (_ : j < l.length), w'.cell? ⟨g, o + j, none⟩ = some (B8 l[j])) ∧ w'.cell? ⟨g, o + 6, none⟩ = some (.int .u8 (f2 : Nat)) ∧ w'.cell? ⟨g, o + 7, none⟩ = some (.int .u8 (f3 : Nat))) (by kernel_rfl) ?_ (fun hHeld => ?_)
      · exact SK.out _ _ H1.out.drew (up1 HM2.out)
      have HX := hide H1.out.drew
      clear H1
      refine wpAnyH_takeD (i := 0) (some 11) (v := ?v0_20) rfl rfl (by kernel_rfl) (by kernel_rfl) (by kernel_rfl) (fun _ _ _ h => h) (by rfl) ?y0_20 (by assumption) ?r0_20
      case y0_20 => (intro w hSw; (try dsimp only at hSw); first | (go_simp; done) | (go_simp; with_reducible rfl))
      try simp only [Act.put, List.setIfInBounds_toArray, List.set_cons_zero, List.set_cons_succ]
      refine wpAnyH_takeD (i := 1) (some 12) (v := ?v1_21) rfl rfl (by kernel_rfl) (by kernel_rfl) (by kernel_rfl) (fun _ _ _ h => h) (by rfl) ?y1_21 (by assumption) ?r1_21
      case y1_21 => (intro w hSw; (try dsimp only at hSw); first | (go_simp; done) | (go_simp; with_reducible rfl))
      try simp only [Act.put, List.setIfInBounds_toArray, List.set_cons_zero, List.set_cons_succ]
      refine wpAnyH_tellsD (i := 2) (some 13) (v := .int .i64 (f0 : Nat)) rfl rfl (by kernel_rfl) (by kernel_rfl) (by kernel_rfl) (fun _ _ _ h => h) ⟨by rfl, 77, #[.slice (some ⟨g, o, none⟩) 4 cap], fun w hSw => ⟨?y2_22, (by have := rnum_sub HL.out 0 4 cap (by decide) (by decide) hSw.1; rw [HF0.out] at this; exact this)⟩⟩ (by assumption) ?r2_22
      case y2_22 => first | (go_simp; done) | (go_simp; with_reducible rfl)
      try simp only [Act.put, List.setIfInBounds_toArray, List.set_cons_zero, List.set_cons_succ]
      refine wpAnyH_takeD (i := 3) (some 14) (v := ?v3_23) rfl rfl (by kernel_rfl) (by kernel_rfl) (by kernel_rfl) (fun _ _ _ h => h) (by rfl) ?y3_23 (by assumption) ?r3_23
      case y3_23 => (intro w hSw; (try dsimp only at hSw); first | (go_simp; done) | (go_simp; with_reducible rfl))
      try simp only [Act.put, List.setIfInBounds_toArray, List.set_cons_zero, List.set_cons_succ]
      refine wpAnyH_takeD (i := 4) (some 15) (v := ?v4_24) rfl rfl (by kernel_rfl) (by kernel_rfl) (by kernel_rfl) (fun _ _ _ h => h) (by rfl) ?y4_24 (by assumption) ?r4_24
      case y4_24 => (intro w hSw; (try dsimp only at hSw); first | (go_simp; done) | (go_simp; with_reducible rfl))
      try simp only [Act.put, List.setIfInBounds_toArray, List.set_cons_zero, List.set_cons_succ]
      refine wpAnyH_tellsD (i := 5) (some 16) (v := .int .i64 (f1 : Nat)) rfl rfl (by kernel_rfl) (by kernel_rfl) (by kernel_rfl) (fun _ _ _ h => h) ⟨by rfl, 77, #[.slice (some ⟨g, o + 4, none⟩) 2 (cap - 4)], fun w hSw => ⟨?y5_25, (by have := rnum_sub HL.out 4 2 (cap - 4) (by decide) (by decide) hSw.1; rw [HF1.out] at this; exact this)⟩⟩ (by assumption) ?r5_25
      case y5_25 => first | (go_simp; done) | (go_simp; with_reducible rfl)
      try simp only [Act.put, List.setIfInBounds_toArray, List.set_cons_zero, List.set_cons_succ]
      refine wpAnyH_takeD (i := 6) (some 17) (v := ?v6_26) rfl rfl (by kernel_rfl) (by kernel_rfl) (by kernel_rfl) (fun _ _ _ h => h) (by rfl) ?y6_26 (by assumption) ?r6_26
      case y6_26 => (intro w hSw; (try dsimp only at hSw); first | (go_simp; done) | (go_simp; with_reducible rfl))
      try simp only [Act.put, List.setIfInBounds_toArray, List.set_cons_zero, List.set_cons_succ]
      refine wpAnyH_takeD (i := 7) (some 18) (v := ?v7_27) rfl rfl (by kernel_rfl) (by kernel_rfl) (by kernel_rfl) (fun _ _ _ h => h) (by rfl) ?y7_27 (by assumption) ?r7_27
      case y7_27 => (intro w hSw; (try dsimp only at hSw); first | (go_simp; done) | (go_simp; with_reducible rfl))
      try simp only [Act.put, List.setIfInBounds_toArray, List.set_cons_zero, List.set_cons_succ]
      refine wpAnyH_takeD (i := 8) (some 19) (v := ?v8_28) rfl rfl (by kernel_rfl) (by kernel_rfl) (by kernel_rfl) (fun _ _ _ h => h) (by rfl) ?y8_28 (by assumption) ?r8_28
      case y8_28 => (intro w hSw; (try dsimp only at hSw); first | (go_simp; done) | (go_simp; with_reducible rfl))
      try simp only [Act.put, List.setIfInBounds_toArray, List.set_cons_zero, List.set_cons_succ]
      refine wpAnyH_takeD (i := 9) (some 20) (v := ?v9_29) rfl rfl (by kernel_rfl) (by kernel_rfl) (by kernel_rfl) (fun _ _ _ h => h) (by rfl) ?y9_29 (by assumption) ?r9_29
      case y9_29 => (intro w hSw; (try dsimp only at hSw); first | (go_simp; done) | (go_simp; with_reducible rfl))
      try simp only [Act.put, List.setIfInBounds_toArray, List.set_cons_zero, List.set_cons_succ]
      refine wpAnyH_takeD (i := 10) (some 21) (v := ?v10_30) rfl rfl (by kernel_rfl) (by kernel_rfl) (by kernel_rfl) (fun _ _ _ h => h) (by rfl) ?y10_30 (by assumption) ?r10_30
      case y10_30 => (intro w hSw; (try dsimp only at hSw); first | (go_simp; done) | (go_simp; with_reducible rfl))
      try simp only [Act.put, List.setIfInBounds_toArray, List.set_cons_zero, List.set_cons_succ]
      refine wpAnyH_takeD (i := 11) (some 22) (v := ?v11_31) rfl rfl (by kernel_rfl) (by kernel_rfl) (by kernel_rfl) (fun _ _ _ h => h) (by rfl) ?y11_31 (by assumption) ?r11_31
      case y11_31 => (intro w hSw; (try dsimp only at hSw); first | (go_simp; done) | (go_simp; with_reducible rfl))
      try simp only [Act.put, List.setIfInBounds_toArray, List.set_cons_zero, List.set_cons_succ]
      refine wpAnyH_takeD (i := 12) (some 23) (v := ?v12_32) rfl rfl (by kernel_rfl) (by kernel_rfl) (by kernel_rfl) (fun _ _ _ h => h) (by rfl) ?y12_32 (by assumption) ?r12_32
      case y12_32 => (intro w hSw; (try dsimp only at hSw); first | (go_simp; done) | (go_simp; with_reducible rfl))
      try simp only [Act.put, List.setIfInBounds_toArray, List.set_cons_zero, List.set_cons_succ]
      refine wpAnyH_takeD (i := 13) (some 24) (v := ?v13_33) rfl rfl (by kernel_rfl) (by kernel_rfl) (by kernel_rfl) (fun _ _ _ h => h) (by rfl) ?y13_33 (by assumption) ?r13_33
      case y13_33 => (intro w hSw; (try dsimp only at hSw); first | (go_simp; done) | (go_simp; with_reducible rfl))
      try simp only [Act.put, List.setIfInBounds_toArray, List.set_cons_zero, List.set_cons_succ]
      refine wpAnyH_takeD (i := 15) (some 26) (v := ?v15_34) rfl rfl (by kernel_rfl) (by kernel_rfl) (by kernel_rfl) (fun _ _ _ h => h) (by rfl) ?y15_34 (by assumption) ?r15_34
      case y15_34 => (intro w hSw; (try dsimp only at hSw); first | (go_simp; done) | (go_simp; with_reducible rfl))
      try simp only [Act.put, List.setIfInBounds_toArray, List.set_cons_zero, List.set_cons_succ]
      refine wpAnyH_takeD (i := 16) (some 27) (v := ?v16_35) rfl rfl (by kernel_rfl) (by kernel_rfl) (by kernel_rfl) (fun _ _ _ h => h) (by rfl) ?y16_35 (by assumption) ?r16_35
      case y16_35 => (intro w hSw; (try dsimp only at hSw); first | (go_simp; done) | (go_simp; with_reducible rfl))
      try simp only [Act.put, List.setIfInBounds_toArray, List.set_cons_zero, List.set_cons_succ]
      refine wpAnyH_ready (rs := [14, 19]) (by kernel_rfl) (by simp) ?_
      refine AllReadyH.cons rfl (fun K hK => ?_) ?_
      · refine step_build0_st (α := UInt8) (E := byteE) rfl slByte rfl HX.out ?_
        intro g4 w4 h4
        have HY := hide h4
        clear h4
        change K (Act.put _ (some 25) _) _
        clear HX
        have HX := HY
        clear HY
        refine hK.out _ _ ?_ (fun hHeld => ?_)
        · exact SK.out _ _ HX.out (up2 HM2.out)
        clear hK K
        try simp only [Act.put, List.setIfInBounds_toArray, List.set_cons_zero, List.set_cons_succ]
        refine wpAnyH_ready (rs := [17, 19]) (by kernel_rfl) (by simp) ?_
        refine AllReadyH.cons rfl (fun K hK => ?_) ?_
        · refine step_append_st (E := byteE) rfl (.tmp 25) (.tmp 27) slByte rfl HX.out (Src.of_sl (up2 HD.out)) rfl rfl (by have := HDL.out; simp only [List.length_nil]; unfold maxLen; omega) (by have := HDL.out; simp only [List.length_nil]; omega) ?_
          intro bD nD cD w5 hnD h5
          have hnD2 : nD = dt.length := by rw [hnD, List.length_nil, Nat.zero_add]
          clear hnD
          subst hnD2
          rw [List.nil_append] at h5
          have HY := hide h5
          clear h5
          change K (Act.put _ (some 28) _) _
          clear HX
          have HX := HY
          clear HY
          refine hK.out _ _ ?_ (fun hHeld => ?_)
          · exact SK.out _ _ HX.out (up2 HM2.out)
          clear hK K
          try simp only [Act.put, List.setIfInBounds_toArray, List.set_cons_zero, List.set_cons_succ]
          refine wpAnyH_takeD (i := 18) (some 29) (v := ?v18_36) rfl rfl (by kernel_rfl) (by kernel_rfl) (by kernel_rfl) (fun _ _ _ h => h) (by rfl) ?y18_36 (by assumption) ?r18_36
          case y18_36 => (intro w hSw; (try dsimp only at hSw); first | (go_simp; done) | (go_simp; with_reducible rfl))
          try simp only [Act.put, List.setIfInBounds_toArray, List.set_cons_zero, List.set_cons_succ]
          refine wpAnyH_ready (rs := [19]) (by kernel_rfl) (by simp) ?_
          refine AllReadyH.cons rfl (fun K hK => ?_) ?_
          · refine step_alloc_ag rfl agPartX rfl HX.out ?_
            intro g5 w6 h6
            have HY := hide h6.f1
            clear h6
            change K (Act.put _ (some 4) _) _
            clear HX
            have HX := HY
            clear HY
            refine hK.out _ _ ?_ (fun hHeld => ?_)
            · exact SK.out _ _ HX.out (up3 HM2.out)
            clear hK K
            try simp only [Act.put, List.setIfInBounds_toArray, List.set_cons_zero, List.set_cons_succ]
            refine wpAnyH_ready (rs := [20]) (by kernel_rfl) (by simp) ?_
            refine AllReadyH.cons rfl (fun K hK => ?_) ?_
            · refine step_storeB_st (cs := [.int .i64 (f0 : Nat), .int .i64 (f1 : Nat), .int .i64 (f2 : Nat), .int .i64 (f3 : Nat), .slice bD dt.length cD]) (c := [.int .i64 0, .int .i64 0, .int .i64 0, .int .i64 0, .slice none 0 0]) (d := [.int .i64 (f0 : Nat), .int .i64 (f1 : Nat), .int .i64 (f2 : Nat), .int .i64 (f3 : Nat), .slice bD dt.length cD]) rfl 91 (.tmp 4) (.tmp 29) rfl szPartX rfl rfl (by intro v hv; simp only [List.mem_cons, List.not_mem_nil, or_false] at hv; rcases hv with rfl | rfl | rfl | rfl | rfl <;> rfl) HX.out.f1 (by simp) rfl ?_
              intro w7 h7
              have HY := hide h7
              clear h7
              clear HX
              have HX := HY
              clear HY
              refine hK.out _ _ ?_ (fun hHeld => ?_)
              · exact SK.out _ _ HX.out (up3 HM2.out)
              clear hK K
              try simp only [Act.put, List.setIfInBounds_toArray, List.set_cons_zero, List.set_cons_succ]
              refine wpAnyH_done (by kernel_rfl) ?_ _
              have HZ := hide HX.out.f1.persist.f1
              clear HX hHeld
              go_wp2_with (first
                | (refine wpList_loadB_st (cs := [.int .i64 (f0 : Nat), .int .i64 (f1 : Nat), .int .i64 (f2 : Nat), .int .i64 (f3 : Nat), .slice bD dt.length cD]) rfl agPartX (.tmp 4) rfl rfl rfl HZ.out mem0 ?_)
                | (go_at_call 46; refine (rbytes_calls (p := ⟨f0, f1, f2, f3, dt⟩) HZ.out mem1 HOKP.out).mono ?_; rintro z w8 ⟨b7, c7, rfl, h8⟩; rw [HPB.out] at h8; have cv1 := conv_str h8 (Reads.of_rows mem0); have cv2 := conv_str h8 (Reads.of_sl (up4 HM2.out)); have H8 := hide h8; clear h8 HZ)
                | ((with_reducible refine wpList_store_ag (cs := [.int .i64 0, .int .i64 0, .int .i64 0, .int .i64 0, .slice none 0 0]) rfl agPartX (.tmp 2) (.tmp 44) rfl rfl rfl rfl rfl (ONE5.out _ _ _ _ _ rfl rfl rfl rfl rfl) H8.out.drop.f2 ?_); intro w20 h20; have H20 := hide h20; clear h20 H8))
              (try simp only [Exit.inBlock, Exit.then])
              have hb2 := H20.out.mem_blk mem0
              refine bodyPost_ret (results_cell_row2 rfl _ _ g2 _ _ _ _ rfl hb2 Try.underlying91 rfl szPartX) rfl ?_
              exact Or.inr ⟨HPN.out, rfl, H20.out.drop.drop.drop.drop⟩
            exact AllReadyH.nil
          exact AllReadyH.nil
        refine AllReadyH.cons rfl (fun K hK => ?_) ?_
        · refine step_alloc_ag rfl agPartX rfl HX.out ?_
          intro g5 w6 h6
          have HY := hide h6.f1
          clear h6
          change K (Act.put _ (some 4) _) _
          clear HX
          have HX := HY
          clear HY
          refine hK.out _ _ ?_ (fun hHeld => ?_)
          · exact SK.out _ _ HX.out (up3 HM2.out)
          clear hK K
          try simp only [Act.put, List.setIfInBounds_toArray, List.set_cons_zero, List.set_cons_succ]
          refine wpAnyH_ready (rs := [17]) (by kernel_rfl) (by simp) ?_
          refine AllReadyH.cons rfl (fun K hK => ?_) ?_
          · refine step_append_st (E := byteE) rfl (.tmp 25) (.tmp 27) slByte rfl HX.out (Src.of_sl (up3 HD.out)) rfl rfl (by have := HDL.out; simp only [List.length_nil]; unfold maxLen; omega) (by have := HDL.out; simp only [List.length_nil]; omega) ?_
            intro bD nD cD w5 hnD h5
            have hnD2 : nD = dt.length := by rw [hnD, List.length_nil, Nat.zero_add]
            clear hnD
            subst hnD2
            rw [List.nil_append] at h5
            have HY := hide h5
            clear h5
            change K (Act.put _ (some 28) _) _
            clear HX
            have HX := HY
            clear HY
            refine hK.out _ _ ?_ (fun hHeld => ?_)
            · exact SK.out _ _ HX.out (up3 HM2.out)
            clear hK K
            try simp only [Act.put, List.setIfInBounds_toArray, List.set_cons_zero, List.set_cons_succ]
            refine wpAnyH_takeD (i := 18) (some 29) (v := ?v18_37) rfl rfl (by kernel_rfl) (by kernel_rfl) (by kernel_rfl) (fun _ _ _ h => h) (by rfl) ?y18_37 (by assumption) ?r18_37
            case y18_37 => (intro w hSw; (try dsimp only at hSw); first | (go_simp; done) | (go_simp; with_reducible rfl))
            try simp only [Act.put, List.setIfInBounds_toArray, List.set_cons_zero, List.set_cons_succ]
            refine wpAnyH_ready (rs := [20]) (by kernel_rfl) (by simp) ?_
            refine AllReadyH.cons rfl (fun K hK => ?_) ?_
            · refine step_storeB_st (cs := [.int .i64 (f0 : Nat), .int .i64 (f1 : Nat), .int .i64 (f2 : Nat), .int .i64 (f3 : Nat), .slice bD dt.length cD]) (c := [.int .i64 0, .int .i64 0, .int .i64 0, .int .i64 0, .slice none 0 0]) (d := [.int .i64 (f0 : Nat), .int .i64 (f1 : Nat), .int .i64 (f2 : Nat), .int .i64 (f3 : Nat), .slice bD dt.length cD]) rfl 91 (.tmp 4) (.tmp 29) rfl szPartX rfl rfl (by intro v hv; simp only [List.mem_cons, List.not_mem_nil, or_false] at hv; rcases hv with rfl | rfl | rfl | rfl | rfl <;> rfl) HX.out.f1 (by simp) rfl ?_
              intro w7 h7
              have HY := hide h7
              clear h7
              clear HX
              have HX := HY
              clear HY
              refine hK.out _ _ ?_ (fun hHeld => ?_)
              · exact SK.out _ _ HX.out (up3 HM2.out)
              clear hK K
              try simp only [Act.put, List.setIfInBounds_toArray, List.set_cons_zero, List.set_cons_succ]
              refine wpAnyH_done (by kernel_rfl) ?_ _
              have HZ := hide HX.out.f1.persist.f1
              clear HX hHeld
              go_wp2_with (first
                | (refine wpList_loadB_st (cs := [.int .i64 (f0 : Nat), .int .i64 (f1 : Nat), .int .i64 (f2 : Nat), .int .i64 (f3 : Nat), .slice bD dt.length cD]) rfl agPartX (.tmp 4) rfl rfl rfl HZ.out mem0 ?_)
                | (go_at_call 46; refine (rbytes_calls (p := ⟨f0, f1, f2, f3, dt⟩) HZ.out mem1 HOKP.out).mono ?_; rintro z w8 ⟨b7, c7, rfl, h8⟩; rw [HPB.out] at h8; have cv1 := conv_str h8 (Reads.of_rows mem0); have cv2 := conv_str h8 (Reads.of_sl (up4 HM2.out)); have H8 := hide h8; clear h8 HZ)
                | ((with_reducible refine wpList_store_ag (cs := [.int .i64 0, .int .i64 0, .int .i64 0, .int .i64 0, .slice none 0 0]) rfl agPartX (.tmp 2) (.tmp 44) rfl rfl rfl rfl rfl (ONE5.out _ _ _ _ _ rfl rfl rfl rfl rfl) H8.out.drop.f2 ?_); intro w20 h20; have H20 := hide h20; clear h20 H8))
              (try simp only [Exit.inBlock, Exit.then])
              have hb2 := H20.out.mem_blk mem0
              refine bodyPost_ret (results_cell_row2 rfl _ _ g2 _ _ _ _ rfl hb2 Try.underlying91 rfl szPartX) rfl ?_
              exact Or.inr ⟨HPN.out, rfl, H20.out.drop.drop.drop.drop⟩
            exact AllReadyH.nil
          exact AllReadyH.nil
        exact AllReadyH.nil
      refine AllReadyH.cons rfl (fun K hK => ?_) ?_
      · refine step_alloc_ag rfl agPartX rfl HX.out ?_
        intro g5 w6 h6
        have HY := hide h6
        clear h6
        change K (Act.put _ (some 4) _) _
        clear HX
        have HX := HY
        clear HY
        refine hK.out _ _ ?_ (fun hHeld => ?_)
        · exact SK.out _ _ HX.out (up2 HM2.out)
        clear hK K
        try simp only [Act.put, List.setIfInBounds_toArray, List.set_cons_zero, List.set_cons_succ]
        refine wpAnyH_ready (rs := [14]) (by kernel_rfl) (by simp) ?_
        refine AllReadyH.cons rfl (fun K hK => ?_) ?_
        · refine step_build0_st (α := UInt8) (E := byteE) rfl slByte rfl HX.out ?_
          intro g4 w4 h4
          have HY := hide h4
          clear h4
          change K (Act.put _ (some 25) _) _
          clear HX
          have HX := HY
          clear HY
          refine hK.out _ _ ?_ (fun hHeld => ?_)
          · exact SK.out _ _ HX.out (up3 HM2.out)
          clear hK K
          try simp only [Act.put, List.setIfInBounds_toArray, List.set_cons_zero, List.set_cons_succ]
          refine wpAnyH_ready (rs := [17]) (by kernel_rfl) (by simp) ?_
          refine AllReadyH.cons rfl (fun K hK => ?_) ?_
          · refine step_append_st (E := byteE) rfl (.tmp 25) (.tmp 27) slByte rfl HX.out (Src.of_sl (up3 HD.out)) rfl rfl (by have := HDL.out; simp only [List.length_nil]; unfold maxLen; omega) (by have := HDL.out; simp only [List.length_nil]; omega) ?_
            intro bD nD cD w5 hnD h5
            have hnD2 : nD = dt.length := by rw [hnD, List.length_nil, Nat.zero_add]
            clear hnD
            subst hnD2
            rw [List.nil_append] at h5
            have HY := hide h5
            clear h5
            change K (Act.put _ (some 28) _) _
            clear HX
            have HX := HY
            clear HY
            refine hK.out _ _ ?_ (fun hHeld => ?_)
            · exact SK.out _ _ HX.out (up3 HM2.out)
            clear hK K
            try simp only [Act.put, List.setIfInBounds_toArray, List.set_cons_zero, List.set_cons_succ]
            refine wpAnyH_takeD (i := 18) (some 29) (v := ?v18_38) rfl rfl (by kernel_rfl) (by kernel_rfl) (by kernel_rfl) (fun _ _ _ h => h) (by rfl) ?y18_38 (by assumption) ?r18_38
            case y18_38 => (intro w hSw; (try dsimp only at hSw); first | (go_simp; done) | (go_simp; with_reducible rfl))
            try simp only [Act.put, List.setIfInBounds_toArray, List.set_cons_zero, List.set_cons_succ]
            refine wpAnyH_ready (rs := [20]) (by kernel_rfl) (by simp) ?_
            refine AllReadyH.cons rfl (fun K hK => ?_) ?_
            · refine step_storeB_st (cs := [.int .i64 (f0 : Nat), .int .i64 (f1 : Nat), .int .i64 (f2 : Nat), .int .i64 (f3 : Nat), .slice bD dt.length cD]) (c := [.int .i64 0, .int .i64 0, .int .i64 0, .int .i64 0, .slice none 0 0]) (d := [.int .i64 (f0 : Nat), .int .i64 (f1 : Nat), .int .i64 (f2 : Nat), .int .i64 (f3 : Nat), .slice bD dt.length cD]) rfl 91 (.tmp 4) (.tmp 29) rfl szPartX rfl rfl (by intro v hv; simp only [List.mem_cons, List.not_mem_nil, or_false] at hv; rcases hv with rfl | rfl | rfl | rfl | rfl <;> rfl) HX.out.f1 (by simp) rfl ?_
              intro w7 h7
              have HY := hide h7
              clear h7
              clear HX
              have HX := HY
              clear HY
              refine hK.out _ _ ?_ (fun hHeld => ?_)
              · exact SK.out _ _ HX.out (up3 HM2.out)
              clear hK K
              try simp only [Act.put, List.setIfInBounds_toArray, List.set_cons_zero, List.set_cons_succ]
              refine wpAnyH_done (by kernel_rfl) ?_ _
              have HZ := hide HX.out.f1.persist.f1
              clear HX hHeld
              go_wp2_with (first
                | (refine wpList_loadB_st (cs := [.int .i64 (f0 : Nat), .int .i64 (f1 : Nat), .int .i64 (f2 : Nat), .int .i64 (f3 : Nat), .slice bD dt.length cD]) rfl agPartX (.tmp 4) rfl rfl rfl HZ.out mem0 ?_)
                | (go_at_call 46; refine (rbytes_calls (p := ⟨f0, f1, f2, f3, dt⟩) HZ.out mem1 HOKP.out).mono ?_; rintro z w8 ⟨b7, c7, rfl, h8⟩; rw [HPB.out] at h8; have cv1 := conv_str h8 (Reads.of_rows mem0); have cv2 := conv_str h8 (Reads.of_sl (up4 HM2.out)); have H8 := hide h8; clear h8 HZ)
                | ((with_reducible refine wpList_store_ag (cs := [.int .i64 0, .int .i64 0, .int .i64 0, .int .i64 0, .slice none 0 0]) rfl agPartX (.tmp 2) (.tmp 44) rfl rfl rfl rfl rfl (ONE5.out _ _ _ _ _ rfl rfl rfl rfl rfl) H8.out.drop.f2 ?_); intro w20 h20; have H20 := hide h20; clear h20 H8))
              (try simp only [Exit.inBlock, Exit.then])
              have hb2 := H20.out.mem_blk mem0
              refine bodyPost_ret (results_cell_row2 rfl _ _ g2 _ _ _ _ rfl hb2 Try.underlying91 rfl szPartX) rfl ?_
              exact Or.inr ⟨HPN.out, rfl, H20.out.drop.drop.drop.drop⟩
            exact AllReadyH.nil
          exact AllReadyH.nil
        exact AllReadyH.nil
      exact AllReadyH.nil
  · have HPN := hide ((hp none).2 (if_neg (fun q => hk q.1)))
    have HOKP : Hid (okP ⟨f0, f1, f2, f3, dt⟩ = false) := hide (by simpa using hk)
    clear hp hk
    go_enter Try.func64, Try.ntmps64
    go_wp2_with (first
      | ((with_reducible refine wpList_alloc_ag rfl agPartX rfl H.out ?_); intro g2 w1 h1; have H1 := hide h1; clear h1 H))
    refine wp_region_held_drew (S := fun w' => (∀ j (_ : j < l.length), w'.cell? ⟨g, o + j, none⟩ = some (B8 l[j])) ∧ w'.cell? ⟨g, o + 6, none⟩ = some (.int .u8 (f2 : Nat)) ∧ w'.cell? ⟨g, o + 7, none⟩ = some (.int .u8 (f3 : Nat))) (by kernel_rfl) ?_ (fun hHeld => ?_)
    · exact SK.out _ _ H1.out.drew (up1 HM2.out)
    have HX := hide H1.out.drew
    clear H1
    refine wpAnyH_takeD (i := 0) (some 11) (v := ?v0_39) rfl rfl (by kernel_rfl) (by kernel_rfl) (by kernel_rfl) (fun _ _ _ h => h) (by rfl) ?y0_39 (by assumption) ?r0_39
    case y0_39 => (intro w hSw; (try dsimp only at hSw); first | (go_simp; done) | (go_simp; with_reducible rfl))
    try simp only [Act.put, List.setIfInBounds_toArray, List.set_cons_zero, List.set_cons_succ]
    refine wpAnyH_takeD (i := 1) (some 12) (v := ?v1_40) rfl rfl (by kernel_rfl) (by kernel_rfl) (by kernel_rfl) (fun _ _ _ h => h) (by rfl) ?y1_40 (by assumption) ?r1_40
    case y1_40 => (intro w hSw; (try dsimp only at hSw); first | (go_simp; done) | (go_simp; with_reducible rfl))
    try simp only [Act.put, List.setIfInBounds_toArray, List.set_cons_zero, List.set_cons_succ]
    refine wpAnyH_tellsD (i := 2) (some 13) (v := .int .i64 (f0 : Nat)) rfl rfl (by kernel_rfl) (by kernel_rfl) (by kernel_rfl) (fun _ _ _ h => h) ⟨by rfl, 77, #[.slice (some ⟨g, o, none⟩) 4 cap], fun w hSw => ⟨?y2_41, (by have := rnum_sub HL.out 0 4 cap (by decide) (by decide) hSw.1; rw [HF0.out] at this; exact this)⟩⟩ (by assumption) ?r2_41
    case y2_41 => first | (go_simp; done) | (go_simp; with_reducible rfl)
    try simp only [Act.put, List.setIfInBounds_toArray, List.set_cons_zero, List.set_cons_succ]
    refine wpAnyH_takeD (i := 3) (some 14) (v := ?v3_42) rfl rfl (by kernel_rfl) (by kernel_rfl) (by kernel_rfl) (fun _ _ _ h => h) (by rfl) ?y3_42 (by assumption) ?r3_42
    case y3_42 => (intro w hSw; (try dsimp only at hSw); first | (go_simp; done) | (go_simp; with_reducible rfl))
    try simp only [Act.put, List.setIfInBounds_toArray, List.set_cons_zero, List.set_cons_succ]
    refine wpAnyH_takeD (i := 4) (some 15) (v := ?v4_43) rfl rfl (by kernel_rfl) (by kernel_rfl) (by kernel_rfl) (fun _ _ _ h => h) (by rfl) ?y4_43 (by assumption) ?r4_43
    case y4_43 => (intro w hSw; (try dsimp only at hSw); first | (go_simp; done) | (go_simp; with_reducible rfl))
    try simp only [Act.put, List.setIfInBounds_toArray, List.set_cons_zero, List.set_cons_succ]
    refine wpAnyH_tellsD (i := 5) (some 16) (v := .int .i64 (f1 : Nat)) rfl rfl (by kernel_rfl) (by kernel_rfl) (by kernel_rfl) (fun _ _ _ h => h) ⟨by rfl, 77, #[.slice (some ⟨g, o + 4, none⟩) 2 (cap - 4)], fun w hSw => ⟨?y5_44, (by have := rnum_sub HL.out 4 2 (cap - 4) (by decide) (by decide) hSw.1; rw [HF1.out] at this; exact this)⟩⟩ (by assumption) ?r5_44
    case y5_44 => first | (go_simp; done) | (go_simp; with_reducible rfl)
    try simp only [Act.put, List.setIfInBounds_toArray, List.set_cons_zero, List.set_cons_succ]
    refine wpAnyH_takeD (i := 6) (some 17) (v := ?v6_45) rfl rfl (by kernel_rfl) (by kernel_rfl) (by kernel_rfl) (fun _ _ _ h => h) (by rfl) ?y6_45 (by assumption) ?r6_45
    case y6_45 => (intro w hSw; (try dsimp only at hSw); first | (go_simp; done) | (go_simp; with_reducible rfl))
    try simp only [Act.put, List.setIfInBounds_toArray, List.set_cons_zero, List.set_cons_succ]
    refine wpAnyH_takeD (i := 7) (some 18) (v := ?v7_46) rfl rfl (by kernel_rfl) (by kernel_rfl) (by kernel_rfl) (fun _ _ _ h => h) (by rfl) ?y7_46 (by assumption) ?r7_46
    case y7_46 => (intro w hSw; (try dsimp only at hSw); first | (go_simp; done) | (go_simp; with_reducible rfl))
    try simp only [Act.put, List.setIfInBounds_toArray, List.set_cons_zero, List.set_cons_succ]
    refine wpAnyH_takeD (i := 8) (some 19) (v := ?v8_47) rfl rfl (by kernel_rfl) (by kernel_rfl) (by kernel_rfl) (fun _ _ _ h => h) (by rfl) ?y8_47 (by assumption) ?r8_47
    case y8_47 => (intro w hSw; (try dsimp only at hSw); first | (go_simp; done) | (go_simp; with_reducible rfl))
    try simp only [Act.put, List.setIfInBounds_toArray, List.set_cons_zero, List.set_cons_succ]
    refine wpAnyH_takeD (i := 9) (some 20) (v := ?v9_48) rfl rfl (by kernel_rfl) (by kernel_rfl) (by kernel_rfl) (fun _ _ _ h => h) (by rfl) ?y9_48 (by assumption) ?r9_48
    case y9_48 => (intro w hSw; (try dsimp only at hSw); first | (go_simp; done) | (go_simp; with_reducible rfl))
    try simp only [Act.put, List.setIfInBounds_toArray, List.set_cons_zero, List.set_cons_succ]
    refine wpAnyH_takeD (i := 10) (some 21) (v := ?v10_49) rfl rfl (by kernel_rfl) (by kernel_rfl) (by kernel_rfl) (fun _ _ _ h => h) (by rfl) ?y10_49 (by assumption) ?r10_49
    case y10_49 => (intro w hSw; (try dsimp only at hSw); first | (go_simp; done) | (go_simp; with_reducible rfl))
    try simp only [Act.put, List.setIfInBounds_toArray, List.set_cons_zero, List.set_cons_succ]
    refine wpAnyH_takeD (i := 11) (some 22) (v := ?v11_50) rfl rfl (by kernel_rfl) (by kernel_rfl) (by kernel_rfl) (fun _ _ _ h => h) (by rfl) ?y11_50 (by assumption) ?r11_50
    case y11_50 => (intro w hSw; (try dsimp only at hSw); first | (go_simp; done) | (go_simp; with_reducible rfl))
    try simp only [Act.put, List.setIfInBounds_toArray, List.set_cons_zero, List.set_cons_succ]
    refine wpAnyH_takeD (i := 12) (some 23) (v := ?v12_51) rfl rfl (by kernel_rfl) (by kernel_rfl) (by kernel_rfl) (fun _ _ _ h => h) (by rfl) ?y12_51 (by assumption) ?r12_51
    case y12_51 => (intro w hSw; (try dsimp only at hSw); first | (go_simp; done) | (go_simp; with_reducible rfl))
    try simp only [Act.put, List.setIfInBounds_toArray, List.set_cons_zero, List.set_cons_succ]
    refine wpAnyH_takeD (i := 13) (some 24) (v := ?v13_52) rfl rfl (by kernel_rfl) (by kernel_rfl) (by kernel_rfl) (fun _ _ _ h => h) (by rfl) ?y13_52 (by assumption) ?r13_52
    case y13_52 => (intro w hSw; (try dsimp only at hSw); first | (go_simp; done) | (go_simp; with_reducible rfl))
    try simp only [Act.put, List.setIfInBounds_toArray, List.set_cons_zero, List.set_cons_succ]
    refine wpAnyH_takeD (i := 15) (some 26) (v := ?v15_53) rfl rfl (by kernel_rfl) (by kernel_rfl) (by kernel_rfl) (fun _ _ _ h => h) (by rfl) ?y15_53 (by assumption) ?r15_53
    case y15_53 => (intro w hSw; (try dsimp only at hSw); first | (go_simp; done) | (go_simp; with_reducible rfl))
    try simp only [Act.put, List.setIfInBounds_toArray, List.set_cons_zero, List.set_cons_succ]
    refine wpAnyH_takeD (i := 16) (some 27) (v := ?v16_54) rfl rfl (by kernel_rfl) (by kernel_rfl) (by kernel_rfl) (fun _ _ _ h => h) (by rfl) ?y16_54 (by assumption) ?r16_54
    case y16_54 => (intro w hSw; (try dsimp only at hSw); first | (go_simp; done) | (go_simp; with_reducible rfl))
    try simp only [Act.put, List.setIfInBounds_toArray, List.set_cons_zero, List.set_cons_succ]
    refine wpAnyH_ready (rs := [14, 19]) (by kernel_rfl) (by simp) ?_
    refine AllReadyH.cons rfl (fun K hK => ?_) ?_
    · refine step_build0_st (α := UInt8) (E := byteE) rfl slByte rfl HX.out ?_
      intro g4 w4 h4
      have HY := hide h4
      clear h4
      change K (Act.put _ (some 25) _) _
      clear HX
      have HX := HY
      clear HY
      refine hK.out _ _ ?_ (fun hHeld => ?_)
      · exact SK.out _ _ HX.out (up2 HM2.out)
      clear hK K
      try simp only [Act.put, List.setIfInBounds_toArray, List.set_cons_zero, List.set_cons_succ]
      refine wpAnyH_ready (rs := [17, 19]) (by kernel_rfl) (by simp) ?_
      refine AllReadyH.cons rfl (fun K hK => ?_) ?_
      · refine step_append_st (E := byteE) rfl (.tmp 25) (.tmp 27) slByte rfl HX.out (Src.of_sl (up2 HD.out)) rfl rfl (by have := HDL.out; simp only [List.length_nil]; unfold maxLen; omega) (by have := HDL.out; simp only [List.length_nil]; omega) ?_
        intro bD nD cD w5 hnD h5
        have hnD2 : nD = dt.length := by rw [hnD, List.length_nil, Nat.zero_add]
        clear hnD
        subst hnD2
        rw [List.nil_append] at h5
        have HY := hide h5
        clear h5
        change K (Act.put _ (some 28) _) _
        clear HX
        have HX := HY
        clear HY
        refine hK.out _ _ ?_ (fun hHeld => ?_)
        · exact SK.out _ _ HX.out (up2 HM2.out)
        clear hK K
        try simp only [Act.put, List.setIfInBounds_toArray, List.set_cons_zero, List.set_cons_succ]
        refine wpAnyH_takeD (i := 18) (some 29) (v := ?v18_55) rfl rfl (by kernel_rfl) (by kernel_rfl) (by kernel_rfl) (fun _ _ _ h => h) (by rfl) ?y18_55 (by assumption) ?r18_55
        case y18_55 => (intro w hSw; (try dsimp only at hSw); first | (go_simp; done) | (go_simp; with_reducible rfl))
        try simp only [Act.put, List.setIfInBounds_toArray, List.set_cons_zero, List.set_cons_succ]
        refine wpAnyH_ready (rs := [19]) (by kernel_rfl) (by simp) ?_
        refine AllReadyH.cons rfl (fun K hK => ?_) ?_
        · refine step_alloc_ag rfl agPartX rfl HX.out ?_
          intro g5 w6 h6
          have HY := hide h6.f1
          clear h6
          change K (Act.put _ (some 4) _) _
          clear HX
          have HX := HY
          clear HY
          refine hK.out _ _ ?_ (fun hHeld => ?_)
          · exact SK.out _ _ HX.out (up3 HM2.out)
          clear hK K
          try simp only [Act.put, List.setIfInBounds_toArray, List.set_cons_zero, List.set_cons_succ]
          refine wpAnyH_ready (rs := [20]) (by kernel_rfl) (by simp) ?_
          refine AllReadyH.cons rfl (fun K hK => ?_) ?_
          · refine step_storeB_st (cs := [.int .i64 (f0 : Nat), .int .i64 (f1 : Nat), .int .i64 (f2 : Nat), .int .i64 (f3 : Nat), .slice bD dt.length cD]) (c := [.int .i64 0, .int .i64 0, .int .i64 0, .int .i64 0, .slice none 0 0]) (d := [.int .i64 (f0 : Nat), .int .i64 (f1 : Nat), .int .i64 (f2 : Nat), .int .i64 (f3 : Nat), .slice bD dt.length cD]) rfl 91 (.tmp 4) (.tmp 29) rfl szPartX rfl rfl (by intro v hv; simp only [List.mem_cons, List.not_mem_nil, or_false] at hv; rcases hv with rfl | rfl | rfl | rfl | rfl <;> rfl) HX.out.f1 (by simp) rfl ?_
            intro w7 h7
            have HY := hide h7
            clear h7
            clear HX
            have HX := HY
            clear HY
            refine hK.out _ _ ?_ (fun hHeld => ?_)
            · exact SK.out _ _ HX.out (up3 HM2.out)
            clear hK K
            try simp only [Act.put, List.setIfInBounds_toArray, List.set_cons_zero, List.set_cons_succ]
            refine wpAnyH_done (by kernel_rfl) ?_ _
            have HZ := hide HX.out.f1.persist.f1
            clear HX hHeld
            go_wp2_with (first
              | (refine wpList_loadB_st (cs := [.int .i64 (f0 : Nat), .int .i64 (f1 : Nat), .int .i64 (f2 : Nat), .int .i64 (f3 : Nat), .slice bD dt.length cD]) rfl agPartX (.tmp 4) rfl rfl rfl HZ.out mem0 ?_)
              | (go_at_call 46; refine (rbytes_bad (p := ⟨f0, f1, f2, f3, dt⟩) HZ.out HB.out.1 HB.out.2.1 HB.out.2.2.1 HB.out.2.2.2 HDL.out HOKP.out).mono ?_; rintro z w8 ⟨rfl, h8⟩; have H8 := hide h8.f2; clear h8 HZ)
              | ((with_reducible refine wpList_store_ag (cs := [.int .i64 0, .int .i64 0, .int .i64 0, .int .i64 0, .slice none 0 0]) rfl agPartX (.tmp 2) (.tmp 44) rfl rfl rfl rfl rfl (ONE5.out _ _ _ _ _ rfl rfl rfl rfl rfl) H8.out ?_); intro w20 h20; have H20 := hide h20; clear h20 H8))
            (try simp only [Exit.inBlock, Exit.then])
            have hb2 := H20.out.mem_blk mem0
            refine bodyPost_ret (results_cell_row2 rfl _ _ g2 _ _ _ _ rfl hb2 Try.underlying91 rfl szPartX) rfl ?_
            exact Or.inr ⟨HPN.out, rfl, H20.out.drop.drop.drop.drop⟩
          exact AllReadyH.nil
        exact AllReadyH.nil
      refine AllReadyH.cons rfl (fun K hK => ?_) ?_
      · refine step_alloc_ag rfl agPartX rfl HX.out ?_
        intro g5 w6 h6
        have HY := hide h6.f1
        clear h6
        change K (Act.put _ (some 4) _) _
        clear HX
        have HX := HY
        clear HY
        refine hK.out _ _ ?_ (fun hHeld => ?_)
        · exact SK.out _ _ HX.out (up3 HM2.out)
        clear hK K
        try simp only [Act.put, List.setIfInBounds_toArray, List.set_cons_zero, List.set_cons_succ]
        refine wpAnyH_ready (rs := [17]) (by kernel_rfl) (by simp) ?_
        refine AllReadyH.cons rfl (fun K hK => ?_) ?_
        · refine step_append_st (E := byteE) rfl (.tmp 25) (.tmp 27) slByte rfl HX.out (Src.of_sl (up3 HD.out)) rfl rfl (by have := HDL.out; simp only [List.length_nil]; unfold maxLen; omega) (by have := HDL.out; simp only [List.length_nil]; omega) ?_
          intro bD nD cD w5 hnD h5
          have hnD2 : nD = dt.length := by rw [hnD, List.length_nil, Nat.zero_add]
          clear hnD
          subst hnD2
          rw [List.nil_append] at h5
          have HY := hide h5
          clear h5
          change K (Act.put _ (some 28) _) _
          clear HX
          have HX := HY
          clear HY
          refine hK.out _ _ ?_ (fun hHeld => ?_)
          · exact SK.out _ _ HX.out (up3 HM2.out)
          clear hK K
          try simp only [Act.put, List.setIfInBounds_toArray, List.set_cons_zero, List.set_cons_succ]
          refine wpAnyH_takeD (i := 18) (some 29) (v := ?v18_56) rfl rfl (by kernel_rfl) (by kernel_rfl) (by kernel_rfl) (fun _ _ _ h => h) (by rfl) ?y18_56 (by assumption) ?r18_56
          case y18_56 => (intro w hSw; (try dsimp only at hSw); first | (go_simp; done) | (go_simp; with_reducible rfl))
          try simp only [Act.put, List.setIfInBounds_toArray, List.set_cons_zero, List.set_cons_succ]
          refine wpAnyH_ready (rs := [20]) (by kernel_rfl) (by simp) ?_
          refine AllReadyH.cons rfl (fun K hK => ?_) ?_
          · refine step_storeB_st (cs := [.int .i64 (f0 : Nat), .int .i64 (f1 : Nat), .int .i64 (f2 : Nat), .int .i64 (f3 : Nat), .slice bD dt.length cD]) (c := [.int .i64 0, .int .i64 0, .int .i64 0, .int .i64 0, .slice none 0 0]) (d := [.int .i64 (f0 : Nat), .int .i64 (f1 : Nat), .int .i64 (f2 : Nat), .int .i64 (f3 : Nat), .slice bD dt.length cD]) rfl 91 (.tmp 4) (.tmp 29) rfl szPartX rfl rfl (by intro v hv; simp only [List.mem_cons, List.not_mem_nil, or_false] at hv; rcases hv with rfl | rfl | rfl | rfl | rfl <;> rfl) HX.out.f1 (by simp) rfl ?_
            intro w7 h7
            have HY := hide h7
            clear h7
            clear HX
            have HX := HY
            clear HY
            refine hK.out _ _ ?_ (fun hHeld => ?_)
            · exact SK.out _ _ HX.out (up3 HM2.out)
            clear hK K
            try simp only [Act.put, List.setIfInBounds_toArray, List.set_cons_zero, List.set_cons_succ]
            refine wpAnyH_done (by kernel_rfl) ?_ _
            have HZ := hide HX.out.f1.persist.f1
            clear HX hHeld
            go_wp2_with (first
              | (refine wpList_loadB_st (cs := [.int .i64 (f0 : Nat), .int .i64 (f1 : Nat), .int .i64 (f2 : Nat), .int .i64 (f3 : Nat), .slice bD dt.length cD]) rfl agPartX (.tmp 4) rfl rfl rfl HZ.out mem0 ?_)
              | (go_at_call 46; refine (rbytes_bad (p := ⟨f0, f1, f2, f3, dt⟩) HZ.out HB.out.1 HB.out.2.1 HB.out.2.2.1 HB.out.2.2.2 HDL.out HOKP.out).mono ?_; rintro z w8 ⟨rfl, h8⟩; have H8 := hide h8.f2; clear h8 HZ)
              | ((with_reducible refine wpList_store_ag (cs := [.int .i64 0, .int .i64 0, .int .i64 0, .int .i64 0, .slice none 0 0]) rfl agPartX (.tmp 2) (.tmp 44) rfl rfl rfl rfl rfl (ONE5.out _ _ _ _ _ rfl rfl rfl rfl rfl) H8.out ?_); intro w20 h20; have H20 := hide h20; clear h20 H8))
            (try simp only [Exit.inBlock, Exit.then])
            have hb2 := H20.out.mem_blk mem0
            refine bodyPost_ret (results_cell_row2 rfl _ _ g2 _ _ _ _ rfl hb2 Try.underlying91 rfl szPartX) rfl ?_
            exact Or.inr ⟨HPN.out, rfl, H20.out.drop.drop.drop.drop⟩
          exact AllReadyH.nil
        exact AllReadyH.nil
      exact AllReadyH.nil
    refine AllReadyH.cons rfl (fun K hK => ?_) ?_
    · refine step_alloc_ag rfl agPartX rfl HX.out ?_
      intro g5 w6 h6
      have HY := hide h6
      clear h6
      change K (Act.put _ (some 4) _) _
      clear HX
      have HX := HY
      clear HY
      refine hK.out _ _ ?_ (fun hHeld => ?_)
      · exact SK.out _ _ HX.out (up2 HM2.out)
      clear hK K
      try simp only [Act.put, List.setIfInBounds_toArray, List.set_cons_zero, List.set_cons_succ]
      refine wpAnyH_ready (rs := [14]) (by kernel_rfl) (by simp) ?_
      refine AllReadyH.cons rfl (fun K hK => ?_) ?_
      · refine step_build0_st (α := UInt8) (E := byteE) rfl slByte rfl HX.out ?_
        intro g4 w4 h4
        have HY := hide h4
        clear h4
        change K (Act.put _ (some 25) _) _
        clear HX
        have HX := HY
        clear HY
        refine hK.out _ _ ?_ (fun hHeld => ?_)
        · exact SK.out _ _ HX.out (up3 HM2.out)
        clear hK K
        try simp only [Act.put, List.setIfInBounds_toArray, List.set_cons_zero, List.set_cons_succ]
        refine wpAnyH_ready (rs := [17]) (by kernel_rfl) (by simp) ?_
        refine AllReadyH.cons rfl (fun K hK => ?_) ?_
        · refine step_append_st (E := byteE) rfl (.tmp 25) (.tmp 27) slByte rfl HX.out (Src.of_sl (up3 HD.out)) rfl rfl (by have := HDL.out; simp only [List.length_nil]; unfold maxLen; omega) (by have := HDL.out; simp only [List.length_nil]; omega) ?_
          intro bD nD cD w5 hnD h5
          have hnD2 : nD = dt.length := by rw [hnD, List.length_nil, Nat.zero_add]
          clear hnD
          subst hnD2
          rw [List.nil_append] at h5
          have HY := hide h5
          clear h5
          change K (Act.put _ (some 28) _) _
          clear HX
          have HX := HY
          clear HY
          refine hK.out _ _ ?_ (fun hHeld => ?_)
          · exact SK.out _ _ HX.out (up3 HM2.out)
          clear hK K
          try simp only [Act.put, List.setIfInBounds_toArray, List.set_cons_zero, List.set_cons_succ]
          refine wpAnyH_takeD (i := 18) (some 29) (v := ?v18_57) rfl rfl (by kernel_rfl) (by kernel_rfl) (by kernel_rfl) (fun _ _ _ h => h) (by rfl) ?y18_57 (by assumption) ?r18_57
          case y18_57 => (intro w hSw; (try dsimp only at hSw); first | (go_simp; done) | (go_simp; with_reducible rfl))
          try simp only [Act.put, List.setIfInBounds_toArray, List.set_cons_zero, List.set_cons_succ]
          refine wpAnyH_ready (rs := [20]) (by kernel_rfl) (by simp) ?_
          refine AllReadyH.cons rfl (fun K hK => ?_) ?_
          · refine step_storeB_st (cs := [.int .i64 (f0 : Nat), .int .i64 (f1 : Nat), .int .i64 (f2 : Nat), .int .i64 (f3 : Nat), .slice bD dt.length cD]) (c := [.int .i64 0, .int .i64 0, .int .i64 0, .int .i64 0, .slice none 0 0]) (d := [.int .i64 (f0 : Nat), .int .i64 (f1 : Nat), .int .i64 (f2 : Nat), .int .i64 (f3 : Nat), .slice bD dt.length cD]) rfl 91 (.tmp 4) (.tmp 29) rfl szPartX rfl rfl (by intro v hv; simp only [List.mem_cons, List.not_mem_nil, or_false] at hv; rcases hv with rfl | rfl | rfl | rfl | rfl <;> rfl) HX.out.f1 (by simp) rfl ?_
            intro w7 h7
            have HY := hide h7
            clear h7
            clear HX
            have HX := HY
            clear HY
            refine hK.out _ _ ?_ (fun hHeld => ?_)
            · exact SK.out _ _ HX.out (up3 HM2.out)
            clear hK K
            try simp only [Act.put, List.setIfInBounds_toArray, List.set_cons_zero, List.set_cons_succ]
            refine wpAnyH_done (by kernel_rfl) ?_ _
            have HZ := hide HX.out.f1.persist.f1
            clear HX hHeld
            go_wp2_with (first
              | (refine wpList_loadB_st (cs := [.int .i64 (f0 : Nat), .int .i64 (f1 : Nat), .int .i64 (f2 : Nat), .int .i64 (f3 : Nat), .slice bD dt.length cD]) rfl agPartX (.tmp 4) rfl rfl rfl HZ.out mem0 ?_)
              | (go_at_call 46; refine (rbytes_bad (p := ⟨f0, f1, f2, f3, dt⟩) HZ.out HB.out.1 HB.out.2.1 HB.out.2.2.1 HB.out.2.2.2 HDL.out HOKP.out).mono ?_; rintro z w8 ⟨rfl, h8⟩; have H8 := hide h8.f2; clear h8 HZ)
              | ((with_reducible refine wpList_store_ag (cs := [.int .i64 0, .int .i64 0, .int .i64 0, .int .i64 0, .slice none 0 0]) rfl agPartX (.tmp 2) (.tmp 44) rfl rfl rfl rfl rfl (ONE5.out _ _ _ _ _ rfl rfl rfl rfl rfl) H8.out ?_); intro w20 h20; have H20 := hide h20; clear h20 H8))
            (try simp only [Exit.inBlock, Exit.then])
            have hb2 := H20.out.mem_blk mem0
            refine bodyPost_ret (results_cell_row2 rfl _ _ g2 _ _ _ _ rfl hb2 Try.underlying91 rfl szPartX) rfl ?_
            exact Or.inr ⟨HPN.out, rfl, H20.out.drop.drop.drop.drop⟩
          exact AllReadyH.nil
        exact AllReadyH.nil
      exact AllReadyH.nil
    exact AllReadyH.nil
end Go.Proofs.Ythecdkbagjpboaa
