/-
  package wal: Append.
-/
import Derived.Test.YtcgnkloljfgiaaaGreatDoorWj
namespace Go.Proofs.YtcgnkloljfgiaaaGreatDoor
open Go.RowKit Go.Maps Go.MapKept
variable {b : Env} {L : List HP} {w : World} {gd : Nat} {d : Dk}
theorem putD_len : ∀ (ps : List PartR) (d : Dk) (n : Int), (putD d n ps).1.last.length = d.last.length
  | [], d, n => flushD_len d
  | p :: ps, d, n => by
    unfold putD
    split
    · rw [putD_len ps]; exact writeD_len d n _
    · exact writeD_len d n _
/-- What Append leaves. -/
def appendD (d : Dk) (l : LogR) (t : Byt) : Bool × Int × Dk × LogR :=
  if l.gen = 0 then (false, 0, d, l)
  else if d.last.length / 2 < l.next + partsOf t.length then (false, 0, d, l)
  else
    let q := putD d ((l.half : Int) * ((d.last.length : Int) / 2) + l.next) (cutB l.gen l.rc t)
    if q.2 = 0 then (true, 0, q.1, ⟨l.gen, l.half, l.next + partsOf t.length, l.rc + 1, l.most⟩) else (false, q.2, q.1, l)
set_option linter.unusedSimpArgs false in
set_option maxRecDepth 100000 in
set_option maxHeartbeats 4000000 in
theorem append_calls {gl : Nat} {l : LogR} {v : Value} {t : Byt} (h : St b (HP.log gl gd l :: HP.disk gd d :: L) w) (hm : HP.sl byteE v t ∈ L) (hg : d.Good) (hops : d.ops ≤ 100000000) (hp : partsOf t.length ≤ 255) (hgn : l.gen ≤ 4294967295) (hh : l.half ≤ 1) (hrc : l.rc ≤ 65535) (hnx : l.next ≤ d.last.length / 2) :
    Calls Tryz.prog 45 #[.pointer (some ⟨gl, 0, none⟩), v] w fun x w' => x = .returned (.tuple #[.bool (appendD d l t).1, .int .i64 (appendD d l t).2.1]) ∧ St b (HP.log gl gd (appendD d l t).2.2.2 :: HP.disk gd (appendD d l t).2.2.1 :: L) w' := by
  have hmost := hg.fine.ok.most
  obtain ⟨gen, half, next, rc, most⟩ := l
  simp only at hgn hh hrc hnx
  have hpI : (partsOf t.length : Int) ≤ 255 := by omega
  have hp0 : (0 : Int) ≤ partsOf t.length := by omega
  have hNI : (d.last.length : Int) ≤ 256 := by omega
  have hnI : (next : Int) ≤ (d.last.length : Int) / 2 := by omega
  have hrI : (rc : Int) ≤ 65535 := by omega
  have x1 : w.cell? ⟨gl, 1, none⟩ = some (.int .i64 (gen : Nat)) := h.blk_cell mem0 1
  have H := hide h
  have HM := hide hm
  have HMO := hide hmost
  have HP0 := hide hp
  have HGD := hide hg
  have HOP := hide hops
  have HRC := hide hrc
  have HG2 := hide hgn
  clear h hm hops
  rcases Nat.eq_zero_or_pos gen with hz | hz
  · subst hz
    have HAP : Hid (appendD d ⟨0, half, next, rc, most⟩ t = (false, 0, d, ⟨0, half, next, rc, most⟩)) := hide (by unfold appendD; rw [if_pos rfl])
    clear hg
    go_enter Tryz.func45, Tryz.ntmps45
    go_wp2_with fail
    go_ret2
    rewrite [HAP.out]
    exact ⟨rfl, H.out⟩
  · have HG1 := hide hz
    have hne : ¬ (gen : Int) = 0 := by omega
    have hnb : ((gen : Int) == 0) = false := by rw [beq_eq_false_iff_ne]; exact hne
    have hgI : (gen : Int) ≤ 4294967295 := by omega
    have HCO := hide (cutB_ok (gen := gen) (rc := rc) (t := t) hz hgn hrc hp)
    have hw1 : IntKind.i64.wrap ((d.last.length : Int) / 2 - next) = (d.last.length : Int) / 2 - next := wrap_small (by omega) (by omega)
    clear hg
    by_cases hfit : d.last.length / 2 < next + partsOf t.length
    · have HAP : Hid (appendD d ⟨gen, half, next, rc, most⟩ t = (false, 0, d, ⟨gen, half, next, rc, most⟩)) := hide (by unfold appendD; rw [if_neg (by show ¬ gen = 0; omega), if_pos hfit])
      have hgt : (d.last.length : Int) / 2 - next < (partsOf t.length : Int) := by omega
      clear hfit hp hz HCO
      go_enter Tryz.func45, Tryz.ntmps45
      go_wp2_with fail
      refine wp_region_held_drew (S := fun w' => w'.cell? ⟨gl, 1, none⟩ = some (.int .i64 (gen : Nat)) ∧ w'.cell? ⟨gl, 4, none⟩ = some (.int .i64 (rc : Nat))) (by kernel_rfl) ?_ (fun hHeld => ?_)
      · exact ⟨H.out.drew.blk_cell mem0 1, H.out.drew.blk_cell mem0 4⟩
      refine wpAnyH_takeD (i := 0) (some 13) (v := ?v0_1) rfl rfl (by kernel_rfl) (by kernel_rfl) (by kernel_rfl) (fun _ _ _ h => h) (by rfl) ?y0_1 (by assumption) ?r0_1
      case y0_1 => (intro w hSw; (try dsimp only at hSw); first | (go_simp; done) | (go_simp; with_reducible rfl))
      try simp only [Act.put, List.setIfInBounds_toArray, List.set_cons_zero, List.set_cons_succ]
      refine wpAnyH_takeD (i := 1) (some 14) (v := ?v1_2) rfl rfl (by kernel_rfl) (by kernel_rfl) (by kernel_rfl) (fun _ _ _ h => h) (by rfl) ?y1_2 (by assumption) ?r1_2
      case y1_2 => (intro w hSw; (try dsimp only at hSw); first | (go_simp; done) | (go_simp; with_reducible rfl))
      try simp only [Act.put, List.setIfInBounds_toArray, List.set_cons_zero, List.set_cons_succ]
      refine wpAnyH_takeD (i := 2) (some 15) (v := ?v2_3) rfl rfl (by kernel_rfl) (by kernel_rfl) (by kernel_rfl) (fun _ _ _ h => h) (by rfl) ?y2_3 (by assumption) ?r2_3
      case y2_3 => (intro w hSw; (try dsimp only at hSw); first | (go_simp; done) | (go_simp; with_reducible rfl))
      try simp only [Act.put, List.setIfInBounds_toArray, List.set_cons_zero, List.set_cons_succ]
      refine wpAnyH_takeD (i := 3) (some 16) (v := ?v3_4) rfl rfl (by kernel_rfl) (by kernel_rfl) (by kernel_rfl) (fun _ _ _ h => h) (by rfl) ?y3_4 (by assumption) ?r3_4
      case y3_4 => (intro w hSw; (try dsimp only at hSw); first | (go_simp; done) | (go_simp; with_reducible rfl))
      try simp only [Act.put, List.setIfInBounds_toArray, List.set_cons_zero, List.set_cons_succ]
      refine wpAnyH_takeD (i := 4) (some 17) (v := ?v4_5) rfl rfl (by kernel_rfl) (by kernel_rfl) (by kernel_rfl) (fun _ _ _ h => h) (by rfl) ?y4_5 (by assumption) ?r4_5
      case y4_5 => (intro w hSw; (try dsimp only at hSw); first | (go_simp; done) | (go_simp; with_reducible rfl))
      try simp only [Act.put, List.setIfInBounds_toArray, List.set_cons_zero, List.set_cons_succ]
      refine wpAnyH_takeD (i := 5) (some 18) (v := ?v5_6) rfl rfl (by kernel_rfl) (by kernel_rfl) (by kernel_rfl) (fun _ _ _ h => h) (by rfl) ?y5_6 (by assumption) ?r5_6
      case y5_6 => (intro w hSw; (try dsimp only at hSw); first | (go_simp; done) | (go_simp; with_reducible rfl))
      try simp only [Act.put, List.setIfInBounds_toArray, List.set_cons_zero, List.set_cons_succ]
      refine wpAnyH_takeD (i := 6) (some 19) (v := ?v6_7) rfl rfl (by kernel_rfl) (by kernel_rfl) (by kernel_rfl) (fun _ _ _ h => h) (by rfl) ?y6_7 (by assumption) ?r6_7
      case y6_7 => (intro w hSw; (try dsimp only at hSw); first | (go_simp; done) | (go_simp; with_reducible rfl))
      try simp only [Act.put, List.setIfInBounds_toArray, List.set_cons_zero, List.set_cons_succ]
      refine wpAnyH_takeD (i := 7) (some 20) (v := ?v7_8) rfl rfl (by kernel_rfl) (by kernel_rfl) (by kernel_rfl) (fun _ _ _ h => h) (by rfl) ?y7_8 (by assumption) ?r7_8
      case y7_8 => (intro w hSw; (try dsimp only at hSw); first | (go_simp; done) | (go_simp; with_reducible rfl))
      try simp only [Act.put, List.setIfInBounds_toArray, List.set_cons_zero, List.set_cons_succ]
      refine wpAnyH_takeD (i := 8) (some 21) (v := ?v8_9) rfl rfl (by kernel_rfl) (by kernel_rfl) (by kernel_rfl) (fun _ _ _ h => h) (by rfl) ?y8_9 (by assumption) ?r8_9
      case y8_9 => (intro w hSw; (try dsimp only at hSw); first | (go_simp; done) | (go_simp; with_reducible rfl))
      try simp only [Act.put, List.setIfInBounds_toArray, List.set_cons_zero, List.set_cons_succ]
      refine wpAnyH_ready (rs := [9]) (by kernel_rfl) (by simp) ?_
      refine AllReadyH.cons rfl (fun K hK => ?_) ?_
      · go_simp
        go_at_call 69
        refine (cut_calls (gen := gen) (rc := rc) H.out.drew (up2 HM.out) HG1.out HG2.out HRC.out HP0.out).mono ?_
        rintro z w2 ⟨vp, rfl, h2⟩
        obtain ⟨bq, cq, hvq, _⟩ := h2.sl_form mem0
        rw [cutB_len] at hvq
        subst hvq
        have H2 := hide h2.f1.f2
        clear h2 H
        refine hK.out _ _ ?_ (fun hHeld => ?_)
        · exact ⟨H2.out.blk_cell mem1 1, H2.out.blk_cell mem1 4⟩
        clear hK K
        try simp only [Act.put, List.setIfInBounds_toArray, List.set_cons_zero, List.set_cons_succ]
        refine wpAnyH_takeD (i := 10) (some 12) (v := ?v10_10) rfl rfl (by kernel_rfl) (by kernel_rfl) (by kernel_rfl) (fun _ _ _ h => h) (by rfl) ?y10_10 (by assumption) ?r10_10
        case y10_10 => (intro w hSw; (try dsimp only at hSw); first | (go_simp; done) | (go_simp; with_reducible rfl))
        try simp only [Act.put, List.setIfInBounds_toArray, List.set_cons_zero, List.set_cons_succ]
        refine wpAnyH_takeD (i := 11) (some 23) (v := ?v11_11) rfl rfl (by kernel_rfl) (by kernel_rfl) (by kernel_rfl) (fun _ _ _ h => h) (by rfl) ?y11_11 (by assumption) ?r11_11
        case y11_11 => (intro w hSw; (try dsimp only at hSw); first | (go_simp; done) | (go_simp; with_reducible rfl))
        try simp only [Act.put, List.setIfInBounds_toArray, List.set_cons_zero, List.set_cons_succ]
        refine wpAnyH_takeD (i := 12) (some 24) (v := ?v12_12) rfl rfl (by kernel_rfl) (by kernel_rfl) (by kernel_rfl) (fun _ _ _ h => h) (by rfl) ?y12_12 (by assumption) ?r12_12
        case y12_12 => (intro w hSw; (try dsimp only at hSw); first | (go_simp; done) | (go_simp; with_reducible rfl))
        try simp only [Act.put, List.setIfInBounds_toArray, List.set_cons_zero, List.set_cons_succ]
        refine wpAnyH_takeD (i := 13) (some 6) (v := ?v13_13) rfl rfl (by kernel_rfl) (by kernel_rfl) (by kernel_rfl) (fun _ _ _ h => h) (by rfl) ?y13_13 (by assumption) ?r13_13
        case y13_13 => (intro w hSw; (try dsimp only at hSw); first | (go_simp; done) | (go_simp; with_reducible rfl))
        try simp only [Act.put, List.setIfInBounds_toArray, List.set_cons_zero, List.set_cons_succ]
        refine wpAnyH_takeD (i := 14) (some 5) (v := ?v14_14) rfl rfl (by kernel_rfl) (by kernel_rfl) (by kernel_rfl) (fun _ _ _ h => h) (by rfl) ?y14_14 (by assumption) ?r14_14
        case y14_14 => (intro w hSw; (try dsimp only at hSw); first | (go_simp; done) | (go_simp; with_reducible rfl))
        try simp only [Act.put, List.setIfInBounds_toArray, List.set_cons_zero, List.set_cons_succ]
        refine wpAnyH_done (by kernel_rfl) ?_ _
        go_wp2_with fail
        refine wp_region_held_drew (S := fun w' => w'.cell? ⟨gl, 3, none⟩ = some (.int .i64 (next : Nat)) ∧ St b (HP.log gl gd ⟨gen, half, next, rc, most⟩ :: HP.disk gd d :: HP.sl partE (.slice bq (partsOf t.length) cq) (cutB gen rc t) :: L) w') (by kernel_rfl) ?_ (fun hHeld => ?_)
        · exact ⟨H2.out.drew.blk_cell mem1 3, H2.out.drew.f1⟩
        refine wpAnyH_takeD (i := 0) (some 25) (v := ?v0_15) rfl rfl (by kernel_rfl) (by kernel_rfl) (by kernel_rfl) (fun _ _ _ h => h) (by rfl) ?y0_15 (by assumption) ?r0_15
        case y0_15 => (intro w hSw; (try dsimp only at hSw); first | (go_simp; done) | (go_simp; with_reducible rfl))
        try simp only [Act.put, List.setIfInBounds_toArray, List.set_cons_zero, List.set_cons_succ]
        refine wpAnyH_takeD (i := 1) (some 26) (v := ?v1_16) rfl rfl (by kernel_rfl) (by kernel_rfl) (by kernel_rfl) (fun _ _ _ h => h) (by rfl) ?y1_16 (by assumption) ?r1_16
        case y1_16 => (intro w hSw; (try dsimp only at hSw); first | (go_simp; done) | (go_simp; with_reducible rfl))
        try simp only [Act.put, List.setIfInBounds_toArray, List.set_cons_zero, List.set_cons_succ]
        refine wpAnyH_takeD (i := 2) (some 27) (v := ?v2_17) rfl rfl (by kernel_rfl) (by kernel_rfl) (by kernel_rfl) (fun _ _ _ h => h) (by rfl) ?y2_17 (by assumption) ?r2_17
        case y2_17 => (intro w hSw; (try dsimp only at hSw); first | (go_simp; done) | (go_simp; with_reducible rfl))
        try simp only [Act.put, List.setIfInBounds_toArray, List.set_cons_zero, List.set_cons_succ]
        refine wpAnyH_takeD (i := 3) (some 28) (v := ?v3_18) rfl rfl (by kernel_rfl) (by kernel_rfl) (by kernel_rfl) (fun _ _ _ h => h) (by rfl) ?y3_18 (by assumption) ?r3_18
        case y3_18 => (intro w hSw; (try dsimp only at hSw); first | (go_simp; done) | (go_simp; with_reducible rfl))
        try simp only [Act.put, List.setIfInBounds_toArray, List.set_cons_zero, List.set_cons_succ]
        refine wpAnyH_takeD (i := 4) (some 29) (v := ?v4_19) rfl rfl (by kernel_rfl) (by kernel_rfl) (by kernel_rfl) (fun _ _ _ h => h) (by rfl) ?y4_19 (by assumption) ?r4_19
        case y4_19 => (intro w hSw; (try dsimp only at hSw); first | (go_simp; done) | (go_simp; with_reducible rfl))
        try simp only [Act.put, List.setIfInBounds_toArray, List.set_cons_zero, List.set_cons_succ]
        refine wpAnyH_takeD (i := 5) (some 30) (v := ?v5_20) rfl rfl (by kernel_rfl) (by kernel_rfl) (by kernel_rfl) (fun _ _ _ h => h) (by rfl) ?y5_20 (by assumption) ?r5_20
        case y5_20 => (intro w hSw; (try dsimp only at hSw); first | (go_simp; done) | (go_simp; with_reducible rfl))
        try simp only [Act.put, List.setIfInBounds_toArray, List.set_cons_zero, List.set_cons_succ]
        refine wpAnyH_tellsD (i := 6) (some 31) (v := .int .i64 ((d.last.length : Int) / 2)) rfl rfl (by kernel_rfl) (by kernel_rfl) (by kernel_rfl) (fun _ _ _ h => h) ⟨by rfl, 65, #[.pointer (some ⟨gl, 0, none⟩)], fun w hSw => ⟨?y6_21, (by have := lsize_calls hSw.2 HMO.out; exact this.mono (fun x w' h => ⟨h.1, h.2.symm⟩))⟩⟩ (by assumption) ?r6_21
        case y6_21 => first | (go_simp; done) | (go_simp; with_reducible rfl)
        try simp only [Act.put, List.setIfInBounds_toArray, List.set_cons_zero, List.set_cons_succ]
        refine wpAnyH_takeD (i := 7) (some 32) (v := ?v7_22) rfl rfl (by kernel_rfl) (by kernel_rfl) (by kernel_rfl) (fun _ _ _ h => h) (by rfl) ?y7_22 (by assumption) ?r7_22
        case y7_22 => (intro w hSw; (try dsimp only at hSw); first | (go_simp; done) | (go_simp; with_reducible rfl))
        try simp only [Act.put, List.setIfInBounds_toArray, List.set_cons_zero, List.set_cons_succ]
        refine wpAnyH_takeD (i := 8) (some 33) (v := ?v8_23) rfl rfl (by kernel_rfl) (by kernel_rfl) (by kernel_rfl) (fun _ _ _ h => h) (by rfl) ?y8_23 (by assumption) ?r8_23
        case y8_23 => (intro w hSw; (try dsimp only at hSw); first | (go_simp; done) | (go_simp; with_reducible rfl))
        try simp only [Act.put, List.setIfInBounds_toArray, List.set_cons_zero, List.set_cons_succ]
        refine wpAnyH_takeD (i := 9) (some 34) (v := ?v9_24) rfl rfl (by kernel_rfl) (by kernel_rfl) (by kernel_rfl) (fun _ _ _ h => h) (by rfl) ?y9_24 (by assumption) ?r9_24
        case y9_24 => (intro w hSw; (try dsimp only at hSw); first | (go_simp; done) | (go_simp; with_reducible rfl))
        try simp only [Act.put, List.setIfInBounds_toArray, List.set_cons_zero, List.set_cons_succ]
        refine wpAnyH_takeD (i := 10) (some 35) (v := ?v10_25) rfl rfl (by kernel_rfl) (by kernel_rfl) (by kernel_rfl) (fun _ _ _ h => h) (by rfl) ?y10_25 (by assumption) ?r10_25
        case y10_25 => (intro w hSw; (try dsimp only at hSw); first | (go_simp; done) | (go_simp; with_reducible rfl))
        try simp only [Act.put, List.setIfInBounds_toArray, List.set_cons_zero, List.set_cons_succ]
        refine wpAnyH_takeD (i := 11) (some 36) (v := ?v11_26) rfl rfl (by kernel_rfl) (by kernel_rfl) (by kernel_rfl) (fun _ _ _ h => h) (by rfl) ?y11_26 (by assumption) ?r11_26
        case y11_26 => (intro w hSw; (try dsimp only at hSw); first | (go_simp; done) | (go_simp; with_reducible rfl))
        try simp only [Act.put, List.setIfInBounds_toArray, List.set_cons_zero, List.set_cons_succ]
        refine wpAnyH_takeD (i := 12) (some 37) (v := ?v12_27) rfl rfl (by kernel_rfl) (by kernel_rfl) (by kernel_rfl) (fun _ _ _ h => h) (by rfl) ?y12_27 (by assumption) ?r12_27
        case y12_27 => (intro w hSw; (try dsimp only at hSw); first | (go_simp; done) | (go_simp; with_reducible rfl))
        try simp only [Act.put, List.setIfInBounds_toArray, List.set_cons_zero, List.set_cons_succ]
        refine wpAnyH_takeD (i := 13) (some 38) (v := ?v13_28) rfl rfl (by kernel_rfl) (by kernel_rfl) (by kernel_rfl) (fun _ _ _ h => h) (by rfl) ?y13_28 (by assumption) ?r13_28
        case y13_28 => (intro w hSw; (try dsimp only at hSw); first | (go_simp; done) | (go_simp; with_reducible rfl))
        try simp only [Act.put, List.setIfInBounds_toArray, List.set_cons_zero, List.set_cons_succ]
        refine wpAnyH_done (by kernel_rfl) ?_ _
        go_wp2_with fail
        go_ret2
        rewrite [HAP.out]
        exact ⟨rfl, by first | exact H2.out.f1.d2.drew.drew | exact H2.out.f1.d2.drew | exact H2.out.f1.d2⟩
      exact AllReadyH.nil
    · have hgt : ¬ (d.last.length : Int) / 2 - next < (partsOf t.length : Int) := by omega
      have hM0 : (0 : Int) ≤ (half : Int) * ((d.last.length : Int) / 2) ∧ (half : Int) * ((d.last.length : Int) / 2) ≤ 128 := by
        rcases (show half = 0 ∨ half = 1 by omega) with rfl | rfl <;> constructor <;> omega
      have hw2 : IntKind.i64.wrap ((half : Int) * ((d.last.length : Int) / 2)) = (half : Int) * ((d.last.length : Int) / 2) := wrap_small (by omega) (by omega)
      have hw3 : IntKind.i64.wrap ((half : Int) * ((d.last.length : Int) / 2) + next) = (half : Int) * ((d.last.length : Int) / 2) + next := wrap_small (by omega) (by omega)
      have HPL := hide (show 0 ≤ (half : Int) * ((d.last.length : Int) / 2) + next ∧ (half : Int) * ((d.last.length : Int) / 2) + next ≤ 1000 from ⟨by omega, by omega⟩)
      have hap : appendD d ⟨gen, half, next, rc, most⟩ t = (if (putD d ((half : Int) * ((d.last.length : Int) / 2) + next) (cutB gen rc t)).2 = 0 then (true, 0, (putD d ((half : Int) * ((d.last.length : Int) / 2) + next) (cutB gen rc t)).1, ⟨gen, half, next + partsOf t.length, rc + 1, most⟩) else (false, (putD d ((half : Int) * ((d.last.length : Int) / 2) + next) (cutB gen rc t)).2, (putD d ((half : Int) * ((d.last.length : Int) / 2) + next) (cutB gen rc t)).1, ⟨gen, half, next, rc, most⟩)) := by
        unfold appendD; rw [if_neg (by show ¬ gen = 0; omega), if_neg hfit]
      obtain ⟨R, hR⟩ : ∃ R, (putD d ((half : Int) * ((d.last.length : Int) / 2) + next) (cutB gen rc t)).2 = R := ⟨_, rfl⟩
      rw [hR] at hap
      have HPU := hide hR
      clear hM0 hfit hp hz
      by_cases hR0 : R = 0
      · subst hR0
        have HAP := hide (hap.trans (if_pos rfl))
        clear hap hR
        go_enter Tryz.func45, Tryz.ntmps45
        go_wp2_with fail
        refine wp_region_held_drew (S := fun w' => w'.cell? ⟨gl, 1, none⟩ = some (.int .i64 (gen : Nat)) ∧ w'.cell? ⟨gl, 4, none⟩ = some (.int .i64 (rc : Nat))) (by kernel_rfl) ?_ (fun hHeld => ?_)
        · exact ⟨H.out.drew.blk_cell mem0 1, H.out.drew.blk_cell mem0 4⟩
        refine wpAnyH_takeD (i := 0) (some 13) (v := ?v0_29) rfl rfl (by kernel_rfl) (by kernel_rfl) (by kernel_rfl) (fun _ _ _ h => h) (by rfl) ?y0_29 (by assumption) ?r0_29
        case y0_29 => (intro w hSw; (try dsimp only at hSw); first | (go_simp; done) | (go_simp; with_reducible rfl))
        try simp only [Act.put, List.setIfInBounds_toArray, List.set_cons_zero, List.set_cons_succ]
        refine wpAnyH_takeD (i := 1) (some 14) (v := ?v1_30) rfl rfl (by kernel_rfl) (by kernel_rfl) (by kernel_rfl) (fun _ _ _ h => h) (by rfl) ?y1_30 (by assumption) ?r1_30
        case y1_30 => (intro w hSw; (try dsimp only at hSw); first | (go_simp; done) | (go_simp; with_reducible rfl))
        try simp only [Act.put, List.setIfInBounds_toArray, List.set_cons_zero, List.set_cons_succ]
        refine wpAnyH_takeD (i := 2) (some 15) (v := ?v2_31) rfl rfl (by kernel_rfl) (by kernel_rfl) (by kernel_rfl) (fun _ _ _ h => h) (by rfl) ?y2_31 (by assumption) ?r2_31
        case y2_31 => (intro w hSw; (try dsimp only at hSw); first | (go_simp; done) | (go_simp; with_reducible rfl))
        try simp only [Act.put, List.setIfInBounds_toArray, List.set_cons_zero, List.set_cons_succ]
        refine wpAnyH_takeD (i := 3) (some 16) (v := ?v3_32) rfl rfl (by kernel_rfl) (by kernel_rfl) (by kernel_rfl) (fun _ _ _ h => h) (by rfl) ?y3_32 (by assumption) ?r3_32
        case y3_32 => (intro w hSw; (try dsimp only at hSw); first | (go_simp; done) | (go_simp; with_reducible rfl))
        try simp only [Act.put, List.setIfInBounds_toArray, List.set_cons_zero, List.set_cons_succ]
        refine wpAnyH_takeD (i := 4) (some 17) (v := ?v4_33) rfl rfl (by kernel_rfl) (by kernel_rfl) (by kernel_rfl) (fun _ _ _ h => h) (by rfl) ?y4_33 (by assumption) ?r4_33
        case y4_33 => (intro w hSw; (try dsimp only at hSw); first | (go_simp; done) | (go_simp; with_reducible rfl))
        try simp only [Act.put, List.setIfInBounds_toArray, List.set_cons_zero, List.set_cons_succ]
        refine wpAnyH_takeD (i := 5) (some 18) (v := ?v5_34) rfl rfl (by kernel_rfl) (by kernel_rfl) (by kernel_rfl) (fun _ _ _ h => h) (by rfl) ?y5_34 (by assumption) ?r5_34
        case y5_34 => (intro w hSw; (try dsimp only at hSw); first | (go_simp; done) | (go_simp; with_reducible rfl))
        try simp only [Act.put, List.setIfInBounds_toArray, List.set_cons_zero, List.set_cons_succ]
        refine wpAnyH_takeD (i := 6) (some 19) (v := ?v6_35) rfl rfl (by kernel_rfl) (by kernel_rfl) (by kernel_rfl) (fun _ _ _ h => h) (by rfl) ?y6_35 (by assumption) ?r6_35
        case y6_35 => (intro w hSw; (try dsimp only at hSw); first | (go_simp; done) | (go_simp; with_reducible rfl))
        try simp only [Act.put, List.setIfInBounds_toArray, List.set_cons_zero, List.set_cons_succ]
        refine wpAnyH_takeD (i := 7) (some 20) (v := ?v7_36) rfl rfl (by kernel_rfl) (by kernel_rfl) (by kernel_rfl) (fun _ _ _ h => h) (by rfl) ?y7_36 (by assumption) ?r7_36
        case y7_36 => (intro w hSw; (try dsimp only at hSw); first | (go_simp; done) | (go_simp; with_reducible rfl))
        try simp only [Act.put, List.setIfInBounds_toArray, List.set_cons_zero, List.set_cons_succ]
        refine wpAnyH_takeD (i := 8) (some 21) (v := ?v8_37) rfl rfl (by kernel_rfl) (by kernel_rfl) (by kernel_rfl) (fun _ _ _ h => h) (by rfl) ?y8_37 (by assumption) ?r8_37
        case y8_37 => (intro w hSw; (try dsimp only at hSw); first | (go_simp; done) | (go_simp; with_reducible rfl))
        try simp only [Act.put, List.setIfInBounds_toArray, List.set_cons_zero, List.set_cons_succ]
        refine wpAnyH_ready (rs := [9]) (by kernel_rfl) (by simp) ?_
        refine AllReadyH.cons rfl (fun K hK => ?_) ?_
        · go_simp
          go_at_call 69
          refine (cut_calls (gen := gen) (rc := rc) H.out.drew (up2 HM.out) HG1.out HG2.out HRC.out HP0.out).mono ?_
          rintro z w2 ⟨vp, rfl, h2⟩
          obtain ⟨bq, cq, hvq, _⟩ := h2.sl_form mem0
          rw [cutB_len] at hvq
          subst hvq
          have H2 := hide h2.f1.f2
          clear h2 H
          refine hK.out _ _ ?_ (fun hHeld => ?_)
          · exact ⟨H2.out.blk_cell mem1 1, H2.out.blk_cell mem1 4⟩
          clear hK K
          try simp only [Act.put, List.setIfInBounds_toArray, List.set_cons_zero, List.set_cons_succ]
          refine wpAnyH_takeD (i := 10) (some 12) (v := ?v10_38) rfl rfl (by kernel_rfl) (by kernel_rfl) (by kernel_rfl) (fun _ _ _ h => h) (by rfl) ?y10_38 (by assumption) ?r10_38
          case y10_38 => (intro w hSw; (try dsimp only at hSw); first | (go_simp; done) | (go_simp; with_reducible rfl))
          try simp only [Act.put, List.setIfInBounds_toArray, List.set_cons_zero, List.set_cons_succ]
          refine wpAnyH_takeD (i := 11) (some 23) (v := ?v11_39) rfl rfl (by kernel_rfl) (by kernel_rfl) (by kernel_rfl) (fun _ _ _ h => h) (by rfl) ?y11_39 (by assumption) ?r11_39
          case y11_39 => (intro w hSw; (try dsimp only at hSw); first | (go_simp; done) | (go_simp; with_reducible rfl))
          try simp only [Act.put, List.setIfInBounds_toArray, List.set_cons_zero, List.set_cons_succ]
          refine wpAnyH_takeD (i := 12) (some 24) (v := ?v12_40) rfl rfl (by kernel_rfl) (by kernel_rfl) (by kernel_rfl) (fun _ _ _ h => h) (by rfl) ?y12_40 (by assumption) ?r12_40
          case y12_40 => (intro w hSw; (try dsimp only at hSw); first | (go_simp; done) | (go_simp; with_reducible rfl))
          try simp only [Act.put, List.setIfInBounds_toArray, List.set_cons_zero, List.set_cons_succ]
          refine wpAnyH_takeD (i := 13) (some 6) (v := ?v13_41) rfl rfl (by kernel_rfl) (by kernel_rfl) (by kernel_rfl) (fun _ _ _ h => h) (by rfl) ?y13_41 (by assumption) ?r13_41
          case y13_41 => (intro w hSw; (try dsimp only at hSw); first | (go_simp; done) | (go_simp; with_reducible rfl))
          try simp only [Act.put, List.setIfInBounds_toArray, List.set_cons_zero, List.set_cons_succ]
          refine wpAnyH_takeD (i := 14) (some 5) (v := ?v14_42) rfl rfl (by kernel_rfl) (by kernel_rfl) (by kernel_rfl) (fun _ _ _ h => h) (by rfl) ?y14_42 (by assumption) ?r14_42
          case y14_42 => (intro w hSw; (try dsimp only at hSw); first | (go_simp; done) | (go_simp; with_reducible rfl))
          try simp only [Act.put, List.setIfInBounds_toArray, List.set_cons_zero, List.set_cons_succ]
          refine wpAnyH_done (by kernel_rfl) ?_ _
          go_wp2_with fail
          refine wp_region_held_drew (S := fun w' => w'.cell? ⟨gl, 3, none⟩ = some (.int .i64 (next : Nat)) ∧ St b (HP.log gl gd ⟨gen, half, next, rc, most⟩ :: HP.disk gd d :: HP.sl partE (.slice bq (partsOf t.length) cq) (cutB gen rc t) :: L) w') (by kernel_rfl) ?_ (fun hHeld => ?_)
          · exact ⟨H2.out.drew.blk_cell mem1 3, H2.out.drew.f1⟩
          refine wpAnyH_takeD (i := 0) (some 25) (v := ?v0_43) rfl rfl (by kernel_rfl) (by kernel_rfl) (by kernel_rfl) (fun _ _ _ h => h) (by rfl) ?y0_43 (by assumption) ?r0_43
          case y0_43 => (intro w hSw; (try dsimp only at hSw); first | (go_simp; done) | (go_simp; with_reducible rfl))
          try simp only [Act.put, List.setIfInBounds_toArray, List.set_cons_zero, List.set_cons_succ]
          refine wpAnyH_takeD (i := 1) (some 26) (v := ?v1_44) rfl rfl (by kernel_rfl) (by kernel_rfl) (by kernel_rfl) (fun _ _ _ h => h) (by rfl) ?y1_44 (by assumption) ?r1_44
          case y1_44 => (intro w hSw; (try dsimp only at hSw); first | (go_simp; done) | (go_simp; with_reducible rfl))
          try simp only [Act.put, List.setIfInBounds_toArray, List.set_cons_zero, List.set_cons_succ]
          refine wpAnyH_takeD (i := 2) (some 27) (v := ?v2_45) rfl rfl (by kernel_rfl) (by kernel_rfl) (by kernel_rfl) (fun _ _ _ h => h) (by rfl) ?y2_45 (by assumption) ?r2_45
          case y2_45 => (intro w hSw; (try dsimp only at hSw); first | (go_simp; done) | (go_simp; with_reducible rfl))
          try simp only [Act.put, List.setIfInBounds_toArray, List.set_cons_zero, List.set_cons_succ]
          refine wpAnyH_takeD (i := 3) (some 28) (v := ?v3_46) rfl rfl (by kernel_rfl) (by kernel_rfl) (by kernel_rfl) (fun _ _ _ h => h) (by rfl) ?y3_46 (by assumption) ?r3_46
          case y3_46 => (intro w hSw; (try dsimp only at hSw); first | (go_simp; done) | (go_simp; with_reducible rfl))
          try simp only [Act.put, List.setIfInBounds_toArray, List.set_cons_zero, List.set_cons_succ]
          refine wpAnyH_takeD (i := 4) (some 29) (v := ?v4_47) rfl rfl (by kernel_rfl) (by kernel_rfl) (by kernel_rfl) (fun _ _ _ h => h) (by rfl) ?y4_47 (by assumption) ?r4_47
          case y4_47 => (intro w hSw; (try dsimp only at hSw); first | (go_simp; done) | (go_simp; with_reducible rfl))
          try simp only [Act.put, List.setIfInBounds_toArray, List.set_cons_zero, List.set_cons_succ]
          refine wpAnyH_takeD (i := 5) (some 30) (v := ?v5_48) rfl rfl (by kernel_rfl) (by kernel_rfl) (by kernel_rfl) (fun _ _ _ h => h) (by rfl) ?y5_48 (by assumption) ?r5_48
          case y5_48 => (intro w hSw; (try dsimp only at hSw); first | (go_simp; done) | (go_simp; with_reducible rfl))
          try simp only [Act.put, List.setIfInBounds_toArray, List.set_cons_zero, List.set_cons_succ]
          refine wpAnyH_tellsD (i := 6) (some 31) (v := .int .i64 ((d.last.length : Int) / 2)) rfl rfl (by kernel_rfl) (by kernel_rfl) (by kernel_rfl) (fun _ _ _ h => h) ⟨by rfl, 65, #[.pointer (some ⟨gl, 0, none⟩)], fun w hSw => ⟨?y6_49, (by have := lsize_calls hSw.2 HMO.out; exact this.mono (fun x w' h => ⟨h.1, h.2.symm⟩))⟩⟩ (by assumption) ?r6_49
          case y6_49 => first | (go_simp; done) | (go_simp; with_reducible rfl)
          try simp only [Act.put, List.setIfInBounds_toArray, List.set_cons_zero, List.set_cons_succ]
          refine wpAnyH_takeD (i := 7) (some 32) (v := ?v7_50) rfl rfl (by kernel_rfl) (by kernel_rfl) (by kernel_rfl) (fun _ _ _ h => h) (by rfl) ?y7_50 (by assumption) ?r7_50
          case y7_50 => (intro w hSw; (try dsimp only at hSw); first | (go_simp; done) | (go_simp; with_reducible rfl))
          try simp only [Act.put, List.setIfInBounds_toArray, List.set_cons_zero, List.set_cons_succ]
          refine wpAnyH_takeD (i := 8) (some 33) (v := ?v8_51) rfl rfl (by kernel_rfl) (by kernel_rfl) (by kernel_rfl) (fun _ _ _ h => h) (by rfl) ?y8_51 (by assumption) ?r8_51
          case y8_51 => (intro w hSw; (try dsimp only at hSw); first | (go_simp; done) | (go_simp; with_reducible rfl))
          try simp only [Act.put, List.setIfInBounds_toArray, List.set_cons_zero, List.set_cons_succ]
          refine wpAnyH_takeD (i := 9) (some 34) (v := ?v9_52) rfl rfl (by kernel_rfl) (by kernel_rfl) (by kernel_rfl) (fun _ _ _ h => h) (by rfl) ?y9_52 (by assumption) ?r9_52
          case y9_52 => (intro w hSw; (try dsimp only at hSw); first | (go_simp; done) | (go_simp; with_reducible rfl))
          try simp only [Act.put, List.setIfInBounds_toArray, List.set_cons_zero, List.set_cons_succ]
          refine wpAnyH_takeD (i := 10) (some 35) (v := ?v10_53) rfl rfl (by kernel_rfl) (by kernel_rfl) (by kernel_rfl) (fun _ _ _ h => h) (by rfl) ?y10_53 (by assumption) ?r10_53
          case y10_53 => (intro w hSw; (try dsimp only at hSw); first | (go_simp; done) | (go_simp; with_reducible rfl))
          try simp only [Act.put, List.setIfInBounds_toArray, List.set_cons_zero, List.set_cons_succ]
          refine wpAnyH_takeD (i := 11) (some 36) (v := ?v11_54) rfl rfl (by kernel_rfl) (by kernel_rfl) (by kernel_rfl) (fun _ _ _ h => h) (by rfl) ?y11_54 (by assumption) ?r11_54
          case y11_54 => (intro w hSw; (try dsimp only at hSw); first | (go_simp; done) | (go_simp; with_reducible rfl))
          try simp only [Act.put, List.setIfInBounds_toArray, List.set_cons_zero, List.set_cons_succ]
          refine wpAnyH_takeD (i := 12) (some 37) (v := ?v12_55) rfl rfl (by kernel_rfl) (by kernel_rfl) (by kernel_rfl) (fun _ _ _ h => h) (by rfl) ?y12_55 (by assumption) ?r12_55
          case y12_55 => (intro w hSw; (try dsimp only at hSw); first | (go_simp; done) | (go_simp; with_reducible rfl))
          try simp only [Act.put, List.setIfInBounds_toArray, List.set_cons_zero, List.set_cons_succ]
          refine wpAnyH_takeD (i := 13) (some 38) (v := ?v13_56) rfl rfl (by kernel_rfl) (by kernel_rfl) (by kernel_rfl) (fun _ _ _ h => h) (by rfl) ?y13_56 (by assumption) ?r13_56
          case y13_56 => (intro w hSw; (try dsimp only at hSw); first | (go_simp; done) | (go_simp; with_reducible rfl))
          try simp only [Act.put, List.setIfInBounds_toArray, List.set_cons_zero, List.set_cons_succ]
          refine wpAnyH_done (by kernel_rfl) ?_ _
          go_wp2_with fail
          refine wp_region_held_drew (S := fun w' => w'.cell? ⟨gl, 2, none⟩ = some (.int .i64 (half : Nat)) ∧ w'.cell? ⟨gl, 3, none⟩ = some (.int .i64 (next : Nat)) ∧ ∃ d', d'.last.length = d.last.length ∧ St b (HP.log gl gd ⟨gen, half, next, rc, most⟩ :: HP.disk gd d' :: HP.sl partE (.slice bq (partsOf t.length) cq) (cutB gen rc t) :: L) w') (by kernel_rfl) ?_ (fun hHeld => ?_)
          · exact ⟨H2.out.drew.drew.blk_cell mem1 2, H2.out.drew.drew.blk_cell mem1 3, d, rfl, H2.out.drew.drew.f1⟩
          refine wpAnyH_takeD (i := 0) (some 39) (v := ?v0_57) rfl rfl (by kernel_rfl) (by kernel_rfl) (by kernel_rfl) (fun _ _ _ h => h) (by rfl) ?y0_57 (by assumption) ?r0_57
          case y0_57 => (intro w hSw; (try dsimp only at hSw); first | (go_simp; done) | (go_simp; with_reducible rfl))
          try simp only [Act.put, List.setIfInBounds_toArray, List.set_cons_zero, List.set_cons_succ]
          refine wpAnyH_takeD (i := 1) (some 40) (v := ?v1_58) rfl rfl (by kernel_rfl) (by kernel_rfl) (by kernel_rfl) (fun _ _ _ h => h) (by rfl) ?y1_58 (by assumption) ?r1_58
          case y1_58 => (intro w hSw; (try dsimp only at hSw); first | (go_simp; done) | (go_simp; with_reducible rfl))
          try simp only [Act.put, List.setIfInBounds_toArray, List.set_cons_zero, List.set_cons_succ]
          refine wpAnyH_takeD (i := 2) (some 41) (v := ?v2_59) rfl rfl (by kernel_rfl) (by kernel_rfl) (by kernel_rfl) (fun _ _ _ h => h) (by rfl) ?y2_59 (by assumption) ?r2_59
          case y2_59 => (intro w hSw; (try dsimp only at hSw); first | (go_simp; done) | (go_simp; with_reducible rfl))
          try simp only [Act.put, List.setIfInBounds_toArray, List.set_cons_zero, List.set_cons_succ]
          refine wpAnyH_takeD (i := 3) (some 42) (v := ?v3_60) rfl rfl (by kernel_rfl) (by kernel_rfl) (by kernel_rfl) (fun _ _ _ h => h) (by rfl) ?y3_60 (by assumption) ?r3_60
          case y3_60 => (intro w hSw; (try dsimp only at hSw); first | (go_simp; done) | (go_simp; with_reducible rfl))
          try simp only [Act.put, List.setIfInBounds_toArray, List.set_cons_zero, List.set_cons_succ]
          refine wpAnyH_takeD (i := 4) (some 43) (v := ?v4_61) rfl rfl (by kernel_rfl) (by kernel_rfl) (by kernel_rfl) (fun _ _ _ h => h) (by rfl) ?y4_61 (by assumption) ?r4_61
          case y4_61 => (intro w hSw; (try dsimp only at hSw); first | (go_simp; done) | (go_simp; with_reducible rfl))
          try simp only [Act.put, List.setIfInBounds_toArray, List.set_cons_zero, List.set_cons_succ]
          refine wpAnyH_takeD (i := 5) (some 44) (v := ?v5_62) rfl rfl (by kernel_rfl) (by kernel_rfl) (by kernel_rfl) (fun _ _ _ h => h) (by rfl) ?y5_62 (by assumption) ?r5_62
          case y5_62 => (intro w hSw; (try dsimp only at hSw); first | (go_simp; done) | (go_simp; with_reducible rfl))
          try simp only [Act.put, List.setIfInBounds_toArray, List.set_cons_zero, List.set_cons_succ]
          refine wpAnyH_tellsD (i := 6) (some 45) (v := .int .i64 ((d.last.length : Int) / 2)) rfl rfl (by kernel_rfl) (by kernel_rfl) (by kernel_rfl) (fun _ _ _ h => h) ⟨by rfl, 65, #[.pointer (some ⟨gl, 0, none⟩)], fun w hSw => ⟨?y6_63, (by obtain ⟨d9, hl9, hs9⟩ := hSw.2.2; have := lsize_calls hs9 (by rw [hl9]; exact HMO.out); rw [hl9] at this; exact this.mono (fun x w' h => ⟨h.1, h.2.symm⟩))⟩⟩ (by assumption) ?r6_63
          case y6_63 => first | (go_simp; done) | (go_simp; with_reducible rfl)
          try simp only [Act.put, List.setIfInBounds_toArray, List.set_cons_zero, List.set_cons_succ]
          refine wpAnyH_takeD (i := 7) (some 46) (v := ?v7_64) rfl rfl (by kernel_rfl) (by kernel_rfl) (by kernel_rfl) (fun _ _ _ h => h) (by rfl) ?y7_64 (by assumption) ?r7_64
          case y7_64 => (intro w hSw; (try dsimp only at hSw); first | (go_simp; done) | (go_simp; with_reducible rfl))
          try simp only [Act.put, List.setIfInBounds_toArray, List.set_cons_zero, List.set_cons_succ]
          refine wpAnyH_takeD (i := 8) (some 47) (v := ?v8_65) rfl rfl (by kernel_rfl) (by kernel_rfl) (by kernel_rfl) (fun _ _ _ h => h) (by rfl) ?y8_65 (by assumption) ?r8_65
          case y8_65 => (intro w hSw; (try dsimp only at hSw); first | (go_simp; done) | (go_simp; with_reducible rfl))
          try simp only [Act.put, List.setIfInBounds_toArray, List.set_cons_zero, List.set_cons_succ]
          refine wpAnyH_takeD (i := 9) (some 48) (v := ?v9_66) rfl rfl (by kernel_rfl) (by kernel_rfl) (by kernel_rfl) (fun _ _ _ h => h) (by rfl) ?y9_66 (by assumption) ?r9_66
          case y9_66 => (intro w hSw; (try dsimp only at hSw); first | (go_simp; done) | (go_simp; with_reducible rfl))
          try simp only [Act.put, List.setIfInBounds_toArray, List.set_cons_zero, List.set_cons_succ]
          refine wpAnyH_takeD (i := 10) (some 49) (v := ?v10_67) rfl rfl (by kernel_rfl) (by kernel_rfl) (by kernel_rfl) (fun _ _ _ h => h) (by rfl) ?y10_67 (by assumption) ?r10_67
          case y10_67 => (intro w hSw; (try dsimp only at hSw); first | (go_simp; done) | (go_simp; with_reducible rfl))
          try simp only [Act.put, List.setIfInBounds_toArray, List.set_cons_zero, List.set_cons_succ]
          refine wpAnyH_takeD (i := 11) (some 50) (v := ?v11_68) rfl rfl (by kernel_rfl) (by kernel_rfl) (by kernel_rfl) (fun _ _ _ h => h) (by rfl) ?y11_68 (by assumption) ?r11_68
          case y11_68 => (intro w hSw; (try dsimp only at hSw); first | (go_simp; done) | (go_simp; with_reducible rfl))
          try simp only [Act.put, List.setIfInBounds_toArray, List.set_cons_zero, List.set_cons_succ]
          refine wpAnyH_takeD (i := 12) (some 51) (v := ?v12_69) rfl rfl (by kernel_rfl) (by kernel_rfl) (by kernel_rfl) (fun _ _ _ h => h) (by rfl) ?y12_69 (by assumption) ?r12_69
          case y12_69 => (intro w hSw; (try dsimp only at hSw); first | (go_simp; done) | (go_simp; with_reducible rfl))
          try simp only [Act.put, List.setIfInBounds_toArray, List.set_cons_zero, List.set_cons_succ]
          refine wpAnyH_takeD (i := 13) (some 52) (v := ?v13_70) rfl rfl (by kernel_rfl) (by kernel_rfl) (by kernel_rfl) (fun _ _ _ h => h) (by rfl) ?y13_70 (by assumption) ?r13_70
          case y13_70 => (intro w hSw; (try dsimp only at hSw); first | (go_simp; done) | (go_simp; with_reducible rfl))
          try simp only [Act.put, List.setIfInBounds_toArray, List.set_cons_zero, List.set_cons_succ]
          refine wpAnyH_ready (rs := [14]) (by kernel_rfl) (by simp) ?_
          refine AllReadyH.cons rfl (fun K hK => ?_) ?_
          · go_simp
            go_at_call 70
            refine (put_calls (l := ⟨gen, half, next, rc, most⟩) H2.out.drew.drew mem0 HCO.out HGD.out HOP.out HPL.out.1 HPL.out.2 (by rw [cutB_len]; exact HP0.out)).mono ?_
            rintro x w5 ⟨rfl, h5⟩
            rw [HPU.out]
            have H5 := hide h5.f1
            clear h5 H2
            refine hK.out _ _ ?_ (fun hHeld => ?_)
            · exact ⟨H5.out.blk_cell mem0 2, H5.out.blk_cell mem0 3, _, putD_len _ _ _, H5.out⟩
            clear hK K
            try simp only [Act.put, List.setIfInBounds_toArray, List.set_cons_zero, List.set_cons_succ]
            refine wpAnyH_takeD (i := 15) (some 5) (v := ?v15_71) rfl rfl (by kernel_rfl) (by kernel_rfl) (by kernel_rfl) (fun _ _ _ h => h) (by rfl) ?y15_71 (by assumption) ?r15_71
            case y15_71 => (intro w hSw; (try dsimp only at hSw); first | (go_simp; done) | (go_simp; with_reducible rfl))
            try simp only [Act.put, List.setIfInBounds_toArray, List.set_cons_zero, List.set_cons_succ]
            refine wpAnyH_done (by kernel_rfl) ?_ _
            have x3 := (show _ = _ from H5.out.blk_cell (g := gl) (c := (logC gd ⟨gen, half, next, rc, most⟩).toArray) (t := 118) (fz := (0, 0)) mem0 3)
            have x4 := (show _ = _ from H5.out.blk_cell (g := gl) (c := (logC gd ⟨gen, half, next, rc, most⟩).toArray) (t := 118) (fz := (0, 0)) mem0 4)
            change _ = some (Value.int .i64 (next : Nat)) at x3
            change _ = some (Value.int .i64 (rc : Nat)) at x4
            go_wp2_with (first
              | ((with_reducible refine wpList_storeF_st (cs := [.pointer (some ⟨gd, 0, none⟩), .int .i64 (gen : Nat), .int .i64 (half : Nat), .int .i64 ((next : Nat)), .int .i64 ((rc : Nat)), .int .i64 (most : Nat)]) (ds := [.pointer (some ⟨gd, 0, none⟩), .int .i64 (gen : Nat), .int .i64 (half : Nat), .int .i64 ((next : Int) + (partsOf t.length : Nat)), .int .i64 ((rc : Nat)), .int .i64 (most : Nat)]) rfl 3 (.tmp 65) (.tmp 63) rfl szInt rfl rfl rfl rfl H5.out (by simp) rfl ?_); intro w9 h9; have x5 : w9.cell? ⟨gl, 4, none⟩ = some (.int .i64 (rc : Nat)) := h9.blk_cell mem0 4; have H6 := hide h9; clear h9 H5)
              | ((with_reducible refine wpList_storeF_st (cs := [.pointer (some ⟨gd, 0, none⟩), .int .i64 (gen : Nat), .int .i64 (half : Nat), .int .i64 ((next : Int) + (partsOf t.length : Nat)), .int .i64 ((rc : Nat)), .int .i64 (most : Nat)]) (ds := [.pointer (some ⟨gd, 0, none⟩), .int .i64 (gen : Nat), .int .i64 (half : Nat), .int .i64 ((next : Int) + (partsOf t.length : Nat)), .int .i64 ((rc : Int) + 1), .int .i64 (most : Nat)]) rfl 3 (.tmp 72) (.tmp 70) rfl szInt rfl rfl rfl rfl H6.out (by simp) rfl ?_); intro w9 h9; have H7 := hide h9; clear h9 H6))
            go_ret2
            have h10 := H7.out.d2
            rewrite [show (next : Int) + (partsOf t.length : Nat) = ((next + partsOf t.length : Nat) : Int) from by omega, show (rc : Int) + 1 = ((rc + 1 : Nat) : Int) from by omega] at h10
            rewrite [HAP.out]
            exact ⟨rfl, h10⟩
          exact AllReadyH.nil
        exact AllReadyH.nil
      · have hRb : (R == 0) = false := by rw [beq_eq_false_iff_ne]; exact hR0
        have hRt : (R != 0) = true := by rw [bne, hRb]; rfl
        have HAP := hide (hap.trans (if_neg hR0))
        clear hap hR hR0
        go_enter Tryz.func45, Tryz.ntmps45
        go_wp2_with fail
        refine wp_region_held_drew (S := fun w' => w'.cell? ⟨gl, 1, none⟩ = some (.int .i64 (gen : Nat)) ∧ w'.cell? ⟨gl, 4, none⟩ = some (.int .i64 (rc : Nat))) (by kernel_rfl) ?_ (fun hHeld => ?_)
        · exact ⟨H.out.drew.blk_cell mem0 1, H.out.drew.blk_cell mem0 4⟩
        refine wpAnyH_takeD (i := 0) (some 13) (v := ?v0_72) rfl rfl (by kernel_rfl) (by kernel_rfl) (by kernel_rfl) (fun _ _ _ h => h) (by rfl) ?y0_72 (by assumption) ?r0_72
        case y0_72 => (intro w hSw; (try dsimp only at hSw); first | (go_simp; done) | (go_simp; with_reducible rfl))
        try simp only [Act.put, List.setIfInBounds_toArray, List.set_cons_zero, List.set_cons_succ]
        refine wpAnyH_takeD (i := 1) (some 14) (v := ?v1_73) rfl rfl (by kernel_rfl) (by kernel_rfl) (by kernel_rfl) (fun _ _ _ h => h) (by rfl) ?y1_73 (by assumption) ?r1_73
        case y1_73 => (intro w hSw; (try dsimp only at hSw); first | (go_simp; done) | (go_simp; with_reducible rfl))
        try simp only [Act.put, List.setIfInBounds_toArray, List.set_cons_zero, List.set_cons_succ]
        refine wpAnyH_takeD (i := 2) (some 15) (v := ?v2_74) rfl rfl (by kernel_rfl) (by kernel_rfl) (by kernel_rfl) (fun _ _ _ h => h) (by rfl) ?y2_74 (by assumption) ?r2_74
        case y2_74 => (intro w hSw; (try dsimp only at hSw); first | (go_simp; done) | (go_simp; with_reducible rfl))
        try simp only [Act.put, List.setIfInBounds_toArray, List.set_cons_zero, List.set_cons_succ]
        refine wpAnyH_takeD (i := 3) (some 16) (v := ?v3_75) rfl rfl (by kernel_rfl) (by kernel_rfl) (by kernel_rfl) (fun _ _ _ h => h) (by rfl) ?y3_75 (by assumption) ?r3_75
        case y3_75 => (intro w hSw; (try dsimp only at hSw); first | (go_simp; done) | (go_simp; with_reducible rfl))
        try simp only [Act.put, List.setIfInBounds_toArray, List.set_cons_zero, List.set_cons_succ]
        refine wpAnyH_takeD (i := 4) (some 17) (v := ?v4_76) rfl rfl (by kernel_rfl) (by kernel_rfl) (by kernel_rfl) (fun _ _ _ h => h) (by rfl) ?y4_76 (by assumption) ?r4_76
        case y4_76 => (intro w hSw; (try dsimp only at hSw); first | (go_simp; done) | (go_simp; with_reducible rfl))
        try simp only [Act.put, List.setIfInBounds_toArray, List.set_cons_zero, List.set_cons_succ]
        refine wpAnyH_takeD (i := 5) (some 18) (v := ?v5_77) rfl rfl (by kernel_rfl) (by kernel_rfl) (by kernel_rfl) (fun _ _ _ h => h) (by rfl) ?y5_77 (by assumption) ?r5_77
        case y5_77 => (intro w hSw; (try dsimp only at hSw); first | (go_simp; done) | (go_simp; with_reducible rfl))
        try simp only [Act.put, List.setIfInBounds_toArray, List.set_cons_zero, List.set_cons_succ]
        refine wpAnyH_takeD (i := 6) (some 19) (v := ?v6_78) rfl rfl (by kernel_rfl) (by kernel_rfl) (by kernel_rfl) (fun _ _ _ h => h) (by rfl) ?y6_78 (by assumption) ?r6_78
        case y6_78 => (intro w hSw; (try dsimp only at hSw); first | (go_simp; done) | (go_simp; with_reducible rfl))
        try simp only [Act.put, List.setIfInBounds_toArray, List.set_cons_zero, List.set_cons_succ]
        refine wpAnyH_takeD (i := 7) (some 20) (v := ?v7_79) rfl rfl (by kernel_rfl) (by kernel_rfl) (by kernel_rfl) (fun _ _ _ h => h) (by rfl) ?y7_79 (by assumption) ?r7_79
        case y7_79 => (intro w hSw; (try dsimp only at hSw); first | (go_simp; done) | (go_simp; with_reducible rfl))
        try simp only [Act.put, List.setIfInBounds_toArray, List.set_cons_zero, List.set_cons_succ]
        refine wpAnyH_takeD (i := 8) (some 21) (v := ?v8_80) rfl rfl (by kernel_rfl) (by kernel_rfl) (by kernel_rfl) (fun _ _ _ h => h) (by rfl) ?y8_80 (by assumption) ?r8_80
        case y8_80 => (intro w hSw; (try dsimp only at hSw); first | (go_simp; done) | (go_simp; with_reducible rfl))
        try simp only [Act.put, List.setIfInBounds_toArray, List.set_cons_zero, List.set_cons_succ]
        refine wpAnyH_ready (rs := [9]) (by kernel_rfl) (by simp) ?_
        refine AllReadyH.cons rfl (fun K hK => ?_) ?_
        · go_simp
          go_at_call 69
          refine (cut_calls (gen := gen) (rc := rc) H.out.drew (up2 HM.out) HG1.out HG2.out HRC.out HP0.out).mono ?_
          rintro z w2 ⟨vp, rfl, h2⟩
          obtain ⟨bq, cq, hvq, _⟩ := h2.sl_form mem0
          rw [cutB_len] at hvq
          subst hvq
          have H2 := hide h2.f1.f2
          clear h2 H
          refine hK.out _ _ ?_ (fun hHeld => ?_)
          · exact ⟨H2.out.blk_cell mem1 1, H2.out.blk_cell mem1 4⟩
          clear hK K
          try simp only [Act.put, List.setIfInBounds_toArray, List.set_cons_zero, List.set_cons_succ]
          refine wpAnyH_takeD (i := 10) (some 12) (v := ?v10_81) rfl rfl (by kernel_rfl) (by kernel_rfl) (by kernel_rfl) (fun _ _ _ h => h) (by rfl) ?y10_81 (by assumption) ?r10_81
          case y10_81 => (intro w hSw; (try dsimp only at hSw); first | (go_simp; done) | (go_simp; with_reducible rfl))
          try simp only [Act.put, List.setIfInBounds_toArray, List.set_cons_zero, List.set_cons_succ]
          refine wpAnyH_takeD (i := 11) (some 23) (v := ?v11_82) rfl rfl (by kernel_rfl) (by kernel_rfl) (by kernel_rfl) (fun _ _ _ h => h) (by rfl) ?y11_82 (by assumption) ?r11_82
          case y11_82 => (intro w hSw; (try dsimp only at hSw); first | (go_simp; done) | (go_simp; with_reducible rfl))
          try simp only [Act.put, List.setIfInBounds_toArray, List.set_cons_zero, List.set_cons_succ]
          refine wpAnyH_takeD (i := 12) (some 24) (v := ?v12_83) rfl rfl (by kernel_rfl) (by kernel_rfl) (by kernel_rfl) (fun _ _ _ h => h) (by rfl) ?y12_83 (by assumption) ?r12_83
          case y12_83 => (intro w hSw; (try dsimp only at hSw); first | (go_simp; done) | (go_simp; with_reducible rfl))
          try simp only [Act.put, List.setIfInBounds_toArray, List.set_cons_zero, List.set_cons_succ]
          refine wpAnyH_takeD (i := 13) (some 6) (v := ?v13_84) rfl rfl (by kernel_rfl) (by kernel_rfl) (by kernel_rfl) (fun _ _ _ h => h) (by rfl) ?y13_84 (by assumption) ?r13_84
          case y13_84 => (intro w hSw; (try dsimp only at hSw); first | (go_simp; done) | (go_simp; with_reducible rfl))
          try simp only [Act.put, List.setIfInBounds_toArray, List.set_cons_zero, List.set_cons_succ]
          refine wpAnyH_takeD (i := 14) (some 5) (v := ?v14_85) rfl rfl (by kernel_rfl) (by kernel_rfl) (by kernel_rfl) (fun _ _ _ h => h) (by rfl) ?y14_85 (by assumption) ?r14_85
          case y14_85 => (intro w hSw; (try dsimp only at hSw); first | (go_simp; done) | (go_simp; with_reducible rfl))
          try simp only [Act.put, List.setIfInBounds_toArray, List.set_cons_zero, List.set_cons_succ]
          refine wpAnyH_done (by kernel_rfl) ?_ _
          go_wp2_with fail
          refine wp_region_held_drew (S := fun w' => w'.cell? ⟨gl, 3, none⟩ = some (.int .i64 (next : Nat)) ∧ St b (HP.log gl gd ⟨gen, half, next, rc, most⟩ :: HP.disk gd d :: HP.sl partE (.slice bq (partsOf t.length) cq) (cutB gen rc t) :: L) w') (by kernel_rfl) ?_ (fun hHeld => ?_)
          · exact ⟨H2.out.drew.blk_cell mem1 3, H2.out.drew.f1⟩
          refine wpAnyH_takeD (i := 0) (some 25) (v := ?v0_86) rfl rfl (by kernel_rfl) (by kernel_rfl) (by kernel_rfl) (fun _ _ _ h => h) (by rfl) ?y0_86 (by assumption) ?r0_86
          case y0_86 => (intro w hSw; (try dsimp only at hSw); first | (go_simp; done) | (go_simp; with_reducible rfl))
          try simp only [Act.put, List.setIfInBounds_toArray, List.set_cons_zero, List.set_cons_succ]
          refine wpAnyH_takeD (i := 1) (some 26) (v := ?v1_87) rfl rfl (by kernel_rfl) (by kernel_rfl) (by kernel_rfl) (fun _ _ _ h => h) (by rfl) ?y1_87 (by assumption) ?r1_87
          case y1_87 => (intro w hSw; (try dsimp only at hSw); first | (go_simp; done) | (go_simp; with_reducible rfl))
          try simp only [Act.put, List.setIfInBounds_toArray, List.set_cons_zero, List.set_cons_succ]
          refine wpAnyH_takeD (i := 2) (some 27) (v := ?v2_88) rfl rfl (by kernel_rfl) (by kernel_rfl) (by kernel_rfl) (fun _ _ _ h => h) (by rfl) ?y2_88 (by assumption) ?r2_88
          case y2_88 => (intro w hSw; (try dsimp only at hSw); first | (go_simp; done) | (go_simp; with_reducible rfl))
          try simp only [Act.put, List.setIfInBounds_toArray, List.set_cons_zero, List.set_cons_succ]
          refine wpAnyH_takeD (i := 3) (some 28) (v := ?v3_89) rfl rfl (by kernel_rfl) (by kernel_rfl) (by kernel_rfl) (fun _ _ _ h => h) (by rfl) ?y3_89 (by assumption) ?r3_89
          case y3_89 => (intro w hSw; (try dsimp only at hSw); first | (go_simp; done) | (go_simp; with_reducible rfl))
          try simp only [Act.put, List.setIfInBounds_toArray, List.set_cons_zero, List.set_cons_succ]
          refine wpAnyH_takeD (i := 4) (some 29) (v := ?v4_90) rfl rfl (by kernel_rfl) (by kernel_rfl) (by kernel_rfl) (fun _ _ _ h => h) (by rfl) ?y4_90 (by assumption) ?r4_90
          case y4_90 => (intro w hSw; (try dsimp only at hSw); first | (go_simp; done) | (go_simp; with_reducible rfl))
          try simp only [Act.put, List.setIfInBounds_toArray, List.set_cons_zero, List.set_cons_succ]
          refine wpAnyH_takeD (i := 5) (some 30) (v := ?v5_91) rfl rfl (by kernel_rfl) (by kernel_rfl) (by kernel_rfl) (fun _ _ _ h => h) (by rfl) ?y5_91 (by assumption) ?r5_91
          case y5_91 => (intro w hSw; (try dsimp only at hSw); first | (go_simp; done) | (go_simp; with_reducible rfl))
          try simp only [Act.put, List.setIfInBounds_toArray, List.set_cons_zero, List.set_cons_succ]
          refine wpAnyH_tellsD (i := 6) (some 31) (v := .int .i64 ((d.last.length : Int) / 2)) rfl rfl (by kernel_rfl) (by kernel_rfl) (by kernel_rfl) (fun _ _ _ h => h) ⟨by rfl, 65, #[.pointer (some ⟨gl, 0, none⟩)], fun w hSw => ⟨?y6_92, (by have := lsize_calls hSw.2 HMO.out; exact this.mono (fun x w' h => ⟨h.1, h.2.symm⟩))⟩⟩ (by assumption) ?r6_92
          case y6_92 => first | (go_simp; done) | (go_simp; with_reducible rfl)
          try simp only [Act.put, List.setIfInBounds_toArray, List.set_cons_zero, List.set_cons_succ]
          refine wpAnyH_takeD (i := 7) (some 32) (v := ?v7_93) rfl rfl (by kernel_rfl) (by kernel_rfl) (by kernel_rfl) (fun _ _ _ h => h) (by rfl) ?y7_93 (by assumption) ?r7_93
          case y7_93 => (intro w hSw; (try dsimp only at hSw); first | (go_simp; done) | (go_simp; with_reducible rfl))
          try simp only [Act.put, List.setIfInBounds_toArray, List.set_cons_zero, List.set_cons_succ]
          refine wpAnyH_takeD (i := 8) (some 33) (v := ?v8_94) rfl rfl (by kernel_rfl) (by kernel_rfl) (by kernel_rfl) (fun _ _ _ h => h) (by rfl) ?y8_94 (by assumption) ?r8_94
          case y8_94 => (intro w hSw; (try dsimp only at hSw); first | (go_simp; done) | (go_simp; with_reducible rfl))
          try simp only [Act.put, List.setIfInBounds_toArray, List.set_cons_zero, List.set_cons_succ]
          refine wpAnyH_takeD (i := 9) (some 34) (v := ?v9_95) rfl rfl (by kernel_rfl) (by kernel_rfl) (by kernel_rfl) (fun _ _ _ h => h) (by rfl) ?y9_95 (by assumption) ?r9_95
          case y9_95 => (intro w hSw; (try dsimp only at hSw); first | (go_simp; done) | (go_simp; with_reducible rfl))
          try simp only [Act.put, List.setIfInBounds_toArray, List.set_cons_zero, List.set_cons_succ]
          refine wpAnyH_takeD (i := 10) (some 35) (v := ?v10_96) rfl rfl (by kernel_rfl) (by kernel_rfl) (by kernel_rfl) (fun _ _ _ h => h) (by rfl) ?y10_96 (by assumption) ?r10_96
          case y10_96 => (intro w hSw; (try dsimp only at hSw); first | (go_simp; done) | (go_simp; with_reducible rfl))
          try simp only [Act.put, List.setIfInBounds_toArray, List.set_cons_zero, List.set_cons_succ]
          refine wpAnyH_takeD (i := 11) (some 36) (v := ?v11_97) rfl rfl (by kernel_rfl) (by kernel_rfl) (by kernel_rfl) (fun _ _ _ h => h) (by rfl) ?y11_97 (by assumption) ?r11_97
          case y11_97 => (intro w hSw; (try dsimp only at hSw); first | (go_simp; done) | (go_simp; with_reducible rfl))
          try simp only [Act.put, List.setIfInBounds_toArray, List.set_cons_zero, List.set_cons_succ]
          refine wpAnyH_takeD (i := 12) (some 37) (v := ?v12_98) rfl rfl (by kernel_rfl) (by kernel_rfl) (by kernel_rfl) (fun _ _ _ h => h) (by rfl) ?y12_98 (by assumption) ?r12_98
          case y12_98 => (intro w hSw; (try dsimp only at hSw); first | (go_simp; done) | (go_simp; with_reducible rfl))
          try simp only [Act.put, List.setIfInBounds_toArray, List.set_cons_zero, List.set_cons_succ]
          refine wpAnyH_takeD (i := 13) (some 38) (v := ?v13_99) rfl rfl (by kernel_rfl) (by kernel_rfl) (by kernel_rfl) (fun _ _ _ h => h) (by rfl) ?y13_99 (by assumption) ?r13_99
          case y13_99 => (intro w hSw; (try dsimp only at hSw); first | (go_simp; done) | (go_simp; with_reducible rfl))
          try simp only [Act.put, List.setIfInBounds_toArray, List.set_cons_zero, List.set_cons_succ]
          refine wpAnyH_done (by kernel_rfl) ?_ _
          go_wp2_with fail
          refine wp_region_held_drew (S := fun w' => w'.cell? ⟨gl, 2, none⟩ = some (.int .i64 (half : Nat)) ∧ w'.cell? ⟨gl, 3, none⟩ = some (.int .i64 (next : Nat)) ∧ ∃ d', d'.last.length = d.last.length ∧ St b (HP.log gl gd ⟨gen, half, next, rc, most⟩ :: HP.disk gd d' :: HP.sl partE (.slice bq (partsOf t.length) cq) (cutB gen rc t) :: L) w') (by kernel_rfl) ?_ (fun hHeld => ?_)
          · exact ⟨H2.out.drew.drew.blk_cell mem1 2, H2.out.drew.drew.blk_cell mem1 3, d, rfl, H2.out.drew.drew.f1⟩
          refine wpAnyH_takeD (i := 0) (some 39) (v := ?v0_100) rfl rfl (by kernel_rfl) (by kernel_rfl) (by kernel_rfl) (fun _ _ _ h => h) (by rfl) ?y0_100 (by assumption) ?r0_100
          case y0_100 => (intro w hSw; (try dsimp only at hSw); first | (go_simp; done) | (go_simp; with_reducible rfl))
          try simp only [Act.put, List.setIfInBounds_toArray, List.set_cons_zero, List.set_cons_succ]
          refine wpAnyH_takeD (i := 1) (some 40) (v := ?v1_101) rfl rfl (by kernel_rfl) (by kernel_rfl) (by kernel_rfl) (fun _ _ _ h => h) (by rfl) ?y1_101 (by assumption) ?r1_101
          case y1_101 => (intro w hSw; (try dsimp only at hSw); first | (go_simp; done) | (go_simp; with_reducible rfl))
          try simp only [Act.put, List.setIfInBounds_toArray, List.set_cons_zero, List.set_cons_succ]
          refine wpAnyH_takeD (i := 2) (some 41) (v := ?v2_102) rfl rfl (by kernel_rfl) (by kernel_rfl) (by kernel_rfl) (fun _ _ _ h => h) (by rfl) ?y2_102 (by assumption) ?r2_102
          case y2_102 => (intro w hSw; (try dsimp only at hSw); first | (go_simp; done) | (go_simp; with_reducible rfl))
          try simp only [Act.put, List.setIfInBounds_toArray, List.set_cons_zero, List.set_cons_succ]
          refine wpAnyH_takeD (i := 3) (some 42) (v := ?v3_103) rfl rfl (by kernel_rfl) (by kernel_rfl) (by kernel_rfl) (fun _ _ _ h => h) (by rfl) ?y3_103 (by assumption) ?r3_103
          case y3_103 => (intro w hSw; (try dsimp only at hSw); first | (go_simp; done) | (go_simp; with_reducible rfl))
          try simp only [Act.put, List.setIfInBounds_toArray, List.set_cons_zero, List.set_cons_succ]
          refine wpAnyH_takeD (i := 4) (some 43) (v := ?v4_104) rfl rfl (by kernel_rfl) (by kernel_rfl) (by kernel_rfl) (fun _ _ _ h => h) (by rfl) ?y4_104 (by assumption) ?r4_104
          case y4_104 => (intro w hSw; (try dsimp only at hSw); first | (go_simp; done) | (go_simp; with_reducible rfl))
          try simp only [Act.put, List.setIfInBounds_toArray, List.set_cons_zero, List.set_cons_succ]
          refine wpAnyH_takeD (i := 5) (some 44) (v := ?v5_105) rfl rfl (by kernel_rfl) (by kernel_rfl) (by kernel_rfl) (fun _ _ _ h => h) (by rfl) ?y5_105 (by assumption) ?r5_105
          case y5_105 => (intro w hSw; (try dsimp only at hSw); first | (go_simp; done) | (go_simp; with_reducible rfl))
          try simp only [Act.put, List.setIfInBounds_toArray, List.set_cons_zero, List.set_cons_succ]
          refine wpAnyH_tellsD (i := 6) (some 45) (v := .int .i64 ((d.last.length : Int) / 2)) rfl rfl (by kernel_rfl) (by kernel_rfl) (by kernel_rfl) (fun _ _ _ h => h) ⟨by rfl, 65, #[.pointer (some ⟨gl, 0, none⟩)], fun w hSw => ⟨?y6_106, (by obtain ⟨d9, hl9, hs9⟩ := hSw.2.2; have := lsize_calls hs9 (by rw [hl9]; exact HMO.out); rw [hl9] at this; exact this.mono (fun x w' h => ⟨h.1, h.2.symm⟩))⟩⟩ (by assumption) ?r6_106
          case y6_106 => first | (go_simp; done) | (go_simp; with_reducible rfl)
          try simp only [Act.put, List.setIfInBounds_toArray, List.set_cons_zero, List.set_cons_succ]
          refine wpAnyH_takeD (i := 7) (some 46) (v := ?v7_107) rfl rfl (by kernel_rfl) (by kernel_rfl) (by kernel_rfl) (fun _ _ _ h => h) (by rfl) ?y7_107 (by assumption) ?r7_107
          case y7_107 => (intro w hSw; (try dsimp only at hSw); first | (go_simp; done) | (go_simp; with_reducible rfl))
          try simp only [Act.put, List.setIfInBounds_toArray, List.set_cons_zero, List.set_cons_succ]
          refine wpAnyH_takeD (i := 8) (some 47) (v := ?v8_108) rfl rfl (by kernel_rfl) (by kernel_rfl) (by kernel_rfl) (fun _ _ _ h => h) (by rfl) ?y8_108 (by assumption) ?r8_108
          case y8_108 => (intro w hSw; (try dsimp only at hSw); first | (go_simp; done) | (go_simp; with_reducible rfl))
          try simp only [Act.put, List.setIfInBounds_toArray, List.set_cons_zero, List.set_cons_succ]
          refine wpAnyH_takeD (i := 9) (some 48) (v := ?v9_109) rfl rfl (by kernel_rfl) (by kernel_rfl) (by kernel_rfl) (fun _ _ _ h => h) (by rfl) ?y9_109 (by assumption) ?r9_109
          case y9_109 => (intro w hSw; (try dsimp only at hSw); first | (go_simp; done) | (go_simp; with_reducible rfl))
          try simp only [Act.put, List.setIfInBounds_toArray, List.set_cons_zero, List.set_cons_succ]
          refine wpAnyH_takeD (i := 10) (some 49) (v := ?v10_110) rfl rfl (by kernel_rfl) (by kernel_rfl) (by kernel_rfl) (fun _ _ _ h => h) (by rfl) ?y10_110 (by assumption) ?r10_110
          case y10_110 => (intro w hSw; (try dsimp only at hSw); first | (go_simp; done) | (go_simp; with_reducible rfl))
          try simp only [Act.put, List.setIfInBounds_toArray, List.set_cons_zero, List.set_cons_succ]
          refine wpAnyH_takeD (i := 11) (some 50) (v := ?v11_111) rfl rfl (by kernel_rfl) (by kernel_rfl) (by kernel_rfl) (fun _ _ _ h => h) (by rfl) ?y11_111 (by assumption) ?r11_111
          case y11_111 => (intro w hSw; (try dsimp only at hSw); first | (go_simp; done) | (go_simp; with_reducible rfl))
          try simp only [Act.put, List.setIfInBounds_toArray, List.set_cons_zero, List.set_cons_succ]
          refine wpAnyH_takeD (i := 12) (some 51) (v := ?v12_112) rfl rfl (by kernel_rfl) (by kernel_rfl) (by kernel_rfl) (fun _ _ _ h => h) (by rfl) ?y12_112 (by assumption) ?r12_112
          case y12_112 => (intro w hSw; (try dsimp only at hSw); first | (go_simp; done) | (go_simp; with_reducible rfl))
          try simp only [Act.put, List.setIfInBounds_toArray, List.set_cons_zero, List.set_cons_succ]
          refine wpAnyH_takeD (i := 13) (some 52) (v := ?v13_113) rfl rfl (by kernel_rfl) (by kernel_rfl) (by kernel_rfl) (fun _ _ _ h => h) (by rfl) ?y13_113 (by assumption) ?r13_113
          case y13_113 => (intro w hSw; (try dsimp only at hSw); first | (go_simp; done) | (go_simp; with_reducible rfl))
          try simp only [Act.put, List.setIfInBounds_toArray, List.set_cons_zero, List.set_cons_succ]
          refine wpAnyH_ready (rs := [14]) (by kernel_rfl) (by simp) ?_
          refine AllReadyH.cons rfl (fun K hK => ?_) ?_
          · go_simp
            go_at_call 70
            refine (put_calls (l := ⟨gen, half, next, rc, most⟩) H2.out.drew.drew mem0 HCO.out HGD.out HOP.out HPL.out.1 HPL.out.2 (by rw [cutB_len]; exact HP0.out)).mono ?_
            rintro x w5 ⟨rfl, h5⟩
            rw [HPU.out]
            have H5 := hide h5.f1
            clear h5 H2
            refine hK.out _ _ ?_ (fun hHeld => ?_)
            · exact ⟨H5.out.blk_cell mem0 2, H5.out.blk_cell mem0 3, _, putD_len _ _ _, H5.out⟩
            clear hK K
            try simp only [Act.put, List.setIfInBounds_toArray, List.set_cons_zero, List.set_cons_succ]
            refine wpAnyH_takeD (i := 15) (some 5) (v := ?v15_114) rfl rfl (by kernel_rfl) (by kernel_rfl) (by kernel_rfl) (fun _ _ _ h => h) (by rfl) ?y15_114 (by assumption) ?r15_114
            case y15_114 => (intro w hSw; (try dsimp only at hSw); first | (go_simp; done) | (go_simp; with_reducible rfl))
            try simp only [Act.put, List.setIfInBounds_toArray, List.set_cons_zero, List.set_cons_succ]
            refine wpAnyH_done (by kernel_rfl) ?_ _
            go_wp2_with fail
            go_ret2
            rewrite [HAP.out]
            exact ⟨rfl, H5.out.d2⟩
          exact AllReadyH.nil
        exact AllReadyH.nil
end Go.Proofs.YtcgnkloljfgiaaaGreatDoor
