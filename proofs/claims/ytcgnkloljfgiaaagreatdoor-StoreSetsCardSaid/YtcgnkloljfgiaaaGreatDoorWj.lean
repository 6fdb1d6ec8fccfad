/-
  package wal: Fits, Fresh.
-/
import Derived.Test.YtcgnkloljfgiaaaGreatDoorWi
namespace Go.Proofs.YtcgnkloljfgiaaaGreatDoor
open Go.RowKit Go.Maps Go.MapKept
variable {b : Env} {L : List HP} {w : World} {gd : Nat} {d : Dk}
set_option linter.unusedSimpArgs false in
set_option maxRecDepth 100000 in
set_option maxHeartbeats 4000000 in
theorem fits_calls {gl : Nat} {l : LogR} {v : Value} {t : Byt} (h : St b (HP.log gl gd l :: HP.disk gd d :: L) w) (hm : HP.sl byteE v t ∈ L) (hmost : d.last.length ≤ 256) (hp : partsOf t.length ≤ 255) :
    Calls Tryz.prog 43 #[.pointer (some ⟨gl, 0, none⟩), v] w fun x w' => x = .returned (.bool (decide (partsOf t.length ≤ d.last.length / 2))) ∧ St b (HP.log gl gd l :: HP.disk gd d :: L) w' := by
  have H := hide h
  have HM := hide hm
  have HP0 := hide hp
  have HMO := hide hmost
  have hpI : (partsOf t.length : Int) ≤ 255 := by omega
  obtain ⟨P, hP⟩ : ∃ P, partsOf t.length = P := ⟨_, rfl⟩
  have HPP := hide hP
  have hdec : decide ((P : Int) ≤ (d.last.length : Int) / 2) = decide (P ≤ d.last.length / 2) := by
    congr 1; rw [eq_iff_iff]; omega
  rw [hP] at hpI ⊢
  clear h hm hp hP hmost
  go_enter Tryz.func43, Tryz.ntmps43
  go_wp2_with (first
    | (go_at_call 69; refine (cut_calls (gen := 1) (rc := 0) H.out (up2 HM.out) (by decide) (by decide) (by decide) HP0.out).mono ?_; rintro z w1 ⟨vp, rfl, h1⟩; obtain ⟨bq, cq, hvq, _⟩ := h1.sl_form mem0; rw [cutB_len, HPP.out] at hvq; subst hvq; have H1 := hide h1.drop; clear h1 H)
    | (go_at_call 65; refine (lsize_calls H1.out HMO.out).mono ?_; rintro x w2 ⟨rfl, hw2⟩; subst hw2))
  go_ret
  exact ⟨by rw [← hdec]; rfl, H1.out⟩
/-- What Fresh leaves. -/
def freshD (d : Dk) (l : LogR) (t : Byt) : Int × Dk × LogR :=
  if d.last.length / 2 < partsOf t.length then (4, d, l)
  else
    let h := if 0 < l.gen then 1 - l.half else 0
    let q := putD d ((h * (d.last.length / 2) : Nat) : Int) (cutB (l.most + 1) 0 t)
    if q.2 = 0 then (0, q.1, ⟨l.most + 1, h, partsOf t.length, 1, l.most + 1⟩) else (q.2, q.1, { l with most := l.most + 1 })
theorem cutB_ok {gen rc : Nat} {t : Byt} (h1 : 1 ≤ gen) (h2 : gen ≤ 4294967295) (h3 : rc ≤ 65535) (h4 : partsOf t.length ≤ 255) : ∀ p ∈ cutB gen rc t, p.ok := by
  intro p hp
  unfold cutB at hp
  obtain ⟨i, hi, rfl⟩ := List.mem_map.1 hp
  rw [List.mem_range] at hi
  have := partsOf_pos t.length
  exact ⟨h1, h2, h3, by show 1 ≤ partsOf t.length; omega, h4, by show i ≤ partsOf t.length - 1; omega, partAt_len gen rc t hi⟩
theorem szInt : (Tryz.prog.info? 3).map (·.size) = some 1 := by kernel_rfl
set_option linter.unusedSimpArgs false in
set_option maxRecDepth 100000 in
set_option maxHeartbeats 4000000 in
theorem fresh_calls {gl : Nat} {l : LogR} {v : Value} {t : Byt} (h : St b (HP.log gl gd l :: HP.disk gd d :: L) w) (hm : HP.sl byteE v t ∈ L) (hg : d.Good) (hops : d.ops ≤ 100000000) (hp : partsOf t.length ≤ 255) (hmo : l.most + 1 ≤ 4294967295) (hh : l.half ≤ 1) :
    Calls Tryz.prog 39 #[.pointer (some ⟨gl, 0, none⟩), v] w fun x w' => x = .returned (.int .i64 (freshD d l t).1) ∧ St b (HP.log gl gd (freshD d l t).2.2 :: HP.disk gd (freshD d l t).2.1 :: L) w' := by
  have hmost := hg.fine.ok.most
  obtain ⟨gen, half, next, rc, most⟩ := l
  simp only at hmo hh
  have hpI : (partsOf t.length : Int) ≤ 255 := by omega
  have hmI : (most : Int) + 1 ≤ 4294967295 := by omega
  have hNI : (d.last.length : Int) ≤ 256 := by omega
  have H := hide h
  have HM := hide hm
  have HMO := hide hmost
  have HP0 := hide hp
  have HGD := hide hg
  have HOP := hide hops
  have HCO := hide (cutB_ok (gen := most + 1) (rc := 0) (t := t) (by omega) (by omega) (by decide) hp)
  clear h hm hg hops hmost
  by_cases hfit : d.last.length / 2 < partsOf t.length
  · have HFI : Hid (decide (partsOf t.length ≤ d.last.length / 2) = false) := hide (decide_eq_false (by omega))
    have HFD : Hid (freshD d ⟨gen, half, next, rc, most⟩ t = (4, d, ⟨gen, half, next, rc, most⟩)) := hide (by unfold freshD; rw [if_pos hfit])
    clear hfit hp HCO
    rcases Nat.eq_zero_or_pos gen with hz | hz
    · subst hz
      go_enter Tryz.func39, Tryz.ntmps39
      go_wp2_with (first
        | (go_at_call 43; refine (fits_calls (l := ⟨0, half, next, rc, most⟩) H.out HM.out HMO.out HP0.out).mono ?_; rintro z w1 ⟨rfl, h1⟩; rw [HFI.out]; have H1 := hide h1; clear h1 H))
      go_ret
      rw [HFD.out]
      exact ⟨rfl, H1.out⟩
    · clear hz
      go_enter Tryz.func39, Tryz.ntmps39
      go_wp2_with (first
        | (go_at_call 43; refine (fits_calls (l := ⟨gen, half, next, rc, most⟩) H.out HM.out HMO.out HP0.out).mono ?_; rintro z w1 ⟨rfl, h1⟩; rw [HFI.out]; have H1 := hide h1; clear h1 H))
      go_ret
      rw [HFD.out]
      exact ⟨rfl, H1.out⟩
  · have HFI : Hid (decide (partsOf t.length ≤ d.last.length / 2) = true) := hide (decide_eq_true (by omega))
    have hn : ((1 * (d.last.length / 2) : Nat) : Int) = (d.last.length : Int) / 2 := by omega
    have hn0 : ((0 * (d.last.length / 2) : Nat) : Int) = 0 := by omega
    rcases Nat.eq_zero_or_pos gen with hz | hz
    · subst hz
      have hfd : freshD d ⟨0, half, next, rc, most⟩ t = (if (putD d 0 (cutB (most + 1) 0 t)).2 = 0 then (0, (putD d 0 (cutB (most + 1) 0 t)).1, ⟨most + 1, 0, partsOf t.length, 1, most + 1⟩) else ((putD d 0 (cutB (most + 1) 0 t)).2, (putD d 0 (cutB (most + 1) 0 t)).1, ⟨0, half, next, rc, most + 1⟩)) := by
        unfold freshD; rw [if_neg hfit]; simp only [Nat.lt_irrefl, if_false, hn0]
      clear hfit hp hn hn0
      obtain ⟨R, hR⟩ : ∃ R, (putD d 0 (cutB (most + 1) 0 t)).2 = R := ⟨_, rfl⟩
      rw [hR] at hfd
      have HPU := hide hR
      by_cases hR0 : R = 0
      · subst hR0
        have HFD := hide (hfd.trans (if_pos rfl))
        clear hfd hR
        go_enter Tryz.func39, Tryz.ntmps39
        go_wp2_with (first
          | (go_at_call 43; refine (fits_calls (l := ⟨0, half, next, rc, most⟩) H.out HM.out HMO.out HP0.out).mono ?_; rintro z w1 ⟨rfl, h1⟩; rw [HFI.out]; have x1 : w1.cell? ⟨gl, 1, none⟩ = some (.int .i64 (0)) := h1.blk_cell mem0 1; have x2 : w1.cell? ⟨gl, 2, none⟩ = some (.int .i64 ((half : Nat))) := h1.blk_cell mem0 2; have x5 : w1.cell? ⟨gl, 5, none⟩ = some (.int .i64 (most : Nat)) := h1.blk_cell mem0 5; have H1 := hide h1; clear h1 H)
          | (go_at_call 69; refine (cut_calls (gen := most + 1) (rc := 0) H1.out (up2 HM.out) (by omega) (by omega) (by decide) HP0.out).mono ?_; rintro z w2 ⟨vp, rfl, h2⟩; obtain ⟨bq, cq, hvq, _⟩ := h2.sl_form mem0; rw [cutB_len] at hvq; subst hvq; have H2 := hide h2.f1; clear h2 H1)
          | ((with_reducible refine wpList_storeF_st (cs := [.pointer (some ⟨gd, 0, none⟩), .int .i64 (0), .int .i64 ((half : Nat)), .int .i64 ((next : Nat)), .int .i64 ((rc : Nat)), .int .i64 ((most : Nat))]) (ds := [.pointer (some ⟨gd, 0, none⟩), .int .i64 (0), .int .i64 ((half : Nat)), .int .i64 ((next : Nat)), .int .i64 ((rc : Nat)), .int .i64 ((most : Int) + 1)]) rfl 3 (.tmp 39) (.tmp 37) rfl szInt rfl rfl rfl rfl H2.out (by simp) rfl ?_); intro w9 h9; have H3 := hide h9; clear h9 H2)
          | (go_at_call 65; refine (lsize_calls (l := ⟨0, half, next, rc, most + 1⟩) H3.out.f2.f1 HMO.out).mono ?_; rintro x w4 ⟨rfl, hw4⟩; subst hw4)
          | (go_at_call 70; refine (put_calls (l := ⟨0, half, next, rc, most + 1⟩) H3.out.f2 mem0 HCO.out HGD.out HOP.out (by omega) (by omega) (by rw [cutB_len]; exact HP0.out)).mono ?_; rintro x w5 ⟨rfl, h5⟩; rw [HPU.out]; have H5 := hide h5.f1.d2; clear h5 H3)
          | ((with_reducible refine wpList_storeF_st (cs := [.pointer (some ⟨gd, 0, none⟩), .int .i64 (0), .int .i64 ((half : Nat)), .int .i64 ((next : Nat)), .int .i64 ((rc : Nat)), .int .i64 ((most : Int) + 1)]) (ds := [.pointer (some ⟨gd, 0, none⟩), .int .i64 ((most : Int) + 1), .int .i64 ((half : Nat)), .int .i64 ((next : Nat)), .int .i64 ((rc : Nat)), .int .i64 ((most : Int) + 1)]) rfl 3 (.tmp 59) (.tmp 54) rfl szInt rfl rfl rfl rfl H5.out (by simp) rfl ?_); intro w9 h9; have H6 := hide h9; clear h9 H5)
          | ((with_reducible refine wpList_storeF_st (cs := [.pointer (some ⟨gd, 0, none⟩), .int .i64 ((most : Int) + 1), .int .i64 ((half : Nat)), .int .i64 ((next : Nat)), .int .i64 ((rc : Nat)), .int .i64 ((most : Int) + 1)]) (ds := [.pointer (some ⟨gd, 0, none⟩), .int .i64 ((most : Int) + 1), .int .i64 (0), .int .i64 ((next : Nat)), .int .i64 ((rc : Nat)), .int .i64 ((most : Int) + 1)]) rfl 3 (.tmp 61) (.tmp 55) rfl szInt rfl rfl rfl rfl H6.out (by simp) rfl ?_); intro w9 h9; have H7 := hide h9; clear h9 H6)
          | ((with_reducible refine wpList_storeF_st (cs := [.pointer (some ⟨gd, 0, none⟩), .int .i64 ((most : Int) + 1), .int .i64 (0), .int .i64 ((next : Nat)), .int .i64 ((rc : Nat)), .int .i64 ((most : Int) + 1)]) (ds := [.pointer (some ⟨gd, 0, none⟩), .int .i64 ((most : Int) + 1), .int .i64 (0), .int .i64 ((partsOf t.length : Nat)), .int .i64 ((rc : Nat)), .int .i64 ((most : Int) + 1)]) rfl 3 (.tmp 63) (.tmp 57) rfl szInt rfl rfl rfl rfl H7.out (by simp) rfl ?_); intro w9 h9; have H8 := hide h9; clear h9 H7)
          | ((with_reducible refine wpList_storeF_st (cs := [.pointer (some ⟨gd, 0, none⟩), .int .i64 ((most : Int) + 1), .int .i64 (0), .int .i64 ((partsOf t.length : Nat)), .int .i64 ((rc : Nat)), .int .i64 ((most : Int) + 1)]) (ds := [.pointer (some ⟨gd, 0, none⟩), .int .i64 ((most : Int) + 1), .int .i64 (0), .int .i64 ((partsOf t.length : Nat)), .int .i64 (1), .int .i64 ((most : Int) + 1)]) rfl 3 (.tmp 65) (.const (.int .i64 1)) rfl szInt rfl rfl rfl rfl H8.out (by simp) rfl ?_); intro w9 h9; have H9 := hide h9; clear h9 H8))
        go_ret
        have h10 := H9.out
        rw [show (most : Int) + 1 = ((most + 1 : Nat) : Int) from by omega] at h10
        rewrite [HFD.out]
        exact ⟨rfl, h10⟩
      · have hRb : (R == 0) = false := by rw [beq_eq_false_iff_ne]; exact hR0
        have hRt : (R != 0) = true := by rw [bne, hRb]; rfl
        have HFD := hide (hfd.trans (if_neg hR0))
        clear hfd hR hR0
        go_enter Tryz.func39, Tryz.ntmps39
        go_wp2_with (first
          | (go_at_call 43; refine (fits_calls (l := ⟨0, half, next, rc, most⟩) H.out HM.out HMO.out HP0.out).mono ?_; rintro z w1 ⟨rfl, h1⟩; rw [HFI.out]; have x1 : w1.cell? ⟨gl, 1, none⟩ = some (.int .i64 (0)) := h1.blk_cell mem0 1; have x2 : w1.cell? ⟨gl, 2, none⟩ = some (.int .i64 ((half : Nat))) := h1.blk_cell mem0 2; have x5 : w1.cell? ⟨gl, 5, none⟩ = some (.int .i64 (most : Nat)) := h1.blk_cell mem0 5; have H1 := hide h1; clear h1 H)
          | (go_at_call 69; refine (cut_calls (gen := most + 1) (rc := 0) H1.out (up2 HM.out) (by omega) (by omega) (by decide) HP0.out).mono ?_; rintro z w2 ⟨vp, rfl, h2⟩; obtain ⟨bq, cq, hvq, _⟩ := h2.sl_form mem0; rw [cutB_len] at hvq; subst hvq; have H2 := hide h2.f1; clear h2 H1)
          | ((with_reducible refine wpList_storeF_st (cs := [.pointer (some ⟨gd, 0, none⟩), .int .i64 (0), .int .i64 ((half : Nat)), .int .i64 ((next : Nat)), .int .i64 ((rc : Nat)), .int .i64 ((most : Nat))]) (ds := [.pointer (some ⟨gd, 0, none⟩), .int .i64 (0), .int .i64 ((half : Nat)), .int .i64 ((next : Nat)), .int .i64 ((rc : Nat)), .int .i64 ((most : Int) + 1)]) rfl 3 (.tmp 39) (.tmp 37) rfl szInt rfl rfl rfl rfl H2.out (by simp) rfl ?_); intro w9 h9; have H3 := hide h9; clear h9 H2)
          | (go_at_call 65; refine (lsize_calls (l := ⟨0, half, next, rc, most + 1⟩) H3.out.f2.f1 HMO.out).mono ?_; rintro x w4 ⟨rfl, hw4⟩; subst hw4)
          | (go_at_call 70; refine (put_calls (l := ⟨0, half, next, rc, most + 1⟩) H3.out.f2 mem0 HCO.out HGD.out HOP.out (by omega) (by omega) (by rw [cutB_len]; exact HP0.out)).mono ?_; rintro x w5 ⟨rfl, h5⟩; rw [HPU.out]; have H5 := hide h5.f1.d2; clear h5 H3))
        go_ret
        rw [HFD.out]
        exact ⟨rfl, H5.out⟩
    · have hgI : (0 : Int) < gen := by omega
      rcases (show half = 0 ∨ half = 1 by omega) with hz2 | hz2
      · subst hz2
        have hfd : freshD d ⟨gen, 0, next, rc, most⟩ t = (if (putD d ((d.last.length : Int) / 2) (cutB (most + 1) 0 t)).2 = 0 then (0, (putD d ((d.last.length : Int) / 2) (cutB (most + 1) 0 t)).1, ⟨most + 1, 1, partsOf t.length, 1, most + 1⟩) else ((putD d ((d.last.length : Int) / 2) (cutB (most + 1) 0 t)).2, (putD d ((d.last.length : Int) / 2) (cutB (most + 1) 0 t)).1, ⟨gen, 0, next, rc, most + 1⟩)) := by
          unfold freshD; rw [if_neg hfit]; simp only [hz, if_true, Nat.sub_zero, hn]
        clear hfit hp hn hn0
        obtain ⟨R, hR⟩ : ∃ R, (putD d ((d.last.length : Int) / 2) (cutB (most + 1) 0 t)).2 = R := ⟨_, rfl⟩
        rw [hR] at hfd
        have HPU := hide hR
        by_cases hR0 : R = 0
        · subst hR0
          have HFD := hide (hfd.trans (if_pos rfl))
          clear hfd hR
          go_enter Tryz.func39, Tryz.ntmps39
          go_wp2_with (first
            | (go_at_call 43; refine (fits_calls (l := ⟨gen, 0, next, rc, most⟩) H.out HM.out HMO.out HP0.out).mono ?_; rintro z w1 ⟨rfl, h1⟩; rw [HFI.out]; have x1 : w1.cell? ⟨gl, 1, none⟩ = some (.int .i64 ((gen : Nat))) := h1.blk_cell mem0 1; have x2 : w1.cell? ⟨gl, 2, none⟩ = some (.int .i64 (0)) := h1.blk_cell mem0 2; have x5 : w1.cell? ⟨gl, 5, none⟩ = some (.int .i64 (most : Nat)) := h1.blk_cell mem0 5; have H1 := hide h1; clear h1 H)
            | (go_at_call 69; refine (cut_calls (gen := most + 1) (rc := 0) H1.out (up2 HM.out) (by omega) (by omega) (by decide) HP0.out).mono ?_; rintro z w2 ⟨vp, rfl, h2⟩; obtain ⟨bq, cq, hvq, _⟩ := h2.sl_form mem0; rw [cutB_len] at hvq; subst hvq; have H2 := hide h2.f1; clear h2 H1)
            | ((with_reducible refine wpList_storeF_st (cs := [.pointer (some ⟨gd, 0, none⟩), .int .i64 ((gen : Nat)), .int .i64 (0), .int .i64 ((next : Nat)), .int .i64 ((rc : Nat)), .int .i64 ((most : Nat))]) (ds := [.pointer (some ⟨gd, 0, none⟩), .int .i64 ((gen : Nat)), .int .i64 (0), .int .i64 ((next : Nat)), .int .i64 ((rc : Nat)), .int .i64 ((most : Int) + 1)]) rfl 3 (.tmp 39) (.tmp 37) rfl szInt rfl rfl rfl rfl H2.out (by simp) rfl ?_); intro w9 h9; have H3 := hide h9; clear h9 H2)
            | (go_at_call 65; refine (lsize_calls (l := ⟨gen, 0, next, rc, most + 1⟩) H3.out.f2.f1 HMO.out).mono ?_; rintro x w4 ⟨rfl, hw4⟩; subst hw4)
            | (go_at_call 70; refine (put_calls (l := ⟨gen, 0, next, rc, most + 1⟩) H3.out.f2 mem0 HCO.out HGD.out HOP.out (by omega) (by omega) (by rw [cutB_len]; exact HP0.out)).mono ?_; rintro x w5 ⟨rfl, h5⟩; rw [HPU.out]; have H5 := hide h5.f1.d2; clear h5 H3)
            | ((with_reducible refine wpList_storeF_st (cs := [.pointer (some ⟨gd, 0, none⟩), .int .i64 ((gen : Nat)), .int .i64 (0), .int .i64 ((next : Nat)), .int .i64 ((rc : Nat)), .int .i64 ((most : Int) + 1)]) (ds := [.pointer (some ⟨gd, 0, none⟩), .int .i64 ((most : Int) + 1), .int .i64 (0), .int .i64 ((next : Nat)), .int .i64 ((rc : Nat)), .int .i64 ((most : Int) + 1)]) rfl 3 (.tmp 59) (.tmp 54) rfl szInt rfl rfl rfl rfl H5.out (by simp) rfl ?_); intro w9 h9; have H6 := hide h9; clear h9 H5)
            | ((with_reducible refine wpList_storeF_st (cs := [.pointer (some ⟨gd, 0, none⟩), .int .i64 ((most : Int) + 1), .int .i64 (0), .int .i64 ((next : Nat)), .int .i64 ((rc : Nat)), .int .i64 ((most : Int) + 1)]) (ds := [.pointer (some ⟨gd, 0, none⟩), .int .i64 ((most : Int) + 1), .int .i64 (1), .int .i64 ((next : Nat)), .int .i64 ((rc : Nat)), .int .i64 ((most : Int) + 1)]) rfl 3 (.tmp 61) (.tmp 55) rfl szInt rfl rfl rfl rfl H6.out (by simp) rfl ?_); intro w9 h9; have H7 := hide h9; clear h9 H6)
            | ((with_reducible refine wpList_storeF_st (cs := [.pointer (some ⟨gd, 0, none⟩), .int .i64 ((most : Int) + 1), .int .i64 (1), .int .i64 ((next : Nat)), .int .i64 ((rc : Nat)), .int .i64 ((most : Int) + 1)]) (ds := [.pointer (some ⟨gd, 0, none⟩), .int .i64 ((most : Int) + 1), .int .i64 (1), .int .i64 ((partsOf t.length : Nat)), .int .i64 ((rc : Nat)), .int .i64 ((most : Int) + 1)]) rfl 3 (.tmp 63) (.tmp 57) rfl szInt rfl rfl rfl rfl H7.out (by simp) rfl ?_); intro w9 h9; have H8 := hide h9; clear h9 H7)
            | ((with_reducible refine wpList_storeF_st (cs := [.pointer (some ⟨gd, 0, none⟩), .int .i64 ((most : Int) + 1), .int .i64 (1), .int .i64 ((partsOf t.length : Nat)), .int .i64 ((rc : Nat)), .int .i64 ((most : Int) + 1)]) (ds := [.pointer (some ⟨gd, 0, none⟩), .int .i64 ((most : Int) + 1), .int .i64 (1), .int .i64 ((partsOf t.length : Nat)), .int .i64 (1), .int .i64 ((most : Int) + 1)]) rfl 3 (.tmp 65) (.const (.int .i64 1)) rfl szInt rfl rfl rfl rfl H8.out (by simp) rfl ?_); intro w9 h9; have H9 := hide h9; clear h9 H8))
          go_ret
          have h10 := H9.out
          rw [show (most : Int) + 1 = ((most + 1 : Nat) : Int) from by omega] at h10
          rewrite [HFD.out]
          exact ⟨rfl, h10⟩
        · have hRb : (R == 0) = false := by rw [beq_eq_false_iff_ne]; exact hR0
          have hRt : (R != 0) = true := by rw [bne, hRb]; rfl
          have HFD := hide (hfd.trans (if_neg hR0))
          clear hfd hR hR0
          go_enter Tryz.func39, Tryz.ntmps39
          go_wp2_with (first
            | (go_at_call 43; refine (fits_calls (l := ⟨gen, 0, next, rc, most⟩) H.out HM.out HMO.out HP0.out).mono ?_; rintro z w1 ⟨rfl, h1⟩; rw [HFI.out]; have x1 : w1.cell? ⟨gl, 1, none⟩ = some (.int .i64 ((gen : Nat))) := h1.blk_cell mem0 1; have x2 : w1.cell? ⟨gl, 2, none⟩ = some (.int .i64 (0)) := h1.blk_cell mem0 2; have x5 : w1.cell? ⟨gl, 5, none⟩ = some (.int .i64 (most : Nat)) := h1.blk_cell mem0 5; have H1 := hide h1; clear h1 H)
            | (go_at_call 69; refine (cut_calls (gen := most + 1) (rc := 0) H1.out (up2 HM.out) (by omega) (by omega) (by decide) HP0.out).mono ?_; rintro z w2 ⟨vp, rfl, h2⟩; obtain ⟨bq, cq, hvq, _⟩ := h2.sl_form mem0; rw [cutB_len] at hvq; subst hvq; have H2 := hide h2.f1; clear h2 H1)
            | ((with_reducible refine wpList_storeF_st (cs := [.pointer (some ⟨gd, 0, none⟩), .int .i64 ((gen : Nat)), .int .i64 (0), .int .i64 ((next : Nat)), .int .i64 ((rc : Nat)), .int .i64 ((most : Nat))]) (ds := [.pointer (some ⟨gd, 0, none⟩), .int .i64 ((gen : Nat)), .int .i64 (0), .int .i64 ((next : Nat)), .int .i64 ((rc : Nat)), .int .i64 ((most : Int) + 1)]) rfl 3 (.tmp 39) (.tmp 37) rfl szInt rfl rfl rfl rfl H2.out (by simp) rfl ?_); intro w9 h9; have H3 := hide h9; clear h9 H2)
            | (go_at_call 65; refine (lsize_calls (l := ⟨gen, 0, next, rc, most + 1⟩) H3.out.f2.f1 HMO.out).mono ?_; rintro x w4 ⟨rfl, hw4⟩; subst hw4)
            | (go_at_call 70; refine (put_calls (l := ⟨gen, 0, next, rc, most + 1⟩) H3.out.f2 mem0 HCO.out HGD.out HOP.out (by omega) (by omega) (by rw [cutB_len]; exact HP0.out)).mono ?_; rintro x w5 ⟨rfl, h5⟩; rw [HPU.out]; have H5 := hide h5.f1.d2; clear h5 H3))
          go_ret
          rw [HFD.out]
          exact ⟨rfl, H5.out⟩
      · subst hz2
        have hfd : freshD d ⟨gen, 1, next, rc, most⟩ t = (if (putD d 0 (cutB (most + 1) 0 t)).2 = 0 then (0, (putD d 0 (cutB (most + 1) 0 t)).1, ⟨most + 1, 0, partsOf t.length, 1, most + 1⟩) else ((putD d 0 (cutB (most + 1) 0 t)).2, (putD d 0 (cutB (most + 1) 0 t)).1, ⟨gen, 1, next, rc, most + 1⟩)) := by
          unfold freshD; rw [if_neg hfit]; simp only [hz, if_true, Nat.sub_self, hn0]
        clear hfit hp hn hn0
        obtain ⟨R, hR⟩ : ∃ R, (putD d 0 (cutB (most + 1) 0 t)).2 = R := ⟨_, rfl⟩
        rw [hR] at hfd
        have HPU := hide hR
        by_cases hR0 : R = 0
        · subst hR0
          have HFD := hide (hfd.trans (if_pos rfl))
          clear hfd hR
          go_enter Tryz.func39, Tryz.ntmps39
          go_wp2_with (first
            | (go_at_call 43; refine (fits_calls (l := ⟨gen, 1, next, rc, most⟩) H.out HM.out HMO.out HP0.out).mono ?_; rintro z w1 ⟨rfl, h1⟩; rw [HFI.out]; have x1 : w1.cell? ⟨gl, 1, none⟩ = some (.int .i64 ((gen : Nat))) := h1.blk_cell mem0 1; have x2 : w1.cell? ⟨gl, 2, none⟩ = some (.int .i64 (1)) := h1.blk_cell mem0 2; have x5 : w1.cell? ⟨gl, 5, none⟩ = some (.int .i64 (most : Nat)) := h1.blk_cell mem0 5; have H1 := hide h1; clear h1 H)
            | (go_at_call 69; refine (cut_calls (gen := most + 1) (rc := 0) H1.out (up2 HM.out) (by omega) (by omega) (by decide) HP0.out).mono ?_; rintro z w2 ⟨vp, rfl, h2⟩; obtain ⟨bq, cq, hvq, _⟩ := h2.sl_form mem0; rw [cutB_len] at hvq; subst hvq; have H2 := hide h2.f1; clear h2 H1)
            | ((with_reducible refine wpList_storeF_st (cs := [.pointer (some ⟨gd, 0, none⟩), .int .i64 ((gen : Nat)), .int .i64 (1), .int .i64 ((next : Nat)), .int .i64 ((rc : Nat)), .int .i64 ((most : Nat))]) (ds := [.pointer (some ⟨gd, 0, none⟩), .int .i64 ((gen : Nat)), .int .i64 (1), .int .i64 ((next : Nat)), .int .i64 ((rc : Nat)), .int .i64 ((most : Int) + 1)]) rfl 3 (.tmp 39) (.tmp 37) rfl szInt rfl rfl rfl rfl H2.out (by simp) rfl ?_); intro w9 h9; have H3 := hide h9; clear h9 H2)
            | (go_at_call 65; refine (lsize_calls (l := ⟨gen, 1, next, rc, most + 1⟩) H3.out.f2.f1 HMO.out).mono ?_; rintro x w4 ⟨rfl, hw4⟩; subst hw4)
            | (go_at_call 70; refine (put_calls (l := ⟨gen, 1, next, rc, most + 1⟩) H3.out.f2 mem0 HCO.out HGD.out HOP.out (by omega) (by omega) (by rw [cutB_len]; exact HP0.out)).mono ?_; rintro x w5 ⟨rfl, h5⟩; rw [HPU.out]; have H5 := hide h5.f1.d2; clear h5 H3)
            | ((with_reducible refine wpList_storeF_st (cs := [.pointer (some ⟨gd, 0, none⟩), .int .i64 ((gen : Nat)), .int .i64 (1), .int .i64 ((next : Nat)), .int .i64 ((rc : Nat)), .int .i64 ((most : Int) + 1)]) (ds := [.pointer (some ⟨gd, 0, none⟩), .int .i64 ((most : Int) + 1), .int .i64 (1), .int .i64 ((next : Nat)), .int .i64 ((rc : Nat)), .int .i64 ((most : Int) + 1)]) rfl 3 (.tmp 59) (.tmp 54) rfl szInt rfl rfl rfl rfl H5.out (by simp) rfl ?_); intro w9 h9; have H6 := hide h9; clear h9 H5)
            | ((with_reducible refine wpList_storeF_st (cs := [.pointer (some ⟨gd, 0, none⟩), .int .i64 ((most : Int) + 1), .int .i64 (1), .int .i64 ((next : Nat)), .int .i64 ((rc : Nat)), .int .i64 ((most : Int) + 1)]) (ds := [.pointer (some ⟨gd, 0, none⟩), .int .i64 ((most : Int) + 1), .int .i64 (0), .int .i64 ((next : Nat)), .int .i64 ((rc : Nat)), .int .i64 ((most : Int) + 1)]) rfl 3 (.tmp 61) (.tmp 55) rfl szInt rfl rfl rfl rfl H6.out (by simp) rfl ?_); intro w9 h9; have H7 := hide h9; clear h9 H6)
            | ((with_reducible refine wpList_storeF_st (cs := [.pointer (some ⟨gd, 0, none⟩), .int .i64 ((most : Int) + 1), .int .i64 (0), .int .i64 ((next : Nat)), .int .i64 ((rc : Nat)), .int .i64 ((most : Int) + 1)]) (ds := [.pointer (some ⟨gd, 0, none⟩), .int .i64 ((most : Int) + 1), .int .i64 (0), .int .i64 ((partsOf t.length : Nat)), .int .i64 ((rc : Nat)), .int .i64 ((most : Int) + 1)]) rfl 3 (.tmp 63) (.tmp 57) rfl szInt rfl rfl rfl rfl H7.out (by simp) rfl ?_); intro w9 h9; have H8 := hide h9; clear h9 H7)
            | ((with_reducible refine wpList_storeF_st (cs := [.pointer (some ⟨gd, 0, none⟩), .int .i64 ((most : Int) + 1), .int .i64 (0), .int .i64 ((partsOf t.length : Nat)), .int .i64 ((rc : Nat)), .int .i64 ((most : Int) + 1)]) (ds := [.pointer (some ⟨gd, 0, none⟩), .int .i64 ((most : Int) + 1), .int .i64 (0), .int .i64 ((partsOf t.length : Nat)), .int .i64 (1), .int .i64 ((most : Int) + 1)]) rfl 3 (.tmp 65) (.const (.int .i64 1)) rfl szInt rfl rfl rfl rfl H8.out (by simp) rfl ?_); intro w9 h9; have H9 := hide h9; clear h9 H8))
          go_ret
          have h10 := H9.out
          rw [show (most : Int) + 1 = ((most + 1 : Nat) : Int) from by omega] at h10
          rewrite [HFD.out]
          exact ⟨rfl, h10⟩
        · have hRb : (R == 0) = false := by rw [beq_eq_false_iff_ne]; exact hR0
          have hRt : (R != 0) = true := by rw [bne, hRb]; rfl
          have HFD := hide (hfd.trans (if_neg hR0))
          clear hfd hR hR0
          go_enter Tryz.func39, Tryz.ntmps39
          go_wp2_with (first
            | (go_at_call 43; refine (fits_calls (l := ⟨gen, 1, next, rc, most⟩) H.out HM.out HMO.out HP0.out).mono ?_; rintro z w1 ⟨rfl, h1⟩; rw [HFI.out]; have x1 : w1.cell? ⟨gl, 1, none⟩ = some (.int .i64 ((gen : Nat))) := h1.blk_cell mem0 1; have x2 : w1.cell? ⟨gl, 2, none⟩ = some (.int .i64 (1)) := h1.blk_cell mem0 2; have x5 : w1.cell? ⟨gl, 5, none⟩ = some (.int .i64 (most : Nat)) := h1.blk_cell mem0 5; have H1 := hide h1; clear h1 H)
            | (go_at_call 69; refine (cut_calls (gen := most + 1) (rc := 0) H1.out (up2 HM.out) (by omega) (by omega) (by decide) HP0.out).mono ?_; rintro z w2 ⟨vp, rfl, h2⟩; obtain ⟨bq, cq, hvq, _⟩ := h2.sl_form mem0; rw [cutB_len] at hvq; subst hvq; have H2 := hide h2.f1; clear h2 H1)
            | ((with_reducible refine wpList_storeF_st (cs := [.pointer (some ⟨gd, 0, none⟩), .int .i64 ((gen : Nat)), .int .i64 (1), .int .i64 ((next : Nat)), .int .i64 ((rc : Nat)), .int .i64 ((most : Nat))]) (ds := [.pointer (some ⟨gd, 0, none⟩), .int .i64 ((gen : Nat)), .int .i64 (1), .int .i64 ((next : Nat)), .int .i64 ((rc : Nat)), .int .i64 ((most : Int) + 1)]) rfl 3 (.tmp 39) (.tmp 37) rfl szInt rfl rfl rfl rfl H2.out (by simp) rfl ?_); intro w9 h9; have H3 := hide h9; clear h9 H2)
            | (go_at_call 65; refine (lsize_calls (l := ⟨gen, 1, next, rc, most + 1⟩) H3.out.f2.f1 HMO.out).mono ?_; rintro x w4 ⟨rfl, hw4⟩; subst hw4)
            | (go_at_call 70; refine (put_calls (l := ⟨gen, 1, next, rc, most + 1⟩) H3.out.f2 mem0 HCO.out HGD.out HOP.out (by omega) (by omega) (by rw [cutB_len]; exact HP0.out)).mono ?_; rintro x w5 ⟨rfl, h5⟩; rw [HPU.out]; have H5 := hide h5.f1.d2; clear h5 H3))
          go_ret
          rw [HFD.out]
          exact ⟨rfl, H5.out⟩
end Go.Proofs.YtcgnkloljfgiaaaGreatDoor
