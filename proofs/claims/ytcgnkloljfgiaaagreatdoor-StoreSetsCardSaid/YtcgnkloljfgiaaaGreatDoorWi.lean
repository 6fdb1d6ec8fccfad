/-
  package wal: its disk, size, put.
-/
import Derived.Test.YtcgnkloljfgiaaaGreatDoorWh
import Derived.Test.YtcgnkloljfgiaaaGreatDoorDkk
namespace Go.Proofs.YtcgnkloljfgiaaaGreatDoor
open Go.RowKit Go.Maps Go.MapKept
variable {b : Env} {L : List HP} {w : World} {gd : Nat} {d : Dk}

theorem dsize_calls (h : St b (HP.disk gd d :: L) w) : Calls Tryz.prog 62 #[.pointer (some ⟨gd, 0, none⟩)] w fun x w' => x = .returned (.int .i64 d.last.length) ∧ w = w' := by
  obtain ⟨e, hl, hs⟩ := h
  exact size_calls hs
theorem dread_calls (h : St b (HP.disk gd d :: L) w) (hOk : d.Ok) (n : Int) : Calls Tryz.prog 60 #[.pointer (some ⟨gd, 0, none⟩), .int .i64 n] w fun x w' => ∃ base cap, x = .returned (.tuple #[.slice base (d.readB n).length cap, .int .i64 (d.readR n)]) ∧ St b (HP.rows 5 byteE (.slice base (d.readB n).length cap) (d.readB n) :: HP.disk gd d :: L) w' := by
  obtain ⟨e, hl, hs⟩ := h
  refine (read_gen hs hOk n).mono ?_
  rintro x w' ⟨base, cap, rfl, h'⟩
  exact ⟨base, cap, rfl, e, hl, Sat.rows_shut (cs := (d.readB n).map B8) h' (rds_bytes e.h _)⟩
theorem dwrite_calls (h : St b (HP.disk gd d :: L) w) (hg : d.Good) (n : Int) {v : Value} {l : Byt} (hm : HP.sl byteE v l ∈ L) : Calls Tryz.prog 100 #[.pointer (some ⟨gd, 0, none⟩), .int .i64 n, v] w fun x w' => x = .returned (.int .i64 (d.writeR n l)) ∧ St b (HP.disk gd (d.writeD n l) :: L) w' := by
  obtain ⟨e, hl, hs⟩ := h
  refine (write_gen hs hg n v l (fun d' w' hs' => ?_)).mono ?_
  · obtain ⟨cs, hr, hv, _⟩ := hs'.sl_mem (up1 hm)
    rw [sc_rds hr] at hv
    exact hv.sat hs'
  · rintro x w' ⟨rfl, h'⟩
    exact ⟨rfl, e, hl, h'⟩
theorem dflush_calls (h : St b (HP.disk gd d :: L) w) (hg : d.Good) : Calls Tryz.prog 101 #[.pointer (some ⟨gd, 0, none⟩)] w fun x w' => x = .returned (.int .i64 d.flushR) ∧ St b (HP.disk gd d.flushD :: L) w' := by
  obtain ⟨e, hl, hs⟩ := h
  refine (flush_gen hs hg).mono ?_
  rintro x w' ⟨rfl, h'⟩
  exact ⟨rfl, e, hl, h'⟩
structure LogR where
  gen : Nat
  half : Nat
  next : Nat
  rc : Nat
  most : Nat
abbrev logC (gd : Nat) (l : LogR) : List Value := [.pointer (some ⟨gd, 0, none⟩), .int .i64 (l.gen : Nat), .int .i64 (l.half : Nat), .int .i64 (l.next : Nat), .int .i64 (l.rc : Nat), .int .i64 (l.most : Nat)]
abbrev HP.log (gl gd : Nat) (l : LogR) : HP := HP.blk gl (.cells (logC gd l).toArray 118)
theorem lsize_calls {gl : Nat} {l : LogR} (h : St b (HP.log gl gd l :: HP.disk gd d :: L) w) (hmost : d.last.length ≤ 256) : Calls Tryz.prog 65 #[.pointer (some ⟨gl, 0, none⟩)] w fun x w' => x = .returned (.int .i64 ((d.last.length : Int) / 2)) ∧ w = w' := by
  have H := hide h
  have c0 : w.cell? ⟨gl, 0, none⟩ = some (.pointer (some ⟨gd, 0, none⟩)) := h.blk_cell (c := (logC gd l).toArray) (t := 118) (fz := (0, 0)) mem0 0
  have hge : (0 : Int) ≤ d.last.length := by omega
  have hge2 : (d.last.length : Int) ≤ 256 := by omega
  clear h
  go_enter Tryz.func65, Tryz.ntmps65
  go_wp2_with (go_at_call 62; refine (dsize_calls H.out.f1).mono ?_; rintro x w1 ⟨rfl, hw1⟩; subst hw1)
  go_ret
  exact ⟨rfl, rfl⟩
def putD : Dk → Int → List PartR → Dk × Int
  | d, _, [] => (d.flushD, d.flushR)
  | d, n, p :: ps => if d.writeR n (partB p) = 0 then putD (d.writeD n (partB p)) (n + 1) ps else (d.writeD n (partB p), d.writeR n (partB p))
theorem writeD_ops (d : Dk) (n : Int) (l : Byt) : (d.writeD n l).ops ≤ d.ops + 1 := by
  unfold Dk.writeD
  split
  · omega
  · split
    · omega
    · split
      · simp only []; omega
      · unfold Dk.wrote Dk.spend
        split <;> (simp only []; omega)
def PutAt (b : Env) (L : List HP) (gd : Nat) (d : Dk) (n : Int) (ps : List PartR) (i : Value) (wr : World) : Prop := ∃ (k : Nat) (d' : Dk), k ≤ ps.length ∧ i = .int .i64 k ∧ putD d n ps = putD d' (n + k) (ps.drop k) ∧ d'.Good ∧ d'.ops ≤ d.ops + k ∧ St b (HP.disk gd d' :: L) wr
set_option linter.unusedSimpArgs false in
set_option maxRecDepth 100000 in
set_option maxHeartbeats 4000000 in
theorem put_calls {gl : Nat} {l : LogR} {v : Value} {ps : List PartR} {n : Int} (h : St b (HP.disk gd d :: HP.log gl gd l :: L) w) (hm : HP.sl partE v ps ∈ L) (hok : ∀ p ∈ ps, p.ok) (hg : d.Good) (hops : d.ops ≤ 100000000) (hn0 : 0 ≤ n) (hn1 : n ≤ 1000) (hl : ps.length ≤ 255) :
    Calls Tryz.prog 70 #[.pointer (some ⟨gl, 0, none⟩), .int .i64 n, v] w fun x w' => x = .returned (.int .i64 (putD d n ps).2) ∧ St b (HP.disk gd (putD d n ps).1 :: HP.log gl gd l :: L) w' := by
  obtain ⟨bp, cp, rfl, _, _⟩ := h.sl_form (up2 hm)
  have hpI : (ps.length : Int) ≤ 255 := by omega
  have H := hide h
  have HM := hide hm
  have HOK := hide hok
  have HG := hide hg
  clear h hm hok hg
  go_enter Tryz.func70, Tryz.ntmps70
  go_wp2_with fail
  go_loopw [13] (fun i wr => PutAt b (HP.log gl gd l :: L) gd d n ps i wr) (fun i _ => ps.length - (intOf i).toNat)
  case atStart => exact ⟨0, d, by omega, rfl, by simp, HG.out, by omega, H.out⟩
  case round =>
    obtain ⟨k, d', hk, rfl, hpd, hgd, hop, hs⟩ := hrel
    have c0 : wr.cell? ⟨gl, 0, none⟩ = some (.pointer (some ⟨gd, 0, none⟩)) := hs.blk_cell (c := (logC gd l).toArray) (t := 118) (fz := (0, 0)) mem1 0
    have H1 := hide hs
    have HPD := hide hpd
    have HGD := hide hgd
    clear hs hpd hgd H
    by_cases hlt : k < ps.length
    · have hlt' : (k : Int) < ps.length := by omega
      obtain ⟨gp, op, hgp⟩ := H1.out.sl_base (E := partE) (up2 HM.out) (by omega) (by decide)
      subst hgp
      obtain ⟨bd, cd, hcs, h2⟩ := H1.out.part_elem (up2 HM.out) hlt
      have hok := HOK.out ps[k] (List.getElem_mem hlt)
      have hdr := List.drop_eq_getElem_cons hlt
      obtain ⟨p, hp⟩ : ∃ p, ps[k] = p := ⟨_, rfl⟩
      rw [hp] at hcs h2 hok hdr
      have hpd := HPD.out
      rw [hdr] at hpd
      have HPD2 := hide hpd
      have HCS := hide hcs
      have HOK2 := hide hok
      have hb64 := partB_len (p := p) hok.2.2.2.2.2.2
      have HB64 := hide hb64
      have ONE5 : Hid (∀ v ∈ ([.int .i64 (p.gen : Nat), .int .i64 (p.rc : Nat), .int .i64 (p.n : Nat), .int .i64 (p.of : Nat), .slice bd p.data.length cd] : List Value), v.oneCell' = true) := hide (by intro v hv; simp only [List.mem_cons, List.not_mem_nil, or_false] at hv; rcases hv with rfl | rfl | rfl | rfl | rfl <;> rfl)
      have H2 := hide h2
      obtain ⟨R, hR⟩ : ∃ R, d'.writeR (n + k) (partB p) = R := ⟨_, rfl⟩
      have HR := hide hR
      have hwo := writeD_ops d' (n + k) (partB p)
      have hwg := writeD_good HGD.out (by omega) (n + k) (partB p)
      have HWG := hide hwg
      have HWO := hide hwo
      clear hcs h2 hok hdr hp hpd hb64 H1 HPD hR hwo hwg
      by_cases hR0 : R = 0
      · have HR0 := hide hR0
        subst hR0
        go_wp2_with (first
          | (with_reducible refine wpList_load_ag (cs := [.int .i64 (p.gen : Nat), .int .i64 (p.rc : Nat), .int .i64 (p.n : Nat), .int .i64 (p.of : Nat), .slice bd p.data.length cd]) rfl agPart (.tmp 16) rfl rfl rfl HCS.out ?_)
          | ((with_reducible refine wpList_alloc_ag rfl agPart rfl H2.out ?_); intro g8 w8 h8; have H8 := hide h8; clear h8 H2)
          | ((with_reducible refine wpList_store_ag (cs := [.int .i64 (p.gen : Nat), .int .i64 (p.rc : Nat), .int .i64 (p.n : Nat), .int .i64 (p.of : Nat), .slice bd p.data.length cd]) rfl agPart (.tmp 8) (.tmp 17) rfl rfl rfl rfl rfl ONE5.out H8.out ?_); intro w9 h9; have H9 := hide h9; clear h9 H8)
          | (refine wpList_loadB_st (cs := [.int .i64 (p.gen : Nat), .int .i64 (p.rc : Nat), .int .i64 (p.n : Nat), .int .i64 (p.of : Nat), .slice bd p.data.length cd]) rfl agPart (.tmp 8) rfl rfl rfl H9.out mem0 ?_)
          | (go_at_call 99; refine (bytes_calls H9.out mem1 HOK2.out).mono ?_; rintro z w10 ⟨g7, rfl, h10⟩; have h11 := (h10.bytes_rows (by rw [HB64.out]; unfold maxLen; decide)).persist; rw [HB64.out] at h11; have c1 : w10.cell? ⟨gl, 0, none⟩ = some (.pointer (some ⟨gd, 0, none⟩)) := h11.blk_cell (c := (logC gd l).toArray) (t := 118) (fz := (0, 0)) mem5 0; have H10 := hide h11.f4; clear h10 h11 H9)
          | (go_at_call 100; refine (dwrite_calls H10.out HGD.out (n + k) mem0).mono ?_; rintro z w11 ⟨rfl, h11⟩; rw [HR.out]; have H11 := hide h11.d1.d1.d1.d1; clear h11 H10))
        go_roundw
        case rel => exact ⟨k + 1, _, by omega, by go_num, by rw [HPD2.out, putD, if_pos HR.out]; congr 1; omega, HWG.out, by have := HWO.out; omega, H11.out⟩
        case measure => exact meas_step hlt
      · have hRb : (R == 0) = false := by rw [beq_eq_false_iff_ne]; exact hR0
        have HRn : Hid (¬ d'.writeR (n + k) (partB p) = 0) := hide (by rw [HR.out]; exact hR0)
        clear hR0
        go_wp2_with (first
          | (with_reducible refine wpList_load_ag (cs := [.int .i64 (p.gen : Nat), .int .i64 (p.rc : Nat), .int .i64 (p.n : Nat), .int .i64 (p.of : Nat), .slice bd p.data.length cd]) rfl agPart (.tmp 16) rfl rfl rfl HCS.out ?_)
          | ((with_reducible refine wpList_alloc_ag rfl agPart rfl H2.out ?_); intro g8 w8 h8; have H8 := hide h8; clear h8 H2)
          | ((with_reducible refine wpList_store_ag (cs := [.int .i64 (p.gen : Nat), .int .i64 (p.rc : Nat), .int .i64 (p.n : Nat), .int .i64 (p.of : Nat), .slice bd p.data.length cd]) rfl agPart (.tmp 8) (.tmp 17) rfl rfl rfl rfl rfl ONE5.out H8.out ?_); intro w9 h9; have H9 := hide h9; clear h9 H8)
          | (refine wpList_loadB_st (cs := [.int .i64 (p.gen : Nat), .int .i64 (p.rc : Nat), .int .i64 (p.n : Nat), .int .i64 (p.of : Nat), .slice bd p.data.length cd]) rfl agPart (.tmp 8) rfl rfl rfl H9.out mem0 ?_)
          | (go_at_call 99; refine (bytes_calls H9.out mem1 HOK2.out).mono ?_; rintro z w10 ⟨g7, rfl, h10⟩; have h11 := (h10.bytes_rows (by rw [HB64.out]; unfold maxLen; decide)).persist; rw [HB64.out] at h11; have c1 : w10.cell? ⟨gl, 0, none⟩ = some (.pointer (some ⟨gd, 0, none⟩)) := h11.blk_cell (c := (logC gd l).toArray) (t := 118) (fz := (0, 0)) mem5 0; have H10 := hide h11.f4; clear h10 h11 H9)
          | (go_at_call 100; refine (dwrite_calls H10.out HGD.out (n + k) mem0).mono ?_; rintro z w11 ⟨rfl, h11⟩; rw [HR.out]; have H11 := hide h11.d1.d1.d1.d1; clear h11 H10))
        go_ret
        refine ⟨?_, ?_⟩
        · rw [HPD2.out, putD, if_neg HRn.out, HR.out]; rfl
        · rw [HPD2.out, putD, if_neg HRn.out]; exact H11.out
    · have hkl : ps.drop k = [] := List.drop_of_length_le (by omega)
      have hpd := HPD.out
      rw [hkl] at hpd
      have HPD2 := hide hpd
      have hnlt : ¬ (k : Int) < ps.length := by omega
      clear hkl hpd
      go_wp2_with (go_at_call 101; refine (dflush_calls H1.out HGD.out).mono ?_; rintro z w11 ⟨rfl, h11⟩; have H11 := hide h11; clear h11 H1)
      go_ret
      rw [HPD2.out]
      exact ⟨rfl, H11.out⟩
end Go.Proofs.YtcgnkloljfgiaaaGreatDoor
