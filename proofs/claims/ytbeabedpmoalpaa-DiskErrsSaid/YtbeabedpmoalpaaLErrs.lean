/-
  The law DiskErrs, walked: it answers true.
-/
import Derived.Test.YtbeabedpmoalpaaDk10
import Derived.Test.YtbeabedpmoalpaaOp2
namespace Go.Proofs.Ytbeabedpmoalpaa
open Go.RowKit Go.Maps Go.MapKept
variable {e : Env} {b : Nat} {d : Dk} {L : List HP} {w : World}

theorem row_zeros {g n cap : Nat} (h : Sat e (HP.row 5 1 (.slice (some ⟨g, 0, none⟩) n cap) n (List.replicate n (B8 0)) :: L) w) : Sat e (HP.row 5 1 (.slice (some ⟨g, 0, none⟩) n cap) (List.replicate n (0 : UInt8)).length ((List.replicate n (0 : UInt8)).map B8) :: L) w := by
  simpa using h

def dE : Dk := (Dk.fresh0 8).fused 1
theorem dE_good : dE.Good := fused_good (fresh0_good 8 (by omega)) 1 (by omega)
theorem dE_has {k : Int} (h : k < 0 ∨ 8 ≤ k) : dE.has k = false := by
  simp [Dk.has, dE, Dk.fused, Dk.fresh0]; omega
theorem dE_write_out {k : Int} (h : k < 0 ∨ 8 ≤ k) (l : List UInt8) : dE.writeR k l = 1 ∧ dE.writeD k l = dE := by
  have h1 := dE_has h
  have h2 : dE.dead = false := rfl
  simp [Dk.writeR, Dk.writeD, h1, h2]
theorem dE_write_len (l : List UInt8) (hl : l.length ≠ 64) : dE.writeR 3 l = 1 ∧ dE.writeD 3 l = dE := by
  have h2 : dE.dead = false := rfl
  simp [Dk.writeR, Dk.writeD, hl, h2]
theorem dE_read {k : Int} (h : k < 0 ∨ 8 ≤ k) : dE.readR k = 1 := by
  have h1 := dE_has h
  have h2 : dE.dead = false := rfl
  simp [Dk.readR, h1, h2]
theorem dE_write (j : Int) (h0 : 0 ≤ j) (h1 : j < 8) (l : List UInt8) (hl : l.length = 64) : dE.writeR j l = 0 ∧ dE.writeD j l = dE.wrote j l ∧ (dE.wrote j l).Good ∧ (dE.wrote j l).dead = false ∧ (dE.wrote j l).fuse = 0 ∧ (dE.wrote j l).ops = 1 ∧ (dE.wrote j l).last = dE.last := by
  have h2 : dE.dead = false := rfl
  have h3 : dE.has j = true := by simp [Dk.has, dE, Dk.fused, Dk.fresh0]; omega
  have h4 : dE.fuse = 1 := rfl
  have h5 : dE.ops = 0 := rfl
  refine ⟨by simp [Dk.writeR, h2, h3, h4, hl], by simp [Dk.writeD, h2, h3, h4, hl], wrote_good dE_good (by rw [h5]; omega) j l hl h3, ?_, ?_, ?_, ?_⟩ <;> simp [Dk.wrote, Dk.spend, h2, h4, h5]

/-- What the law's calls answer, from the second write on. -/
structure ErrsAt (K : Int) (l : List UInt8) (r1 r2 : Int) (dX d3 d4 : Dk) : Prop where
  fx : dE.writeR 3 l = r1 ∧ dE.writeD 3 l = dX
  g : dX.Good
  r : dX.readR K = 1
  w2 : dX.writeR 2 zs = r2 ∧ dX.writeD 2 zs = d3
  g3 : d3.Good
  f3 : d3.flushR = 3 ∧ d3.flushD = d4
  o : d4.ops = 1

theorem errs_no {K : Int} (h : K < 0 ∨ 8 ≤ K) (l : List UInt8) (hl : l.length ≠ 64) : ErrsAt K l 1 0 dE (dE.wrote 2 zs) { dE.wrote 2 zs with dead := true } := by
  obtain ⟨a1, a2, a3, a4, a5, a6, a7⟩ := dE_write 2 (by omega) (by omega) zs (by simp [zs])
  exact ⟨dE_write_len l hl, dE_good, dE_read h, ⟨a1, a2⟩, a3, by simp [Dk.flushR, Dk.flushD, a4, a5], a6⟩

theorem errs_yes {K : Int} (h : K < 0 ∨ 8 ≤ K) (l : List UInt8) (hl : l.length = 64) : ErrsAt K l 0 3 (dE.wrote 3 l) { dE.wrote 3 l with dead := true } { dE.wrote 3 l with dead := true } := by
  obtain ⟨a1, a2, a3, a4, a5, a6, a7⟩ := dE_write 3 (by omega) (by omega) l hl
  have hK : (dE.wrote 3 l).has K = false := by have := dE_has h; unfold Dk.has at this ⊢; rw [a7]; exact this
  have h2 : (dE.wrote 3 l).has 2 = true := by unfold Dk.has; rw [a7]; rfl
  refine ⟨⟨a1, a2⟩, a3, by simp [Dk.readR, a4, hK], ?_, good_with a3 true, by simp [Dk.flushR, Dk.flushD], a6⟩
  have hz : zs.length = 64 := by simp [zs]
  simp [Dk.writeR, Dk.writeD, a4, a5, h2, hz]

set_option maxRecDepth 100000 in
set_option maxHeartbeats 2000000 in
theorem diskErrs_calls (h : Sat e L w) (n m r : Int) (hn1 : -9223372036854775808 ≤ n) (hn2 : n ≤ 9223372036854775807) (hm1 : -9223372036854775808 ≤ m) (hm2 : m ≤ 9223372036854775807) (hr1 : -9223372036854775808 ≤ r) (hr2 : r ≤ 9223372036854775807) :
    Calls Try.prog 5 #[.int .i64 n, .int .i64 m, .int .i64 r] w fun x w' => x = .returned (.bool true) ∧ Sat e L w' := by
  obtain ⟨i0, hi, hz0, hz1, hz2⟩ := info_parts info_u8
  obtain ⟨i1, hi1, hx0, hx1, hx2⟩ := info_parts (show (Try.prog.info? 3).map (fun i => (i.zero, i.size, i.bytes)) = some (some (.int .i64 0), 1, 8) by kernel_rfl)
  have HI := hide hi
  have HI1 := hide hi1
  have HS := hide h
  have n0 := Int.emod_nonneg n (show (5 : Int) ≠ 0 by omega)
  have n1 := Int.emod_lt_of_pos n (show (0 : Int) < 5 by omega)
  have m0 := Int.emod_nonneg m (show (130 : Int) ≠ 0 by omega)
  have m1 := Int.emod_lt_of_pos m (show (0 : Int) < 130 by omega)
  obtain ⟨M, hM⟩ : ∃ M : Nat, m % 130 = M := ⟨(m % 130).toNat, by omega⟩
  rw [hM] at m0 m1
  obtain ⟨J, hJ⟩ : ∃ J : Nat, n % 5 = J := ⟨(n % 5).toNat, by omega⟩
  rw [hJ] at n0 n1
  obtain ⟨K, hK, hK1, hK2⟩ : ∃ K : Int, [Value.int .i64 (-1), .int .i64 8, .int .i64 r, .int .i64 9223372036854775807, .int .i64 (-9223372036854775808)][J]? = some (.int .i64 K) ∧ -9223372036854775808 ≤ K ∧ K ≤ 9223372036854775807 := by
    match J, n1 with
    | 0, _ => exact ⟨_, rfl, by omega, by omega⟩
    | 1, _ => exact ⟨_, rfl, by omega, by omega⟩
    | 2, _ => exact ⟨_, rfl, by omega, by omega⟩
    | 3, _ => exact ⟨_, rfl, by omega, by omega⟩
    | 4, _ => exact ⟨_, rfl, by omega, by omega⟩
    | J + 5, hx => omega
  have HK := hide hK
  clear h hi hi1 hK
  by_cases hin : 0 ≤ K ∧ K < 8
  · have hK' : (8 : Int) < 0 ∨ (8 : Int) ≤ 8 := by omega
    by_cases hM64 : M = 64
    · subst hM64
      have HX := errs_yes hK' (List.replicate 64 (0 : UInt8)) (by simp)
      have FX := hide HX.fx; have HG := hide HX.g; have HR := hide HX.r; have W2 := hide HX.w2; have HG2 := hide HX.g3; have F3 := hide HX.f3; have HO := hide HX.o
      clear HX
      go_enter Try.func5, Try.ntmps5
      go_wp2_with (first
        | (go_at_call 12; refine (known_calls HS.out).mono ?_; rintro x w1 ⟨rfl, h1⟩; have H1 := hide h1; clear h1)
        | (go_at_call 14; refine (new_good H1.out 8 (by omega) (by omega) (by omega)).mono ?_; rintro x w2 ⟨bb, rfl, h2⟩; have H2 := hide h2; clear h2)
        | (go_at_call 21; refine (fuse_calls H2.out 1).mono ?_; rintro x w3 ⟨rfl, h3⟩; have H3 : Hid (Sat e (HP.disk bb dE :: L) w3) := hide h3; clear h3)
        | (go_at_call 13; refine (within_calls _ _ (by omega) (by omega) (by omega) (by omega)).mono ?_; rintro x w4 ⟨rfl, rfl⟩; (first | rw [hJ] | rw [hM]))
        | ((with_reducible refine wpList_build_sl rfl 24 5 _ rfl Try.underlying24 HI1.out hx0 hx1 (by omega) (by omega) (by omega) [Value.int .i64 (-1), .int .i64 8, .int .i64 r, .int .i64 9223372036854775807, .int .i64 (-9223372036854775808)] ?_ rfl (by simp [Value.cells]) H3.out ?_); exact rfl; intro g4 w4 h4; have c4 : w4.cell? ⟨g4, J, none⟩ = some (.int .i64 K) := (h4.row_cell (i := J) (by simp [Value.cells]; omega)).1.trans HK.out; have H4 := hide h4.drop; clear h4 H3)
        | (at_make; (with_reducible refine wpList_make_sl rfl (.tmp 40) (.tmp 40) 32 rfl Try.underlying32 HI.out hz0 hz1 hz2 64 rfl rfl (by omega) (by omega) H4.out (by omega) (by unfold maxLen; omega) ?_); intro g5 w5 h5; rw [made_u8] at h5; have H5 := hide (row_zeros h5); clear h5 H4)
        | (at_make; (with_reducible refine wpList_make_sl rfl (.const (.int .i64 64)) (.const (.int .i64 64)) 32 rfl Try.underlying32 HI.out hz0 hz1 hz2 64 rfl rfl (by omega) (by omega) H5.out (by omega) (by unfold maxLen; omega) ?_); intro g6 w6 h6; rw [made_u8] at h6; have H6 := hide ((zs_row h6).pick [0, 2, 1] 3 (by decide) (by decide) (by simp)); clear h6 H5)
        | (go_at_call 20; refine (write_own _ zs H6.out dE_good _).mono ?_; rintro x w7 ⟨rfl, h7⟩; obtain ⟨a1, a2⟩ := dE_write_out hK' zs; rw [a1]; rw [a2] at h7; have H7 := hide (h7.drop.swap); clear h7 a1 a2 H6)
        | (go_at_call 20; refine (write_own _ _ H7.out dE_good _).mono ?_; rintro x w8 ⟨rfl, h8⟩; obtain ⟨a1, a2⟩ := FX.out; rw [a1]; rw [a2] at h8; have H8 := hide h8.drop; clear h8 a1 a2 H7)
        | (go_at_call 16; refine (read_gen H8.out HG.out.fine.ok _).mono ?_; rintro x w9 ⟨rb, rc, rfl, h9⟩; rw [HR.out]; have H9 := hide h9.drop; clear h9 H8)
        | (at_make; (with_reducible refine wpList_make_sl rfl (.const (.int .i64 64)) (.const (.int .i64 64)) 32 rfl Try.underlying32 HI.out hz0 hz1 hz2 64 rfl rfl (by omega) (by omega) H9.out (by omega) (by unfold maxLen; omega) ?_); intro g10 w10 h10; rw [made_u8] at h10; have H10 := hide (zs_row h10); clear h10 H9)
        | (go_at_call 20; refine (write_own _ zs H10.out HG.out _).mono ?_; rintro x w11 ⟨rfl, h11⟩; obtain ⟨a1, a2⟩ := W2.out; rw [a1]; rw [a2] at h11; clear a1 a2; have H11 := hide h11.drop; clear h11 H10)
        | (go_at_call 22; refine (flush_gen H11.out HG2.out).mono ?_; rintro x w12 ⟨rfl, h12⟩; obtain ⟨a1, a2⟩ := F3.out; rw [a1]; rw [a2] at h12; clear a1 a2; have H12 := hide h12; clear h12 H11)
        | (go_at_call 18; refine (ops_calls H12.out).mono ?_; rintro x w13 ⟨rfl, rfl⟩; rw [HO.out]))
      all_goals (go_ret; exact ⟨rfl, H12.out.drop⟩)
    · have hM65 : (M : Int) ≠ 64 := by omega
      have HX := errs_no hK' (List.replicate M (0 : UInt8)) (by simpa using hM64)
      have FX := hide HX.fx; have HG := hide HX.g; have HR := hide HX.r; have W2 := hide HX.w2; have HG2 := hide HX.g3; have F3 := hide HX.f3; have HO := hide HX.o
      clear HX
      go_enter Try.func5, Try.ntmps5
      go_wp2_with (first
        | (go_at_call 12; refine (known_calls HS.out).mono ?_; rintro x w1 ⟨rfl, h1⟩; have H1 := hide h1; clear h1)
        | (go_at_call 14; refine (new_good H1.out 8 (by omega) (by omega) (by omega)).mono ?_; rintro x w2 ⟨bb, rfl, h2⟩; have H2 := hide h2; clear h2)
        | (go_at_call 21; refine (fuse_calls H2.out 1).mono ?_; rintro x w3 ⟨rfl, h3⟩; have H3 : Hid (Sat e (HP.disk bb dE :: L) w3) := hide h3; clear h3)
        | (go_at_call 13; refine (within_calls _ _ (by omega) (by omega) (by omega) (by omega)).mono ?_; rintro x w4 ⟨rfl, rfl⟩; (first | rw [hJ] | rw [hM]))
        | ((with_reducible refine wpList_build_sl rfl 24 5 _ rfl Try.underlying24 HI1.out hx0 hx1 (by omega) (by omega) (by omega) [Value.int .i64 (-1), .int .i64 8, .int .i64 r, .int .i64 9223372036854775807, .int .i64 (-9223372036854775808)] ?_ rfl (by simp [Value.cells]) H3.out ?_); exact rfl; intro g4 w4 h4; have c4 : w4.cell? ⟨g4, J, none⟩ = some (.int .i64 K) := (h4.row_cell (i := J) (by simp [Value.cells]; omega)).1.trans HK.out; have H4 := hide h4.drop; clear h4 H3)
        | (at_make; (with_reducible refine wpList_make_sl rfl (.tmp 40) (.tmp 40) 32 rfl Try.underlying32 HI.out hz0 hz1 hz2 M rfl rfl rfl rfl H4.out (by omega) (by unfold maxLen; omega) ?_); intro g5 w5 h5; rw [made_u8] at h5; have H5 := hide (row_zeros h5); clear h5 H4)
        | (at_make; (with_reducible refine wpList_make_sl rfl (.const (.int .i64 64)) (.const (.int .i64 64)) 32 rfl Try.underlying32 HI.out hz0 hz1 hz2 64 rfl rfl (by omega) (by omega) H5.out (by omega) (by unfold maxLen; omega) ?_); intro g6 w6 h6; rw [made_u8] at h6; have H6 := hide ((zs_row h6).pick [0, 2, 1] 3 (by decide) (by decide) (by simp)); clear h6 H5)
        | (go_at_call 20; refine (write_own _ zs H6.out dE_good _).mono ?_; rintro x w7 ⟨rfl, h7⟩; obtain ⟨a1, a2⟩ := dE_write_out hK' zs; rw [a1]; rw [a2] at h7; have H7 := hide (h7.drop.swap); clear h7 a1 a2 H6)
        | (go_at_call 20; refine (write_own _ _ H7.out dE_good _).mono ?_; rintro x w8 ⟨rfl, h8⟩; obtain ⟨a1, a2⟩ := FX.out; rw [a1]; rw [a2] at h8; have H8 := hide h8.drop; clear h8 a1 a2 H7)
        | (go_at_call 16; refine (read_gen H8.out HG.out.fine.ok _).mono ?_; rintro x w9 ⟨rb, rc, rfl, h9⟩; rw [HR.out]; have H9 := hide h9.drop; clear h9 H8)
        | (at_make; (with_reducible refine wpList_make_sl rfl (.const (.int .i64 64)) (.const (.int .i64 64)) 32 rfl Try.underlying32 HI.out hz0 hz1 hz2 64 rfl rfl (by omega) (by omega) H9.out (by omega) (by unfold maxLen; omega) ?_); intro g10 w10 h10; rw [made_u8] at h10; have H10 := hide (zs_row h10); clear h10 H9)
        | (go_at_call 20; refine (write_own _ zs H10.out HG.out _).mono ?_; rintro x w11 ⟨rfl, h11⟩; obtain ⟨a1, a2⟩ := W2.out; rw [a1]; rw [a2] at h11; clear a1 a2; have H11 := hide h11.drop; clear h11 H10)
        | (go_at_call 22; refine (flush_gen H11.out HG2.out).mono ?_; rintro x w12 ⟨rfl, h12⟩; obtain ⟨a1, a2⟩ := F3.out; rw [a1]; rw [a2] at h12; clear a1 a2; have H12 := hide h12; clear h12 H11)
        | (go_at_call 18; refine (ops_calls H12.out).mono ?_; rintro x w13 ⟨rfl, rfl⟩; rw [HO.out]))
      all_goals (go_ret; exact ⟨rfl, H12.out.drop⟩)
  · have hK' : K < 0 ∨ 8 ≤ K := by omega
    by_cases hM64 : M = 64
    · subst hM64
      have HX := errs_yes hK' (List.replicate 64 (0 : UInt8)) (by simp)
      have FX := hide HX.fx; have HG := hide HX.g; have HR := hide HX.r; have W2 := hide HX.w2; have HG2 := hide HX.g3; have F3 := hide HX.f3; have HO := hide HX.o
      clear HX
      go_enter Try.func5, Try.ntmps5
      go_wp2_with (first
        | (go_at_call 12; refine (known_calls HS.out).mono ?_; rintro x w1 ⟨rfl, h1⟩; have H1 := hide h1; clear h1)
        | (go_at_call 14; refine (new_good H1.out 8 (by omega) (by omega) (by omega)).mono ?_; rintro x w2 ⟨bb, rfl, h2⟩; have H2 := hide h2; clear h2)
        | (go_at_call 21; refine (fuse_calls H2.out 1).mono ?_; rintro x w3 ⟨rfl, h3⟩; have H3 : Hid (Sat e (HP.disk bb dE :: L) w3) := hide h3; clear h3)
        | (go_at_call 13; refine (within_calls _ _ (by omega) (by omega) (by omega) (by omega)).mono ?_; rintro x w4 ⟨rfl, rfl⟩; (first | rw [hJ] | rw [hM]))
        | ((with_reducible refine wpList_build_sl rfl 24 5 _ rfl Try.underlying24 HI1.out hx0 hx1 (by omega) (by omega) (by omega) [Value.int .i64 (-1), .int .i64 8, .int .i64 r, .int .i64 9223372036854775807, .int .i64 (-9223372036854775808)] ?_ rfl (by simp [Value.cells]) H3.out ?_); exact rfl; intro g4 w4 h4; have c4 : w4.cell? ⟨g4, J, none⟩ = some (.int .i64 K) := (h4.row_cell (i := J) (by simp [Value.cells]; omega)).1.trans HK.out; have H4 := hide h4.drop; clear h4 H3)
        | (at_make; (with_reducible refine wpList_make_sl rfl (.tmp 40) (.tmp 40) 32 rfl Try.underlying32 HI.out hz0 hz1 hz2 64 rfl rfl (by omega) (by omega) H4.out (by omega) (by unfold maxLen; omega) ?_); intro g5 w5 h5; rw [made_u8] at h5; have H5 := hide (row_zeros h5); clear h5 H4)
        | (at_make; (with_reducible refine wpList_make_sl rfl (.const (.int .i64 64)) (.const (.int .i64 64)) 32 rfl Try.underlying32 HI.out hz0 hz1 hz2 64 rfl rfl (by omega) (by omega) H5.out (by omega) (by unfold maxLen; omega) ?_); intro g6 w6 h6; rw [made_u8] at h6; have H6 := hide ((zs_row h6).pick [0, 2, 1] 3 (by decide) (by decide) (by simp)); clear h6 H5)
        | (go_at_call 20; refine (write_own _ zs H6.out dE_good _).mono ?_; rintro x w7 ⟨rfl, h7⟩; obtain ⟨a1, a2⟩ := dE_write_out hK' zs; rw [a1]; rw [a2] at h7; have H7 := hide (h7.drop.swap); clear h7 a1 a2 H6)
        | (go_at_call 20; refine (write_own _ _ H7.out dE_good _).mono ?_; rintro x w8 ⟨rfl, h8⟩; obtain ⟨a1, a2⟩ := FX.out; rw [a1]; rw [a2] at h8; have H8 := hide h8.drop; clear h8 a1 a2 H7)
        | (go_at_call 16; refine (read_gen H8.out HG.out.fine.ok _).mono ?_; rintro x w9 ⟨rb, rc, rfl, h9⟩; rw [HR.out]; have H9 := hide h9.drop; clear h9 H8)
        | (at_make; (with_reducible refine wpList_make_sl rfl (.const (.int .i64 64)) (.const (.int .i64 64)) 32 rfl Try.underlying32 HI.out hz0 hz1 hz2 64 rfl rfl (by omega) (by omega) H9.out (by omega) (by unfold maxLen; omega) ?_); intro g10 w10 h10; rw [made_u8] at h10; have H10 := hide (zs_row h10); clear h10 H9)
        | (go_at_call 20; refine (write_own _ zs H10.out HG.out _).mono ?_; rintro x w11 ⟨rfl, h11⟩; obtain ⟨a1, a2⟩ := W2.out; rw [a1]; rw [a2] at h11; clear a1 a2; have H11 := hide h11.drop; clear h11 H10)
        | (go_at_call 22; refine (flush_gen H11.out HG2.out).mono ?_; rintro x w12 ⟨rfl, h12⟩; obtain ⟨a1, a2⟩ := F3.out; rw [a1]; rw [a2] at h12; clear a1 a2; have H12 := hide h12; clear h12 H11)
        | (go_at_call 18; refine (ops_calls H12.out).mono ?_; rintro x w13 ⟨rfl, rfl⟩; rw [HO.out]))
      all_goals (go_ret; exact ⟨rfl, H12.out.drop⟩)
    · have hM65 : (M : Int) ≠ 64 := by omega
      have HX := errs_no hK' (List.replicate M (0 : UInt8)) (by simpa using hM64)
      have FX := hide HX.fx; have HG := hide HX.g; have HR := hide HX.r; have W2 := hide HX.w2; have HG2 := hide HX.g3; have F3 := hide HX.f3; have HO := hide HX.o
      clear HX
      go_enter Try.func5, Try.ntmps5
      go_wp2_with (first
        | (go_at_call 12; refine (known_calls HS.out).mono ?_; rintro x w1 ⟨rfl, h1⟩; have H1 := hide h1; clear h1)
        | (go_at_call 14; refine (new_good H1.out 8 (by omega) (by omega) (by omega)).mono ?_; rintro x w2 ⟨bb, rfl, h2⟩; have H2 := hide h2; clear h2)
        | (go_at_call 21; refine (fuse_calls H2.out 1).mono ?_; rintro x w3 ⟨rfl, h3⟩; have H3 : Hid (Sat e (HP.disk bb dE :: L) w3) := hide h3; clear h3)
        | (go_at_call 13; refine (within_calls _ _ (by omega) (by omega) (by omega) (by omega)).mono ?_; rintro x w4 ⟨rfl, rfl⟩; (first | rw [hJ] | rw [hM]))
        | ((with_reducible refine wpList_build_sl rfl 24 5 _ rfl Try.underlying24 HI1.out hx0 hx1 (by omega) (by omega) (by omega) [Value.int .i64 (-1), .int .i64 8, .int .i64 r, .int .i64 9223372036854775807, .int .i64 (-9223372036854775808)] ?_ rfl (by simp [Value.cells]) H3.out ?_); exact rfl; intro g4 w4 h4; have c4 : w4.cell? ⟨g4, J, none⟩ = some (.int .i64 K) := (h4.row_cell (i := J) (by simp [Value.cells]; omega)).1.trans HK.out; have H4 := hide h4.drop; clear h4 H3)
        | (at_make; (with_reducible refine wpList_make_sl rfl (.tmp 40) (.tmp 40) 32 rfl Try.underlying32 HI.out hz0 hz1 hz2 M rfl rfl rfl rfl H4.out (by omega) (by unfold maxLen; omega) ?_); intro g5 w5 h5; rw [made_u8] at h5; have H5 := hide (row_zeros h5); clear h5 H4)
        | (at_make; (with_reducible refine wpList_make_sl rfl (.const (.int .i64 64)) (.const (.int .i64 64)) 32 rfl Try.underlying32 HI.out hz0 hz1 hz2 64 rfl rfl (by omega) (by omega) H5.out (by omega) (by unfold maxLen; omega) ?_); intro g6 w6 h6; rw [made_u8] at h6; have H6 := hide ((zs_row h6).pick [0, 2, 1] 3 (by decide) (by decide) (by simp)); clear h6 H5)
        | (go_at_call 20; refine (write_own _ zs H6.out dE_good _).mono ?_; rintro x w7 ⟨rfl, h7⟩; obtain ⟨a1, a2⟩ := dE_write_out hK' zs; rw [a1]; rw [a2] at h7; have H7 := hide (h7.drop.swap); clear h7 a1 a2 H6)
        | (go_at_call 20; refine (write_own _ _ H7.out dE_good _).mono ?_; rintro x w8 ⟨rfl, h8⟩; obtain ⟨a1, a2⟩ := FX.out; rw [a1]; rw [a2] at h8; have H8 := hide h8.drop; clear h8 a1 a2 H7)
        | (go_at_call 16; refine (read_gen H8.out HG.out.fine.ok _).mono ?_; rintro x w9 ⟨rb, rc, rfl, h9⟩; rw [HR.out]; have H9 := hide h9.drop; clear h9 H8)
        | (at_make; (with_reducible refine wpList_make_sl rfl (.const (.int .i64 64)) (.const (.int .i64 64)) 32 rfl Try.underlying32 HI.out hz0 hz1 hz2 64 rfl rfl (by omega) (by omega) H9.out (by omega) (by unfold maxLen; omega) ?_); intro g10 w10 h10; rw [made_u8] at h10; have H10 := hide (zs_row h10); clear h10 H9)
        | (go_at_call 20; refine (write_own _ zs H10.out HG.out _).mono ?_; rintro x w11 ⟨rfl, h11⟩; obtain ⟨a1, a2⟩ := W2.out; rw [a1]; rw [a2] at h11; clear a1 a2; have H11 := hide h11.drop; clear h11 H10)
        | (go_at_call 22; refine (flush_gen H11.out HG2.out).mono ?_; rintro x w12 ⟨rfl, h12⟩; obtain ⟨a1, a2⟩ := F3.out; rw [a1]; rw [a2] at h12; clear a1 a2; have H12 := hide h12; clear h12 H11)
        | (go_at_call 18; refine (ops_calls H12.out).mono ?_; rintro x w13 ⟨rfl, rfl⟩; rw [HO.out]))
      all_goals (go_ret; exact ⟨rfl, H12.out.drop⟩)
end Go.Proofs.Ytbeabedpmoalpaa
