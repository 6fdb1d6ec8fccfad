/-
  The law DiskApart, walked: it answers true.
-/
import Derived.Test.YtbeabedpmoalpaaLPlays
namespace Go.Proofs.Ytbeabedpmoalpaa
open Go.RowKit Go.Maps Go.MapKept
variable {e : Env} {L : List HP} {w : World}

theorem sec_own2 {g : Nat} {n : Int} {l : List UInt8} (h : Sat e (HP.row 5 1 (.slice (some ⟨g, 0, none⟩) 64 64) 64 ((secOf n l).map B8) :: L) w) : Sat e (HP.row 5 1 (.slice (some ⟨g, 0, none⟩) 64 64) (secOf n l).length ((secOf n l).map B8) :: L) w := by
  rw [secOf_len]; exact h

def ApartAt (e : Env) (b b2 b3 : Nat) (L : List HP) (len : Nat) (i : Value) (w : World) : Prop :=
  ∃ k : Nat, k ≤ len ∧ k ≤ 40 ∧ i = .int .i64 k ∧ ∃ e' d r d3, e.le e' ∧ DR d r ∧ d.ops ≤ k ∧ Alive d3 8 (2 * k) ∧ Sat e' (HP.disk b d :: HP.ref b2 r :: HP.disk b3 d3 :: L) w

set_option maxRecDepth 100000 in
set_option maxHeartbeats 2000000 in
theorem diskApart_calls (h : Sat e L w) (v : Value) (cs : List CallR) (H : CallsV e.h v cs) (vp : Value) (pick : List UInt8) (HP' : View e.h vp pick.length (pick.map B8)) :
    Calls Try.prog 11 #[v, vp] w fun x w' => x = .returned (.bool true) ∧ ∃ e', e.le e' ∧ Sat e' L w' := by
  have HS := hide h
  have HV := hide H
  have HVP := hide HP'
  obtain ⟨base, cap, hv, _⟩ := H.view
  subst hv
  clear h H HP'
  cases hfew : fewB cs with
  | false =>
    go_enter Try.func11, Try.ntmps11
    go_wp2_with (first
      | (go_at_call 12; refine (known_calls HS.out).mono ?_; rintro x w1 ⟨rfl, h1⟩; have H1 := hide h1; clear h1 HS)
      | (go_at_call 23; refine (few_calls _ cs (HV.out.sat H1.out)).mono ?_; rintro x w2 ⟨rfl, rfl⟩; rw [hfew]))
    go_ret
    exact ⟨rfl, e, Env.le_refl e, H1.out⟩
  | true =>
    go_enter Try.func11, Try.ntmps11
    go_wp2_with (first
      | (go_at_call 12; refine (known_calls HS.out).mono ?_; rintro x w1 ⟨rfl, h1⟩; have H1 := hide h1; clear h1 HS)
      | (go_at_call 23; refine (few_calls _ cs (HV.out.sat H1.out)).mono ?_; rintro x w2 ⟨rfl, rfl⟩; rw [hfew])
      | (go_at_call 14; refine (new_good H1.out 8 (by omega) (by omega) (by omega)).mono ?_; rintro x w5 ⟨b4, rfl, h5⟩; have H5 := hide h5; clear h5 H1)
      | (go_at_call 14; refine (new_good H5.out 8 (by omega) (by omega) (by omega)).mono ?_; rintro x w6 ⟨b6, rfl, h6⟩; have H6 := hide h6; clear h6 H5)
      | (go_at_call 15; refine (rnew_good H6.out 8 (by omega) (by omega) (by omega)).mono ?_; rintro x w7 ⟨e7, b7, hle7, rfl, h7⟩; have H7 := hide h7.bring3; have HE7 := hide hle7; clear h7 H6 hle7))
    go_loopw [11] (fun i wr => ApartAt e b4 b7 b6 L cs.length i wr) (fun i _ => 40 - (intOf i).toNat)
    case atStart => exact ⟨0, by omega, by omega, rfl, e7, _, _, _, HE7.out, DR.start 8 (by omega), by simp [Dk.fresh0], alive_fresh 8 (by omega), H7.out⟩
    case round =>
      obtain ⟨k, hk, hk40, rfl, e0, d, r, d3, hle, hdr, hops, hal, hs⟩ := hrel
      have H8 := hide hs
      have HE := hide hle
      have HD := hide hdr
      have HO := hide hops
      have HAL := hide hal
      clear hs hle hdr hops hal
      by_cases hlt : k < cs.length ∧ k < 40
      · obtain ⟨hlt1, hlt2⟩ := hlt
        obtain ⟨b', o', cap', hv', c0, c1, c2, c3⟩ := ((HV.out.le HE.out).sat H8.out).cells hlt1
        simp only [Value.slice.injEq, true_and] at hv'
        obtain ⟨rfl, rfl⟩ := hv'
        have HCC : Hid (∀ e' L' w', e0.le e' → Sat e' L' w' → w'.cell? ⟨b', o' + k * 4 + 1, none⟩ = some (.int .i64 cs[k].pos) ∧ w'.cell? ⟨b', o' + k * 4 + 3, none⟩ = some cs[k].dv) := hide (fun e' L' w' hle hs => by
          obtain ⟨b2', o2', cap2, hv2, _, a1, _, a3⟩ := ((HV.out.le (HE.out.trans hle)).sat hs).cells hlt1
          simp only [Value.slice.injEq, Option.some.injEq, Addr.mk.injEq, true_and, and_true] at hv2
          obtain ⟨⟨rfl, rfl⟩, _⟩ := hv2
          exact ⟨a1, a3⟩)
        have HCK := hide (((HV.out.le HE.out)).each _ (List.getElem_mem hlt1))
        generalize cs[k] = c at c0 c1 c2 c3 HCK HCC
        have hlt1' : (k : Int) < cs.length := by omega
        have hlt2' : (k : Int) < 40 := by omega
        have hp := HCK.out.pos
        have j0 := Int.emod_nonneg c.pos (show (8 : Int) ≠ 0 by omega)
        have j1 := Int.emod_lt_of_pos c.pos (show (0 : Int) < 8 by omega)
        go_wp2_with (first
          | (go_at_call 25; refine (do_calls H8.out HD.out (by have := HO.out; omega) c HCK.out).mono ?_; rintro x w9 ⟨e9, d9, r9, rfl, hle9, hdr9, ho9, hl9, h9⟩; obtain ⟨s1, s3⟩ := HCC.out _ _ _ hle9 h9; have H9 := hide h9; have HE9 := hide hle9; have HD9 := hide hdr9; have HO9 := hide ho9; clear h9 hle9 hdr9 ho9 hl9 H8)
          | (go_at_call 13; refine (within_calls _ _ (by omega) (by omega) hp.1 hp.2).mono ?_; rintro x w4 ⟨rfl, rfl⟩)
          | (go_at_call 19; refine (sector_calls H9.out k _ c.data (HCK.out.view.le HE9.out)).mono ?_; rintro x w10 ⟨g10, rfl, h10⟩; have H10 := hide ((sec_own2 h10).pick [0, 3, 1, 2] 4 (by decide) (by decide) (by simp)); clear h10 H9)
          | (go_at_call 20; refine (write_own _ _ H10.out HAL.out.good _).mono ?_; rintro x w11 ⟨rfl, h11⟩; obtain ⟨a1, a2, a3⟩ := alive_write HAL.out (by omega) (c.pos % 8) j0 j1 (secOf k c.data) (secOf_len _ _); rw [a1]; rw [a2] at h11; have HA11 := hide a3; have H11 := hide h11.drop; clear h11 H10 a1 a2 a3)
          | (go_at_call 22; refine (flush_gen H11.out HA11.out.good).mono ?_; rintro x w12 ⟨rfl, h12⟩; obtain ⟨a1, a2, a3⟩ := alive_flush HA11.out (by omega); rw [a1]; rw [a2] at h12; have HA12 := hide a3; have H12 := hide h12; clear h12 H11 a1 a2 a3)
          | (go_at_call 24; refine (crash_calls H12.out HA12.out.good.fine _ pick (HVP.out.le (HE.out.trans HE9.out))).mono ?_; rintro x w13 ⟨rfl, h13⟩; have HA13 := hide (alive_crash HA12.out pick); have H13 := hide h13; clear h13 H12))
        go_roundw
        case rel => exact ⟨k + 1, by omega, by omega, by go_num, e9, d9, r9, _, HE.out.trans HE9.out, HD9.out, by have := HO9.out; have := HO.out; omega, by have := HA13.out; rw [show (2 * (k : Int) + 1 + 1) = 2 * ((k + 1 : Nat) : Int) by omega] at this; exact this, H13.out.rot3⟩
        case measure => simp [intOf]; omega
      · have hdisj : Hid (¬ (k < cs.length ∧ k < 40)) := hide hlt
        clear hlt
        by_cases hkl : (k : Int) < cs.length
        · have hk8 : ¬ (k : Int) < 40 := fun hx => hdisj.out (by omega)
          go_wp2_with (first
            | (go_at_call 24; refine (crash_calls H8.out HD.out.good.fine _ pick (HVP.out.le HE.out)).mono ?_; rintro x w9 ⟨rfl, h9⟩; have H9 := hide h9.swap; clear h9 H8)
            | (go_at_call 26; refine (rcrash_calls H9.out HD.out.ok _ pick (HVP.out.le HE.out)).mono ?_; rintro x w10 ⟨e10, hle10, rfl, h10⟩; have H10 := hide h10.swap; have HE10 := hide hle10; clear h10 H9 hle10)
            | (go_at_call 27; refine (same_calls H10.out (HD.out.crash pick)).mono ?_; rintro x w11 ⟨rfl, h11⟩; have H11 := hide h11; clear h11 H10))
          go_ret
          exact ⟨rfl, e10, HE.out.trans HE10.out, H11.out.drop.drop.drop⟩
        · go_wp2_with (first
            | (go_at_call 24; refine (crash_calls H8.out HD.out.good.fine _ pick (HVP.out.le HE.out)).mono ?_; rintro x w9 ⟨rfl, h9⟩; have H9 := hide h9.swap; clear h9 H8)
            | (go_at_call 26; refine (rcrash_calls H9.out HD.out.ok _ pick (HVP.out.le HE.out)).mono ?_; rintro x w10 ⟨e10, hle10, rfl, h10⟩; have H10 := hide h10.swap; have HE10 := hide hle10; clear h10 H9 hle10)
            | (go_at_call 27; refine (same_calls H10.out (HD.out.crash pick)).mono ?_; rintro x w11 ⟨rfl, h11⟩; have H11 := hide h11; clear h11 H10))
          go_ret
          exact ⟨rfl, e10, HE.out.trans HE10.out, H11.out.drop.drop.drop⟩
end Go.Proofs.Ytbeabedpmoalpaa
