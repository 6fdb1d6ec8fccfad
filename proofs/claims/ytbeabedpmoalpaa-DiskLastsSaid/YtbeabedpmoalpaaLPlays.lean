/-
  The law DiskPlays, walked: it answers true.
-/
import Derived.Test.YtbeabedpmoalpaaDo2
namespace Go.Proofs.Ytbeabedpmoalpaa
open Go.RowKit Go.Maps Go.MapKept
variable {e : Env} {L : List HP} {w : World}

theorem CallsV.le {e e' : Env} {v : Value} {cs : List CallR} (H : CallsV e.h v cs) (hle : e.le e') : CallsV e'.h v cs :=
  ⟨H.view.le hle, H.most, fun c hc => let k := H.each c hc; ⟨k.kind, k.pos, k.n, k.view.le hle, k.most⟩⟩

def PlaysAt (e : Env) (b b2 N : Nat) (L : List HP) (len : Nat) (i : Value) (w : World) : Prop :=
  ∃ k : Nat, k ≤ len ∧ k ≤ 80 ∧ i = .int .i64 k ∧ ∃ e' d r, e.le e' ∧ DR d r ∧ d.ops ≤ k ∧ d.last.length = N ∧ Sat e' (HP.disk b d :: HP.ref b2 r :: L) w

set_option maxRecDepth 100000 in
set_option maxHeartbeats 2000000 in
theorem diskPlays_calls (h : Sat e L w) (n : Int) (v : Value) (cs : List CallR) (H : CallsV e.h v cs) (hn1 : -9223372036854775808 ≤ n) (hn2 : n ≤ 9223372036854775807) :
    Calls Try.prog 9 #[.int .i64 n, v] w fun x w' => x = .returned (.bool true) ∧ ∃ e', e.le e' ∧ Sat e' L w' := by
  have HS := hide h
  have HV := hide H
  have n0 := Int.emod_nonneg n (show (5 : Int) ≠ 0 by omega)
  have n1 := Int.emod_lt_of_pos n (show (0 : Int) < 5 by omega)
  obtain ⟨S, hS⟩ : ∃ J : Nat, n % 5 = J := ⟨(n % 5).toNat, by omega⟩
  rw [hS] at n0 n1
  obtain ⟨N, hN⟩ : ∃ J : Nat, J = 8 + 2 * S := ⟨_, rfl⟩
  have hN1 : 8 ≤ N := by omega
  have hN2 : N ≤ 16 := by omega
  have hN3 : N % 2 = 0 := by omega
  have HN : Hid ((8 : Int) + 2 * (S : Int) = (N : Int)) := hide (by omega)
  obtain ⟨base, cap, hv, _⟩ := H.view
  subst hv
  clear h H
  cases hfew : fewB cs with
  | false =>
    go_enter Try.func9, Try.ntmps9
    go_wp2_with (first
      | (go_at_call 12; refine (known_calls HS.out).mono ?_; rintro x w1 ⟨rfl, h1⟩; have H1 := hide h1; clear h1 HS)
      | (go_at_call 23; refine (few_calls _ cs (HV.out.sat H1.out)).mono ?_; rintro x w2 ⟨rfl, rfl⟩; rw [hfew]))
    go_ret
    exact ⟨rfl, e, Env.le_refl e, H1.out⟩
  | true =>
    go_enter Try.func9, Try.ntmps9
    go_wp2_with (first
      | (go_at_call 12; refine (known_calls HS.out).mono ?_; rintro x w1 ⟨rfl, h1⟩; have H1 := hide h1; clear h1 HS)
      | (go_at_call 23; refine (few_calls _ cs (HV.out.sat H1.out)).mono ?_; rintro x w2 ⟨rfl, rfl⟩; rw [hfew])
      | (go_at_call 13; refine (within_calls _ _ (by omega) (by omega) (by omega) (by omega)).mono ?_; rintro x w4 ⟨rfl, rfl⟩; rw [hS])
      | (go_at_call 14; (first | rw [HN.out] | skip); refine (new_good H1.out N (by omega) (by omega) hN3).mono ?_; rintro x w5 ⟨b4, rfl, h5⟩; have H5 := hide h5; clear h5 H1)
      | (go_at_call 15; (first | rw [HN.out] | skip); refine (rnew_good H5.out N (by omega) (by omega) hN3).mono ?_; rintro x w6 ⟨e6, b5, hle6, rfl, h6⟩; have H6 := hide h6.swap; have HE6 := hide hle6; clear h6 H5 hle6))
    go_loopw [10] (fun i wr => PlaysAt e b4 b5 N L cs.length i wr) (fun i _ => 80 - (intOf i).toNat)
    case atStart => exact ⟨0, by omega, by omega, rfl, e6, _, _, HE6.out, DR.start N (by omega), by simp [Dk.fresh0], by simp [Dk.fresh0], H6.out⟩
    case round =>
      obtain ⟨k, hk, hk80, rfl, e0, d, r, hle, hdr, hops, hlen, hs⟩ := hrel
      have H7 := hide hs
      have HE := hide hle
      have HD := hide hdr
      have HO := hide hops
      have HL := hide hlen
      clear hs hle hdr hops hlen
      by_cases hlt : k < cs.length ∧ k < 80
      · obtain ⟨hlt1, hlt2⟩ := hlt
        obtain ⟨b', o', cap', hv', c0, c1, c2, c3⟩ := ((HV.out.le HE.out).sat H7.out).cells hlt1
        simp only [Value.slice.injEq, true_and] at hv'
        obtain ⟨rfl, rfl⟩ := hv'
        have HCK := hide (((HV.out.le HE.out)).each _ (List.getElem_mem hlt1))
        generalize cs[k] = c at c0 c1 c2 c3 HCK
        have hlt1' : (k : Int) < cs.length := by omega
        have hlt2' : (k : Int) < 80 := by omega
        go_wp2_with (go_at_call 25; refine (do_calls H7.out HD.out (by have := HO.out; omega) c HCK.out).mono ?_; rintro x w8 ⟨e8, d8, r8, rfl, hle8, hdr8, ho8, hl8, h8⟩; have H8 := hide h8; have HE8 := hide hle8; have HD8 := hide hdr8; have HO8 := hide ho8; have HL8 := hide hl8; clear h8 hle8 hdr8 ho8 hl8 H7)
        go_roundw
        case rel => exact ⟨k + 1, by omega, by omega, by go_num, e8, d8, r8, HE.out.trans HE8.out, HD8.out, by have := HO8.out; have := HO.out; omega, HL8.out.trans HL.out, H8.out⟩
        case measure => simp [intOf]; omega
      · have hdisj : Hid (¬ (k < cs.length ∧ k < 80)) := hide hlt
        have harm := fun (q : Prop) => q
        clear harm hlt
        by_cases hkl : (k : Int) < cs.length
        · have hk8 : ¬ (k : Int) < 80 := fun hx => hdisj.out (by omega)
          go_wp2_with (first
            | (go_at_call 24; refine (crash_calls H7.out HD.out.good.fine _ [] (View.nil _)).mono ?_; rintro x w8 ⟨rfl, h8⟩; have H8 := hide h8.swap; clear h8 H7)
            | (go_at_call 26; refine (rcrash_calls H8.out HD.out.ok _ [] (View.nil _)).mono ?_; rintro x w9 ⟨e9, hle9, rfl, h9⟩; have H9 := hide h9.swap; have HE9 := hide hle9; clear h9 H8 hle9)
            | (go_at_call 27; refine (same_calls H9.out (HD.out.crash [])).mono ?_; rintro x w10 ⟨rfl, h10⟩; have H10 := hide h10; clear h10 H9))
          go_ret
          exact ⟨rfl, e9, HE.out.trans HE9.out, H10.out.drop.drop⟩
        · go_wp2_with (first
            | (go_at_call 24; refine (crash_calls H7.out HD.out.good.fine _ [] (View.nil _)).mono ?_; rintro x w8 ⟨rfl, h8⟩; have H8 := hide h8.swap; clear h8 H7)
            | (go_at_call 26; refine (rcrash_calls H8.out HD.out.ok _ [] (View.nil _)).mono ?_; rintro x w9 ⟨e9, hle9, rfl, h9⟩; have H9 := hide h9.swap; have HE9 := hide hle9; clear h9 H8 hle9)
            | (go_at_call 27; refine (same_calls H9.out (HD.out.crash [])).mono ?_; rintro x w10 ⟨rfl, h10⟩; have H10 := hide h10; clear h10 H9))
          go_ret
          exact ⟨rfl, e9, HE.out.trans HE9.out, H10.out.drop.drop⟩
end Go.Proofs.Ytbeabedpmoalpaa
