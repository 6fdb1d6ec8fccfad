/-
  GraphParts.
-/
import Derived.Test.YtmebmgbjpbapjaaGh
import Derived.Test.YtmebmgbjpbapjaaGk
namespace Go.Proofs.Ytmebmgbjpbapjaa
open Go.RowKit Go.Maps Go.MapKept
variable {b : Env} {L : List HP} {w : World}

theorem namesL_inc {k : Nat} (hk : k ≤ 100) : Inc (namesL k) := by
  unfold Inc namesL
  rw [List.pairwise_map]
  refine List.Pairwise.imp_of_mem (fun {i j} hi hj hij => ?_) (List.pairwise_lt_range (n := k))
  have h1 := List.mem_range.1 hi
  have h2 := List.mem_range.1 hj
  simp only [nameS, nameB, Op.bytesLess, Bool.or_eq_true, decide_eq_true_eq]
  left
  rw [UInt8.lt_iff_toNat_lt, UInt8.toNat_ofNat', UInt8.toNat_ofNat']
  omega

set_option maxRecDepth 100000 in
set_option maxHeartbeats 2000000 in
theorem graphParts_calls (h : St b L w) (n : Int) {v : Value} {ns : List Int} (hm : HP.sl intE v ns ∈ L) (hns : ∀ x ∈ ns, i64 x) (hn1 : -9223372036854775808 ≤ n) (hn2 : n ≤ 9223372036854775807) :
    Calls Try.prog 3 #[.int .i64 n, v] w fun x w' => x = .returned (.bool true) ∧ St b L w' := by
  have H := hide h
  have HM := hide hm
  have HNS := hide hns
  have p1 := Int.emod_nonneg n (show (9 : Int) ≠ 0 by omega)
  have p2 := Int.emod_lt_of_pos n (show (0 : Int) < 9 by omega)
  obtain ⟨m, hmn⟩ : ∃ m, n % 9 = m := ⟨_, rfl⟩
  rw [hmn] at p1 p2
  have HMN := hide hmn
  have hlen : (namesN m).length ≤ 1000 := by unfold namesN; rw [namesL_len]; omega
  have hel : (pairsN (m + 2) ns).length ≤ 40 := by unfold pairsN; simp; omega
  have HINC : Hid (Inc (namesN m)) := hide (namesL_inc (by omega))
  generalize hN : namesN m = N at hlen HINC
  generalize hE : pairsN (m + 2) ns = E at hel
  have HN := hide hN
  have HE := hide hE
  clear h hm hns hmn hN hE
  go_enter Try.func3, Try.ntmps3
  go_wp2_with (first
    | (go_at_call 11; refine (known_calls H.out).mono ?_; rintro x w1 ⟨rfl, h1⟩; have H1 := hide h1; clear h1 H)
    | (go_at_call 13; refine (within8_calls n 9 (by decide) (by decide) hn1 hn2).mono ?_; rintro x w2 ⟨rfl, rfl⟩; rw [HMN.out])
    | (go_at_call 12; refine (edges_calls H1.out HM.out HNS.out m p1 (by omega)).mono ?_; rintro x w3 ⟨v1, v2, rfl, h3⟩; rw [HN.out, HE.out] at h3; have H3 := hide h3; clear h3 H1)
    | (go_at_call 15; refine (gparts_calls H3.out mem0 mem1 hlen (by omega)).mono ?_; rintro x w4 ⟨v4, S, rfl, hinc, hmem, h4⟩; have hSe := Inc.ext hinc HINC.out hmem; subst hSe; have H4 := hide h4; clear h4 H3 hinc hmem)
    | (go_at_call 16; refine (rparts_calls H4.out mem1 mem2 HINC.out hlen (by omega)).mono ?_; rintro x w5 ⟨v5, rfl, h5⟩; have H5 := hide h5; clear h5 H4)
    | (go_at_call 14; refine (all_calls H5.out mem1 mem0).mono ?_; rintro x w6 ⟨rfl, n6, rfl⟩; rw [decide_eq_true rfl]; have H6 := hide (H5.out.drop.drop.drop.drop.drewN n6); clear H5))
  go_ret
  exact ⟨rfl, H6.out⟩
end Go.Proofs.Ytmebmgbjpbapjaa
