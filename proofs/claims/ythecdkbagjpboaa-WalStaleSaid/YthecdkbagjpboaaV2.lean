/-
  deadboltref2: le.
-/
import Derived.Test.YthecdkbagjpboaaV1
namespace Go.Proofs.Ythecdkbagjpboaa
open Go.RowKit Go.Maps Go.MapKept
variable {b : Env} {L : List HP} {w : World}
def LeAt (b : Env) (L : List HP) (xs : Byt) (n k : Nat) (v i : Value) (wr : World) : Prop := ∃ (j : Nat) (bb : Option Addr) (nn cc : Nat), j ≤ k ∧ i = .int .i64 j ∧ v = .slice bb nn cc ∧ nn = xs.length + j ∧ St b (HP.rows 5 byteE (.slice bb nn cc) (xs ++ leB n j) :: L) wr
set_option linter.unusedSimpArgs false in
set_option maxRecDepth 100000 in
set_option maxHeartbeats 4000000 in
theorem rle_calls {bb : Option Addr} {nn cc : Nat} {xs : Byt} (h : St b (HP.rows 5 byteE (.slice bb nn cc) xs :: L) w) (n k : Nat) (hn : n ≤ 4294967295) (hk : k ≤ 7) (hx : xs.length ≤ 1000) :
    Calls Try.prog 66 #[.slice bb nn cc, .int .i64 (n : Nat), .int .i64 (k : Nat)] w fun x w' => ∃ b2 c2, x = .returned (.slice b2 (xs ++ leB n k).length c2) ∧ St b (HP.rows 5 byteE (.slice b2 (xs ++ leB n k).length c2) (xs ++ leB n k) :: L) w' := by
  have hnn : nn = xs.length := by
    obtain ⟨b', c', e, _⟩ := h.rows_form mem0
    simp only [Value.slice.injEq] at e
    exact e.2.1
  have hnI : (n : Int) ≤ 4294967295 := by omega
  have hkI : (k : Int) ≤ 7 := by omega
  have H := hide h
  have HNN := hide hnn
  have HX := hide hx
  clear h hnn hx
  go_enter Try.func66, Try.ntmps66
  go_wp2_with fail
  go_loopw [0, 7] (fun v i wr => LeAt b L xs n k v i wr) (fun _ i _ => k - (intOf i).toNat)
  case atStart => exact ⟨0, bb, nn, cc, by omega, rfl, rfl, HNN.out, by simp only [leB, List.append_nil]; exact H.out⟩
  case round =>
    obtain ⟨j, b1, n1, c1, hj, rfl, rfl, hn1, hs⟩ := hrel
    by_cases hlt : j < k
    · have hlt' : (j : Int) < k := by omega
      have H1 := hide hs
      have HN1 := hide hn1
      clear hs hn1 H
      obtain ⟨y, hy⟩ : ∃ y, UInt8.ofNat (n / 256 ^ j) = y := ⟨_, rfl⟩
      have q : (xs ++ leB n j).length = xs.length + j := by rw [List.length_append, leB_len]
      have Q1 := hide (show (xs ++ leB n j).length + ([y] : Byt).length ≤ maxLen ∧ ((xs ++ leB n j).length + ([y] : Byt).length) * 1 ≤ 140737488355328 from ⟨by rw [q]; have := HX.out; simp only [List.length_cons, List.length_nil]; unfold maxLen; omega, by rw [q]; have := HX.out; simp only [List.length_cons, List.length_nil]; omega⟩)
      clear q
      have hb : B8 y = .int .u8 ((n : Int) / 2 ^ (8 * j) % 256) := by
        rw [← hy]
        show Value.int .u8 ((UInt8.ofNat (n / 256 ^ j)).toNat : Int) = _
        rw [UInt8.toNat_ofNat', Int.natCast_emod, Int.natCast_ediv, Int.natCast_pow, Int.pow_mul]
        rfl
      have HB := hide hb
      have HY := hide hy
      clear hb hy
      go_wp2_with (first
        | (refine wpList_build1_st (E := byteE) rfl (.tmp 19) slByte rfl y rfl H1.out ?_ ?_; exact (fun _ _ _ => ⟨by rw [HB.out]; rfl, trivial⟩); intro g8 w8 h8; have H8 := hide h8.f1; clear h8 H1)
        | (at_builtin; refine wpList_append_st (E := byteE) rfl (.tmp 13) (.tmp 20) slByte rfl H8.out (Src.of_rows mem1) rfl rfl Q1.out.1 Q1.out.2 ?_; intro b9 n9 c9 w9 hn9 h9; have H9 := hide h9.d1; have HN9 := hide hn9; clear h9 H8 hn9))
      go_roundw
      case rel => exact ⟨j + 1, b9, n9, c9, by omega, by go_num, rfl, by rw [HN9.out, List.length_append, leB_len]; rfl, by rw [leB_snoc, HY.out, ← List.append_assoc]; exact H9.out⟩
      case measure => exact meas_step hlt
    · have hjk : j = k := by omega
      subst hjk
      have H1 := hide hs
      clear hs H
      go_wp2_with fail
      go_ret
      refine ⟨b1, c1, ?_, ?_⟩
      · rw [List.length_append, leB_len, ← hn1]; rfl
      · rw [List.length_append, leB_len, ← hn1]; exact H1.out
end Go.Proofs.Ythecdkbagjpboaa
