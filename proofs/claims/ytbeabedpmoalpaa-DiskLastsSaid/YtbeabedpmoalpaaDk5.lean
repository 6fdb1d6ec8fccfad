/-
  package disk: New; the laws' small helpers: known, within, Sector.
-/
import Derived.Test.YtbeabedpmoalpaaDk4
namespace Go.Proofs.Ytbeabedpmoalpaa
open Go.RowKit Go.Maps Go.MapKept
variable {e : Env} {b : Nat} {d : Dk} {L : List HP} {w : World}

def Dk.fresh0 (n : Nat) : Dk := ⟨List.replicate n zs, [], 0, -1, false⟩

theorem fresh0_ok (n : Nat) (h : n ≤ 256) : (Dk.fresh0 n).Ok := ⟨by intro s hs; rw [List.eq_of_mem_replicate hs]; rfl, by simp [Dk.fresh0], by simpa [Dk.fresh0] using h⟩

theorem flat8_zs (n : Nat) : flat8 (List.replicate n zs) = List.replicate (n * 64) (B8 0) := by
  induction n with
  | zero => rfl
  | succ n ih =>
    rw [List.replicate_succ]
    simp only [flat8, List.flatMap_cons] at ih ⊢
    rw [ih]
    have : zs.map B8 = List.replicate 64 (B8 0) := by simp [zs]
    rw [this, List.replicate_append_replicate]
    congr 1; omega

theorem made_zs (n : Nat) : (madeCells zSec.cells (n * 64)).toList = flat8 (List.replicate n zs) := by
  rw [flat8_zs]
  apply List.ext_getElem
  · simp [size_madeCells]
  · intro i h1 h2
    have h64 : i % 64 < 64 := Nat.mod_lt _ (by decide)
    have hz : zSec.cells = (List.replicate 64 (B8 0)).toArray := by simp [zSec, eSec, Value.cells, zs]
    have hi : (List.replicate 64 (B8 0)).toArray[i % 64]! = B8 0 := by
      rw [getElem!_pos _ _ (by simpa using h64)]
      simp only [List.getElem_toArray, List.getElem_replicate]
    simp only [madeCells, Array.getElem_toList, Array.getElem_map, Array.getElem_range, zSec_size, List.getElem_replicate]
    rw [hz]; exact hi

theorem i64_and1 (n : Int) : bits .and .i64 n 1 = n % 2 := by
  have h1 : (BitVec.ofInt 64 1).toNat = 2 ^ 1 - 1 := by decide
  have key : (BitVec.ofInt 64 n &&& BitVec.ofInt 64 1).toNat = (n % ((2 ^ 64 : Nat) : Int)).toNat % 2 ^ 1 := by
    rw [BitVec.toNat_and, BitVec.toNat_ofInt, h1, Nat.and_two_pow_sub_one_eq_mod]
  show IntKind.i64.wrap ((BitVec.ofInt 64 n &&& BitVec.ofInt 64 1).toNat : Nat) = n % 2
  rw [key, IntKind.wrap_i64]
  omega

theorem sec_info : (Try.prog.info? 66).map (fun i => (i.zero, i.size, i.bytes)) = some (some zSec, 64, 64) := by kernel_rfl

theorem new_bad (n : Int) (h : n < 8 ∨ 256 < n ∨ n % 2 ≠ 0) (hlo : -9223372036854775808 ≤ n) (hhi : n ≤ 9223372036854775807) : Calls Try.prog 14 #[.int .i64 n] w fun x w' => x = .returned (.tuple #[.pointer none, .int .i64 1]) ∧ w = w' := by
  by_cases h8 : n < 8
  · go_enter Try.func14, Try.ntmps14
    go_wp2
    go_ret2
    exact ⟨rfl, rfl⟩
  · by_cases h256 : 256 < n
    · have h8' : decide (n < 8) = false := by simpa using h8
      clear h
      go_enter Try.func14, Try.ntmps14
      go_wp2
      go_ret2
      exact ⟨rfl, rfl⟩
    · have h8' : decide (n < 8) = false := by simpa using h8
      have h256' : decide (256 < n) = false := by simpa using h256
      have hr : n % 2 = 1 := by omega
      have hand : bits .and .i64 n 1 = 1 := by rw [i64_and1, hr]
      clear h hr
      go_enter Try.func14, Try.ntmps14
      go_wp2
      all_goals (go_ret2; exact ⟨rfl, rfl⟩)

set_option maxHeartbeats 400000 in
theorem new_good (h : Sat e L w) (n : Nat) (h8 : 8 ≤ n) (h256 : n ≤ 256) (heven : n % 2 = 0) : Calls Try.prog 14 #[.int .i64 n] w
    fun x w' => ∃ b, x = .returned (.tuple #[.pointer (some ⟨b, 0, none⟩), .int .i64 0]) ∧ Sat e (HP.disk b (Dk.fresh0 n) :: L) w' := by
  obtain ⟨i0, hi, hz0, hz1, hz2⟩ := info_parts sec_info
  have H := hide h
  have HI := hide hi
  have h8' : decide ((n : Int) < 8) = false := by simp; omega
  have h256' : decide (256 < (n : Int)) = false := by simp; omega
  have hand : bits .and .i64 n 1 = 0 := by rw [i64_and1]; omega
  have hb1 : 64 * n ≤ 140737488355328 := by omega
  have hb2 : n ≤ maxLen := by unfold maxLen; omega
  have B1 := hide hb1
  have B2 := hide hb2
  clear h hi heven hb1 hb2
  go_enter Try.func14, Try.ntmps14
  go_wp2_with (first
    | (at_make; (with_reducible refine wpList_make_sl rfl (.tmp 15) (.tmp 15) 58 rfl Try.underlying58 HI.out hz0 hz1 hz2 n rfl rfl rfl rfl H.out B1.out B2.out ?_); intro g w1 h1; have H1 := hide h1; clear h1)
    | ((with_reducible refine wpList_makeMap_sl rfl 59 rfl eInt okInt eSec H1.out ?_); intro mb w2 h2; have H2 := hide h2; clear h2))
  have h2 := H2.out.swap
  rw [made_zs] at h2
  obtain ⟨_, ⟨hx, _⟩ | ⟨g', cap, cur, hv, hc1, hc2, hc3, hc4, h3⟩⟩ := h2.row_open
  · cases hx
  · simp only [Value.slice.injEq, Option.some.injEq, Addr.mk.injEq, and_true, true_and] at hv
    obtain ⟨rfl, rfl⟩ := hv
    have hcur : cur = (flat8 (List.replicate n zs)).toArray := by
      rw [List.take_of_length_le (by simp; omega)] at hc4
      rw [← hc4]
    subst hcur
    go_ret2
    refine ⟨w2.heap.size, rfl, Sat.disk_shut (lb := g) (mb := mb) ?_⟩
    have h4 := h3.alloc (.cells #[.slice (some ⟨g, 0, none⟩) n n, .map (some mb), .int .i64 0, .int .i64 (-1), .bool false] 61)
    simpa [dkCells, dkRow, Dk.fresh0] using h4

theorem tmod_facts (k n : Int) (hn : 0 < n) (hk : k < 0) : -n < k.tmod n ∧ k.tmod n ≤ 0 ∧ (k.tmod n < 0 → k % n = k.tmod n + n) ∧ (0 ≤ k.tmod n → k % n = k.tmod n) := by
  have h1 : (-k).tmod n = -(k.tmod n) := Int.neg_tmod k n
  have h2 := Int.tmod_nonneg n (show 0 ≤ -k by omega)
  have h3 := Int.tmod_lt_of_pos (-k) hn
  have h4 := Int.mul_tdiv_add_tmod k n
  have h5 : k % n = (k.tmod n) % n := by
    conv => lhs; rw [← h4]
    rw [Int.add_comm, Int.add_mul_emod_self_left]
  refine ⟨by omega, by omega, fun h => ?_, fun h => ?_⟩
  · rw [h5, ← Int.add_emod_right, Int.emod_eq_of_lt (by omega) (by omega)]
  · rw [h5, Int.emod_eq_of_lt h (by omega)]

theorem within_calls (k n : Int) (hn : 0 < n) (hn2 : n ≤ 4294967296) (hk1 : -9223372036854775808 ≤ k) (hk2 : k ≤ 9223372036854775807) : Calls Try.prog 13 #[.int .i64 k, .int .i64 n] w fun x w' => x = .returned (.int .i64 (k % n)) ∧ w = w' := by
  by_cases h0 : 0 ≤ k
  · have hnn : decide (k % n < 0) = false := by simpa using Int.emod_nonneg k (show n ≠ 0 by omega)
    go_enter Try.func13, Try.ntmps13
    go_wp2
    go_ret
    exact ⟨rfl, rfl⟩
  · have hf := tmod_facts k n hn (by omega)
    obtain ⟨f1, f2, f3, f4⟩ := hf
    have F3 := hide f3
    have F4 := hide f4
    clear f3 f4
    by_cases h1 : k.tmod n < 0
    · go_enter Try.func13, Try.ntmps13
      go_wp2
      go_ret
      exact ⟨by rw [F3.out h1]; rfl, rfl⟩
    · go_enter Try.func13, Try.ntmps13
      go_wp2
      go_ret
      exact ⟨by rw [F4.out (by omega)]; rfl, rfl⟩
end Go.Proofs.Ytbeabedpmoalpaa
