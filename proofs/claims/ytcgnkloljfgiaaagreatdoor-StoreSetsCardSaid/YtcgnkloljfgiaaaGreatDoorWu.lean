/-
  deadboltlaw3: within, Both.
-/
import Derived.Test.YtcgnkloljfgiaaaGreatDoorWs
import Derived.Test.YtcgnkloljfgiaaaGreatDoorRkk
import Derived.Lib.SlBytesConst
namespace Go.Proofs.YtcgnkloljfgiaaaGreatDoor
open Go.RowKit Go.Maps Go.MapKept
variable {b : Env} {L : List HP} {w : World} {gd : Nat} {d : Dk}
theorem within3_calls (k n : Int) (hn : 0 < n) (hn2 : n ≤ 4294967296) (hk1 : -9223372036854775808 ≤ k) (hk2 : k ≤ 9223372036854775807) : Calls Tryz.prog 34 #[.int .i64 k, .int .i64 n] w fun x w' => x = .returned (.int .i64 (k % n)) ∧ w = w' := by
  by_cases h0 : 0 ≤ k
  · have hnn : decide (k % n < 0) = false := by simpa using Int.emod_nonneg k (show n ≠ 0 by omega)
    go_enter Tryz.func34, Tryz.ntmps34
    go_wp2
    go_ret
    exact ⟨rfl, rfl⟩
  · have hf := tmod_facts k n hn (by omega)
    obtain ⟨f1, f2, f3, f4⟩ := hf
    have F3 := hide f3
    have F4 := hide f4
    clear f3 f4
    by_cases h1 : k.tmod n < 0
    · go_enter Tryz.func34, Tryz.ntmps34
      go_wp2
      go_ret
      exact ⟨by rw [F3.out h1]; rfl, rfl⟩
    · go_enter Tryz.func34, Tryz.ntmps34
      go_wp2
      go_ret
      exact ⟨by rw [F4.out (by omega)]; rfl, rfl⟩
theorem St.lit {T : TypeId} {fz : Nat × Nat} (h : St b L w) (xs : List UInt8) (hl : xs.length ≤ maxLen) : St b (HP.sl byteE (.slice (some ⟨w.heap.size, 0, none⟩) xs.length xs.length) xs :: L) (w.alloc (.cells (xs.map B8).toArray T fz)) := by
  obtain ⟨e, hle, hs⟩ := h
  obtain ⟨e', hle', hat, hs'⟩ := (hs.alloc (.cells (xs.map B8).toArray T fz)).persist
  refine ⟨e', hle.trans hle', hs'.lay (fun _ => ⟨xs.map B8, rds_bytes e'.h xs, ⟨_, _, rfl, Or.inr ⟨_, _, _, _, _, rfl, hat, fun j u hj => ?_⟩⟩, _, _, rfl, Nat.le_refl _, hl⟩)⟩
  rw [Nat.zero_add]
  simpa using hj
theorem dnew_calls (h : St b L w) (n : Nat) (h8 : 8 ≤ n) (h256 : n ≤ 256) (heven : n % 2 = 0) : Calls Tryz.prog 21 #[.int .i64 n] w
    fun x w' => ∃ gd, x = .returned (.tuple #[.pointer (some ⟨gd, 0, none⟩), .int .i64 0]) ∧ St b (HP.disk gd (Dk.fresh0 n) :: L) w' := by
  obtain ⟨e, hl, hs⟩ := h
  refine (new_good hs n h8 h256 heven).mono ?_
  rintro x w' ⟨gd, rfl, h'⟩
  exact ⟨gd, rfl, e, hl, h'⟩
theorem rnew_st (h : St b L w) (n : Nat) (h8 : 8 ≤ n) (h256 : n ≤ 256) (heven : n % 2 = 0) : Calls Tryz.prog 35 #[.int .i64 n] w
    fun x w' => ∃ gx, x = .returned (.tuple #[.pointer (some ⟨gx, 0, none⟩), .int .i64 0]) ∧ St b (HP.ref gx (Rk.fresh0 n) :: L) w' := by
  obtain ⟨e, hl, hs⟩ := h
  refine (rnew_good hs n h8 h256 heven).mono ?_
  rintro x w' ⟨e', gx, hle, rfl, h'⟩
  exact ⟨gx, rfl, e', hl.trans hle, h'⟩
theorem dops_calls (h : St b (HP.disk gd d :: L) w) : Calls Tryz.prog 23 #[.pointer (some ⟨gd, 0, none⟩)] w fun x w' => x = .returned (.int .i64 d.ops) ∧ w = w' := by
  obtain ⟨e, hl, hs⟩ := h
  exact ops_calls hs
theorem both_calls (h : St b L w) (s : Int) (hs1 : -9223372036854775808 ≤ s) (hs2 : s ≤ 9223372036854775807) : Calls Tryz.prog 13 #[.int .i64 s] w
    fun x w' => ∃ gd gx, x = .returned (.tuple #[.pointer (some ⟨gd, 0, none⟩), .pointer (some ⟨gx, 0, none⟩)]) ∧ St b (HP.ref gx (Rk.fresh0 (8 + 2 * (s % 13).toNat)) :: HP.disk gd (Dk.fresh0 (8 + 2 * (s % 13).toNat)) :: L) w' := by
  obtain ⟨m, hm⟩ : ∃ m : Nat, (s % 13).toNat = m := ⟨_, rfl⟩
  have hm1 : s % 13 = (m : Int) := by omega
  have hm2 : m ≤ 12 := by omega
  have hm3 : (m : Int) ≤ 12 := by omega
  have en : (8 : Int) + 2 * (m : Int) = ((8 + 2 * m : Nat) : Int) := by omega
  rw [hm]
  have H := hide h
  have HM := hide hm1
  have HEN := hide en
  clear h hm hm1 en
  go_enter Tryz.func13, Tryz.ntmps13
  go_wp2_with (first
    | (go_at_call 34; refine (within3_calls s 13 (by omega) (by omega) hs1 hs2).mono ?_; rintro x w1 ⟨rfl, hw1⟩; subst hw1; rw [HM.out])
    | (go_at_call 21; refine (show Calls _ _ _ _ _ from HEN.out ▸ dnew_calls H.out (8 + 2 * m) (by omega) (by omega) (by omega)).mono ?_; rintro x w1 ⟨gd, rfl, h1⟩; have H1 := hide h1; clear h1 H)
    | (go_at_call 35; refine (show Calls _ _ _ _ _ from HEN.out ▸ rnew_st H1.out (8 + 2 * m) (by omega) (by omega) (by omega)).mono ?_; rintro x w2 ⟨gx, rfl, h2⟩; have H2 := hide h2; clear h2 H1))
  go_ret2
  exact ⟨gd, gx, rfl, H2.out⟩
/-- Open, of a disk that is alive. -/
theorem wopen_calls {N : Nat} {k : Int} (h : St b (HP.disk gd d :: L) w) (ha : Alive d N k) :
    Calls Tryz.prog 37 #[.pointer (some ⟨gd, 0, none⟩)] w fun x w' => ∃ gl b0 c0, x = .returned (.tuple #[.pointer (some ⟨gl, 0, none⟩), .slice b0 (openR d).2.length c0, .int .i64 0]) ∧
      St b (HP.log gl gd (openR d).1 :: HP.disk gd d :: HP.rows 37 byteE.in (.slice b0 (openR d).2.length c0) (openR d).2 :: L) w' := by
  refine (open_calls h ha.good ha.dead).mono ?_
  rintro x w' ⟨gl, v, rfl, h'⟩
  obtain ⟨b0, c0, rfl, _⟩ := h'.rows_form mem2
  exact ⟨gl, b0, c0, rfl, h'⟩
end Go.Proofs.YtcgnkloljfgiaaaGreatDoor
