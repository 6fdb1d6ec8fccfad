/-
  Few of nothing; an empty disk of the document's.
-/
import Derived.Test.YthecdkbagjpboaaV7
namespace Go.Proofs.Ythecdkbagjpboaa
open Go.RowKit Go.Maps Go.MapKept
variable {b : Env} {L : List HP} {w : World}
theorem few_nil : Calls Try.prog 22 #[.slice none 0 0] w fun x w' => x = .returned (.bool true) ∧ w = w' := by
  go_enter Try.func22, Try.ntmps22
  go_wp2_with fail
  go_loopw [3] (fun i wr => i = .int .i64 0 ∧ w = wr) (fun _ _ => 0)
  case atStart => exact ⟨rfl, rfl⟩
  case round =>
    obtain ⟨rfl, rfl⟩ := hrel
    go_wp2_with fail
    go_ret
    exact ⟨rfl, rfl⟩
theorem rfresh0_reads (n : Nat) (i : Int) (h0 : 0 ≤ i) (h1 : i < n) : (Rk.fresh0 n).readR i = 0 ∧ ((Rk.fresh0 n).readB i).length = 64 ∧ parseB ((Rk.fresh0 n).readB i) = none := by
  have hl : (Rk.fresh0 n).now.length = n := by simp [Rk.fresh0]
  have hh : (Rk.fresh0 n).has i = true := by simp [Rk.has, hl, h0, h1]
  have hd : (Rk.fresh0 n).dead = false := rfl
  have hb : (Rk.fresh0 n).readB i = zs := by
    unfold Rk.readB
    rw [hd, hh]
    have : i.toNat < n := by omega
    simp [Rk.fresh0, List.getD, this]
  exact ⟨by simp [Rk.readR, hd, hh], by rw [hb]; simp [zs], by rw [hb]; exact parse_zs⟩
theorem rfresh0_ok (n : Nat) (h : n ≤ 256) : (Rk.fresh0 n).Ok := by
  constructor <;> simp [Rk.fresh0, zs] <;> omega
end Go.Proofs.Ythecdkbagjpboaa
