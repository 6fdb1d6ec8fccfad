/-
  package disk: written, settle, Fuse.
-/
import Derived.Test.YtbeabedpmoalpaaDk5
namespace Go.Proofs.Ytbeabedpmoalpaa
open Go.RowKit Go.Maps Go.MapKept
variable {e : Env} {b : Nat} {d : Dk} {L : List HP} {w : World}

def Dk.keys (d : Dk) : List Int := sortI (d.fresh.map (·.1))

set_option maxRecDepth 100000 in
set_option maxHeartbeats 400000 in
theorem written_calls (h : Sat e (HP.disk b d :: L) w) (hlen : d.fresh.length ≤ 256) : Calls Try.prog 32 #[.pointer (some ⟨b, 0, none⟩)] w
    fun x w' => ∃ v, x = .returned v ∧ Sat e (HP.row 3 1 v d.keys.length (d.keys.map eInt) :: HP.disk b d :: L) w' := by
  obtain ⟨lb, mb, h⟩ := h.disk_open
  have c1 := h.disk_at.c1
  have hm : Sat e (HP.map eInt okInt eSec mb d.fresh :: HP.blk b (dkCells lb mb d) :: HP.blk lb (dkRow d) :: L) w := h.pick [2, 0, 1] 3 (by decide) (by decide) (by simp)
  have hown := hm.ownsMap intKey (by unfold maxLen; omega)
  have hok := hm.map_ok
  have HM := hide hm
  have HW := hide hown
  have HOK := hide hok
  have HL := hide hlen
  clear h hm hown hok hlen
  go_enter Try.func32, Try.ntmps32
  go_wp2_with (first
    | (go_at_call 41; refine (Try.maps_Keys_41 (some mb) w).mono ?_; rintro x w' ⟨rfl, rfl⟩)
    | (go_at_call 40; refine (Try.sorted_keys_41 mb _ _ _ w HW.out (by rw [size_keys]; have := HL.out; simp; unfold maxLen; omega) (by rw [size_keys]; have := HL.out; simp; omega)).mono ?_; rintro x w2 ⟨v, ss, rfl, hp, hrow, hnil, hb⟩; have HP' := hide hp; have HR := hide hrow; have HB := hide hb; clear hp hrow hb hnil))
  have hr := HR.out
  rw [keysI Try.underlying3 HOK.out HP'.out, show ss.length = d.keys.length from by rw [HP'.out.length_eq]; simp [intKeys, (WideShapes.sorted_perm _).length_eq, Dk.keys, sortI]] at hr
  have hs := (HM.out.alloc_ (.cells #[.map (some mb)] 59)).of_row hr HB.out
  have hs2 : Sat e (HP.row 3 1 v d.keys.length (d.keys.map eInt) :: HP.disk b d :: L) w2 := (Sat.disk_shut (lb := lb) (mb := mb) (hs.pick [2, 3, 1, 0] 4 (by decide) (by decide) (by simp))).swap
  go_ret
  exact ⟨v, rfl, hs2⟩
end Go.Proofs.Ytbeabedpmoalpaa
