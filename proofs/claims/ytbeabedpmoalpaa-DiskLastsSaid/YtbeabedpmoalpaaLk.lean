/-
  The laws' helpers over disks: known, Sector.
-/
import Derived.Test.YtbeabedpmoalpaaDk5
namespace Go.Proofs.Ytbeabedpmoalpaa
open Go.RowKit Go.Maps Go.MapKept
variable {e : Env} {b : Nat} {d : Dk} {L : List HP} {w : World}

theorem known_calls (h : Sat e L w) : Calls Try.prog 12 #[] w fun x w' => x = .returned (.bool true) ∧ Sat e L w' := by
  have H := hide h
  clear h
  go_enter Try.func12, Try.ntmps12
  go_wp2_with (first
    | (go_at_call 14; refine (new_good H.out 8 (by omega) (by omega) (by omega)).mono ?_; rintro x w1 ⟨bb, rfl, h1⟩; have H1 := hide h1; clear h1)
    | (go_at_call 17; refine (size_calls H1.out).mono ?_; rintro x w2 ⟨rfl, rfl⟩; rw [show (Dk.fresh0 8).last.length = 8 from by simp [Dk.fresh0]]))
  go_ret
  exact ⟨rfl, H1.out.drop⟩

def u8 (n : Int) : UInt8 := UInt8.ofNat (n % 256).toNat
theorem B8_u8 (n : Int) : B8 (u8 n) = .int .u8 (n % 256) := by
  have h1 := Int.emod_nonneg n (show (256 : Int) ≠ 0 by omega)
  have h2 := Int.emod_lt_of_pos n (show (0 : Int) < 256 by omega)
  have : (u8 n).toNat = (n % 256).toNat := by
    simp only [u8, UInt8.toNat_ofNat']
    omega
  simp only [B8, this]
  congr 1
  omega

def secOf (n : Int) (l : List UInt8) : List UInt8 := (l.take 64 ++ zs.drop (l.take 64).length).set 63 (u8 n)
theorem secOf_len (n : Int) (l : List UInt8) : (secOf n l).length = 64 := by
  simp [secOf, zs]; omega

theorem made_u8 (n : Nat) : (madeCells (Value.int .u8 0).cells (n * 1)).toList = List.replicate n (B8 0) := by
  apply List.ext_getElem
  · simp [size_madeCells]
  · intro i h1 h2
    simp [madeCells, Value.cells, B8, Nat.mod_one]

theorem laid_sec (l : List UInt8) : laid (List.replicate 64 (B8 0)).toArray 0 ((l.map B8).take 64) = ((l.take 64 ++ zs.drop (l.take 64).length).map B8).toArray := by
  simp [laid, zs, List.map_take]

theorem sec_get (l : List UInt8) : (laid (List.replicate 64 (B8 0)).toArray 0 ((l.map B8).take 64))[63]? = some (B8 ((l.take 64 ++ zs.drop (l.take 64).length).getD 63 0)) := by
  rw [laid_sec]
  have : (l.take 64 ++ zs.drop (l.take 64).length).length = 64 := by simp [zs]; omega
  generalize l.take 64 ++ zs.drop (l.take 64).length = q at *
  simp [this]

set_option maxRecDepth 100000 in
set_option maxHeartbeats 400000 in
theorem sector_calls (h : Sat e L w) (n : Int) (v : Value) (l : List UInt8) (H : View e.h v l.length (l.map B8)) :
    Calls Try.prog 19 #[.int .i64 n, v] w fun x w' => ∃ g, x = .returned (.slice (some ⟨g, 0, none⟩) 64 64) ∧ Sat e (HP.row 5 1 (.slice (some ⟨g, 0, none⟩) 64 64) 64 ((secOf n l).map B8) :: L) w' := by
  obtain ⟨i0, hi, hz0, hz1, hz2⟩ := info_parts info_u8
  have hi1 : (Try.prog.info? 5).map (·.size) = some 1 := by kernel_rfl
  have HS := hide h
  have HI := hide hi
  have HV := hide H
  have HI1 := hide hi1
  obtain ⟨base, cap, hv, _⟩ := H
  subst hv
  clear h hi hi1
  go_enter Try.func19, Try.ntmps19
  go_wp2_with (first
    | (at_make; (with_reducible refine wpList_make_sl rfl (.const (.int .i64 64)) (.const (.int .i64 64)) 32 rfl Try.underlying32 HI.out hz0 hz1 hz2 64 rfl rfl (by omega) (by omega) HS.out (by omega) (by unfold maxLen; omega) ?_); intro g w1 h1; rw [made_u8] at h1; have H1 := hide h1.row_blk; clear h1)
    | ((with_reducible refine wpList_copy_sl rfl (.tmp 7) (.tmp 8) 32 32 rfl Try.underlying32 HI1.out rfl (HV.out.sat H1.out) rfl (by simp) (map_B8_one l) H1.out (by simp) ?_); intro w2 h2; have c63 := (cell_of h2.at 63); have f63 := unfrozen_of h2.at 63; have H2 := hide h2; clear h2; rw [sec_get] at c63))
  have h3 := H2.out.setCell (i := 63) (.int .u8 (n % 256))
  have e1 : (laid (List.replicate 64 (B8 0)).toArray 0 ((l.map B8).take 64)).setIfInBounds 63 (.int .u8 (n % 256)) = ((secOf n l).map B8).toArray := by
    rw [laid_sec, set_toArray, ← B8_u8, ← List.map_set]; rfl
  rw [e1] at h3
  go_ret
  exact ⟨g, rfl, row_of_toArray h3 (by simp [secOf_len]) (by unfold maxLen; omega)⟩

theorem sec_view {g cap : Nat} {q : List UInt8} (hq : q.length = 64) (h : Sat e (HP.row 5 1 (.slice (some ⟨g, 0, none⟩) 64 cap) 64 (q.map B8) :: L) w) : View (World.frag w) (.slice (some ⟨g, 0, none⟩) 64 cap) q.length (q.map B8) := by
  rw [hq]; exact h.row_view

/-- What a write leaves. -/
def Dk.wrote (d : Dk) (n : Int) (l : List UInt8) : Dk := { d.spend with fresh := kput d.fresh n l }

theorem wrote_cur (d : Dk) (n j : Int) (l : List UInt8) : (d.wrote n l).cur j = if n = j then l else d.cur j := by
  have h1 : d.spend.last = d.last := by unfold Dk.spend; split <;> rfl
  unfold Dk.cur Dk.wrote
  simp only [kget_kput, h1]
  split <;> rfl

theorem wrote_ok (hOk : d.Ok) (n : Int) (l : List UInt8) (hl : l.length = 64) (hn : d.has n = true) : (d.wrote n l).Ok := by
  have h1 : d.spend.last = d.last := by unfold Dk.spend; split <;> rfl
  refine ⟨by simpa [Dk.wrote, h1] using hOk.sec, ?_, by simpa [Dk.wrote, h1] using hOk.most⟩
  intro p hp
  simp only [Dk.wrote, h1] at hp ⊢
  rcases kput_mem hp with h | rfl
  · exact hOk.fr p h
  · simp only [Dk.has, Bool.and_eq_true, decide_eq_true_eq] at hn
    exact ⟨hl, hn.1, hn.2⟩

/-- Its first byte is changed. -/
theorem sec_poke {g cap : Nat} {q : List UInt8} (hq : q.length = 64) (h : Sat e (HP.row 5 1 (.slice (some ⟨g, 0, none⟩) 64 cap) 64 (q.map B8) :: L) w) (y : Int) :
    w.cell? ⟨g, 0, none⟩ = some (.int .u8 (q.getD 0 0).toNat) ∧ w.frozen? ⟨g, 0, none⟩ = false ∧ Sat e (HP.row 5 1 (.slice (some ⟨g, 0, none⟩) 64 cap) 64 ((q.set 0 (u8 ((q.getD 0 0).toNat + y))).map B8) :: L) (w.setCell ⟨g, 0, none⟩ (.int .u8 (((q.getD 0 0).toNat + y) % 256))) := by
  obtain ⟨h1, h2, h3⟩ := h.row_cell (i := 0) (by simp [hq])
  refine ⟨?_, h2, ?_⟩
  · rw [h1]
    cases q with
    | nil => simp at hq
    | cons x r => simp [B8]
  · rw [List.map_set, B8_u8]; exact h3 _

/-- A sector that is owned is written: it stays what it is. -/
theorem write_row {g : Nat} {q : List UInt8} (h : Sat e (HP.row 5 1 (.slice (some ⟨g, 0, none⟩) 64 64) 64 (q.map B8) :: HP.disk b d :: L) w) (hq : q.length = 64) (n : Int) (h1 : 0 ≤ d.ops) (h2 : d.ops < 1000000000) (hf4 : d.fuse < 9223372036854775808)
    (hd : d.dead = false) (hn : d.has n = true) (hmost : d.last.length ≤ 256) (hf : d.fuse ≠ 0) :
    Calls Try.prog 20 #[.pointer (some ⟨b, 0, none⟩), .int .i64 n, .slice (some ⟨g, 0, none⟩) 64 64] w fun x w' => x = .returned (.int .i64 0) ∧ Sat e (HP.row 5 1 (.slice (some ⟨g, 0, none⟩) 64 64) 64 (q.map B8) :: HP.disk b (d.wrote n q) :: L) w' := by
  refine (write_ok h.swap h1 h2 hf4 n g 0 64 q hq ?_ hd hn hmost hf).mono ?_
  · intro d' w' hs' j u hj
    rw [cell_of (hs'.swap.row_blk.at) (0 + j)]
    simpa using hj
  · rintro x w' ⟨rfl, h5⟩
    exact ⟨rfl, h5.swap⟩
end Go.Proofs.Ytbeabedpmoalpaa
