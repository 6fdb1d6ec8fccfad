/-
  package disk: Crash.
-/
import Derived.Test.YtbeabedpmoalpaaDk8
namespace Go.Proofs.Ytbeabedpmoalpaa
open Go.RowKit Go.Maps Go.MapKept
variable {e : Env} {b : Nat} {d : Dk} {L : List HP} {w : World}

def bitOf (pick : List UInt8) (k : Nat) : Bool := decide (k / 8 < pick.length) && decide ((pick.getD (k / 8) 0).toNat / 2 ^ (k % 8) % 2 = 1)

/-- Crash. -/
def Dk.crashed (d : Dk) (pick : List UInt8) : Dk := { d.settleN d.keys (bitOf pick) d.keys.length with fuse := -1, dead := false }

theorem u8_and1 (n : Int) : bits .and .u8 n 1 = n % 2 := by
  have h1 : (BitVec.ofInt 8 1).toNat = 2 ^ 1 - 1 := by decide
  have key : (BitVec.ofInt 8 n &&& BitVec.ofInt 8 1).toNat = (n % ((2 ^ 8 : Nat) : Int)).toNat % 2 ^ 1 := by
    rw [BitVec.toNat_and, BitVec.toNat_ofInt, h1, Nat.and_two_pow_sub_one_eq_mod]
  show IntKind.u8.wrap ((BitVec.ofInt 8 n &&& BitVec.ofInt 8 1).toNat : Nat) = n % 2
  rw [key]
  simp only [IntKind.wrap, IntKind.bits, IntKind.signed]
  simp
  omega

theorem bit_eq (pick : List UInt8) (k : Nat) (h : k / 8 < pick.length) : (bits BinOp.and IntKind.u8 ((pick[k / 8].toNat : Int) / 2 ^ (k % 8)) 1 == 1) = bitOf pick k := by
  rw [u8_and1]
  unfold bitOf
  have e1 : pick.getD (k / 8) 0 = pick[k / 8] := by simp [List.getD, h]
  rw [e1]
  have e2 : ((pick[k / 8].toNat : Int) / 2 ^ (k % 8)) % 2 = ((pick[k / 8].toNat / 2 ^ (k % 8) % 2 : Nat) : Int) := by
    simp
  rw [e2]
  simp only [h, decide_true, Bool.true_and]
  rw [Bool.eq_iff_iff]
  simp only [beq_iff_eq, decide_eq_true_eq]
  omega

theorem settle_calls (h : Sat e (HP.disk b d :: L) w) (hOk : d.Ok) (n : Nat) (hok : okInt n) (hn : n < d.last.length) (s : List UInt8) (hs : s.length = 64) (hk : kget d.fresh (n : Int) = some s) (is : Bool) : Calls Try.prog 33 #[.pointer (some ⟨b, 0, none⟩), .int .i64 n, .bool is] w
    fun x w' => x = .returned (.tuple #[]) ∧ Sat e (HP.disk b (d.settle n is) :: L) w' := by
  cases is
  · exact settle_false h n hok
  · exact settle_true h hOk n hok hn s hs hk

set_option maxRecDepth 100000 in
set_option maxHeartbeats 1000000 in
theorem crash_calls (h : Sat e (HP.disk b d :: L) w) (hF : d.Fine) (pv : Value) (pick : List UInt8) (H : View e.h pv pick.length (pick.map B8)) :
    Calls Try.prog 24 #[.pointer (some ⟨b, 0, none⟩), pv] w fun x w' => x = .returned (.tuple #[]) ∧ Sat e (HP.disk b (d.crashed pick) :: L) w' := by
  have HS := hide h
  have HV := hide H
  have HFI := hide hF
  have hlen := fresh_len hF
  have hkl : d.keys.length ≤ 256 := by simpa [Dk.keys, sortI] using hlen
  have HLN := hide hlen
  have hfl : d.crashed pick = { d.settleN d.keys (bitOf pick) d.keys.length with fuse := -1, dead := false } := rfl
  have HFL := hide hfl
  obtain ⟨pbase, pcap, hv, _⟩ := H
  subst hv
  clear h hF hlen hfl
  go_enter Try.func24, Try.ntmps24
  go_wp2_with (go_at_call 32; refine (written_calls HS.out HLN.out).mono ?_; rintro x w2 ⟨v, rfl, hs2⟩; obtain ⟨base, cap, hv, _⟩ := hs2.row_view; subst hv; have H2 := hide hs2; clear hs2)
  go_loopw [4, 5, 9] (fun _ _ i wr => LoopAt e b d L base cap (bitOf pick) i wr) (fun _ _ i _ => d.keys.length - (intOf i).toNat)
  case atStart => exact ⟨0, Nat.zero_le _, rfl, H2.out⟩
  case round =>
    obtain ⟨k, hk, rfl, hsk⟩ := hrel
    have HSK := hide hsk
    clear hsk
    by_cases hlt : k < d.keys.length
    · obtain ⟨g, hg⟩ := HSK.out.row_base (by omega)
      subst hg
      obtain ⟨s, hs1, hs2, hs3, hs4⟩ := settleN_at HFI.out (bitOf pick) k hlt
      obtain ⟨m, hm⟩ := Int.eq_ofNat_of_zero_le hs3
      have hcell : wr.cell? ⟨g, k, none⟩ = some (.int .i64 m) := by
        rw [(HSK.out.row_cell (i := k) (by simpa using hlt)).1]
        have : d.keys[k] = (m : Int) := by rw [← hm]; simp [List.getD, hlt]
        simp [hlt, this, eInt]
      have hmost := HFI.out.ok.most
      have hml : m < (d.settleN d.keys (bitOf pick) k).last.length := by rw [settleN_len]; omega
      have hok : okInt (m : Int) := by unfold okInt; exact WalkArith.wf_i64 (by omega)
      have hstep : (d.settleN d.keys (bitOf pick) k).settle m (bitOf pick k) = d.settleN d.keys (bitOf pick) (k + 1) := by rw [← hm]; rfl
      rw [hm] at hs1
      have HG := hide hs1
      have HS2 := hide hs2
      have HML := hide hml
      have HOK := hide hok
      have HST := hide hstep
      clear hs1 hs2 hs3 hs4 hm hmost hml hok hstep
      by_cases hp : k / 8 < pick.length
      · obtain ⟨pb, po, pc, hpv, hpc⟩ := (HV.out.sat HSK.out).cells (by intro hx; have := congrArg List.length hx; simp at this; rw [this] at hp; simp at hp)
        simp only [Value.slice.injEq] at hpv
        obtain ⟨hpv1, _, hpv3⟩ := hpv
        subst hpv1
        subst hpv3
        have hpx : wr.cell? ⟨pb, po + k / 8, none⟩ = some (.int .u8 (pick.getD (k / 8) 0).toNat) := by
          rw [hpc (k / 8) (B8 (pick.getD (k / 8) 0)) (by simp [List.getD, hp])]; rfl
        clear hpc
        have hb := bit_eq pick k hp
        have HB := hide hb
        clear hb
        go_wp2_with (go_at_call 33; refine (settle_calls HSK.out.swap (settleN_fine HFI.out _ _ k).ok m HOK.out HML.out s HS2.out HG.out _).mono ?_; rintro x w3 ⟨rfl, h3⟩; rw [HB.out, HST.out] at h3; have H3 := hide h3; clear h3)
        go_roundw
        case rel => exact ⟨k + 1, by omega, by go_num, H3.out.swap⟩
        case measure => simp [intOf]; omega
      · have hb : bitOf pick k = false := by simp [bitOf, hp]
        have hst := HST.out
        rw [hb] at hst
        have HST2 := hide hst
        clear hst hb
        go_wp2_with (go_at_call 33; refine (settle_calls HSK.out.swap (settleN_fine HFI.out _ _ k).ok m HOK.out HML.out s HS2.out HG.out _).mono ?_; rintro x w3 ⟨rfl, h3⟩; rw [HST2.out] at h3; have H3 := hide h3; clear h3)
        go_roundw
        case rel => exact ⟨k + 1, by omega, by go_num, H3.out.swap⟩
        case measure => simp [intOf]; omega
    · have hke : k = d.keys.length := by omega
      obtain ⟨lb, mb, hsd⟩ := HSK.out.drop.disk_open
      rw [hke] at hsd
      have D := hsd.disk_at
      have c3 := D.c3
      have c4 := D.c4
      have f3 := D.f3
      have f4 := D.f4
      have hfin : Sat e (HP.disk b (d.crashed pick) :: L) ((wr.setCell ⟨b, 3, none⟩ (.int .i64 (-1))).setCell ⟨b, 4, none⟩ (.bool false)) := by
        refine Sat.disk_shut (lb := lb) (mb := mb) ?_
        rw [HFL.out]
        exact (hsd.setCell (i := 3) (.int .i64 (-1))).setCell (i := 4) (.bool false)
      have HFN := hide hfin
      clear hfin hke hsd D
      go_wp2_with fail
      go_end0
      exact ⟨rfl, HFN.out⟩
end Go.Proofs.Ytbeabedpmoalpaa
