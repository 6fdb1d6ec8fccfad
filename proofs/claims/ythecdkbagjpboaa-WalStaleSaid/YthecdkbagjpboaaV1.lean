/-
  deadboltref2: num.
-/
import Derived.Test.YthecdkbagjpboaaWz
namespace Go.Proofs.Ythecdkbagjpboaa
open Go.RowKit Go.Maps Go.MapKept
variable {b : Env} {L : List HP} {w : World}
theorem or_add2 (m x : Nat) (hm : m < 16777216) (hx : x < 256) : bits .or .i64 (wrap64 ((m : Int) * 256)) (wrap64 (x : Int)) = ((x + 256 * m : Nat) : Int) := by
  rw [show (m : Int) * 256 = ((m * 256 : Nat) : Int) from by omega, wrap64_small (by omega) (by omega), wrap64_small (by omega) (by omega)]
  have hb : (BitVec.ofInt 64 ((m * 256 : Nat) : Int) ||| BitVec.ofInt 64 (x : Int)).toNat = x + 256 * m := by
    rw [BitVec.toNat_or, BitVec.toNat_ofInt, BitVec.toNat_ofInt]
    have h1 : (((m * 256 : Nat) : Int) % ((2 ^ 64 : Nat) : Int)).toNat = m * 256 := by omega
    have h2 : ((x : Int) % ((2 ^ 64 : Nat) : Int)).toNat = x := by omega
    rw [h1, h2]
    have h3 : m * 256 = m <<< 8 := by rw [Nat.shiftLeft_eq]
    have h4 : x < 2 ^ 8 := hx
    rw [h3, ← Nat.shiftLeft_add_eq_or_of_lt h4, Nat.shiftLeft_eq, Nat.add_comm, Nat.mul_comm]
  show IntKind.i64.wrap ((BitVec.ofInt 64 ((m * 256 : Nat) : Int) ||| BitVec.ofInt 64 (x : Int)).toNat : Nat) = _
  rw [hb]
  exact wrap_small (by omega) (by omega)
def NumAt (w : World) (l : Byt) (n i : Value) (wr : World) : Prop := ∃ k : Nat, k ≤ l.length ∧ i = .int .i64 k ∧ n = .int .i64 (numB (l.drop k) : Nat) ∧ w = wr
theorem rnum_calls {g off cap : Nat} {l : Byt} (hc : ∀ j (h : j < l.length), w.cell? ⟨g, off + j, none⟩ = some (B8 l[j])) (hl : l.length ≤ 4) :
    Calls Try.prog 77 #[.slice (some ⟨g, off, none⟩) l.length cap] w fun x w' => x = .returned (.int .i64 (numB l : Nat)) ∧ w = w' := by
  have HC := hide hc
  clear hc
  go_enter Try.func77, Try.ntmps77
  go_wp2_with fail
  go_loopw [3, 4] (fun n i wr => NumAt w l n i wr) (fun _ i _ => (intOf i).toNat)
  case atStart => exact ⟨l.length, by omega, rfl, by rw [List.drop_length]; rfl, rfl⟩
  case round =>
    obtain ⟨k, hk, rfl, rfl, rfl⟩ := hrel
    by_cases hlt : 0 < k
    · obtain ⟨k, rfl⟩ : ∃ j, k = j + 1 := ⟨k - 1, by omega⟩
      have hkl : k < l.length := by omega
      have hcc := HC.out k hkl
      have hcc2 : w.cell? ⟨g, off + k, none⟩ = some (.int .u8 (l[k].toNat : Int)) := hcc
      clear hcc
      have hsu : numB (l.drop k) = l[k].toNat + 256 * numB (l.drop (k + 1)) := by rw [List.drop_eq_getElem_cons hkl]; rfl
      have hml := numB_lt (l.drop (k + 1))
      have hp3 : 256 ^ (l.drop (k + 1)).length ≤ 256 ^ 3 := Nat.pow_le_pow_right (by decide) (by rw [List.length_drop]; omega)
      have hor := or_add2 (numB (l.drop (k + 1))) l[k].toNat (by have : 256 ^ 3 = 16777216 := by decide
                                                                 omega) l[k].toNat_lt
      rw [← hsu] at hor
      have HOR := hide hor
      clear hsu hml hor hp3
      generalize l[k].toNat = x at hcc2 HOR
      generalize numB (l.drop (k + 1)) = m at HOR ⊢
      go_wp2_with fail
      go_roundw
      case rel => exact ⟨k, by omega, rfl, by rw [HOR.out], rfl⟩
      case measure => simp [intOf]
    · have hk0 : k = 0 := by omega
      subst hk0
      go_wp2_with fail
      go_ret
      exact ⟨rfl, rfl⟩
theorem xor_max (c : Int) : bits BinOp.xor IntKind.u32 IntKind.u32.max c = bits BinOp.xor IntKind.u32 c 4294967295 := by
  show IntKind.u32.wrap _ = IntKind.u32.wrap _
  congr 2
  show (BitVec.ofInt _ _ ^^^ BitVec.ofInt _ _).toNat = (BitVec.ofInt _ _ ^^^ BitVec.ofInt _ _).toNat
  rw [BitVec.xor_comm]
  rfl
theorem rcrc_calls {v : Value} {l : Byt} (h : St b L w) (hm : HP.sl byteE v l ∈ L) :
    Calls Try.prog 67 #[v] w fun x w' => x = .returned (.int .u32 (crcR l)) ∧ w = w' := by
  obtain ⟨base, cap, rfl, hc1, hc2⟩ := h.sl_form hm
  have hli : (l.length : Int) ≤ 9223372036854775807 := by unfold maxLen at hc2; omega
  have H := hide h
  have HM := hide hm
  clear h hm hc1 hc2
  go_enter Try.func67, Try.ntmps67
  go_wp2_with fail
  go_loopw [3, 4] (fun n i wr => CrcA w l n i wr) (fun _ i _ => l.length - (intOf i).toNat)
  case atStart => exact ⟨0, by omega, rfl, rfl, rfl⟩
  case round =>
    obtain ⟨k, hk, rfl, rfl, rfl⟩ := hrel
    by_cases hlt : k < l.length
    · have hlt' : (k : Int) < l.length := by omega
      obtain ⟨g, o, rfl⟩ := H.out.sl_base HM.out (by omega) Nat.one_pos
      have hcc : w.cell? ⟨g, o + k, none⟩ = some (.int .u8 (l[k].toNat : Int)) := (H.out.sc_at HM.out hlt).1
      have hsu : crcL 4294967295 (l.take (k + 1)) = crcBits (bits BinOp.xor IntKind.u32 (crcL 4294967295 (l.take k)) ((l[k].toNat : Int) % 4294967296)) 8 := by
        rw [List.take_succ_eq_append_getElem hlt]; unfold crcL; rw [List.foldl_append]; rfl
      have HSU := hide hsu
      clear hsu
      generalize hx : l[k].toNat = x at hcc HSU
      generalize crcL 4294967295 (l.take k) = m at HSU ⊢
      go_wp2_with fail
      go_loopw [3, 5] (fun n i wr => CrcB w (bits BinOp.xor IntKind.u32 m ((x : Int) % 4294967296)) n i wr) (fun _ i _ => 8 - (intOf i).toNat)
      case atStart => exact ⟨0, by omega, rfl, rfl, rfl⟩
      case round =>
        obtain ⟨j, hj, rfl, rfl, rfl⟩ := hrel
        by_cases hltj : j < 8
        · have hltj' : (j : Int) < 8 := by omega
          generalize hq : crcBits (bits BinOp.xor IntKind.u32 m ((x : Int) % 4294967296)) j = q
          go_wp2_with fail
          · have hb : (bits BinOp.and IntKind.u32 q 1 == 1) = true := by assumption
            go_roundw
            case rel => exact ⟨j + 1, by omega, by go_num, by rw [crcBits, hq, crcBit, if_pos hb], rfl⟩
            case measure => exact meas_step hltj
          · have hb : (bits BinOp.and IntKind.u32 q 1 == 1) = false := by assumption
            go_roundw
            case rel => exact ⟨j + 1, by omega, by go_num, by rw [crcBits, hq, crcBit, if_neg (by rw [hb]; decide)], rfl⟩
            case measure => exact meas_step hltj
        · have hj8 : j = 8 := by omega
          subst hj8
          go_wp2_with fail
          go_roundw
          case rel => exact ⟨k + 1, by omega, by go_num, by rw [HSU.out], rfl⟩
          case measure => exact meas_step hlt
    · have hk2 : k = l.length := by omega
      subst hk2
      rw [List.take_of_length_le (Nat.le_refl _)]
      go_wp2_with fail
      go_ret
      exact ⟨by unfold crcR; rw [xor_max]; rfl, rfl⟩
end Go.Proofs.Ythecdkbagjpboaa
