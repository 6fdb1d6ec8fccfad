/-
  No program in sight: numbers as bytes, Parts, what is cut and joined. Types of logs' sectors; small things for loops. package sect: within, lay, told. package sect: Crc. bytes.Clone, bytes.Equal; package sect: sum. No program in sight: blocks of bytes: copied into, appended from; what is laid.
-/
import Derived.Test.YtcgnkloljfgiaaaGreatDoorSt
import Derived.Test.YtcgnkloljfgiaaaGreatDoorGt
import Derived.Test.YtcgnkloljfgiaaaGreatDoorSs
import Derived.Test.YtcgnkloljfgiaaaGreatDoorGqd
import Derived.Lib.LazyBuf
import Derived.Lib.SliceRun
namespace Go.Proofs.YtcgnkloljfgiaaaGreatDoor

abbrev Byt := List UInt8
/-- A number's k lowest bytes, the lowest first. -/
def leB (n : Nat) : Nat → Byt
  | 0 => []
  | k + 1 => UInt8.ofNat n :: leB (n / 256) k
def numB : Byt → Nat
  | [] => 0
  | x :: l => x.toNat + 256 * numB l
theorem leB_len : ∀ (k n : Nat), (leB n k).length = k
  | 0, _ => rfl
  | k + 1, n => by simp [leB, leB_len k]
theorem numB_leB : ∀ (k n : Nat), n < 256 ^ k → numB (leB n k) = n
  | 0, n, h => by simp at h; subst h; rfl
  | k + 1, n, h => by
    have h1 : n / 256 < 256 ^ k := by
      rw [Nat.div_lt_iff_lt_mul (by decide), ← Nat.pow_succ]; exact h
    simp only [leB, numB, numB_leB k _ h1, UInt8.toNat_ofNat']
    omega
theorem numB_lt : ∀ l : Byt, numB l < 256 ^ l.length
  | [] => by decide
  | x :: l => by
    have h1 := numB_lt l
    have h2 := x.toNat_lt
    simp only [numB, List.length_cons, Nat.pow_succ]
    omega
theorem leB_numB : ∀ l : Byt, leB (numB l) l.length = l
  | [] => rfl
  | x :: l => by
    have h2 := x.toNat_lt
    simp only [numB, List.length_cons, leB]
    have e1 : (x.toNat + 256 * numB l) / 256 = numB l := by omega
    rw [e1, leB_numB l]
    congr 1
    apply UInt8.toNat_inj.1
    rw [UInt8.toNat_ofNat']
    omega
theorem leB_snoc : ∀ (k n : Nat), leB n (k + 1) = leB n k ++ [UInt8.ofNat (n / 256 ^ k)]
  | 0, n => by simp [leB]
  | k + 1, n => by
    rw [leB, leB_snoc k (n / 256), leB]
    simp [Nat.div_div_eq_div_mul, Nat.pow_succ, Nat.mul_comm]

/-- Fifty-two bytes a sector: how many Parts so many bytes take. -/
def partsOf (n : Nat) : Nat := (4 + n + 51) / 52
/-- All the bytes that are cut: a length, the bytes, noughts. -/
def wholeB (b : Byt) : Byt := leB b.length 4 ++ b ++ List.replicate (partsOf b.length * 52 - (4 + b.length)) 0
theorem wholeB_len (b : Byt) : (wholeB b).length = partsOf b.length * 52 := by
  simp only [wholeB, List.length_append, leB_len, List.length_replicate, partsOf]; omega
structure PartR where
  gen : Nat
  rc : Nat
  n : Nat
  of : Nat
  data : Byt
def partAt (gen rec : Nat) (b : Byt) (i : Nat) : PartR := ⟨gen, rec, i, partsOf b.length, ((wholeB b).drop (i * 52)).take 52⟩
def cutB (gen rec : Nat) (b : Byt) : List PartR := (List.range (partsOf b.length)).map (partAt gen rec b)
theorem cutB_len (gen rec : Nat) (b : Byt) : (cutB gen rec b).length = partsOf b.length := by simp [cutB]
theorem partsOf_pos (n : Nat) : 0 < partsOf n := by unfold partsOf; omega
theorem partAt_len (gen rec : Nat) (b : Byt) {i : Nat} (hi : i < partsOf b.length) : (partAt gen rec b i).data.length = 52 := by
  simp only [partAt, List.length_take, List.length_drop, wholeB_len]
  have : (i + 1) * 52 ≤ partsOf b.length * 52 := Nat.mul_le_mul_right _ hi
  omega
theorem chunks_flat (l : Byt) : ∀ n : Nat, l.length = n * 52 → ((List.range n).map (fun i => (l.drop (i * 52)).take 52)).flatten = l
  | 0, h => by simp at h; simp [h]
  | n + 1, h => by
    rw [List.range_succ, List.map_append, List.flatten_append]
    have h1 := chunks_flat (l.take (n * 52)) n (by rw [List.length_take]; omega)
    have h2 : (List.range n).map (fun i => (l.drop (i * 52)).take 52) = (List.range n).map (fun i => ((l.take (n * 52)).drop (i * 52)).take 52) := by
      apply List.map_congr_left
      intro i hi
      rw [List.mem_range] at hi
      have : (i + 1) * 52 ≤ n * 52 := Nat.mul_le_mul_right _ hi
      rw [List.drop_take, List.take_take, Nat.min_eq_left (by omega)]
    rw [h2, h1]
    simp only [List.map_cons, List.map_nil, List.flatten_cons, List.flatten_nil, List.append_nil]
    rw [List.take_of_length_le (l := l.drop (n * 52)) (by rw [List.length_drop]; omega), List.take_append_drop]
theorem cut_flat (gen rec : Nat) (b : Byt) : ((cutB gen rec b).map (·.data)).flatten = wholeB b := by
  rw [cutB, List.map_map]
  exact chunks_flat (wholeB b) _ (wholeB_len b)
/-- What was cut is told by its first four bytes, and by what is behind them. -/
theorem whole_num (b : Byt) (h : b.length < 4294967296) : numB ((wholeB b).take 4) = b.length ∧ ((wholeB b).drop 4).take b.length = b := by
  have e : wholeB b = leB b.length 4 ++ (b ++ List.replicate (partsOf b.length * 52 - (4 + b.length)) 0) := by simp [wholeB]
  have hl := leB_len 4 b.length
  rw [e]
  refine ⟨?_, ?_⟩
  · rw [List.take_append_of_le_length (by omega), List.take_of_length_le (by omega), numB_leB 4 _ h]
  · rw [List.drop_append_of_le_length (by omega), List.drop_of_length_le (by omega), List.nil_append, List.take_left]
end Go.Proofs.YtcgnkloljfgiaaaGreatDoor

namespace Go.Proofs.YtcgnkloljfgiaaaGreatDoor
open Go.RowKit Go.Maps Go.MapKept
theorem slPart : SlT Tryz.prog 129 127 5 56 (.agg #[.int .i64 0, .int .i64 0, .int .i64 0, .int .i64 0, .slice none 0 0]) := ⟨Tryz.underlying129, by kernel_rfl, rfl, by decide, by decide⟩
theorem agPart : AgT Tryz.prog 127 [.int .i64 0, .int .i64 0, .int .i64 0, .int .i64 0, .slice none 0 0] := ⟨Tryz.zeroValue127, ⟨_, Tryz.underlying127, rfl⟩, by kernel_rfl⟩
theorem agLog : AgT Tryz.prog 118 [.pointer none, .int .i64 0, .int .i64 0, .int .i64 0, .int .i64 0, .int .i64 0] := ⟨Tryz.zeroValue118, ⟨_, Tryz.underlying118, rfl⟩, by kernel_rfl⟩
theorem meas_step {n k : Nat} (h : k < n) : n - (intOf (.int .i64 ((k : Int) + 1))).toNat < n - (intOf (.int .i64 (k : Int))).toNat := by simp [intOf]; omega
theorem wrap_small {n : Int} (h0 : -9223372036854775808 ≤ n) (h1 : n ≤ 9223372036854775807) : IntKind.i64.wrap n = n := by
  unfold IntKind.wrap IntKind.bits IntKind.signed
  simp
  omega
end Go.Proofs.YtcgnkloljfgiaaaGreatDoor

namespace Go.Proofs.YtcgnkloljfgiaaaGreatDoor
open Go.RowKit Go.Maps Go.MapKept
variable {b : Env} {L : List HP} {w : World}

set_option linter.unusedSimpArgs false in
theorem swithin_calls (n l m : Int) : Calls Tryz.prog 96 #[.int .i64 n, .int .i64 l, .int .i64 m] w fun x w' => x = .returned (.bool (decide (l ≤ n) && decide (n ≤ m))) ∧ w = w' := by
  by_cases h1 : l ≤ n
  · have e1 : decide (l ≤ n) = true := decide_eq_true h1
    go_enter Tryz.func96, Tryz.ntmps96
    go_wp2
    go_ret
    exact ⟨by simp [h1], rfl⟩
  · have e1 : decide (l ≤ n) = false := decide_eq_false h1
    go_enter Tryz.func96, Tryz.ntmps96
    go_wp2
    go_ret
    exact ⟨by simp [h1], rfl⟩
def layC (cs : List Value) (off v i : Nat) : List Value := cs.take off ++ (leB v i).map B8 ++ cs.drop (off + i)
def LayAt (b : Env) (L : List HP) (g : Nat) (U : TypeId) (cs : List Value) (off n v : Nat) (i : Value) (wr : World) : Prop := ∃ k : Nat, k ≤ n ∧ i = .int .i64 k ∧ St b (HP.blk g (.cells (layC cs off v k).toArray U) :: L) wr
theorem layC_len {cs : List Value} {off v i : Nat} (h : off + i ≤ cs.length) : (layC cs off v i).length = cs.length := by
  simp [layC, leB_len]; omega
theorem lay_val (v k : Nat) : Value.int .u8 ((v : Int) / 2 ^ (8 * k) % 256) = B8 (UInt8.ofNat (v / 256 ^ k)) := by
  unfold B8
  rw [UInt8.toNat_ofNat']
  have e : ((2 : Int) ^ (8 * k)) = ((256 ^ k : Nat) : Int) := by
    rw [Int.natCast_pow, Int.pow_mul]; rfl
  rw [e]
  congr 1
theorem layC_succ {cs : List Value} {off v k : Nat} (h : off + k < cs.length) : (layC cs off v k).set (off + k) (B8 (UInt8.ofNat (v / 256 ^ k))) = layC cs off v (k + 1) := by
  have hA : (cs.take off ++ (leB v k).map B8).length = off + k := by simp [leB_len]; omega
  unfold layC
  rw [List.set_append_right _ _ (by omega), hA, Nat.sub_self, List.drop_eq_getElem_cons h, List.set_cons_zero, leB_snoc]
  simp [Nat.add_assoc]
theorem lay_calls {g : Nat} {U : TypeId} {cs : List Value} (h : St b (HP.blk g (.cells cs.toArray U) :: L) w) (off n cap v : Nat) (hfit : off + n ≤ cs.length) (hn : n ≤ 8) (_ : v < 4294967296) :
    Calls Tryz.prog 97 #[.slice (some ⟨g, off, none⟩) n cap, .int .i64 v] w fun x w' => x = .returned (.tuple #[]) ∧ St b (HP.blk g (.cells (layC cs off v n).toArray U) :: L) w' := by
  have H := hide h
  clear h
  go_enter Tryz.func97, Tryz.ntmps97
  go_wp2_with fail
  go_loopw [7] (fun i wr => LayAt b L g U cs off n v i wr) (fun i _ => n - (intOf i).toNat)
  case atStart => exact ⟨0, by omega, rfl, by simpa [layC, leB] using H.out⟩
  case round =>
    obtain ⟨k, hk, rfl, hs⟩ := hrel
    have H1 := hide hs
    clear hs H
    by_cases hlt : k < n
    · have hlt' : (k : Int) < n := by omega
      have hll : off + k < (layC cs off v k).length := by rw [layC_len (by omega)]; omega
      have hcu : wr.cell? ⟨g, off + k, none⟩ = some (layC cs off v k)[off + k] := (H1.out.blk_cell mem0 (off + k)).trans (by simp [hll])
      have hfz : wr.frozen? ⟨g, off + k, none⟩ = false := H1.out.blk_free mem0 (off + k)
      go_wp2_with fail
      have hset := H1.out.setCell (i := off + k) (B8 (UInt8.ofNat (v / 256 ^ k)))
      rw [set_toArray, layC_succ (by omega), ← lay_val] at hset
      have HS := hide hset
      clear hset
      go_roundw
      case rel => exact ⟨k + 1, by omega, by go_num, HS.out⟩
      case measure => exact meas_step hlt
    · go_wp2_with fail
      have hk2 : k = n := by omega
      subst hk2
      go_end0
      exact ⟨rfl, H1.out⟩
theorem numB_append : ∀ (a c : Byt), numB (a ++ c) = numB a + 256 ^ a.length * numB c
  | [], c => by simp [numB]
  | x :: a, c => by
    simp only [List.cons_append, numB, numB_append a c, List.length_cons, Nat.pow_succ]
    rw [Nat.mul_add, ← Nat.add_assoc, ← Nat.mul_assoc, Nat.mul_comm 256 (256 ^ a.length)]
theorem numB_succ {l : Byt} {k : Nat} (hk : k < l.length) : numB (l.take (k + 1)) = numB (l.take k) + l[k].toNat * 256 ^ k := by
  rw [List.take_succ_eq_append_getElem hk, numB_append, List.length_take, Nat.min_eq_left (by omega)]
  simp [numB, Nat.mul_comm]
theorem wrap64_small {n : Int} (h0 : 0 ≤ n) (h1 : n ≤ 9223372036854775807) : wrap64 n = n := by unfold wrap64; omega
theorem or_add (m x k : Nat) (hm : m < 256 ^ k) (hx : x < 256) (hk : k < 4) : bits .or .i64 (m : Int) (wrap64 (wrap64 (x : Int) * 2 ^ (8 * k))) = ((m + x * 256 ^ k : Nat) : Int) := by
  have hp : 256 ^ k ≤ 16777216 := by
    have : k ≤ 3 := by omega
    calc 256 ^ k ≤ 256 ^ 3 := Nat.pow_le_pow_right (by decide) this
      _ = 16777216 := by decide
  have e1 : wrap64 (x : Int) = (x : Int) := wrap64_small (by omega) (by omega)
  have e2 : ((2 : Int) ^ (8 * k)) = ((256 ^ k : Nat) : Int) := by rw [Int.natCast_pow, Int.pow_mul]; rfl
  have hxp : x * 256 ^ k ≤ 255 * 16777216 := Nat.mul_le_mul (by omega) hp
  rw [e1, e2, ← Int.natCast_mul, wrap64_small (by omega) (by omega)]
  have hb : (BitVec.ofInt 64 (m : Int) ||| BitVec.ofInt 64 ((x * 256 ^ k : Nat) : Int)).toNat = m + x * 256 ^ k := by
    rw [BitVec.toNat_or, BitVec.toNat_ofInt, BitVec.toNat_ofInt]
    have h1 : ((m : Int) % ((2 ^ 64 : Nat) : Int)).toNat = m := by omega
    have h2 : (((x * 256 ^ k : Nat) : Int) % ((2 ^ 64 : Nat) : Int)).toNat = x * 256 ^ k := by omega
    rw [h1, h2]
    have h3 : x * 256 ^ k = x <<< (8 * k) := by rw [Nat.shiftLeft_eq, Nat.pow_mul]
    have h4 : m < 2 ^ (8 * k) := by rw [Nat.pow_mul]; exact hm
    rw [h3, Nat.or_comm, ← Nat.shiftLeft_add_eq_or_of_lt h4, Nat.add_comm]
  show IntKind.i64.wrap ((BitVec.ofInt 64 (m : Int) ||| BitVec.ofInt 64 ((x * 256 ^ k : Nat) : Int)).toNat : Nat) = _
  rw [hb]
  exact wrap_small (by omega) (by omega)
def ToldAt (w : World) (l : Byt) (n i : Value) (wr : World) : Prop := ∃ k : Nat, k ≤ l.length ∧ i = .int .i64 k ∧ n = .int .i64 (numB (l.take k) : Nat) ∧ w = wr
theorem told_calls {g off cap : Nat} {l : Byt} (hc : ∀ j (h : j < l.length), w.cell? ⟨g, off + j, none⟩ = some (B8 l[j])) (hl : l.length ≤ 4) :
    Calls Tryz.prog 115 #[.slice (some ⟨g, off, none⟩) l.length cap] w fun x w' => x = .returned (.int .i64 (numB l : Nat)) ∧ w = w' := by
  have HC := hide hc
  clear hc
  go_enter Tryz.func115, Tryz.ntmps115
  go_wp2_with fail
  go_loopw [3, 8] (fun n i wr => ToldAt w l n i wr) (fun _ i _ => l.length - (intOf i).toNat)
  case atStart => exact ⟨0, by omega, rfl, rfl, rfl⟩
  case round =>
    obtain ⟨k, hk, rfl, rfl, rfl⟩ := hrel
    by_cases hlt : k < l.length
    · have hlt' : (k : Int) < l.length := by omega
      have hcc := HC.out k hlt
      have hcc2 : w.cell? ⟨g, off + k, none⟩ = some (.int .u8 (l[k].toNat : Int)) := hcc
      clear hcc
      have hsu := numB_succ hlt
      have hml := numB_lt (l.take k)
      rw [List.length_take, Nat.min_eq_left (by omega)] at hml
      have hor := or_add (numB (l.take k)) l[k].toNat k hml l[k].toNat_lt (by omega)
      rw [← hsu] at hor
      have HOR := hide hor
      clear hsu hml hor
      generalize l[k].toNat = x at hcc2 HOR
      generalize numB (l.take k) = m at HOR ⊢
      go_wp2_with fail
      go_roundw
      case rel => exact ⟨k + 1, by omega, by go_num, by rw [HOR.out], rfl⟩
      case measure => exact meas_step hlt
    · go_wp2_with fail
      go_ret
      have hk2 : k = l.length := by omega
      subst hk2
      exact ⟨by rw [List.take_of_length_le (Nat.le_refl _)]; rfl, rfl⟩
end Go.Proofs.YtcgnkloljfgiaaaGreatDoor

namespace Go.Proofs.YtcgnkloljfgiaaaGreatDoor
open Go.RowKit Go.Maps Go.MapKept
variable {b : Env} {L : List HP} {w : World}

/-- A bit of the sum. -/
def crcBit (c : Int) : Int := if (bits BinOp.and IntKind.u32 c 1 == 1) = true then bits BinOp.xor IntKind.u32 (c / 2) 3988292384 else c / 2
def crcBits (c : Int) : Nat → Int
  | 0 => c
  | k + 1 => crcBit (crcBits c k)
def crcL (c : Int) (l : Byt) : Int := l.foldl (fun c x => crcBits (bits BinOp.xor IntKind.u32 c ((x.toNat : Int) % 4294967296)) 8) c
def crcR (l : Byt) : Int := bits BinOp.xor IntKind.u32 IntKind.u32.max (crcL 4294967295 l)
def CrcA (w : World) (l : Byt) (n i : Value) (wr : World) : Prop := ∃ k : Nat, k ≤ l.length ∧ i = .int .i64 k ∧ n = .int .u32 (crcL 4294967295 (l.take k)) ∧ w = wr
def CrcB (w : World) (c : Int) (n i : Value) (wr : World) : Prop := ∃ k : Nat, k ≤ 8 ∧ i = .int .i64 k ∧ n = .int .u32 (crcBits c k) ∧ w = wr
theorem crc_calls {v : Value} {l : Byt} (h : St b L w) (hm : HP.sl byteE v l ∈ L) :
    Calls Tryz.prog 134 #[v] w fun x w' => x = .returned (.int .u32 (crcR l)) ∧ w = w' := by
  obtain ⟨base, cap, rfl, hc1, hc2⟩ := h.sl_form hm
  have hli : (l.length : Int) ≤ 9223372036854775807 := by unfold maxLen at hc2; omega
  have H := hide h
  have HM := hide hm
  clear h hm hc1 hc2
  go_enter Tryz.func134, Tryz.ntmps134
  go_wp2_with fail
  go_loopw [3, 8] (fun n i wr => CrcA w l n i wr) (fun _ i _ => l.length - (intOf i).toNat)
  case atStart => exact ⟨0, by omega, rfl, rfl, rfl⟩
  case round =>
    obtain ⟨k, hk, rfl, rfl, rfl⟩ := hrel
    by_cases hlt : k < l.length
    · have hlt' : (k : Int) < l.length := by omega
      obtain ⟨g, o, rfl⟩ := H.out.sl_base HM.out (by omega) Nat.one_pos
      have hcc : w.cell? ⟨g, o + k, none⟩ = some (.int .u8 (l[k].toNat : Int)) := (H.out.sc_at HM.out hlt).1
      have hsu : crcL 4294967295 (l.take (k + 1)) = crcBits (bits BinOp.xor IntKind.u32 (crcL 4294967295 (l.take k)) ((l[k].toNat : Int) % 4294967296)) 8 := by
        rw [List.take_succ_eq_append_getElem hlt]; unfold crcL; rw [List.foldl_append]; rfl
      have HSU := hide hsu
      clear hsu
      generalize hx : l[k].toNat = x at hcc HSU
      generalize crcL 4294967295 (l.take k) = m at HSU ⊢
      go_wp2_with fail
      go_loopw [3, 16] (fun n i wr => CrcB w (bits BinOp.xor IntKind.u32 m ((x : Int) % 4294967296)) n i wr) (fun _ i _ => 8 - (intOf i).toNat)
      case atStart => exact ⟨0, by omega, rfl, rfl, rfl⟩
      case round =>
        obtain ⟨j, hj, rfl, rfl, rfl⟩ := hrel
        by_cases hltj : j < 8
        · have hltj' : (j : Int) < 8 := by omega
          generalize hq : crcBits (bits BinOp.xor IntKind.u32 m ((x : Int) % 4294967296)) j = q
          go_wp2_with fail
          · have hb : (bits BinOp.and IntKind.u32 q 1 == 1) = true := by assumption
            go_roundw
            case rel => exact ⟨j + 1, by omega, by go_num, by rw [crcBits, hq, crcBit, if_pos hb], rfl⟩
            case measure => exact meas_step hltj
          · have hb : (bits BinOp.and IntKind.u32 q 1 == 1) = false := by assumption
            go_roundw
            case rel => exact ⟨j + 1, by omega, by go_num, by rw [crcBits, hq, crcBit, if_neg (by rw [hb]; decide)], rfl⟩
            case measure => exact meas_step hltj
        · have hj8 : j = 8 := by omega
          subst hj8
          go_wp2_with fail
          go_roundw
          case rel => exact ⟨k + 1, by omega, by go_num, by rw [HSU.out], rfl⟩
          case measure => exact meas_step hlt
    · have hk2 : k = l.length := by omega
      subst hk2
      rw [List.take_of_length_le (Nat.le_refl _)]
      go_wp2_with fail
      go_ret
      exact ⟨rfl, rfl⟩
end Go.Proofs.YtcgnkloljfgiaaaGreatDoor

namespace Go.Proofs.YtcgnkloljfgiaaaGreatDoor
open Go.RowKit Go.Maps Go.MapKept
variable {b : Env} {L : List HP} {w : World}

theorem bclone_calls {g o cap : Nat} {l : Byt} (h : St b L w) (hm : HP.sl byteE (.slice (some ⟨g, o, none⟩) l.length cap) l ∈ L) (hl : l.length ≤ 1000000) :
    Calls Tryz.prog 98 #[.slice (some ⟨g, o, none⟩) l.length cap] w fun x w' => ∃ v, x = .returned v ∧ St b (HP.rows 5 byteE v l :: L) w' := by
  have H := hide h
  have HM := hide hm
  have hnl : ∀ w, (binOp .eql 37 (.slice (some ⟨g, o, none⟩) l.length cap) (.slice none 0 0)).run Tryz.prog w = .ok (.bool false) w := fun w => Lib.run_eql_slice_nil (h := Tryz.underlying37) ..
  have q1 : ([] : Byt).length + l.length ≤ maxLen := by simp; unfold maxLen; omega
  have q2 : (([] : Byt).length + l.length) * 1 ≤ 140737488355328 := by simp; omega
  clear h hm hl
  go_enter Tryz.func98, Tryz.ntmps98
  go_wp2_with (first
    | (refine wpList_build0_st (E := byteE) rfl slByte rfl H.out ?_; intro g9 w9 h9; have H9 := hide h9; clear h9 H)
    | (at_builtin; refine wpList_append_st rfl (.tmp 5) (.tmp 6) slByte rfl H9.out (Src.of_sl (up1 HM.out)) rfl rfl q1 q2 ?_; intro vb3 n3 vc3 w10 hn3 h10; rw [List.nil_append] at h10; have H10 := hide h10; clear h10 H9 hn3))
  go_ret
  exact ⟨_, rfl, H10.out⟩
theorem sc_rds {h : Frag} : ∀ {l : Byt} {cs : List Value}, byteE.rds h l cs → cs = l.map B8
  | [], _, H => H
  | x :: l, _, ⟨c, r, e, ⟨hc, _⟩, h2⟩ => by rw [e, hc, sc_rds h2]; rfl
theorem conv_str {v : Value} {l : Byt} (h : St b L w) (hr : Reads byteE L v l) : (convert 37 9 v).run Tryz.prog w = .ok (.string ⟨l.toArray⟩) w := by
  obtain ⟨e, _, hs⟩ := h
  rcases hr with hr | ⟨T, hr⟩
  · obtain ⟨cs, h1, h2, _⟩ := hs.sl_mem hr
    have hcs := sc_rds h1
    rw [hcs] at h2
    exact run_conv_bytes Tryz.underlying37 Tryz.underlying5 Tryz.underlying9 (h2.sat hs)
  · obtain ⟨L', h'⟩ := hs.mem_front hr
    obtain ⟨cs, h1, h2⟩ := h'.rows_open
    have hcs := sc_rds h1
    have h3 := h2.row_view
    rw [hcs] at h3
    exact run_conv_bytes Tryz.underlying37 Tryz.underlying5 Tryz.underlying9 h3
theorem bequal_calls {va vb : Value} {l m : Byt} (h : St b L w) (ha : Reads byteE L va l) (hb : Reads byteE L vb m) :
    Calls Tryz.prog 116 #[va, vb] w fun x w' => x = .returned (.bool (decide (l = m))) ∧ w = w' := by
  have c1 := conv_str h ha
  have c2 := conv_str h hb
  by_cases hlm : l = m
  · subst hlm
    go_enter Tryz.func116, Tryz.ntmps116
    go_wp2
    go_ret
    exact ⟨by simp, rfl⟩
  · have hne : (l == m) = false := by
      rw [beq_eq_false_iff_ne]; exact hlm
    go_enter Tryz.func116, Tryz.ntmps116
    go_wp2
    go_ret
    exact ⟨by simp [hlm], rfl⟩
end Go.Proofs.YtcgnkloljfgiaaaGreatDoor

namespace Go.Proofs.YtcgnkloljfgiaaaGreatDoor
open Go.RowKit Go.Maps Go.MapKept

theorem rds_bytes (h : Frag) : ∀ l : Byt, byteE.rds h l (l.map B8)
  | [] => rfl
  | _ :: l => ⟨_, _, rfl, ⟨rfl, trivial⟩, rds_bytes h l⟩
section
variable {b : Env} {L : List HP} {w : World} {T : TypeId}
theorem St.rows_bytes {g n : Nat} {l : Byt} (h : St b (HP.rows T byteE (.slice (some ⟨g, 0, none⟩) n n) l :: L) w) : St b (HP.blk g (.cells (l.map B8).toArray T) :: L) w := by
  obtain ⟨_, _, hv, _⟩ := h.rows_form mem0
  simp only [Value.slice.injEq] at hv
  obtain ⟨-, rfl, -⟩ := hv
  obtain ⟨e, hl, hs⟩ := h
  obtain ⟨cs, hr, hs⟩ := hs.rows_open
  rw [sc_rds hr] at hs
  exact ⟨e, hl, hs.row_blk⟩
theorem St.bytes_rows {g : Nat} {l : Byt} (h : St b (HP.blk g (.cells (l.map B8).toArray T) :: L) w) (hl : l.length ≤ maxLen) : St b (HP.rows T byteE (.slice (some ⟨g, 0, none⟩) l.length l.length) l :: L) w := by
  obtain ⟨e, hle, hs⟩ := h
  exact ⟨e, hle, Sat.rows_shut (cs := l.map B8) (row_of_toArray hs (by show _ = l.length * 1; simp) hl) (rds_bytes e.h l)⟩
theorem St.byte_cell {g : Nat} {l : Byt} {U : TypeId} (h : St b L w) (hm : HP.blk g (.cells (l.map B8).toArray U) ∈ L) (j : Nat) (hj : j < l.length) : w.cell? ⟨g, j, none⟩ = some (B8 l[j]) := by
  rw [h.blk_cell hm]; simp [hj]
theorem St.byte_cells {g : Nat} {l : Byt} {U : TypeId} (h : St b L w) (hm : HP.blk g (.cells (l.map B8).toArray U) ∈ L) (off n : Nat) (_hfit : off + n ≤ l.length) : ∀ j u, (((l.drop off).take n).map B8)[j]? = some u → w.cell? ⟨g, off + j, none⟩ = some u := by
  intro j u hj
  rw [h.blk_cell hm]
  rw [List.getElem?_map, List.getElem?_take] at hj
  split at hj
  · rw [List.getElem?_drop] at hj
    simp only [List.getElem?_toArray, List.getElem?_map]
    exact hj
  · simp at hj
end
section
variable {P : Program} {ops : Array Oper} {o : Oper} {a : Act} {w : World} {Q : Exit → Act → World → Prop} {b : Env} {L : List HP} {t T : TypeId} {bytes : Nat} {z : Value}
/-- 'append' of bytes onto what has no room: the bytes lie anew. -/
theorem St.append_anew (S : SlT P t T byteE.sz bytes z) (hs : St b L w) {g off cap g2 off2 cap2 : Nat} {l m : Byt} (hl : ∀ j u, (l.map B8)[j]? = some u → w.cell? ⟨g, off + j, none⟩ = some u) (hm : ∀ j u, (m.map B8)[j]? = some u → w.cell? ⟨g2, off2 + j, none⟩ = some u)
    (hgrow : cap < l.length + m.length) (h63 : l.length + m.length ≤ maxLen) (hbytes : (l.length + m.length) * bytes ≤ 140737488355328) (ty : TypeId) :
    ∃ base' cap' w', (Builtin.append_ #[t, t] ty #[.slice (some ⟨g, off, none⟩) l.length cap, .slice (some ⟨g2, off2, none⟩) m.length cap2]).run P w = .ok (.slice base' (l.length + m.length) cap') w' ∧ St b (HP.rows T byteE (.slice base' (l.length + m.length) cap') (l ++ m) :: L) w' := by
  obtain ⟨i, hi, hz, hsize, hby⟩ := info_parts S.info
  have hs1 : i.size = 1 := hsize
  have hr := run_append_grow (P := P) w t ty T i z S.ht hi hz ⟨g, off, none⟩ l.length cap (l.map B8) (by simp [hs1]) (fun j u hj => by rw [Addr.add_lit]; exact hl j u hj) ⟨g2, off2, none⟩ m.length cap2 (m.map B8) (by simp [hs1]) (fun j u hj => by rw [Addr.add_lit]; exact hm j u hj) hgrow (by unfold maxLen at h63; omega) (by rw [hby]; exact growslice_fits hgrow hbytes)
  refine ⟨_, _, _, hr, ?_⟩
  obtain ⟨e, hle, hs⟩ := hs
  have hlen : (l ++ m).length = l.length + m.length := List.length_append
  refine ⟨e, hle, Sat.rows_shut (cs := (l ++ m).map B8) ?_ (rds_bytes e.h _)⟩
  rw [hlen]
  have hge := grownCap_ge w (l.length + m.length) cap T
  refine (hs.drew.alloc (.cells ((l.map B8).toArray ++ (m.map B8).toArray ++ Builtin.zeroCells z.cells (grownCap w (l.length + m.length) cap T - (l.length + m.length))) T)).row_shut hge (grownCap_le_maxLen w (l.length + m.length) cap T h63) ?_ ?_
  · show _ = _ * 1
    have hzs : z.cells.size = 1 := S.zs
    simp only [Array.size_append, List.size_toArray, size_zeroCells, hzs, List.length_map]
    omega
  · show List.take ((l.length + m.length) * 1) _ = _
    simp only [Array.toList_append, List.map_append]
    have : (l.length + m.length) * 1 = (List.map B8 l ++ List.map B8 m).length := by simp
    rw [this]
    exact List.take_left
/-- 'copy' into a block, as many as there are. -/
theorem St.copy_in {t2 : TypeId} (ht : P.underlying t = some (.slice T)) (hi : (P.info? T).map (·.size) = some 1) {g off n cap : Nat} {l m : Byt} {U : TypeId} (hs : St b (HP.blk g (.cells (l.map B8).toArray U) :: L) w) {sv : Value} (hm : HP.sl byteE sv m ∈ L) (hn : m.length ≤ n) (hfit : off + n ≤ l.length) (ty : TypeId) :
    ∃ w' v, (Builtin.copy_ #[t, t2] ty #[.slice (some ⟨g, off, none⟩) n cap, sv]).run P w = .ok v w' ∧ St b (HP.blk g (.cells ((l.take off ++ m ++ l.drop (off + m.length)).map B8).toArray U) :: L) w' := by
  obtain ⟨e, hle, hs⟩ := hs
  obtain ⟨cs, hr, hv, base, cap2, hsv, _⟩ := hs.sl_mem (up1 hm)
  rw [sc_rds hr] at hv
  have hv2 := hv.sat hs
  have hmn : Nat.min m.length n = m.length := Nat.min_eq_left hn
  by_cases h0 : m.length = 0
  · have hm0 : m = [] := List.eq_nil_of_length_eq_zero h0
    subst hm0
    subst hsv
    have hr := run_copy_none (P := P) w t t2 ty T (some ⟨g, off, none⟩) base n cap 0 cap2 ht hi (by simp)
    exact ⟨w, _, hr, by simpa using ⟨e, hle, hs⟩⟩
  · have hne : m.map B8 ≠ [] := fun hx => h0 (by simpa using hx)
    obtain ⟨b', o', c', rfl, hc⟩ := hv2.cells hne
    have hr := run_copy_row (P := P) w t t2 ty T g off n cap ⟨b', o', none⟩ m.length c' (l.map B8).toArray U (m.map B8) ht hi hs.at (by rw [hmn]; simp) (fun j u hj => by rw [Addr.add_lit]; exact hc j u hj) (by simp; omega) (map_B8_one m)
    refine ⟨_, _, hr, e, hle, ?_⟩
    have hs2 := hs.upd (o' := .cells ((l.take off ++ m ++ l.drop (off + m.length)).map B8).toArray U (0, 0)) (w' := w.setRow g ((l.take off ++ m ++ l.drop (off + m.length)).map B8).toArray) rfl rfl rfl (by simp) (fun k _ hk => setRow_other w g k _ hk) (setRow_heap w g _ _ U _ hs.at) (Or.inl rfl)
    have e2 : ((l.map B8).toArray.toList.take off ++ m.map B8 ++ (l.map B8).toArray.toList.drop (off + (m.map B8).length)).toArray = ((l.take off ++ m ++ l.drop (off + m.length)).map B8).toArray := by
      simp [List.map_append, List.map_take, List.map_drop]
    rw [e2]
    exact hs2
end
/-- What is laid, on bytes. -/
def layB (l : Byt) (off v n : Nat) : Byt := l.take off ++ leB v n ++ l.drop (off + n)
theorem layC_B (l : Byt) (off v n : Nat) : layC (l.map B8) off v n = (layB l off v n).map B8 := by
  simp [layC, layB, List.map_take, List.map_drop]
theorem layB_at {a r : Byt} {off : Nat} (h : a.length = off) (v n : Nat) : layB (a ++ r) off v n = a ++ leB v n ++ r.drop n := by
  subst h
  simp [layB, List.drop_append, Nat.add_sub_cancel_left]
theorem layB_len {l : Byt} {off v n : Nat} (h : off + n ≤ l.length) : (layB l off v n).length = l.length := by
  simp [layB, leB_len]; omega
end Go.Proofs.YtcgnkloljfgiaaaGreatDoor
