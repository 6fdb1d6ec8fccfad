/-
  package lex: what a name of one small letter is. package lex: Name of one small letter. No program in sight: 'append(b, s...)' of a string's bytes onto an owned slice. package store: name, text. package store: sound, names, list. package store: of; maps.Clone, Copy, Equal. maps.Clone, Copy, Equal of files.
-/
import Derived.Test.YtcgnkloljfgiaaaGreatDoorZa
import Derived.Test.YtcgnkloljfgiaaaGreatDoorSs
import Derived.Laws.RangeString
import Derived.Test.YtcgnkloljfgiaaaGreatDoorIs
import Derived.Test.YtcgnkloljfgiaaaGreatDoorWbb
namespace Go.Proofs.YtcgnkloljfgiaaaGreatDoor
open Go.RowKit Go.Maps Go.MapKept
variable {b : Env} {L : List HP} {w : World}
theorem letter_calls (c : Int) (h1 : 97 ≤ c) (h2 : c ≤ 122) : Calls Tryz.prog 121 #[.int .i32 c] w fun x w' => x = .returned (.bool true) ∧ w = w' := by
  go_enter Tryz.func121, Tryz.ntmps121
  go_wp2_with fail
  go_ret
  exact ⟨rfl, rfl⟩
theorem sign_calls (c : Int) (h1 : 97 ≤ c) (h2 : c ≤ 122) : Calls Tryz.prog 135 #[.int .i32 c] w fun x w' => x = .returned (.bool true) ∧ w = w' := by
  go_enter Tryz.func135, Tryz.ntmps135
  go_wp2_with (first
    | (go_at_call 121; refine (letter_calls c h1 h2).mono ?_; rintro x w1 ⟨rfl, hw⟩; subst hw))
  go_ret
  exact ⟨rfl, rfl⟩
set_option maxRecDepth 100000 in
theorem row_calls (h : St b L w) {s : Str} (hs : Nm s) : Calls Tryz.prog 122 #[.string ⟨s.toArray⟩] w fun x w' => x = .returned (.int .i64 1) ∧ St b L w' := by
  obtain ⟨c, rfl, h1, h2⟩ := hs
  have hn0 : ∀ ty, (Instr.next (.pointer (some ⟨w.heap.size, 0, none⟩)) true ty).run Tryz.prog (w.iter ⟨#[c]⟩ 0) = .ok (.tuple #[.bool true, .int .i64 0, .int .i32 (c.toNat : Int)]) (w.iter ⟨#[c]⟩ 1) := fun ty => run_next_ascii (P := Tryz.prog) w ⟨#[c]⟩ 0 ty (show 0 < 1 by decide) (show c.toNat < 128 by omega)
  have hn1 : ∀ ty, (Instr.next (.pointer (some ⟨w.heap.size, 0, none⟩)) true ty).run Tryz.prog (w.iter ⟨#[c]⟩ 1) = .ok (.tuple #[.bool false]) (w.iter ⟨#[c]⟩ 1) := fun ty => run_next_end (P := Tryz.prog) w ⟨#[c]⟩ 1 ty (show ¬ 1 < 1 by decide)
  have H := hide h
  clear h
  go_enter Tryz.func122, Tryz.ntmps122
  go_wp2_with fail
  go_loopw [3] (fun _ wr => ∃ k : Nat, k ≤ 1 ∧ wr = w.iter ⟨#[c]⟩ k) (fun _ wr => match wr.heap[w.heap.size]? with | some (.stringIter _ p) => 1 - p | _ => 0)
  case atStart => exact ⟨0, by omega, rfl⟩
  case round =>
    obtain ⟨k, hk, rfl⟩ := hrel
    have hk2 : k = 0 ∨ k = 1 := by omega
    rcases hk2 with rfl | rfl
    · go_wp2_with (first
        | (go_at_call 135; refine (sign_calls (c.toNat : Int) (by omega) (by omega)).mono ?_; rintro x w1 ⟨rfl, hw⟩; subst hw))
      go_roundw
      case rel => exact ⟨1, by omega, rfl⟩
      case measure => simp only [World.iter_heap]; omega
    · go_wp2_with fail
      go_ret
      exact ⟨rfl, H.out.alloc_ _⟩
end Go.Proofs.YtcgnkloljfgiaaaGreatDoor

namespace Go.Proofs.YtcgnkloljfgiaaaGreatDoor
open Go.RowKit Go.Maps Go.MapKept
variable {b : Env} {L : List HP} {w : World}
/-- The library's table of blanks. -/
def spTab : Byt := (List.range 256).map fun i => if Lib.isSp (UInt8.ofNat i) then 1 else 0
theorem spTab_len : spTab.length = 256 := by simp [spTab]
abbrev HP.spaces : HP := HP.sl byteE (.slice (some ⟨0, 0, none⟩) 256 256) spTab
theorem St.spaces (h : St b L w) (hm : HP.spaces ∈ L) (c : Nat) (hc : c < 256) : w.cell? ⟨0, c, none⟩ = some (.int .u8 (if Lib.isSp (UInt8.ofNat c) then 1 else 0)) := by
  have := (h.sc_at hm (i := c) (by rw [spTab_len]; exact hc)).1
  rw [Nat.zero_add] at this
  rw [this]
  simp only [spTab, List.getElem_map, List.getElem_range]
  split <;> rfl
def wordsB : Byt := [118, 97, 114, 32, 108, 111, 99, 107, 32, 102, 117, 110, 99, 32, 117, 115, 101, 32, 115, 101, 116, 32, 117, 110, 108, 111, 99, 107, 32, 99, 97, 108, 108, 32, 115, 112, 97, 119, 110, 32, 105, 102, 32, 101, 108, 115, 101, 32, 108, 111, 111, 112]
def wordsL : List Byt := [[118, 97, 114], [108, 111, 99, 107], [102, 117, 110, 99], [117, 115, 101], [115, 101, 116], [117, 110, 108, 111, 99, 107], [99, 97, 108, 108], [115, 112, 97, 119, 110], [105, 102], [101, 108, 115, 101], [108, 111, 111, 112]]
theorem wordsL_is : Lib.fields wordsB = wordsL := by rfl
theorem wordsB_low : ∀ x ∈ wordsB, x.toNat < 128 := by decide
theorem fields_st (h : St b L w) (hm : HP.spaces ∈ L) : Calls Tryz.prog 123 #[.string ⟨#[118, 97, 114, 32, 108, 111, 99, 107, 32, 102, 117, 110, 99, 32, 117, 115, 101, 32, 115, 101, 116, 32, 117, 110, 108, 111, 99, 107, 32, 99, 97, 108, 108, 32, 115, 112, 97, 119, 110, 32, 105, 102, 32, 101, 108, 115, 101, 32, 108, 111, 111, 112]⟩] w fun x w' => ∃ g, x = .returned (.slice (some ⟨g, 0, none⟩) 11 11) ∧ St b L w' ∧ ∀ k (hk : k < wordsL.length), w'.cell? ⟨g, k, none⟩ = some (.string ⟨wordsL[k].toArray⟩) := by
  have h1 : (⟨wordsB.toArray⟩ : ByteArray).size < 4294967281 := (show wordsB.length < 4294967281 by decide)
  have h2 : ∀ (j : Nat) (x : UInt8), (⟨wordsB.toArray⟩ : ByteArray).data.toList[j]? = some x → x.toNat < 128 := fun j x hx => by
    have e0 : (⟨wordsB.toArray⟩ : ByteArray).data.toList = wordsB := by simp
    rw [e0] at hx
    exact wordsB_low x (List.mem_of_getElem? hx)
  have h3 : ∀ c : Nat, c < 256 → w.cell? ⟨Tryz.laysFields_ren.g 0, c, none⟩ = some (.int .u8 (if Lib.isSp (UInt8.ofNat c) then 1 else 0)) := fun c hc => h.spaces hm c hc
  rw [show (⟨#[118, 97, 114, 32, 108, 111, 99, 107, 32, 102, 117, 110, 99, 32, 117, 115, 101, 32, 115, 101, 116, 32, 117, 110, 108, 111, 99, 107, 32, 99, 97, 108, 108, 32, 115, 112, 97, 119, 110, 32, 105, 102, 32, 101, 108, 115, 101, 32, 108, 111, 111, 112]⟩ : ByteArray) = ⟨wordsB.toArray⟩ from rfl]
  refine (Tryz.fields_calls ⟨wordsB.toArray⟩ w h1 h2 h3).mono ?_
  rintro x w' ⟨rfl, rfl⟩
  have e : Lib.fields (⟨wordsB.toArray⟩ : ByteArray).data.toList = wordsL := by rw [show (⟨wordsB.toArray⟩ : ByteArray).data.toList = wordsB from by simp]; exact wordsL_is
  rw [e]
  refine ⟨_, rfl, h.alloc_ _, fun k hk => ?_⟩
  have := (h.alloc (.cells (wordsL.map fun l => Value.string ⟨l.toArray⟩).toArray (Tryz.laysFields_ren.t 9))).blk_cell mem0 k
  rw [this]
  simp [hk]
set_option linter.unusedSimpArgs false in
set_option maxRecDepth 100000 in
set_option maxHeartbeats 4000000 in
theorem name_calls (h : St b L w) (hm : HP.spaces ∈ L) {s : Str} (hs : Nm s) : Calls Tryz.prog 102 #[.string ⟨s.toArray⟩] w fun x w' => x = .returned (.bool true) ∧ St b L w' := by
  have HN := hide hs
  obtain ⟨c, rfl, h1, h2⟩ := hs
  have hne : ∀ l ∈ wordsL, (l == [c]) = false := fun l hl => by
    rw [beq_eq_false_iff_ne]
    intro e
    have hlen : ∀ l ∈ wordsL, l.length ≠ 1 := by decide
    exact hlen l hl (by rw [e]; rfl)
  have hb0 : (⟨#[c]⟩ : ByteArray)[0]'(show 0 < 1 by decide) = c := rfl
  have hw32 : wrap32 (c.toNat : Int) = (c.toNat : Int) := by unfold wrap32; omega
  have H := hide h
  have HM := hide hm
  have HNE := hide hne
  clear h hm hne
  go_enter Tryz.func102, Tryz.ntmps102
  go_wp2_with (first
    | (go_at_call 121; refine (letter_calls (c.toNat : Int) (by omega) (by omega)).mono ?_; rintro x w1 ⟨rfl, hw⟩; subst hw)
    | (go_at_call 122; refine (row_calls H.out HN.out).mono ?_; rintro x w1 ⟨rfl, h1⟩; have H1 := hide h1; clear h1 H)
    | (go_at_call 123; refine (fields_st H1.out HM.out).mono ?_; rintro x w2 ⟨g, rfl, h2, hc⟩; have H2 := hide h2; have HC := hide hc; clear h2 hc H1))
  go_loopw [28] (fun i wr => ∃ k : Nat, k ≤ 11 ∧ i = .int .i64 k ∧ wr = w2) (fun i _ => 11 - (intOf i).toNat)
  case atStart => exact ⟨0, by omega, rfl, rfl⟩
  case round =>
    obtain ⟨k, hk, rfl, rfl⟩ := hrel
    by_cases hlt : k < 11
    · have hlt' : (k : Int) < 11 := by omega
      have hcell := HC.out k hlt
      have hne := HNE.out wordsL[k] (List.getElem_mem _)
      obtain ⟨t, ht⟩ : ∃ t, wordsL[k] = t := ⟨_, rfl⟩
      rw [ht] at hcell hne
      clear ht
      go_wp2_with fail
      go_roundw
      case rel => exact ⟨k + 1, by omega, by go_num, trivial⟩
      case measure => exact meas_step hlt
    · have hke : k = 11 := by omega
      subst hke
      go_wp2_with fail
      go_ret
      exact ⟨rfl, H2.out⟩
end Go.Proofs.YtcgnkloljfgiaaaGreatDoor

namespace Go.Proofs.YtcgnkloljfgiaaaGreatDoor
open Go.RowKit Go.Maps Go.MapKept
section
variable {P : Program} {b e : Env} {L : List HP} {w : World} {E : TypeId} {v : Value} {n : Nat} {xs : List Value}
theorem run_firstCells_str (s : Str) : (Builtin.firstCells 1 s.length (.string ⟨s.toArray⟩)).run P w = .ok (s.map B8).toArray w := by
  have hx : (⟨s.toArray⟩ : ByteArray).extract 0 s.length = ⟨s.toArray⟩ := by
    apply ByteArray.ext
    simp
  simp only [Builtin.firstCells, hx]
  have e : Array.map (fun b : UInt8 => Value.int IntKind.u8 (b.toNat : Int)) s.toArray = (s.map B8).toArray := by
    rw [List.map_toArray]; rfl
  rw [e]
  simp
theorem run_append_grow_str (t u ty e : TypeId) (i : TypeInfo) (z : Value) (ht : P.underlying t = some (.slice e)) (hu : P.underlying u = some .string) (hi : P.info? e = some i) (hz : i.zero = some z) (h1 : i.size = 1)
    (b : Addr) (sLen sCap : Nat) (olds : List Value) (hlo : olds.length = sLen * i.size) (holds : ∀ j v, olds[j]? = some v → w.cell? (b.add j) = some v) (s : Str)
    (hg : sCap < sLen + s.length) (h63 : ((sLen + s.length : Nat) : Int) ≤ 9223372036854775807) (hfit : Builtin.nextslicecap (sLen + s.length) sCap * i.bytes ≤ 281474976710656) :
    (Builtin.append_ #[t, u] ty #[.slice (some b) sLen sCap, .string ⟨s.toArray⟩]).run P w =
      .ok (.slice (some ⟨w.heap.size, 0, none⟩) (sLen + s.length) (grownCap w (sLen + s.length) sCap e))
        (w.drew.alloc (.cells (olds.toArray ++ (s.map B8).toArray ++ Builtin.zeroCells z.cells (grownCap w (sLen + s.length) sCap e - (sLen + s.length))) e)) := by
  have hsz : (⟨s.toArray⟩ : ByteArray).size = s.length := rfl
  have hn : ¬ (sLen + s.length ≤ sCap) := by omega
  have h63' : ¬ (9223372036854775807 < ((sLen : Int) + (s.length : Int))) := by omega
  have h48' : ¬ (281474976710656 < Builtin.nextslicecap (sLen + s.length) sCap * i.bytes) := by omega
  have hf := run_firstCells_str (P := P) (w := w.drew) s
  have hfo := run_firstCells_some (P := P) w.drew i.size sLen b sLen sCap olds hlo (by simpa using holds)
  rw [h1] at hfo
  simp [Builtin.append_, run_underlying ht, run_underlying hu, sizeOf, typeInfo, zeroValue, hi, hz, h1, Builtin.lenOf, hsz, hn, h63', h48', Question.forced, hf, hfo, newRow, grownCap]
  congr 2
  apply Array.ext'
  simp [List.append_assoc]
theorem run_append_str {t u ty : TypeId} {i : TypeInfo} {z : Value} {bytes : Nat} (ht : P.underlying t = some (.slice E)) (hu : P.underlying u = some .string) (hi : P.info? E = some i) (hz : i.zero = some z) (hsize : i.size = 1) (hby : i.bytes = bytes) (hzs : z.cells.size = 1)
    (h : Sat e (HP.row E 1 v n xs :: L) w) (s : Str) (h63 : n + s.length ≤ maxLen) (hbytes : (n + s.length) * bytes ≤ 140737488355328) :
    ∃ v' w', (Builtin.append_ #[t, u] ty #[v, .string ⟨s.toArray⟩]).run P w = .ok v' w' ∧ Sat e (HP.row E 1 v' (n + s.length) (xs ++ s.map B8) :: L) w' := by
  subst hby
  have hsmall : n + s.length ≤ 9223372036854775807 := by simp only [maxLen] at h63; omega
  have hsz : (⟨s.toArray⟩ : ByteArray).size = s.length := rfl
  obtain ⟨hxl, h0⟩ := h.row_open
  rw [Nat.mul_one] at hxl
  have hlen : (xs ++ s.map B8).length = n + s.length := by rw [List.length_append, hxl, List.length_map]
  have fits : ∀ old, old < n + s.length → Builtin.nextslicecap (n + s.length) old * i.bytes ≤ 281474976710656 := fun old ho => growslice_fits ho hbytes
  have grown : ∀ (old : Nat), old < n + s.length → Sat e L w →
      Sat e (HP.row E 1 (.slice (some ⟨w.heap.size, 0, none⟩) (n + s.length) (grownCap w (n + s.length) old E)) (n + s.length) (xs ++ s.map B8) :: L) (w.drew.alloc (.cells (xs.toArray ++ (s.map B8).toArray ++ Builtin.zeroCells z.cells (grownCap w (n + s.length) old E - (n + s.length))) E)) := by
    intro old ho hs
    have hge := grownCap_ge w (n + s.length) old E
    refine (hs.drew.alloc (.cells (xs.toArray ++ (s.map B8).toArray ++ Builtin.zeroCells z.cells (grownCap w (n + s.length) old E - (n + s.length))) E)).row_shut hge (grownCap_le_maxLen w (n + s.length) old E h63) ?_ ?_
    · simp only [Array.size_append, List.size_toArray, size_zeroCells, hzs, hxl, List.length_map, Nat.mul_one]
      omega
    · simp only [Array.toList_append, List.append_assoc, Nat.mul_one]
      rw [← List.append_assoc, ← hlen]
      exact List.take_left
  rcases h0 with ⟨rfl, rfl, rfl, hs⟩ | ⟨g, cap, cur, rfl, hnc, hcm, hcs, htake, hs⟩
  · by_cases hm : s = []
    · subst hm
      refine ⟨.slice none 0 0, w, ?_, by simpa using hs.row_nil E 1⟩
      rw [show (⟨([] : Str).toArray⟩ : ByteArray) = ByteArray.empty from rfl]
      simp [Builtin.append_, run_underlying ht, run_underlying hu, sizeOf, typeInfo, hi, Builtin.lenOf, Builtin.firstCells]
    · have hp : 0 < s.length := List.length_pos_iff.2 hm
      have hr := run_append_nil_string (P := P) (w := w) t u ty E i z ht hu hi hz ⟨s.toArray⟩ hp (by rw [hsz]; omega) (by rw [hsz]; rw [Nat.zero_add] at hbytes; omega)
      have e1 : Array.map (fun b : UInt8 => Value.int .u8 (b.toNat : Int)) (⟨s.toArray⟩ : ByteArray).data = (s.map B8).toArray := by simp only [List.map_toArray]; rfl
      rw [e1, hsz] at hr
      refine ⟨_, _, hr, ?_⟩
      have := grown 0 (by omega) hs
      simpa using this
  · rw [Nat.mul_one] at hcs htake
    have hf := fun w' : World => run_firstCells_str (P := P) (w := w') s
    by_cases hroom : n + s.length ≤ cap
    · have hfit : n + (s.map B8).length ≤ cur.size := by rw [List.length_map]; omega
      have hst := run_storeCells_at P g n E (s.map B8) 0 cur w hs.at (by simpa using hfit) (by intro u hu; obtain ⟨x, _, rfl⟩ := List.mem_map.1 hu; rfl)
      simp only [Nat.add_zero] at hst
      refine ⟨.slice (some ⟨g, 0, none⟩) (n + s.length) cap, w.setRow g (cur.toList.take n ++ s.map B8 ++ cur.toList.drop (n + (s.map B8).length)).toArray, ?_, ?_⟩
      · simp [Builtin.append_, run_underlying ht, run_underlying hu, sizeOf, typeInfo, hi, hsize, Builtin.lenOf, hsz, hroom, hf, Addr.add_lit, hst, Result.andThen]
      · have hs2 : Sat e (HP.blk g (.cells (cur.toList.take n ++ s.map B8 ++ cur.toList.drop (n + (s.map B8).length)).toArray E (0, 0)) :: L) (w.setRow g (cur.toList.take n ++ s.map B8 ++ cur.toList.drop (n + (s.map B8).length)).toArray) :=
          hs.upd rfl rfl rfl (by simp) (fun k _ hk => setRow_other w g k _ hk) (setRow_heap w g cur _ E _ hs.at) (Or.inl rfl)
        refine hs2.row_shut hroom hcm ?_ ?_
        · simp only [List.size_toArray, List.length_append, List.length_take, List.length_drop, Array.length_toList, List.length_map, Nat.mul_one]
          omega
        · rw [htake, Nat.mul_one, ← hlen]
          exact List.take_left
    · have hr := run_append_grow_str (P := P) (w := w) t u ty E i z ht hu hi hz hsize ⟨g, 0, none⟩ n cap xs (by rw [hsize, Nat.mul_one]; exact hxl) (fun j u hj => by rw [Addr.add_lit, cell_of hs.at]; exact take_get htake j u hj) s (by omega) (by omega) (fits cap (by omega))
      exact ⟨_, _, hr, grown cap (by omega) hs.drop⟩
variable {ops : Array Oper} {rest : List Oper} {o : Oper} {a : Act} {Q : Exit → Act → World → Prop} {t T : TypeId} {bytes : Nat} {z : Value}
theorem St.append_str {u ty : TypeId} (S : SlT P t T 1 bytes z) (hu : P.underlying u = some .string) {v : Value} {l : Byt} (hs : St b (HP.rows T byteE v l :: L) w) (s : Str) (h63 : l.length + s.length ≤ maxLen) (hbytes : (l.length + s.length) * bytes ≤ 140737488355328) :
    ∃ base n cap w', n = l.length + s.length ∧ (Builtin.append_ #[t, u] ty #[v, .string ⟨s.toArray⟩]).run P w = .ok (.slice base n cap) w' ∧ St b (HP.rows T byteE (.slice base n cap) (l ++ s) :: L) w' := by
  obtain ⟨i, hi, hz, hsize, hby⟩ := info_parts S.info
  obtain ⟨e, hl, hs⟩ := hs
  obtain ⟨cs, hrc, hs1⟩ := hs.rows_open
  obtain ⟨v', w', hr, hs'⟩ := run_append_str (ty := ty) S.ht hu hi hz hsize hby S.zs hs1 s h63 hbytes
  have hs2 : Sat e (HP.rows T byteE v' (l ++ s) :: L) w' := Sat.rows_shut (by rw [List.length_append]; exact hs') (El.rds_append hrc (rds_bytes e.h s))
  obtain ⟨base, cap, hv', _⟩ := hs2.rows_form
  subst hv'
  exact ⟨base, _, cap, w', List.length_append, hr, e, hl, hs2⟩
theorem wpList_append_str_st {u : TypeId} (hg : o.guard = none) (s x : Operand) (S : SlT P t T 1 bytes z) (hu : P.underlying u = some .string) (ho : o.op = .call { callee := .builtin .append, args := #[s, x], argTypes := #[t, u] })
    {v : Value} {l : Byt} {q : Str} (hs : St b (HP.rows T byteE v l :: L) w) (hv : a.eval s = v) (hx : a.eval x = .string ⟨q.toArray⟩)
    (h63 : l.length + q.length ≤ maxLen) (hbytes : (l.length + q.length) * bytes ≤ 140737488355328)
    (h : ∀ base n cap w', n = l.length + q.length → St b (HP.rows T byteE (.slice base n cap) (l ++ q) :: L) w' → wpList P ops Q rest (a.put o.dst (.slice base n cap)) w') : wpList P ops Q (o :: rest) a w := by
  obtain ⟨base, n, cap, w', hn, hr, hs'⟩ := hs.append_str (u := u) (ty := o.type) S hu q h63 hbytes
  refine wpList_val hg ?_ (h base n cap w' hn hs')
  simp [execOp, ho, resolve, invoke, builtin, hv, hx, hr]
end
end Go.Proofs.YtcgnkloljfgiaaaGreatDoor

namespace Go.Proofs.YtcgnkloljfgiaaaGreatDoor
open Go.RowKit Go.Maps Go.MapKept
variable {b : Env} {L : List HP} {w : World}
theorem u8_len (n : Nat) (h : n ≤ 255) : Value.int .u8 (n : Int) = .int .u8 ((UInt8.ofNat n).toNat : Int) := by
  rw [UInt8.toNat_ofNat', Nat.mod_eq_of_lt (by omega)]
theorem u8_wrap (n : Nat) : IntKind.u8.wrap (n : Int) = ((UInt8.ofNat n).toNat : Int) := by
  rw [UInt8.toNat_ofNat']
  show (n : Int) % 256 = _
  omega
set_option linter.unusedSimpArgs false in
set_option maxRecDepth 100000 in
set_option maxHeartbeats 4000000 in
theorem nm_calls {v : Value} {l : Byt} {s : Str} (h : St b (HP.rows 5 byteE v l :: L) w) (hs : s.length ≤ 255) (hl : l.length ≤ 100000) :
    Calls Tryz.prog 72 #[v, .string ⟨s.toArray⟩] w fun x w' => ∃ base n cap, x = .returned (.slice base n cap) ∧ n = (l ++ nmB s).length ∧ St b (HP.rows 5 byteE (.slice base n cap) (l ++ nmB s) :: L) w' := by
  have hsI : (s.length : Int) ≤ 255 := by omega
  have hu := u8_wrap s.length
  have H := hide h
  obtain ⟨y, hy⟩ : ∃ y, UInt8.ofNat s.length = y := ⟨_, rfl⟩
  rw [hy] at hu
  have q1 : l.length + [y].length ≤ maxLen := by simp only [List.length_cons, List.length_nil]; unfold maxLen; omega
  have q2 : (l.length + [y].length) * 1 ≤ 140737488355328 := by simp only [List.length_cons, List.length_nil]; omega
  have q3 : (l ++ [y]).length + s.length ≤ maxLen := by simp only [List.length_append, List.length_cons, List.length_nil]; unfold maxLen; omega
  have q4 : ((l ++ [y]).length + s.length) * 1 ≤ 140737488355328 := by simp only [List.length_append, List.length_cons, List.length_nil]; omega
  have e : l ++ [y] ++ s = l ++ nmB s := by simp [nmB, hy]
  have Q := hide (And.intro q1 (And.intro q2 (And.intro q3 q4)))
  have HE := hide e
  clear h q1 q2 q3 q4 e hy
  go_enter Tryz.func72, Tryz.ntmps72
  go_wp2_with (first
    | (refine wpList_build1_st (E := byteE) rfl (.tmp 8) slByte rfl y rfl H.out ?_ ?_; exact (fun _ _ _ => ⟨rfl, trivial⟩); intro g1 w1 h1; have H1 := hide h1.f1; clear h1 H)
    | (at_builtin; refine wpList_append_st (E := byteE) rfl (.tmp 5) (.tmp 9) slByte rfl H1.out (Src.of_rows mem1) rfl rfl Q.out.1 Q.out.2.1 ?_; intro b2 n2 c2 w2 hn2 h2; have H2 := hide (h2.f1.drop); clear h2 H1 hn2)
    | (at_builtin; refine wpList_append_str_st rfl (.tmp 10) (.tmp 11) slByte Tryz.underlying9 rfl H2.out rfl rfl Q.out.2.2.1 Q.out.2.2.2 ?_; intro b3 n3 c3 w3 hn3 h3; have HN3 := hide hn3; have H3 := hide h3; clear h3 H2 hn3))
  go_ret
  have h3 := H3.out
  rw [HE.out] at h3
  exact ⟨b3, n3, c3, rfl, by rw [HN3.out, ← HE.out]; exact List.length_append.symm, h3⟩
set_option linter.unusedSimpArgs false in
set_option maxRecDepth 100000 in
set_option maxHeartbeats 4000000 in
theorem tx_calls {v : Value} {l : Byt} {s : Str} (h : St b (HP.rows 5 byteE v l :: L) w) (hs : s.length ≤ 65535) (hl : l.length ≤ 100000) :
    Calls Tryz.prog 71 #[v, .string ⟨s.toArray⟩] w fun x w' => ∃ base n cap, x = .returned (.slice base n cap) ∧ n = (l ++ txB s).length ∧ St b (HP.rows 5 byteE (.slice base n cap) (l ++ txB s) :: L) w' := by
  have hsI : (s.length : Int) ≤ 65535 := by omega
  have hu := u8_wrap s.length
  have hu2 : (s.length : Int) / 256 = ((UInt8.ofNat (s.length / 256)).toNat : Int) := by rw [UInt8.toNat_ofNat']; omega
  have H := hide h
  obtain ⟨y, hy⟩ : ∃ y, UInt8.ofNat s.length = y := ⟨_, rfl⟩
  obtain ⟨z, hz⟩ : ∃ z, UInt8.ofNat (s.length / 256) = z := ⟨_, rfl⟩
  rw [hy] at hu
  rw [hz] at hu2
  have q1 : l.length + [y, z].length ≤ maxLen := by simp only [List.length_cons, List.length_nil]; unfold maxLen; omega
  have q2 : (l.length + [y, z].length) * 1 ≤ 140737488355328 := by simp only [List.length_cons, List.length_nil]; omega
  have q3 : (l ++ [y, z]).length + s.length ≤ maxLen := by simp only [List.length_append, List.length_cons, List.length_nil]; unfold maxLen; omega
  have q4 : ((l ++ [y, z]).length + s.length) * 1 ≤ 140737488355328 := by simp only [List.length_append, List.length_cons, List.length_nil]; omega
  have e : l ++ [y, z] ++ s = l ++ txB s := by simp [txB, hy, hz]
  have Q := hide (And.intro q1 (And.intro q2 (And.intro q3 q4)))
  have HE := hide e
  have HZ := hide hu2
  clear h q1 q2 q3 q4 e hy hz hu2
  go_enter Tryz.func71, Tryz.ntmps71
  go_wp2_with (first
    | (refine wpList_build_st (E := byteE) rfl 2 #[(0, .tmp 8), (1, .tmp 12)] slByte rfl (by omega) (by omega) [.int .u8 (y.toNat : Int), .int .u8 ((s.length : Int) / 256)] [y, z] rfl rfl rfl H.out ?_ ?_; exact (fun _ _ _ => ⟨⟨rfl, trivial⟩, ⟨by rw [HZ.out]; rfl, trivial⟩, trivial⟩); intro g1 w1 h1; have H1 := hide h1.f1; clear h1 H)
    | (at_builtin; refine wpList_append_st (E := byteE) rfl (.tmp 5) (.tmp 13) slByte rfl H1.out (Src.of_rows mem1) rfl rfl Q.out.1 Q.out.2.1 ?_; intro b2 n2 c2 w2 hn2 h2; have H2 := hide (h2.f1.drop); clear h2 H1 hn2)
    | (at_builtin; refine wpList_append_str_st rfl (.tmp 14) (.tmp 15) slByte Tryz.underlying9 rfl H2.out rfl rfl Q.out.2.2.1 Q.out.2.2.2 ?_; intro b3 n3 c3 w3 hn3 h3; have HN3 := hide hn3; have H3 := hide h3; clear h3 H2 hn3))
  go_ret
  have h3 := H3.out
  rw [HE.out] at h3
  exact ⟨b3, n3, c3, rfl, by rw [HN3.out, ← HE.out]; exact List.length_append.symm, h3⟩
end Go.Proofs.YtcgnkloljfgiaaaGreatDoor

namespace Go.Proofs.YtcgnkloljfgiaaaGreatDoor
open Go.RowKit Go.Maps Go.MapKept
variable {b : Env} {L : List HP} {w : World}
abbrev HP.fmap (m : Nat) (kvs : List (Str × Str)) : HP := HP.map sv okStr sv m kvs
theorem mapFiles : Tryz.prog.underlying 72 = some (.map 9 9) := Tryz.underlying72
theorem slFile : SlT Tryz.prog 34 48 2 32 (.agg #[.string ⟨#[]⟩, .string ⟨#[]⟩]) := ⟨Tryz.underlying34, by kernel_rfl, rfl, by decide, by decide⟩
theorem agFile : AgT Tryz.prog 48 [.string ⟨#[]⟩, .string ⟨#[]⟩] := ⟨Tryz.zeroValue48, ⟨_, Tryz.underlying48, rfl⟩, by kernel_rfl⟩
theorem keys_erase {β : Type} {left : List (Str × β)} {i : Nat} {p : Str × β} {x : Str} (hi : left[i]? = some p) (h : x ∈ keysOf left) : x ∈ keysOf (left.eraseIdx i) ∨ x = p.1 := by
  obtain ⟨q, hq, rfl⟩ := List.mem_map.1 h
  obtain ⟨j, hj⟩ := List.mem_iff_getElem?.1 hq
  by_cases hji : j = i
  · subst hji; rw [hi] at hj; cases hj; exact Or.inr rfl
  · refine Or.inl (List.mem_map.2 ⟨q, ?_, rfl⟩)
    refine List.mem_iff_getElem?.2 ?_
    rcases Nat.lt_or_ge j i with h1 | h1
    · exact ⟨j, by rw [List.getElem?_eraseIdx_of_lt h1]; exact hj⟩
    · exact ⟨j - 1, by rw [List.getElem?_eraseIdx_of_ge (by omega), Nat.sub_add_cancel (by omega)]; exact hj⟩
def SoundAt (b : Env) (L : List HP) (m r : Nat) (kvs : List (Str × Str)) (g : Nat) (wr : World) : Prop :=
  ∃ left last, (∀ p ∈ left, p ∈ kvs) ∧ left.length = g ∧ St b (HP.rng sv okStr sv m r kvs left last :: L) wr
set_option linter.unusedSimpArgs false in
set_option maxRecDepth 100000 in
set_option maxHeartbeats 4000000 in
theorem sound_calls {m : Nat} {kvs : List (Str × Str)} (h : St b (HP.fmap m kvs :: L) w) (hm : HP.spaces ∈ L) (hk : ∀ p ∈ kvs, Nm p.1 ∧ p.2.length ≤ 2000) (hl : kvs.length ≤ 8) :
    Calls Tryz.prog 73 #[.map (some m)] w fun x w' => x = .returned (.bool true) ∧ St b (HP.fmap m kvs :: L) w' := by
  have hlI : (kvs.length : Int) ≤ 8 := by omega
  have H := hide h
  have HM := hide hm
  have HK := hide hk
  clear h hm hk
  go_enter Tryz.func73, Tryz.ntmps73
  go_wp2_with (first
    | (refine wpList_range_st rfl (.tmp 5) 72 rfl mapFiles rfl H.out ?_; intro r w1 h1; have H1 := hide h1; clear h1 H))
  try simp only [Act.put, List.setIfInBounds_toArray, List.set_cons_zero, List.set_cons_succ]
  go_loopg [3, 4] kvs.length (fun g _ _ wr => SoundAt b L m r kvs g wr)
  case atStart => exact ⟨kvs, none, fun p hp => hp, rfl, H1.out⟩
  case round =>
    obtain ⟨left, last, hsub, hlen, hs⟩ := hrel
    have H2 := hide hs
    have HS := hide hsub
    clear hs hsub H1
    by_cases hne : left = []
    · subst hne
      have h3 := H2.out.rng_done
      have ln := h3.len_map (P := Tryz.prog) mem0 (t := 72) (ty := 3) mapFiles
      have H3 := hide h3
      clear h3
      go_wp2_with (first
        | (refine wpList_next_st rfl (.tmp 6) rfl rfl H2.out (fun _ => ?_) (fun i p w' hi => absurd hi (by simp)); clear H2))
      go_ret
      exact ⟨rfl, H3.out⟩
    · go_wp2_with (first
        | (refine wpList_next_st rfl (.tmp 6) rfl rfl H2.out (fun h0 => absurd h0 hne) (fun i p w3 hi h3 => ?_); have hpk := HK.out p (HS.out p (List.mem_of_getElem? hi)); have hnm := hide hpk.1; have htx : (p.2.length : Int) ≤ 2000 := by { have := hpk.2; omega }; have HI := hide hi; have lk := h3.rng_entry (P := Tryz.prog); have H3 := hide h3; clear h3 H2 hi hpk)
        | (go_at_call 102; refine (name_calls H3.out (List.mem_cons_of_mem _ HM.out) hnm.out).mono ?_; rintro x w4 ⟨rfl, h4⟩; have H4 := hide h4; clear h4 H3))
      have hil := (List.getElem?_eq_some_iff.1 HI.out).1
      have hel3 : (left.eraseIdx i).length = left.length - 1 := List.length_eraseIdx_of_lt hil
      go_roundg (gk - 1)
      case measure => omega
      case rel => exact ⟨_, _, fun p' hp' => HS.out p' (List.mem_of_mem_eraseIdx hp'), by omega, H4.out⟩
theorem rds_sc {α : Type} {f : α → Value} {ok : α → Prop} {h1 : ∀ x, (f x).oneCell' = true} {h : Frag} : ∀ {xs : List α}, (∀ x ∈ xs, ok x) → (El.sc f ok h1).rds h xs (xs.map f)
  | [], _ => rfl
  | x :: xs, hx => ⟨[f x], xs.map f, rfl, ⟨rfl, hx x (by simp)⟩, rds_sc (fun y hy => hx y (by simp [hy]))⟩
set_option maxRecDepth 100000 in
set_option maxHeartbeats 400000 in
theorem names_calls {m : Nat} {kvs : List (Str × Str)} (h : St b (HP.fmap m kvs :: L) w) (hlen : kvs.length ≤ 1000000) : Calls Tryz.prog 76 #[.map (some m)] w
    fun x w' => ∃ base n cap, x = .returned (.slice base n cap) ∧ n = (sortS (keysOf kvs)).length ∧ St b (HP.sl strE (.slice base n cap) (sortS (keysOf kvs)) :: HP.fmap m kvs :: L) w' := by
  obtain ⟨e, hle, hm⟩ := h
  have hown := hm.ownsMap keyStr (by unfold maxLen; omega)
  have hok := hm.map_ok
  have HM := hide hm
  have HW := hide hown
  have HOK := hide hok
  have HL := hide hlen
  have HE := hide hle
  clear hle hm hown hok hlen
  go_enter Tryz.func76, Tryz.ntmps76
  go_wp2_with (first
    | (go_at_call 105; refine (Tryz.maps_Keys_105 (some m) w).mono ?_; rintro x w' ⟨rfl, rfl⟩)
    | (go_at_call 104; refine (Tryz.sorted_keys_105 m _ _ _ w HW.out (by rw [size_keys]; have := HL.out; simp; unfold maxLen; omega) (by rw [size_keys]; have := HL.out; simp; omega)).mono ?_; rintro x w2 ⟨v, ss, rfl, hp, hrow, hnil, hb⟩; have HP' := hide hp; have HR := hide hrow; have HB := hide hb; clear hp hrow hb hnil))
  have hr := HR.out
  have hperm := HP'.out
  have hss : ss.mergeSort (fun x y => decide (x ≤ y)) = sortS (keysOf kvs) := keysS Tryz.underlying9 HOK.out hperm
  have hl : ss.length = (sortS (keysOf kvs)).length := by
    rw [← hss]; simp
  rw [hss, hl] at hr
  have hs := (HM.out.alloc_ (.cells #[.map (some m)] 72)).of_row hr HB.out
  have hs2 : Sat e (HP.rows 9 strE v (sortS (keysOf kvs)) :: HP.fmap m kvs :: L) w2 := Sat.rows_shut (E := strE) hs (rds_sc (fun x hx => by
    have hx' : x ∈ keysOf kvs := (List.mergeSort_perm _ _).mem_iff.1 hx
    obtain ⟨p, hp, rfl⟩ := List.mem_map.1 hx'
    exact HOK.out p hp))
  obtain ⟨base, cap, hv, _⟩ := hs2.rows_form
  subst hv
  go_ret
  exact ⟨_, _, _, rfl, rfl, St.persist ⟨e, HE.out, hs2⟩⟩
def ListAt (b : Env) (L : List HP) (F : List (Str × Str)) (v3 i : Value) (wr : World) : Prop :=
  ∃ k : Nat, k ≤ F.length ∧ i = .int .i64 k ∧ ∃ base cap, v3 = .slice base k cap ∧ St b (HP.rows 48 pairE (.slice base k cap) (F.take k) :: L) wr
theorem canon_len (kvs : List (Str × Str)) : (canon kvs).length = (sortS (keysOf kvs)).length := by simp [canon]
theorem canon_at (kvs : List (Str × Str)) (k : Nat) (h : k < (canon kvs).length) : (canon kvs)[k] = ((sortS (keysOf kvs))[k]'(by rw [← canon_len]; exact h), (kget kvs ((sortS (keysOf kvs))[k]'(by rw [← canon_len]; exact h))).getD []) := by simp [canon]
theorem strOf_sv (s : Str) : Value.string ⟨s.toArray⟩ = sv s := rfl
set_option linter.unusedSimpArgs false in
set_option maxRecDepth 100000 in
set_option maxHeartbeats 4000000 in
theorem list_calls {m : Nat} {kvs : List (Str × Str)} (h : St b (HP.fmap m kvs :: L) w) (hk : ∀ p ∈ kvs, p.2.length ≤ 1000000) (hl : kvs.length ≤ 1000) :
    Calls Tryz.prog 47 #[.map (some m)] w fun x w' => ∃ base n cap, x = .returned (.slice base n cap) ∧ n = (canon kvs).length ∧ St b (HP.rows 48 pairE (.slice base n cap) (canon kvs) :: HP.fmap m kvs :: L) w' := by
  have hln : (sortS (keysOf kvs)).length = kvs.length := by
    unfold sortS; rw [List.length_mergeSort, List.length_map]
  have hok : ∀ p ∈ kvs, okStr p.1 := by obtain ⟨e, _, hs⟩ := h; exact hs.map_ok
  have H := hide h
  have HK := hide hk
  have HLN := hide hln
  have HOK := hide hok
  clear h hk hln hok
  go_enter Tryz.func47, Tryz.ntmps47
  go_wp2_with (first
    | (go_at_call 76; refine (names_calls H.out (by omega)).mono ?_; rintro x w1 ⟨bn, nn, cn, rfl, hnn, h1⟩; have H1 := hide h1; have HNN := hide hnn; clear h1 hnn H))
  have hnn := HNN.out
  have hnc : nn = (canon kvs).length := by rw [canon_len]; exact hnn
  have hnI : (nn : Int) ≤ 1000 := by rw [hnn, HLN.out]; omega
  have HNC := hide hnc
  clear hnn hnc
  go_loopw [3, 9] (fun v3 i wr => ListAt b (HP.sl strE (.slice bn nn cn) (sortS (keysOf kvs)) :: HP.fmap m kvs :: L) (canon kvs) v3 i wr) (fun _ i _ => nn - (intOf i).toNat)
  case atStart => exact ⟨0, by omega, rfl, none, 0, rfl, H1.out.rows_nil _ _⟩
  case round =>
    obtain ⟨k, hk, rfl, base, cap, rfl, hs⟩ := hrel
    rw [← HNC.out] at hk
    clear H1
    by_cases hlt : k < nn
    · have hlt' : (k : Int) < nn := by omega
      have hkc : k < (canon kvs).length := by rw [← HNC.out]; exact hlt
      have hks : k < (sortS (keysOf kvs)).length := by rw [← canon_len]; exact hkc
      obtain ⟨s, hse⟩ : ∃ s, (sortS (keysOf kvs))[k] = s := ⟨_, rfl⟩
      have hsm : s ∈ keysOf kvs := mem_sortS.1 (by rw [← hse]; exact List.getElem_mem _)
      obtain ⟨t, ht⟩ := Option.isSome_iff_exists.1 (kget_isSome.2 hsm)
      have hsok : okStr s := by obtain ⟨p, hp, rfl⟩ := List.mem_map.1 hsm; exact HOK.out p hp
      have htok : okStr t := by have := HK.out _ (kget_mem ht); unfold okStr maxLen; simp only at this; omega
      have hat : (canon kvs).take (k + 1) = (canon kvs).take k ++ [(s, t)] := by
        rw [← List.take_append_getElem hkc, canon_at, hse, ht]; rfl
      obtain ⟨gs, os, rfl⟩ := hs.sl_base mem1 (by omega) Nat.one_pos
      have hc := (hs.sc_at mem1 (i := k) hks).1
      rw [hse] at hc
      have lk := hs.lookup (P := Tryz.prog) (t := 72) keyStr mem2 mapFiles (Tryz.zeroValue9 _) s hsok false
      rw [ht] at lk
      obtain ⟨C, hC⟩ : ∃ C, (canon kvs).take k = C := ⟨_, rfl⟩
      have hCl : C.length = k := by rw [← hC, List.length_take]; omega
      rw [hC] at hs hat
      have H2 := hide hs
      have HAT := hide hat
      have Q := hide (show C.length + [(s, t)].length ≤ maxLen ∧ (C.length + [(s, t)].length) * 32 ≤ 140737488355328 from ⟨by rw [hCl]; simp only [List.length_cons, List.length_nil]; unfold maxLen; omega, by rw [hCl]; simp only [List.length_cons, List.length_nil]; omega⟩)
      have HCL := hide hCl
      have HOKS := hide (And.intro hsok htok)
      have HKC := hide hkc
      clear hs hat hC hCl hse hsm ht hks hkc
      go_wp2_with (first
        | (refine wpList_build1_st (E := pairE) rfl (.tmp 18) slFile rfl (s, t) rfl H2.out ?_ ?_; exact (fun _ _ _ => ⟨rfl, HOKS.out.1, HOKS.out.2⟩); intro g3 w3 h3; have H3 := hide h3.f1; clear h3 H2)
        | (at_builtin; refine wpList_append_st (E := pairE) rfl (.tmp 13) (.tmp 19) slFile rfl H3.out (Src.of_rows mem1) rfl rfl Q.out.1 Q.out.2 ?_; intro b4 n4 c4 w4 hn4 h4; have H4 := hide h4.f1.drop; have HN4 := hide hn4; clear h4 H3 hn4))
      have h5 := H4.out
      have hn4 := HN4.out
      rw [← HAT.out] at h5
      rw [HCL.out] at hn4
      simp only [List.length_cons, List.length_nil, Nat.zero_add] at hn4
      subst hn4
      have H5 := hide h5
      clear h5 H4 HN4
      go_roundw
      case rel => exact ⟨k + 1, HKC.out, by go_num, b4, c4, rfl, H5.out⟩
      case measure => exact meas_step hlt
    · have hke : k = nn := by omega
      subst hke
      have h6 := hs
      rw [List.take_of_length_le (by rw [← HNC.out]; exact Nat.le_refl _)] at h6
      have H6 := hide (h6.f1.drop)
      clear hs h6
      go_wp2_with fail
      go_ret
      exact ⟨base, k, cap, rfl, HNC.out, H6.out⟩
end Go.Proofs.YtcgnkloljfgiaaaGreatDoor

namespace Go.Proofs.YtcgnkloljfgiaaaGreatDoor
open Go.RowKit Go.Maps Go.MapKept
variable {b : Env} {L : List HP} {w : World}
theorem Reads.pair_at {g o n cap i : Nat} {xs : List (Str × Str)} (hr : Reads pairE L (.slice (some ⟨g, o, none⟩) n cap) xs) (h : St b L w) (hi : i < xs.length) :
    (∀ j u, ([sv xs[i].1, sv xs[i].2] : List Value)[j]? = some u → w.cell? ⟨g, o + i * 2 + j, none⟩ = some u) ∧ okStr xs[i].1 ∧ okStr xs[i].2 := by
  rcases hr with hr | ⟨T, hr⟩
  · obtain ⟨cs, h1⟩ := h.elem (E := pairE) (i := i) hr (List.getElem?_eq_getElem hi) (by decide)
    obtain ⟨e, _, _, h2, h3, h4⟩ := h1.elem_rd mem0
    subst h2
    exact ⟨fun j u hj => h1.elem_cell mem0 j hj, h3, h4⟩
  · obtain ⟨g', hg⟩ := h.rows_base hr (by omega)
    simp only [Option.some.injEq, Addr.mk.injEq, and_true] at hg
    obtain ⟨rfl, rfl⟩ := hg
    obtain ⟨e, cs, _, _, ⟨h2, h3, h4⟩, h5⟩ := h.rows_cells hr (List.getElem?_eq_getElem hi)
    subst h2
    exact ⟨fun j u hj => by rw [Nat.zero_add]; exact h5 j u hj, h3, h4⟩
theorem len_layF (l : List (Str × Str)) (h : (keysOf l).Nodup) : (layF l).length = l.length := by rw [layF_nodup h]
theorem two_cells (s t : Str) : ∀ v ∈ ([sv s, sv t] : List Value), v.oneCell' = true := by
  intro v hv; simp only [List.mem_cons, List.not_mem_nil, or_false] at hv; rcases hv with rfl | rfl <;> rfl
def OfAt (b : Env) (L : List HP) (m : Nat) (l : List (Str × Str)) (i : Value) (wr : World) : Prop := ∃ k : Nat, k ≤ l.length ∧ i = .int .i64 k ∧ St b (HP.fmap m (layF (l.take k)) :: L) wr
set_option linter.unusedSimpArgs false in
set_option maxRecDepth 100000 in
set_option maxHeartbeats 4000000 in
theorem of_calls {v : Value} {l : List (Str × Str)} (h : St b L w) (hr : Reads pairE L v l) (hm : HP.spaces ∈ L) (hl : OkL l) :
    Calls Tryz.prog 42 #[v] w fun x w' => ∃ m, x = .returned (.tuple #[.map (some m), .bool true]) ∧ St b (HP.fmap m l :: L) w' := by
  obtain ⟨bv, cv, rfl, u1, u2⟩ := hr.form h
  obtain ⟨n, hn⟩ : ∃ n, l.length = n := ⟨_, rfl⟩
  rw [hn] at hr ⊢
  have hn8 : n ≤ 8 := by rw [← hn]; exact hl.len
  have hnI : (n : Int) ≤ 8 := by omega
  have H := hide h
  have HR := hide hr
  have HM := hide hm
  have HL := hide hl
  have HN := hide hn
  clear h hr hm hl hn u1 u2
  go_enter Tryz.func42, Tryz.ntmps42
  go_wp2_with (first
    | ((with_reducible refine wpList_makeMap_st rfl 72 rfl sv okStr sv H.out ?_); intro m w1 h1; have H1 := hide h1; clear h1 H))
  go_loopw [10] (fun i wr => OfAt b L m l i wr) (fun i _ => n - (intOf i).toNat)
  case atStart => exact ⟨0, by omega, rfl, H1.out⟩
  case round =>
    obtain ⟨k, hk, rfl, hs⟩ := hrel
    rw [HN.out] at hk
    clear H1
    by_cases hlt : k < n
    · have hlt' : (k : Int) < n := by omega
      have hkl : k < l.length := by rw [HN.out]; exact hlt
      obtain ⟨gr, or, rfl⟩ := HR.out.up.base hs (by omega) (by decide)
      obtain ⟨hc, ok1, ok2⟩ := HR.out.up.pair_at hs hkl
      have hat : layF (l.take (k + 1)) = kput (layF (l.take k)) l[k].1 l[k].2 := by rw [← List.take_append_getElem hkl, layF_snoc]
      obtain ⟨s, hs1⟩ : ∃ s, l[k].1 = s := ⟨_, rfl⟩
      obtain ⟨t, ht1⟩ : ∃ t, l[k].2 = t := ⟨_, rfl⟩
      rw [hs1, ht1] at hat hc
      rw [hs1] at ok1
      have HC := hide hc
      have HAT := hide hat
      have HONE := hide (two_cells s t)
      have HOK := hide ok1
      have H2 := hide hs
      clear hs hc hat hs1 ht1 hkl ok1 ok2
      go_wp2_with (first
        | (with_reducible refine wpList_load_ag (cs := [sv s, sv t]) rfl agFile (.tmp 12) rfl rfl rfl HC.out ?_)
        | ((with_reducible refine wpList_alloc_ag rfl agFile rfl H2.out ?_); intro g3 w3 h3; have H3 := hide h3; clear h3 H2)
        | ((with_reducible refine wpList_store_ag (cs := [sv s, sv t]) rfl agFile (.tmp 6) (.tmp 13) rfl rfl rfl rfl rfl HONE.out H3.out ?_); intro w4 h4; have k0 : w4.cell? ⟨g3, 0, none⟩ = some (sv s) := h4.blk_cell mem0 0; have k1 : w4.cell? ⟨g3, 1, none⟩ = some (sv t) := h4.blk_cell mem0 1; have H4 := hide h4.drop; clear h4 H3)
        | (at_mapUpdate; refine wpList_mapUpdate_st rfl 72 (.tmp 14) (.tmp 16) (.tmp 18) rfl keyStr mapFiles s t rfl rfl HOK.out rfl H4.out ?_; intro w5 h5; rw [← HAT.out] at h5; have H5 := hide h5; clear h5 H4))
      go_roundw
      case rel => exact ⟨k + 1, by rw [HN.out]; omega, by go_num, H5.out⟩
      case measure => exact meas_step hlt
    · have hke : k = n := by omega
      subst hke
      have h3 := hs
      rw [List.take_of_length_le (by rw [HN.out]; exact Nat.le_refl _), layF_nodup HL.out.nd] at h3
      have ln := h3.len_map (P := Tryz.prog) mem0 (t := 72) (ty := 3) mapFiles
      rw [HN.out] at ln
      have H3 := hide h3
      clear hs h3
      go_wp2_with (first
        | (go_at_call 73; refine (sound_calls H3.out HM.out (fun p hp => ⟨HL.out.nm p hp, HL.out.tx p hp⟩) HL.out.len).mono ?_; rintro x w4 ⟨rfl, h4⟩; have H4 := hide h4; clear h4 H3))
      go_ret2
      exact ⟨m, rfl, H4.out⟩
end Go.Proofs.YtcgnkloljfgiaaaGreatDoor

namespace Go.Proofs.YtcgnkloljfgiaaaGreatDoor
open Go.RowKit Go.Maps Go.MapKept
variable {b : Env} {L : List HP} {w : World}
theorem strs_len : ∀ (l m : List Str), l.Nodup → (∀ x ∈ l, x ∈ m) → l.length ≤ m.length
  | [], m, _, _ => by simp
  | a :: l, m, h, hs => by
    rw [List.nodup_cons] at h
    have h1 := strs_len l (m.erase a) h.2 fun x hx => (List.mem_erase_of_ne (fun e : x = a => h.1 (by rw [← e]; exact hx))).2 (hs x (List.mem_cons_of_mem _ hx))
    have h2 := List.length_erase_of_mem (hs a List.mem_cons_self)
    have h3 := List.length_pos_of_mem (hs a List.mem_cons_self)
    simp only [List.length_cons]; omega
theorem nodup_back {l m : List Str} (hl : l.Nodup) (hs : ∀ x ∈ l, x ∈ m) (hlen : m.length ≤ l.length) : ∀ x ∈ m, x ∈ l := fun x hx => Decidable.byContradiction fun hn => by
  have := strs_len (x :: l) m (List.nodup_cons.2 ⟨hn, hl⟩) (fun y hy => by rcases List.mem_cons.1 hy with rfl | hy; exact hx; exact hs y hy)
  simp only [List.length_cons] at this
  omega
theorem kget_len {F G : List (Str × Str)} (hF : (keysOf F).Nodup) (hG : (keysOf G).Nodup) (h : ∀ s, kget F s = kget G s) : F.length = G.length := by
  have h1 := strs_len (keysOf F) (keysOf G) hF fun x hx => (mem_keys_ext h x).1 hx
  have h2 := strs_len (keysOf G) (keysOf F) hG fun x hx => (mem_keys_ext h x).2 hx
  simp only [List.length_map] at h1 h2
  omega
theorem kget_all {F G : List (Str × Str)} (hF : (keysOf F).Nodup) (hlen : F.length = G.length) (h : ∀ s ∈ keysOf F, kget G s = kget F s) (s : Str) : kget F s = kget G s := by
  by_cases hs : s ∈ keysOf F
  · exact (h s hs).symm
  · have hsub : ∀ x ∈ keysOf F, x ∈ keysOf G := fun x hx => by rw [← kget_isSome, h x hx, kget_isSome]; exact hx
    have hb := nodup_back hF hsub (by simp only [List.length_map]; omega)
    rw [kget_none.2 hs, kget_none.2 (fun hg => hs (hb s hg))]
theorem kget_of_mem {F : List (Str × Str)} {p : Str × Str} (h : (keysOf F).Nodup) (hp : p ∈ F) : kget F p.1 = some p.2 := by
  obtain ⟨j, hj⟩ := List.mem_iff_getElem?.1 hp
  exact kget_at F j p h hj
theorem mapclone_calls {m : Nat} {kvs : List (Str × Str)} (h : St b (HP.fmap m kvs :: L) w) : Calls Tryz.prog 74 #[.map (some m)] w fun x w' => ∃ m2, x = .returned (.map (some m2)) ∧ St b (HP.fmap m2 kvs :: HP.fmap m kvs :: L) w' := by
  obtain ⟨e, hle, hs⟩ := h
  obtain ⟨es, clock, h1, h2, h3, hs⟩ := hs.map_open
  refine (Tryz.clone_calls74 m es clock w hs.at).mono ?_
  rintro x w' ⟨rfl, rfl⟩
  refine ⟨_, rfl, e, hle, ?_⟩
  exact ((hs.alloc (.map es clock)).swap.map_shut h1 h2 h3).swap.map_shut h1 h2 h3
def KeysJoin (kd ks kd' : List (Str × Str)) : Prop := ∀ s, s ∈ keysOf kd' ↔ s ∈ keysOf kd ∨ s ∈ keysOf ks
def CopyAt (b : Env) (L : List HP) (ms md r : Nat) (kd ks : List (Str × Str)) (g : Nat) (wr : World) : Prop :=
  ∃ left last kd', (∀ p ∈ left, p ∈ ks) ∧ left.length = g ∧ (∀ s ∈ keysOf kd', s ∈ keysOf kd ∨ s ∈ keysOf ks) ∧ (∀ s ∈ keysOf kd, s ∈ keysOf kd') ∧ (∀ s ∈ keysOf ks, s ∈ keysOf left ∨ s ∈ keysOf kd') ∧ kd'.length + left.length ≤ kd.length + ks.length ∧
    St b (HP.rng sv okStr sv ms r ks left last :: HP.fmap md kd' :: L) wr
set_option linter.unusedSimpArgs false in
set_option maxRecDepth 100000 in
set_option maxHeartbeats 4000000 in
theorem copy_calls {md ms : Nat} {kd ks : List (Str × Str)} (h : St b (HP.fmap md kd :: HP.fmap ms ks :: L) w) :
    Calls Tryz.prog 75 #[.map (some md), .map (some ms)] w fun x w' => x = .returned (.tuple #[]) ∧ ∃ kd', KeysJoin kd ks kd' ∧ kd'.length ≤ kd.length + ks.length ∧ St b (HP.fmap md kd' :: HP.fmap ms ks :: L) w' := by
  have hok : ∀ p ∈ ks, okStr p.1 := by obtain ⟨e, _, hs⟩ := h.f1; exact hs.map_ok
  have H := hide h.f1
  have HOK := hide hok
  clear h hok
  go_enter Tryz.func75, Tryz.ntmps75
  go_wp2_with (first
    | (refine wpList_range_st rfl (.tmp 6) 72 rfl mapFiles rfl H.out ?_; intro r w1 h1; have H1 := hide h1; clear h1 H))
  try simp only [Act.put, List.setIfInBounds_toArray, List.set_cons_zero, List.set_cons_succ]
  go_loopg [4, 5] ks.length (fun g _ _ wr => CopyAt b L ms md r kd ks g wr)
  case atStart => exact ⟨ks, none, kd, fun p hp => hp, rfl, fun s hs => Or.inl hs, fun s hs => hs, fun s hs => Or.inl hs, Nat.le_refl _, H1.out⟩
  case round =>
    obtain ⟨left, last, kd', hsub, hlen, hk1, hk2, hk3, hln, hs⟩ := hrel
    have H2 := hide hs
    have HS := hide hsub
    have HK1 := hide hk1
    have HK2 := hide hk2
    have HK3 := hide hk3
    have HLN := hide hln
    clear hs hsub H1 hk1 hk2 hk3 hln
    by_cases hne : left = []
    · subst hne
      have h3 := H2.out.rng_done
      have H3 := hide h3
      clear h3
      go_wp2_with (first
        | (refine wpList_next_st rfl (.tmp 7) rfl rfl H2.out (fun _ => ?_) (fun i p w' hi => absurd hi (by simp)); clear H2))
      go_end0
      refine ⟨rfl, kd', fun s => ⟨HK1.out s, fun hs => ?_⟩, by have := HLN.out; simp only [List.length_nil] at this; omega, H3.out.f1⟩
      rcases hs with hs | hs
      · exact HK2.out s hs
      · rcases HK3.out s hs with h | h
        · cases h
        · exact h
    · go_wp2_with (first
        | (refine wpList_next_st rfl (.tmp 7) rfl rfl H2.out (fun h0 => absurd h0 hne) (fun i p w3 hi h3 => ?_); have HOKP := hide (HOK.out p (HS.out p (List.mem_of_getElem? hi))); have HI := hide hi; have lk := h3.rng_entry (P := Tryz.prog); have H3 := hide h3.f1; clear h3 H2 hi)
        | (at_mapUpdate; refine wpList_mapUpdate_st rfl 72 (.tmp 13) (.tmp 14) (.tmp 15) rfl keyStr mapFiles p.1 p.2 rfl rfl HOKP.out rfl H3.out ?_; intro w5 h5; have H5 := hide h5.f1; clear h5 H3))
      have hil := (List.getElem?_eq_some_iff.1 HI.out).1
      have hel3 : (left.eraseIdx i).length = left.length - 1 := List.length_eraseIdx_of_lt hil
      have hpl := kput_length_le kd' p.1 p.2
      go_roundg (gk - 1)
      case measure => omega
      case rel => exact ⟨_, _, _, fun p' hp' => HS.out p' (List.mem_of_mem_eraseIdx hp'), by omega, fun s hs => by
        rcases keysOf_kput.1 hs with h | rfl
        · exact HK1.out s h
        · exact Or.inr (List.mem_map_of_mem (HS.out p (List.mem_of_getElem? HI.out))), fun s hs => keysOf_kput.2 (Or.inl (HK2.out s hs)), fun s hs => by
        rcases HK3.out s hs with h | h
        · rcases keys_erase HI.out h with h | h
          · exact Or.inl h
          · exact Or.inr (keysOf_kput.2 (Or.inr h))
        · exact Or.inr (keysOf_kput.2 (Or.inl h)), by have := HLN.out; omega, H5.out⟩
def SameM (F G : List (Str × Str)) : Prop := ∀ s, kget F s = kget G s
def EqAt (b : Env) (L : List HP) (m1 m2 r : Nat) (k1 k2 : List (Str × Str)) (g : Nat) (wr : World) : Prop :=
  ∃ left last, (∀ p ∈ left, p ∈ k1) ∧ left.length = g ∧ (∀ s ∈ keysOf k1, s ∈ keysOf left ∨ kget k2 s = kget k1 s) ∧ St b (HP.rng sv okStr sv m1 r k1 left last :: HP.fmap m2 k2 :: L) wr
set_option linter.unusedSimpArgs false in
set_option maxRecDepth 100000 in
set_option maxHeartbeats 4000000 in
theorem equal_calls {m1 m2 : Nat} {k1 k2 : List (Str × Str)} (h : St b (HP.fmap m1 k1 :: HP.fmap m2 k2 :: L) w) (hl1 : k1.length ≤ 1000) (hl2 : k2.length ≤ 1000) :
    Calls Tryz.prog 44 #[.map (some m1), .map (some m2)] w fun x w' => (x = .returned (.bool false) ∧ ¬ SameM k1 k2 ∧ St b (HP.fmap m1 k1 :: HP.fmap m2 k2 :: L) w') ∨ (x = .returned (.bool true) ∧ SameM k1 k2 ∧ St b (HP.fmap m1 k1 :: HP.fmap m2 k2 :: L) w') := by
  have hok : ∀ p ∈ k1, okStr p.1 := by obtain ⟨e, _, hs⟩ := h; exact hs.map_ok
  have hn1 : (keysOf k1).Nodup := by obtain ⟨e, _, hs⟩ := h; exact hs.map_nodup
  have hn2 : (keysOf k2).Nodup := by obtain ⟨e, _, hs⟩ := h.f1; exact hs.map_nodup
  have ln1 := h.len_map (P := Tryz.prog) mem0 (t := 72) (ty := 3) mapFiles
  have ln2 := h.len_map (P := Tryz.prog) mem1 (t := 72) (ty := 3) mapFiles
  obtain ⟨n1, hk1⟩ : ∃ n, k1.length = n := ⟨_, rfl⟩
  obtain ⟨n2, hk2⟩ : ∃ n, k2.length = n := ⟨_, rfl⟩
  rw [hk1] at ln1 hl1
  rw [hk2] at ln2 hl2
  have hI1 : (n1 : Int) ≤ 1000 := by omega
  have hI2 : (n2 : Int) ≤ 1000 := by omega
  have H := hide h
  have HOK := hide hok
  have HN1 := hide hn1
  have HN2 := hide hn2
  have HK1 := hide hk1
  have HK2 := hide hk2
  clear h hok hn1 hn2 hk1 hk2
  by_cases hne : n1 = n2
  · subst hne
    go_enter Tryz.func44, Tryz.ntmps44
    go_wp2_with (first
      | (refine wpList_range_st rfl (.tmp 14) 72 rfl mapFiles rfl H.out ?_; intro r w1 h1; have H1 := hide h1; clear h1 H))
    try simp only [Act.put, List.setIfInBounds_toArray, List.set_cons_zero, List.set_cons_succ]
    go_loopg [5, 6, 7, 8] k1.length (fun g _ _ _ _ wr => EqAt b L m1 m2 r k1 k2 g wr)
    case atStart => exact ⟨k1, none, fun p hp => hp, rfl, fun s hs => Or.inl hs, H1.out⟩
    case round =>
      obtain ⟨left, last, hsub, hlen, hk, hs⟩ := hrel
      have H2 := hide hs
      have HS := hide hsub
      have HK := hide hk
      clear hs hsub H1 hk ln1 ln2
      by_cases hne : left = []
      · subst hne
        have h3 := H2.out.rng_done
        have H3 := hide h3
        clear h3
        go_wp2_with (first
          | (refine wpList_next_st rfl (.tmp 15) rfl rfl H2.out (fun _ => ?_) (fun i p w' hi => absurd hi (by simp)); clear H2))
        go_ret
        have hall : SameM k1 k2 := kget_all HN1.out (by rw [HK1.out, HK2.out]) fun s hs => by
          rcases HK.out s hs with h | h
          · cases h
          · exact h
        exact Or.inr ⟨rfl, hall, H3.out⟩
      · go_wp2_with (first
          | (refine wpList_next_st rfl (.tmp 15) rfl rfl H2.out (fun h0 => absurd h0 hne) (fun i p w3 hi h3 => ?_); have HOKP := hide (HOK.out p (HS.out p (List.mem_of_getElem? hi))); have HI := hide hi; have lk := h3.rng_entry (P := Tryz.prog); have lu := h3.lookup (P := Tryz.prog) (t := 72) keyStr mem1 mapFiles (Tryz.zeroValue9 _) p.1 HOKP.out true; have H3 := hide h3; clear h3 H2 hi; obtain ⟨q, hq⟩ : ∃ q, kget k2 p.1 = q := ⟨_, rfl⟩; rw [hq] at lu; have HQ := hide hq; clear hq; rcases q with _ | t; rotate_left 1; by_cases hpt : p.2 = t; (have hb : (p.2 == t) = true := beq_iff_eq.2 hpt; have HPT := hide hpt; clear hpt); rotate_left 1; (have hb : (p.2 == t) = false := beq_eq_false_iff_ne.2 hpt; have HPT := hide hpt; clear hpt); rotate_left 1; rotate_left 1))
        · have hil := (List.getElem?_eq_some_iff.1 HI.out).1
          have hel3 : (left.eraseIdx i).length = left.length - 1 := List.length_eraseIdx_of_lt hil
          have hkp := kget_of_mem HN1.out (HS.out p (List.mem_of_getElem? HI.out))
          go_roundg (gk - 1)
          case measure => omega
          case rel => exact ⟨_, _, fun p' hp' => HS.out p' (List.mem_of_mem_eraseIdx hp'), by omega, fun s hs => by
            rcases HK.out s hs with h | h
            · rcases keys_erase HI.out h with h | rfl
              · exact Or.inl h
              · exact Or.inr (by rw [hkp, HPT.out]; exact HQ.out)
            · exact Or.inr h, H3.out⟩
        all_goals go_ret
        all_goals have hkp := kget_of_mem HN1.out (HS.out p (List.mem_of_getElem? HI.out))
        · exact Or.inl ⟨rfl, fun hs => HPT.out (by have := hs p.1; rw [hkp, HQ.out] at this; exact Option.some.inj this), H3.out.rng_done⟩
        · exact Or.inl ⟨rfl, fun hs => (by have := hs p.1; rw [hkp, HQ.out] at this; cases this), H3.out.rng_done⟩
  · have hneI : ((n1 : Int) == n2) = false := by rw [beq_eq_false_iff_ne]; omega
    go_enter Tryz.func44, Tryz.ntmps44
    go_wp2_with fail
    go_ret
    exact Or.inl ⟨rfl, fun hs => hne (by rw [← HK1.out, ← HK2.out]; exact kget_len HN1.out HN2.out hs), H.out⟩
end Go.Proofs.YtcgnkloljfgiaaaGreatDoor
