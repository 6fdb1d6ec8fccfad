/-
  No program in sight: made slices of structs. package sect: Cut.
-/
import Derived.Test.YtcgnkloljfgiaaaGreatDoorWe
namespace Go.Proofs.YtcgnkloljfgiaaaGreatDoor
open Go.RowKit Go.Maps Go.MapKept

theorem made_flat (c : Array Value) (hc : 0 < c.size) : ∀ n : Nat, (madeCells c (n * c.size)).toList = (List.replicate n c.toList).flatten
  | 0 => by simp [madeCells]
  | n + 1 => by
    have ih := made_flat c hc n
    have e : (madeCells c ((n + 1) * c.size)).toList = (madeCells c (n * c.size)).toList ++ c.toList := by
      simp only [madeCells, Array.toList_map, Array.toList_range]
      rw [Nat.add_mul, Nat.one_mul, List.range_add, List.map_append, List.map_map]
      congr 1
      apply List.ext_getElem
      · simp
      · intro i h1 h2
        have hi : i < c.size := by simpa using h1
        have : (n * c.size + i) % c.size = i := by rw [Nat.mul_comm, Nat.mul_add_mod]; exact Nat.mod_eq_of_lt hi
        simp [this, hi]
    rw [e, ih, List.replicate_succ', List.flatten_append]
    simp
section
variable {P : Program} {ops : Array Oper} {rest : List Oper} {o : Oper} {a : Act} {w : World} {Q : Exit → Act → World → Prop} {b : Env} {L : List HP} {α : Type} {E : El α} {t T : TypeId} {bytes : Nat} {z : Value}
theorem wpList_makeE_st (hg : o.guard = none) (l c : Operand) (S : SlT P t T E.sz bytes z) (ho : o.op = .makeSlice t l c) {kl kc : IntKind} {vl vc : Int} (n : Nat) (hl : a.eval l = .int kl vl) (hc : a.eval c = .int kc vc) (el : vl = n) (ec : vc = n)
    (d : α) (hd : ∀ h, E.rd h d z.cells.toList) (hs : St b L w) (hbytes : bytes * n ≤ 140737488355328) (h63 : n ≤ maxLen)
    (h : ∀ g w', St b (HP.rows T E (.slice (some ⟨g, 0, none⟩) n n) (List.replicate n d) :: L) w' → wpList P ops Q rest (a.put o.dst (.slice (some ⟨g, 0, none⟩) n n)) w') : wpList P ops Q (o :: rest) a w := by
  obtain ⟨i, hi, hz, hsize, hby⟩ := info_parts S.info
  obtain ⟨e, hle, hs⟩ := hs
  refine wpList_make_sl hg l c t ho S.ht hi hz hsize hby n hl hc el ec hs hbytes h63 ?_
  intro g w' h'
  refine h g w' ⟨e, hle, Sat.rows_shut ?_ (El.rds_rep (hd e.h) n)⟩
  rw [List.length_replicate]
  have hzc : z.cells.size = E.sz := S.zs
  rw [← hzc, made_flat z.cells (by rw [hzc]; exact S.pos)] at h'
  rw [← hzc]
  exact h'
theorem wpList_copy_run (hg : o.guard = none) (s x : Operand) {t t2 : TypeId} (ho : o.op = .call { callee := .builtin .copy, args := #[s, x], argTypes := #[t, t2] }) {v sv v' : Value} {w' : World} (hv : a.eval s = v) (hx : a.eval x = sv) (hrun : (Builtin.copy_ #[t, t2] o.type #[v, sv]).run P w = .ok v' w') (h : wpList P ops Q rest (a.put o.dst v') w') : wpList P ops Q (o :: rest) a w :=
  wpList_val hg (by simp [execOp, ho, resolve, invoke, builtin, hv, hx, hrun]) h
end
def partE : El PartR where
  sz := 5
  rd := fun h p cs => ∃ vd, cs = [.int .i64 (p.gen : Nat), .int .i64 (p.rc : Nat), .int .i64 (p.n : Nat), .int .i64 (p.of : Nat), vd] ∧ byteE.sl h vd p.data
  len := fun ⟨_, h, _⟩ => by rw [h]; rfl
  one := fun ⟨vd, h, _, _, _, base, cap, hv, _⟩ u hu => by
    rw [h] at hu
    simp only [List.mem_cons, List.not_mem_nil, or_false] at hu
    rcases hu with rfl | rfl | rfl | rfl | rfl
    · rfl
    · rfl
    · rfl
    · rfl
    · rw [hv]; rfl
  up := fun hh ⟨vd, h, H⟩ => ⟨vd, h, El.sl_up hh H⟩
variable {b : Env} {L : List HP} {w : World}
def partN (gen rc N : Nat) (l : Byt) (i : Nat) : PartR := ⟨gen, rc, i, N, ((wholeB l).drop (i * 52)).take 52⟩
def cutL (gen rc N : Nat) (l : Byt) (k : Nat) : List PartR := (List.range k).map (partN gen rc N l) ++ List.replicate (N - k) ⟨0, 0, 0, 0, []⟩
theorem cutL_len {gen rc N : Nat} {l : Byt} {k : Nat} (h : k ≤ N) : (cutL gen rc N l k).length = N := by simp [cutL]; omega
theorem cutL_set {gen rc N : Nat} {l : Byt} {k : Nat} (h : k < N) : (cutL gen rc N l k).set k (partN gen rc N l k) = cutL gen rc N l (k + 1) := by
  unfold cutL
  have hk : ((List.range k).map (partN gen rc N l)).length = k := by simp
  rw [List.set_append_right _ _ (by omega), hk, Nat.sub_self]
  have e : N - k = (N - (k + 1)) + 1 := by omega
  rw [e, List.replicate_succ, List.set_cons_zero, List.range_succ, List.map_append, List.append_assoc]
  rfl
theorem whole_copy {l : Byt} {M : Nat} (hM : M = partsOf l.length * 52) : (leB l.length 4 ++ List.replicate (M - 4) 0).take 4 ++ l ++ (leB l.length 4 ++ List.replicate (M - 4) (0 : UInt8)).drop (4 + l.length) = wholeB l := by
  have h4 := leB_len 4 l.length
  rw [List.take_append_of_le_length (by omega), List.take_of_length_le (by omega), List.drop_append, List.drop_of_length_le (by omega), List.nil_append, h4, Nat.add_sub_cancel_left, List.drop_replicate]
  unfold wholeB
  congr 2
  omega
theorem bclone_n {g o n cap : Nat} {l : Byt} (hn : l.length = n) (h : St b L w) (hm : HP.sl byteE (.slice (some ⟨g, o, none⟩) n cap) l ∈ L) (hl : n ≤ 1000000) :
    Calls Tryz.prog 98 #[.slice (some ⟨g, o, none⟩) n cap] w fun x w' => ∃ v, x = .returned v ∧ St b (HP.rows 5 byteE v l :: L) w' := by
  subst hn; exact bclone_calls h hm hl
def CutAt (b : Env) (L : List HP) (gen rc N : Nat) (l : Byt) (g : Nat) (i : Value) (wr : World) : Prop := ∃ k : Nat, k ≤ N ∧ i = .int .i64 k ∧
  St b (HP.rows 127 partE (.slice (some ⟨g, 0, none⟩) N N) (cutL gen rc N l k) :: L) wr
set_option linter.unusedSimpArgs false in
set_option maxRecDepth 100000 in
set_option maxHeartbeats 4000000 in
theorem cut_calls {v : Value} {gen rc : Nat} {l : Byt} (h : St b L w) (hm : HP.sl byteE v l ∈ L) (hg1 : 1 ≤ gen) (hg2 : gen ≤ 4294967295) (hr : rc ≤ 65535) (hl : partsOf l.length ≤ 255) :
    Calls Tryz.prog 69 #[.int .i64 (gen : Nat), .int .i64 (rc : Nat), v] w fun x w' => ∃ v', x = .returned (.tuple #[v', .int .i64 0]) ∧ St b (HP.sl partE v' (cutB gen rc l) :: L) w' := by
  obtain ⟨base, cap, rfl, hc1, hc2⟩ := h.sl_form hm
  have hln : l.length ≤ 255 * 52 := by unfold partsOf at hl; omega
  have hlI : (l.length : Int) ≤ 13260 := by omega
  have W1 : Hid (∀ w, Calls Tryz.prog 96 #[.int .i64 (gen : Nat), .int .i64 1, .int .i64 4294967295] w (fun e w' => e = .returned (.bool true) ∧ w = w')) := hide (fun w => (swithin_calls gen 1 4294967295).mono (fun e w' he => ⟨by rw [he.1, decide_eq_true (by omega), decide_eq_true (by omega)]; rfl, he.2⟩))
  have W2 : Hid (∀ w, Calls Tryz.prog 96 #[.int .i64 (rc : Nat), .int .i64 0, .int .i64 65535] w (fun e w' => e = .returned (.bool true) ∧ w = w')) := hide (fun w => (swithin_calls rc 0 65535).mono (fun e w' he => ⟨by rw [he.1, decide_eq_true (by omega), decide_eq_true (by omega)]; rfl, he.2⟩))
  obtain ⟨N, hN0⟩ : ∃ N, partsOf l.length = N := ⟨_, rfl⟩
  obtain ⟨M, hM0⟩ : ∃ M, N * 52 = M := ⟨_, rfl⟩
  have hN : (4 + (l.length : Int) + 52 - 1) / 52 = (N : Int) := by rw [← hN0]; unfold partsOf; omega
  rw [hN0] at hl
  have hNI : (N : Int) ≤ 255 := by omega
  have hN1 : 1 ≤ N := by rw [← hN0]; exact partsOf_pos _
  have hlM : 4 + l.length ≤ M := by rw [← hM0, ← hN0]; unfold partsOf; omega
  have hMI : (M : Int) ≤ 13260 := by omega
  have hM4 : (4 : Int) ≤ M := by omega
  have hlM2 : 4 + (l.length : Int) ≤ M := by omega
  have HNM := hide (And.intro hN0 (And.intro hM0 (And.intro hlM hl)))
  have HWC := hide (whole_copy (l := l) (M := M) (by rw [← hM0, hN0]))
  have hM4n : ¬ M = 4 ∨ M = 4 := by omega
  have H := hide h
  have HM := hide hm
  clear h hm hg1 hg2 hr hc1 hc2 hln hlM hl hN0 hM0
  by_cases hMe : M = 4
  · exfalso
    have := HNM.out.2.1
    omega
  clear hM4n
  go_enter Tryz.func69, Tryz.ntmps69
  go_wp2_with (first
    | (go_at_call 96; with_reducible refine (W1.out _).mono ?_; rintro z w2 ⟨rfl, rfl⟩; clear W1)
    | (go_at_call 96; with_reducible refine (W2.out _).mono ?_; rintro z w2 ⟨rfl, rfl⟩; clear W2)
    | (refine wpList_make_st (E := byteE) (T := 5) rfl (.tmp 31) (.tmp 31) slByte rfl rfl M rfl rfl ?_ ?_ (0 : UInt8) (fun _ => ⟨rfl, trivial⟩) H.out ?_ ?_ ?_; (have := HNM.out.2.1; omega); (have := HNM.out.2.1; omega); omega; (unfold maxLen; omega); intro g9 w9 h9; have H9 := hide h9.rows_bytes; clear h9 H)
    | (go_at_call 97; refine (lay_calls H9.out 0 4 _ l.length (by rw [List.length_map, List.length_replicate]; omega) (by decide) (by omega)).mono ?_; rintro z w10 ⟨rfl, h10⟩; rw [layC_B, show List.replicate M (0 : UInt8) = [] ++ List.replicate M 0 from rfl, layB_at (a := ([] : Byt)) (off := 0) rfl, List.nil_append, List.drop_replicate] at h10; have H10 := hide h10; clear h10 H9)
    | (obtain ⟨w11, v11, hrun, h11⟩ := H10.out.copy_in (P := Tryz.prog) (t := 37) (t2 := 37) Tryz.underlying37 (by kernel_rfl) (off := 4) (n := M - 4) (cap := M - 4) HM.out (by have := HNM.out.2.2.1; omega) (by simp only [List.length_append, leB_len, List.length_replicate]; omega) 3; rw [HWC.out] at h11; refine wpList_copy_run rfl (.tmp 39) (.tmp 40) rfl rfl rfl hrun ?_; have H11 := hide h11; clear h11 hrun H10)
    | (refine wpList_makeE_st (E := partE) (T := 127) rfl (.tmp 42) (.tmp 42) slPart rfl N rfl rfl rfl rfl ⟨0, 0, 0, 0, []⟩ (fun h => ⟨_, rfl, El.sl_nil byteE h⟩) H11.out ?_ ?_ ?_; omega; (unfold maxLen; omega); intro g12 w12 h12; have H12 := hide h12; clear h12 H11))
  have hwl : (wholeB l).length = M := by rw [wholeB_len, HNM.out.1, HNM.out.2.1]
  have HWL := hide hwl
  have h13 := (H12.out.f1.bytes_rows (by rw [hwl]; unfold maxLen; omega)).persist.f1
  rw [hwl, show List.replicate N (⟨0, 0, 0, 0, []⟩ : PartR) = cutL gen rc N l 0 by simp [cutL]] at h13
  have H13 := hide h13
  clear h13 hwl H12
  go_loopw [46] (fun i wr => CutAt b (HP.sl byteE (.slice (some ⟨g9, 0, none⟩) M M) (wholeB l) :: L) gen rc N l g12 i wr) (fun i _ => N - (intOf i).toNat)
  case atStart => exact ⟨0, by omega, rfl, H13.out⟩
  case round =>
    obtain ⟨k, hk, rfl, hs⟩ := hrel
    have H14 := hide hs
    clear hs H13
    by_cases hlt : k < N
    · have hlt' : (k : Int) < N := by omega
      have hkM : (k + 1) * 52 ≤ M := by have := HNM.out.2.1; omega
      have hkM1 : (k : Int) * 52 ≤ M := by omega
      have hkM2 : ((k : Int) + 1) * 52 ≤ M := by omega
      obtain ⟨bs, cs, hsl, h15⟩ := H14.out.slice_run slByte mem1 (k * 52) ((k + 1) * 52) (by omega) (by rw [HWL.out]; exact hkM) (some (.int .i64 ((k * 52 : Nat) : Int))) (some (.int .i64 (((k + 1) * 52 : Nat) : Int))) (Or.inr ⟨.i64, rfl⟩) (Or.inr ⟨.i64, rfl⟩)
      rw [show (((k * 52 : Nat)) : Int) = (k : Int) * 52 by omega, show (((k + 1) * 52 : Nat) : Int) = ((k : Int) + 1) * 52 by omega, show (k + 1) * 52 - k * 52 = 52 by omega] at hsl
      rw [List.drop_take, show (k + 1) * 52 - k * 52 = 52 by omega] at h15
      have hD : (((wholeB l).drop (k * 52)).take 52).length = 52 := by rw [List.length_take, List.length_drop, HWL.out]; omega
      have hpn : partN gen rc N l k = ⟨gen, rc, k, N, ((wholeB l).drop (k * 52)).take 52⟩ := rfl
      have hset := cutL_set (gen := gen) (rc := rc) (l := l) hlt
      have hcl := cutL_len (gen := gen) (rc := rc) (l := l) hk
      rw [hpn] at hset
      generalize ((wholeB l).drop (k * 52)).take 52 = D at h15 hD hset
      obtain ⟨gb, ob, hgb⟩ := h15.sl_base mem0 (by omega) Nat.one_pos
      subst hgb
      have HD := hide hD
      have HSET := hide hset
      have HCL := hide hcl
      have H15 := hide h15.f1
      clear h15 hD hset hcl hpn H14 hkM
      go_wp2_with (first
        | (go_at_call 98; refine (bclone_n HD.out H15.out mem1 (by decide)).mono ?_; rintro z w16 ⟨vd, rfl, h16⟩; obtain ⟨bD, cD, hvD, _⟩ := h16.rows_form mem0; subst hvD; have H16 := hide h16.persist.f1; clear h16 H15)
        | ((refine wpList_storeE_st (cs := [.int .i64 (gen : Nat), .int .i64 (rc : Nat), .int .i64 (k : Nat), .int .i64 (N : Nat), .slice bD D.length cD]) rfl 127 (.tmp 64) (.tmp 63) rfl k szPart rfl rfl rfl H16.out (by rw [HCL.out]; exact hlt) (x' := ⟨gen, rc, k, N, D⟩) (fun e hl hs => ⟨_, rfl, hs.sl_mem mem1⟩) ?_); intro w17 h17; rw [HSET.out] at h17; have H17 := hide h17.d1.d1; clear h17 H16))
      go_roundw
      case rel => exact ⟨k + 1, by omega, by go_num, H17.out⟩
      case measure => exact meas_step hlt
    · have hkN : k = N := by omega
      subst hkN
      have h18 := H14.out.persist.d1
      have hcut : cutL gen rc k l k = cutB gen rc l := by
        unfold cutL cutB
        rw [Nat.sub_self, List.replicate_zero, List.append_nil, HNM.out.1]
        apply List.map_congr_left
        intro i _
        unfold partN partAt
        rw [HNM.out.1]
      rw [hcut] at h18
      have H18 := hide h18
      clear h18 hcut H14
      go_wp2_with fail
      go_ret2
      exact ⟨_, rfl, H18.out⟩
end Go.Proofs.YtcgnkloljfgiaaaGreatDoor
