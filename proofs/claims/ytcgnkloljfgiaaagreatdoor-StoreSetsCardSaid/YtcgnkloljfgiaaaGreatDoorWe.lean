/-
  package sect: Bytes of what is none, Parse.
-/
import Derived.Test.YtcgnkloljfgiaaaGreatDoorWd
import Derived.Laws.ResultCell
import Derived.Laws.Rows
namespace Go.Proofs.YtcgnkloljfgiaaaGreatDoor
open Go.RowKit Go.Maps Go.MapKept
theorem results_cell_row2 {P : Program} {fn : Func} {p u : Tmp} {ty : TypeId} (h : fn.results = #[.cell p ty, .tmp u]) (tmps : Array Value) (w : World) (g : Nat) (t : TypeId) (cs : Array Value) (fr : Nat × Nat) (d : TypeDesc)
    (hp : tmps.getD p undef = .pointer (some ⟨g, 0, none⟩)) (hg : w.heap[g]? = some (.cells cs t fr))
    (hu : P.underlying ty = some d) (hd : (match d with | .struct _ | .array _ _ => true | _ => false) = true) (hi : (P.info? ty).map (·.size) = some cs.size) :
    (results fn tmps).run P w = .ok (.tuple #[.agg cs, tmps.getD u undef]) w := by
  rw [results_cell_tmp h, hp]
  simp [asAddr, run_loadVar_row w g t ty cs fr d hg hu hd hi]
section
variable {P : Program} {ops : Array Oper} {o : Oper} {a : Act} {w : World} {Q : Exit → Act → World → Prop} {X : Prop} {K : Act → World → Prop} {b : Env} {L : List HP}
theorem step_alloc_ag {zs : List Value} {T : TypeId} (hg : o.guard = none) (A : AgT P T zs) (ho : o.op = .alloc T) (hs : St b L w) (h : ∀ g w', St b (HP.blk g (.cells zs.toArray T) :: L) w' → K (a.put o.dst (.pointer (some ⟨g, 0, none⟩))) w') : if Region.wanted o (yielded ops a.tmps) = true then Oper.wp P o a w K Q else X := by
  refine step_wval hg (w' := w.alloc (.cells zs.toArray T)) (v := .pointer (some ⟨w.heap.size, 0, none⟩)) ?_ (h _ _ (hs.alloc _))
  simp [execOp, ho, Instr.alloc, newVar, newRow, A.zero w, Value.cells]
end
variable {b : Env} {L : List HP} {w : World}
theorem St.sl_sub {g o n cap : Nat} {l : Byt} (h : St b L w) (hm : HP.sl byteE (.slice (some ⟨g, o, none⟩) n cap) l ∈ L) (off m c : Nat) (hfit : off + m ≤ l.length) (h1 : m ≤ c) (h2 : c ≤ maxLen) : St b (HP.sl byteE (.slice (some ⟨g, o + off, none⟩) m c) ((l.drop off).take m) :: L) w :=
  h.lay fun e _ hs _ => by
    obtain ⟨cs, hr, hv, base, cap2, hsv, _⟩ := hs.sl_mem hm
    rw [sc_rds hr] at hv
    have hlen : ((l.drop off).take m).length = m := by rw [List.length_take, List.length_drop]; omega
    refine ⟨_, rds_bytes e.h _, ?_, some ⟨g, o + off, none⟩, c, by rw [hlen], by rw [hlen]; exact h1, h2⟩
    rw [hlen]
    obtain ⟨b2, c2, hv2, hx⟩ := hv
    rcases hx with hx | ⟨bb, oo, cc, tt, fz, rfl, hh, hcell⟩
    · have hl0 : l = [] := by simpa using hx
      refine ⟨_, _, rfl, Or.inl ?_⟩
      rw [hl0]; simp
    · simp only [Value.slice.injEq, Option.some.injEq, Addr.mk.injEq, and_true] at hv2
      obtain ⟨⟨rfl, rfl⟩, -, -⟩ := hv2
      refine ⟨_, _, rfl, Or.inr ⟨g, o + off, cc, tt, fz, rfl, hh, fun j u hj => ?_⟩⟩
      rw [List.getElem?_map, List.getElem?_take] at hj
      split at hj
      · rw [List.getElem?_drop] at hj
        rw [Nat.add_assoc]
        exact hcell (off + j) u (by rw [List.getElem?_map]; exact hj)
      · simp at hj
def fieldB (l : Byt) (off n : Nat) : Nat := numB ((l.drop off).take n)
theorem told_sub {g o : Nat} {l : Byt} (hl : l.length = 64) (off n cap : Nat) (hfit : off + n ≤ 64) (hn : n ≤ 4) (hS : ∀ j (_ : j < l.length), w.cell? ⟨g, o + j, none⟩ = some (B8 l[j])) :
    Calls Tryz.prog 115 #[.slice (some ⟨g, o + off, none⟩) n cap] w (fun e w' => e = .returned (.int .i64 (fieldB l off n : Nat)) ∧ w' = w) := by
  have hlen : ((l.drop off).take n).length = n := by rw [List.length_take, List.length_drop]; omega
  have := told_calls (w := w) (g := g) (off := o + off) (cap := cap) (l := (l.drop off).take n) (fun j hj => by
    rw [hlen] at hj
    rw [Nat.add_assoc, hS (off + j) (by omega)]
    simp) (by omega)
  rw [hlen] at this
  exact this.mono (fun e w' he => ⟨he.1, he.2.symm⟩)
def headR (l : Byt) : PartR := ⟨fieldB l 0 4, fieldB l 4 2, fieldB l 6 1, fieldB l 7 1, l.drop 12⟩
theorem fieldB_lt (l : Byt) (off n : Nat) : fieldB l off n < 256 ^ n := by
  have h := numB_lt ((l.drop off).take n)
  refine Nat.lt_of_lt_of_le h (Nat.pow_le_pow_right (by decide) ?_)
  rw [List.length_take]; omega
def okP (p : PartR) : Bool := decide (1 ≤ p.gen) && decide (p.gen ≤ 4294967295) && decide (p.rc ≤ 65535) && decide (1 ≤ p.of) && decide (p.of ≤ 255) && decide (p.n ≤ p.of - 1) && decide (p.data.length = 52)
theorem okP_iff (p : PartR) : okP p = true ↔ p.ok := by
  unfold okP PartR.ok
  simp only [Bool.and_eq_true, decide_eq_true_eq, and_assoc]
def parseB (l : Byt) : Option PartR := if okP (headR l) = true ∧ partB (headR l) = l then some (headR l) else none
theorem parse_part {p : PartR} (h : p.ok) : parseB (partB p) = some p := by
  obtain ⟨gen, rc, n, of, data⟩ := p
  obtain ⟨o1, o2, o3, o4, o5, o6, o7⟩ := h
  simp only at o1 o2 o3 o4 o5 o6 o7
  have e : headR (partB ⟨gen, rc, n, of, data⟩) = ⟨gen, rc, n, of, data⟩ := by
    have hb : partB ⟨gen, rc, n, of, data⟩ = leB gen 4 ++ (leB rc 2 ++ (leB n 1 ++ (leB of 1 ++ (leB (crcN (partHead ⟨gen, rc, n, of, data⟩ ++ data)) 4 ++ data)))) := by simp [partB, partHead]
    have f : ∀ (a c r : Byt) (k m : Nat), a.length = k → c.length = m → ((a ++ (c ++ r)).drop k).take m = c := by
      intro a c r k m ha hc
      rw [← ha, List.drop_left, ← hc, List.take_left]
    unfold headR fieldB
    rw [hb]
    congr 1
    · rw [List.drop_zero, List.take_append_of_le_length (by rw [leB_len]; omega), List.take_of_length_le (by rw [leB_len]; omega)]; exact numB_leB 4 _ (by omega)
    · rw [f _ _ _ _ _ (leB_len 4 gen) (leB_len 2 rc)]; exact numB_leB 2 _ (by omega)
    · rw [← List.append_assoc, f _ _ _ _ _ (by simp [leB_len]) (leB_len 1 n)]; exact numB_leB 1 _ (by omega)
    · rw [← List.append_assoc, ← List.append_assoc, f _ _ _ _ _ (by simp [leB_len]) (leB_len 1 of)]; exact numB_leB 1 _ (by omega)
  unfold parseB
  rw [e, if_pos ⟨(okP_iff _).2 ⟨o1, o2, o3, o4, o5, o6, o7⟩, rfl⟩]
set_option linter.unusedSimpArgs false in
set_option maxRecDepth 100000 in
set_option maxHeartbeats 4000000 in
theorem bytes_bad1 {v : Value} {gen rc n of : Nat} (h : St b L w) (_b1 : gen ≤ 4294967295) (_b2 : rc ≤ 65535) (_b3 : of ≤ 255) (_b4 : n ≤ 255) (hb : gen = 0) :
    Calls Tryz.prog 99 #[.agg #[.int .i64 (gen : Nat), .int .i64 (rc : Nat), .int .i64 (n : Nat), .int .i64 (of : Nat), v]] w fun x w' => x = .returned (.tuple #[.slice none 0 0, .int .i64 1]) ∧ St b L w' := by
  have H := hide h
  have hof : (of : Int) ≤ 255 := by omega
  have hwo : wrap64 ((of : Int) - 1) = (of : Int) - 1 := by unfold wrap64; omega
  have W1 : Hid (∀ w, Calls Tryz.prog 96 #[.int .i64 (gen : Nat), .int .i64 1, .int .i64 4294967295] w (fun e w' => e = .returned (.bool false) ∧ w = w')) := hide (fun w => (swithin_calls gen 1 4294967295).mono (fun e w' he => ⟨by rw [he.1]; simp; omega, he.2⟩))
  clear h _b1 _b2 _b3 _b4 hb
  go_enter Tryz.func99, Tryz.ntmps99
  go_wp2_with (first
    | ((with_reducible refine wpList_box_st (cs := [.int .i64 (gen : Nat), .int .i64 (rc : Nat), .int .i64 (n : Nat), .int .i64 (of : Nat), v]) rfl (.tmp 0) rfl rfl H.out ?_); intro g1 w1 h1; have p0 : w1.cell? ⟨g1, 0, none⟩ = some (.int .i64 (gen : Nat)) := h1.blk_cell mem0 0; have p1 : w1.cell? ⟨g1, 1, none⟩ = some (.int .i64 (rc : Nat)) := h1.blk_cell mem0 1; have p2 : w1.cell? ⟨g1, 2, none⟩ = some (.int .i64 (n : Nat)) := h1.blk_cell mem0 2; have p3 : w1.cell? ⟨g1, 3, none⟩ = some (.int .i64 (of : Nat)) := h1.blk_cell mem0 3; have H1 := hide h1; clear h1 H)
    | (go_at_call 96; with_reducible refine (W1.out _).mono ?_; rintro z w2 ⟨rfl, rfl⟩; clear W1))
  go_ret2
  exact ⟨rfl, H1.out.drop⟩
set_option linter.unusedSimpArgs false in
set_option maxRecDepth 100000 in
set_option maxHeartbeats 4000000 in
theorem bytes_bad2 {v : Value} {gen rc n of : Nat} (h : St b L w) (_b1 : gen ≤ 4294967295) (_b2 : rc ≤ 65535) (_b3 : of ≤ 255) (_b4 : n ≤ 255) (ha : 1 ≤ gen) (hb : of = 0) :
    Calls Tryz.prog 99 #[.agg #[.int .i64 (gen : Nat), .int .i64 (rc : Nat), .int .i64 (n : Nat), .int .i64 (of : Nat), v]] w fun x w' => x = .returned (.tuple #[.slice none 0 0, .int .i64 1]) ∧ St b L w' := by
  have H := hide h
  have hof : (of : Int) ≤ 255 := by omega
  have hwo : wrap64 ((of : Int) - 1) = (of : Int) - 1 := by unfold wrap64; omega
  have W1 : Hid (∀ w, Calls Tryz.prog 96 #[.int .i64 (gen : Nat), .int .i64 1, .int .i64 4294967295] w (fun e w' => e = .returned (.bool true) ∧ w = w')) := hide (fun w => (swithin_calls gen 1 4294967295).mono (fun e w' he => ⟨by rw [he.1]; simp; omega, he.2⟩))
  have W2 : Hid (∀ w, Calls Tryz.prog 96 #[.int .i64 (rc : Nat), .int .i64 0, .int .i64 65535] w (fun e w' => e = .returned (.bool true) ∧ w = w')) := hide (fun w => (swithin_calls rc 0 65535).mono (fun e w' he => ⟨by rw [he.1]; simp; omega, he.2⟩))
  have W3 : Hid (∀ w, Calls Tryz.prog 96 #[.int .i64 (of : Nat), .int .i64 1, .int .i64 255] w (fun e w' => e = .returned (.bool false) ∧ w = w')) := hide (fun w => (swithin_calls of 1 255).mono (fun e w' he => ⟨by rw [he.1]; simp; omega, he.2⟩))
  clear h _b1 _b2 _b3 _b4 ha hb
  go_enter Tryz.func99, Tryz.ntmps99
  go_wp2_with (first
    | ((with_reducible refine wpList_box_st (cs := [.int .i64 (gen : Nat), .int .i64 (rc : Nat), .int .i64 (n : Nat), .int .i64 (of : Nat), v]) rfl (.tmp 0) rfl rfl H.out ?_); intro g1 w1 h1; have p0 : w1.cell? ⟨g1, 0, none⟩ = some (.int .i64 (gen : Nat)) := h1.blk_cell mem0 0; have p1 : w1.cell? ⟨g1, 1, none⟩ = some (.int .i64 (rc : Nat)) := h1.blk_cell mem0 1; have p2 : w1.cell? ⟨g1, 2, none⟩ = some (.int .i64 (n : Nat)) := h1.blk_cell mem0 2; have p3 : w1.cell? ⟨g1, 3, none⟩ = some (.int .i64 (of : Nat)) := h1.blk_cell mem0 3; have H1 := hide h1; clear h1 H)
    | (go_at_call 96; with_reducible refine (W1.out _).mono ?_; rintro z w2 ⟨rfl, rfl⟩; clear W1)
    | (go_at_call 96; with_reducible refine (W2.out _).mono ?_; rintro z w2 ⟨rfl, rfl⟩; clear W2)
    | (go_at_call 96; with_reducible refine (W3.out _).mono ?_; rintro z w2 ⟨rfl, rfl⟩; clear W3))
  go_ret2
  exact ⟨rfl, H1.out.drop⟩
set_option linter.unusedSimpArgs false in
set_option maxRecDepth 100000 in
set_option maxHeartbeats 4000000 in
theorem bytes_bad3 {v : Value} {gen rc n of : Nat} (h : St b L w) (_b1 : gen ≤ 4294967295) (_b2 : rc ≤ 65535) (_b3 : of ≤ 255) (_b4 : n ≤ 255) (ha : 1 ≤ gen) (hb : 1 ≤ of) (hc : of ≤ n) :
    Calls Tryz.prog 99 #[.agg #[.int .i64 (gen : Nat), .int .i64 (rc : Nat), .int .i64 (n : Nat), .int .i64 (of : Nat), v]] w fun x w' => x = .returned (.tuple #[.slice none 0 0, .int .i64 1]) ∧ St b L w' := by
  have H := hide h
  have hof : (of : Int) ≤ 255 := by omega
  have hwo : wrap64 ((of : Int) - 1) = (of : Int) - 1 := by unfold wrap64; omega
  have W1 : Hid (∀ w, Calls Tryz.prog 96 #[.int .i64 (gen : Nat), .int .i64 1, .int .i64 4294967295] w (fun e w' => e = .returned (.bool true) ∧ w = w')) := hide (fun w => (swithin_calls gen 1 4294967295).mono (fun e w' he => ⟨by rw [he.1]; simp; omega, he.2⟩))
  have W2 : Hid (∀ w, Calls Tryz.prog 96 #[.int .i64 (rc : Nat), .int .i64 0, .int .i64 65535] w (fun e w' => e = .returned (.bool true) ∧ w = w')) := hide (fun w => (swithin_calls rc 0 65535).mono (fun e w' he => ⟨by rw [he.1]; simp; omega, he.2⟩))
  have W3 : Hid (∀ w, Calls Tryz.prog 96 #[.int .i64 (of : Nat), .int .i64 1, .int .i64 255] w (fun e w' => e = .returned (.bool true) ∧ w = w')) := hide (fun w => (swithin_calls of 1 255).mono (fun e w' he => ⟨by rw [he.1]; simp; omega, he.2⟩))
  have W4 : Hid (∀ w, Calls Tryz.prog 96 #[.int .i64 (n : Nat), .int .i64 0, .int .i64 ((of : Nat) - 1)] w (fun e w' => e = .returned (.bool false) ∧ w = w')) := hide (fun w => (swithin_calls n 0 ((of : Nat) - 1)).mono (fun e w' he => ⟨by rw [he.1]; simp; omega, he.2⟩))
  clear h _b1 _b2 _b3 _b4 ha hb hc
  go_enter Tryz.func99, Tryz.ntmps99
  go_wp2_with (first
    | ((with_reducible refine wpList_box_st (cs := [.int .i64 (gen : Nat), .int .i64 (rc : Nat), .int .i64 (n : Nat), .int .i64 (of : Nat), v]) rfl (.tmp 0) rfl rfl H.out ?_); intro g1 w1 h1; have p0 : w1.cell? ⟨g1, 0, none⟩ = some (.int .i64 (gen : Nat)) := h1.blk_cell mem0 0; have p1 : w1.cell? ⟨g1, 1, none⟩ = some (.int .i64 (rc : Nat)) := h1.blk_cell mem0 1; have p2 : w1.cell? ⟨g1, 2, none⟩ = some (.int .i64 (n : Nat)) := h1.blk_cell mem0 2; have p3 : w1.cell? ⟨g1, 3, none⟩ = some (.int .i64 (of : Nat)) := h1.blk_cell mem0 3; have H1 := hide h1; clear h1 H)
    | (go_at_call 96; with_reducible refine (W1.out _).mono ?_; rintro z w2 ⟨rfl, rfl⟩; clear W1)
    | (go_at_call 96; with_reducible refine (W2.out _).mono ?_; rintro z w2 ⟨rfl, rfl⟩; clear W2)
    | (go_at_call 96; with_reducible refine (W3.out _).mono ?_; rintro z w2 ⟨rfl, rfl⟩; clear W3)
    | (go_at_call 96; with_reducible refine (W4.out _).mono ?_; rintro z w2 ⟨rfl, rfl⟩; clear W4))
  go_ret2
  exact ⟨rfl, H1.out.drop⟩
theorem bytes_bad {v : Value} {p : PartR} (h : St b L w) (b1 : p.gen ≤ 4294967295) (b2 : p.rc ≤ 65535) (b3 : p.of ≤ 255) (b4 : p.n ≤ 255) (b5 : p.data.length = 52) (hb : okP p = false) :
    Calls Tryz.prog 99 #[.agg #[.int .i64 (p.gen : Nat), .int .i64 (p.rc : Nat), .int .i64 (p.n : Nat), .int .i64 (p.of : Nat), v]] w fun x w' => x = .returned (.tuple #[.slice none 0 0, .int .i64 1]) ∧ St b L w' := by
  by_cases h1 : p.gen = 0
  · exact bytes_bad1 h b1 b2 b3 b4 h1
  · by_cases h2 : p.of = 0
    · exact bytes_bad2 h b1 b2 b3 b4 (by omega) h2
    · by_cases h3 : p.of ≤ p.n
      · exact bytes_bad3 h b1 b2 b3 b4 (by omega) (by omega) h3
      · exfalso
        have := (okP_iff p).2 ⟨by omega, b1, b2, by omega, b3, by omega, b5⟩
        rw [hb] at this; cases this
theorem szPart : (Tryz.prog.info? 127).map (·.size) = some 5 := by kernel_rfl
set_option linter.unusedSimpArgs false in
set_option maxRecDepth 100000 in
set_option maxHeartbeats 4000000 in
theorem parse_calls {g o cap : Nat} {l : Byt} (h : St b L w) (hm : HP.sl byteE (.slice (some ⟨g, o, none⟩) 64 cap) l ∈ L) :
    Calls Tryz.prog 92 #[.slice (some ⟨g, o, none⟩) 64 cap] w fun x w' =>
      (∃ p vd, parseB l = some p ∧ x = .returned (.tuple #[.agg #[.int .i64 (p.gen : Nat), .int .i64 (p.rc : Nat), .int .i64 (p.n : Nat), .int .i64 (p.of : Nat), vd], .bool true]) ∧ St b (HP.sl byteE vd p.data :: L) w') ∨
      (parseB l = none ∧ x = .returned (.tuple #[.agg #[.int .i64 0, .int .i64 0, .int .i64 0, .int .i64 0, .slice none 0 0], .bool false]) ∧ St b L w') := by
  obtain ⟨b0, c0, hv0, hc1, hc2⟩ := h.sl_form hm
  simp only [Value.slice.injEq] at hv0
  obtain ⟨-, hl, rfl⟩ := hv0
  replace hl := hl.symm
  rw [hl] at hc1
  have hcap4 : (4 : Int) ≤ cap := by omega
  have hcap6 : (6 : Int) ≤ cap := by omega
  have hcap7 : (7 : Int) ≤ cap := by omega
  have hcap8 : (8 : Int) ≤ cap := by omega
  have hcap12 : (12 : Int) ≤ cap := by omega
  have hcap64 : (64 : Int) ≤ cap := by omega
  have ncap4 : ¬ cap = 4 := by omega
  have ncap6 : ¬ cap = 6 := by omega
  have ncap7 : ¬ cap = 7 := by omega
  have ncap12 : ¬ cap = 12 := by omega
  have hdl : (l.drop 12).length = 52 := by rw [List.length_drop]; omega
  have h2 := h.sl_sub hm 12 52 (cap - 12) (by omega) (by omega) (by omega)
  rw [List.take_of_length_le (by omega)] at h2
  have hsk : ∀ (L' : List HP) (w' : World), St b L' w' → HP.sl byteE (.slice (some ⟨g, o, none⟩) 64 cap) l ∈ L' → ∀ j (_ : j < l.length), w'.cell? ⟨g, o + j, none⟩ = some (B8 l[j]) := fun L' w' h' hm' j hj => (h'.sc_at hm' hj).1
  have hb : (headR l).gen ≤ 4294967295 ∧ (headR l).rc ≤ 65535 ∧ (headR l).of ≤ 255 ∧ (headR l).n ≤ 255 := by
    have a1 := fieldB_lt l 0 4
    have a2 := fieldB_lt l 4 2
    have a3 := fieldB_lt l 7 1
    have a4 := fieldB_lt l 6 1
    refine ⟨?_, ?_, ?_, ?_⟩ <;> (unfold headR; simp only; omega)
  have hp : ∀ q, parseB l = q ↔ (if okP (headR l) = true ∧ partB (headR l) = l then some (headR l) else none) = q := fun q => Iff.rfl
  have HM2 := hide (List.mem_cons_of_mem (HP.sl byteE (.slice (some ⟨g, o + 12, none⟩) 52 (cap - 12)) (l.drop 12)) hm)
  have SK := hide hsk
  unfold headR at hb hp
  generalize hdt : l.drop 12 = dt at h2 hdl hb hp HM2
  generalize hf0 : fieldB l 0 4 = f0 at hb hp
  generalize hf1 : fieldB l 4 2 = f1 at hb hp
  generalize hf2 : fieldB l 6 1 = f2 at hb hp
  generalize hf3 : fieldB l 7 1 = f3 at hb hp
  have HF0 := hide hf0
  have HF1 := hide hf1
  have HF2 := hide hf2
  have HF3 := hide hf3
  have HB := hide hb
  have HL := hide hl
  have HDL := hide hdl
  have CL : Hid (∀ (L' : List HP) (w' : World), St b L' w' → HP.sl byteE (.slice (some ⟨g, o + 12, none⟩) 52 (cap - 12)) dt ∈ L' → Calls Tryz.prog 98 #[.slice (some ⟨g, o + 12, none⟩) 52 (cap - 12)] w' fun x w'' => ∃ v, x = .returned v ∧ St b (HP.rows 5 byteE v dt :: L') w'') := hide (fun L' w' h' hm' => by
    have := bclone_calls (l := dt) h' (by rw [hdl]; exact hm') (by omega)
    rw [hdl] at this; exact this)
  have HD := hide (show HP.sl byteE (.slice (some ⟨g, o + 12, none⟩) 52 (cap - 12)) dt ∈ HP.sl byteE (.slice (some ⟨g, o + 12, none⟩) 52 (cap - 12)) dt :: L from mem0)
  have hb64 := partB_len (p := ⟨f0, f1, f2, f3, dt⟩) hdl
  have HB64 := hide hb64
  have ONE5 : Hid (∀ (a c d e f : Value), a.oneCell' = true → c.oneCell' = true → d.oneCell' = true → e.oneCell' = true → f.oneCell' = true → ∀ v ∈ [a, c, d, e, f], v.oneCell' = true) := hide (by intro a c d e f h1 h2 h3 h4 h5 v hv; simp only [List.mem_cons, List.not_mem_nil, or_false] at hv; rcases hv with rfl | rfl | rfl | rfl | rfl <;> assumption)
  have H := hide h2
  clear h h2 hm hl hdl hsk hb hdt hf0 hf1 hf2 hf3 hc1 hc2 hb64
  by_cases hk : okP ⟨f0, f1, f2, f3, dt⟩ = true
  · by_cases he : partB ⟨f0, f1, f2, f3, dt⟩ = l
    · have HPN := hide ((hp (some ⟨f0, f1, f2, f3, dt⟩)).2 (if_pos ⟨hk, he⟩))
      have HEQ := hide (decide_eq_true he)
      have HOKP := hide ((okP_iff _).1 hk)
      clear hp hk he
      go_enter Tryz.func92, Tryz.ntmps92
      go_wp2_with (first
        | ((with_reducible refine wpList_alloc_ag rfl agPart rfl H.out ?_); intro g2 w1 h1; have H1 := hide h1; clear h1 H))
      refine wp_region_held_drew (S := fun w' => ∀ j (_ : j < l.length), w'.cell? ⟨g, o + j, none⟩ = some (B8 l[j])) (by kernel_rfl) ?_ (fun hHeld => ?_)
      · exact SK.out _ _ H1.out.drew (up1 HM2.out)
      have HX := hide H1.out.drew
      clear H1
      refine wpAnyH_takeD (i := 0) (some 11) (v := ?v0_1) rfl rfl (by kernel_rfl) (by kernel_rfl) (by kernel_rfl) (fun _ _ _ h => h) (by rfl) ?y0_1 (by assumption) ?r0_1
      case y0_1 => (intro w hSw; (try dsimp only at hSw); first | (go_simp; done) | (go_simp; with_reducible rfl))
      try simp only [Act.put, List.setIfInBounds_toArray, List.set_cons_zero, List.set_cons_succ]
      refine wpAnyH_takeD (i := 1) (some 12) (v := ?v1_2) rfl rfl (by kernel_rfl) (by kernel_rfl) (by kernel_rfl) (fun _ _ _ h => h) (by rfl) ?y1_2 (by assumption) ?r1_2
      case y1_2 => (intro w hSw; (try dsimp only at hSw); first | (go_simp; done) | (go_simp; with_reducible rfl))
      try simp only [Act.put, List.setIfInBounds_toArray, List.set_cons_zero, List.set_cons_succ]
      refine wpAnyH_tellsD (i := 2) (some 13) (v := .int .i64 (f0 : Nat)) rfl rfl (by kernel_rfl) (by kernel_rfl) (by kernel_rfl) (fun _ _ _ h => h) ⟨by rfl, 115, #[.slice (some ⟨g, o, none⟩) 4 cap], fun w hSw => ⟨?y2_3, (by have := told_sub HL.out 0 4 cap (by decide) (by decide) hSw; rw [HF0.out] at this; exact this)⟩⟩ (by assumption) ?r2_3
      case y2_3 => first | (go_simp; done) | (go_simp; with_reducible rfl)
      try simp only [Act.put, List.setIfInBounds_toArray, List.set_cons_zero, List.set_cons_succ]
      refine wpAnyH_takeD (i := 3) (some 14) (v := ?v3_4) rfl rfl (by kernel_rfl) (by kernel_rfl) (by kernel_rfl) (fun _ _ _ h => h) (by rfl) ?y3_4 (by assumption) ?r3_4
      case y3_4 => (intro w hSw; (try dsimp only at hSw); first | (go_simp; done) | (go_simp; with_reducible rfl))
      try simp only [Act.put, List.setIfInBounds_toArray, List.set_cons_zero, List.set_cons_succ]
      refine wpAnyH_takeD (i := 4) (some 15) (v := ?v4_5) rfl rfl (by kernel_rfl) (by kernel_rfl) (by kernel_rfl) (fun _ _ _ h => h) (by rfl) ?y4_5 (by assumption) ?r4_5
      case y4_5 => (intro w hSw; (try dsimp only at hSw); first | (go_simp; done) | (go_simp; with_reducible rfl))
      try simp only [Act.put, List.setIfInBounds_toArray, List.set_cons_zero, List.set_cons_succ]
      refine wpAnyH_tellsD (i := 5) (some 16) (v := .int .i64 (f1 : Nat)) rfl rfl (by kernel_rfl) (by kernel_rfl) (by kernel_rfl) (fun _ _ _ h => h) ⟨by rfl, 115, #[.slice (some ⟨g, o + 4, none⟩) 2 (cap - 4)], fun w hSw => ⟨?y5_6, (by have := told_sub HL.out 4 2 (cap - 4) (by decide) (by decide) hSw; rw [HF1.out] at this; exact this)⟩⟩ (by assumption) ?r5_6
      case y5_6 => first | (go_simp; done) | (go_simp; with_reducible rfl)
      try simp only [Act.put, List.setIfInBounds_toArray, List.set_cons_zero, List.set_cons_succ]
      refine wpAnyH_takeD (i := 6) (some 17) (v := ?v6_7) rfl rfl (by kernel_rfl) (by kernel_rfl) (by kernel_rfl) (fun _ _ _ h => h) (by rfl) ?y6_7 (by assumption) ?r6_7
      case y6_7 => (intro w hSw; (try dsimp only at hSw); first | (go_simp; done) | (go_simp; with_reducible rfl))
      try simp only [Act.put, List.setIfInBounds_toArray, List.set_cons_zero, List.set_cons_succ]
      refine wpAnyH_takeD (i := 7) (some 18) (v := ?v7_8) rfl rfl (by kernel_rfl) (by kernel_rfl) (by kernel_rfl) (fun _ _ _ h => h) (by rfl) ?y7_8 (by assumption) ?r7_8
      case y7_8 => (intro w hSw; (try dsimp only at hSw); first | (go_simp; done) | (go_simp; with_reducible rfl))
      try simp only [Act.put, List.setIfInBounds_toArray, List.set_cons_zero, List.set_cons_succ]
      refine wpAnyH_tellsD (i := 8) (some 19) (v := .int .i64 (f2 : Nat)) rfl rfl (by kernel_rfl) (by kernel_rfl) (by kernel_rfl) (fun _ _ _ h => h) ⟨by rfl, 115, #[.slice (some ⟨g, o + 6, none⟩) 1 (cap - 6)], fun w hSw => ⟨?y8_9, (by have := told_sub HL.out 6 1 (cap - 6) (by decide) (by decide) hSw; rw [HF2.out] at this; exact this)⟩⟩ (by assumption) ?r8_9
      case y8_9 => first | (go_simp; done) | (go_simp; with_reducible rfl)
      try simp only [Act.put, List.setIfInBounds_toArray, List.set_cons_zero, List.set_cons_succ]
      refine wpAnyH_takeD (i := 9) (some 20) (v := ?v9_10) rfl rfl (by kernel_rfl) (by kernel_rfl) (by kernel_rfl) (fun _ _ _ h => h) (by rfl) ?y9_10 (by assumption) ?r9_10
      case y9_10 => (intro w hSw; (try dsimp only at hSw); first | (go_simp; done) | (go_simp; with_reducible rfl))
      try simp only [Act.put, List.setIfInBounds_toArray, List.set_cons_zero, List.set_cons_succ]
      refine wpAnyH_takeD (i := 10) (some 21) (v := ?v10_11) rfl rfl (by kernel_rfl) (by kernel_rfl) (by kernel_rfl) (fun _ _ _ h => h) (by rfl) ?y10_11 (by assumption) ?r10_11
      case y10_11 => (intro w hSw; (try dsimp only at hSw); first | (go_simp; done) | (go_simp; with_reducible rfl))
      try simp only [Act.put, List.setIfInBounds_toArray, List.set_cons_zero, List.set_cons_succ]
      refine wpAnyH_tellsD (i := 11) (some 22) (v := .int .i64 (f3 : Nat)) rfl rfl (by kernel_rfl) (by kernel_rfl) (by kernel_rfl) (fun _ _ _ h => h) ⟨by rfl, 115, #[.slice (some ⟨g, o + 7, none⟩) 1 (cap - 7)], fun w hSw => ⟨?y11_12, (by have := told_sub HL.out 7 1 (cap - 7) (by decide) (by decide) hSw; rw [HF3.out] at this; exact this)⟩⟩ (by assumption) ?r11_12
      case y11_12 => first | (go_simp; done) | (go_simp; with_reducible rfl)
      try simp only [Act.put, List.setIfInBounds_toArray, List.set_cons_zero, List.set_cons_succ]
      refine wpAnyH_takeD (i := 12) (some 23) (v := ?v12_13) rfl rfl (by kernel_rfl) (by kernel_rfl) (by kernel_rfl) (fun _ _ _ h => h) (by rfl) ?y12_13 (by assumption) ?r12_13
      case y12_13 => (intro w hSw; (try dsimp only at hSw); first | (go_simp; done) | (go_simp; with_reducible rfl))
      try simp only [Act.put, List.setIfInBounds_toArray, List.set_cons_zero, List.set_cons_succ]
      refine wpAnyH_takeD (i := 13) (some 24) (v := ?v13_14) rfl rfl (by kernel_rfl) (by kernel_rfl) (by kernel_rfl) (fun _ _ _ h => h) (by rfl) ?y13_14 (by assumption) ?r13_14
      case y13_14 => (intro w hSw; (try dsimp only at hSw); first | (go_simp; done) | (go_simp; with_reducible rfl))
      try simp only [Act.put, List.setIfInBounds_toArray, List.set_cons_zero, List.set_cons_succ]
      refine wpAnyH_ready (rs := [14, 16]) (by kernel_rfl) (by simp) ?_
      refine AllReadyH.cons rfl (fun K hK => ?_) ?_
      · go_simp
        go_at_call 98
        refine (CL.out _ _ HX.out (up1 HD.out)).mono ?_
        rintro z w5 ⟨vd, rfl, h5⟩
        obtain ⟨bD, cD, hvD, _⟩ := h5.rows_form mem0
        subst hvD
        have HY := hide h5
        clear h5
        clear HX
        have HX := HY
        clear HY
        refine hK.out _ _ ?_ (fun hHeld => ?_)
        · exact SK.out _ _ HX.out (up2 HM2.out)
        clear hK K
        try simp only [Act.put, List.setIfInBounds_toArray, List.set_cons_zero, List.set_cons_succ]
        refine wpAnyH_takeD (i := 15) (some 26) (v := ?v15_15) rfl rfl (by kernel_rfl) (by kernel_rfl) (by kernel_rfl) (fun _ _ _ h => h) (by rfl) ?y15_15 (by assumption) ?r15_15
        case y15_15 => (intro w hSw; (try dsimp only at hSw); first | (go_simp; done) | (go_simp; with_reducible rfl))
        try simp only [Act.put, List.setIfInBounds_toArray, List.set_cons_zero, List.set_cons_succ]
        refine wpAnyH_ready (rs := [16]) (by kernel_rfl) (by simp) ?_
        refine AllReadyH.cons rfl (fun K hK => ?_) ?_
        · refine step_alloc_ag rfl agPart rfl HX.out ?_
          intro g5 w6 h6
          have HY := hide h6
          clear h6
          clear HX
          have HX := HY
          clear HY
          refine hK.out _ _ ?_ (fun hHeld => ?_)
          · exact SK.out _ _ HX.out (up3 HM2.out)
          clear hK K
          try simp only [Act.put, List.setIfInBounds_toArray, List.set_cons_zero, List.set_cons_succ]
          refine wpAnyH_ready (rs := [17]) (by kernel_rfl) (by simp) ?_
          refine AllReadyH.cons rfl (fun K hK => ?_) ?_
          · refine step_storeB_st (cs := [.int .i64 (f0 : Nat), .int .i64 (f1 : Nat), .int .i64 (f2 : Nat), .int .i64 (f3 : Nat), .slice bD dt.length cD]) (c := [.int .i64 0, .int .i64 0, .int .i64 0, .int .i64 0, .slice none 0 0]) (d := [.int .i64 (f0 : Nat), .int .i64 (f1 : Nat), .int .i64 (f2 : Nat), .int .i64 (f3 : Nat), .slice bD dt.length cD]) rfl 127 (.tmp 4) (.tmp 26) rfl szPart rfl rfl (by intro v hv; simp only [List.mem_cons, List.not_mem_nil, or_false] at hv; rcases hv with rfl | rfl | rfl | rfl | rfl <;> rfl) HX.out (by simp) rfl ?_
            intro w7 h7
            have HY := hide h7
            clear h7
            clear HX
            have HX := HY
            clear HY
            refine hK.out _ _ ?_ (fun hHeld => ?_)
            · exact SK.out _ _ HX.out (up3 HM2.out)
            clear hK K
            try simp only [Act.put, List.setIfInBounds_toArray, List.set_cons_zero, List.set_cons_succ]
            refine wpAnyH_done (by kernel_rfl) ?_ _
            have HZ := hide HX.out.f1.persist.f1
            clear HX
            go_wp2_with (first
              | (refine wpList_loadB_st (cs := [.int .i64 (f0 : Nat), .int .i64 (f1 : Nat), .int .i64 (f2 : Nat), .int .i64 (f3 : Nat), .slice bD dt.length cD]) rfl agPart (.tmp 4) rfl rfl rfl HZ.out mem0 ?_)
              | (go_at_call 99; refine (bytes_calls (p := ⟨f0, f1, f2, f3, dt⟩) HZ.out mem1 HOKP.out).mono ?_; rintro z w8 ⟨g7, rfl, h8⟩; have h9 := h8.bytes_rows (by rw [HB64.out]; unfold maxLen; decide); rw [HB64.out] at h9; have H8 := hide h9; clear h8 h9 HZ)
              | (go_at_call 116; refine (bequal_calls H8.out (Reads.of_rows mem0) (Reads.of_sl (up4 HM2.out))).mono ?_; rintro z w9 ⟨rfl, hw9⟩; subst hw9; rw [HEQ.out]; have H9 := hide H8.out.drop; clear H8)
              | (refine wpList_loadB_st (cs := [.int .i64 (f0 : Nat), .int .i64 (f1 : Nat), .int .i64 (f2 : Nat), .int .i64 (f3 : Nat), .slice bD dt.length cD]) rfl agPart (.tmp 4) rfl rfl rfl H9.out mem0 ?_)
              | ((with_reducible refine wpList_store_ag (cs := [.int .i64 (f0 : Nat), .int .i64 (f1 : Nat), .int .i64 (f2 : Nat), .int .i64 (f3 : Nat), .slice bD dt.length cD]) rfl agPart (.tmp 2) (.tmp 41) rfl rfl rfl rfl rfl (ONE5.out _ _ _ _ _ rfl rfl rfl rfl rfl) H9.out.f2 ?_); intro w20 h20; have H20 := hide h20; clear h20 H9))
            (try simp only [Exit.inBlock, Exit.then])
            have hb2 := H20.out.mem_blk mem0
            refine bodyPost_ret (results_cell_row2 rfl _ _ g2 _ _ _ _ rfl hb2 Tryz.underlying127 rfl szPart) rfl ?_
            exact Or.inl ⟨⟨f0, f1, f2, f3, dt⟩, _, HPN.out, rfl, H20.out.drop.drop.d1⟩
          exact AllReadyH.nil
        exact AllReadyH.nil
      refine AllReadyH.cons rfl (fun K hK => ?_) ?_
      · refine step_alloc_ag rfl agPart rfl HX.out ?_
        intro g5 w6 h6
        have HY := hide h6
        clear h6
        clear HX
        have HX := HY
        clear HY
        refine hK.out _ _ ?_ (fun hHeld => ?_)
        · exact SK.out _ _ HX.out (up2 HM2.out)
        clear hK K
        try simp only [Act.put, List.setIfInBounds_toArray, List.set_cons_zero, List.set_cons_succ]
        refine wpAnyH_ready (rs := [14]) (by kernel_rfl) (by simp) ?_
        refine AllReadyH.cons rfl (fun K hK => ?_) ?_
        · go_simp
          go_at_call 98
          refine (CL.out _ _ HX.out (up2 HD.out)).mono ?_
          rintro z w5 ⟨vd, rfl, h5⟩
          obtain ⟨bD, cD, hvD, _⟩ := h5.rows_form mem0
          subst hvD
          have HY := hide h5.f1
          clear h5
          clear HX
          have HX := HY
          clear HY
          refine hK.out _ _ ?_ (fun hHeld => ?_)
          · exact SK.out _ _ HX.out (up3 HM2.out)
          clear hK K
          try simp only [Act.put, List.setIfInBounds_toArray, List.set_cons_zero, List.set_cons_succ]
          refine wpAnyH_takeD (i := 15) (some 26) (v := ?v15_16) rfl rfl (by kernel_rfl) (by kernel_rfl) (by kernel_rfl) (fun _ _ _ h => h) (by rfl) ?y15_16 (by assumption) ?r15_16
          case y15_16 => (intro w hSw; (try dsimp only at hSw); first | (go_simp; done) | (go_simp; with_reducible rfl))
          try simp only [Act.put, List.setIfInBounds_toArray, List.set_cons_zero, List.set_cons_succ]
          refine wpAnyH_ready (rs := [17]) (by kernel_rfl) (by simp) ?_
          refine AllReadyH.cons rfl (fun K hK => ?_) ?_
          · refine step_storeB_st (cs := [.int .i64 (f0 : Nat), .int .i64 (f1 : Nat), .int .i64 (f2 : Nat), .int .i64 (f3 : Nat), .slice bD dt.length cD]) (c := [.int .i64 0, .int .i64 0, .int .i64 0, .int .i64 0, .slice none 0 0]) (d := [.int .i64 (f0 : Nat), .int .i64 (f1 : Nat), .int .i64 (f2 : Nat), .int .i64 (f3 : Nat), .slice bD dt.length cD]) rfl 127 (.tmp 4) (.tmp 26) rfl szPart rfl rfl (by intro v hv; simp only [List.mem_cons, List.not_mem_nil, or_false] at hv; rcases hv with rfl | rfl | rfl | rfl | rfl <;> rfl) HX.out (by simp) rfl ?_
            intro w7 h7
            have HY := hide h7
            clear h7
            clear HX
            have HX := HY
            clear HY
            refine hK.out _ _ ?_ (fun hHeld => ?_)
            · exact SK.out _ _ HX.out (up3 HM2.out)
            clear hK K
            try simp only [Act.put, List.setIfInBounds_toArray, List.set_cons_zero, List.set_cons_succ]
            refine wpAnyH_done (by kernel_rfl) ?_ _
            have HZ := hide HX.out.f1.persist.f1
            clear HX
            go_wp2_with (first
              | (refine wpList_loadB_st (cs := [.int .i64 (f0 : Nat), .int .i64 (f1 : Nat), .int .i64 (f2 : Nat), .int .i64 (f3 : Nat), .slice bD dt.length cD]) rfl agPart (.tmp 4) rfl rfl rfl HZ.out mem0 ?_)
              | (go_at_call 99; refine (bytes_calls (p := ⟨f0, f1, f2, f3, dt⟩) HZ.out mem1 HOKP.out).mono ?_; rintro z w8 ⟨g7, rfl, h8⟩; have h9 := h8.bytes_rows (by rw [HB64.out]; unfold maxLen; decide); rw [HB64.out] at h9; have H8 := hide h9; clear h8 h9 HZ)
              | (go_at_call 116; refine (bequal_calls H8.out (Reads.of_rows mem0) (Reads.of_sl (up4 HM2.out))).mono ?_; rintro z w9 ⟨rfl, hw9⟩; subst hw9; rw [HEQ.out]; have H9 := hide H8.out.drop; clear H8)
              | (refine wpList_loadB_st (cs := [.int .i64 (f0 : Nat), .int .i64 (f1 : Nat), .int .i64 (f2 : Nat), .int .i64 (f3 : Nat), .slice bD dt.length cD]) rfl agPart (.tmp 4) rfl rfl rfl H9.out mem0 ?_)
              | ((with_reducible refine wpList_store_ag (cs := [.int .i64 (f0 : Nat), .int .i64 (f1 : Nat), .int .i64 (f2 : Nat), .int .i64 (f3 : Nat), .slice bD dt.length cD]) rfl agPart (.tmp 2) (.tmp 41) rfl rfl rfl rfl rfl (ONE5.out _ _ _ _ _ rfl rfl rfl rfl rfl) H9.out.f2 ?_); intro w20 h20; have H20 := hide h20; clear h20 H9))
            (try simp only [Exit.inBlock, Exit.then])
            have hb2 := H20.out.mem_blk mem0
            refine bodyPost_ret (results_cell_row2 rfl _ _ g2 _ _ _ _ rfl hb2 Tryz.underlying127 rfl szPart) rfl ?_
            exact Or.inl ⟨⟨f0, f1, f2, f3, dt⟩, _, HPN.out, rfl, H20.out.drop.drop.d1⟩
          exact AllReadyH.nil
        exact AllReadyH.nil
      exact AllReadyH.nil
    · have HPN := hide ((hp none).2 (if_neg (fun q => he q.2)))
      have HEQ := hide (decide_eq_false he)
      have HOKP := hide ((okP_iff _).1 hk)
      clear hp hk he
      go_enter Tryz.func92, Tryz.ntmps92
      go_wp2_with (first
        | ((with_reducible refine wpList_alloc_ag rfl agPart rfl H.out ?_); intro g2 w1 h1; have H1 := hide h1; clear h1 H))
      refine wp_region_held_drew (S := fun w' => ∀ j (_ : j < l.length), w'.cell? ⟨g, o + j, none⟩ = some (B8 l[j])) (by kernel_rfl) ?_ (fun hHeld => ?_)
      · exact SK.out _ _ H1.out.drew (up1 HM2.out)
      have HX := hide H1.out.drew
      clear H1
      refine wpAnyH_takeD (i := 0) (some 11) (v := ?v0_17) rfl rfl (by kernel_rfl) (by kernel_rfl) (by kernel_rfl) (fun _ _ _ h => h) (by rfl) ?y0_17 (by assumption) ?r0_17
      case y0_17 => (intro w hSw; (try dsimp only at hSw); first | (go_simp; done) | (go_simp; with_reducible rfl))
      try simp only [Act.put, List.setIfInBounds_toArray, List.set_cons_zero, List.set_cons_succ]
      refine wpAnyH_takeD (i := 1) (some 12) (v := ?v1_18) rfl rfl (by kernel_rfl) (by kernel_rfl) (by kernel_rfl) (fun _ _ _ h => h) (by rfl) ?y1_18 (by assumption) ?r1_18
      case y1_18 => (intro w hSw; (try dsimp only at hSw); first | (go_simp; done) | (go_simp; with_reducible rfl))
      try simp only [Act.put, List.setIfInBounds_toArray, List.set_cons_zero, List.set_cons_succ]
      refine wpAnyH_tellsD (i := 2) (some 13) (v := .int .i64 (f0 : Nat)) rfl rfl (by kernel_rfl) (by kernel_rfl) (by kernel_rfl) (fun _ _ _ h => h) ⟨by rfl, 115, #[.slice (some ⟨g, o, none⟩) 4 cap], fun w hSw => ⟨?y2_19, (by have := told_sub HL.out 0 4 cap (by decide) (by decide) hSw; rw [HF0.out] at this; exact this)⟩⟩ (by assumption) ?r2_19
      case y2_19 => first | (go_simp; done) | (go_simp; with_reducible rfl)
      try simp only [Act.put, List.setIfInBounds_toArray, List.set_cons_zero, List.set_cons_succ]
      refine wpAnyH_takeD (i := 3) (some 14) (v := ?v3_20) rfl rfl (by kernel_rfl) (by kernel_rfl) (by kernel_rfl) (fun _ _ _ h => h) (by rfl) ?y3_20 (by assumption) ?r3_20
      case y3_20 => (intro w hSw; (try dsimp only at hSw); first | (go_simp; done) | (go_simp; with_reducible rfl))
      try simp only [Act.put, List.setIfInBounds_toArray, List.set_cons_zero, List.set_cons_succ]
      refine wpAnyH_takeD (i := 4) (some 15) (v := ?v4_21) rfl rfl (by kernel_rfl) (by kernel_rfl) (by kernel_rfl) (fun _ _ _ h => h) (by rfl) ?y4_21 (by assumption) ?r4_21
      case y4_21 => (intro w hSw; (try dsimp only at hSw); first | (go_simp; done) | (go_simp; with_reducible rfl))
      try simp only [Act.put, List.setIfInBounds_toArray, List.set_cons_zero, List.set_cons_succ]
      refine wpAnyH_tellsD (i := 5) (some 16) (v := .int .i64 (f1 : Nat)) rfl rfl (by kernel_rfl) (by kernel_rfl) (by kernel_rfl) (fun _ _ _ h => h) ⟨by rfl, 115, #[.slice (some ⟨g, o + 4, none⟩) 2 (cap - 4)], fun w hSw => ⟨?y5_22, (by have := told_sub HL.out 4 2 (cap - 4) (by decide) (by decide) hSw; rw [HF1.out] at this; exact this)⟩⟩ (by assumption) ?r5_22
      case y5_22 => first | (go_simp; done) | (go_simp; with_reducible rfl)
      try simp only [Act.put, List.setIfInBounds_toArray, List.set_cons_zero, List.set_cons_succ]
      refine wpAnyH_takeD (i := 6) (some 17) (v := ?v6_23) rfl rfl (by kernel_rfl) (by kernel_rfl) (by kernel_rfl) (fun _ _ _ h => h) (by rfl) ?y6_23 (by assumption) ?r6_23
      case y6_23 => (intro w hSw; (try dsimp only at hSw); first | (go_simp; done) | (go_simp; with_reducible rfl))
      try simp only [Act.put, List.setIfInBounds_toArray, List.set_cons_zero, List.set_cons_succ]
      refine wpAnyH_takeD (i := 7) (some 18) (v := ?v7_24) rfl rfl (by kernel_rfl) (by kernel_rfl) (by kernel_rfl) (fun _ _ _ h => h) (by rfl) ?y7_24 (by assumption) ?r7_24
      case y7_24 => (intro w hSw; (try dsimp only at hSw); first | (go_simp; done) | (go_simp; with_reducible rfl))
      try simp only [Act.put, List.setIfInBounds_toArray, List.set_cons_zero, List.set_cons_succ]
      refine wpAnyH_tellsD (i := 8) (some 19) (v := .int .i64 (f2 : Nat)) rfl rfl (by kernel_rfl) (by kernel_rfl) (by kernel_rfl) (fun _ _ _ h => h) ⟨by rfl, 115, #[.slice (some ⟨g, o + 6, none⟩) 1 (cap - 6)], fun w hSw => ⟨?y8_25, (by have := told_sub HL.out 6 1 (cap - 6) (by decide) (by decide) hSw; rw [HF2.out] at this; exact this)⟩⟩ (by assumption) ?r8_25
      case y8_25 => first | (go_simp; done) | (go_simp; with_reducible rfl)
      try simp only [Act.put, List.setIfInBounds_toArray, List.set_cons_zero, List.set_cons_succ]
      refine wpAnyH_takeD (i := 9) (some 20) (v := ?v9_26) rfl rfl (by kernel_rfl) (by kernel_rfl) (by kernel_rfl) (fun _ _ _ h => h) (by rfl) ?y9_26 (by assumption) ?r9_26
      case y9_26 => (intro w hSw; (try dsimp only at hSw); first | (go_simp; done) | (go_simp; with_reducible rfl))
      try simp only [Act.put, List.setIfInBounds_toArray, List.set_cons_zero, List.set_cons_succ]
      refine wpAnyH_takeD (i := 10) (some 21) (v := ?v10_27) rfl rfl (by kernel_rfl) (by kernel_rfl) (by kernel_rfl) (fun _ _ _ h => h) (by rfl) ?y10_27 (by assumption) ?r10_27
      case y10_27 => (intro w hSw; (try dsimp only at hSw); first | (go_simp; done) | (go_simp; with_reducible rfl))
      try simp only [Act.put, List.setIfInBounds_toArray, List.set_cons_zero, List.set_cons_succ]
      refine wpAnyH_tellsD (i := 11) (some 22) (v := .int .i64 (f3 : Nat)) rfl rfl (by kernel_rfl) (by kernel_rfl) (by kernel_rfl) (fun _ _ _ h => h) ⟨by rfl, 115, #[.slice (some ⟨g, o + 7, none⟩) 1 (cap - 7)], fun w hSw => ⟨?y11_28, (by have := told_sub HL.out 7 1 (cap - 7) (by decide) (by decide) hSw; rw [HF3.out] at this; exact this)⟩⟩ (by assumption) ?r11_28
      case y11_28 => first | (go_simp; done) | (go_simp; with_reducible rfl)
      try simp only [Act.put, List.setIfInBounds_toArray, List.set_cons_zero, List.set_cons_succ]
      refine wpAnyH_takeD (i := 12) (some 23) (v := ?v12_29) rfl rfl (by kernel_rfl) (by kernel_rfl) (by kernel_rfl) (fun _ _ _ h => h) (by rfl) ?y12_29 (by assumption) ?r12_29
      case y12_29 => (intro w hSw; (try dsimp only at hSw); first | (go_simp; done) | (go_simp; with_reducible rfl))
      try simp only [Act.put, List.setIfInBounds_toArray, List.set_cons_zero, List.set_cons_succ]
      refine wpAnyH_takeD (i := 13) (some 24) (v := ?v13_30) rfl rfl (by kernel_rfl) (by kernel_rfl) (by kernel_rfl) (fun _ _ _ h => h) (by rfl) ?y13_30 (by assumption) ?r13_30
      case y13_30 => (intro w hSw; (try dsimp only at hSw); first | (go_simp; done) | (go_simp; with_reducible rfl))
      try simp only [Act.put, List.setIfInBounds_toArray, List.set_cons_zero, List.set_cons_succ]
      refine wpAnyH_ready (rs := [14, 16]) (by kernel_rfl) (by simp) ?_
      refine AllReadyH.cons rfl (fun K hK => ?_) ?_
      · go_simp
        go_at_call 98
        refine (CL.out _ _ HX.out (up1 HD.out)).mono ?_
        rintro z w5 ⟨vd, rfl, h5⟩
        obtain ⟨bD, cD, hvD, _⟩ := h5.rows_form mem0
        subst hvD
        have HY := hide h5
        clear h5
        clear HX
        have HX := HY
        clear HY
        refine hK.out _ _ ?_ (fun hHeld => ?_)
        · exact SK.out _ _ HX.out (up2 HM2.out)
        clear hK K
        try simp only [Act.put, List.setIfInBounds_toArray, List.set_cons_zero, List.set_cons_succ]
        refine wpAnyH_takeD (i := 15) (some 26) (v := ?v15_31) rfl rfl (by kernel_rfl) (by kernel_rfl) (by kernel_rfl) (fun _ _ _ h => h) (by rfl) ?y15_31 (by assumption) ?r15_31
        case y15_31 => (intro w hSw; (try dsimp only at hSw); first | (go_simp; done) | (go_simp; with_reducible rfl))
        try simp only [Act.put, List.setIfInBounds_toArray, List.set_cons_zero, List.set_cons_succ]
        refine wpAnyH_ready (rs := [16]) (by kernel_rfl) (by simp) ?_
        refine AllReadyH.cons rfl (fun K hK => ?_) ?_
        · refine step_alloc_ag rfl agPart rfl HX.out ?_
          intro g5 w6 h6
          have HY := hide h6
          clear h6
          clear HX
          have HX := HY
          clear HY
          refine hK.out _ _ ?_ (fun hHeld => ?_)
          · exact SK.out _ _ HX.out (up3 HM2.out)
          clear hK K
          try simp only [Act.put, List.setIfInBounds_toArray, List.set_cons_zero, List.set_cons_succ]
          refine wpAnyH_ready (rs := [17]) (by kernel_rfl) (by simp) ?_
          refine AllReadyH.cons rfl (fun K hK => ?_) ?_
          · refine step_storeB_st (cs := [.int .i64 (f0 : Nat), .int .i64 (f1 : Nat), .int .i64 (f2 : Nat), .int .i64 (f3 : Nat), .slice bD dt.length cD]) (c := [.int .i64 0, .int .i64 0, .int .i64 0, .int .i64 0, .slice none 0 0]) (d := [.int .i64 (f0 : Nat), .int .i64 (f1 : Nat), .int .i64 (f2 : Nat), .int .i64 (f3 : Nat), .slice bD dt.length cD]) rfl 127 (.tmp 4) (.tmp 26) rfl szPart rfl rfl (by intro v hv; simp only [List.mem_cons, List.not_mem_nil, or_false] at hv; rcases hv with rfl | rfl | rfl | rfl | rfl <;> rfl) HX.out (by simp) rfl ?_
            intro w7 h7
            have HY := hide h7
            clear h7
            clear HX
            have HX := HY
            clear HY
            refine hK.out _ _ ?_ (fun hHeld => ?_)
            · exact SK.out _ _ HX.out (up3 HM2.out)
            clear hK K
            try simp only [Act.put, List.setIfInBounds_toArray, List.set_cons_zero, List.set_cons_succ]
            refine wpAnyH_done (by kernel_rfl) ?_ _
            have HZ := hide HX.out.f1.persist.f1
            clear HX
            go_wp2_with (first
              | (refine wpList_loadB_st (cs := [.int .i64 (f0 : Nat), .int .i64 (f1 : Nat), .int .i64 (f2 : Nat), .int .i64 (f3 : Nat), .slice bD dt.length cD]) rfl agPart (.tmp 4) rfl rfl rfl HZ.out mem0 ?_)
              | (go_at_call 99; refine (bytes_calls (p := ⟨f0, f1, f2, f3, dt⟩) HZ.out mem1 HOKP.out).mono ?_; rintro z w8 ⟨g7, rfl, h8⟩; have h9 := h8.bytes_rows (by rw [HB64.out]; unfold maxLen; decide); rw [HB64.out] at h9; have H8 := hide h9; clear h8 h9 HZ)
              | (go_at_call 116; refine (bequal_calls H8.out (Reads.of_rows mem0) (Reads.of_sl (up4 HM2.out))).mono ?_; rintro z w9 ⟨rfl, hw9⟩; subst hw9; rw [HEQ.out]; have H9 := hide H8.out.drop; clear H8)
              | ((with_reducible refine wpList_store_ag (cs := [.int .i64 0, .int .i64 0, .int .i64 0, .int .i64 0, .slice none 0 0]) rfl agPart (.tmp 2) (.tmp 40) rfl rfl rfl rfl rfl (ONE5.out _ _ _ _ _ rfl rfl rfl rfl rfl) H9.out.f2 ?_); intro w20 h20; have H20 := hide h20; clear h20 H9))
            (try simp only [Exit.inBlock, Exit.then])
            have hb2 := H20.out.mem_blk mem0
            refine bodyPost_ret (results_cell_row2 rfl _ _ g2 _ _ _ _ rfl hb2 Tryz.underlying127 rfl szPart) rfl ?_
            exact Or.inr ⟨HPN.out, rfl, H20.out.drop.drop.drop.drop⟩
          exact AllReadyH.nil
        exact AllReadyH.nil
      refine AllReadyH.cons rfl (fun K hK => ?_) ?_
      · refine step_alloc_ag rfl agPart rfl HX.out ?_
        intro g5 w6 h6
        have HY := hide h6
        clear h6
        clear HX
        have HX := HY
        clear HY
        refine hK.out _ _ ?_ (fun hHeld => ?_)
        · exact SK.out _ _ HX.out (up2 HM2.out)
        clear hK K
        try simp only [Act.put, List.setIfInBounds_toArray, List.set_cons_zero, List.set_cons_succ]
        refine wpAnyH_ready (rs := [14]) (by kernel_rfl) (by simp) ?_
        refine AllReadyH.cons rfl (fun K hK => ?_) ?_
        · go_simp
          go_at_call 98
          refine (CL.out _ _ HX.out (up2 HD.out)).mono ?_
          rintro z w5 ⟨vd, rfl, h5⟩
          obtain ⟨bD, cD, hvD, _⟩ := h5.rows_form mem0
          subst hvD
          have HY := hide h5.f1
          clear h5
          clear HX
          have HX := HY
          clear HY
          refine hK.out _ _ ?_ (fun hHeld => ?_)
          · exact SK.out _ _ HX.out (up3 HM2.out)
          clear hK K
          try simp only [Act.put, List.setIfInBounds_toArray, List.set_cons_zero, List.set_cons_succ]
          refine wpAnyH_takeD (i := 15) (some 26) (v := ?v15_32) rfl rfl (by kernel_rfl) (by kernel_rfl) (by kernel_rfl) (fun _ _ _ h => h) (by rfl) ?y15_32 (by assumption) ?r15_32
          case y15_32 => (intro w hSw; (try dsimp only at hSw); first | (go_simp; done) | (go_simp; with_reducible rfl))
          try simp only [Act.put, List.setIfInBounds_toArray, List.set_cons_zero, List.set_cons_succ]
          refine wpAnyH_ready (rs := [17]) (by kernel_rfl) (by simp) ?_
          refine AllReadyH.cons rfl (fun K hK => ?_) ?_
          · refine step_storeB_st (cs := [.int .i64 (f0 : Nat), .int .i64 (f1 : Nat), .int .i64 (f2 : Nat), .int .i64 (f3 : Nat), .slice bD dt.length cD]) (c := [.int .i64 0, .int .i64 0, .int .i64 0, .int .i64 0, .slice none 0 0]) (d := [.int .i64 (f0 : Nat), .int .i64 (f1 : Nat), .int .i64 (f2 : Nat), .int .i64 (f3 : Nat), .slice bD dt.length cD]) rfl 127 (.tmp 4) (.tmp 26) rfl szPart rfl rfl (by intro v hv; simp only [List.mem_cons, List.not_mem_nil, or_false] at hv; rcases hv with rfl | rfl | rfl | rfl | rfl <;> rfl) HX.out (by simp) rfl ?_
            intro w7 h7
            have HY := hide h7
            clear h7
            clear HX
            have HX := HY
            clear HY
            refine hK.out _ _ ?_ (fun hHeld => ?_)
            · exact SK.out _ _ HX.out (up3 HM2.out)
            clear hK K
            try simp only [Act.put, List.setIfInBounds_toArray, List.set_cons_zero, List.set_cons_succ]
            refine wpAnyH_done (by kernel_rfl) ?_ _
            have HZ := hide HX.out.f1.persist.f1
            clear HX
            go_wp2_with (first
              | (refine wpList_loadB_st (cs := [.int .i64 (f0 : Nat), .int .i64 (f1 : Nat), .int .i64 (f2 : Nat), .int .i64 (f3 : Nat), .slice bD dt.length cD]) rfl agPart (.tmp 4) rfl rfl rfl HZ.out mem0 ?_)
              | (go_at_call 99; refine (bytes_calls (p := ⟨f0, f1, f2, f3, dt⟩) HZ.out mem1 HOKP.out).mono ?_; rintro z w8 ⟨g7, rfl, h8⟩; have h9 := h8.bytes_rows (by rw [HB64.out]; unfold maxLen; decide); rw [HB64.out] at h9; have H8 := hide h9; clear h8 h9 HZ)
              | (go_at_call 116; refine (bequal_calls H8.out (Reads.of_rows mem0) (Reads.of_sl (up4 HM2.out))).mono ?_; rintro z w9 ⟨rfl, hw9⟩; subst hw9; rw [HEQ.out]; have H9 := hide H8.out.drop; clear H8)
              | ((with_reducible refine wpList_store_ag (cs := [.int .i64 0, .int .i64 0, .int .i64 0, .int .i64 0, .slice none 0 0]) rfl agPart (.tmp 2) (.tmp 40) rfl rfl rfl rfl rfl (ONE5.out _ _ _ _ _ rfl rfl rfl rfl rfl) H9.out.f2 ?_); intro w20 h20; have H20 := hide h20; clear h20 H9))
            (try simp only [Exit.inBlock, Exit.then])
            have hb2 := H20.out.mem_blk mem0
            refine bodyPost_ret (results_cell_row2 rfl _ _ g2 _ _ _ _ rfl hb2 Tryz.underlying127 rfl szPart) rfl ?_
            exact Or.inr ⟨HPN.out, rfl, H20.out.drop.drop.drop.drop⟩
          exact AllReadyH.nil
        exact AllReadyH.nil
      exact AllReadyH.nil
  · have HPN := hide ((hp none).2 (if_neg (fun q => hk q.1)))
    have HOKP : Hid (okP ⟨f0, f1, f2, f3, dt⟩ = false) := hide (by simpa using hk)
    clear hp hk
    go_enter Tryz.func92, Tryz.ntmps92
    go_wp2_with (first
      | ((with_reducible refine wpList_alloc_ag rfl agPart rfl H.out ?_); intro g2 w1 h1; have H1 := hide h1; clear h1 H))
    refine wp_region_held_drew (S := fun w' => ∀ j (_ : j < l.length), w'.cell? ⟨g, o + j, none⟩ = some (B8 l[j])) (by kernel_rfl) ?_ (fun hHeld => ?_)
    · exact SK.out _ _ H1.out.drew (up1 HM2.out)
    have HX := hide H1.out.drew
    clear H1
    refine wpAnyH_takeD (i := 0) (some 11) (v := ?v0_33) rfl rfl (by kernel_rfl) (by kernel_rfl) (by kernel_rfl) (fun _ _ _ h => h) (by rfl) ?y0_33 (by assumption) ?r0_33
    case y0_33 => (intro w hSw; (try dsimp only at hSw); first | (go_simp; done) | (go_simp; with_reducible rfl))
    try simp only [Act.put, List.setIfInBounds_toArray, List.set_cons_zero, List.set_cons_succ]
    refine wpAnyH_takeD (i := 1) (some 12) (v := ?v1_34) rfl rfl (by kernel_rfl) (by kernel_rfl) (by kernel_rfl) (fun _ _ _ h => h) (by rfl) ?y1_34 (by assumption) ?r1_34
    case y1_34 => (intro w hSw; (try dsimp only at hSw); first | (go_simp; done) | (go_simp; with_reducible rfl))
    try simp only [Act.put, List.setIfInBounds_toArray, List.set_cons_zero, List.set_cons_succ]
    refine wpAnyH_tellsD (i := 2) (some 13) (v := .int .i64 (f0 : Nat)) rfl rfl (by kernel_rfl) (by kernel_rfl) (by kernel_rfl) (fun _ _ _ h => h) ⟨by rfl, 115, #[.slice (some ⟨g, o, none⟩) 4 cap], fun w hSw => ⟨?y2_35, (by have := told_sub HL.out 0 4 cap (by decide) (by decide) hSw; rw [HF0.out] at this; exact this)⟩⟩ (by assumption) ?r2_35
    case y2_35 => first | (go_simp; done) | (go_simp; with_reducible rfl)
    try simp only [Act.put, List.setIfInBounds_toArray, List.set_cons_zero, List.set_cons_succ]
    refine wpAnyH_takeD (i := 3) (some 14) (v := ?v3_36) rfl rfl (by kernel_rfl) (by kernel_rfl) (by kernel_rfl) (fun _ _ _ h => h) (by rfl) ?y3_36 (by assumption) ?r3_36
    case y3_36 => (intro w hSw; (try dsimp only at hSw); first | (go_simp; done) | (go_simp; with_reducible rfl))
    try simp only [Act.put, List.setIfInBounds_toArray, List.set_cons_zero, List.set_cons_succ]
    refine wpAnyH_takeD (i := 4) (some 15) (v := ?v4_37) rfl rfl (by kernel_rfl) (by kernel_rfl) (by kernel_rfl) (fun _ _ _ h => h) (by rfl) ?y4_37 (by assumption) ?r4_37
    case y4_37 => (intro w hSw; (try dsimp only at hSw); first | (go_simp; done) | (go_simp; with_reducible rfl))
    try simp only [Act.put, List.setIfInBounds_toArray, List.set_cons_zero, List.set_cons_succ]
    refine wpAnyH_tellsD (i := 5) (some 16) (v := .int .i64 (f1 : Nat)) rfl rfl (by kernel_rfl) (by kernel_rfl) (by kernel_rfl) (fun _ _ _ h => h) ⟨by rfl, 115, #[.slice (some ⟨g, o + 4, none⟩) 2 (cap - 4)], fun w hSw => ⟨?y5_38, (by have := told_sub HL.out 4 2 (cap - 4) (by decide) (by decide) hSw; rw [HF1.out] at this; exact this)⟩⟩ (by assumption) ?r5_38
    case y5_38 => first | (go_simp; done) | (go_simp; with_reducible rfl)
    try simp only [Act.put, List.setIfInBounds_toArray, List.set_cons_zero, List.set_cons_succ]
    refine wpAnyH_takeD (i := 6) (some 17) (v := ?v6_39) rfl rfl (by kernel_rfl) (by kernel_rfl) (by kernel_rfl) (fun _ _ _ h => h) (by rfl) ?y6_39 (by assumption) ?r6_39
    case y6_39 => (intro w hSw; (try dsimp only at hSw); first | (go_simp; done) | (go_simp; with_reducible rfl))
    try simp only [Act.put, List.setIfInBounds_toArray, List.set_cons_zero, List.set_cons_succ]
    refine wpAnyH_takeD (i := 7) (some 18) (v := ?v7_40) rfl rfl (by kernel_rfl) (by kernel_rfl) (by kernel_rfl) (fun _ _ _ h => h) (by rfl) ?y7_40 (by assumption) ?r7_40
    case y7_40 => (intro w hSw; (try dsimp only at hSw); first | (go_simp; done) | (go_simp; with_reducible rfl))
    try simp only [Act.put, List.setIfInBounds_toArray, List.set_cons_zero, List.set_cons_succ]
    refine wpAnyH_tellsD (i := 8) (some 19) (v := .int .i64 (f2 : Nat)) rfl rfl (by kernel_rfl) (by kernel_rfl) (by kernel_rfl) (fun _ _ _ h => h) ⟨by rfl, 115, #[.slice (some ⟨g, o + 6, none⟩) 1 (cap - 6)], fun w hSw => ⟨?y8_41, (by have := told_sub HL.out 6 1 (cap - 6) (by decide) (by decide) hSw; rw [HF2.out] at this; exact this)⟩⟩ (by assumption) ?r8_41
    case y8_41 => first | (go_simp; done) | (go_simp; with_reducible rfl)
    try simp only [Act.put, List.setIfInBounds_toArray, List.set_cons_zero, List.set_cons_succ]
    refine wpAnyH_takeD (i := 9) (some 20) (v := ?v9_42) rfl rfl (by kernel_rfl) (by kernel_rfl) (by kernel_rfl) (fun _ _ _ h => h) (by rfl) ?y9_42 (by assumption) ?r9_42
    case y9_42 => (intro w hSw; (try dsimp only at hSw); first | (go_simp; done) | (go_simp; with_reducible rfl))
    try simp only [Act.put, List.setIfInBounds_toArray, List.set_cons_zero, List.set_cons_succ]
    refine wpAnyH_takeD (i := 10) (some 21) (v := ?v10_43) rfl rfl (by kernel_rfl) (by kernel_rfl) (by kernel_rfl) (fun _ _ _ h => h) (by rfl) ?y10_43 (by assumption) ?r10_43
    case y10_43 => (intro w hSw; (try dsimp only at hSw); first | (go_simp; done) | (go_simp; with_reducible rfl))
    try simp only [Act.put, List.setIfInBounds_toArray, List.set_cons_zero, List.set_cons_succ]
    refine wpAnyH_tellsD (i := 11) (some 22) (v := .int .i64 (f3 : Nat)) rfl rfl (by kernel_rfl) (by kernel_rfl) (by kernel_rfl) (fun _ _ _ h => h) ⟨by rfl, 115, #[.slice (some ⟨g, o + 7, none⟩) 1 (cap - 7)], fun w hSw => ⟨?y11_44, (by have := told_sub HL.out 7 1 (cap - 7) (by decide) (by decide) hSw; rw [HF3.out] at this; exact this)⟩⟩ (by assumption) ?r11_44
    case y11_44 => first | (go_simp; done) | (go_simp; with_reducible rfl)
    try simp only [Act.put, List.setIfInBounds_toArray, List.set_cons_zero, List.set_cons_succ]
    refine wpAnyH_takeD (i := 12) (some 23) (v := ?v12_45) rfl rfl (by kernel_rfl) (by kernel_rfl) (by kernel_rfl) (fun _ _ _ h => h) (by rfl) ?y12_45 (by assumption) ?r12_45
    case y12_45 => (intro w hSw; (try dsimp only at hSw); first | (go_simp; done) | (go_simp; with_reducible rfl))
    try simp only [Act.put, List.setIfInBounds_toArray, List.set_cons_zero, List.set_cons_succ]
    refine wpAnyH_takeD (i := 13) (some 24) (v := ?v13_46) rfl rfl (by kernel_rfl) (by kernel_rfl) (by kernel_rfl) (fun _ _ _ h => h) (by rfl) ?y13_46 (by assumption) ?r13_46
    case y13_46 => (intro w hSw; (try dsimp only at hSw); first | (go_simp; done) | (go_simp; with_reducible rfl))
    try simp only [Act.put, List.setIfInBounds_toArray, List.set_cons_zero, List.set_cons_succ]
    refine wpAnyH_ready (rs := [14, 16]) (by kernel_rfl) (by simp) ?_
    refine AllReadyH.cons rfl (fun K hK => ?_) ?_
    · go_simp
      go_at_call 98
      refine (CL.out _ _ HX.out (up1 HD.out)).mono ?_
      rintro z w5 ⟨vd, rfl, h5⟩
      obtain ⟨bD, cD, hvD, _⟩ := h5.rows_form mem0
      subst hvD
      have HY := hide h5
      clear h5
      clear HX
      have HX := HY
      clear HY
      refine hK.out _ _ ?_ (fun hHeld => ?_)
      · exact SK.out _ _ HX.out (up2 HM2.out)
      clear hK K
      try simp only [Act.put, List.setIfInBounds_toArray, List.set_cons_zero, List.set_cons_succ]
      refine wpAnyH_takeD (i := 15) (some 26) (v := ?v15_47) rfl rfl (by kernel_rfl) (by kernel_rfl) (by kernel_rfl) (fun _ _ _ h => h) (by rfl) ?y15_47 (by assumption) ?r15_47
      case y15_47 => (intro w hSw; (try dsimp only at hSw); first | (go_simp; done) | (go_simp; with_reducible rfl))
      try simp only [Act.put, List.setIfInBounds_toArray, List.set_cons_zero, List.set_cons_succ]
      refine wpAnyH_ready (rs := [16]) (by kernel_rfl) (by simp) ?_
      refine AllReadyH.cons rfl (fun K hK => ?_) ?_
      · refine step_alloc_ag rfl agPart rfl HX.out ?_
        intro g5 w6 h6
        have HY := hide h6
        clear h6
        clear HX
        have HX := HY
        clear HY
        refine hK.out _ _ ?_ (fun hHeld => ?_)
        · exact SK.out _ _ HX.out (up3 HM2.out)
        clear hK K
        try simp only [Act.put, List.setIfInBounds_toArray, List.set_cons_zero, List.set_cons_succ]
        refine wpAnyH_ready (rs := [17]) (by kernel_rfl) (by simp) ?_
        refine AllReadyH.cons rfl (fun K hK => ?_) ?_
        · refine step_storeB_st (cs := [.int .i64 (f0 : Nat), .int .i64 (f1 : Nat), .int .i64 (f2 : Nat), .int .i64 (f3 : Nat), .slice bD dt.length cD]) (c := [.int .i64 0, .int .i64 0, .int .i64 0, .int .i64 0, .slice none 0 0]) (d := [.int .i64 (f0 : Nat), .int .i64 (f1 : Nat), .int .i64 (f2 : Nat), .int .i64 (f3 : Nat), .slice bD dt.length cD]) rfl 127 (.tmp 4) (.tmp 26) rfl szPart rfl rfl (by intro v hv; simp only [List.mem_cons, List.not_mem_nil, or_false] at hv; rcases hv with rfl | rfl | rfl | rfl | rfl <;> rfl) HX.out (by simp) rfl ?_
          intro w7 h7
          have HY := hide h7
          clear h7
          clear HX
          have HX := HY
          clear HY
          refine hK.out _ _ ?_ (fun hHeld => ?_)
          · exact SK.out _ _ HX.out (up3 HM2.out)
          clear hK K
          try simp only [Act.put, List.setIfInBounds_toArray, List.set_cons_zero, List.set_cons_succ]
          refine wpAnyH_done (by kernel_rfl) ?_ _
          have HZ := hide HX.out.f1.persist.f1
          clear HX
          go_wp2_with (first
            | (refine wpList_loadB_st (cs := [.int .i64 (f0 : Nat), .int .i64 (f1 : Nat), .int .i64 (f2 : Nat), .int .i64 (f3 : Nat), .slice bD dt.length cD]) rfl agPart (.tmp 4) rfl rfl rfl HZ.out mem0 ?_)
            | (go_at_call 99; refine (bytes_bad (p := ⟨f0, f1, f2, f3, dt⟩) HZ.out HB.out.1 HB.out.2.1 HB.out.2.2.1 HB.out.2.2.2 HDL.out HOKP.out).mono ?_; rintro z w8 ⟨rfl, h8⟩; have H8 := hide h8.f2; clear h8 HZ)
            | ((with_reducible refine wpList_store_ag (cs := [.int .i64 0, .int .i64 0, .int .i64 0, .int .i64 0, .slice none 0 0]) rfl agPart (.tmp 2) (.tmp 40) rfl rfl rfl rfl rfl (ONE5.out _ _ _ _ _ rfl rfl rfl rfl rfl) H8.out ?_); intro w20 h20; have H20 := hide h20; clear h20 H8))
          (try simp only [Exit.inBlock, Exit.then])
          have hb2 := H20.out.mem_blk mem0
          refine bodyPost_ret (results_cell_row2 rfl _ _ g2 _ _ _ _ rfl hb2 Tryz.underlying127 rfl szPart) rfl ?_
          exact Or.inr ⟨HPN.out, rfl, H20.out.drop.drop.drop.drop⟩
        exact AllReadyH.nil
      exact AllReadyH.nil
    refine AllReadyH.cons rfl (fun K hK => ?_) ?_
    · refine step_alloc_ag rfl agPart rfl HX.out ?_
      intro g5 w6 h6
      have HY := hide h6
      clear h6
      clear HX
      have HX := HY
      clear HY
      refine hK.out _ _ ?_ (fun hHeld => ?_)
      · exact SK.out _ _ HX.out (up2 HM2.out)
      clear hK K
      try simp only [Act.put, List.setIfInBounds_toArray, List.set_cons_zero, List.set_cons_succ]
      refine wpAnyH_ready (rs := [14]) (by kernel_rfl) (by simp) ?_
      refine AllReadyH.cons rfl (fun K hK => ?_) ?_
      · go_simp
        go_at_call 98
        refine (CL.out _ _ HX.out (up2 HD.out)).mono ?_
        rintro z w5 ⟨vd, rfl, h5⟩
        obtain ⟨bD, cD, hvD, _⟩ := h5.rows_form mem0
        subst hvD
        have HY := hide h5.f1
        clear h5
        clear HX
        have HX := HY
        clear HY
        refine hK.out _ _ ?_ (fun hHeld => ?_)
        · exact SK.out _ _ HX.out (up3 HM2.out)
        clear hK K
        try simp only [Act.put, List.setIfInBounds_toArray, List.set_cons_zero, List.set_cons_succ]
        refine wpAnyH_takeD (i := 15) (some 26) (v := ?v15_48) rfl rfl (by kernel_rfl) (by kernel_rfl) (by kernel_rfl) (fun _ _ _ h => h) (by rfl) ?y15_48 (by assumption) ?r15_48
        case y15_48 => (intro w hSw; (try dsimp only at hSw); first | (go_simp; done) | (go_simp; with_reducible rfl))
        try simp only [Act.put, List.setIfInBounds_toArray, List.set_cons_zero, List.set_cons_succ]
        refine wpAnyH_ready (rs := [17]) (by kernel_rfl) (by simp) ?_
        refine AllReadyH.cons rfl (fun K hK => ?_) ?_
        · refine step_storeB_st (cs := [.int .i64 (f0 : Nat), .int .i64 (f1 : Nat), .int .i64 (f2 : Nat), .int .i64 (f3 : Nat), .slice bD dt.length cD]) (c := [.int .i64 0, .int .i64 0, .int .i64 0, .int .i64 0, .slice none 0 0]) (d := [.int .i64 (f0 : Nat), .int .i64 (f1 : Nat), .int .i64 (f2 : Nat), .int .i64 (f3 : Nat), .slice bD dt.length cD]) rfl 127 (.tmp 4) (.tmp 26) rfl szPart rfl rfl (by intro v hv; simp only [List.mem_cons, List.not_mem_nil, or_false] at hv; rcases hv with rfl | rfl | rfl | rfl | rfl <;> rfl) HX.out (by simp) rfl ?_
          intro w7 h7
          have HY := hide h7
          clear h7
          clear HX
          have HX := HY
          clear HY
          refine hK.out _ _ ?_ (fun hHeld => ?_)
          · exact SK.out _ _ HX.out (up3 HM2.out)
          clear hK K
          try simp only [Act.put, List.setIfInBounds_toArray, List.set_cons_zero, List.set_cons_succ]
          refine wpAnyH_done (by kernel_rfl) ?_ _
          have HZ := hide HX.out.f1.persist.f1
          clear HX
          go_wp2_with (first
            | (refine wpList_loadB_st (cs := [.int .i64 (f0 : Nat), .int .i64 (f1 : Nat), .int .i64 (f2 : Nat), .int .i64 (f3 : Nat), .slice bD dt.length cD]) rfl agPart (.tmp 4) rfl rfl rfl HZ.out mem0 ?_)
            | (go_at_call 99; refine (bytes_bad (p := ⟨f0, f1, f2, f3, dt⟩) HZ.out HB.out.1 HB.out.2.1 HB.out.2.2.1 HB.out.2.2.2 HDL.out HOKP.out).mono ?_; rintro z w8 ⟨rfl, h8⟩; have H8 := hide h8.f2; clear h8 HZ)
            | ((with_reducible refine wpList_store_ag (cs := [.int .i64 0, .int .i64 0, .int .i64 0, .int .i64 0, .slice none 0 0]) rfl agPart (.tmp 2) (.tmp 40) rfl rfl rfl rfl rfl (ONE5.out _ _ _ _ _ rfl rfl rfl rfl rfl) H8.out ?_); intro w20 h20; have H20 := hide h20; clear h20 H8))
          (try simp only [Exit.inBlock, Exit.then])
          have hb2 := H20.out.mem_blk mem0
          refine bodyPost_ret (results_cell_row2 rfl _ _ g2 _ _ _ _ rfl hb2 Tryz.underlying127 rfl szPart) rfl ?_
          exact Or.inr ⟨HPN.out, rfl, H20.out.drop.drop.drop.drop⟩
        exact AllReadyH.nil
      exact AllReadyH.nil
    exact AllReadyH.nil
end Go.Proofs.YtcgnkloljfgiaaaGreatDoor
