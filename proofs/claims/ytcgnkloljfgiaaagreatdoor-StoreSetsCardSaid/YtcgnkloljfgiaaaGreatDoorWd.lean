/-
  package sect: sum, Bytes.
-/
import Derived.Test.YtcgnkloljfgiaaaGreatDoorWbb
namespace Go.Proofs.YtcgnkloljfgiaaaGreatDoor
open Go.RowKit Go.Maps Go.MapKept
section
variable {P : Program} {ops : Array Oper} {o : Oper} {a : Act} {w : World} {Q : Exit → Act → World → Prop} {X : Prop} {K : Act → World → Prop}
theorem step_append_run (hg : o.guard = none) (s x : Operand) {t : TypeId} (ho : o.op = .call { callee := .builtin .append, args := #[s, x], argTypes := #[t, t] }) {v sv v' : Value} {w' : World} (hv : a.eval s = v) (hx : a.eval x = sv) (hrun : (Builtin.append_ #[t, t] o.type #[v, sv]).run P w = .ok v' w') (h : K (a.put o.dst v') w') : if Region.wanted o (yielded ops a.tmps) = true then Oper.wp P o a w K Q else X :=
  step_wval hg (by simp [execOp, ho, resolve, invoke, builtin, hv, hx, hrun]) h
theorem step_copy_run (d : Option Nat) (hd : o.dst = d) (hg : o.guard = none) (s x : Operand) {t t2 : TypeId} (ho : o.op = .call { callee := .builtin .copy, args := #[s, x], argTypes := #[t, t2] }) {v sv v' : Value} {w' : World} (hv : a.eval s = v) (hx : a.eval x = sv) (hrun : (Builtin.copy_ #[t, t2] o.type #[v, sv]).run P w = .ok v' w') (h : K (a.put d v') w') : if Region.wanted o (yielded ops a.tmps) = true then Oper.wp P o a w K Q else X := by
  subst hd
  exact step_wval hg (by simp [execOp, ho, resolve, invoke, builtin, hv, hx, hrun]) h
end
variable {b : Env} {L : List HP} {w : World}
def crcN (l : Byt) : Nat := (crcR l).toNat
theorem crcN_is (l : Byt) : crcR l = (crcN l : Int) ∧ crcN l < 4294967296 := by
  have h : ∀ y, 0 ≤ bits BinOp.xor IntKind.u32 IntKind.u32.max y ∧ bits BinOp.xor IntKind.u32 IntKind.u32.max y < 4294967296 := by
    intro y
    unfold bits
    simp only [IntKind.wrap, IntKind.bits, IntKind.signed]
    simp
    omega
  have := h (crcL 4294967295 l)
  unfold crcN crcR
  omega
set_option linter.unusedSimpArgs false in
set_option maxRecDepth 100000 in
set_option maxHeartbeats 4000000 in
theorem sum_calls {g : Nat} {l : Byt} (h : St b (HP.blk g (.cells (l.map B8).toArray 5) :: L) w) (hl : l.length = 64) :
    Calls Tryz.prog 119 #[.slice (some ⟨g, 0, none⟩) 64 64] w fun x w' => x = .returned (.int .i64 (crcN (l.take 8 ++ l.drop 12) : Nat)) ∧ St b (HP.blk g (.cells (l.map B8).toArray 5) :: L) w' := by
  have HD := hide h.drew
  have h8 : (l.take 8).length = 8 := by rw [List.length_take]; omega
  have h52 : (l.drop 12).length = 52 := by rw [List.length_drop]; omega
  have hc1 : ∀ j u, ((l.take 8).map B8)[j]? = some u → w.drew.cell? ⟨g, 0 + j, none⟩ = some u := by
    have := HD.out.byte_cells mem0 0 8 (by omega)
    rw [List.drop_zero] at this; exact this
  have hc2 : ∀ j u, ((l.drop 12).map B8)[j]? = some u → w.drew.cell? ⟨g, 12 + j, none⟩ = some u := by
    have := HD.out.byte_cells mem0 12 52 (by omega)
    rw [List.take_of_length_le (by omega)] at this; exact this
  obtain ⟨nb, nc, w2, hrun, h2⟩ := HD.out.append_anew (P := Tryz.prog) slByte (cap := 8) (cap2 := 52) hc1 hc2 (by omega) (by rw [h8, h52]; unfold maxLen; omega) (by rw [h8, h52]; decide) 37
  rw [h8, h52] at hrun
  obtain ⟨hcr, hcl⟩ := crcN_is (l.take 8 ++ l.drop 12)
  have HCR := hide hcr
  have hw64 : wrap64 ((crcN (l.take 8 ++ l.drop 12) : Nat) : Int) = ((crcN (l.take 8 ++ l.drop 12) : Nat) : Int) := wrap64_small (by omega) (by omega)
  have H2 := hide h2.persist
  rw [h8, h52] at H2
  clear h h2 hc1 hc2 hcr h8 h52
  have HRUN := hide hrun
  clear hrun
  go_enter Tryz.func119, Tryz.ntmps119
  go_wp2_with fail
  refine wp_region_held_drew (S := fun _ => True) (by kernel_rfl) trivial (fun hHeld => ?_)
  refine wpAnyH_takeD (i := 0) (some 4) (v := ?v0_1) rfl rfl (by kernel_rfl) (by kernel_rfl) (by kernel_rfl) (fun _ _ _ h => h) (by rfl) ?y0_1 (by assumption) ?r0_1
  case y0_1 => (intro w hSw; (try dsimp only at hSw); first | (go_simp; done) | (go_simp; with_reducible rfl))
  try simp only [Act.put, List.setIfInBounds_toArray, List.set_cons_zero, List.set_cons_succ]
  refine wpAnyH_takeD (i := 1) (some 5) (v := ?v1_2) rfl rfl (by kernel_rfl) (by kernel_rfl) (by kernel_rfl) (fun _ _ _ h => h) (by rfl) ?y1_2 (by assumption) ?r1_2
  case y1_2 => (intro w hSw; (try dsimp only at hSw); first | (go_simp; done) | (go_simp; with_reducible rfl))
  try simp only [Act.put, List.setIfInBounds_toArray, List.set_cons_zero, List.set_cons_succ]
  refine wpAnyH_takeD (i := 2) (some 6) (v := ?v2_3) rfl rfl (by kernel_rfl) (by kernel_rfl) (by kernel_rfl) (fun _ _ _ h => h) (by rfl) ?y2_3 (by assumption) ?r2_3
  case y2_3 => (intro w hSw; (try dsimp only at hSw); first | (go_simp; done) | (go_simp; with_reducible rfl))
  try simp only [Act.put, List.setIfInBounds_toArray, List.set_cons_zero, List.set_cons_succ]
  refine wpAnyH_takeD (i := 3) (some 7) (v := ?v3_4) rfl rfl (by kernel_rfl) (by kernel_rfl) (by kernel_rfl) (fun _ _ _ h => h) (by rfl) ?y3_4 (by assumption) ?r3_4
  case y3_4 => (intro w hSw; (try dsimp only at hSw); first | (go_simp; done) | (go_simp; with_reducible rfl))
  try simp only [Act.put, List.setIfInBounds_toArray, List.set_cons_zero, List.set_cons_succ]
  refine wpAnyH_ready (rs := [4]) (by kernel_rfl) (by simp) ?_
  refine AllReadyH.cons rfl (fun K hK => ?_) ?_
  · refine step_append_run rfl (.tmp 5) (.tmp 7) rfl rfl rfl HRUN.out ?_
    refine hK.out _ _ ?_ (fun hHeld => ?_)
    · trivial
    clear hK K
    try simp only [Act.put, List.setIfInBounds_toArray, List.set_cons_zero, List.set_cons_succ]
    refine wpAnyH_takeD (i := 5) (some 3) (v := ?v5_5) rfl rfl (by kernel_rfl) (by kernel_rfl) (by kernel_rfl) (fun _ _ _ h => h) (by rfl) ?y5_5 (by assumption) ?r5_5
    case y5_5 => (intro w hSw; (try dsimp only at hSw); first | (go_simp; done) | (go_simp; with_reducible rfl))
    try simp only [Act.put, List.setIfInBounds_toArray, List.set_cons_zero, List.set_cons_succ]
    refine wpAnyH_done (by kernel_rfl) ?_ _
    go_wp2_with (go_at_call 134; refine (crc_calls H2.out mem0).mono ?_; rintro z w3 ⟨rfl, hw3⟩; subst hw3; rw [HCR.out])
    go_ret
    exact ⟨rfl, H2.out.drop⟩
  exact AllReadyH.nil
/-- The bytes of a Part. -/
def partHead (p : PartR) : Byt := leB p.gen 4 ++ leB p.rc 2 ++ leB p.n 1 ++ leB p.of 1
def partB (p : PartR) : Byt := partHead p ++ leB (crcN (partHead p ++ p.data)) 4 ++ p.data
def PartR.ok (p : PartR) : Prop := 1 ≤ p.gen ∧ p.gen ≤ 4294967295 ∧ p.rc ≤ 65535 ∧ 1 ≤ p.of ∧ p.of ≤ 255 ∧ p.n ≤ p.of - 1 ∧ p.data.length = 52
theorem partHead_len (p : PartR) : (partHead p).length = 8 := by simp [partHead, leB_len]
theorem partB_len {p : PartR} (h : p.data.length = 52) : (partB p).length = 64 := by simp [partB, partHead_len, leB_len, h]
set_option linter.unusedSimpArgs false in
set_option maxRecDepth 100000 in
set_option maxHeartbeats 4000000 in
theorem bytes_calls {v : Value} {p : PartR} (h : St b L w) (hm : HP.sl byteE v p.data ∈ L) (hok : p.ok) :
    Calls Tryz.prog 99 #[.agg #[.int .i64 (p.gen : Nat), .int .i64 (p.rc : Nat), .int .i64 (p.n : Nat), .int .i64 (p.of : Nat), v]] w fun x w' => ∃ g, x = .returned (.tuple #[.slice (some ⟨g, 0, none⟩) 64 64, .int .i64 0]) ∧ St b (HP.blk g (.cells ((partB p).map B8).toArray 5) :: L) w' := by
  obtain ⟨o1, o2, o3, o4, o5, o6, o7⟩ := hok
  obtain ⟨gen, rc, n, of, data⟩ := p
  simp only at o1 o2 o3 o4 o5 o6 o7 hm ⊢
  obtain ⟨bd, cd, rfl, _⟩ := h.sl_form hm
  have H := hide h
  have HM := hide hm
  have hd52 : (data.length : Int) = 52 := by omega
  have W1 : Hid (∀ w, Calls Tryz.prog 96 #[.int .i64 (gen : Nat), .int .i64 1, .int .i64 4294967295] w (fun e w' => e = .returned (.bool true) ∧ w = w')) := hide (fun w => (swithin_calls gen 1 4294967295).mono (fun e w' he => ⟨by rw [he.1, decide_eq_true (by omega), decide_eq_true (by omega)]; rfl, he.2⟩))
  have W2 : Hid (∀ w, Calls Tryz.prog 96 #[.int .i64 (rc : Nat), .int .i64 0, .int .i64 65535] w (fun e w' => e = .returned (.bool true) ∧ w = w')) := hide (fun w => (swithin_calls rc 0 65535).mono (fun e w' he => ⟨by rw [he.1, decide_eq_true (by omega), decide_eq_true (by omega)]; rfl, he.2⟩))
  have W3 : Hid (∀ w, Calls Tryz.prog 96 #[.int .i64 (of : Nat), .int .i64 1, .int .i64 255] w (fun e w' => e = .returned (.bool true) ∧ w = w')) := hide (fun w => (swithin_calls of 1 255).mono (fun e w' he => ⟨by rw [he.1, decide_eq_true (by omega), decide_eq_true (by omega)]; rfl, he.2⟩))
  have W4 : Hid (∀ w, Calls Tryz.prog 96 #[.int .i64 (n : Nat), .int .i64 0, .int .i64 ((of : Nat) - 1)] w (fun e w' => e = .returned (.bool true) ∧ w = w')) := hide (fun w => (swithin_calls n 0 ((of : Nat) - 1)).mono (fun e w' he => ⟨by rw [he.1, decide_eq_true (by omega), decide_eq_true (by omega)]; rfl, he.2⟩))
  have hof : (of : Int) ≤ 255 := by omega
  have hof1 : (1 : Int) ≤ of := by omega
  have hwo : wrap64 ((of : Int) - 1) = (of : Int) - 1 := wrap64_small (by omega) (by omega)
  have HO7 := hide o7
  have G32 := hide (show gen < 4294967296 by omega)
  have R32 := hide (show rc < 4294967296 by omega)
  have N32 := hide (show n < 4294967296 by omega)
  have O32 := hide (show of < 4294967296 by omega)
  clear h hm o1 o2 o3 o4 o5 o6 o7
  go_enter Tryz.func99, Tryz.ntmps99
  go_wp2_with (first
    | ((with_reducible refine wpList_box_st (cs := [.int .i64 (gen : Nat), .int .i64 (rc : Nat), .int .i64 (n : Nat), .int .i64 (of : Nat), .slice bd data.length cd]) rfl (.tmp 0) rfl rfl H.out ?_); intro g1 w1 h1; have p0 : w1.cell? ⟨g1, 0, none⟩ = some (.int .i64 (gen : Nat)) := h1.blk_cell mem0 0; have p1 : w1.cell? ⟨g1, 1, none⟩ = some (.int .i64 (rc : Nat)) := h1.blk_cell mem0 1; have p2 : w1.cell? ⟨g1, 2, none⟩ = some (.int .i64 (n : Nat)) := h1.blk_cell mem0 2; have p3 : w1.cell? ⟨g1, 3, none⟩ = some (.int .i64 (of : Nat)) := h1.blk_cell mem0 3; have p4 : w1.cell? ⟨g1, 4, none⟩ = some (.slice bd data.length cd) := h1.blk_cell mem0 4; have H1 := hide h1; clear h1 H)
    | (go_at_call 96; with_reducible refine (W1.out _).mono ?_; rintro z w2 ⟨rfl, rfl⟩; clear W1)
    | (go_at_call 96; with_reducible refine (W2.out _).mono ?_; rintro z w2 ⟨rfl, rfl⟩; clear W2)
    | (go_at_call 96; with_reducible refine (W3.out _).mono ?_; rintro z w2 ⟨rfl, rfl⟩; clear W3)
    | (go_at_call 96; with_reducible refine (W4.out _).mono ?_; rintro z w2 ⟨rfl, rfl⟩; clear W4)
    | (refine wpList_make_st (E := byteE) (T := 5) rfl (.const (.int .i64 64)) (.const (.int .i64 64)) slByte rfl rfl 64 rfl rfl rfl rfl (0 : UInt8) (fun _ => ⟨rfl, trivial⟩) H1.out (by decide) (by unfold maxLen; decide) ?_; intro g4 w4 h4; have H4 := hide h4.rows_bytes; clear h4 H1))
  clear p0 p1 p2 p3 p4
  refine wp_region_held_drew (S := fun w' => w'.cell? ⟨g1, 0, none⟩ = some (.int .i64 (gen : Nat))) (by kernel_rfl) ?_ (fun hHeld => ?_)
  · exact H4.out.blk_cell mem1 0
  refine wpAnyH_takeD (i := 0) (some 37) (v := ?v0_25) rfl rfl (by kernel_rfl) (by kernel_rfl) (by kernel_rfl) (fun _ _ _ h => h) (by rfl) ?y0_25 (by assumption) ?r0_25
  case y0_25 => (intro w hSw; (try dsimp only at hSw); first | (go_simp; done) | (go_simp; with_reducible rfl))
  try simp only [Act.put, List.setIfInBounds_toArray, List.set_cons_zero, List.set_cons_succ]
  refine wpAnyH_takeD (i := 1) (some 38) (v := ?v1_26) rfl rfl (by kernel_rfl) (by kernel_rfl) (by kernel_rfl) (fun _ _ _ h => h) (by rfl) ?y1_26 (by assumption) ?r1_26
  case y1_26 => (intro w hSw; (try dsimp only at hSw); first | (go_simp; done) | (go_simp; with_reducible rfl))
  try simp only [Act.put, List.setIfInBounds_toArray, List.set_cons_zero, List.set_cons_succ]
  refine wpAnyH_takeD (i := 2) (some 39) (v := ?v2_27) rfl rfl (by kernel_rfl) (by kernel_rfl) (by kernel_rfl) (fun _ _ _ h => h) (by rfl) ?y2_27 (by assumption) ?r2_27
  case y2_27 => (intro w hSw; (try dsimp only at hSw); first | (go_simp; done) | (go_simp; with_reducible rfl))
  try simp only [Act.put, List.setIfInBounds_toArray, List.set_cons_zero, List.set_cons_succ]
  refine wpAnyH_takeD (i := 3) (some 40) (v := ?v3_28) rfl rfl (by kernel_rfl) (by kernel_rfl) (by kernel_rfl) (fun _ _ _ h => h) (by rfl) ?y3_28 (by assumption) ?r3_28
  case y3_28 => (intro w hSw; (try dsimp only at hSw); first | (go_simp; done) | (go_simp; with_reducible rfl))
  try simp only [Act.put, List.setIfInBounds_toArray, List.set_cons_zero, List.set_cons_succ]
  refine wpAnyH_ready (rs := [4]) (by kernel_rfl) (by simp) ?_
  refine AllReadyH.cons rfl (fun K hK => ?_) ?_
  · go_simp
    go_at_call 97
    refine (lay_calls H4.out.drew 0 4 _ gen (by rw [List.length_map, List.length_replicate]; decide) (by decide) G32.out).mono ?_
    rintro z w5 ⟨rfl, h5⟩
    rw [layC_B] at h5
    have H5 := hide h5
    clear h5 H4
    refine hK.out _ _ ?_ (fun hHeld => ?_)
    · exact H5.out.blk_cell mem1 0
    clear hK K
    try simp only [Act.put, List.setIfInBounds_toArray, List.set_cons_zero, List.set_cons_succ]
    refine wpAnyH_done (by kernel_rfl) ?_ _
    go_wp2_with fail
    refine wp_region_held_drew (S := fun w' => w'.cell? ⟨g1, 1, none⟩ = some (.int .i64 (rc : Nat))) (by kernel_rfl) ?_ (fun hHeld => ?_)
    · exact H5.out.blk_cell mem1 1
    refine wpAnyH_takeD (i := 0) (some 42) (v := ?v0_21) rfl rfl (by kernel_rfl) (by kernel_rfl) (by kernel_rfl) (fun _ _ _ h => h) (by rfl) ?y0_21 (by assumption) ?r0_21
    case y0_21 => (intro w hSw; (try dsimp only at hSw); first | (go_simp; done) | (go_simp; with_reducible rfl))
    try simp only [Act.put, List.setIfInBounds_toArray, List.set_cons_zero, List.set_cons_succ]
    refine wpAnyH_takeD (i := 1) (some 43) (v := ?v1_22) rfl rfl (by kernel_rfl) (by kernel_rfl) (by kernel_rfl) (fun _ _ _ h => h) (by rfl) ?y1_22 (by assumption) ?r1_22
    case y1_22 => (intro w hSw; (try dsimp only at hSw); first | (go_simp; done) | (go_simp; with_reducible rfl))
    try simp only [Act.put, List.setIfInBounds_toArray, List.set_cons_zero, List.set_cons_succ]
    refine wpAnyH_takeD (i := 2) (some 44) (v := ?v2_23) rfl rfl (by kernel_rfl) (by kernel_rfl) (by kernel_rfl) (fun _ _ _ h => h) (by rfl) ?y2_23 (by assumption) ?r2_23
    case y2_23 => (intro w hSw; (try dsimp only at hSw); first | (go_simp; done) | (go_simp; with_reducible rfl))
    try simp only [Act.put, List.setIfInBounds_toArray, List.set_cons_zero, List.set_cons_succ]
    refine wpAnyH_takeD (i := 3) (some 45) (v := ?v3_24) rfl rfl (by kernel_rfl) (by kernel_rfl) (by kernel_rfl) (fun _ _ _ h => h) (by rfl) ?y3_24 (by assumption) ?r3_24
    case y3_24 => (intro w hSw; (try dsimp only at hSw); first | (go_simp; done) | (go_simp; with_reducible rfl))
    try simp only [Act.put, List.setIfInBounds_toArray, List.set_cons_zero, List.set_cons_succ]
    refine wpAnyH_ready (rs := [4]) (by kernel_rfl) (by simp) ?_
    refine AllReadyH.cons rfl (fun K hK => ?_) ?_
    · go_simp
      go_at_call 97
      refine (lay_calls H5.out.drew 4 2 _ rc (by rw [List.length_map, layB_len (by rw [List.length_replicate]; decide), List.length_replicate]; decide) (by decide) R32.out).mono ?_
      rintro z w5 ⟨rfl, h5⟩
      rw [layC_B] at h5
      have H6 := hide h5
      clear h5 H5
      refine hK.out _ _ ?_ (fun hHeld => ?_)
      · exact H6.out.blk_cell mem1 1
      clear hK K
      try simp only [Act.put, List.setIfInBounds_toArray, List.set_cons_zero, List.set_cons_succ]
      refine wpAnyH_done (by kernel_rfl) ?_ _
      go_wp2_with fail
      refine wp_region_held_drew (S := fun w' => w'.cell? ⟨g1, 2, none⟩ = some (.int .i64 (n : Nat))) (by kernel_rfl) ?_ (fun hHeld => ?_)
      · exact H6.out.blk_cell mem1 2
      refine wpAnyH_takeD (i := 0) (some 47) (v := ?v0_17) rfl rfl (by kernel_rfl) (by kernel_rfl) (by kernel_rfl) (fun _ _ _ h => h) (by rfl) ?y0_17 (by assumption) ?r0_17
      case y0_17 => (intro w hSw; (try dsimp only at hSw); first | (go_simp; done) | (go_simp; with_reducible rfl))
      try simp only [Act.put, List.setIfInBounds_toArray, List.set_cons_zero, List.set_cons_succ]
      refine wpAnyH_takeD (i := 1) (some 48) (v := ?v1_18) rfl rfl (by kernel_rfl) (by kernel_rfl) (by kernel_rfl) (fun _ _ _ h => h) (by rfl) ?y1_18 (by assumption) ?r1_18
      case y1_18 => (intro w hSw; (try dsimp only at hSw); first | (go_simp; done) | (go_simp; with_reducible rfl))
      try simp only [Act.put, List.setIfInBounds_toArray, List.set_cons_zero, List.set_cons_succ]
      refine wpAnyH_takeD (i := 2) (some 49) (v := ?v2_19) rfl rfl (by kernel_rfl) (by kernel_rfl) (by kernel_rfl) (fun _ _ _ h => h) (by rfl) ?y2_19 (by assumption) ?r2_19
      case y2_19 => (intro w hSw; (try dsimp only at hSw); first | (go_simp; done) | (go_simp; with_reducible rfl))
      try simp only [Act.put, List.setIfInBounds_toArray, List.set_cons_zero, List.set_cons_succ]
      refine wpAnyH_takeD (i := 3) (some 50) (v := ?v3_20) rfl rfl (by kernel_rfl) (by kernel_rfl) (by kernel_rfl) (fun _ _ _ h => h) (by rfl) ?y3_20 (by assumption) ?r3_20
      case y3_20 => (intro w hSw; (try dsimp only at hSw); first | (go_simp; done) | (go_simp; with_reducible rfl))
      try simp only [Act.put, List.setIfInBounds_toArray, List.set_cons_zero, List.set_cons_succ]
      refine wpAnyH_ready (rs := [4]) (by kernel_rfl) (by simp) ?_
      refine AllReadyH.cons rfl (fun K hK => ?_) ?_
      · go_simp
        go_at_call 97
        refine (lay_calls H6.out.drew 6 1 _ n (by rw [List.length_map, layB_len (by rw [layB_len (by rw [List.length_replicate]; decide), List.length_replicate]; decide), layB_len (by rw [List.length_replicate]; decide), List.length_replicate]; decide) (by decide) N32.out).mono ?_
        rintro z w5 ⟨rfl, h5⟩
        rw [layC_B] at h5
        have H7 := hide h5
        clear h5 H6
        refine hK.out _ _ ?_ (fun hHeld => ?_)
        · exact H7.out.blk_cell mem1 2
        clear hK K
        try simp only [Act.put, List.setIfInBounds_toArray, List.set_cons_zero, List.set_cons_succ]
        refine wpAnyH_done (by kernel_rfl) ?_ _
        go_wp2_with fail
        refine wp_region_held_drew (S := fun w' => w'.cell? ⟨g1, 3, none⟩ = some (.int .i64 (of : Nat))) (by kernel_rfl) ?_ (fun hHeld => ?_)
        · exact H7.out.blk_cell mem1 3
        refine wpAnyH_takeD (i := 0) (some 52) (v := ?v0_13) rfl rfl (by kernel_rfl) (by kernel_rfl) (by kernel_rfl) (fun _ _ _ h => h) (by rfl) ?y0_13 (by assumption) ?r0_13
        case y0_13 => (intro w hSw; (try dsimp only at hSw); first | (go_simp; done) | (go_simp; with_reducible rfl))
        try simp only [Act.put, List.setIfInBounds_toArray, List.set_cons_zero, List.set_cons_succ]
        refine wpAnyH_takeD (i := 1) (some 53) (v := ?v1_14) rfl rfl (by kernel_rfl) (by kernel_rfl) (by kernel_rfl) (fun _ _ _ h => h) (by rfl) ?y1_14 (by assumption) ?r1_14
        case y1_14 => (intro w hSw; (try dsimp only at hSw); first | (go_simp; done) | (go_simp; with_reducible rfl))
        try simp only [Act.put, List.setIfInBounds_toArray, List.set_cons_zero, List.set_cons_succ]
        refine wpAnyH_takeD (i := 2) (some 54) (v := ?v2_15) rfl rfl (by kernel_rfl) (by kernel_rfl) (by kernel_rfl) (fun _ _ _ h => h) (by rfl) ?y2_15 (by assumption) ?r2_15
        case y2_15 => (intro w hSw; (try dsimp only at hSw); first | (go_simp; done) | (go_simp; with_reducible rfl))
        try simp only [Act.put, List.setIfInBounds_toArray, List.set_cons_zero, List.set_cons_succ]
        refine wpAnyH_takeD (i := 3) (some 55) (v := ?v3_16) rfl rfl (by kernel_rfl) (by kernel_rfl) (by kernel_rfl) (fun _ _ _ h => h) (by rfl) ?y3_16 (by assumption) ?r3_16
        case y3_16 => (intro w hSw; (try dsimp only at hSw); first | (go_simp; done) | (go_simp; with_reducible rfl))
        try simp only [Act.put, List.setIfInBounds_toArray, List.set_cons_zero, List.set_cons_succ]
        refine wpAnyH_ready (rs := [4]) (by kernel_rfl) (by simp) ?_
        refine AllReadyH.cons rfl (fun K hK => ?_) ?_
        · go_simp
          go_at_call 97
          refine (lay_calls H7.out.drew 7 1 _ of (by rw [List.length_map, layB_len (by rw [layB_len (by rw [layB_len (by rw [List.length_replicate]; decide), List.length_replicate]; decide), layB_len (by rw [List.length_replicate]; decide), List.length_replicate]; decide), layB_len (by rw [layB_len (by rw [List.length_replicate]; decide), List.length_replicate]; decide), layB_len (by rw [List.length_replicate]; decide), List.length_replicate]; decide) (by decide) O32.out).mono ?_
          rintro z w5 ⟨rfl, h5⟩
          rw [layC_B] at h5
          have H8 := hide h5
          clear h5 H7
          refine hK.out _ _ ?_ (fun hHeld => ?_)
          · exact H8.out.blk_cell mem1 3
          clear hK K
          try simp only [Act.put, List.setIfInBounds_toArray, List.set_cons_zero, List.set_cons_succ]
          refine wpAnyH_done (by kernel_rfl) ?_ _
          go_wp2_with fail
          have hA : layB (layB (layB (layB (List.replicate 64 (0 : UInt8)) 0 gen 4) 4 rc 2) 6 n 1) 7 of 1 = partHead ⟨gen, rc, n, of, data⟩ ++ List.replicate 56 0 := by
            have e0 : List.replicate 64 (0 : UInt8) = [] ++ List.replicate 64 0 := rfl
            rw [e0, layB_at (a := ([] : Byt)) (off := 0) rfl, List.nil_append, List.drop_replicate, layB_at (by simp [leB_len]), List.drop_replicate, layB_at (by simp [leB_len]), List.drop_replicate, layB_at (by simp [leB_len]), List.drop_replicate]
            rfl
          have hHl := partHead_len ⟨gen, rc, n, of, data⟩
          have h9 := H8.out
          rw [hA] at h9
          have h9d := h9.drew
          obtain ⟨w10, v10, hrun, h10⟩ := h9d.copy_in (P := Tryz.prog) (t := 37) (t2 := 37) Tryz.underlying37 (by kernel_rfl) (off := 12) (n := 52) (cap := 52) (up1 HM.out) (by have := HO7.out; omega) (by simp [hHl]) 3
          have hB : List.take 12 (partHead ⟨gen, rc, n, of, data⟩ ++ List.replicate 56 0) ++ data ++ List.drop (12 + data.length) (partHead ⟨gen, rc, n, of, data⟩ ++ List.replicate 56 0) = partHead ⟨gen, rc, n, of, data⟩ ++ (List.replicate 4 0 ++ data) := by
            have hl := HO7.out
            have hx : ∀ (a r : Byt), a.length = 8 → r.length = 56 → List.take 12 (a ++ r) ++ data ++ List.drop (12 + data.length) (a ++ r) = a ++ (r.take 4 ++ data) := by
              intro a r ha hr
              rw [List.take_append, ha, List.take_of_length_le (by omega), List.drop_of_length_le (by rw [List.length_append]; omega)]
              simp
            rw [hx _ _ hHl (by simp)]
            rfl
          rw [hB] at h10
          have H9 := hide h9
          have H10 := hide h10
          have HRUN := hide hrun
          clear h9 h9d h10 hrun hA hB H8
          refine wp_region_held_drew (S := fun w' => w'.cell? ⟨g1, 4, none⟩ = some (.slice bd data.length cd)) (by kernel_rfl) ?_ (fun hHeld => ?_)
          · exact H9.out.blk_cell mem1 4
          refine wpAnyH_takeD (i := 0) (some 57) (v := ?v0_9) rfl rfl (by kernel_rfl) (by kernel_rfl) (by kernel_rfl) (fun _ _ _ h => h) (by rfl) ?y0_9 (by assumption) ?r0_9
          case y0_9 => (intro w hSw; (try dsimp only at hSw); first | (go_simp; done) | (go_simp; with_reducible rfl))
          try simp only [Act.put, List.setIfInBounds_toArray, List.set_cons_zero, List.set_cons_succ]
          refine wpAnyH_takeD (i := 1) (some 58) (v := ?v1_10) rfl rfl (by kernel_rfl) (by kernel_rfl) (by kernel_rfl) (fun _ _ _ h => h) (by rfl) ?y1_10 (by assumption) ?r1_10
          case y1_10 => (intro w hSw; (try dsimp only at hSw); first | (go_simp; done) | (go_simp; with_reducible rfl))
          try simp only [Act.put, List.setIfInBounds_toArray, List.set_cons_zero, List.set_cons_succ]
          refine wpAnyH_takeD (i := 2) (some 59) (v := ?v2_11) rfl rfl (by kernel_rfl) (by kernel_rfl) (by kernel_rfl) (fun _ _ _ h => h) (by rfl) ?y2_11 (by assumption) ?r2_11
          case y2_11 => (intro w hSw; (try dsimp only at hSw); first | (go_simp; done) | (go_simp; with_reducible rfl))
          try simp only [Act.put, List.setIfInBounds_toArray, List.set_cons_zero, List.set_cons_succ]
          refine wpAnyH_takeD (i := 3) (some 60) (v := ?v3_12) rfl rfl (by kernel_rfl) (by kernel_rfl) (by kernel_rfl) (fun _ _ _ h => h) (by rfl) ?y3_12 (by assumption) ?r3_12
          case y3_12 => (intro w hSw; (try dsimp only at hSw); first | (go_simp; done) | (go_simp; with_reducible rfl))
          try simp only [Act.put, List.setIfInBounds_toArray, List.set_cons_zero, List.set_cons_succ]
          refine wpAnyH_ready (rs := [4]) (by kernel_rfl) (by simp) ?_
          refine AllReadyH.cons rfl (fun K hK => ?_) ?_
          · refine step_copy_run (some 61) rfl rfl (.tmp 58) (.tmp 60) rfl rfl rfl HRUN.out ?_
            refine hK.out _ _ ?_ (fun hHeld => ?_)
            · exact H10.out.blk_cell mem1 4
            clear hK K
            try simp only [Act.put, List.setIfInBounds_toArray, List.set_cons_zero, List.set_cons_succ]
            refine wpAnyH_done (by kernel_rfl) ?_ _
            go_wp2_with fail
            have hS1 : (partHead ⟨gen, rc, n, of, data⟩ ++ (List.replicate 4 0 ++ data)).take 8 = partHead ⟨gen, rc, n, of, data⟩ := by rw [List.take_append_of_le_length (by omega), List.take_of_length_le (by omega)]
            have hS2 : (partHead ⟨gen, rc, n, of, data⟩ ++ (List.replicate 4 0 ++ data)).drop 12 = data := by rw [List.drop_append, hHl, List.drop_of_length_le (by omega)]; simp
            have hS3 : (partHead ⟨gen, rc, n, of, data⟩ ++ (List.replicate 4 0 ++ data)).length = 64 := by have := HO7.out; simp [hHl, this]
            have HS12 := hide (And.intro hS1 hS2)
            have HS3 := hide hS3
            have HHL := hide hHl
            clear hS1 hS2 hS3 hHl
            refine wp_region_held_drew (S := fun _ => True) (by kernel_rfl) trivial (fun hHeld => ?_)
            refine wpAnyH_takeD (i := 0) (some 62) (v := ?v0_6) rfl rfl (by kernel_rfl) (by kernel_rfl) (by kernel_rfl) (fun _ _ _ h => h) (by rfl) ?y0_6 (by assumption) ?r0_6
            case y0_6 => (intro w hSw; (try dsimp only at hSw); first | (go_simp; done) | (go_simp; with_reducible rfl))
            try simp only [Act.put, List.setIfInBounds_toArray, List.set_cons_zero, List.set_cons_succ]
            refine wpAnyH_takeD (i := 1) (some 63) (v := ?v1_7) rfl rfl (by kernel_rfl) (by kernel_rfl) (by kernel_rfl) (fun _ _ _ h => h) (by rfl) ?y1_7 (by assumption) ?r1_7
            case y1_7 => (intro w hSw; (try dsimp only at hSw); first | (go_simp; done) | (go_simp; with_reducible rfl))
            try simp only [Act.put, List.setIfInBounds_toArray, List.set_cons_zero, List.set_cons_succ]
            refine wpAnyH_takeD (i := 2) (some 64) (v := ?v2_8) rfl rfl (by kernel_rfl) (by kernel_rfl) (by kernel_rfl) (fun _ _ _ h => h) (by rfl) ?y2_8 (by assumption) ?r2_8
            case y2_8 => (intro w hSw; (try dsimp only at hSw); first | (go_simp; done) | (go_simp; with_reducible rfl))
            try simp only [Act.put, List.setIfInBounds_toArray, List.set_cons_zero, List.set_cons_succ]
            refine wpAnyH_ready (rs := [3]) (by kernel_rfl) (by simp) ?_
            refine AllReadyH.cons rfl (fun K hK => ?_) ?_
            · go_simp
              go_at_call 119
              refine (sum_calls H10.out.drew HS3.out).mono ?_
              rintro z w11 ⟨rfl, h11⟩
              rw [HS12.out.1, HS12.out.2]
              have H11 := hide h11
              clear h11 H10
              refine hK.out _ _ ?_ (fun hHeld => ?_)
              · trivial
              clear hK K
              try simp only [Act.put, List.setIfInBounds_toArray, List.set_cons_zero, List.set_cons_succ]
              refine wpAnyH_ready (rs := [4]) (by kernel_rfl) (by simp) ?_
              refine AllReadyH.cons rfl (fun K hK => ?_) ?_
              · go_simp
                go_at_call 97
                refine (lay_calls H11.out 8 4 _ (crcN (partHead ⟨gen, rc, n, of, data⟩ ++ data)) (by rw [List.length_map, HS3.out]; decide) (by decide) (crcN_is _).2).mono ?_
                rintro z w12 ⟨rfl, h12⟩
                rw [layC_B, layB_at HHL.out, List.drop_append_of_le_length (by simp), List.drop_replicate] at h12
                have H12 := hide h12
                clear h12 H11
                refine hK.out _ _ ?_ (fun hHeld => ?_)
                · trivial
                clear hK K
                try simp only [Act.put, List.setIfInBounds_toArray, List.set_cons_zero, List.set_cons_succ]
                refine wpAnyH_done (by kernel_rfl) ?_ _
                go_wp2_with fail
                go_ret2
                exact ⟨g4, rfl, H12.out.d1⟩
              exact AllReadyH.nil
            exact AllReadyH.nil
          exact AllReadyH.nil
        exact AllReadyH.nil
      exact AllReadyH.nil
    exact AllReadyH.nil
  exact AllReadyH.nil
end Go.Proofs.YtcgnkloljfgiaaaGreatDoor
