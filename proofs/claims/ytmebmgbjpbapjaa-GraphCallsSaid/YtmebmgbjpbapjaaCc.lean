/-
  deadboltref7: among, functions, Count, body. deadboltref7: Check; names of deadboltlaw6's programs.
-/
import Derived.Test.YtmebmgbjpbapjaaSs
import Derived.Test.YtmebmgbjpbapjaaQq
import Derived.Test.YtmebmgbjpbapjaaGh
import Derived.Test.YtmebmgbjpbapjaaP9
namespace Go.Proofs.Ytmebmgbjpbapjaa
open Go.RowKit Go.Maps Go.MapKept
variable {b : Env} {L : List HP} {w : World}

theorem St.decl_at {g o n cap k : Nat} {l : List DRec} (h : St b L w) (hm : HP.sl declE (.slice (some ⟨g, o, none⟩) n cap) l ∈ L) (hk : k < l.length) :
    w.cell? ⟨g, o + k * 2, none⟩ = some (.string ⟨l[k].name.toArray⟩) ∧ w.cell? ⟨g, o + k * 2 + 1, none⟩ = some (.int .i64 l[k].pos) ∧ okStr l[k].name := by
  obtain ⟨cs, h1⟩ := h.elem hm (List.getElem?_eq_getElem hk) (by decide)
  obtain ⟨_, _, _, hr⟩ := h1.elem_rd mem0
  have hcs : cs = [sv l[k].name, .int .i64 l[k].pos] ∧ okStr l[k].name := hr
  obtain ⟨rfl, h2⟩ := hcs
  exact ⟨h1.elem_cell mem0 0 rfl, h1.elem_cell mem0 1 rfl, h2⟩
theorem nm_take_succ {l : List DRec} {s : Str} {k : Nat} (h : k < l.length) (hn : s ∉ (l.take k).map (·.name)) (he : (l[k].name == s) = false) : s ∉ (l.take (k + 1)).map (·.name) := by
  rw [List.take_succ_eq_append_getElem h, List.map_append, List.mem_append]
  rintro (h1 | h1)
  · exact hn h1
  · simp at h1; subst h1; simp at he
def AmAt (l : List DRec) (s : Str) (w : World) (i : Value) (wr : World) : Prop := ∃ k : Nat, k ≤ l.length ∧ i = .int .i64 k ∧ w = wr ∧ s ∉ (l.take k).map (·.name)
theorem among_calls (h : St b L w) {v : Value} {l : List DRec} (hm : HP.sl declE v l ∈ L) (s : Str) : Calls Try.prog 54 #[v, sv s] w fun x w' => x = .returned (.bool (decide (s ∈ l.map (·.name)))) ∧ w = w' := by
  obtain ⟨base, cap, rfl, hc1, hc2⟩ := h.sl_form hm
  have hm2 : (l.length : Int) ≤ 9223372036854775807 := by unfold maxLen at hc2; omega
  have H := hide h
  have HM := hide hm
  clear h hm hc1 hc2
  go_enter Try.func54, Try.ntmps54
  go_wp2_with fail
  go_loopw [5] (fun i wr => AmAt l s w i wr) (fun i _ => l.length - (intOf i).toNat)
  case atStart => exact ⟨0, by omega, rfl, rfl, by simp⟩
  case round =>
    obtain ⟨k, hk, rfl, rfl, hn⟩ := hrel
    have HN := hide hn
    clear hn
    by_cases hlt : k < l.length
    · obtain ⟨g, o, rfl⟩ := H.out.sl_base HM.out (by omega) (by decide)
      have hc := (H.out.decl_at HM.out hlt).1
      go_wp2_with fail
      · have he : (l[k].name == s) = true := by assumption
        have hmem : s ∈ l.map (·.name) := List.mem_map.2 ⟨l[k], List.getElem_mem hlt, eq_of_beq he⟩
        go_ret
        exact ⟨by rw [decide_eq_true hmem]; rfl, rfl⟩
      · have he : (l[k].name == s) = false := by assumption
        go_roundw
        case rel => exact ⟨k + 1, by omega, by go_num, rfl, nm_take_succ hlt HN.out he⟩
        case measure => simp [intOf]; omega
    · have hnm := HN.out
      rw [List.take_of_length_le (by omega)] at hnm
      have HNM := hide hnm
      clear hnm
      go_wp2_with fail
      go_ret
      exact ⟨by rw [decide_eq_false HNM.out]; rfl, rfl⟩

def declOf (x : FRec) : DRec := ⟨x.name, x.pos⟩
def FnAt (b : Env) (L : List HP) (F : List FRec) (B1 : HP) (v i : Value) (wr : World) : Prop := ∃ k : Nat, k ≤ F.length ∧ i = .int .i64 k ∧ ∃ base cap, v = .slice base k cap ∧ St b (HP.rows 77 declE v ((F.take k).map declOf) :: B1 :: L) wr
set_option linter.unusedSimpArgs false in
set_option maxRecDepth 100000 in
set_option maxHeartbeats 4000000 in
theorem functions_calls (h : St b L w) {vv vl vf : Value} {F : List FRec} (hm : HP.sl funcE vf F ∈ L) (hl : F.length ≤ 1000) :
    Calls Try.prog 53 #[.agg #[vv, vl, vf]] w fun x w' => ∃ v, x = .returned v ∧ St b (HP.sl declE v (F.map declOf) :: L) w' := by
  obtain ⟨bf, cf, rfl, hc1, hc2⟩ := h.sl_form hm
  have hFi : (F.length : Int) ≤ 9223372036854775807 := by omega
  have H := hide h
  have HM := hide hm
  clear h hm hc1 hc2
  go_enter Try.func53, Try.ntmps53
  go_wp2_with (first
    | ((with_reducible refine wpList_box_st (cs := [vv, vl, .slice bf F.length cf]) rfl (.tmp 0) rfl rfl H.out ?_); intro g1 w1 h1; have H1 := hide (h1.rows_nil 77 declE); clear h1 H))
  go_loopw [3, 4] (fun v i wr => FnAt b L F (HP.blk g1 (.cells [vv, vl, .slice bf F.length cf].toArray 43)) v i wr) (fun _ i _ => F.length - (intOf i).toNat)
  case atStart => exact ⟨0, by omega, rfl, none, 0, rfl, H1.out⟩
  case round =>
    obtain ⟨k, hk, rfl, b3, c3, rfl, hs⟩ := hrel
    have H3 := hide hs
    have n1 : wr.cell? ⟨g1, 2, none⟩ = some (.slice bf F.length cf) := hs.blk_cell mem1 2
    clear hs H1
    by_cases hlt : k < F.length
    · have hlt' : (k : Int) < F.length := by omega
      obtain ⟨g, o, rfl⟩ := H3.out.sl_base (up2 HM.out) (by omega) (by decide)
      obtain ⟨cs, h4⟩ := H3.out.elem (up2 HM.out) (List.getElem?_eq_getElem hlt) (by decide)
      obtain ⟨x, hx⟩ : ∃ x, F[k] = x := ⟨_, rfl⟩
      rw [hx] at h4
      obtain ⟨vx, hok, rfl, h5⟩ := h4.func
      have HTK : Hid ((F.take (k + 1)).map declOf = (F.take k).map declOf ++ [declOf x]) := hide (by rw [List.take_succ_eq_append_getElem hlt, hx, List.map_append]; rfl)
      have hdl : ((F.take k).map declOf).length = k := by rw [List.length_map, List.length_take]; omega
      have q1 : ((F.take k).map declOf).length + [declOf x].length ≤ maxLen := by rw [hdl]; unfold maxLen; simp; omega
      have q2 : (((F.take k).map declOf).length + [declOf x].length) * 24 ≤ 140737488355328 := by rw [hdl]; simp; omega
      have HDL := hide hdl
      have h6 := h5.f1.d1
      have HA : Hid (St b _ (wr.alloc (.cells #[.string ⟨x.name.toArray⟩, .int .i64 x.pos] 77)).drew) := hide (((h6.alloc (.cells #[.string ⟨x.name.toArray⟩, .int .i64 x.pos] 77)).rows1 (E := declE) (cs := [.string ⟨x.name.toArray⟩, .int .i64 x.pos]) (declOf x) (fun _ _ _ => ⟨rfl, hok⟩)).drew.f2)
      have HK0 : Hid (wr.cell? ⟨g1, 2, none⟩ = some (.slice (some ⟨g, o, none⟩) F.length cf) ∧ wr.cell? ⟨g, o + k * 3, none⟩ = some (.string ⟨x.name.toArray⟩) ∧ wr.cell? ⟨g, o + k * 3 + 1, none⟩ = some (.int .i64 x.pos)) := hide ⟨n1, h6.elem_cell mem0 0 rfl, h6.elem_cell mem0 1 rfl⟩
      clear h4 h5 h6 hok hx H3 hdl
      go_wp2_with fail
      refine wp_region_held_drew (S := fun w' => w'.cell? ⟨g1, 2, none⟩ = some (.slice (some ⟨g, o, none⟩) F.length cf) ∧ w'.cell? ⟨g, o + k * 3, none⟩ = some (.string ⟨x.name.toArray⟩) ∧ w'.cell? ⟨g, o + k * 3 + 1, none⟩ = some (.int .i64 x.pos)) (by kernel_rfl) ?_ (fun hHeld => ?_)
      · exact HK0.out
      refine wpAnyH_takeD (i := 0) (some 12) (v := ?v0_1) rfl rfl (by kernel_rfl) (by kernel_rfl) (by kernel_rfl) (fun _ _ _ h => h) (by rfl) ?y0_1 (by assumption) ?r0_1
      case y0_1 => (intro w hSw; (try dsimp only at hSw); first | (go_simp; done) | (go_simp; with_reducible rfl))
      try simp only [Act.put, List.setIfInBounds_toArray, List.set_cons_zero, List.set_cons_succ]
      refine wpAnyH_takeD (i := 1) (some 13) (v := ?v1_2) rfl rfl (by kernel_rfl) (by kernel_rfl) (by kernel_rfl) (fun _ _ _ h => h) (by rfl) ?y1_2 (by assumption) ?r1_2
      case y1_2 => (intro w hSw; (try dsimp only at hSw); first | (go_simp; done) | (go_simp; with_reducible rfl))
      try simp only [Act.put, List.setIfInBounds_toArray, List.set_cons_zero, List.set_cons_succ]
      refine wpAnyH_takeD (i := 2) (some 14) (v := ?v2_3) rfl rfl (by kernel_rfl) (by kernel_rfl) (by kernel_rfl) (fun _ _ _ h => h) (by rfl) ?y2_3 (by assumption) ?r2_3
      case y2_3 => (intro w hSw; (try dsimp only at hSw); first | (go_simp; done) | (go_simp; with_reducible rfl))
      try simp only [Act.put, List.setIfInBounds_toArray, List.set_cons_zero, List.set_cons_succ]
      refine wpAnyH_takeD (i := 3) (some 15) (v := ?v3_4) rfl rfl (by kernel_rfl) (by kernel_rfl) (by kernel_rfl) (fun _ _ _ h => h) (by rfl) ?y3_4 (by assumption) ?r3_4
      case y3_4 => (intro w hSw; (try dsimp only at hSw); first | (go_simp; done) | (go_simp; with_reducible rfl))
      try simp only [Act.put, List.setIfInBounds_toArray, List.set_cons_zero, List.set_cons_succ]
      refine wpAnyH_takeD (i := 4) (some 16) (v := ?v4_5) rfl rfl (by kernel_rfl) (by kernel_rfl) (by kernel_rfl) (fun _ _ _ h => h) (by rfl) ?y4_5 (by assumption) ?r4_5
      case y4_5 => (intro w hSw; (try dsimp only at hSw); first | (go_simp; done) | (go_simp; with_reducible rfl))
      try simp only [Act.put, List.setIfInBounds_toArray, List.set_cons_zero, List.set_cons_succ]
      refine wpAnyH_takeD (i := 5) (some 17) (v := ?v5_6) rfl rfl (by kernel_rfl) (by kernel_rfl) (by kernel_rfl) (fun _ _ _ h => h) (by rfl) ?y5_6 (by assumption) ?r5_6
      case y5_6 => (intro w hSw; (try dsimp only at hSw); first | (go_simp; done) | (go_simp; with_reducible rfl))
      try simp only [Act.put, List.setIfInBounds_toArray, List.set_cons_zero, List.set_cons_succ]
      refine wpAnyH_takeD (i := 6) (some 18) (v := ?v6_7) rfl rfl (by kernel_rfl) (by kernel_rfl) (by kernel_rfl) (fun _ _ _ h => h) (by rfl) ?y6_7 (by assumption) ?r6_7
      case y6_7 => (intro w hSw; (try dsimp only at hSw); first | (go_simp; done) | (go_simp; with_reducible rfl))
      try simp only [Act.put, List.setIfInBounds_toArray, List.set_cons_zero, List.set_cons_succ]
      refine wpAnyH_takeD (i := 7) (some 19) (v := ?v7_8) rfl rfl (by kernel_rfl) (by kernel_rfl) (by kernel_rfl) (fun _ _ _ h => h) (by rfl) ?y7_8 (by assumption) ?r7_8
      case y7_8 => (intro w hSw; (try dsimp only at hSw); first | (go_simp; done) | (go_simp; with_reducible rfl))
      try simp only [Act.put, List.setIfInBounds_toArray, List.set_cons_zero, List.set_cons_succ]
      refine wpAnyH_takeD (i := 8) (some 20) (v := ?v8_9) rfl rfl (by kernel_rfl) (by kernel_rfl) (by kernel_rfl) (fun _ _ _ h => h) (by rfl) ?y8_9 (by assumption) ?r8_9
      case y8_9 => (intro w hSw; (try dsimp only at hSw); first | (go_simp; done) | (go_simp; with_reducible rfl))
      try simp only [Act.put, List.setIfInBounds_toArray, List.set_cons_zero, List.set_cons_succ]
      refine wpAnyH_takeD (i := 9) (some 21) (v := ?v9_10) rfl rfl (by kernel_rfl) (by kernel_rfl) (by kernel_rfl) (fun _ _ _ h => h) (by rfl) ?y9_10 (by assumption) ?r9_10
      case y9_10 => (intro w hSw; (try dsimp only at hSw); first | (go_simp; done) | (go_simp; with_reducible rfl))
      try simp only [Act.put, List.setIfInBounds_toArray, List.set_cons_zero, List.set_cons_succ]
      refine wpAnyH_takeD (i := 10) (some 22) (v := ?v10_11) rfl rfl (by kernel_rfl) (by kernel_rfl) (by kernel_rfl) (fun _ _ _ h => h) (by rfl) ?y10_11 (by assumption) ?r10_11
      case y10_11 => (intro w hSw; (try dsimp only at hSw); first | (go_simp; done) | (go_simp; with_reducible rfl))
      try simp only [Act.put, List.setIfInBounds_toArray, List.set_cons_zero, List.set_cons_succ]
      refine wpAnyH_takeD (i := 11) (some 23) (v := ?v11_12) rfl rfl (by kernel_rfl) (by kernel_rfl) (by kernel_rfl) (fun _ _ _ h => h) (by rfl) ?y11_12 (by assumption) ?r11_12
      case y11_12 => (intro w hSw; (try dsimp only at hSw); first | (go_simp; done) | (go_simp; with_reducible rfl))
      try simp only [Act.put, List.setIfInBounds_toArray, List.set_cons_zero, List.set_cons_succ]
      refine wpAnyH_takeD (i := 12) (some 24) (v := ?v12_13) rfl rfl (by kernel_rfl) (by kernel_rfl) (by kernel_rfl) (fun _ _ _ h => h) (by rfl) ?y12_13 (by assumption) ?r12_13
      case y12_13 => (intro w hSw; (try dsimp only at hSw); first | (go_simp; done) | (go_simp; with_reducible rfl))
      try simp only [Act.put, List.setIfInBounds_toArray, List.set_cons_zero, List.set_cons_succ]
      refine wpAnyH_takeD (i := 13) (some 25) (v := ?v13_14) rfl rfl (by kernel_rfl) (by kernel_rfl) (by kernel_rfl) (fun _ _ _ h => h) (by rfl) ?y13_14 (by assumption) ?r13_14
      case y13_14 => (intro w hSw; (try dsimp only at hSw); first | (go_simp; done) | (go_simp; with_reducible rfl))
      try simp only [Act.put, List.setIfInBounds_toArray, List.set_cons_zero, List.set_cons_succ]
      refine wpAnyH_ready (rs := [14]) (by kernel_rfl) (by simp) ?_
      refine AllReadyH.cons rfl (fun K hK => ?_) ?_
      · go_simp
        refine hK.out _ _ ?_ (fun hHeld => ?_)
        · exact ⟨HA.out.blk_cell mem3 2, HA.out.elem_cell mem2 0 rfl, HA.out.elem_cell mem2 1 rfl⟩
        clear hK K
        try simp only [Act.put, List.setIfInBounds_toArray, List.set_cons_zero, List.set_cons_succ]
        refine wpAnyH_ready (rs := [15]) (by kernel_rfl) (by simp) ?_
        refine AllReadyH.cons rfl (fun K hK => ?_) ?_
        · refine step_append_st (E := declE) rfl (.tmp 12) (.tmp 26) slDecl rfl HA.out (Src.of_rows mem1) rfl rfl q1 q2 ?_
          intro vb7 n7 vc7 w7 hn7 h7
          have H7 := hide h7
          have HN7 := hide hn7
          clear h7 HA hn7
          refine hK.out _ _ ?_ (fun hHeld => ?_)
          · exact ⟨H7.out.blk_cell mem3 2, H7.out.elem_cell mem2 0 rfl, H7.out.elem_cell mem2 1 rfl⟩
          clear hK K
          try simp only [Act.put, List.setIfInBounds_toArray, List.set_cons_zero, List.set_cons_succ]
          refine wpAnyH_takeD (i := 16) (some 3) (v := ?v16_15) rfl rfl (by kernel_rfl) (by kernel_rfl) (by kernel_rfl) (fun _ _ _ h => h) (by rfl) ?y16_15 (by assumption) ?r16_15
          case y16_15 => (intro w hSw; (try dsimp only at hSw); first | (go_simp; done) | (go_simp; with_reducible rfl))
          try simp only [Act.put, List.setIfInBounds_toArray, List.set_cons_zero, List.set_cons_succ]
          refine wpAnyH_done (by kernel_rfl) ?_ _
          have hn7 := HN7.out
          rw [HDL.out] at hn7
          have hn8 : n7 = k + 1 := hn7
          subst hn8
          go_wp2_with fail
          go_roundw
          case rel => exact ⟨k + 1, by omega, by go_num, vb7, vc7, rfl, by rw [HTK.out]; exact H7.out.d1.d1⟩
          case measure => exact meas_step hlt
        exact AllReadyH.nil
      exact AllReadyH.nil
    · have hke : F.take k = F := List.take_of_length_le (by omega)
      rw [hke] at H3
      have hnlt : ¬ (k : Int) < F.length := by omega
      have H4 := hide H3.out.persist.d1
      clear H3
      go_wp2_with fail
      go_ret
      exact ⟨_, rfl, H4.out⟩

def szL (l : List SRec) : Nat := (l.map fun s => 1 + s.A.size + s.B.size).sum
theorem size_szL : ∀ l : Stms, l.size = szL l.toL
  | .nil => rfl
  | .cons k p n A B r => by
    simp only [Stms.size, Stms.toL, szL, List.map_cons, List.sum_cons]
    rw [size_szL r]; rfl
theorem Stms.len_size : ∀ l : Stms, l.toL.length ≤ l.size
  | .nil => Nat.le_refl _
  | .cons k p n A B r => by have := Stms.len_size r; simp only [Stms.toL, Stms.size, List.length_cons]; omega
theorem szL_append (l m : List SRec) : szL (l ++ m) = szL l + szL m := by simp [szL]
theorem szL_succ {l : List SRec} {k : Nat} (hk : k < l.length) {x : SRec} (hx : l[k] = x) : szL (l.take (k + 1)) = szL (l.take k) + 1 + x.A.size + x.B.size := by
  rw [List.take_succ_eq_append_getElem hk, hx, szL_append]; simp [szL]; omega
theorem szL_take (l : List SRec) (k : Nat) : szL (l.take k) ≤ szL l := by
  have := szL_append (l.take k) (l.drop k)
  rw [List.take_append_drop] at this; omega
def CntAt (b : Env) (L : List HP) (l : List SRec) (n i : Value) (wr : World) : Prop := ∃ k : Nat, k ≤ l.length ∧ i = .int .i64 k ∧ n = .int .i64 (szL (l.take k) : Nat) ∧ St b L wr
def CountP (l : Stms) : Prop := ∀ (b : Env) (L : List HP) (w : World) (v : Value), St b L w → HP.sl stmtE v l.toL ∈ L → l.size ≤ 10000 → Calls Try.prog 52 #[v] w fun x w' => x = .returned (.int .i64 (l.size : Nat)) ∧ St b L w'
set_option linter.unusedSimpArgs false in
set_option maxRecDepth 100000 in
set_option maxHeartbeats 4000000 in
theorem count_calls (l : Stms) : CountP l := by
  suffices hall : ∀ n (l : Stms), l.size = n → CountP l from hall _ l rfl
  intro n
  induction n using Nat.strongRecOn with
  | _ n ih =>
    intro l hl b L w v h hm hsz
    obtain ⟨base, cap, rfl, hc1, hc2⟩ := h.sl_form hm
    have hm2 : (l.toL.length : Int) ≤ 9223372036854775807 := by unfold maxLen at hc2; omega
    have H := hide h
    have HM := hide hm
    have IH := hide ih
    have HL := hide hl
    have HSZ := hide hsz
    clear h hm hc1 hc2 ih hl hsz
    go_enter Try.func52, Try.ntmps52
    go_wp2_with fail
    go_loopw [3, 4] (fun n i wr => CntAt b L l.toL n i wr) (fun _ i _ => l.toL.length - (intOf i).toNat)
    case atStart => exact ⟨0, by omega, rfl, rfl, H.out⟩
    case round =>
      obtain ⟨k, hk, rfl, rfl, hs⟩ := hrel
      have H1 := hide hs
      clear hs H
      by_cases hlt : k < l.toL.length
      · have hlt' : (k : Int) < l.toL.length := by omega
        obtain ⟨g, o, rfl⟩ := H1.out.sl_base HM.out (by omega) (by decide)
        obtain ⟨cs, h2⟩ := H1.out.elem HM.out (List.getElem?_eq_getElem hlt) (by decide)
        have hsm := Stms.size_mem (List.getElem_mem hlt)
        obtain ⟨x, hx⟩ : ∃ x, l.toL[k] = x := ⟨_, rfl⟩
        have hsu := szL_succ hlt hx
        have hst := szL_take l.toL (k + 1)
        rw [← size_szL] at hst
        rw [hx] at h2 hsm
        obtain ⟨va, vb, hok, rfl, h3⟩ := h2.stmt
        have hszz := HSZ.out
        have IHA : Hid (CountP x.A) := hide (IH.out x.A.size (by rw [← HL.out]; exact hsm.1) x.A rfl)
        have IHB : Hid (CountP x.B) := hide (IH.out x.B.size (by rw [← HL.out]; exact hsm.2) x.B rfl)
        have HSU := hide hsu
        generalize szL (l.toL.take k) = m at hsu HSU ⊢
        have hb : m + 1 + x.A.size + x.B.size ≤ 10000 := by omega
        have SA : Hid (x.A.size ≤ 10000) := hide (by omega)
        have SB : Hid (x.B.size ≤ 10000) := hide (by omega)
        generalize hza : x.A.size = za at hb HSU
        generalize hzb : x.B.size = zb at hb HSU
        have HZA := hide hza
        have HZB := hide hzb
        have wq1 : IntKind.i64.wrap ((m : Int) + 1) = (m : Int) + 1 := wrap_small (by omega) (by omega)
        have wq2 : IntKind.i64.wrap ((m : Int) + 1 + (za : Int)) = (m : Int) + 1 + (za : Int) := wrap_small (by omega) (by omega)
        have wq3 : IntKind.i64.wrap ((m : Int) + 1 + (za : Int) + (zb : Int)) = (m : Int) + 1 + (za : Int) + (zb : Int) := wrap_small (by omega) (by omega)
        have H3 := hide h3
        have HK0 : Hid (wr.cell? ⟨g, o + k * 5 + 3, none⟩ = some va ∧ wr.cell? ⟨g, o + k * 5 + 4, none⟩ = some vb) := hide ⟨h3.elem_cell mem2 3 rfl, h3.elem_cell mem2 4 rfl⟩
        clear h2 h3 hsm hsu hst hx hok hszz hza hzb H1
        go_wp2_with fail
        refine wp_region_held_drew (S := fun w' => w'.cell? ⟨g, o + k * 5 + 3, none⟩ = some va ∧ w'.cell? ⟨g, o + k * 5 + 4, none⟩ = some vb) (by kernel_rfl) ?_ (fun hHeld => ?_)
        · exact HK0.out
        refine wpAnyH_takeD (i := 0) (some 11) (v := ?v0_16) rfl rfl (by kernel_rfl) (by kernel_rfl) (by kernel_rfl) (fun _ _ _ h => h) (by rfl) ?y0_16 (by assumption) ?r0_16
        case y0_16 => (intro w hSw; (try dsimp only at hSw); first | (go_simp; done) | (go_simp; with_reducible rfl))
        try simp only [Act.put, List.setIfInBounds_toArray, List.set_cons_zero, List.set_cons_succ]
        refine wpAnyH_takeD (i := 1) (some 12) (v := ?v1_17) rfl rfl (by kernel_rfl) (by kernel_rfl) (by kernel_rfl) (fun _ _ _ h => h) (by rfl) ?y1_17 (by assumption) ?r1_17
        case y1_17 => (intro w hSw; (try dsimp only at hSw); first | (go_simp; done) | (go_simp; with_reducible rfl))
        try simp only [Act.put, List.setIfInBounds_toArray, List.set_cons_zero, List.set_cons_succ]
        refine wpAnyH_takeD (i := 2) (some 13) (v := ?v2_18) rfl rfl (by kernel_rfl) (by kernel_rfl) (by kernel_rfl) (fun _ _ _ h => h) (by rfl) ?y2_18 (by assumption) ?r2_18
        case y2_18 => (intro w hSw; (try dsimp only at hSw); first | (go_simp; done) | (go_simp; with_reducible rfl))
        try simp only [Act.put, List.setIfInBounds_toArray, List.set_cons_zero, List.set_cons_succ]
        refine wpAnyH_takeD (i := 3) (some 14) (v := ?v3_19) rfl rfl (by kernel_rfl) (by kernel_rfl) (by kernel_rfl) (fun _ _ _ h => h) (by rfl) ?y3_19 (by assumption) ?r3_19
        case y3_19 => (intro w hSw; (try dsimp only at hSw); first | (go_simp; done) | (go_simp; with_reducible rfl))
        try simp only [Act.put, List.setIfInBounds_toArray, List.set_cons_zero, List.set_cons_succ]
        refine wpAnyH_takeD (i := 4) (some 15) (v := ?v4_20) rfl rfl (by kernel_rfl) (by kernel_rfl) (by kernel_rfl) (fun _ _ _ h => h) (by rfl) ?y4_20 (by assumption) ?r4_20
        case y4_20 => (intro w hSw; (try dsimp only at hSw); first | (go_simp; done) | (go_simp; with_reducible rfl))
        try simp only [Act.put, List.setIfInBounds_toArray, List.set_cons_zero, List.set_cons_succ]
        refine wpAnyH_takeD (i := 5) (some 16) (v := ?v5_21) rfl rfl (by kernel_rfl) (by kernel_rfl) (by kernel_rfl) (fun _ _ _ h => h) (by rfl) ?y5_21 (by assumption) ?r5_21
        case y5_21 => (intro w hSw; (try dsimp only at hSw); first | (go_simp; done) | (go_simp; with_reducible rfl))
        try simp only [Act.put, List.setIfInBounds_toArray, List.set_cons_zero, List.set_cons_succ]
        refine wpAnyH_takeD (i := 6) (some 17) (v := ?v6_22) rfl rfl (by kernel_rfl) (by kernel_rfl) (by kernel_rfl) (fun _ _ _ h => h) (by rfl) ?y6_22 (by assumption) ?r6_22
        case y6_22 => (intro w hSw; (try dsimp only at hSw); first | (go_simp; done) | (go_simp; with_reducible rfl))
        try simp only [Act.put, List.setIfInBounds_toArray, List.set_cons_zero, List.set_cons_succ]
        refine wpAnyH_takeD (i := 9) (some 20) (v := ?v9_23) rfl rfl (by kernel_rfl) (by kernel_rfl) (by kernel_rfl) (fun _ _ _ h => h) (by rfl) ?y9_23 (by assumption) ?r9_23
        case y9_23 => (intro w hSw; (try dsimp only at hSw); first | (go_simp; done) | (go_simp; with_reducible rfl))
        try simp only [Act.put, List.setIfInBounds_toArray, List.set_cons_zero, List.set_cons_succ]
        refine wpAnyH_takeD (i := 10) (some 21) (v := ?v10_24) rfl rfl (by kernel_rfl) (by kernel_rfl) (by kernel_rfl) (fun _ _ _ h => h) (by rfl) ?y10_24 (by assumption) ?r10_24
        case y10_24 => (intro w hSw; (try dsimp only at hSw); first | (go_simp; done) | (go_simp; with_reducible rfl))
        try simp only [Act.put, List.setIfInBounds_toArray, List.set_cons_zero, List.set_cons_succ]
        refine wpAnyH_takeD (i := 11) (some 22) (v := ?v11_25) rfl rfl (by kernel_rfl) (by kernel_rfl) (by kernel_rfl) (fun _ _ _ h => h) (by rfl) ?y11_25 (by assumption) ?r11_25
        case y11_25 => (intro w hSw; (try dsimp only at hSw); first | (go_simp; done) | (go_simp; with_reducible rfl))
        try simp only [Act.put, List.setIfInBounds_toArray, List.set_cons_zero, List.set_cons_succ]
        refine wpAnyH_takeD (i := 12) (some 23) (v := ?v12_26) rfl rfl (by kernel_rfl) (by kernel_rfl) (by kernel_rfl) (fun _ _ _ h => h) (by rfl) ?y12_26 (by assumption) ?r12_26
        case y12_26 => (intro w hSw; (try dsimp only at hSw); first | (go_simp; done) | (go_simp; with_reducible rfl))
        try simp only [Act.put, List.setIfInBounds_toArray, List.set_cons_zero, List.set_cons_succ]
        refine wpAnyH_takeD (i := 13) (some 24) (v := ?v13_27) rfl rfl (by kernel_rfl) (by kernel_rfl) (by kernel_rfl) (fun _ _ _ h => h) (by rfl) ?y13_27 (by assumption) ?r13_27
        case y13_27 => (intro w hSw; (try dsimp only at hSw); first | (go_simp; done) | (go_simp; with_reducible rfl))
        try simp only [Act.put, List.setIfInBounds_toArray, List.set_cons_zero, List.set_cons_succ]
        refine wpAnyH_ready (rs := [7]) (by kernel_rfl) (by simp) ?_
        refine AllReadyH.cons rfl (fun K hK => ?_) ?_
        · go_simp
          go_at_call 52
          refine (IHA.out b _ _ _ H3.out.drew mem0 SA.out).mono ?_
          rintro z w4 ⟨rfl, h4⟩
          rw [HZA.out]
          have H4 := hide h4
          clear h4 H3
          refine hK.out _ _ ?_ (fun hHeld => ?_)
          · exact ⟨H4.out.elem_cell mem2 3 rfl, H4.out.elem_cell mem2 4 rfl⟩
          clear hK K
          try simp only [Act.put, List.setIfInBounds_toArray, List.set_cons_zero, List.set_cons_succ]
          refine wpAnyH_takeD (i := 8) (some 19) (v := ?v8_28) rfl rfl (by kernel_rfl) (by kernel_rfl) (by kernel_rfl) (fun _ _ _ h => h) (by rfl) ?y8_28 (by assumption) ?r8_28
          case y8_28 => (intro w hSw; (try dsimp only at hSw); first | (go_simp; done) | (go_simp; with_reducible rfl))
          try simp only [Act.put, List.setIfInBounds_toArray, List.set_cons_zero, List.set_cons_succ]
          refine wpAnyH_ready (rs := [14]) (by kernel_rfl) (by simp) ?_
          refine AllReadyH.cons rfl (fun K hK => ?_) ?_
          · go_simp
            go_at_call 52
            refine (IHB.out b _ _ _ H4.out mem1 SB.out).mono ?_
            rintro z w4 ⟨rfl, h4⟩
            rw [HZB.out]
            have H5 := hide h4
            clear h4 H4
            refine hK.out _ _ ?_ (fun hHeld => ?_)
            · exact ⟨H5.out.elem_cell mem2 3 rfl, H5.out.elem_cell mem2 4 rfl⟩
            clear hK K
            try simp only [Act.put, List.setIfInBounds_toArray, List.set_cons_zero, List.set_cons_succ]
            refine wpAnyH_takeD (i := 15) (some 26) (v := ?v15_29) rfl rfl (by kernel_rfl) (by kernel_rfl) (by kernel_rfl) (fun _ _ _ h => h) (by rfl) ?y15_29 (by assumption) ?r15_29
            case y15_29 => (intro w hSw; (try dsimp only at hSw); first | (go_simp; done) | (go_simp; with_reducible rfl))
            try simp only [Act.put, List.setIfInBounds_toArray, List.set_cons_zero, List.set_cons_succ]
            refine wpAnyH_takeD (i := 16) (some 3) (v := ?v16_30) rfl rfl (by kernel_rfl) (by kernel_rfl) (by kernel_rfl) (fun _ _ _ h => h) (by rfl) ?y16_30 (by assumption) ?r16_30
            case y16_30 => (intro w hSw; (try dsimp only at hSw); first | (go_simp; done) | (go_simp; with_reducible rfl))
            try simp only [Act.put, List.setIfInBounds_toArray, List.set_cons_zero, List.set_cons_succ]
            refine wpAnyH_done (by kernel_rfl) ?_ _
            go_wp2_with fail
            go_roundw
            case rel => exact ⟨k + 1, by omega, by go_num, by rw [HSU.out]; simp, H5.out.drop.drop.drop⟩
            case measure => exact meas_step hlt
          exact AllReadyH.nil
        exact AllReadyH.nil
      · have hke : l.toL.take k = l.toL := List.take_of_length_le (by omega)
        rw [hke, ← size_szL]
        have hnlt : ¬ (k : Int) < l.toL.length := by omega
        go_wp2_with fail
        go_ret
        exact ⟨rfl, H1.out⟩

/-- All names in it are names of their kind. -/
def goodN (V Lk N : List Str) (k : Int) (n : Str) : Prop := (k = 1 ∨ k = 2 → n ∈ V) ∧ (k = 3 ∨ k = 4 → n ∈ Lk) ∧ (k = 5 ∨ k = 6 → n ∈ N)
def goodS (V Lk N : List Str) : Stms → Prop
  | .nil => True
  | .cons k _ n A B r => goodN V Lk N k n ∧ goodS V Lk N A ∧ goodS V Lk N B ∧ goodS V Lk N r
theorem goodS_mem {V Lk N : List Str} : ∀ {l : Stms}, goodS V Lk N l → ∀ s ∈ l.toL, goodN V Lk N s.kind s.name ∧ goodS V Lk N s.A ∧ goodS V Lk N s.B
  | .nil, _, s, h => by simp [Stms.toL] at h
  | .cons k p n A B r, ⟨h1, h2, h3, h4⟩, s, h => by
    rcases List.mem_cons.1 h with rfl | h
    · exact ⟨h1, h2, h3⟩
    · exact goodS_mem h4 s h
theorem goodS_ofL {V Lk N : List Str} : ∀ {l : List SRec}, (∀ s ∈ l, goodN V Lk N s.kind s.name ∧ goodS V Lk N s.A ∧ goodS V Lk N s.B) → goodS V Lk N (Stms.ofL l)
  | [], _ => trivial
  | s :: l, h => by
    obtain ⟨h1, h2, h3⟩ := h s (by simp)
    exact ⟨h1, h2, h3, goodS_ofL (fun t ht => h t (by simp [ht]))⟩
def appS (A B : Stms) : Stms := Stms.ofL (A.toL ++ B.toL)
theorem appS_toL (A B : Stms) : (appS A B).toL = A.toL ++ B.toL := Stms.toL_ofL _
theorem appS_size (A B : Stms) : (appS A B).size = A.size + B.size := by rw [size_szL, appS_toL, szL_append, ← size_szL, ← size_szL]
theorem appS_good {V Lk N : List Str} {A B : Stms} (hA : goodS V Lk N A) (hB : goodS V Lk N B) : goodS V Lk N (appS A B) :=
  goodS_ofL (fun s hs => (List.mem_append.1 hs).elim (goodS_mem hA s) (goodS_mem hB s))
def BodyP (V Lk : List DRec) (F : List FRec) (l : Stms) : Prop := ∀ (b : Env) (L : List HP) (w : World) (vv vl vf v : Value), St b L w → HP.sl declE vv V ∈ L → HP.sl declE vl Lk ∈ L → HP.sl funcE vf F ∈ L → HP.sl stmtE v l.toL ∈ L → l.size ≤ 10000 → goodS (V.map (·.name)) (Lk.map (·.name)) (F.map (·.name)) l →
  Calls Try.prog 55 #[.agg #[vv, vl, vf], v] w fun x w' => x = .returned (.tuple #[.int .i64 0, .int .i64 0]) ∧ St b L w'
def BodAt (b : Env) (L : List HP) (l : List SRec) (B1 : HP) (i : Value) (wr : World) : Prop := ∃ k : Nat, k ≤ l.length ∧ i = .int .i64 k ∧ St b (B1 :: L) wr
theorem decl_names (F : List FRec) : (F.map declOf).map (·.name) = F.map (·.name) := by rw [List.map_map]; rfl
set_option linter.unusedSimpArgs false in
set_option maxRecDepth 100000 in
set_option maxHeartbeats 16000000 in
theorem body_calls {V Lk : List DRec} {F : List FRec} (hFl : F.length ≤ 1000) (l : Stms) : BodyP V Lk F l := by
  suffices hall : ∀ n (l : Stms), l.size = n → BodyP V Lk F l from hall _ l rfl
  intro n
  induction n using Nat.strongRecOn with
  | _ n ih =>
    intro l hl b L w vv vl vf v h hv hlk hf hm hsz hgood
    obtain ⟨base, cap, rfl, hc1, hc2⟩ := h.sl_form hm
    have hm2 : (l.toL.length : Int) ≤ 9223372036854775807 := by unfold maxLen at hc2; omega
    have H := hide h
    have HM := hide hm
    have HV := hide hv
    have HLK := hide hlk
    have HF := hide hf
    have IH := hide ih
    have HL := hide hl
    have HSZ := hide hsz
    have HG := hide hgood
    have HFL := hide hFl
    clear h hm hc1 hc2 ih hl hsz hv hlk hf hgood
    go_enter Try.func55, Try.ntmps55
    go_wp2_with (first
      | ((with_reducible refine wpList_box_st (cs := [vv, vl, vf]) rfl (.tmp 0) rfl rfl H.out ?_); intro g2 w1 h1; have H1 := hide h1; clear h1 H))
    go_loopw [6] (fun i wr => BodAt b L l.toL (HP.blk g2 (.cells [vv, vl, vf].toArray 43)) i wr) (fun i _ => l.toL.length - (intOf i).toNat)
    case atStart => exact ⟨0, by omega, rfl, H1.out⟩
    case round =>
      obtain ⟨k, hk, rfl, hs⟩ := hrel
      have H2 := hide hs
      clear hs H1
      by_cases hlt : k < l.toL.length
      · have hlt' : (k : Int) < l.toL.length := by omega
        obtain ⟨g, o, rfl⟩ := H2.out.sl_base (up1 HM.out) (by omega) (by decide)
        obtain ⟨cs, h2⟩ := H2.out.elem (up1 HM.out) (List.getElem?_eq_getElem hlt) (by decide)
        have hsm := Stms.size_mem (List.getElem_mem hlt)
        have hgx := goodS_mem HG.out l.toL[k] (List.getElem_mem hlt)
        obtain ⟨x, hx⟩ : ∃ x, l.toL[k] = x := ⟨_, rfl⟩
        have hsu := szL_succ hlt hx
        have hst := szL_take l.toL (k + 1)
        rw [← size_szL] at hst
        rw [hx] at h2 hsm hgx
        obtain ⟨va, vb2, hok, rfl, h3⟩ := h2.stmt
        obtain ⟨_, _, _, hrd⟩ := h3.elem_rd mem2
        have HONE := hide (stmtE.one hrd)
        have HCS : Hid (∀ j u, [.int .i64 x.kind, .int .i64 x.pos, sv x.name, va, vb2][j]? = some u → wr.cell? ⟨g, o + k * 5 + j, none⟩ = some u) := hide (fun j u hj => h3.elem_cell mem2 j hj)
        have hszz := HSZ.out
        have hz2 := appS_size x.A x.B
        have IHB : Hid (BodyP V Lk F (appS x.A x.B)) := hide (IH.out (appS x.A x.B).size (by rw [← HL.out]; omega) _ rfl)
        have HZB : Hid ((appS x.A x.B).size ≤ 10000) := hide (by omega)
        have HGB := hide (appS_good hgx.2.1 hgx.2.2)
        have HGN := hide hgx.1
        have hA := Stms.len_size x.A
        have hB := Stms.len_size x.B
        have hAB : x.A.toL.length + x.B.toL.length ≤ 10000 := by omega
        have H3 := hide h3.f3.d3
        clear h2 h3 hsm hsu hst hx hok hszz hrd hgx hz2 H2 hA hB
        obtain ⟨kd, hkd⟩ : ∃ y, x.kind = y := ⟨_, rfl⟩
        rw [hkd] at HONE HCS HGN
        clear hkd
        by_cases e1 : kd = 1
        · subst e1
          have IS : Hid (decide (x.name ∈ V.map (·.name)) = true) := hide (decide_eq_true (HGN.out.1 (by simp)))
          go_wp2_with (first
            | (with_reducible refine wpList_load_ag (cs := [.int .i64 1, .int .i64 x.pos, sv x.name, va, vb2]) rfl agStmt (.tmp 19) rfl rfl rfl HCS.out ?_)
            | ((with_reducible refine wpList_alloc_ag rfl agStmt rfl H3.out ?_); intro g7 w7 h7; have H7 := hide h7; clear h7 H3)
            | ((with_reducible refine wpList_store_ag (cs := [.int .i64 1, .int .i64 x.pos, sv x.name, va, vb2]) rfl agStmt (.tmp 7) (.tmp 20) rfl rfl rfl rfl rfl HONE.out H7.out ?_); intro w8 h8; have k0 : w8.cell? ⟨g7, 0, none⟩ = some (.int .i64 1) := h8.blk_cell mem0 0; have k2 : w8.cell? ⟨g7, 2, none⟩ = some (.string ⟨x.name.toArray⟩) := h8.blk_cell mem0 2; have p0 : w8.cell? ⟨g2, 0, none⟩ = some vv := h8.blk_cell mem1 0; have p1 : w8.cell? ⟨g2, 1, none⟩ = some vl := h8.blk_cell mem1 1; have H8 := hide h8; clear h8 H7)
            | (go_at_call 54; refine (among_calls H8.out (up4 HV.out) x.name).mono ?_; rintro z w9 ⟨rfl, hw9⟩; subst hw9; rw [IS.out]))
          have H11 := hide H8.out
          clear H8
          refine wp_region_held_drew (S := fun w' => (∀ j u, ([vv, vl, vf] : List Value)[j]? = some u → w'.cell? ⟨g2, 0 + j, none⟩ = some u) ∧ w'.cell? ⟨g7, 3, none⟩ = some va ∧ w'.cell? ⟨g7, 4, none⟩ = some vb2) (by kernel_rfl) ?_ (fun hHeld => ?_)
          · exact ⟨fun j u hj => by rw [Nat.zero_add]; exact (H11.out.blk_cell mem1 j).trans (by simpa using hj), H11.out.blk_cell mem0 3, H11.out.blk_cell mem0 4⟩
          refine wpAnyH_takeD (i := 0) (some 52) (v := .agg ([vv, vl, vf] : List Value).toArray) rfl rfl (by kernel_rfl) (by kernel_rfl) (by kernel_rfl) (fun _ _ _ h => h) (by rfl) ?y0_31 (by assumption) ?r0_31
          case y0_31 => (intro w hSw; exact run_loadB agProg (.tmp 2) rfl rfl rfl hSw.1)
          try simp only [Act.put, List.setIfInBounds_toArray, List.set_cons_zero, List.set_cons_succ]
          refine wpAnyH_takeD (i := 2) (some 54) (v := ?v2_32) rfl rfl (by kernel_rfl) (by kernel_rfl) (by kernel_rfl) (fun _ _ _ h => h) (by rfl) ?y2_32 (by assumption) ?r2_32
          case y2_32 => (intro w hSw; (try dsimp only at hSw); first | (go_simp; done) | (go_simp; with_reducible rfl))
          try simp only [Act.put, List.setIfInBounds_toArray, List.set_cons_zero, List.set_cons_succ]
          refine wpAnyH_takeD (i := 3) (some 55) (v := ?v3_33) rfl rfl (by kernel_rfl) (by kernel_rfl) (by kernel_rfl) (fun _ _ _ h => h) (by rfl) ?y3_33 (by assumption) ?r3_33
          case y3_33 => (intro w hSw; (try dsimp only at hSw); first | (go_simp; done) | (go_simp; with_reducible rfl))
          try simp only [Act.put, List.setIfInBounds_toArray, List.set_cons_zero, List.set_cons_succ]
          refine wpAnyH_takeD (i := 5) (some 57) (v := ?v5_34) rfl rfl (by kernel_rfl) (by kernel_rfl) (by kernel_rfl) (fun _ _ _ h => h) (by rfl) ?y5_34 (by assumption) ?r5_34
          case y5_34 => (intro w hSw; (try dsimp only at hSw); first | (go_simp; done) | (go_simp; with_reducible rfl))
          try simp only [Act.put, List.setIfInBounds_toArray, List.set_cons_zero, List.set_cons_succ]
          refine wpAnyH_takeD (i := 6) (some 58) (v := ?v6_35) rfl rfl (by kernel_rfl) (by kernel_rfl) (by kernel_rfl) (fun _ _ _ h => h) (by rfl) ?y6_35 (by assumption) ?r6_35
          case y6_35 => (intro w hSw; (try dsimp only at hSw); first | (go_simp; done) | (go_simp; with_reducible rfl))
          try simp only [Act.put, List.setIfInBounds_toArray, List.set_cons_zero, List.set_cons_succ]
          refine wpAnyH_ready (rs := [1]) (by kernel_rfl) (by simp) ?_
          refine AllReadyH.cons rfl (fun K hK => ?_) ?_
          · refine step_build0_st (E := stmtE) rfl slStmt rfl H11.out.drew ?_
            intro g12 w12 h12
            have H12 := hide h12
            clear h12 H11
            refine hK.out _ _ ?_ (fun hHeld => ?_)
            · exact ⟨fun j u hj => by rw [Nat.zero_add]; exact (H12.out.blk_cell mem2 j).trans (by simpa using hj), H12.out.blk_cell mem1 3, H12.out.blk_cell mem1 4⟩
            clear hK K
            try simp only [Act.put, List.setIfInBounds_toArray, List.set_cons_zero, List.set_cons_succ]
            refine wpAnyH_ready (rs := [4]) (by kernel_rfl) (by simp) ?_
            refine AllReadyH.cons rfl (fun K hK => ?_) ?_
            · refine step_append_st (E := stmtE) rfl (.tmp 53) (.tmp 55) slStmt rfl H12.out (Src.of_sl mem3) rfl rfl (by simp; unfold maxLen; omega) (by simp; omega) ?_
              intro vb13 n13 vc13 w13 hn13 h13
              have H13 := hide h13
              clear h13 H12 hn13
              refine hK.out _ _ ?_ (fun hHeld => ?_)
              · exact ⟨fun j u hj => by rw [Nat.zero_add]; exact (H13.out.blk_cell mem2 j).trans (by simpa using hj), H13.out.blk_cell mem1 3, H13.out.blk_cell mem1 4⟩
              clear hK K
              try simp only [Act.put, List.setIfInBounds_toArray, List.set_cons_zero, List.set_cons_succ]
              refine wpAnyH_ready (rs := [7]) (by kernel_rfl) (by simp) ?_
              refine AllReadyH.cons rfl (fun K hK => ?_) ?_
              · refine step_append_st (E := stmtE) rfl (.tmp 56) (.tmp 58) slStmt rfl H13.out (Src.of_sl mem4) rfl rfl (by simp; unfold maxLen; omega) (by simp; omega) ?_
                intro vb14 n14 vc14 w14 hn14 h14
                have h15 := h14.persist
                rw [List.nil_append, ← appS_toL] at h15
                have H15 := hide h15
                clear h14 h15 H13 hn14
                refine hK.out _ _ ?_ (fun hHeld => ?_)
                · exact ⟨fun j u hj => by rw [Nat.zero_add]; exact (H15.out.blk_cell mem2 j).trans (by simpa using hj), H15.out.blk_cell mem1 3, H15.out.blk_cell mem1 4⟩
                clear hK K
                try simp only [Act.put, List.setIfInBounds_toArray, List.set_cons_zero, List.set_cons_succ]
                refine wpAnyH_ready (rs := [8]) (by kernel_rfl) (by simp) ?_
                refine AllReadyH.cons rfl (fun K hK => ?_) ?_
                · go_simp
                  go_at_call 55
                  refine (IHB.out b _ _ _ _ _ _ H15.out (up5 HV.out) (up5 HLK.out) (up5 HF.out) mem0 HZB.out HGB.out).mono ?_
                  rintro z w16 ⟨rfl, h16⟩
                  have H16 := hide h16
                  clear h16 H15
                  refine hK.out _ _ ?_ (fun hHeld => ?_)
                  · exact ⟨fun j u hj => by rw [Nat.zero_add]; exact (H16.out.blk_cell mem2 j).trans (by simpa using hj), H16.out.blk_cell mem1 3, H16.out.blk_cell mem1 4⟩
                  clear hK K
                  try simp only [Act.put, List.setIfInBounds_toArray, List.set_cons_zero, List.set_cons_succ]
                  refine wpAnyH_takeD (i := 9) (some 51) (v := ?v9_36) rfl rfl (by kernel_rfl) (by kernel_rfl) (by kernel_rfl) (fun _ _ _ h => h) (by rfl) ?y9_36 (by assumption) ?r9_36
                  case y9_36 => (intro w hSw; (try dsimp only at hSw); first | (go_simp; done) | (go_simp; with_reducible rfl))
                  try simp only [Act.put, List.setIfInBounds_toArray, List.set_cons_zero, List.set_cons_succ]
                  refine wpAnyH_takeD (i := 10) (some 61) (v := ?v10_37) rfl rfl (by kernel_rfl) (by kernel_rfl) (by kernel_rfl) (fun _ _ _ h => h) (by rfl) ?y10_37 (by assumption) ?r10_37
                  case y10_37 => (intro w hSw; (try dsimp only at hSw); first | (go_simp; done) | (go_simp; with_reducible rfl))
                  try simp only [Act.put, List.setIfInBounds_toArray, List.set_cons_zero, List.set_cons_succ]
                  refine wpAnyH_takeD (i := 11) (some 62) (v := ?v11_38) rfl rfl (by kernel_rfl) (by kernel_rfl) (by kernel_rfl) (fun _ _ _ h => h) (by rfl) ?y11_38 (by assumption) ?r11_38
                  case y11_38 => (intro w hSw; (try dsimp only at hSw); first | (go_simp; done) | (go_simp; with_reducible rfl))
                  try simp only [Act.put, List.setIfInBounds_toArray, List.set_cons_zero, List.set_cons_succ]
                  refine wpAnyH_takeD (i := 12) (some 9) (v := ?v12_39) rfl rfl (by kernel_rfl) (by kernel_rfl) (by kernel_rfl) (fun _ _ _ h => h) (by rfl) ?y12_39 (by assumption) ?r12_39
                  case y12_39 => (intro w hSw; (try dsimp only at hSw); first | (go_simp; done) | (go_simp; with_reducible rfl))
                  try simp only [Act.put, List.setIfInBounds_toArray, List.set_cons_zero, List.set_cons_succ]
                  refine wpAnyH_takeD (i := 13) (some 10) (v := ?v13_40) rfl rfl (by kernel_rfl) (by kernel_rfl) (by kernel_rfl) (fun _ _ _ h => h) (by rfl) ?y13_40 (by assumption) ?r13_40
                  case y13_40 => (intro w hSw; (try dsimp only at hSw); first | (go_simp; done) | (go_simp; with_reducible rfl))
                  try simp only [Act.put, List.setIfInBounds_toArray, List.set_cons_zero, List.set_cons_succ]
                  refine wpAnyH_done (by kernel_rfl) ?_ _
                  go_wp2_with fail
                  go_roundw
                  case rel => exact ⟨k + 1, by omega, by go_num, H16.out.drop.drop.d1.d1⟩
                  case measure => exact meas_step hlt
                exact AllReadyH.nil
              exact AllReadyH.nil
            exact AllReadyH.nil
          exact AllReadyH.nil
        · have f1 : (kd == 1) = false := by rw [beq_eq_false_iff_ne]; exact e1
          by_cases e2 : kd = 2
          · subst e2
            have IS : Hid (decide (x.name ∈ V.map (·.name)) = true) := hide (decide_eq_true (HGN.out.1 (by simp)))
            go_wp2_with (first
              | (with_reducible refine wpList_load_ag (cs := [.int .i64 2, .int .i64 x.pos, sv x.name, va, vb2]) rfl agStmt (.tmp 19) rfl rfl rfl HCS.out ?_)
              | ((with_reducible refine wpList_alloc_ag rfl agStmt rfl H3.out ?_); intro g7 w7 h7; have H7 := hide h7; clear h7 H3)
              | ((with_reducible refine wpList_store_ag (cs := [.int .i64 2, .int .i64 x.pos, sv x.name, va, vb2]) rfl agStmt (.tmp 7) (.tmp 20) rfl rfl rfl rfl rfl HONE.out H7.out ?_); intro w8 h8; have k0 : w8.cell? ⟨g7, 0, none⟩ = some (.int .i64 2) := h8.blk_cell mem0 0; have k2 : w8.cell? ⟨g7, 2, none⟩ = some (.string ⟨x.name.toArray⟩) := h8.blk_cell mem0 2; have p0 : w8.cell? ⟨g2, 0, none⟩ = some vv := h8.blk_cell mem1 0; have p1 : w8.cell? ⟨g2, 1, none⟩ = some vl := h8.blk_cell mem1 1; have H8 := hide h8; clear h8 H7)
              | (go_at_call 54; refine (among_calls H8.out (up4 HV.out) x.name).mono ?_; rintro z w9 ⟨rfl, hw9⟩; subst hw9; rw [IS.out]))
            have H11 := hide H8.out
            clear H8
            refine wp_region_held_drew (S := fun w' => (∀ j u, ([vv, vl, vf] : List Value)[j]? = some u → w'.cell? ⟨g2, 0 + j, none⟩ = some u) ∧ w'.cell? ⟨g7, 3, none⟩ = some va ∧ w'.cell? ⟨g7, 4, none⟩ = some vb2) (by kernel_rfl) ?_ (fun hHeld => ?_)
            · exact ⟨fun j u hj => by rw [Nat.zero_add]; exact (H11.out.blk_cell mem1 j).trans (by simpa using hj), H11.out.blk_cell mem0 3, H11.out.blk_cell mem0 4⟩
            refine wpAnyH_takeD (i := 0) (some 52) (v := .agg ([vv, vl, vf] : List Value).toArray) rfl rfl (by kernel_rfl) (by kernel_rfl) (by kernel_rfl) (fun _ _ _ h => h) (by rfl) ?y0_41 (by assumption) ?r0_41
            case y0_41 => (intro w hSw; exact run_loadB agProg (.tmp 2) rfl rfl rfl hSw.1)
            try simp only [Act.put, List.setIfInBounds_toArray, List.set_cons_zero, List.set_cons_succ]
            refine wpAnyH_takeD (i := 2) (some 54) (v := ?v2_42) rfl rfl (by kernel_rfl) (by kernel_rfl) (by kernel_rfl) (fun _ _ _ h => h) (by rfl) ?y2_42 (by assumption) ?r2_42
            case y2_42 => (intro w hSw; (try dsimp only at hSw); first | (go_simp; done) | (go_simp; with_reducible rfl))
            try simp only [Act.put, List.setIfInBounds_toArray, List.set_cons_zero, List.set_cons_succ]
            refine wpAnyH_takeD (i := 3) (some 55) (v := ?v3_43) rfl rfl (by kernel_rfl) (by kernel_rfl) (by kernel_rfl) (fun _ _ _ h => h) (by rfl) ?y3_43 (by assumption) ?r3_43
            case y3_43 => (intro w hSw; (try dsimp only at hSw); first | (go_simp; done) | (go_simp; with_reducible rfl))
            try simp only [Act.put, List.setIfInBounds_toArray, List.set_cons_zero, List.set_cons_succ]
            refine wpAnyH_takeD (i := 5) (some 57) (v := ?v5_44) rfl rfl (by kernel_rfl) (by kernel_rfl) (by kernel_rfl) (fun _ _ _ h => h) (by rfl) ?y5_44 (by assumption) ?r5_44
            case y5_44 => (intro w hSw; (try dsimp only at hSw); first | (go_simp; done) | (go_simp; with_reducible rfl))
            try simp only [Act.put, List.setIfInBounds_toArray, List.set_cons_zero, List.set_cons_succ]
            refine wpAnyH_takeD (i := 6) (some 58) (v := ?v6_45) rfl rfl (by kernel_rfl) (by kernel_rfl) (by kernel_rfl) (fun _ _ _ h => h) (by rfl) ?y6_45 (by assumption) ?r6_45
            case y6_45 => (intro w hSw; (try dsimp only at hSw); first | (go_simp; done) | (go_simp; with_reducible rfl))
            try simp only [Act.put, List.setIfInBounds_toArray, List.set_cons_zero, List.set_cons_succ]
            refine wpAnyH_ready (rs := [1]) (by kernel_rfl) (by simp) ?_
            refine AllReadyH.cons rfl (fun K hK => ?_) ?_
            · refine step_build0_st (E := stmtE) rfl slStmt rfl H11.out.drew ?_
              intro g12 w12 h12
              have H12 := hide h12
              clear h12 H11
              refine hK.out _ _ ?_ (fun hHeld => ?_)
              · exact ⟨fun j u hj => by rw [Nat.zero_add]; exact (H12.out.blk_cell mem2 j).trans (by simpa using hj), H12.out.blk_cell mem1 3, H12.out.blk_cell mem1 4⟩
              clear hK K
              try simp only [Act.put, List.setIfInBounds_toArray, List.set_cons_zero, List.set_cons_succ]
              refine wpAnyH_ready (rs := [4]) (by kernel_rfl) (by simp) ?_
              refine AllReadyH.cons rfl (fun K hK => ?_) ?_
              · refine step_append_st (E := stmtE) rfl (.tmp 53) (.tmp 55) slStmt rfl H12.out (Src.of_sl mem3) rfl rfl (by simp; unfold maxLen; omega) (by simp; omega) ?_
                intro vb13 n13 vc13 w13 hn13 h13
                have H13 := hide h13
                clear h13 H12 hn13
                refine hK.out _ _ ?_ (fun hHeld => ?_)
                · exact ⟨fun j u hj => by rw [Nat.zero_add]; exact (H13.out.blk_cell mem2 j).trans (by simpa using hj), H13.out.blk_cell mem1 3, H13.out.blk_cell mem1 4⟩
                clear hK K
                try simp only [Act.put, List.setIfInBounds_toArray, List.set_cons_zero, List.set_cons_succ]
                refine wpAnyH_ready (rs := [7]) (by kernel_rfl) (by simp) ?_
                refine AllReadyH.cons rfl (fun K hK => ?_) ?_
                · refine step_append_st (E := stmtE) rfl (.tmp 56) (.tmp 58) slStmt rfl H13.out (Src.of_sl mem4) rfl rfl (by simp; unfold maxLen; omega) (by simp; omega) ?_
                  intro vb14 n14 vc14 w14 hn14 h14
                  have h15 := h14.persist
                  rw [List.nil_append, ← appS_toL] at h15
                  have H15 := hide h15
                  clear h14 h15 H13 hn14
                  refine hK.out _ _ ?_ (fun hHeld => ?_)
                  · exact ⟨fun j u hj => by rw [Nat.zero_add]; exact (H15.out.blk_cell mem2 j).trans (by simpa using hj), H15.out.blk_cell mem1 3, H15.out.blk_cell mem1 4⟩
                  clear hK K
                  try simp only [Act.put, List.setIfInBounds_toArray, List.set_cons_zero, List.set_cons_succ]
                  refine wpAnyH_ready (rs := [8]) (by kernel_rfl) (by simp) ?_
                  refine AllReadyH.cons rfl (fun K hK => ?_) ?_
                  · go_simp
                    go_at_call 55
                    refine (IHB.out b _ _ _ _ _ _ H15.out (up5 HV.out) (up5 HLK.out) (up5 HF.out) mem0 HZB.out HGB.out).mono ?_
                    rintro z w16 ⟨rfl, h16⟩
                    have H16 := hide h16
                    clear h16 H15
                    refine hK.out _ _ ?_ (fun hHeld => ?_)
                    · exact ⟨fun j u hj => by rw [Nat.zero_add]; exact (H16.out.blk_cell mem2 j).trans (by simpa using hj), H16.out.blk_cell mem1 3, H16.out.blk_cell mem1 4⟩
                    clear hK K
                    try simp only [Act.put, List.setIfInBounds_toArray, List.set_cons_zero, List.set_cons_succ]
                    refine wpAnyH_takeD (i := 9) (some 51) (v := ?v9_46) rfl rfl (by kernel_rfl) (by kernel_rfl) (by kernel_rfl) (fun _ _ _ h => h) (by rfl) ?y9_46 (by assumption) ?r9_46
                    case y9_46 => (intro w hSw; (try dsimp only at hSw); first | (go_simp; done) | (go_simp; with_reducible rfl))
                    try simp only [Act.put, List.setIfInBounds_toArray, List.set_cons_zero, List.set_cons_succ]
                    refine wpAnyH_takeD (i := 10) (some 61) (v := ?v10_47) rfl rfl (by kernel_rfl) (by kernel_rfl) (by kernel_rfl) (fun _ _ _ h => h) (by rfl) ?y10_47 (by assumption) ?r10_47
                    case y10_47 => (intro w hSw; (try dsimp only at hSw); first | (go_simp; done) | (go_simp; with_reducible rfl))
                    try simp only [Act.put, List.setIfInBounds_toArray, List.set_cons_zero, List.set_cons_succ]
                    refine wpAnyH_takeD (i := 11) (some 62) (v := ?v11_48) rfl rfl (by kernel_rfl) (by kernel_rfl) (by kernel_rfl) (fun _ _ _ h => h) (by rfl) ?y11_48 (by assumption) ?r11_48
                    case y11_48 => (intro w hSw; (try dsimp only at hSw); first | (go_simp; done) | (go_simp; with_reducible rfl))
                    try simp only [Act.put, List.setIfInBounds_toArray, List.set_cons_zero, List.set_cons_succ]
                    refine wpAnyH_takeD (i := 12) (some 9) (v := ?v12_49) rfl rfl (by kernel_rfl) (by kernel_rfl) (by kernel_rfl) (fun _ _ _ h => h) (by rfl) ?y12_49 (by assumption) ?r12_49
                    case y12_49 => (intro w hSw; (try dsimp only at hSw); first | (go_simp; done) | (go_simp; with_reducible rfl))
                    try simp only [Act.put, List.setIfInBounds_toArray, List.set_cons_zero, List.set_cons_succ]
                    refine wpAnyH_takeD (i := 13) (some 10) (v := ?v13_50) rfl rfl (by kernel_rfl) (by kernel_rfl) (by kernel_rfl) (fun _ _ _ h => h) (by rfl) ?y13_50 (by assumption) ?r13_50
                    case y13_50 => (intro w hSw; (try dsimp only at hSw); first | (go_simp; done) | (go_simp; with_reducible rfl))
                    try simp only [Act.put, List.setIfInBounds_toArray, List.set_cons_zero, List.set_cons_succ]
                    refine wpAnyH_done (by kernel_rfl) ?_ _
                    go_wp2_with fail
                    go_roundw
                    case rel => exact ⟨k + 1, by omega, by go_num, H16.out.drop.drop.d1.d1⟩
                    case measure => exact meas_step hlt
                  exact AllReadyH.nil
                exact AllReadyH.nil
              exact AllReadyH.nil
            exact AllReadyH.nil
          · have f2 : (kd == 2) = false := by rw [beq_eq_false_iff_ne]; exact e2
            by_cases e3 : kd = 3
            · subst e3
              have IS : Hid (decide (x.name ∈ Lk.map (·.name)) = true) := hide (decide_eq_true (HGN.out.2.1 (by simp)))
              go_wp2_with (first
                | (with_reducible refine wpList_load_ag (cs := [.int .i64 3, .int .i64 x.pos, sv x.name, va, vb2]) rfl agStmt (.tmp 19) rfl rfl rfl HCS.out ?_)
                | ((with_reducible refine wpList_alloc_ag rfl agStmt rfl H3.out ?_); intro g7 w7 h7; have H7 := hide h7; clear h7 H3)
                | ((with_reducible refine wpList_store_ag (cs := [.int .i64 3, .int .i64 x.pos, sv x.name, va, vb2]) rfl agStmt (.tmp 7) (.tmp 20) rfl rfl rfl rfl rfl HONE.out H7.out ?_); intro w8 h8; have k0 : w8.cell? ⟨g7, 0, none⟩ = some (.int .i64 3) := h8.blk_cell mem0 0; have k2 : w8.cell? ⟨g7, 2, none⟩ = some (.string ⟨x.name.toArray⟩) := h8.blk_cell mem0 2; have p0 : w8.cell? ⟨g2, 0, none⟩ = some vv := h8.blk_cell mem1 0; have p1 : w8.cell? ⟨g2, 1, none⟩ = some vl := h8.blk_cell mem1 1; have H8 := hide h8; clear h8 H7)
                | (go_at_call 54; refine (among_calls H8.out (up4 HLK.out) x.name).mono ?_; rintro z w9 ⟨rfl, hw9⟩; subst hw9; rw [IS.out]))
              have H11 := hide H8.out
              clear H8
              refine wp_region_held_drew (S := fun w' => (∀ j u, ([vv, vl, vf] : List Value)[j]? = some u → w'.cell? ⟨g2, 0 + j, none⟩ = some u) ∧ w'.cell? ⟨g7, 3, none⟩ = some va ∧ w'.cell? ⟨g7, 4, none⟩ = some vb2) (by kernel_rfl) ?_ (fun hHeld => ?_)
              · exact ⟨fun j u hj => by rw [Nat.zero_add]; exact (H11.out.blk_cell mem1 j).trans (by simpa using hj), H11.out.blk_cell mem0 3, H11.out.blk_cell mem0 4⟩
              refine wpAnyH_takeD (i := 0) (some 52) (v := .agg ([vv, vl, vf] : List Value).toArray) rfl rfl (by kernel_rfl) (by kernel_rfl) (by kernel_rfl) (fun _ _ _ h => h) (by rfl) ?y0_51 (by assumption) ?r0_51
              case y0_51 => (intro w hSw; exact run_loadB agProg (.tmp 2) rfl rfl rfl hSw.1)
              try simp only [Act.put, List.setIfInBounds_toArray, List.set_cons_zero, List.set_cons_succ]
              refine wpAnyH_takeD (i := 2) (some 54) (v := ?v2_52) rfl rfl (by kernel_rfl) (by kernel_rfl) (by kernel_rfl) (fun _ _ _ h => h) (by rfl) ?y2_52 (by assumption) ?r2_52
              case y2_52 => (intro w hSw; (try dsimp only at hSw); first | (go_simp; done) | (go_simp; with_reducible rfl))
              try simp only [Act.put, List.setIfInBounds_toArray, List.set_cons_zero, List.set_cons_succ]
              refine wpAnyH_takeD (i := 3) (some 55) (v := ?v3_53) rfl rfl (by kernel_rfl) (by kernel_rfl) (by kernel_rfl) (fun _ _ _ h => h) (by rfl) ?y3_53 (by assumption) ?r3_53
              case y3_53 => (intro w hSw; (try dsimp only at hSw); first | (go_simp; done) | (go_simp; with_reducible rfl))
              try simp only [Act.put, List.setIfInBounds_toArray, List.set_cons_zero, List.set_cons_succ]
              refine wpAnyH_takeD (i := 5) (some 57) (v := ?v5_54) rfl rfl (by kernel_rfl) (by kernel_rfl) (by kernel_rfl) (fun _ _ _ h => h) (by rfl) ?y5_54 (by assumption) ?r5_54
              case y5_54 => (intro w hSw; (try dsimp only at hSw); first | (go_simp; done) | (go_simp; with_reducible rfl))
              try simp only [Act.put, List.setIfInBounds_toArray, List.set_cons_zero, List.set_cons_succ]
              refine wpAnyH_takeD (i := 6) (some 58) (v := ?v6_55) rfl rfl (by kernel_rfl) (by kernel_rfl) (by kernel_rfl) (fun _ _ _ h => h) (by rfl) ?y6_55 (by assumption) ?r6_55
              case y6_55 => (intro w hSw; (try dsimp only at hSw); first | (go_simp; done) | (go_simp; with_reducible rfl))
              try simp only [Act.put, List.setIfInBounds_toArray, List.set_cons_zero, List.set_cons_succ]
              refine wpAnyH_ready (rs := [1]) (by kernel_rfl) (by simp) ?_
              refine AllReadyH.cons rfl (fun K hK => ?_) ?_
              · refine step_build0_st (E := stmtE) rfl slStmt rfl H11.out.drew ?_
                intro g12 w12 h12
                have H12 := hide h12
                clear h12 H11
                refine hK.out _ _ ?_ (fun hHeld => ?_)
                · exact ⟨fun j u hj => by rw [Nat.zero_add]; exact (H12.out.blk_cell mem2 j).trans (by simpa using hj), H12.out.blk_cell mem1 3, H12.out.blk_cell mem1 4⟩
                clear hK K
                try simp only [Act.put, List.setIfInBounds_toArray, List.set_cons_zero, List.set_cons_succ]
                refine wpAnyH_ready (rs := [4]) (by kernel_rfl) (by simp) ?_
                refine AllReadyH.cons rfl (fun K hK => ?_) ?_
                · refine step_append_st (E := stmtE) rfl (.tmp 53) (.tmp 55) slStmt rfl H12.out (Src.of_sl mem3) rfl rfl (by simp; unfold maxLen; omega) (by simp; omega) ?_
                  intro vb13 n13 vc13 w13 hn13 h13
                  have H13 := hide h13
                  clear h13 H12 hn13
                  refine hK.out _ _ ?_ (fun hHeld => ?_)
                  · exact ⟨fun j u hj => by rw [Nat.zero_add]; exact (H13.out.blk_cell mem2 j).trans (by simpa using hj), H13.out.blk_cell mem1 3, H13.out.blk_cell mem1 4⟩
                  clear hK K
                  try simp only [Act.put, List.setIfInBounds_toArray, List.set_cons_zero, List.set_cons_succ]
                  refine wpAnyH_ready (rs := [7]) (by kernel_rfl) (by simp) ?_
                  refine AllReadyH.cons rfl (fun K hK => ?_) ?_
                  · refine step_append_st (E := stmtE) rfl (.tmp 56) (.tmp 58) slStmt rfl H13.out (Src.of_sl mem4) rfl rfl (by simp; unfold maxLen; omega) (by simp; omega) ?_
                    intro vb14 n14 vc14 w14 hn14 h14
                    have h15 := h14.persist
                    rw [List.nil_append, ← appS_toL] at h15
                    have H15 := hide h15
                    clear h14 h15 H13 hn14
                    refine hK.out _ _ ?_ (fun hHeld => ?_)
                    · exact ⟨fun j u hj => by rw [Nat.zero_add]; exact (H15.out.blk_cell mem2 j).trans (by simpa using hj), H15.out.blk_cell mem1 3, H15.out.blk_cell mem1 4⟩
                    clear hK K
                    try simp only [Act.put, List.setIfInBounds_toArray, List.set_cons_zero, List.set_cons_succ]
                    refine wpAnyH_ready (rs := [8]) (by kernel_rfl) (by simp) ?_
                    refine AllReadyH.cons rfl (fun K hK => ?_) ?_
                    · go_simp
                      go_at_call 55
                      refine (IHB.out b _ _ _ _ _ _ H15.out (up5 HV.out) (up5 HLK.out) (up5 HF.out) mem0 HZB.out HGB.out).mono ?_
                      rintro z w16 ⟨rfl, h16⟩
                      have H16 := hide h16
                      clear h16 H15
                      refine hK.out _ _ ?_ (fun hHeld => ?_)
                      · exact ⟨fun j u hj => by rw [Nat.zero_add]; exact (H16.out.blk_cell mem2 j).trans (by simpa using hj), H16.out.blk_cell mem1 3, H16.out.blk_cell mem1 4⟩
                      clear hK K
                      try simp only [Act.put, List.setIfInBounds_toArray, List.set_cons_zero, List.set_cons_succ]
                      refine wpAnyH_takeD (i := 9) (some 51) (v := ?v9_56) rfl rfl (by kernel_rfl) (by kernel_rfl) (by kernel_rfl) (fun _ _ _ h => h) (by rfl) ?y9_56 (by assumption) ?r9_56
                      case y9_56 => (intro w hSw; (try dsimp only at hSw); first | (go_simp; done) | (go_simp; with_reducible rfl))
                      try simp only [Act.put, List.setIfInBounds_toArray, List.set_cons_zero, List.set_cons_succ]
                      refine wpAnyH_takeD (i := 10) (some 61) (v := ?v10_57) rfl rfl (by kernel_rfl) (by kernel_rfl) (by kernel_rfl) (fun _ _ _ h => h) (by rfl) ?y10_57 (by assumption) ?r10_57
                      case y10_57 => (intro w hSw; (try dsimp only at hSw); first | (go_simp; done) | (go_simp; with_reducible rfl))
                      try simp only [Act.put, List.setIfInBounds_toArray, List.set_cons_zero, List.set_cons_succ]
                      refine wpAnyH_takeD (i := 11) (some 62) (v := ?v11_58) rfl rfl (by kernel_rfl) (by kernel_rfl) (by kernel_rfl) (fun _ _ _ h => h) (by rfl) ?y11_58 (by assumption) ?r11_58
                      case y11_58 => (intro w hSw; (try dsimp only at hSw); first | (go_simp; done) | (go_simp; with_reducible rfl))
                      try simp only [Act.put, List.setIfInBounds_toArray, List.set_cons_zero, List.set_cons_succ]
                      refine wpAnyH_takeD (i := 12) (some 9) (v := ?v12_59) rfl rfl (by kernel_rfl) (by kernel_rfl) (by kernel_rfl) (fun _ _ _ h => h) (by rfl) ?y12_59 (by assumption) ?r12_59
                      case y12_59 => (intro w hSw; (try dsimp only at hSw); first | (go_simp; done) | (go_simp; with_reducible rfl))
                      try simp only [Act.put, List.setIfInBounds_toArray, List.set_cons_zero, List.set_cons_succ]
                      refine wpAnyH_takeD (i := 13) (some 10) (v := ?v13_60) rfl rfl (by kernel_rfl) (by kernel_rfl) (by kernel_rfl) (fun _ _ _ h => h) (by rfl) ?y13_60 (by assumption) ?r13_60
                      case y13_60 => (intro w hSw; (try dsimp only at hSw); first | (go_simp; done) | (go_simp; with_reducible rfl))
                      try simp only [Act.put, List.setIfInBounds_toArray, List.set_cons_zero, List.set_cons_succ]
                      refine wpAnyH_done (by kernel_rfl) ?_ _
                      go_wp2_with fail
                      go_roundw
                      case rel => exact ⟨k + 1, by omega, by go_num, H16.out.drop.drop.d1.d1⟩
                      case measure => exact meas_step hlt
                    exact AllReadyH.nil
                  exact AllReadyH.nil
                exact AllReadyH.nil
              exact AllReadyH.nil
            · have f3 : (kd == 3) = false := by rw [beq_eq_false_iff_ne]; exact e3
              by_cases e4 : kd = 4
              · subst e4
                have IS : Hid (decide (x.name ∈ Lk.map (·.name)) = true) := hide (decide_eq_true (HGN.out.2.1 (by simp)))
                go_wp2_with (first
                  | (with_reducible refine wpList_load_ag (cs := [.int .i64 4, .int .i64 x.pos, sv x.name, va, vb2]) rfl agStmt (.tmp 19) rfl rfl rfl HCS.out ?_)
                  | ((with_reducible refine wpList_alloc_ag rfl agStmt rfl H3.out ?_); intro g7 w7 h7; have H7 := hide h7; clear h7 H3)
                  | ((with_reducible refine wpList_store_ag (cs := [.int .i64 4, .int .i64 x.pos, sv x.name, va, vb2]) rfl agStmt (.tmp 7) (.tmp 20) rfl rfl rfl rfl rfl HONE.out H7.out ?_); intro w8 h8; have k0 : w8.cell? ⟨g7, 0, none⟩ = some (.int .i64 4) := h8.blk_cell mem0 0; have k2 : w8.cell? ⟨g7, 2, none⟩ = some (.string ⟨x.name.toArray⟩) := h8.blk_cell mem0 2; have p0 : w8.cell? ⟨g2, 0, none⟩ = some vv := h8.blk_cell mem1 0; have p1 : w8.cell? ⟨g2, 1, none⟩ = some vl := h8.blk_cell mem1 1; have H8 := hide h8; clear h8 H7)
                  | (go_at_call 54; refine (among_calls H8.out (up4 HLK.out) x.name).mono ?_; rintro z w9 ⟨rfl, hw9⟩; subst hw9; rw [IS.out]))
                have H11 := hide H8.out
                clear H8
                refine wp_region_held_drew (S := fun w' => (∀ j u, ([vv, vl, vf] : List Value)[j]? = some u → w'.cell? ⟨g2, 0 + j, none⟩ = some u) ∧ w'.cell? ⟨g7, 3, none⟩ = some va ∧ w'.cell? ⟨g7, 4, none⟩ = some vb2) (by kernel_rfl) ?_ (fun hHeld => ?_)
                · exact ⟨fun j u hj => by rw [Nat.zero_add]; exact (H11.out.blk_cell mem1 j).trans (by simpa using hj), H11.out.blk_cell mem0 3, H11.out.blk_cell mem0 4⟩
                refine wpAnyH_takeD (i := 0) (some 52) (v := .agg ([vv, vl, vf] : List Value).toArray) rfl rfl (by kernel_rfl) (by kernel_rfl) (by kernel_rfl) (fun _ _ _ h => h) (by rfl) ?y0_61 (by assumption) ?r0_61
                case y0_61 => (intro w hSw; exact run_loadB agProg (.tmp 2) rfl rfl rfl hSw.1)
                try simp only [Act.put, List.setIfInBounds_toArray, List.set_cons_zero, List.set_cons_succ]
                refine wpAnyH_takeD (i := 2) (some 54) (v := ?v2_62) rfl rfl (by kernel_rfl) (by kernel_rfl) (by kernel_rfl) (fun _ _ _ h => h) (by rfl) ?y2_62 (by assumption) ?r2_62
                case y2_62 => (intro w hSw; (try dsimp only at hSw); first | (go_simp; done) | (go_simp; with_reducible rfl))
                try simp only [Act.put, List.setIfInBounds_toArray, List.set_cons_zero, List.set_cons_succ]
                refine wpAnyH_takeD (i := 3) (some 55) (v := ?v3_63) rfl rfl (by kernel_rfl) (by kernel_rfl) (by kernel_rfl) (fun _ _ _ h => h) (by rfl) ?y3_63 (by assumption) ?r3_63
                case y3_63 => (intro w hSw; (try dsimp only at hSw); first | (go_simp; done) | (go_simp; with_reducible rfl))
                try simp only [Act.put, List.setIfInBounds_toArray, List.set_cons_zero, List.set_cons_succ]
                refine wpAnyH_takeD (i := 5) (some 57) (v := ?v5_64) rfl rfl (by kernel_rfl) (by kernel_rfl) (by kernel_rfl) (fun _ _ _ h => h) (by rfl) ?y5_64 (by assumption) ?r5_64
                case y5_64 => (intro w hSw; (try dsimp only at hSw); first | (go_simp; done) | (go_simp; with_reducible rfl))
                try simp only [Act.put, List.setIfInBounds_toArray, List.set_cons_zero, List.set_cons_succ]
                refine wpAnyH_takeD (i := 6) (some 58) (v := ?v6_65) rfl rfl (by kernel_rfl) (by kernel_rfl) (by kernel_rfl) (fun _ _ _ h => h) (by rfl) ?y6_65 (by assumption) ?r6_65
                case y6_65 => (intro w hSw; (try dsimp only at hSw); first | (go_simp; done) | (go_simp; with_reducible rfl))
                try simp only [Act.put, List.setIfInBounds_toArray, List.set_cons_zero, List.set_cons_succ]
                refine wpAnyH_ready (rs := [1]) (by kernel_rfl) (by simp) ?_
                refine AllReadyH.cons rfl (fun K hK => ?_) ?_
                · refine step_build0_st (E := stmtE) rfl slStmt rfl H11.out.drew ?_
                  intro g12 w12 h12
                  have H12 := hide h12
                  clear h12 H11
                  refine hK.out _ _ ?_ (fun hHeld => ?_)
                  · exact ⟨fun j u hj => by rw [Nat.zero_add]; exact (H12.out.blk_cell mem2 j).trans (by simpa using hj), H12.out.blk_cell mem1 3, H12.out.blk_cell mem1 4⟩
                  clear hK K
                  try simp only [Act.put, List.setIfInBounds_toArray, List.set_cons_zero, List.set_cons_succ]
                  refine wpAnyH_ready (rs := [4]) (by kernel_rfl) (by simp) ?_
                  refine AllReadyH.cons rfl (fun K hK => ?_) ?_
                  · refine step_append_st (E := stmtE) rfl (.tmp 53) (.tmp 55) slStmt rfl H12.out (Src.of_sl mem3) rfl rfl (by simp; unfold maxLen; omega) (by simp; omega) ?_
                    intro vb13 n13 vc13 w13 hn13 h13
                    have H13 := hide h13
                    clear h13 H12 hn13
                    refine hK.out _ _ ?_ (fun hHeld => ?_)
                    · exact ⟨fun j u hj => by rw [Nat.zero_add]; exact (H13.out.blk_cell mem2 j).trans (by simpa using hj), H13.out.blk_cell mem1 3, H13.out.blk_cell mem1 4⟩
                    clear hK K
                    try simp only [Act.put, List.setIfInBounds_toArray, List.set_cons_zero, List.set_cons_succ]
                    refine wpAnyH_ready (rs := [7]) (by kernel_rfl) (by simp) ?_
                    refine AllReadyH.cons rfl (fun K hK => ?_) ?_
                    · refine step_append_st (E := stmtE) rfl (.tmp 56) (.tmp 58) slStmt rfl H13.out (Src.of_sl mem4) rfl rfl (by simp; unfold maxLen; omega) (by simp; omega) ?_
                      intro vb14 n14 vc14 w14 hn14 h14
                      have h15 := h14.persist
                      rw [List.nil_append, ← appS_toL] at h15
                      have H15 := hide h15
                      clear h14 h15 H13 hn14
                      refine hK.out _ _ ?_ (fun hHeld => ?_)
                      · exact ⟨fun j u hj => by rw [Nat.zero_add]; exact (H15.out.blk_cell mem2 j).trans (by simpa using hj), H15.out.blk_cell mem1 3, H15.out.blk_cell mem1 4⟩
                      clear hK K
                      try simp only [Act.put, List.setIfInBounds_toArray, List.set_cons_zero, List.set_cons_succ]
                      refine wpAnyH_ready (rs := [8]) (by kernel_rfl) (by simp) ?_
                      refine AllReadyH.cons rfl (fun K hK => ?_) ?_
                      · go_simp
                        go_at_call 55
                        refine (IHB.out b _ _ _ _ _ _ H15.out (up5 HV.out) (up5 HLK.out) (up5 HF.out) mem0 HZB.out HGB.out).mono ?_
                        rintro z w16 ⟨rfl, h16⟩
                        have H16 := hide h16
                        clear h16 H15
                        refine hK.out _ _ ?_ (fun hHeld => ?_)
                        · exact ⟨fun j u hj => by rw [Nat.zero_add]; exact (H16.out.blk_cell mem2 j).trans (by simpa using hj), H16.out.blk_cell mem1 3, H16.out.blk_cell mem1 4⟩
                        clear hK K
                        try simp only [Act.put, List.setIfInBounds_toArray, List.set_cons_zero, List.set_cons_succ]
                        refine wpAnyH_takeD (i := 9) (some 51) (v := ?v9_66) rfl rfl (by kernel_rfl) (by kernel_rfl) (by kernel_rfl) (fun _ _ _ h => h) (by rfl) ?y9_66 (by assumption) ?r9_66
                        case y9_66 => (intro w hSw; (try dsimp only at hSw); first | (go_simp; done) | (go_simp; with_reducible rfl))
                        try simp only [Act.put, List.setIfInBounds_toArray, List.set_cons_zero, List.set_cons_succ]
                        refine wpAnyH_takeD (i := 10) (some 61) (v := ?v10_67) rfl rfl (by kernel_rfl) (by kernel_rfl) (by kernel_rfl) (fun _ _ _ h => h) (by rfl) ?y10_67 (by assumption) ?r10_67
                        case y10_67 => (intro w hSw; (try dsimp only at hSw); first | (go_simp; done) | (go_simp; with_reducible rfl))
                        try simp only [Act.put, List.setIfInBounds_toArray, List.set_cons_zero, List.set_cons_succ]
                        refine wpAnyH_takeD (i := 11) (some 62) (v := ?v11_68) rfl rfl (by kernel_rfl) (by kernel_rfl) (by kernel_rfl) (fun _ _ _ h => h) (by rfl) ?y11_68 (by assumption) ?r11_68
                        case y11_68 => (intro w hSw; (try dsimp only at hSw); first | (go_simp; done) | (go_simp; with_reducible rfl))
                        try simp only [Act.put, List.setIfInBounds_toArray, List.set_cons_zero, List.set_cons_succ]
                        refine wpAnyH_takeD (i := 12) (some 9) (v := ?v12_69) rfl rfl (by kernel_rfl) (by kernel_rfl) (by kernel_rfl) (fun _ _ _ h => h) (by rfl) ?y12_69 (by assumption) ?r12_69
                        case y12_69 => (intro w hSw; (try dsimp only at hSw); first | (go_simp; done) | (go_simp; with_reducible rfl))
                        try simp only [Act.put, List.setIfInBounds_toArray, List.set_cons_zero, List.set_cons_succ]
                        refine wpAnyH_takeD (i := 13) (some 10) (v := ?v13_70) rfl rfl (by kernel_rfl) (by kernel_rfl) (by kernel_rfl) (fun _ _ _ h => h) (by rfl) ?y13_70 (by assumption) ?r13_70
                        case y13_70 => (intro w hSw; (try dsimp only at hSw); first | (go_simp; done) | (go_simp; with_reducible rfl))
                        try simp only [Act.put, List.setIfInBounds_toArray, List.set_cons_zero, List.set_cons_succ]
                        refine wpAnyH_done (by kernel_rfl) ?_ _
                        go_wp2_with fail
                        go_roundw
                        case rel => exact ⟨k + 1, by omega, by go_num, H16.out.drop.drop.d1.d1⟩
                        case measure => exact meas_step hlt
                      exact AllReadyH.nil
                    exact AllReadyH.nil
                  exact AllReadyH.nil
                exact AllReadyH.nil
              · have f4 : (kd == 4) = false := by rw [beq_eq_false_iff_ne]; exact e4
                by_cases e5 : kd = 5
                · subst e5
                  have IS : Hid (decide (x.name ∈ F.map (·.name)) = true) := hide (decide_eq_true (HGN.out.2.2 (by simp)))
                  go_wp2_with (first
                    | (with_reducible refine wpList_load_ag (cs := [.int .i64 5, .int .i64 x.pos, sv x.name, va, vb2]) rfl agStmt (.tmp 19) rfl rfl rfl HCS.out ?_)
                    | ((with_reducible refine wpList_alloc_ag rfl agStmt rfl H3.out ?_); intro g7 w7 h7; have H7 := hide h7; clear h7 H3)
                    | ((with_reducible refine wpList_store_ag (cs := [.int .i64 5, .int .i64 x.pos, sv x.name, va, vb2]) rfl agStmt (.tmp 7) (.tmp 20) rfl rfl rfl rfl rfl HONE.out H7.out ?_); intro w8 h8; have k0 : w8.cell? ⟨g7, 0, none⟩ = some (.int .i64 5) := h8.blk_cell mem0 0; have k2 : w8.cell? ⟨g7, 2, none⟩ = some (.string ⟨x.name.toArray⟩) := h8.blk_cell mem0 2; have p0 : w8.cell? ⟨g2, 0, none⟩ = some vv := h8.blk_cell mem1 0; have p1 : w8.cell? ⟨g2, 1, none⟩ = some vl := h8.blk_cell mem1 1; have H8 := hide h8; clear h8 H7))
                  refine wp_region_held_drew (S := fun w' => (∀ j u, ([vv, vl, vf] : List Value)[j]? = some u → w'.cell? ⟨g2, 0 + j, none⟩ = some u) ∧ w'.cell? ⟨g7, 2, none⟩ = some (.string ⟨x.name.toArray⟩)) (by kernel_rfl) ?_ (fun hHeld => ?_)
                  · exact ⟨fun j u hj => by rw [Nat.zero_add]; exact (H8.out.blk_cell mem1 j).trans (by simpa using hj), H8.out.blk_cell mem0 2⟩
                  refine wpAnyH_takeD (i := 0) (some 42) (v := .agg ([vv, vl, vf] : List Value).toArray) rfl rfl (by kernel_rfl) (by kernel_rfl) (by kernel_rfl) (fun _ _ _ h => h) (by rfl) ?y0_81 (by assumption) ?r0_81
                  case y0_81 => (intro w hSw; exact run_loadB agProg (.tmp 2) rfl rfl rfl hSw.1)
                  try simp only [Act.put, List.setIfInBounds_toArray, List.set_cons_zero, List.set_cons_succ]
                  refine wpAnyH_takeD (i := 2) (some 44) (v := ?v2_82) rfl rfl (by kernel_rfl) (by kernel_rfl) (by kernel_rfl) (fun _ _ _ h => h) (by rfl) ?y2_82 (by assumption) ?r2_82
                  case y2_82 => (intro w hSw; (try dsimp only at hSw); first | (go_simp; done) | (go_simp; with_reducible rfl))
                  try simp only [Act.put, List.setIfInBounds_toArray, List.set_cons_zero, List.set_cons_succ]
                  refine wpAnyH_takeD (i := 3) (some 45) (v := ?v3_83) rfl rfl (by kernel_rfl) (by kernel_rfl) (by kernel_rfl) (fun _ _ _ h => h) (by rfl) ?y3_83 (by assumption) ?r3_83
                  case y3_83 => (intro w hSw; (try dsimp only at hSw); first | (go_simp; done) | (go_simp; with_reducible rfl))
                  try simp only [Act.put, List.setIfInBounds_toArray, List.set_cons_zero, List.set_cons_succ]
                  refine wpAnyH_ready (rs := [1]) (by kernel_rfl) (by simp) ?_
                  refine AllReadyH.cons rfl (fun K hK => ?_) ?_
                  · go_simp
                    go_at_call 53
                    refine (functions_calls H8.out.drew (up4 HF.out) HFL.out).mono ?_
                    rintro z w9 ⟨vd, rfl, h9⟩
                    have H9 := hide h9
                    clear h9 H8
                    refine hK.out _ _ ?_ (fun hHeld => ?_)
                    · exact ⟨fun j u hj => by rw [Nat.zero_add]; exact (H9.out.blk_cell mem2 j).trans (by simpa using hj), H9.out.blk_cell mem1 2⟩
                    clear hK K
                    try simp only [Act.put, List.setIfInBounds_toArray, List.set_cons_zero, List.set_cons_succ]
                    refine wpAnyH_ready (rs := [4]) (by kernel_rfl) (by simp) ?_
                    refine AllReadyH.cons rfl (fun K hK => ?_) ?_
                    · go_simp
                      go_at_call 54
                      refine (among_calls H9.out mem0 x.name).mono ?_
                      rintro z w10 ⟨rfl, hw10⟩
                      subst hw10
                      rw [decl_names, IS.out]
                      refine hK.out _ _ ?_ (fun hHeld => ?_)
                      · exact ⟨fun j u hj => by rw [Nat.zero_add]; exact (H9.out.blk_cell mem2 j).trans (by simpa using hj), H9.out.blk_cell mem1 2⟩
                      clear hK K
                      try simp only [Act.put, List.setIfInBounds_toArray, List.set_cons_zero, List.set_cons_succ]
                      refine wpAnyH_takeD (i := 5) (some 8) (v := ?v5_84) rfl rfl (by kernel_rfl) (by kernel_rfl) (by kernel_rfl) (fun _ _ _ h => h) (by rfl) ?y5_84 (by assumption) ?r5_84
                      case y5_84 => (intro w hSw; (try dsimp only at hSw); first | (go_simp; done) | (go_simp; with_reducible rfl))
                      try simp only [Act.put, List.setIfInBounds_toArray, List.set_cons_zero, List.set_cons_succ]
                      refine wpAnyH_done (by kernel_rfl) ?_ _
                      have H10 := hide H9.out.drop
                      clear H9
                      go_wp2_with fail
                      have H11 := hide H10.out
                      clear H10
                      refine wp_region_held_drew (S := fun w' => (∀ j u, ([vv, vl, vf] : List Value)[j]? = some u → w'.cell? ⟨g2, 0 + j, none⟩ = some u) ∧ w'.cell? ⟨g7, 3, none⟩ = some va ∧ w'.cell? ⟨g7, 4, none⟩ = some vb2) (by kernel_rfl) ?_ (fun hHeld => ?_)
                      · exact ⟨fun j u hj => by rw [Nat.zero_add]; exact (H11.out.blk_cell mem1 j).trans (by simpa using hj), H11.out.blk_cell mem0 3, H11.out.blk_cell mem0 4⟩
                      refine wpAnyH_takeD (i := 0) (some 52) (v := .agg ([vv, vl, vf] : List Value).toArray) rfl rfl (by kernel_rfl) (by kernel_rfl) (by kernel_rfl) (fun _ _ _ h => h) (by rfl) ?y0_71 (by assumption) ?r0_71
                      case y0_71 => (intro w hSw; exact run_loadB agProg (.tmp 2) rfl rfl rfl hSw.1)
                      try simp only [Act.put, List.setIfInBounds_toArray, List.set_cons_zero, List.set_cons_succ]
                      refine wpAnyH_takeD (i := 2) (some 54) (v := ?v2_72) rfl rfl (by kernel_rfl) (by kernel_rfl) (by kernel_rfl) (fun _ _ _ h => h) (by rfl) ?y2_72 (by assumption) ?r2_72
                      case y2_72 => (intro w hSw; (try dsimp only at hSw); first | (go_simp; done) | (go_simp; with_reducible rfl))
                      try simp only [Act.put, List.setIfInBounds_toArray, List.set_cons_zero, List.set_cons_succ]
                      refine wpAnyH_takeD (i := 3) (some 55) (v := ?v3_73) rfl rfl (by kernel_rfl) (by kernel_rfl) (by kernel_rfl) (fun _ _ _ h => h) (by rfl) ?y3_73 (by assumption) ?r3_73
                      case y3_73 => (intro w hSw; (try dsimp only at hSw); first | (go_simp; done) | (go_simp; with_reducible rfl))
                      try simp only [Act.put, List.setIfInBounds_toArray, List.set_cons_zero, List.set_cons_succ]
                      refine wpAnyH_takeD (i := 5) (some 57) (v := ?v5_74) rfl rfl (by kernel_rfl) (by kernel_rfl) (by kernel_rfl) (fun _ _ _ h => h) (by rfl) ?y5_74 (by assumption) ?r5_74
                      case y5_74 => (intro w hSw; (try dsimp only at hSw); first | (go_simp; done) | (go_simp; with_reducible rfl))
                      try simp only [Act.put, List.setIfInBounds_toArray, List.set_cons_zero, List.set_cons_succ]
                      refine wpAnyH_takeD (i := 6) (some 58) (v := ?v6_75) rfl rfl (by kernel_rfl) (by kernel_rfl) (by kernel_rfl) (fun _ _ _ h => h) (by rfl) ?y6_75 (by assumption) ?r6_75
                      case y6_75 => (intro w hSw; (try dsimp only at hSw); first | (go_simp; done) | (go_simp; with_reducible rfl))
                      try simp only [Act.put, List.setIfInBounds_toArray, List.set_cons_zero, List.set_cons_succ]
                      refine wpAnyH_ready (rs := [1]) (by kernel_rfl) (by simp) ?_
                      refine AllReadyH.cons rfl (fun K hK => ?_) ?_
                      · refine step_build0_st (E := stmtE) rfl slStmt rfl H11.out.drew ?_
                        intro g12 w12 h12
                        have H12 := hide h12
                        clear h12 H11
                        refine hK.out _ _ ?_ (fun hHeld => ?_)
                        · exact ⟨fun j u hj => by rw [Nat.zero_add]; exact (H12.out.blk_cell mem2 j).trans (by simpa using hj), H12.out.blk_cell mem1 3, H12.out.blk_cell mem1 4⟩
                        clear hK K
                        try simp only [Act.put, List.setIfInBounds_toArray, List.set_cons_zero, List.set_cons_succ]
                        refine wpAnyH_ready (rs := [4]) (by kernel_rfl) (by simp) ?_
                        refine AllReadyH.cons rfl (fun K hK => ?_) ?_
                        · refine step_append_st (E := stmtE) rfl (.tmp 53) (.tmp 55) slStmt rfl H12.out (Src.of_sl mem3) rfl rfl (by simp; unfold maxLen; omega) (by simp; omega) ?_
                          intro vb13 n13 vc13 w13 hn13 h13
                          have H13 := hide h13
                          clear h13 H12 hn13
                          refine hK.out _ _ ?_ (fun hHeld => ?_)
                          · exact ⟨fun j u hj => by rw [Nat.zero_add]; exact (H13.out.blk_cell mem2 j).trans (by simpa using hj), H13.out.blk_cell mem1 3, H13.out.blk_cell mem1 4⟩
                          clear hK K
                          try simp only [Act.put, List.setIfInBounds_toArray, List.set_cons_zero, List.set_cons_succ]
                          refine wpAnyH_ready (rs := [7]) (by kernel_rfl) (by simp) ?_
                          refine AllReadyH.cons rfl (fun K hK => ?_) ?_
                          · refine step_append_st (E := stmtE) rfl (.tmp 56) (.tmp 58) slStmt rfl H13.out (Src.of_sl mem4) rfl rfl (by simp; unfold maxLen; omega) (by simp; omega) ?_
                            intro vb14 n14 vc14 w14 hn14 h14
                            have h15 := h14.persist
                            rw [List.nil_append, ← appS_toL] at h15
                            have H15 := hide h15
                            clear h14 h15 H13 hn14
                            refine hK.out _ _ ?_ (fun hHeld => ?_)
                            · exact ⟨fun j u hj => by rw [Nat.zero_add]; exact (H15.out.blk_cell mem2 j).trans (by simpa using hj), H15.out.blk_cell mem1 3, H15.out.blk_cell mem1 4⟩
                            clear hK K
                            try simp only [Act.put, List.setIfInBounds_toArray, List.set_cons_zero, List.set_cons_succ]
                            refine wpAnyH_ready (rs := [8]) (by kernel_rfl) (by simp) ?_
                            refine AllReadyH.cons rfl (fun K hK => ?_) ?_
                            · go_simp
                              go_at_call 55
                              refine (IHB.out b _ _ _ _ _ _ H15.out (up5 HV.out) (up5 HLK.out) (up5 HF.out) mem0 HZB.out HGB.out).mono ?_
                              rintro z w16 ⟨rfl, h16⟩
                              have H16 := hide h16
                              clear h16 H15
                              refine hK.out _ _ ?_ (fun hHeld => ?_)
                              · exact ⟨fun j u hj => by rw [Nat.zero_add]; exact (H16.out.blk_cell mem2 j).trans (by simpa using hj), H16.out.blk_cell mem1 3, H16.out.blk_cell mem1 4⟩
                              clear hK K
                              try simp only [Act.put, List.setIfInBounds_toArray, List.set_cons_zero, List.set_cons_succ]
                              refine wpAnyH_takeD (i := 9) (some 51) (v := ?v9_76) rfl rfl (by kernel_rfl) (by kernel_rfl) (by kernel_rfl) (fun _ _ _ h => h) (by rfl) ?y9_76 (by assumption) ?r9_76
                              case y9_76 => (intro w hSw; (try dsimp only at hSw); first | (go_simp; done) | (go_simp; with_reducible rfl))
                              try simp only [Act.put, List.setIfInBounds_toArray, List.set_cons_zero, List.set_cons_succ]
                              refine wpAnyH_takeD (i := 10) (some 61) (v := ?v10_77) rfl rfl (by kernel_rfl) (by kernel_rfl) (by kernel_rfl) (fun _ _ _ h => h) (by rfl) ?y10_77 (by assumption) ?r10_77
                              case y10_77 => (intro w hSw; (try dsimp only at hSw); first | (go_simp; done) | (go_simp; with_reducible rfl))
                              try simp only [Act.put, List.setIfInBounds_toArray, List.set_cons_zero, List.set_cons_succ]
                              refine wpAnyH_takeD (i := 11) (some 62) (v := ?v11_78) rfl rfl (by kernel_rfl) (by kernel_rfl) (by kernel_rfl) (fun _ _ _ h => h) (by rfl) ?y11_78 (by assumption) ?r11_78
                              case y11_78 => (intro w hSw; (try dsimp only at hSw); first | (go_simp; done) | (go_simp; with_reducible rfl))
                              try simp only [Act.put, List.setIfInBounds_toArray, List.set_cons_zero, List.set_cons_succ]
                              refine wpAnyH_takeD (i := 12) (some 9) (v := ?v12_79) rfl rfl (by kernel_rfl) (by kernel_rfl) (by kernel_rfl) (fun _ _ _ h => h) (by rfl) ?y12_79 (by assumption) ?r12_79
                              case y12_79 => (intro w hSw; (try dsimp only at hSw); first | (go_simp; done) | (go_simp; with_reducible rfl))
                              try simp only [Act.put, List.setIfInBounds_toArray, List.set_cons_zero, List.set_cons_succ]
                              refine wpAnyH_takeD (i := 13) (some 10) (v := ?v13_80) rfl rfl (by kernel_rfl) (by kernel_rfl) (by kernel_rfl) (fun _ _ _ h => h) (by rfl) ?y13_80 (by assumption) ?r13_80
                              case y13_80 => (intro w hSw; (try dsimp only at hSw); first | (go_simp; done) | (go_simp; with_reducible rfl))
                              try simp only [Act.put, List.setIfInBounds_toArray, List.set_cons_zero, List.set_cons_succ]
                              refine wpAnyH_done (by kernel_rfl) ?_ _
                              go_wp2_with fail
                              go_roundw
                              case rel => exact ⟨k + 1, by omega, by go_num, H16.out.drop.drop.d1.d1⟩
                              case measure => exact meas_step hlt
                            exact AllReadyH.nil
                          exact AllReadyH.nil
                        exact AllReadyH.nil
                      exact AllReadyH.nil
                    exact AllReadyH.nil
                  exact AllReadyH.nil
                · have f5 : (kd == 5) = false := by rw [beq_eq_false_iff_ne]; exact e5
                  by_cases e6 : kd = 6
                  · subst e6
                    have IS : Hid (decide (x.name ∈ F.map (·.name)) = true) := hide (decide_eq_true (HGN.out.2.2 (by simp)))
                    go_wp2_with (first
                      | (with_reducible refine wpList_load_ag (cs := [.int .i64 6, .int .i64 x.pos, sv x.name, va, vb2]) rfl agStmt (.tmp 19) rfl rfl rfl HCS.out ?_)
                      | ((with_reducible refine wpList_alloc_ag rfl agStmt rfl H3.out ?_); intro g7 w7 h7; have H7 := hide h7; clear h7 H3)
                      | ((with_reducible refine wpList_store_ag (cs := [.int .i64 6, .int .i64 x.pos, sv x.name, va, vb2]) rfl agStmt (.tmp 7) (.tmp 20) rfl rfl rfl rfl rfl HONE.out H7.out ?_); intro w8 h8; have k0 : w8.cell? ⟨g7, 0, none⟩ = some (.int .i64 6) := h8.blk_cell mem0 0; have k2 : w8.cell? ⟨g7, 2, none⟩ = some (.string ⟨x.name.toArray⟩) := h8.blk_cell mem0 2; have p0 : w8.cell? ⟨g2, 0, none⟩ = some vv := h8.blk_cell mem1 0; have p1 : w8.cell? ⟨g2, 1, none⟩ = some vl := h8.blk_cell mem1 1; have H8 := hide h8; clear h8 H7))
                    refine wp_region_held_drew (S := fun w' => (∀ j u, ([vv, vl, vf] : List Value)[j]? = some u → w'.cell? ⟨g2, 0 + j, none⟩ = some u) ∧ w'.cell? ⟨g7, 2, none⟩ = some (.string ⟨x.name.toArray⟩)) (by kernel_rfl) ?_ (fun hHeld => ?_)
                    · exact ⟨fun j u hj => by rw [Nat.zero_add]; exact (H8.out.blk_cell mem1 j).trans (by simpa using hj), H8.out.blk_cell mem0 2⟩
                    refine wpAnyH_takeD (i := 0) (some 42) (v := .agg ([vv, vl, vf] : List Value).toArray) rfl rfl (by kernel_rfl) (by kernel_rfl) (by kernel_rfl) (fun _ _ _ h => h) (by rfl) ?y0_95 (by assumption) ?r0_95
                    case y0_95 => (intro w hSw; exact run_loadB agProg (.tmp 2) rfl rfl rfl hSw.1)
                    try simp only [Act.put, List.setIfInBounds_toArray, List.set_cons_zero, List.set_cons_succ]
                    refine wpAnyH_takeD (i := 2) (some 44) (v := ?v2_96) rfl rfl (by kernel_rfl) (by kernel_rfl) (by kernel_rfl) (fun _ _ _ h => h) (by rfl) ?y2_96 (by assumption) ?r2_96
                    case y2_96 => (intro w hSw; (try dsimp only at hSw); first | (go_simp; done) | (go_simp; with_reducible rfl))
                    try simp only [Act.put, List.setIfInBounds_toArray, List.set_cons_zero, List.set_cons_succ]
                    refine wpAnyH_takeD (i := 3) (some 45) (v := ?v3_97) rfl rfl (by kernel_rfl) (by kernel_rfl) (by kernel_rfl) (fun _ _ _ h => h) (by rfl) ?y3_97 (by assumption) ?r3_97
                    case y3_97 => (intro w hSw; (try dsimp only at hSw); first | (go_simp; done) | (go_simp; with_reducible rfl))
                    try simp only [Act.put, List.setIfInBounds_toArray, List.set_cons_zero, List.set_cons_succ]
                    refine wpAnyH_ready (rs := [1]) (by kernel_rfl) (by simp) ?_
                    refine AllReadyH.cons rfl (fun K hK => ?_) ?_
                    · go_simp
                      go_at_call 53
                      refine (functions_calls H8.out.drew (up4 HF.out) HFL.out).mono ?_
                      rintro z w9 ⟨vd, rfl, h9⟩
                      have H9 := hide h9
                      clear h9 H8
                      refine hK.out _ _ ?_ (fun hHeld => ?_)
                      · exact ⟨fun j u hj => by rw [Nat.zero_add]; exact (H9.out.blk_cell mem2 j).trans (by simpa using hj), H9.out.blk_cell mem1 2⟩
                      clear hK K
                      try simp only [Act.put, List.setIfInBounds_toArray, List.set_cons_zero, List.set_cons_succ]
                      refine wpAnyH_ready (rs := [4]) (by kernel_rfl) (by simp) ?_
                      refine AllReadyH.cons rfl (fun K hK => ?_) ?_
                      · go_simp
                        go_at_call 54
                        refine (among_calls H9.out mem0 x.name).mono ?_
                        rintro z w10 ⟨rfl, hw10⟩
                        subst hw10
                        rw [decl_names, IS.out]
                        refine hK.out _ _ ?_ (fun hHeld => ?_)
                        · exact ⟨fun j u hj => by rw [Nat.zero_add]; exact (H9.out.blk_cell mem2 j).trans (by simpa using hj), H9.out.blk_cell mem1 2⟩
                        clear hK K
                        try simp only [Act.put, List.setIfInBounds_toArray, List.set_cons_zero, List.set_cons_succ]
                        refine wpAnyH_takeD (i := 5) (some 8) (v := ?v5_98) rfl rfl (by kernel_rfl) (by kernel_rfl) (by kernel_rfl) (fun _ _ _ h => h) (by rfl) ?y5_98 (by assumption) ?r5_98
                        case y5_98 => (intro w hSw; (try dsimp only at hSw); first | (go_simp; done) | (go_simp; with_reducible rfl))
                        try simp only [Act.put, List.setIfInBounds_toArray, List.set_cons_zero, List.set_cons_succ]
                        refine wpAnyH_done (by kernel_rfl) ?_ _
                        have H10 := hide H9.out.drop
                        clear H9
                        go_wp2_with fail
                        have H11 := hide H10.out
                        clear H10
                        refine wp_region_held_drew (S := fun w' => (∀ j u, ([vv, vl, vf] : List Value)[j]? = some u → w'.cell? ⟨g2, 0 + j, none⟩ = some u) ∧ w'.cell? ⟨g7, 3, none⟩ = some va ∧ w'.cell? ⟨g7, 4, none⟩ = some vb2) (by kernel_rfl) ?_ (fun hHeld => ?_)
                        · exact ⟨fun j u hj => by rw [Nat.zero_add]; exact (H11.out.blk_cell mem1 j).trans (by simpa using hj), H11.out.blk_cell mem0 3, H11.out.blk_cell mem0 4⟩
                        refine wpAnyH_takeD (i := 0) (some 52) (v := .agg ([vv, vl, vf] : List Value).toArray) rfl rfl (by kernel_rfl) (by kernel_rfl) (by kernel_rfl) (fun _ _ _ h => h) (by rfl) ?y0_85 (by assumption) ?r0_85
                        case y0_85 => (intro w hSw; exact run_loadB agProg (.tmp 2) rfl rfl rfl hSw.1)
                        try simp only [Act.put, List.setIfInBounds_toArray, List.set_cons_zero, List.set_cons_succ]
                        refine wpAnyH_takeD (i := 2) (some 54) (v := ?v2_86) rfl rfl (by kernel_rfl) (by kernel_rfl) (by kernel_rfl) (fun _ _ _ h => h) (by rfl) ?y2_86 (by assumption) ?r2_86
                        case y2_86 => (intro w hSw; (try dsimp only at hSw); first | (go_simp; done) | (go_simp; with_reducible rfl))
                        try simp only [Act.put, List.setIfInBounds_toArray, List.set_cons_zero, List.set_cons_succ]
                        refine wpAnyH_takeD (i := 3) (some 55) (v := ?v3_87) rfl rfl (by kernel_rfl) (by kernel_rfl) (by kernel_rfl) (fun _ _ _ h => h) (by rfl) ?y3_87 (by assumption) ?r3_87
                        case y3_87 => (intro w hSw; (try dsimp only at hSw); first | (go_simp; done) | (go_simp; with_reducible rfl))
                        try simp only [Act.put, List.setIfInBounds_toArray, List.set_cons_zero, List.set_cons_succ]
                        refine wpAnyH_takeD (i := 5) (some 57) (v := ?v5_88) rfl rfl (by kernel_rfl) (by kernel_rfl) (by kernel_rfl) (fun _ _ _ h => h) (by rfl) ?y5_88 (by assumption) ?r5_88
                        case y5_88 => (intro w hSw; (try dsimp only at hSw); first | (go_simp; done) | (go_simp; with_reducible rfl))
                        try simp only [Act.put, List.setIfInBounds_toArray, List.set_cons_zero, List.set_cons_succ]
                        refine wpAnyH_takeD (i := 6) (some 58) (v := ?v6_89) rfl rfl (by kernel_rfl) (by kernel_rfl) (by kernel_rfl) (fun _ _ _ h => h) (by rfl) ?y6_89 (by assumption) ?r6_89
                        case y6_89 => (intro w hSw; (try dsimp only at hSw); first | (go_simp; done) | (go_simp; with_reducible rfl))
                        try simp only [Act.put, List.setIfInBounds_toArray, List.set_cons_zero, List.set_cons_succ]
                        refine wpAnyH_ready (rs := [1]) (by kernel_rfl) (by simp) ?_
                        refine AllReadyH.cons rfl (fun K hK => ?_) ?_
                        · refine step_build0_st (E := stmtE) rfl slStmt rfl H11.out.drew ?_
                          intro g12 w12 h12
                          have H12 := hide h12
                          clear h12 H11
                          refine hK.out _ _ ?_ (fun hHeld => ?_)
                          · exact ⟨fun j u hj => by rw [Nat.zero_add]; exact (H12.out.blk_cell mem2 j).trans (by simpa using hj), H12.out.blk_cell mem1 3, H12.out.blk_cell mem1 4⟩
                          clear hK K
                          try simp only [Act.put, List.setIfInBounds_toArray, List.set_cons_zero, List.set_cons_succ]
                          refine wpAnyH_ready (rs := [4]) (by kernel_rfl) (by simp) ?_
                          refine AllReadyH.cons rfl (fun K hK => ?_) ?_
                          · refine step_append_st (E := stmtE) rfl (.tmp 53) (.tmp 55) slStmt rfl H12.out (Src.of_sl mem3) rfl rfl (by simp; unfold maxLen; omega) (by simp; omega) ?_
                            intro vb13 n13 vc13 w13 hn13 h13
                            have H13 := hide h13
                            clear h13 H12 hn13
                            refine hK.out _ _ ?_ (fun hHeld => ?_)
                            · exact ⟨fun j u hj => by rw [Nat.zero_add]; exact (H13.out.blk_cell mem2 j).trans (by simpa using hj), H13.out.blk_cell mem1 3, H13.out.blk_cell mem1 4⟩
                            clear hK K
                            try simp only [Act.put, List.setIfInBounds_toArray, List.set_cons_zero, List.set_cons_succ]
                            refine wpAnyH_ready (rs := [7]) (by kernel_rfl) (by simp) ?_
                            refine AllReadyH.cons rfl (fun K hK => ?_) ?_
                            · refine step_append_st (E := stmtE) rfl (.tmp 56) (.tmp 58) slStmt rfl H13.out (Src.of_sl mem4) rfl rfl (by simp; unfold maxLen; omega) (by simp; omega) ?_
                              intro vb14 n14 vc14 w14 hn14 h14
                              have h15 := h14.persist
                              rw [List.nil_append, ← appS_toL] at h15
                              have H15 := hide h15
                              clear h14 h15 H13 hn14
                              refine hK.out _ _ ?_ (fun hHeld => ?_)
                              · exact ⟨fun j u hj => by rw [Nat.zero_add]; exact (H15.out.blk_cell mem2 j).trans (by simpa using hj), H15.out.blk_cell mem1 3, H15.out.blk_cell mem1 4⟩
                              clear hK K
                              try simp only [Act.put, List.setIfInBounds_toArray, List.set_cons_zero, List.set_cons_succ]
                              refine wpAnyH_ready (rs := [8]) (by kernel_rfl) (by simp) ?_
                              refine AllReadyH.cons rfl (fun K hK => ?_) ?_
                              · go_simp
                                go_at_call 55
                                refine (IHB.out b _ _ _ _ _ _ H15.out (up5 HV.out) (up5 HLK.out) (up5 HF.out) mem0 HZB.out HGB.out).mono ?_
                                rintro z w16 ⟨rfl, h16⟩
                                have H16 := hide h16
                                clear h16 H15
                                refine hK.out _ _ ?_ (fun hHeld => ?_)
                                · exact ⟨fun j u hj => by rw [Nat.zero_add]; exact (H16.out.blk_cell mem2 j).trans (by simpa using hj), H16.out.blk_cell mem1 3, H16.out.blk_cell mem1 4⟩
                                clear hK K
                                try simp only [Act.put, List.setIfInBounds_toArray, List.set_cons_zero, List.set_cons_succ]
                                refine wpAnyH_takeD (i := 9) (some 51) (v := ?v9_90) rfl rfl (by kernel_rfl) (by kernel_rfl) (by kernel_rfl) (fun _ _ _ h => h) (by rfl) ?y9_90 (by assumption) ?r9_90
                                case y9_90 => (intro w hSw; (try dsimp only at hSw); first | (go_simp; done) | (go_simp; with_reducible rfl))
                                try simp only [Act.put, List.setIfInBounds_toArray, List.set_cons_zero, List.set_cons_succ]
                                refine wpAnyH_takeD (i := 10) (some 61) (v := ?v10_91) rfl rfl (by kernel_rfl) (by kernel_rfl) (by kernel_rfl) (fun _ _ _ h => h) (by rfl) ?y10_91 (by assumption) ?r10_91
                                case y10_91 => (intro w hSw; (try dsimp only at hSw); first | (go_simp; done) | (go_simp; with_reducible rfl))
                                try simp only [Act.put, List.setIfInBounds_toArray, List.set_cons_zero, List.set_cons_succ]
                                refine wpAnyH_takeD (i := 11) (some 62) (v := ?v11_92) rfl rfl (by kernel_rfl) (by kernel_rfl) (by kernel_rfl) (fun _ _ _ h => h) (by rfl) ?y11_92 (by assumption) ?r11_92
                                case y11_92 => (intro w hSw; (try dsimp only at hSw); first | (go_simp; done) | (go_simp; with_reducible rfl))
                                try simp only [Act.put, List.setIfInBounds_toArray, List.set_cons_zero, List.set_cons_succ]
                                refine wpAnyH_takeD (i := 12) (some 9) (v := ?v12_93) rfl rfl (by kernel_rfl) (by kernel_rfl) (by kernel_rfl) (fun _ _ _ h => h) (by rfl) ?y12_93 (by assumption) ?r12_93
                                case y12_93 => (intro w hSw; (try dsimp only at hSw); first | (go_simp; done) | (go_simp; with_reducible rfl))
                                try simp only [Act.put, List.setIfInBounds_toArray, List.set_cons_zero, List.set_cons_succ]
                                refine wpAnyH_takeD (i := 13) (some 10) (v := ?v13_94) rfl rfl (by kernel_rfl) (by kernel_rfl) (by kernel_rfl) (fun _ _ _ h => h) (by rfl) ?y13_94 (by assumption) ?r13_94
                                case y13_94 => (intro w hSw; (try dsimp only at hSw); first | (go_simp; done) | (go_simp; with_reducible rfl))
                                try simp only [Act.put, List.setIfInBounds_toArray, List.set_cons_zero, List.set_cons_succ]
                                refine wpAnyH_done (by kernel_rfl) ?_ _
                                go_wp2_with fail
                                go_roundw
                                case rel => exact ⟨k + 1, by omega, by go_num, H16.out.drop.drop.d1.d1⟩
                                case measure => exact meas_step hlt
                              exact AllReadyH.nil
                            exact AllReadyH.nil
                          exact AllReadyH.nil
                        exact AllReadyH.nil
                      exact AllReadyH.nil
                    exact AllReadyH.nil
                  · have f6 : (kd == 6) = false := by rw [beq_eq_false_iff_ne]; exact e6
                    go_wp2_with (first
                      | (with_reducible refine wpList_load_ag (cs := [.int .i64 kd, .int .i64 x.pos, sv x.name, va, vb2]) rfl agStmt (.tmp 19) rfl rfl rfl HCS.out ?_)
                      | ((with_reducible refine wpList_alloc_ag rfl agStmt rfl H3.out ?_); intro g7 w7 h7; have H7 := hide h7; clear h7 H3)
                      | ((with_reducible refine wpList_store_ag (cs := [.int .i64 kd, .int .i64 x.pos, sv x.name, va, vb2]) rfl agStmt (.tmp 7) (.tmp 20) rfl rfl rfl rfl rfl HONE.out H7.out ?_); intro w8 h8; have k0 : w8.cell? ⟨g7, 0, none⟩ = some (.int .i64 kd) := h8.blk_cell mem0 0; have k2 : w8.cell? ⟨g7, 2, none⟩ = some (.string ⟨x.name.toArray⟩) := h8.blk_cell mem0 2; have p0 : w8.cell? ⟨g2, 0, none⟩ = some vv := h8.blk_cell mem1 0; have p1 : w8.cell? ⟨g2, 1, none⟩ = some vl := h8.blk_cell mem1 1; have H8 := hide h8; clear h8 H7))
                    have H11 := hide H8.out
                    clear H8
                    refine wp_region_held_drew (S := fun w' => (∀ j u, ([vv, vl, vf] : List Value)[j]? = some u → w'.cell? ⟨g2, 0 + j, none⟩ = some u) ∧ w'.cell? ⟨g7, 3, none⟩ = some va ∧ w'.cell? ⟨g7, 4, none⟩ = some vb2) (by kernel_rfl) ?_ (fun hHeld => ?_)
                    · exact ⟨fun j u hj => by rw [Nat.zero_add]; exact (H11.out.blk_cell mem1 j).trans (by simpa using hj), H11.out.blk_cell mem0 3, H11.out.blk_cell mem0 4⟩
                    refine wpAnyH_takeD (i := 0) (some 52) (v := .agg ([vv, vl, vf] : List Value).toArray) rfl rfl (by kernel_rfl) (by kernel_rfl) (by kernel_rfl) (fun _ _ _ h => h) (by rfl) ?y0_99 (by assumption) ?r0_99
                    case y0_99 => (intro w hSw; exact run_loadB agProg (.tmp 2) rfl rfl rfl hSw.1)
                    try simp only [Act.put, List.setIfInBounds_toArray, List.set_cons_zero, List.set_cons_succ]
                    refine wpAnyH_takeD (i := 2) (some 54) (v := ?v2_100) rfl rfl (by kernel_rfl) (by kernel_rfl) (by kernel_rfl) (fun _ _ _ h => h) (by rfl) ?y2_100 (by assumption) ?r2_100
                    case y2_100 => (intro w hSw; (try dsimp only at hSw); first | (go_simp; done) | (go_simp; with_reducible rfl))
                    try simp only [Act.put, List.setIfInBounds_toArray, List.set_cons_zero, List.set_cons_succ]
                    refine wpAnyH_takeD (i := 3) (some 55) (v := ?v3_101) rfl rfl (by kernel_rfl) (by kernel_rfl) (by kernel_rfl) (fun _ _ _ h => h) (by rfl) ?y3_101 (by assumption) ?r3_101
                    case y3_101 => (intro w hSw; (try dsimp only at hSw); first | (go_simp; done) | (go_simp; with_reducible rfl))
                    try simp only [Act.put, List.setIfInBounds_toArray, List.set_cons_zero, List.set_cons_succ]
                    refine wpAnyH_takeD (i := 5) (some 57) (v := ?v5_102) rfl rfl (by kernel_rfl) (by kernel_rfl) (by kernel_rfl) (fun _ _ _ h => h) (by rfl) ?y5_102 (by assumption) ?r5_102
                    case y5_102 => (intro w hSw; (try dsimp only at hSw); first | (go_simp; done) | (go_simp; with_reducible rfl))
                    try simp only [Act.put, List.setIfInBounds_toArray, List.set_cons_zero, List.set_cons_succ]
                    refine wpAnyH_takeD (i := 6) (some 58) (v := ?v6_103) rfl rfl (by kernel_rfl) (by kernel_rfl) (by kernel_rfl) (fun _ _ _ h => h) (by rfl) ?y6_103 (by assumption) ?r6_103
                    case y6_103 => (intro w hSw; (try dsimp only at hSw); first | (go_simp; done) | (go_simp; with_reducible rfl))
                    try simp only [Act.put, List.setIfInBounds_toArray, List.set_cons_zero, List.set_cons_succ]
                    refine wpAnyH_ready (rs := [1]) (by kernel_rfl) (by simp) ?_
                    refine AllReadyH.cons rfl (fun K hK => ?_) ?_
                    · refine step_build0_st (E := stmtE) rfl slStmt rfl H11.out.drew ?_
                      intro g12 w12 h12
                      have H12 := hide h12
                      clear h12 H11
                      refine hK.out _ _ ?_ (fun hHeld => ?_)
                      · exact ⟨fun j u hj => by rw [Nat.zero_add]; exact (H12.out.blk_cell mem2 j).trans (by simpa using hj), H12.out.blk_cell mem1 3, H12.out.blk_cell mem1 4⟩
                      clear hK K
                      try simp only [Act.put, List.setIfInBounds_toArray, List.set_cons_zero, List.set_cons_succ]
                      refine wpAnyH_ready (rs := [4]) (by kernel_rfl) (by simp) ?_
                      refine AllReadyH.cons rfl (fun K hK => ?_) ?_
                      · refine step_append_st (E := stmtE) rfl (.tmp 53) (.tmp 55) slStmt rfl H12.out (Src.of_sl mem3) rfl rfl (by simp; unfold maxLen; omega) (by simp; omega) ?_
                        intro vb13 n13 vc13 w13 hn13 h13
                        have H13 := hide h13
                        clear h13 H12 hn13
                        refine hK.out _ _ ?_ (fun hHeld => ?_)
                        · exact ⟨fun j u hj => by rw [Nat.zero_add]; exact (H13.out.blk_cell mem2 j).trans (by simpa using hj), H13.out.blk_cell mem1 3, H13.out.blk_cell mem1 4⟩
                        clear hK K
                        try simp only [Act.put, List.setIfInBounds_toArray, List.set_cons_zero, List.set_cons_succ]
                        refine wpAnyH_ready (rs := [7]) (by kernel_rfl) (by simp) ?_
                        refine AllReadyH.cons rfl (fun K hK => ?_) ?_
                        · refine step_append_st (E := stmtE) rfl (.tmp 56) (.tmp 58) slStmt rfl H13.out (Src.of_sl mem4) rfl rfl (by simp; unfold maxLen; omega) (by simp; omega) ?_
                          intro vb14 n14 vc14 w14 hn14 h14
                          have h15 := h14.persist
                          rw [List.nil_append, ← appS_toL] at h15
                          have H15 := hide h15
                          clear h14 h15 H13 hn14
                          refine hK.out _ _ ?_ (fun hHeld => ?_)
                          · exact ⟨fun j u hj => by rw [Nat.zero_add]; exact (H15.out.blk_cell mem2 j).trans (by simpa using hj), H15.out.blk_cell mem1 3, H15.out.blk_cell mem1 4⟩
                          clear hK K
                          try simp only [Act.put, List.setIfInBounds_toArray, List.set_cons_zero, List.set_cons_succ]
                          refine wpAnyH_ready (rs := [8]) (by kernel_rfl) (by simp) ?_
                          refine AllReadyH.cons rfl (fun K hK => ?_) ?_
                          · go_simp
                            go_at_call 55
                            refine (IHB.out b _ _ _ _ _ _ H15.out (up5 HV.out) (up5 HLK.out) (up5 HF.out) mem0 HZB.out HGB.out).mono ?_
                            rintro z w16 ⟨rfl, h16⟩
                            have H16 := hide h16
                            clear h16 H15
                            refine hK.out _ _ ?_ (fun hHeld => ?_)
                            · exact ⟨fun j u hj => by rw [Nat.zero_add]; exact (H16.out.blk_cell mem2 j).trans (by simpa using hj), H16.out.blk_cell mem1 3, H16.out.blk_cell mem1 4⟩
                            clear hK K
                            try simp only [Act.put, List.setIfInBounds_toArray, List.set_cons_zero, List.set_cons_succ]
                            refine wpAnyH_takeD (i := 9) (some 51) (v := ?v9_104) rfl rfl (by kernel_rfl) (by kernel_rfl) (by kernel_rfl) (fun _ _ _ h => h) (by rfl) ?y9_104 (by assumption) ?r9_104
                            case y9_104 => (intro w hSw; (try dsimp only at hSw); first | (go_simp; done) | (go_simp; with_reducible rfl))
                            try simp only [Act.put, List.setIfInBounds_toArray, List.set_cons_zero, List.set_cons_succ]
                            refine wpAnyH_takeD (i := 10) (some 61) (v := ?v10_105) rfl rfl (by kernel_rfl) (by kernel_rfl) (by kernel_rfl) (fun _ _ _ h => h) (by rfl) ?y10_105 (by assumption) ?r10_105
                            case y10_105 => (intro w hSw; (try dsimp only at hSw); first | (go_simp; done) | (go_simp; with_reducible rfl))
                            try simp only [Act.put, List.setIfInBounds_toArray, List.set_cons_zero, List.set_cons_succ]
                            refine wpAnyH_takeD (i := 11) (some 62) (v := ?v11_106) rfl rfl (by kernel_rfl) (by kernel_rfl) (by kernel_rfl) (fun _ _ _ h => h) (by rfl) ?y11_106 (by assumption) ?r11_106
                            case y11_106 => (intro w hSw; (try dsimp only at hSw); first | (go_simp; done) | (go_simp; with_reducible rfl))
                            try simp only [Act.put, List.setIfInBounds_toArray, List.set_cons_zero, List.set_cons_succ]
                            refine wpAnyH_takeD (i := 12) (some 9) (v := ?v12_107) rfl rfl (by kernel_rfl) (by kernel_rfl) (by kernel_rfl) (fun _ _ _ h => h) (by rfl) ?y12_107 (by assumption) ?r12_107
                            case y12_107 => (intro w hSw; (try dsimp only at hSw); first | (go_simp; done) | (go_simp; with_reducible rfl))
                            try simp only [Act.put, List.setIfInBounds_toArray, List.set_cons_zero, List.set_cons_succ]
                            refine wpAnyH_takeD (i := 13) (some 10) (v := ?v13_108) rfl rfl (by kernel_rfl) (by kernel_rfl) (by kernel_rfl) (fun _ _ _ h => h) (by rfl) ?y13_108 (by assumption) ?r13_108
                            case y13_108 => (intro w hSw; (try dsimp only at hSw); first | (go_simp; done) | (go_simp; with_reducible rfl))
                            try simp only [Act.put, List.setIfInBounds_toArray, List.set_cons_zero, List.set_cons_succ]
                            refine wpAnyH_done (by kernel_rfl) ?_ _
                            go_wp2_with fail
                            go_roundw
                            case rel => exact ⟨k + 1, by omega, by go_num, H16.out.drop.drop.d1.d1⟩
                            case measure => exact meas_step hlt
                          exact AllReadyH.nil
                        exact AllReadyH.nil
                      exact AllReadyH.nil
                    exact AllReadyH.nil
      · have hnlt : ¬ (k : Int) < l.toL.length := by omega
        go_wp2_with fail
        go_ret2
        exact ⟨rfl, H2.out.drop⟩
end Go.Proofs.Ytmebmgbjpbapjaa

namespace Go.Proofs.Ytmebmgbjpbapjaa
open Go.RowKit Go.Maps Go.MapKept
variable {b : Env} {L : List HP} {w : World}

theorem totS_succ {F : List FRec} {k : Nat} (hk : k < F.length) {x : FRec} (hx : F[k] = x) : totS (F.take (k + 1)) = totS (F.take k) + x.body.size := by
  rw [List.take_succ_eq_append_getElem hk, hx]; simp [totS]
theorem totS_take (F : List FRec) (k : Nat) : totS (F.take k) ≤ totS F := by
  have : totS (F.take k ++ F.drop k) = totS (F.take k) + totS (F.drop k) := by unfold totS; rw [List.map_append, List.sum_append]
  rw [List.take_append_drop] at this; omega
def Ck1 (b : Env) (L : List HP) (F : List FRec) (B1 : HP) (n i : Value) (wr : World) : Prop := ∃ k : Nat, k ≤ F.length ∧ i = .int .i64 k ∧ n = .int .i64 (totS (F.take k) : Nat) ∧ St b (B1 :: L) wr
def Ck2 (b : Env) (L : List HP) (n : Nat) (i : Value) (wr : World) : Prop := ∃ k : Nat, k ≤ n ∧ i = .int .i64 k ∧ St b L wr
theorem nodup_not {l : List DRec} (h : (l.map (·.name)).Nodup) {k : Nat} (hk : k < l.length) : l[k].name ∉ (l.take k).map (·.name) := by
  intro hm
  have e : l.map (·.name) = (l.take k).map (·.name) ++ (l[k].name :: (l.drop (k + 1)).map (·.name)) := by
    rw [← List.map_cons, ← List.drop_eq_getElem_cons hk, ← List.map_append, List.take_append_drop]
  rw [e] at h
  exact (List.nodup_append.1 h).2.2 _ hm _ (by simp) rfl
set_option linter.unusedSimpArgs false in
set_option maxRecDepth 100000 in
set_option maxHeartbeats 16000000 in
theorem check_calls (h : St b L w) {vv vl vf : Value} {V Lk : List DRec} {F : List FRec} (hv : HP.sl declE vv V ∈ L) (hlk : HP.sl declE vl Lk ∈ L) (hf : HP.sl funcE vf F ∈ L) (hV : V.length ≤ 20) (hL : Lk.length ≤ 20) (hF : F.length ≤ 20) (htot : totS F ≤ 200)
    (hnd : ((V ++ Lk ++ F.map declOf).map (·.name)).Nodup) (hg : ∀ x ∈ F, goodS (V.map (·.name)) (Lk.map (·.name)) (F.map (·.name)) x.body) (hmain : sMain ∈ F.map (·.name)) :
    Calls Try.prog 32 #[.agg #[vv, vl, vf]] w fun x w' => x = .returned (.tuple #[.int .i64 0, .int .i64 0]) ∧ St b L w' := by
  obtain ⟨bv, cv, rfl, _, _⟩ := h.sl_form hv
  obtain ⟨bl, cl, rfl, _, _⟩ := h.sl_form hlk
  obtain ⟨bf, cf, rfl, _, _⟩ := h.sl_form hf
  have hFi : (F.length : Int) ≤ 20 := by omega
  have hVi : (V.length : Int) ≤ 20 := by omega
  have hLi : (Lk.length : Int) ≤ 20 := by omega
  have H := hide h
  have HV := hide hv
  have HLK := hide hlk
  have HF := hide hf
  have HTOT := hide htot
  have HND := hide hnd
  have HG := hide hg
  have HMD := hide (decide_eq_true hmain)
  have HSZ : Hid (∀ x ∈ F, x.body.size ≤ 10000) := hide (fun x hx => Nat.le_trans (mem_tot hx) (by omega))
  clear h hv hlk hf htot hnd hg hmain
  go_enter Try.func32, Try.ntmps32
  go_wp2_with (first
    | ((with_reducible refine wpList_box_st (cs := [.slice bv V.length cv, .slice bl Lk.length cl, .slice bf F.length cf]) rfl (.tmp 0) rfl rfl H.out ?_); intro g1 w1 h1; have H1 := hide h1; clear h1 H))
  go_loopw [4, 5] (fun n i wr => Ck1 b L F (HP.blk g1 (.cells [.slice bv V.length cv, .slice bl Lk.length cl, .slice bf F.length cf].toArray 43)) n i wr) (fun _ i _ => F.length - (intOf i).toNat)
  case atStart => exact ⟨0, by omega, rfl, rfl, H1.out⟩
  case round =>
    obtain ⟨k, hk, rfl, rfl, hs⟩ := hrel
    have H2 := hide hs
    have n2 : wr.cell? ⟨g1, 2, none⟩ = some (.slice bf F.length cf) := hs.blk_cell mem0 2
    have n0 : wr.cell? ⟨g1, 0, none⟩ = some (.slice bv V.length cv) := hs.blk_cell mem0 0
    have n1 : wr.cell? ⟨g1, 1, none⟩ = some (.slice bl Lk.length cl) := hs.blk_cell mem0 1
    clear hs H1
    by_cases hlt : k < F.length
    · have hlt' : (k : Int) < F.length := by omega
      obtain ⟨g, o, rfl⟩ := H2.out.sl_base (up1 HF.out) (by omega) (by decide)
      obtain ⟨cs, h4⟩ := H2.out.elem (up1 HF.out) (List.getElem?_eq_getElem hlt) (by decide)
      obtain ⟨x, hx⟩ : ∃ x, F[k] = x := ⟨_, rfl⟩
      have hsu := totS_succ hlt hx
      have hst := totS_take F (k + 1)
      have htt := HTOT.out
      rw [hx] at h4
      obtain ⟨vx, hok, rfl, h5⟩ := h4.func
      have n3 : wr.cell? ⟨g, o + k * 3 + 2, none⟩ = some vx := h5.elem_cell mem1 2 rfl
      have HSU := hide hsu
      generalize totS (F.take k) = m at hsu HSU ⊢
      have SX : Hid (x.body.size ≤ 10000) := hide (by omega)
      have hb : m + x.body.size ≤ 200 := by omega
      generalize hz : x.body.size = z at hb HSU
      have HZ := hide hz
      have H5 := hide h5.d1
      clear h4 h5 hsu hst htt hx hok hz H2
      go_wp2_with (go_at_call 52; refine (count_calls x.body b _ _ _ H5.out mem0 SX.out).mono ?_; rintro z w6 ⟨rfl, h6⟩; rw [HZ.out]; have H6 := hide h6; clear h6 H5)
      go_roundw
      case rel => exact ⟨k + 1, by omega, by go_num, by rw [HSU.out]; simp, H6.out.drop⟩
      case measure => exact meas_step hlt
    · have hke : F.take k = F := List.take_of_length_le (by omega)
      rw [hke]
      have hnlt : ¬ (k : Int) < F.length := by omega
      have htt := HTOT.out
      generalize totS F = m at htt ⊢
      have hmi : (m : Int) ≤ 200 := by omega
      have HK0 := hide (And.intro n0 n1)
      have H8 := hide H2.out
      clear htt hke H2 HTOT
      go_wp2_with fail
      refine wp_region_held_drew (S := fun w' => (∀ j u, ([.slice bv V.length cv, .slice bl Lk.length cl, .slice bf F.length cf] : List Value)[j]? = some u → w'.cell? ⟨g1, 0 + j, none⟩ = some u) ∧ w'.cell? ⟨g1, 0, none⟩ = some (.slice bv V.length cv) ∧ w'.cell? ⟨g1, 1, none⟩ = some (.slice bl Lk.length cl)) (by kernel_rfl) ?_ (fun hHeld => ?_)
      · exact ⟨fun j u hj => by rw [Nat.zero_add]; exact (H8.out.blk_cell mem0 j).trans (by simpa using hj), HK0.out.1, HK0.out.2⟩
      refine wpAnyH_takeD (i := 1) (some 48) (v := ?v1_21) rfl rfl (by kernel_rfl) (by kernel_rfl) (by kernel_rfl) (fun _ _ _ h => h) (by rfl) ?y1_21 (by assumption) ?r1_21
      case y1_21 => (intro w hSw; (try dsimp only at hSw); first | (go_simp; done) | (go_simp; with_reducible rfl))
      try simp only [Act.put, List.setIfInBounds_toArray, List.set_cons_zero, List.set_cons_succ]
      refine wpAnyH_takeD (i := 2) (some 49) (v := ?v2_22) rfl rfl (by kernel_rfl) (by kernel_rfl) (by kernel_rfl) (fun _ _ _ h => h) (by rfl) ?y2_22 (by assumption) ?r2_22
      case y2_22 => (intro w hSw; (try dsimp only at hSw); first | (go_simp; done) | (go_simp; with_reducible rfl))
      try simp only [Act.put, List.setIfInBounds_toArray, List.set_cons_zero, List.set_cons_succ]
      refine wpAnyH_takeD (i := 4) (some 51) (v := ?v4_23) rfl rfl (by kernel_rfl) (by kernel_rfl) (by kernel_rfl) (fun _ _ _ h => h) (by rfl) ?y4_23 (by assumption) ?r4_23
      case y4_23 => (intro w hSw; (try dsimp only at hSw); first | (go_simp; done) | (go_simp; with_reducible rfl))
      try simp only [Act.put, List.setIfInBounds_toArray, List.set_cons_zero, List.set_cons_succ]
      refine wpAnyH_takeD (i := 5) (some 52) (v := ?v5_24) rfl rfl (by kernel_rfl) (by kernel_rfl) (by kernel_rfl) (fun _ _ _ h => h) (by rfl) ?y5_24 (by assumption) ?r5_24
      case y5_24 => (intro w hSw; (try dsimp only at hSw); first | (go_simp; done) | (go_simp; with_reducible rfl))
      try simp only [Act.put, List.setIfInBounds_toArray, List.set_cons_zero, List.set_cons_succ]
      refine wpAnyH_takeD (i := 7) (some 54) (v := .agg ([.slice bv V.length cv, .slice bl Lk.length cl, .slice bf F.length cf] : List Value).toArray) rfl rfl (by kernel_rfl) (by kernel_rfl) (by kernel_rfl) (fun _ _ _ h => h) (by rfl) ?y7_25 (by assumption) ?r7_25
      case y7_25 => (intro w hSw; exact run_loadB agProg (.tmp 1) rfl rfl rfl hSw.1)
      try simp only [Act.put, List.setIfInBounds_toArray, List.set_cons_zero, List.set_cons_succ]
      refine wpAnyH_ready (rs := [0]) (by kernel_rfl) (by simp) ?_
      refine AllReadyH.cons rfl (fun K hK => ?_) ?_
      · refine step_build0_st (E := declE) rfl slDecl rfl H8.out.drew ?_
        intro g20 w20 h20
        have H9 := hide h20
        clear h20
        clear H8
        have H8 := H9
        clear H9
        refine hK.out _ _ ?_ (fun hHeld => ?_)
        · exact ⟨fun j u hj => by rw [Nat.zero_add]; exact (H8.out.blk_cell mem1 j).trans (by simpa using hj), H8.out.blk_cell mem1 0, H8.out.blk_cell mem1 1⟩
        clear hK K
        try simp only [Act.put, List.setIfInBounds_toArray, List.set_cons_zero, List.set_cons_succ]
        refine wpAnyH_ready (rs := [3]) (by kernel_rfl) (by simp) ?_
        refine AllReadyH.cons rfl (fun K hK => ?_) ?_
        · refine step_append_st (E := declE) rfl (.tmp 47) (.tmp 49) slDecl rfl H8.out (Src.of_sl (up2 HV.out)) rfl rfl (by simp; unfold maxLen; omega) (by simp; omega) ?_
          intro vb22 n22 vc22 w22 hn22 h22
          have H9 := hide h22
          clear h22 hn22
          clear H8
          have H8 := H9
          clear H9
          refine hK.out _ _ ?_ (fun hHeld => ?_)
          · exact ⟨fun j u hj => by rw [Nat.zero_add]; exact (H8.out.blk_cell mem1 j).trans (by simpa using hj), H8.out.blk_cell mem1 0, H8.out.blk_cell mem1 1⟩
          clear hK K
          try simp only [Act.put, List.setIfInBounds_toArray, List.set_cons_zero, List.set_cons_succ]
          refine wpAnyH_ready (rs := [6]) (by kernel_rfl) (by simp) ?_
          refine AllReadyH.cons rfl (fun K hK => ?_) ?_
          · refine step_append_st (E := declE) rfl (.tmp 50) (.tmp 52) slDecl rfl H8.out (Src.of_sl (up2 HLK.out)) rfl rfl (by simp; unfold maxLen; omega) (by simp; omega) ?_
            intro vb23 n23 vc23 w23 hn23 h23
            have H9 := hide h23
            clear h23 hn23
            clear H8
            have H8 := H9
            clear H9
            refine hK.out _ _ ?_ (fun hHeld => ?_)
            · exact ⟨fun j u hj => by rw [Nat.zero_add]; exact (H8.out.blk_cell mem1 j).trans (by simpa using hj), H8.out.blk_cell mem1 0, H8.out.blk_cell mem1 1⟩
            clear hK K
            try simp only [Act.put, List.setIfInBounds_toArray, List.set_cons_zero, List.set_cons_succ]
            refine wpAnyH_ready (rs := [8]) (by kernel_rfl) (by simp) ?_
            refine AllReadyH.cons rfl (fun K hK => ?_) ?_
            · go_simp
              go_at_call 53
              refine (functions_calls H8.out (up2 HF.out) (by omega)).mono ?_
              rintro z w30 ⟨vd, rfl, h30⟩
              have H9 := hide h30.f1
              clear h30
              clear H8
              have H8 := H9
              clear H9
              refine hK.out _ _ ?_ (fun hHeld => ?_)
              · exact ⟨fun j u hj => by rw [Nat.zero_add]; exact (H8.out.blk_cell mem2 j).trans (by simpa using hj), H8.out.blk_cell mem2 0, H8.out.blk_cell mem2 1⟩
              clear hK K
              try simp only [Act.put, List.setIfInBounds_toArray, List.set_cons_zero, List.set_cons_succ]
              refine wpAnyH_ready (rs := [9]) (by kernel_rfl) (by simp) ?_
              refine AllReadyH.cons rfl (fun K hK => ?_) ?_
              · refine step_append_st (E := declE) rfl (.tmp 53) (.tmp 55) slDecl rfl H8.out (Src.of_sl mem1) rfl rfl (by simp; unfold maxLen; omega) (by simp; omega) ?_
                intro vb24 n24 vc24 w24 hn24 h24
                have H9 := hide h24
                have HN24 := hide hn24
                clear h24 hn24
                clear H8
                have H8 := H9
                clear H9
                refine hK.out _ _ ?_ (fun hHeld => ?_)
                · exact ⟨fun j u hj => by rw [Nat.zero_add]; exact (H8.out.blk_cell mem2 j).trans (by simpa using hj), H8.out.blk_cell mem2 0, H8.out.blk_cell mem2 1⟩
                clear hK K
                try simp only [Act.put, List.setIfInBounds_toArray, List.set_cons_zero, List.set_cons_succ]
                refine wpAnyH_takeD (i := 10) (some 6) (v := ?v10_26) rfl rfl (by kernel_rfl) (by kernel_rfl) (by kernel_rfl) (fun _ _ _ h => h) (by rfl) ?y10_26 (by assumption) ?r10_26
                case y10_26 => (intro w hSw; (try dsimp only at hSw); first | (go_simp; done) | (go_simp; with_reducible rfl))
                try simp only [Act.put, List.setIfInBounds_toArray, List.set_cons_zero, List.set_cons_succ]
                refine wpAnyH_done (by kernel_rfl) ?_ _
                have hAe : ((([] ++ V) ++ Lk) ++ F.map declOf) = V ++ Lk ++ F.map declOf := by simp
                have h10 := H8.out.persist.d1
                rw [hAe] at h10
                have hn24 := HN24.out
                have hAl : n24 = (V ++ Lk ++ F.map declOf).length := by rw [hn24]; simp; try omega
                subst hAl
                generalize hA : V ++ Lk ++ F.map declOf = A at h10 HND
                have hAi : A.length ≤ 60 := by rw [← hA]; simp; omega
                have hAI : (A.length : Int) ≤ 60 := by omega
                have H10 := hide h10
                clear h10 hAe hn24 HN24 H8 hA hAi
                go_wp2_with fail
                go_loopw [7] (fun i wr => Ck2 b (HP.sl declE (.slice vb24 A.length vc24) A :: HP.blk g1 (.cells [.slice bv V.length cv, .slice bl Lk.length cl, .slice bf F.length cf].toArray 43) :: L) A.length i wr) (fun i _ => A.length - (intOf i).toNat)
                case atStart => exact ⟨0, by omega, rfl, H10.out⟩
                case round =>
                  obtain ⟨k2, hk2, rfl, hs⟩ := hrel
                  have H11 := hide hs
                  have m2 : wr.cell? ⟨g1, 2, none⟩ = some (.slice bf F.length cf) := hs.blk_cell mem1 2
                  clear hs H10
                  by_cases hlt2 : k2 < A.length
                  · have hlt2' : (k2 : Int) < A.length := by omega
                    obtain ⟨gA, oA, hgA⟩ := H11.out.sl_base mem0 (by omega) (by decide)
                    subst hgA
                    obtain ⟨bs, cs2, hsl, h12⟩ := H11.out.slice_to slDecl mem0 k2 (by omega) .i64
                    have hcx := (h12.decl_at mem1 hlt2).1
                    have hni := nodup_not HND.out hlt2
                    obtain ⟨nm, hnm⟩ : ∃ n, A[k2].name = n := ⟨_, rfl⟩
                    rw [hnm] at hcx hni
                    have NIN := hide (decide_eq_false hni)
                    have H12 := hide h12
                    have HC11 := hide hcx
                    have HC12 : Hid (wr.drew.cell? ⟨gA, oA + k2 * 2, none⟩ = some (.string ⟨nm.toArray⟩)) := hide (by rw [← hnm]; exact (H12.out.drew.decl_at mem1 hlt2).1)
                    clear h12 hcx hni hnm H11
                    go_wp2_with fail
                    refine wp_region_held_drew (S := fun w' => w'.cell? ⟨gA, oA + k2 * 2, none⟩ = some (.string ⟨nm.toArray⟩)) (by kernel_rfl) ?_ (fun hHeld => ?_)
                    · exact HC11.out
                    refine wpAnyH_takeD (i := 0) (some 63) (v := ?v0_1) rfl rfl (by kernel_rfl) (by kernel_rfl) (by kernel_rfl) (fun _ _ _ h => h) (by rfl) ?y0_1 (by assumption) ?r0_1
                    case y0_1 => (intro w hSw; (try dsimp only at hSw); first | (go_simp; done) | (go_simp; with_reducible rfl))
                    try simp only [Act.put, List.setIfInBounds_toArray, List.set_cons_zero, List.set_cons_succ]
                    refine wpAnyH_takeD (i := 1) (some 64) (v := ?v1_2) rfl rfl (by kernel_rfl) (by kernel_rfl) (by kernel_rfl) (fun _ _ _ h => h) (by rfl) ?y1_2 (by assumption) ?r1_2
                    case y1_2 => (intro w hSw; (try dsimp only at hSw); first | (go_simp; done) | (go_simp; with_reducible rfl))
                    try simp only [Act.put, List.setIfInBounds_toArray, List.set_cons_zero, List.set_cons_succ]
                    refine wpAnyH_takeD (i := 2) (some 65) (v := ?v2_3) rfl rfl (by kernel_rfl) (by kernel_rfl) (by kernel_rfl) (fun _ _ _ h => h) (by rfl) ?y2_3 (by assumption) ?r2_3
                    case y2_3 => (intro w hSw; (try dsimp only at hSw); first | (go_simp; done) | (go_simp; with_reducible rfl))
                    try simp only [Act.put, List.setIfInBounds_toArray, List.set_cons_zero, List.set_cons_succ]
                    refine wpAnyH_takeD (i := 3) (some 66) (v := ?v3_4) rfl rfl (by kernel_rfl) (by kernel_rfl) (by kernel_rfl) (fun _ _ _ h => h) (by rfl) ?y3_4 (by assumption) ?r3_4
                    case y3_4 => (intro w hSw; (try dsimp only at hSw); first | (go_simp; done) | (go_simp; with_reducible rfl))
                    try simp only [Act.put, List.setIfInBounds_toArray, List.set_cons_zero, List.set_cons_succ]
                    refine wpAnyH_takeD (i := 4) (some 67) (v := ?v4_5) rfl rfl (by kernel_rfl) (by kernel_rfl) (by kernel_rfl) (fun _ _ _ h => h) (by rfl) ?y4_5 (by assumption) ?r4_5
                    case y4_5 => (intro w hSw; (try dsimp only at hSw); first | (go_simp; done) | (go_simp; with_reducible rfl))
                    try simp only [Act.put, List.setIfInBounds_toArray, List.set_cons_zero, List.set_cons_succ]
                    refine wpAnyH_takeD (i := 5) (some 68) (v := ?v5_6) rfl rfl (by kernel_rfl) (by kernel_rfl) (by kernel_rfl) (fun _ _ _ h => h) (by rfl) ?y5_6 (by assumption) ?r5_6
                    case y5_6 => (intro w hSw; (try dsimp only at hSw); first | (go_simp; done) | (go_simp; with_reducible rfl))
                    try simp only [Act.put, List.setIfInBounds_toArray, List.set_cons_zero, List.set_cons_succ]
                    refine wpAnyH_takeD (i := 6) (some 69) (v := ?v6_7) rfl rfl (by kernel_rfl) (by kernel_rfl) (by kernel_rfl) (fun _ _ _ h => h) (by rfl) ?y6_7 (by assumption) ?r6_7
                    case y6_7 => (intro w hSw; (try dsimp only at hSw); first | (go_simp; done) | (go_simp; with_reducible rfl))
                    try simp only [Act.put, List.setIfInBounds_toArray, List.set_cons_zero, List.set_cons_succ]
                    refine wpAnyH_takeD (i := 7) (some 70) (v := ?v7_8) rfl rfl (by kernel_rfl) (by kernel_rfl) (by kernel_rfl) (fun _ _ _ h => h) (by rfl) ?y7_8 (by assumption) ?r7_8
                    case y7_8 => (intro w hSw; (try dsimp only at hSw); first | (go_simp; done) | (go_simp; with_reducible rfl))
                    try simp only [Act.put, List.setIfInBounds_toArray, List.set_cons_zero, List.set_cons_succ]
                    refine wpAnyH_ready (rs := [8]) (by kernel_rfl) (by simp) ?_
                    refine AllReadyH.cons rfl (fun K hK => ?_) ?_
                    · go_simp
                      go_at_call 54
                      refine (among_calls H12.out.drew mem0 nm).mono ?_
                      rintro z w13 ⟨rfl, hw13⟩
                      subst hw13
                      rw [NIN.out]
                      refine hK.out _ _ ?_ (fun hHeld => ?_)
                      · exact HC12.out
                      clear hK K
                      try simp only [Act.put, List.setIfInBounds_toArray, List.set_cons_zero, List.set_cons_succ]
                      refine wpAnyH_done (by kernel_rfl) ?_ _
                      go_wp2_with fail
                      go_roundw
                      case rel => exact ⟨k2 + 1, by omega, by go_num, H12.out.drew.drop⟩
                      case measure => exact meas_step hlt2
                    exact AllReadyH.nil
                  · have hnlt2 : ¬ (k2 : Int) < A.length := by omega
                    have H12 := hide H11.out.drop
                    clear H11
                    go_wp2_with fail
                    go_loopw [8] (fun i wr => Ck2 b (HP.blk g1 (.cells [.slice bv V.length cv, .slice bl Lk.length cl, .slice bf F.length cf].toArray 43) :: L) F.length i wr) (fun i _ => F.length - (intOf i).toNat)
                    case atStart => exact ⟨0, by omega, rfl, H12.out⟩
                    case round =>
                      obtain ⟨k3, hk3, rfl, hs⟩ := hrel
                      have H13 := hide hs
                      have m3 : wr.cell? ⟨g1, 2, none⟩ = some (.slice bf F.length cf) := hs.blk_cell mem0 2
                      clear hs H12
                      by_cases hlt3 : k3 < F.length
                      · have hlt3' : (k3 : Int) < F.length := by omega
                        obtain ⟨gF, oF, hgF⟩ := H13.out.sl_base (up1 HF.out) (by omega) (by decide)
                        subst hgF
                        obtain ⟨cs, h4⟩ := H13.out.elem (up1 HF.out) (List.getElem?_eq_getElem hlt3) (by decide)
                        have hxm := List.getElem_mem hlt3
                        obtain ⟨x, hx⟩ : ∃ x, F[k3] = x := ⟨_, rfl⟩
                        rw [hx] at h4 hxm
                        obtain ⟨vx, hok, rfl, h5⟩ := h4.func
                        have HGX := hide (HG.out x hxm)
                        have SX : Hid (x.body.size ≤ 10000) := hide (HSZ.out x hxm)
                        have H17 := hide h5
                        have HC17 : Hid ((∀ j u, ([.slice bv V.length cv, .slice bl Lk.length cl, .slice (some ⟨gF, oF, none⟩) F.length cf] : List Value)[j]? = some u → wr.cell? ⟨g1, 0 + j, none⟩ = some u) ∧ wr.cell? ⟨g1, 2, none⟩ = some (.slice (some ⟨gF, oF, none⟩) F.length cf) ∧ wr.cell? ⟨gF, oF + k3 * 3 + 2, none⟩ = some vx) := hide ⟨fun j u hj => by rw [Nat.zero_add]; exact (h5.blk_cell mem2 j).trans (by simpa using hj), h5.blk_cell mem2 2, h5.elem_cell mem1 2 rfl⟩
                        clear h4 h5 hok hx hxm H13
                        go_wp2_with fail
                        refine wp_region_held_drew (S := fun w' => (∀ j u, ([.slice bv V.length cv, .slice bl Lk.length cl, .slice (some ⟨gF, oF, none⟩) F.length cf] : List Value)[j]? = some u → w'.cell? ⟨g1, 0 + j, none⟩ = some u) ∧ w'.cell? ⟨g1, 2, none⟩ = some (.slice (some ⟨gF, oF, none⟩) F.length cf) ∧ w'.cell? ⟨gF, oF + k3 * 3 + 2, none⟩ = some vx) (by kernel_rfl) ?_ (fun hHeld => ?_)
                        · exact HC17.out
                        refine wpAnyH_takeD (i := 0) (some 85) (v := .agg ([.slice bv V.length cv, .slice bl Lk.length cl, .slice (some ⟨gF, oF, none⟩) F.length cf] : List Value).toArray) rfl rfl (by kernel_rfl) (by kernel_rfl) (by kernel_rfl) (fun _ _ _ h => h) (by rfl) ?y0_9 (by assumption) ?r0_9
                        case y0_9 => (intro w hSw; exact run_loadB agProg (.tmp 1) rfl rfl rfl hSw.1)
                        try simp only [Act.put, List.setIfInBounds_toArray, List.set_cons_zero, List.set_cons_succ]
                        refine wpAnyH_takeD (i := 1) (some 86) (v := ?v1_10) rfl rfl (by kernel_rfl) (by kernel_rfl) (by kernel_rfl) (fun _ _ _ h => h) (by rfl) ?y1_10 (by assumption) ?r1_10
                        case y1_10 => (intro w hSw; (try dsimp only at hSw); first | (go_simp; done) | (go_simp; with_reducible rfl))
                        try simp only [Act.put, List.setIfInBounds_toArray, List.set_cons_zero, List.set_cons_succ]
                        refine wpAnyH_takeD (i := 2) (some 87) (v := ?v2_11) rfl rfl (by kernel_rfl) (by kernel_rfl) (by kernel_rfl) (fun _ _ _ h => h) (by rfl) ?y2_11 (by assumption) ?r2_11
                        case y2_11 => (intro w hSw; (try dsimp only at hSw); first | (go_simp; done) | (go_simp; with_reducible rfl))
                        try simp only [Act.put, List.setIfInBounds_toArray, List.set_cons_zero, List.set_cons_succ]
                        refine wpAnyH_takeD (i := 3) (some 88) (v := ?v3_12) rfl rfl (by kernel_rfl) (by kernel_rfl) (by kernel_rfl) (fun _ _ _ h => h) (by rfl) ?y3_12 (by assumption) ?r3_12
                        case y3_12 => (intro w hSw; (try dsimp only at hSw); first | (go_simp; done) | (go_simp; with_reducible rfl))
                        try simp only [Act.put, List.setIfInBounds_toArray, List.set_cons_zero, List.set_cons_succ]
                        refine wpAnyH_takeD (i := 4) (some 89) (v := ?v4_13) rfl rfl (by kernel_rfl) (by kernel_rfl) (by kernel_rfl) (fun _ _ _ h => h) (by rfl) ?y4_13 (by assumption) ?r4_13
                        case y4_13 => (intro w hSw; (try dsimp only at hSw); first | (go_simp; done) | (go_simp; with_reducible rfl))
                        try simp only [Act.put, List.setIfInBounds_toArray, List.set_cons_zero, List.set_cons_succ]
                        refine wpAnyH_takeD (i := 5) (some 90) (v := ?v5_14) rfl rfl (by kernel_rfl) (by kernel_rfl) (by kernel_rfl) (fun _ _ _ h => h) (by rfl) ?y5_14 (by assumption) ?r5_14
                        case y5_14 => (intro w hSw; (try dsimp only at hSw); first | (go_simp; done) | (go_simp; with_reducible rfl))
                        try simp only [Act.put, List.setIfInBounds_toArray, List.set_cons_zero, List.set_cons_succ]
                        refine wpAnyH_takeD (i := 6) (some 91) (v := ?v6_15) rfl rfl (by kernel_rfl) (by kernel_rfl) (by kernel_rfl) (fun _ _ _ h => h) (by rfl) ?y6_15 (by assumption) ?r6_15
                        case y6_15 => (intro w hSw; (try dsimp only at hSw); first | (go_simp; done) | (go_simp; with_reducible rfl))
                        try simp only [Act.put, List.setIfInBounds_toArray, List.set_cons_zero, List.set_cons_succ]
                        refine wpAnyH_ready (rs := [7]) (by kernel_rfl) (by simp) ?_
                        refine AllReadyH.cons rfl (fun K hK => ?_) ?_
                        · go_simp
                          go_at_call 55
                          refine (body_calls (by omega) x.body b _ _ _ _ _ _ H17.out.drew (up3 HV.out) (up3 HLK.out) (up3 HF.out) mem0 SX.out HGX.out).mono ?_
                          rintro z w18 ⟨rfl, h18⟩
                          have H18 := hide h18
                          clear h18 H17
                          refine hK.out _ _ ?_ (fun hHeld => ?_)
                          · exact ⟨fun j u hj => by rw [Nat.zero_add]; exact (H18.out.blk_cell mem2 j).trans (by simpa using hj), H18.out.blk_cell mem2 2, H18.out.elem_cell mem1 2 rfl⟩
                          clear hK K
                          try simp only [Act.put, List.setIfInBounds_toArray, List.set_cons_zero, List.set_cons_succ]
                          refine wpAnyH_takeD (i := 8) (some 84) (v := ?v8_16) rfl rfl (by kernel_rfl) (by kernel_rfl) (by kernel_rfl) (fun _ _ _ h => h) (by rfl) ?y8_16 (by assumption) ?r8_16
                          case y8_16 => (intro w hSw; (try dsimp only at hSw); first | (go_simp; done) | (go_simp; with_reducible rfl))
                          try simp only [Act.put, List.setIfInBounds_toArray, List.set_cons_zero, List.set_cons_succ]
                          refine wpAnyH_takeD (i := 9) (some 93) (v := ?v9_17) rfl rfl (by kernel_rfl) (by kernel_rfl) (by kernel_rfl) (fun _ _ _ h => h) (by rfl) ?y9_17 (by assumption) ?r9_17
                          case y9_17 => (intro w hSw; (try dsimp only at hSw); first | (go_simp; done) | (go_simp; with_reducible rfl))
                          try simp only [Act.put, List.setIfInBounds_toArray, List.set_cons_zero, List.set_cons_succ]
                          refine wpAnyH_takeD (i := 10) (some 94) (v := ?v10_18) rfl rfl (by kernel_rfl) (by kernel_rfl) (by kernel_rfl) (fun _ _ _ h => h) (by rfl) ?y10_18 (by assumption) ?r10_18
                          case y10_18 => (intro w hSw; (try dsimp only at hSw); first | (go_simp; done) | (go_simp; with_reducible rfl))
                          try simp only [Act.put, List.setIfInBounds_toArray, List.set_cons_zero, List.set_cons_succ]
                          refine wpAnyH_takeD (i := 11) (some 9) (v := ?v11_19) rfl rfl (by kernel_rfl) (by kernel_rfl) (by kernel_rfl) (fun _ _ _ h => h) (by rfl) ?y11_19 (by assumption) ?r11_19
                          case y11_19 => (intro w hSw; (try dsimp only at hSw); first | (go_simp; done) | (go_simp; with_reducible rfl))
                          try simp only [Act.put, List.setIfInBounds_toArray, List.set_cons_zero, List.set_cons_succ]
                          refine wpAnyH_takeD (i := 12) (some 10) (v := ?v12_20) rfl rfl (by kernel_rfl) (by kernel_rfl) (by kernel_rfl) (fun _ _ _ h => h) (by rfl) ?y12_20 (by assumption) ?r12_20
                          case y12_20 => (intro w hSw; (try dsimp only at hSw); first | (go_simp; done) | (go_simp; with_reducible rfl))
                          try simp only [Act.put, List.setIfInBounds_toArray, List.set_cons_zero, List.set_cons_succ]
                          refine wpAnyH_done (by kernel_rfl) ?_ _
                          go_wp2_with fail
                          go_roundw
                          case rel => exact ⟨k3 + 1, by omega, by go_num, H18.out.drop.drop⟩
                          case measure => exact meas_step hlt3
                        exact AllReadyH.nil
                      · have hnlt3 : ¬ (k3 : Int) < F.length := by omega
                        go_wp2_with (first
                          | (refine wpList_loadB_st (cs := [.slice bv V.length cv, .slice bl Lk.length cl, .slice bf F.length cf]) rfl agProg (.tmp 1) rfl rfl rfl H13.out mem0 ?_)
                          | (go_at_call 53; refine (functions_calls H13.out (up1 HF.out) (by omega)).mono ?_; rintro z w20 ⟨vd2, rfl, h20⟩; have H20 := hide h20; clear h20 H13)
                          | (go_at_call 54; refine (among_calls H20.out mem0 sMain).mono ?_; rintro z w21 ⟨rfl, hw21⟩; subst hw21; rw [decl_names, HMD.out]))
                        go_ret2
                        exact ⟨rfl, H20.out.drop.drop⟩
              exact AllReadyH.nil
            exact AllReadyH.nil
          exact AllReadyH.nil
        exact AllReadyH.nil
      exact AllReadyH.nil

theorem nameR_good {t : Int} (k n : Int) {N : List Str} (hN : ∀ y, y ∈ N ↔ y ∈ namesU) : goodN (varsR.map (·.name)) ((locksR t).map (·.name)) N k (nameR k n) := by
  have pick : ∀ (l : List Str) (m : Int), 0 < l.length → l[(m % l.length).toNat]?.getD [] ∈ l := fun l m hl => by
    have h1 := Int.emod_nonneg m (show (l.length : Int) ≠ 0 by omega)
    have h2 := Int.emod_lt_of_pos m (show (0 : Int) < l.length by omega)
    have h3 : (m % l.length).toNat < l.length := by omega
    rw [List.getElem?_eq_getElem h3]; exact List.getElem_mem h3
  have hlk : ∀ y, y ∈ [sL, sM, sN] → y ∈ (locksR t).map (·.name) := fun y hy => by
    unfold locksR
    split <;> (simp only [List.map_cons, List.map_nil, List.mem_cons, List.not_mem_nil, or_false] at hy ⊢; grind)
  unfold goodN nameR
  refine ⟨fun h => ?_, fun h => ?_, fun h => ?_⟩
  · have e : nameAt k = [sX, sY, sZ] := by rcases h with rfl | rfl <;> rfl
    rw [e]; exact pick _ n (by decide)
  · have e : nameAt k = [sL, sM, sN] := by rcases h with rfl | rfl <;> rfl
    rw [e]; exact hlk _ (pick _ n (by decide))
  · have e : nameAt k = [sF, sG, sH, sMain] := by rcases h with rfl | rfl <;> rfl
    rw [e, hN]
    have := pick [sF, sG, sH, sMain] n (by decide)
    generalize [sF, sG, sH, sMain][(n % ([sF, sG, sH, sMain] : List Str).length).toNat]?.getD [] = y at this ⊢
    simp only [namesU, List.mem_cons, List.not_mem_nil, or_false] at this ⊢
    grind
theorem blockR_good {t : Int} {N : List Str} (hN : ∀ y, y ∈ N ↔ y ∈ namesU) : ∀ l : Raws, goodS (varsR.map (·.name)) ((locksR t).map (·.name)) N (blockR l)
  | .nil => trivial
  | .cons k n A B r => by
    refine ⟨nameR_good _ n hN, ?_, ?_, blockR_good hN r⟩
    · split
      · exact blockR_good hN A
      · trivial
    · split
      · exact blockR_good hN B
      · trivial
theorem funcsR_good {a c d e : Raws} {t : Int} : ∀ x ∈ funcsR a c d e t, goodS (varsR.map (·.name)) ((locksR t).map (·.name)) ((funcsR a c d e t).map (·.name)) x.body := fun x hx => by
  obtain ⟨⟨l, hl⟩, _⟩ := funcsR_body hx
  rw [hl]
  exact blockR_good (fun y => funcsR_names y) l
theorem funcsR_nodup {a c d e : Raws} {t : Int} : ((varsR ++ locksR t ++ (funcsR a c d e t).map declOf).map (·.name)).Nodup := by
  rw [List.map_append, List.map_append, decl_names]
  unfold locksR funcsR
  split <;> split <;> (simp only [varsR, List.map_cons, List.map_nil]; decide)
theorem namesP_none {kind : Int} {s : Str} : ∀ {F : List FRec}, s ∉ F.map (·.name) → namesP kind F s = []
  | [], _ => rfl
  | a :: F, h => by
    have h1 : a.name ≠ s := fun e => h (by simp [e])
    have h2 := namesP_none (kind := kind) (s := s) (F := F) (fun hm => h (List.mem_map.2 (by obtain ⟨r, hr, e⟩ := List.mem_map.1 hm; exact ⟨r, List.mem_cons_of_mem _ hr, e⟩)))
    unfold namesP at h2 ⊢
    rw [List.flatMap_cons, if_neg h1, h2]; rfl
theorem namesP_uniq {kind : Int} : ∀ {F : List FRec}, (F.map (·.name)).Nodup → ∀ {i : Nat} {x : FRec}, F[i]? = some x → namesP kind F x.name = names kind x.body
  | [], _, i, x, h => by simp at h
  | a :: F, hn, 0, x, h => by
    simp at h; subst h
    rw [List.map_cons, List.nodup_cons] at hn
    have h2 := namesP_none (kind := kind) hn.1
    unfold namesP at h2 ⊢
    rw [List.flatMap_cons, if_pos rfl, h2, List.append_nil]
  | a :: F, hn, i + 1, x, h => by
    rw [List.map_cons, List.nodup_cons] at hn
    have hx : x ∈ F := List.mem_of_getElem? (i := i) (by simpa using h)
    have h1 : a.name ≠ x.name := fun e => hn.1 (by rw [e]; exact List.mem_map_of_mem hx)
    have h2 := namesP_uniq (kind := kind) hn.2 (i := i) (x := x) (by simpa using h)
    unfold namesP at h2 ⊢
    rw [List.flatMap_cons, if_neg h1, h2]; rfl
theorem funcsR_nd {a c d e : Raws} {t : Int} : ((funcsR a c d e t).map (·.name)).Nodup := by
  unfold funcsR
  split <;> (simp only [List.map_cons, List.map_nil]; decide)
end Go.Proofs.Ytmebmgbjpbapjaa
