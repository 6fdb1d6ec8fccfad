/-
  deadboltlaw8: turned.
-/
import Derived.Test.YtmebmgbjpbapjaaP3
namespace Go.Proofs.Ytmebmgbjpbapjaa
open Go.RowKit Go.Maps Go.MapKept
variable {b : Env} {L : List HP} {w : World}

def swapK (k : Int) : Int := if k = 5 then 6 else if k = 6 then 5 else k
/-- Each call a spawn, each spawn a call. -/
def turnS : Stms → Stms
  | .nil => .nil
  | .cons k p n A B r => .cons (swapK k) p n (turnS A) (turnS B) (turnS r)
def turnOf (s : SRec) : SRec := ⟨swapK s.kind, s.pos, s.name, turnS s.A, turnS s.B⟩
theorem turnS_toL : ∀ l : Stms, (turnS l).toL = l.toL.map turnOf
  | .nil => rfl
  | .cons k p n A B r => by simp [turnS, Stms.toL, turnOf, turnS_toL r]
theorem turnS_size : ∀ l : Stms, (turnS l).size = l.size
  | .nil => rfl
  | .cons k p n A B r => by simp [turnS, Stms.size, turnS_size A, turnS_size B, turnS_size r]
theorem Stms.size_len : ∀ l : Stms, l.toL.length ≤ l.size
  | .nil => by simp [Stms.toL]
  | .cons k p n A B r => by have := Stms.size_len r; simp [Stms.toL, Stms.size]; omega
theorem szInt : (Try.prog.info? 3).map (·.size) = some 1 := by kernel_rfl

def GTurned (l : Stms) : Prop := ∀ (b : Env) (L : List HP) (w : World) (v : Value), St b L w → HP.sl stmtE v l.toL ∈ L → l.size ≤ 1000 →
    Calls Try.prog 20 #[v] w fun x w' => ∃ v', x = .returned v' ∧ St b (HP.sl stmtE v' (turnS l).toL :: L) w'
def TurnedAt (b : Env) (L : List HP) (l : List SRec) (v i : Value) (wr : World) : Prop := ∃ k : Nat, k ≤ l.length ∧ i = .int .i64 k ∧ ∃ base cap, v = .slice base k cap ∧ St b (HP.rows 50 stmtE v ((l.take k).map turnOf) :: L) wr

set_option maxRecDepth 100000 in
set_option maxHeartbeats 8000000 in
theorem gturned_all : ∀ (n : Nat) (l : Stms), l.size = n → GTurned l := by
  intro n
  induction n using Nat.strongRecOn with
  | _ n ih =>
    intro l hl b L w v h hm hsz
    obtain ⟨base, cap, rfl, hc1, hc2⟩ := h.sl_form hm
    have hm2 : (l.toL.length : Int) ≤ 9223372036854775807 := by unfold maxLen at hc2; omega
    have hlen : l.toL.length ≤ 1000 := Nat.le_trans (Stms.size_len l) hsz
    have H := hide (h.rows_nil 50 stmtE)
    have HM := hide hm
    have IH := hide ih
    have HL := hide hl
    have HSZ := hide hsz
    clear h hm hc1 hc2 ih hl hsz
    go_enter Try.func20, Try.ntmps20
    go_wp2_with fail
    go_loopw [3, 4] (fun v i wr => TurnedAt b L l.toL v i wr) (fun _ i _ => l.toL.length - (intOf i).toNat)
    case atStart => exact ⟨0, by omega, rfl, none, 0, rfl, H.out⟩
    case round =>
      obtain ⟨k, hk, rfl, vb, vc, rfl, hs⟩ := hrel
      have H1 := hide hs
      clear hs H
      by_cases hlt : k < l.toL.length
      · have hlt' : (k : Int) < l.toL.length := by omega
        obtain ⟨g, o, rfl⟩ := H1.out.sl_base (up1 HM.out) (by omega) (by decide)
        obtain ⟨cs, h2⟩ := H1.out.elem (up1 HM.out) (List.getElem?_eq_getElem hlt) (by decide)
        have hsm := Stms.size_mem (List.getElem_mem hlt)
        have htk := List.take_succ_eq_append_getElem hlt
        have hdl : ((l.toL.take k).map turnOf).length = k := by simp; omega
        obtain ⟨x, hx⟩ : ∃ x, l.toL[k] = x := ⟨_, rfl⟩
        rw [hx] at h2 hsm htk
        obtain ⟨e1, _, _, hrd⟩ := h2.elem_rd mem0
        have HONE := hide (stmtE.one hrd)
        obtain ⟨va, vb2, hok, rfl, h3⟩ := h2.stmt
        have hszA : x.A.size ≤ 1000 := by have := HSZ.out; omega
        have hszB : x.B.size ≤ 1000 := by have := HSZ.out; omega
        have IHA : Hid (GTurned x.A) := hide (IH.out x.A.size (by rw [← HL.out]; exact hsm.1) x.A rfl)
        have IHB : Hid (GTurned x.B) := hide (IH.out x.B.size (by rw [← HL.out]; exact hsm.2) x.B rfl)
        have HTK : Hid ((l.toL.take (k + 1)).map turnOf = (l.toL.take k).map turnOf ++ [turnOf x]) := hide (by rw [htk, List.map_append]; rfl)
        have HCS : Hid (∀ j u, [Value.int .i64 x.kind, .int .i64 x.pos, sv x.name, va, vb2][j]? = some u → wr.cell? ⟨g, o + k * 5 + j, none⟩ = some u) := hide (fun j u hj => h3.elem_cell mem2 j hj)
        have HOK := hide hok
        have hq1 : ((l.toL.take k).map turnOf).length + [turnOf x].length ≤ maxLen := by rw [hdl]; unfold maxLen; simp; omega
        have hq2 : (((l.toL.take k).map turnOf).length + [turnOf x].length) * 80 ≤ 140737488355328 := by rw [hdl]; simp; omega
        generalize hdone : (l.toL.take k).map turnOf = done at h3 HTK hdl hq1 hq2
        have HDL := hide hdl
        have H3 := hide h3
        clear h2 h3 hsm htk hx H1 hdone hdl hrd hok
        have hcase : x.kind = 5 ∨ x.kind = 6 ∨ (x.kind ≠ 5 ∧ x.kind ≠ 6) := by omega
        rcases hcase with hkk | hkk | ⟨hkk, hkk2⟩
        · have hb1 : (x.kind == 5) = true := by rw [hkk]; rfl
          have hb2 : (x.kind == 6) = false := by rw [hkk]; rfl
          have HSO : Hid (turnOf x = ⟨6, x.pos, x.name, turnS x.A, turnS x.B⟩) := hide (by unfold turnOf; rw [show swapK x.kind = 6 by show swapK x.kind = 6; rw [hkk]; rfl])
          clear hkk
          go_wp2_with (first
            | (with_reducible refine wpList_load_ag (cs := [.int .i64 x.kind, .int .i64 x.pos, sv x.name, va, vb2]) rfl agStmt (.tmp 14) rfl rfl rfl HCS.out ?_)
            | ((with_reducible refine wpList_alloc_ag rfl agStmt rfl H3.out ?_); intro g9 w9 h9; have H9 := hide h9; clear h9 H3)
            | ((with_reducible refine wpList_store_ag (cs := [.int .i64 x.kind, .int .i64 x.pos, sv x.name, va, vb2]) rfl agStmt (.tmp 5) (.tmp 15) rfl rfl rfl rfl rfl HONE.out H9.out ?_); intro w10 h10; have k0 : w10.cell? ⟨g9, 0, none⟩ = some (.int .i64 x.kind) := h10.blk_cell mem0 0; have H10 := hide h10; clear h10 H9)
            | ((with_reducible refine wpList_storeF_st (cs := [.int .i64 x.kind, .int .i64 x.pos, sv x.name, va, vb2]) (ds := [.int .i64 6, .int .i64 x.pos, sv x.name, va, vb2]) rfl 3 (.tmp 20) (.const (.int .i64 6)) rfl szInt rfl rfl rfl rfl H10.out (by simp) rfl ?_); intro w11 h11; have a3 : w11.cell? ⟨g9, 3, none⟩ = some va := h11.blk_cell mem0 3; have a4 : w11.cell? ⟨g9, 4, none⟩ = some vb2 := h11.blk_cell mem0 4; have H11 := hide h11; clear h11 H10))
          refine wp_region_held_drew (S := fun _ => True) (by kernel_rfl) ?_ (fun hHeld => ?_)
          · trivial
          refine wpAnyH_takeD (i := 0) (some 24) (v := ?v0_1) rfl rfl (by kernel_rfl) (by kernel_rfl) (by kernel_rfl) (fun _ _ _ h => h) (by rfl) ?y0_1 (by assumption) ?r0_1
          case y0_1 => (intro w hSw; (try dsimp only at hSw); first | (go_simp; done) | (go_simp; with_reducible rfl))
          try simp only [Act.put, List.setIfInBounds_toArray, List.set_cons_zero, List.set_cons_succ]
          refine wpAnyH_takeD (i := 3) (some 27) (v := ?v3_2) rfl rfl (by kernel_rfl) (by kernel_rfl) (by kernel_rfl) (fun _ _ _ h => h) (by rfl) ?y3_2 (by assumption) ?r3_2
          case y3_2 => (intro w hSw; (try dsimp only at hSw); first | (go_simp; done) | (go_simp; with_reducible rfl))
          try simp only [Act.put, List.setIfInBounds_toArray, List.set_cons_zero, List.set_cons_succ]
          refine wpAnyH_ready (rs := [1, 4]) (by kernel_rfl) (by simp) ?_
          refine AllReadyH.cons rfl (fun K hK => ?_) ?_
          · go_simp
            refine hK.out _ _ ?_ (fun hHeld => ?_)
            · trivial
            clear hK K
            try simp only [Act.put, List.setIfInBounds_toArray, List.set_cons_zero, List.set_cons_succ]
            refine wpAnyH_ready (rs := [2, 4]) (by kernel_rfl) (by simp) ?_
            refine AllReadyH.cons rfl (fun K hK => ?_) ?_
            · go_simp
              go_at_call 20
              refine (IHA.out _ _ _ _ H11.out.drew mem1 hszA).mono ?_
              rintro z w12 ⟨vA, rfl, h12⟩
              obtain ⟨bA, cA, hvA, _⟩ := h12.sl_form mem0
              subst hvA
              have a4b : w12.cell? ⟨g9, 4, none⟩ = some vb2 := h12.blk_cell mem1 4
              have H12 := hide h12.f1
              clear h12 H11
              refine hK.out _ _ ?_ (fun hHeld => ?_)
              · trivial
              clear hK K
              try simp only [Act.put, List.setIfInBounds_toArray, List.set_cons_zero, List.set_cons_succ]
              refine wpAnyH_ready (rs := [4]) (by kernel_rfl) (by simp) ?_
              refine AllReadyH.cons rfl (fun K hK => ?_) ?_
              · go_simp
                refine hK.out _ _ ?_ (fun hHeld => ?_)
                · trivial
                clear hK K
                try simp only [Act.put, List.setIfInBounds_toArray, List.set_cons_zero, List.set_cons_succ]
                refine wpAnyH_takeD (i := 6) (some 30) (v := ?v6_3) rfl rfl (by kernel_rfl) (by kernel_rfl) (by kernel_rfl) (fun _ _ _ h => h) (by rfl) ?y6_3 (by assumption) ?r6_3
                case y6_3 => (intro w hSw; (try dsimp only at hSw); first | (go_simp; done) | (go_simp; with_reducible rfl))
                try simp only [Act.put, List.setIfInBounds_toArray, List.set_cons_zero, List.set_cons_succ]
                refine wpAnyH_ready (rs := [5]) (by kernel_rfl) (by simp) ?_
                refine AllReadyH.cons rfl (fun K hK => ?_) ?_
                · go_simp
                  go_at_call 20
                  refine (IHB.out _ _ _ _ H12.out mem3 hszB).mono ?_
                  rintro z w13 ⟨vB, rfl, h13⟩
                  obtain ⟨bB, cB, hvB, _⟩ := h13.sl_form mem0
                  subst hvB
                  have H13 := hide h13.f1
                  clear h13 H12
                  refine hK.out _ _ ?_ (fun hHeld => ?_)
                  · trivial
                  clear hK K
                  try simp only [Act.put, List.setIfInBounds_toArray, List.set_cons_zero, List.set_cons_succ]
                  refine wpAnyH_ready (rs := [7]) (by kernel_rfl) (by simp) ?_
                  refine AllReadyH.cons rfl (fun K hK => ?_) ?_
                  · refine step_storeF_st (cs := [.int .i64 6, .int .i64 x.pos, sv x.name, va, vb2]) (ds := [.int .i64 6, .int .i64 x.pos, sv x.name, .slice bA (turnS x.A).toL.length cA, vb2]) rfl 45 (.tmp 30) (.tmp 26) rfl szStmts rfl rfl rfl rfl H13.out (by simp) rfl ?_
                    intro w15 h15
                    have H15 := hide h15
                    clear h15 H13
                    refine hK.out _ _ ?_ (fun hHeld => ?_)
                    · trivial
                    clear hK K
                    try simp only [Act.put, List.setIfInBounds_toArray, List.set_cons_zero, List.set_cons_succ]
                    refine wpAnyH_takeD (i := 8) (some 31) (v := ?v8_4) rfl rfl (by kernel_rfl) (by kernel_rfl) (by kernel_rfl) (fun _ _ _ h => h) (by rfl) ?y8_4 (by assumption) ?r8_4
                    case y8_4 => (intro w hSw; (try dsimp only at hSw); first | (go_simp; done) | (go_simp; with_reducible rfl))
                    try simp only [Act.put, List.setIfInBounds_toArray, List.set_cons_zero, List.set_cons_succ]
                    refine wpAnyH_ready (rs := [9]) (by kernel_rfl) (by simp) ?_
                    refine AllReadyH.cons rfl (fun K hK => ?_) ?_
                    · refine step_storeF_st (cs := [.int .i64 6, .int .i64 x.pos, sv x.name, .slice bA (turnS x.A).toL.length cA, vb2]) (ds := [.int .i64 6, .int .i64 x.pos, sv x.name, .slice bA (turnS x.A).toL.length cA, .slice bB (turnS x.B).toL.length cB]) rfl 45 (.tmp 31) (.tmp 29) rfl szStmts rfl rfl rfl rfl H15.out (by simp) rfl ?_
                      intro w16 h16
                      have HZ0 := hide h16
                      clear h16 H15
                      refine hK.out _ _ ?_ (fun hHeld => ?_)
                      · trivial
                      clear hK K
                      try simp only [Act.put, List.setIfInBounds_toArray, List.set_cons_zero, List.set_cons_succ]
                      refine wpAnyH_done (by kernel_rfl) ?_ _
                      have HZ := hide HZ0.out.d3.d3.d3
                      clear HZ0
                      go_wp2_with (first
                        | (refine wpList_loadB_st (cs := [.int .i64 6, .int .i64 x.pos, sv x.name, .slice bA (turnS x.A).toL.length cA, .slice bB (turnS x.B).toL.length cB]) rfl agStmt (.tmp 5) rfl rfl rfl HZ.out mem0 ?_)
                        | (refine wpList_build1_st (E := stmtE) rfl (.tmp 33) slStmt rfl (turnOf x) rfl HZ.out ?_ ?_; exact (fun e hl hs => by rw [HSO.out]; exact ⟨_, _, rfl, HOK.out, Stms.sl_iff.2 (hs.sl_mem mem2), Stms.sl_iff.2 (hs.sl_mem mem1)⟩); intro g13 w13 h13; have H13 := hide h13.f4; clear h13 HZ)
                        | (at_builtin; refine wpList_append_st rfl (.tmp 32) (.tmp 34) slStmt rfl H13.out (Src.of_rows mem1) rfl rfl hq1 hq2 ?_; intro vb3 n3 vc3 w14 hn3 h14; have H14 := hide (h14.d1.d1.d1.d1); have HN3 := hide hn3; clear h14 H13 hn3))
                      go_roundw
                      case rel => exact ⟨k + 1, by omega, by go_num, vb3, vc3, by rw [HN3.out, HDL.out]; rfl, by rw [HTK.out]; exact H14.out⟩
                      case measure => exact meas_step hlt
                    exact AllReadyH.nil
                  exact AllReadyH.nil
                exact AllReadyH.nil
              exact AllReadyH.nil
            refine AllReadyH.cons rfl (fun K hK => ?_) ?_
            · go_simp
              refine hK.out _ _ ?_ (fun hHeld => ?_)
              · trivial
              clear hK K
              try simp only [Act.put, List.setIfInBounds_toArray, List.set_cons_zero, List.set_cons_succ]
              refine wpAnyH_ready (rs := [2]) (by kernel_rfl) (by simp) ?_
              refine AllReadyH.cons rfl (fun K hK => ?_) ?_
              · go_simp
                go_at_call 20
                refine (IHA.out _ _ _ _ H11.out.drew mem1 hszA).mono ?_
                rintro z w12 ⟨vA, rfl, h12⟩
                obtain ⟨bA, cA, hvA, _⟩ := h12.sl_form mem0
                subst hvA
                have a4b : w12.cell? ⟨g9, 4, none⟩ = some vb2 := h12.blk_cell mem1 4
                have H12 := hide h12.f1
                clear h12 H11
                refine hK.out _ _ ?_ (fun hHeld => ?_)
                · trivial
                clear hK K
                try simp only [Act.put, List.setIfInBounds_toArray, List.set_cons_zero, List.set_cons_succ]
                refine wpAnyH_takeD (i := 6) (some 30) (v := ?v6_5) rfl rfl (by kernel_rfl) (by kernel_rfl) (by kernel_rfl) (fun _ _ _ h => h) (by rfl) ?y6_5 (by assumption) ?r6_5
                case y6_5 => (intro w hSw; (try dsimp only at hSw); first | (go_simp; done) | (go_simp; with_reducible rfl))
                try simp only [Act.put, List.setIfInBounds_toArray, List.set_cons_zero, List.set_cons_succ]
                refine wpAnyH_ready (rs := [5]) (by kernel_rfl) (by simp) ?_
                refine AllReadyH.cons rfl (fun K hK => ?_) ?_
                · go_simp
                  go_at_call 20
                  refine (IHB.out _ _ _ _ H12.out mem3 hszB).mono ?_
                  rintro z w13 ⟨vB, rfl, h13⟩
                  obtain ⟨bB, cB, hvB, _⟩ := h13.sl_form mem0
                  subst hvB
                  have H13 := hide h13.f1
                  clear h13 H12
                  refine hK.out _ _ ?_ (fun hHeld => ?_)
                  · trivial
                  clear hK K
                  try simp only [Act.put, List.setIfInBounds_toArray, List.set_cons_zero, List.set_cons_succ]
                  refine wpAnyH_ready (rs := [7]) (by kernel_rfl) (by simp) ?_
                  refine AllReadyH.cons rfl (fun K hK => ?_) ?_
                  · refine step_storeF_st (cs := [.int .i64 6, .int .i64 x.pos, sv x.name, va, vb2]) (ds := [.int .i64 6, .int .i64 x.pos, sv x.name, .slice bA (turnS x.A).toL.length cA, vb2]) rfl 45 (.tmp 30) (.tmp 26) rfl szStmts rfl rfl rfl rfl H13.out (by simp) rfl ?_
                    intro w15 h15
                    have H15 := hide h15
                    clear h15 H13
                    refine hK.out _ _ ?_ (fun hHeld => ?_)
                    · trivial
                    clear hK K
                    try simp only [Act.put, List.setIfInBounds_toArray, List.set_cons_zero, List.set_cons_succ]
                    refine wpAnyH_takeD (i := 8) (some 31) (v := ?v8_6) rfl rfl (by kernel_rfl) (by kernel_rfl) (by kernel_rfl) (fun _ _ _ h => h) (by rfl) ?y8_6 (by assumption) ?r8_6
                    case y8_6 => (intro w hSw; (try dsimp only at hSw); first | (go_simp; done) | (go_simp; with_reducible rfl))
                    try simp only [Act.put, List.setIfInBounds_toArray, List.set_cons_zero, List.set_cons_succ]
                    refine wpAnyH_ready (rs := [9]) (by kernel_rfl) (by simp) ?_
                    refine AllReadyH.cons rfl (fun K hK => ?_) ?_
                    · refine step_storeF_st (cs := [.int .i64 6, .int .i64 x.pos, sv x.name, .slice bA (turnS x.A).toL.length cA, vb2]) (ds := [.int .i64 6, .int .i64 x.pos, sv x.name, .slice bA (turnS x.A).toL.length cA, .slice bB (turnS x.B).toL.length cB]) rfl 45 (.tmp 31) (.tmp 29) rfl szStmts rfl rfl rfl rfl H15.out (by simp) rfl ?_
                      intro w16 h16
                      have HZ0 := hide h16
                      clear h16 H15
                      refine hK.out _ _ ?_ (fun hHeld => ?_)
                      · trivial
                      clear hK K
                      try simp only [Act.put, List.setIfInBounds_toArray, List.set_cons_zero, List.set_cons_succ]
                      refine wpAnyH_done (by kernel_rfl) ?_ _
                      have HZ := hide HZ0.out.d3.d3.d3
                      clear HZ0
                      go_wp2_with (first
                        | (refine wpList_loadB_st (cs := [.int .i64 6, .int .i64 x.pos, sv x.name, .slice bA (turnS x.A).toL.length cA, .slice bB (turnS x.B).toL.length cB]) rfl agStmt (.tmp 5) rfl rfl rfl HZ.out mem0 ?_)
                        | (refine wpList_build1_st (E := stmtE) rfl (.tmp 33) slStmt rfl (turnOf x) rfl HZ.out ?_ ?_; exact (fun e hl hs => by rw [HSO.out]; exact ⟨_, _, rfl, HOK.out, Stms.sl_iff.2 (hs.sl_mem mem2), Stms.sl_iff.2 (hs.sl_mem mem1)⟩); intro g13 w13 h13; have H13 := hide h13.f4; clear h13 HZ)
                        | (at_builtin; refine wpList_append_st rfl (.tmp 32) (.tmp 34) slStmt rfl H13.out (Src.of_rows mem1) rfl rfl hq1 hq2 ?_; intro vb3 n3 vc3 w14 hn3 h14; have H14 := hide (h14.d1.d1.d1.d1); have HN3 := hide hn3; clear h14 H13 hn3))
                      go_roundw
                      case rel => exact ⟨k + 1, by omega, by go_num, vb3, vc3, by rw [HN3.out, HDL.out]; rfl, by rw [HTK.out]; exact H14.out⟩
                      case measure => exact meas_step hlt
                    exact AllReadyH.nil
                  exact AllReadyH.nil
                exact AllReadyH.nil
              exact AllReadyH.nil
            exact AllReadyH.nil
          refine AllReadyH.cons rfl (fun K hK => ?_) ?_
          · go_simp
            refine hK.out _ _ ?_ (fun hHeld => ?_)
            · trivial
            clear hK K
            try simp only [Act.put, List.setIfInBounds_toArray, List.set_cons_zero, List.set_cons_succ]
            refine wpAnyH_ready (rs := [1]) (by kernel_rfl) (by simp) ?_
            refine AllReadyH.cons rfl (fun K hK => ?_) ?_
            · go_simp
              refine hK.out _ _ ?_ (fun hHeld => ?_)
              · trivial
              clear hK K
              try simp only [Act.put, List.setIfInBounds_toArray, List.set_cons_zero, List.set_cons_succ]
              refine wpAnyH_ready (rs := [2]) (by kernel_rfl) (by simp) ?_
              refine AllReadyH.cons rfl (fun K hK => ?_) ?_
              · go_simp
                go_at_call 20
                refine (IHA.out _ _ _ _ H11.out.drew mem1 hszA).mono ?_
                rintro z w12 ⟨vA, rfl, h12⟩
                obtain ⟨bA, cA, hvA, _⟩ := h12.sl_form mem0
                subst hvA
                have a4b : w12.cell? ⟨g9, 4, none⟩ = some vb2 := h12.blk_cell mem1 4
                have H12 := hide h12.f1
                clear h12 H11
                refine hK.out _ _ ?_ (fun hHeld => ?_)
                · trivial
                clear hK K
                try simp only [Act.put, List.setIfInBounds_toArray, List.set_cons_zero, List.set_cons_succ]
                refine wpAnyH_takeD (i := 6) (some 30) (v := ?v6_7) rfl rfl (by kernel_rfl) (by kernel_rfl) (by kernel_rfl) (fun _ _ _ h => h) (by rfl) ?y6_7 (by assumption) ?r6_7
                case y6_7 => (intro w hSw; (try dsimp only at hSw); first | (go_simp; done) | (go_simp; with_reducible rfl))
                try simp only [Act.put, List.setIfInBounds_toArray, List.set_cons_zero, List.set_cons_succ]
                refine wpAnyH_ready (rs := [5]) (by kernel_rfl) (by simp) ?_
                refine AllReadyH.cons rfl (fun K hK => ?_) ?_
                · go_simp
                  go_at_call 20
                  refine (IHB.out _ _ _ _ H12.out mem3 hszB).mono ?_
                  rintro z w13 ⟨vB, rfl, h13⟩
                  obtain ⟨bB, cB, hvB, _⟩ := h13.sl_form mem0
                  subst hvB
                  have H13 := hide h13.f1
                  clear h13 H12
                  refine hK.out _ _ ?_ (fun hHeld => ?_)
                  · trivial
                  clear hK K
                  try simp only [Act.put, List.setIfInBounds_toArray, List.set_cons_zero, List.set_cons_succ]
                  refine wpAnyH_ready (rs := [7]) (by kernel_rfl) (by simp) ?_
                  refine AllReadyH.cons rfl (fun K hK => ?_) ?_
                  · refine step_storeF_st (cs := [.int .i64 6, .int .i64 x.pos, sv x.name, va, vb2]) (ds := [.int .i64 6, .int .i64 x.pos, sv x.name, .slice bA (turnS x.A).toL.length cA, vb2]) rfl 45 (.tmp 30) (.tmp 26) rfl szStmts rfl rfl rfl rfl H13.out (by simp) rfl ?_
                    intro w15 h15
                    have H15 := hide h15
                    clear h15 H13
                    refine hK.out _ _ ?_ (fun hHeld => ?_)
                    · trivial
                    clear hK K
                    try simp only [Act.put, List.setIfInBounds_toArray, List.set_cons_zero, List.set_cons_succ]
                    refine wpAnyH_takeD (i := 8) (some 31) (v := ?v8_8) rfl rfl (by kernel_rfl) (by kernel_rfl) (by kernel_rfl) (fun _ _ _ h => h) (by rfl) ?y8_8 (by assumption) ?r8_8
                    case y8_8 => (intro w hSw; (try dsimp only at hSw); first | (go_simp; done) | (go_simp; with_reducible rfl))
                    try simp only [Act.put, List.setIfInBounds_toArray, List.set_cons_zero, List.set_cons_succ]
                    refine wpAnyH_ready (rs := [9]) (by kernel_rfl) (by simp) ?_
                    refine AllReadyH.cons rfl (fun K hK => ?_) ?_
                    · refine step_storeF_st (cs := [.int .i64 6, .int .i64 x.pos, sv x.name, .slice bA (turnS x.A).toL.length cA, vb2]) (ds := [.int .i64 6, .int .i64 x.pos, sv x.name, .slice bA (turnS x.A).toL.length cA, .slice bB (turnS x.B).toL.length cB]) rfl 45 (.tmp 31) (.tmp 29) rfl szStmts rfl rfl rfl rfl H15.out (by simp) rfl ?_
                      intro w16 h16
                      have HZ0 := hide h16
                      clear h16 H15
                      refine hK.out _ _ ?_ (fun hHeld => ?_)
                      · trivial
                      clear hK K
                      try simp only [Act.put, List.setIfInBounds_toArray, List.set_cons_zero, List.set_cons_succ]
                      refine wpAnyH_done (by kernel_rfl) ?_ _
                      have HZ := hide HZ0.out.d3.d3.d3
                      clear HZ0
                      go_wp2_with (first
                        | (refine wpList_loadB_st (cs := [.int .i64 6, .int .i64 x.pos, sv x.name, .slice bA (turnS x.A).toL.length cA, .slice bB (turnS x.B).toL.length cB]) rfl agStmt (.tmp 5) rfl rfl rfl HZ.out mem0 ?_)
                        | (refine wpList_build1_st (E := stmtE) rfl (.tmp 33) slStmt rfl (turnOf x) rfl HZ.out ?_ ?_; exact (fun e hl hs => by rw [HSO.out]; exact ⟨_, _, rfl, HOK.out, Stms.sl_iff.2 (hs.sl_mem mem2), Stms.sl_iff.2 (hs.sl_mem mem1)⟩); intro g13 w13 h13; have H13 := hide h13.f4; clear h13 HZ)
                        | (at_builtin; refine wpList_append_st rfl (.tmp 32) (.tmp 34) slStmt rfl H13.out (Src.of_rows mem1) rfl rfl hq1 hq2 ?_; intro vb3 n3 vc3 w14 hn3 h14; have H14 := hide (h14.d1.d1.d1.d1); have HN3 := hide hn3; clear h14 H13 hn3))
                      go_roundw
                      case rel => exact ⟨k + 1, by omega, by go_num, vb3, vc3, by rw [HN3.out, HDL.out]; rfl, by rw [HTK.out]; exact H14.out⟩
                      case measure => exact meas_step hlt
                    exact AllReadyH.nil
                  exact AllReadyH.nil
                exact AllReadyH.nil
              exact AllReadyH.nil
            exact AllReadyH.nil
          exact AllReadyH.nil
        · have hb1 : (x.kind == 5) = false := by rw [hkk]; rfl
          have hb2 : (x.kind == 6) = true := by rw [hkk]; rfl
          have HSO : Hid (turnOf x = ⟨5, x.pos, x.name, turnS x.A, turnS x.B⟩) := hide (by unfold turnOf; rw [show swapK x.kind = 5 by show swapK x.kind = 5; rw [hkk]; rfl])
          clear hkk
          go_wp2_with (first
            | (with_reducible refine wpList_load_ag (cs := [.int .i64 x.kind, .int .i64 x.pos, sv x.name, va, vb2]) rfl agStmt (.tmp 14) rfl rfl rfl HCS.out ?_)
            | ((with_reducible refine wpList_alloc_ag rfl agStmt rfl H3.out ?_); intro g9 w9 h9; have H9 := hide h9; clear h9 H3)
            | ((with_reducible refine wpList_store_ag (cs := [.int .i64 x.kind, .int .i64 x.pos, sv x.name, va, vb2]) rfl agStmt (.tmp 5) (.tmp 15) rfl rfl rfl rfl rfl HONE.out H9.out ?_); intro w10 h10; have k0 : w10.cell? ⟨g9, 0, none⟩ = some (.int .i64 x.kind) := h10.blk_cell mem0 0; have H10 := hide h10; clear h10 H9)
            | ((with_reducible refine wpList_storeF_st (cs := [.int .i64 x.kind, .int .i64 x.pos, sv x.name, va, vb2]) (ds := [.int .i64 5, .int .i64 x.pos, sv x.name, va, vb2]) rfl 3 (.tmp 23) (.const (.int .i64 5)) rfl szInt rfl rfl rfl rfl H10.out (by simp) rfl ?_); intro w11 h11; have a3 : w11.cell? ⟨g9, 3, none⟩ = some va := h11.blk_cell mem0 3; have a4 : w11.cell? ⟨g9, 4, none⟩ = some vb2 := h11.blk_cell mem0 4; have H11 := hide h11; clear h11 H10))
          refine wp_region_held_drew (S := fun _ => True) (by kernel_rfl) ?_ (fun hHeld => ?_)
          · trivial
          refine wpAnyH_takeD (i := 0) (some 24) (v := ?v0_9) rfl rfl (by kernel_rfl) (by kernel_rfl) (by kernel_rfl) (fun _ _ _ h => h) (by rfl) ?y0_9 (by assumption) ?r0_9
          case y0_9 => (intro w hSw; (try dsimp only at hSw); first | (go_simp; done) | (go_simp; with_reducible rfl))
          try simp only [Act.put, List.setIfInBounds_toArray, List.set_cons_zero, List.set_cons_succ]
          refine wpAnyH_takeD (i := 3) (some 27) (v := ?v3_10) rfl rfl (by kernel_rfl) (by kernel_rfl) (by kernel_rfl) (fun _ _ _ h => h) (by rfl) ?y3_10 (by assumption) ?r3_10
          case y3_10 => (intro w hSw; (try dsimp only at hSw); first | (go_simp; done) | (go_simp; with_reducible rfl))
          try simp only [Act.put, List.setIfInBounds_toArray, List.set_cons_zero, List.set_cons_succ]
          refine wpAnyH_ready (rs := [1, 4]) (by kernel_rfl) (by simp) ?_
          refine AllReadyH.cons rfl (fun K hK => ?_) ?_
          · go_simp
            refine hK.out _ _ ?_ (fun hHeld => ?_)
            · trivial
            clear hK K
            try simp only [Act.put, List.setIfInBounds_toArray, List.set_cons_zero, List.set_cons_succ]
            refine wpAnyH_ready (rs := [2, 4]) (by kernel_rfl) (by simp) ?_
            refine AllReadyH.cons rfl (fun K hK => ?_) ?_
            · go_simp
              go_at_call 20
              refine (IHA.out _ _ _ _ H11.out.drew mem1 hszA).mono ?_
              rintro z w12 ⟨vA, rfl, h12⟩
              obtain ⟨bA, cA, hvA, _⟩ := h12.sl_form mem0
              subst hvA
              have a4b : w12.cell? ⟨g9, 4, none⟩ = some vb2 := h12.blk_cell mem1 4
              have H12 := hide h12.f1
              clear h12 H11
              refine hK.out _ _ ?_ (fun hHeld => ?_)
              · trivial
              clear hK K
              try simp only [Act.put, List.setIfInBounds_toArray, List.set_cons_zero, List.set_cons_succ]
              refine wpAnyH_ready (rs := [4]) (by kernel_rfl) (by simp) ?_
              refine AllReadyH.cons rfl (fun K hK => ?_) ?_
              · go_simp
                refine hK.out _ _ ?_ (fun hHeld => ?_)
                · trivial
                clear hK K
                try simp only [Act.put, List.setIfInBounds_toArray, List.set_cons_zero, List.set_cons_succ]
                refine wpAnyH_takeD (i := 6) (some 30) (v := ?v6_11) rfl rfl (by kernel_rfl) (by kernel_rfl) (by kernel_rfl) (fun _ _ _ h => h) (by rfl) ?y6_11 (by assumption) ?r6_11
                case y6_11 => (intro w hSw; (try dsimp only at hSw); first | (go_simp; done) | (go_simp; with_reducible rfl))
                try simp only [Act.put, List.setIfInBounds_toArray, List.set_cons_zero, List.set_cons_succ]
                refine wpAnyH_ready (rs := [5]) (by kernel_rfl) (by simp) ?_
                refine AllReadyH.cons rfl (fun K hK => ?_) ?_
                · go_simp
                  go_at_call 20
                  refine (IHB.out _ _ _ _ H12.out mem3 hszB).mono ?_
                  rintro z w13 ⟨vB, rfl, h13⟩
                  obtain ⟨bB, cB, hvB, _⟩ := h13.sl_form mem0
                  subst hvB
                  have H13 := hide h13.f1
                  clear h13 H12
                  refine hK.out _ _ ?_ (fun hHeld => ?_)
                  · trivial
                  clear hK K
                  try simp only [Act.put, List.setIfInBounds_toArray, List.set_cons_zero, List.set_cons_succ]
                  refine wpAnyH_ready (rs := [7]) (by kernel_rfl) (by simp) ?_
                  refine AllReadyH.cons rfl (fun K hK => ?_) ?_
                  · refine step_storeF_st (cs := [.int .i64 5, .int .i64 x.pos, sv x.name, va, vb2]) (ds := [.int .i64 5, .int .i64 x.pos, sv x.name, .slice bA (turnS x.A).toL.length cA, vb2]) rfl 45 (.tmp 30) (.tmp 26) rfl szStmts rfl rfl rfl rfl H13.out (by simp) rfl ?_
                    intro w15 h15
                    have H15 := hide h15
                    clear h15 H13
                    refine hK.out _ _ ?_ (fun hHeld => ?_)
                    · trivial
                    clear hK K
                    try simp only [Act.put, List.setIfInBounds_toArray, List.set_cons_zero, List.set_cons_succ]
                    refine wpAnyH_takeD (i := 8) (some 31) (v := ?v8_12) rfl rfl (by kernel_rfl) (by kernel_rfl) (by kernel_rfl) (fun _ _ _ h => h) (by rfl) ?y8_12 (by assumption) ?r8_12
                    case y8_12 => (intro w hSw; (try dsimp only at hSw); first | (go_simp; done) | (go_simp; with_reducible rfl))
                    try simp only [Act.put, List.setIfInBounds_toArray, List.set_cons_zero, List.set_cons_succ]
                    refine wpAnyH_ready (rs := [9]) (by kernel_rfl) (by simp) ?_
                    refine AllReadyH.cons rfl (fun K hK => ?_) ?_
                    · refine step_storeF_st (cs := [.int .i64 5, .int .i64 x.pos, sv x.name, .slice bA (turnS x.A).toL.length cA, vb2]) (ds := [.int .i64 5, .int .i64 x.pos, sv x.name, .slice bA (turnS x.A).toL.length cA, .slice bB (turnS x.B).toL.length cB]) rfl 45 (.tmp 31) (.tmp 29) rfl szStmts rfl rfl rfl rfl H15.out (by simp) rfl ?_
                      intro w16 h16
                      have HZ0 := hide h16
                      clear h16 H15
                      refine hK.out _ _ ?_ (fun hHeld => ?_)
                      · trivial
                      clear hK K
                      try simp only [Act.put, List.setIfInBounds_toArray, List.set_cons_zero, List.set_cons_succ]
                      refine wpAnyH_done (by kernel_rfl) ?_ _
                      have HZ := hide HZ0.out.d3.d3.d3
                      clear HZ0
                      go_wp2_with (first
                        | (refine wpList_loadB_st (cs := [.int .i64 5, .int .i64 x.pos, sv x.name, .slice bA (turnS x.A).toL.length cA, .slice bB (turnS x.B).toL.length cB]) rfl agStmt (.tmp 5) rfl rfl rfl HZ.out mem0 ?_)
                        | (refine wpList_build1_st (E := stmtE) rfl (.tmp 33) slStmt rfl (turnOf x) rfl HZ.out ?_ ?_; exact (fun e hl hs => by rw [HSO.out]; exact ⟨_, _, rfl, HOK.out, Stms.sl_iff.2 (hs.sl_mem mem2), Stms.sl_iff.2 (hs.sl_mem mem1)⟩); intro g13 w13 h13; have H13 := hide h13.f4; clear h13 HZ)
                        | (at_builtin; refine wpList_append_st rfl (.tmp 32) (.tmp 34) slStmt rfl H13.out (Src.of_rows mem1) rfl rfl hq1 hq2 ?_; intro vb3 n3 vc3 w14 hn3 h14; have H14 := hide (h14.d1.d1.d1.d1); have HN3 := hide hn3; clear h14 H13 hn3))
                      go_roundw
                      case rel => exact ⟨k + 1, by omega, by go_num, vb3, vc3, by rw [HN3.out, HDL.out]; rfl, by rw [HTK.out]; exact H14.out⟩
                      case measure => exact meas_step hlt
                    exact AllReadyH.nil
                  exact AllReadyH.nil
                exact AllReadyH.nil
              exact AllReadyH.nil
            refine AllReadyH.cons rfl (fun K hK => ?_) ?_
            · go_simp
              refine hK.out _ _ ?_ (fun hHeld => ?_)
              · trivial
              clear hK K
              try simp only [Act.put, List.setIfInBounds_toArray, List.set_cons_zero, List.set_cons_succ]
              refine wpAnyH_ready (rs := [2]) (by kernel_rfl) (by simp) ?_
              refine AllReadyH.cons rfl (fun K hK => ?_) ?_
              · go_simp
                go_at_call 20
                refine (IHA.out _ _ _ _ H11.out.drew mem1 hszA).mono ?_
                rintro z w12 ⟨vA, rfl, h12⟩
                obtain ⟨bA, cA, hvA, _⟩ := h12.sl_form mem0
                subst hvA
                have a4b : w12.cell? ⟨g9, 4, none⟩ = some vb2 := h12.blk_cell mem1 4
                have H12 := hide h12.f1
                clear h12 H11
                refine hK.out _ _ ?_ (fun hHeld => ?_)
                · trivial
                clear hK K
                try simp only [Act.put, List.setIfInBounds_toArray, List.set_cons_zero, List.set_cons_succ]
                refine wpAnyH_takeD (i := 6) (some 30) (v := ?v6_13) rfl rfl (by kernel_rfl) (by kernel_rfl) (by kernel_rfl) (fun _ _ _ h => h) (by rfl) ?y6_13 (by assumption) ?r6_13
                case y6_13 => (intro w hSw; (try dsimp only at hSw); first | (go_simp; done) | (go_simp; with_reducible rfl))
                try simp only [Act.put, List.setIfInBounds_toArray, List.set_cons_zero, List.set_cons_succ]
                refine wpAnyH_ready (rs := [5]) (by kernel_rfl) (by simp) ?_
                refine AllReadyH.cons rfl (fun K hK => ?_) ?_
                · go_simp
                  go_at_call 20
                  refine (IHB.out _ _ _ _ H12.out mem3 hszB).mono ?_
                  rintro z w13 ⟨vB, rfl, h13⟩
                  obtain ⟨bB, cB, hvB, _⟩ := h13.sl_form mem0
                  subst hvB
                  have H13 := hide h13.f1
                  clear h13 H12
                  refine hK.out _ _ ?_ (fun hHeld => ?_)
                  · trivial
                  clear hK K
                  try simp only [Act.put, List.setIfInBounds_toArray, List.set_cons_zero, List.set_cons_succ]
                  refine wpAnyH_ready (rs := [7]) (by kernel_rfl) (by simp) ?_
                  refine AllReadyH.cons rfl (fun K hK => ?_) ?_
                  · refine step_storeF_st (cs := [.int .i64 5, .int .i64 x.pos, sv x.name, va, vb2]) (ds := [.int .i64 5, .int .i64 x.pos, sv x.name, .slice bA (turnS x.A).toL.length cA, vb2]) rfl 45 (.tmp 30) (.tmp 26) rfl szStmts rfl rfl rfl rfl H13.out (by simp) rfl ?_
                    intro w15 h15
                    have H15 := hide h15
                    clear h15 H13
                    refine hK.out _ _ ?_ (fun hHeld => ?_)
                    · trivial
                    clear hK K
                    try simp only [Act.put, List.setIfInBounds_toArray, List.set_cons_zero, List.set_cons_succ]
                    refine wpAnyH_takeD (i := 8) (some 31) (v := ?v8_14) rfl rfl (by kernel_rfl) (by kernel_rfl) (by kernel_rfl) (fun _ _ _ h => h) (by rfl) ?y8_14 (by assumption) ?r8_14
                    case y8_14 => (intro w hSw; (try dsimp only at hSw); first | (go_simp; done) | (go_simp; with_reducible rfl))
                    try simp only [Act.put, List.setIfInBounds_toArray, List.set_cons_zero, List.set_cons_succ]
                    refine wpAnyH_ready (rs := [9]) (by kernel_rfl) (by simp) ?_
                    refine AllReadyH.cons rfl (fun K hK => ?_) ?_
                    · refine step_storeF_st (cs := [.int .i64 5, .int .i64 x.pos, sv x.name, .slice bA (turnS x.A).toL.length cA, vb2]) (ds := [.int .i64 5, .int .i64 x.pos, sv x.name, .slice bA (turnS x.A).toL.length cA, .slice bB (turnS x.B).toL.length cB]) rfl 45 (.tmp 31) (.tmp 29) rfl szStmts rfl rfl rfl rfl H15.out (by simp) rfl ?_
                      intro w16 h16
                      have HZ0 := hide h16
                      clear h16 H15
                      refine hK.out _ _ ?_ (fun hHeld => ?_)
                      · trivial
                      clear hK K
                      try simp only [Act.put, List.setIfInBounds_toArray, List.set_cons_zero, List.set_cons_succ]
                      refine wpAnyH_done (by kernel_rfl) ?_ _
                      have HZ := hide HZ0.out.d3.d3.d3
                      clear HZ0
                      go_wp2_with (first
                        | (refine wpList_loadB_st (cs := [.int .i64 5, .int .i64 x.pos, sv x.name, .slice bA (turnS x.A).toL.length cA, .slice bB (turnS x.B).toL.length cB]) rfl agStmt (.tmp 5) rfl rfl rfl HZ.out mem0 ?_)
                        | (refine wpList_build1_st (E := stmtE) rfl (.tmp 33) slStmt rfl (turnOf x) rfl HZ.out ?_ ?_; exact (fun e hl hs => by rw [HSO.out]; exact ⟨_, _, rfl, HOK.out, Stms.sl_iff.2 (hs.sl_mem mem2), Stms.sl_iff.2 (hs.sl_mem mem1)⟩); intro g13 w13 h13; have H13 := hide h13.f4; clear h13 HZ)
                        | (at_builtin; refine wpList_append_st rfl (.tmp 32) (.tmp 34) slStmt rfl H13.out (Src.of_rows mem1) rfl rfl hq1 hq2 ?_; intro vb3 n3 vc3 w14 hn3 h14; have H14 := hide (h14.d1.d1.d1.d1); have HN3 := hide hn3; clear h14 H13 hn3))
                      go_roundw
                      case rel => exact ⟨k + 1, by omega, by go_num, vb3, vc3, by rw [HN3.out, HDL.out]; rfl, by rw [HTK.out]; exact H14.out⟩
                      case measure => exact meas_step hlt
                    exact AllReadyH.nil
                  exact AllReadyH.nil
                exact AllReadyH.nil
              exact AllReadyH.nil
            exact AllReadyH.nil
          refine AllReadyH.cons rfl (fun K hK => ?_) ?_
          · go_simp
            refine hK.out _ _ ?_ (fun hHeld => ?_)
            · trivial
            clear hK K
            try simp only [Act.put, List.setIfInBounds_toArray, List.set_cons_zero, List.set_cons_succ]
            refine wpAnyH_ready (rs := [1]) (by kernel_rfl) (by simp) ?_
            refine AllReadyH.cons rfl (fun K hK => ?_) ?_
            · go_simp
              refine hK.out _ _ ?_ (fun hHeld => ?_)
              · trivial
              clear hK K
              try simp only [Act.put, List.setIfInBounds_toArray, List.set_cons_zero, List.set_cons_succ]
              refine wpAnyH_ready (rs := [2]) (by kernel_rfl) (by simp) ?_
              refine AllReadyH.cons rfl (fun K hK => ?_) ?_
              · go_simp
                go_at_call 20
                refine (IHA.out _ _ _ _ H11.out.drew mem1 hszA).mono ?_
                rintro z w12 ⟨vA, rfl, h12⟩
                obtain ⟨bA, cA, hvA, _⟩ := h12.sl_form mem0
                subst hvA
                have a4b : w12.cell? ⟨g9, 4, none⟩ = some vb2 := h12.blk_cell mem1 4
                have H12 := hide h12.f1
                clear h12 H11
                refine hK.out _ _ ?_ (fun hHeld => ?_)
                · trivial
                clear hK K
                try simp only [Act.put, List.setIfInBounds_toArray, List.set_cons_zero, List.set_cons_succ]
                refine wpAnyH_takeD (i := 6) (some 30) (v := ?v6_15) rfl rfl (by kernel_rfl) (by kernel_rfl) (by kernel_rfl) (fun _ _ _ h => h) (by rfl) ?y6_15 (by assumption) ?r6_15
                case y6_15 => (intro w hSw; (try dsimp only at hSw); first | (go_simp; done) | (go_simp; with_reducible rfl))
                try simp only [Act.put, List.setIfInBounds_toArray, List.set_cons_zero, List.set_cons_succ]
                refine wpAnyH_ready (rs := [5]) (by kernel_rfl) (by simp) ?_
                refine AllReadyH.cons rfl (fun K hK => ?_) ?_
                · go_simp
                  go_at_call 20
                  refine (IHB.out _ _ _ _ H12.out mem3 hszB).mono ?_
                  rintro z w13 ⟨vB, rfl, h13⟩
                  obtain ⟨bB, cB, hvB, _⟩ := h13.sl_form mem0
                  subst hvB
                  have H13 := hide h13.f1
                  clear h13 H12
                  refine hK.out _ _ ?_ (fun hHeld => ?_)
                  · trivial
                  clear hK K
                  try simp only [Act.put, List.setIfInBounds_toArray, List.set_cons_zero, List.set_cons_succ]
                  refine wpAnyH_ready (rs := [7]) (by kernel_rfl) (by simp) ?_
                  refine AllReadyH.cons rfl (fun K hK => ?_) ?_
                  · refine step_storeF_st (cs := [.int .i64 5, .int .i64 x.pos, sv x.name, va, vb2]) (ds := [.int .i64 5, .int .i64 x.pos, sv x.name, .slice bA (turnS x.A).toL.length cA, vb2]) rfl 45 (.tmp 30) (.tmp 26) rfl szStmts rfl rfl rfl rfl H13.out (by simp) rfl ?_
                    intro w15 h15
                    have H15 := hide h15
                    clear h15 H13
                    refine hK.out _ _ ?_ (fun hHeld => ?_)
                    · trivial
                    clear hK K
                    try simp only [Act.put, List.setIfInBounds_toArray, List.set_cons_zero, List.set_cons_succ]
                    refine wpAnyH_takeD (i := 8) (some 31) (v := ?v8_16) rfl rfl (by kernel_rfl) (by kernel_rfl) (by kernel_rfl) (fun _ _ _ h => h) (by rfl) ?y8_16 (by assumption) ?r8_16
                    case y8_16 => (intro w hSw; (try dsimp only at hSw); first | (go_simp; done) | (go_simp; with_reducible rfl))
                    try simp only [Act.put, List.setIfInBounds_toArray, List.set_cons_zero, List.set_cons_succ]
                    refine wpAnyH_ready (rs := [9]) (by kernel_rfl) (by simp) ?_
                    refine AllReadyH.cons rfl (fun K hK => ?_) ?_
                    · refine step_storeF_st (cs := [.int .i64 5, .int .i64 x.pos, sv x.name, .slice bA (turnS x.A).toL.length cA, vb2]) (ds := [.int .i64 5, .int .i64 x.pos, sv x.name, .slice bA (turnS x.A).toL.length cA, .slice bB (turnS x.B).toL.length cB]) rfl 45 (.tmp 31) (.tmp 29) rfl szStmts rfl rfl rfl rfl H15.out (by simp) rfl ?_
                      intro w16 h16
                      have HZ0 := hide h16
                      clear h16 H15
                      refine hK.out _ _ ?_ (fun hHeld => ?_)
                      · trivial
                      clear hK K
                      try simp only [Act.put, List.setIfInBounds_toArray, List.set_cons_zero, List.set_cons_succ]
                      refine wpAnyH_done (by kernel_rfl) ?_ _
                      have HZ := hide HZ0.out.d3.d3.d3
                      clear HZ0
                      go_wp2_with (first
                        | (refine wpList_loadB_st (cs := [.int .i64 5, .int .i64 x.pos, sv x.name, .slice bA (turnS x.A).toL.length cA, .slice bB (turnS x.B).toL.length cB]) rfl agStmt (.tmp 5) rfl rfl rfl HZ.out mem0 ?_)
                        | (refine wpList_build1_st (E := stmtE) rfl (.tmp 33) slStmt rfl (turnOf x) rfl HZ.out ?_ ?_; exact (fun e hl hs => by rw [HSO.out]; exact ⟨_, _, rfl, HOK.out, Stms.sl_iff.2 (hs.sl_mem mem2), Stms.sl_iff.2 (hs.sl_mem mem1)⟩); intro g13 w13 h13; have H13 := hide h13.f4; clear h13 HZ)
                        | (at_builtin; refine wpList_append_st rfl (.tmp 32) (.tmp 34) slStmt rfl H13.out (Src.of_rows mem1) rfl rfl hq1 hq2 ?_; intro vb3 n3 vc3 w14 hn3 h14; have H14 := hide (h14.d1.d1.d1.d1); have HN3 := hide hn3; clear h14 H13 hn3))
                      go_roundw
                      case rel => exact ⟨k + 1, by omega, by go_num, vb3, vc3, by rw [HN3.out, HDL.out]; rfl, by rw [HTK.out]; exact H14.out⟩
                      case measure => exact meas_step hlt
                    exact AllReadyH.nil
                  exact AllReadyH.nil
                exact AllReadyH.nil
              exact AllReadyH.nil
            exact AllReadyH.nil
          exact AllReadyH.nil
        · have hb1 : (x.kind == 5) = false := by rw [beq_eq_false_iff_ne]; exact hkk
          have hb2 : (x.kind == 6) = false := by rw [beq_eq_false_iff_ne]; exact hkk2
          have HSO : Hid (turnOf x = ⟨x.kind, x.pos, x.name, turnS x.A, turnS x.B⟩) := hide (by unfold turnOf; rw [show swapK x.kind = x.kind by show swapK x.kind = x.kind; unfold swapK; rw [if_neg hkk, if_neg hkk2]])
          clear hkk hkk2
          go_wp2_with (first
            | (with_reducible refine wpList_load_ag (cs := [.int .i64 x.kind, .int .i64 x.pos, sv x.name, va, vb2]) rfl agStmt (.tmp 14) rfl rfl rfl HCS.out ?_)
            | ((with_reducible refine wpList_alloc_ag rfl agStmt rfl H3.out ?_); intro g9 w9 h9; have H9 := hide h9; clear h9 H3)
            | ((with_reducible refine wpList_store_ag (cs := [.int .i64 x.kind, .int .i64 x.pos, sv x.name, va, vb2]) rfl agStmt (.tmp 5) (.tmp 15) rfl rfl rfl rfl rfl HONE.out H9.out ?_); intro w10 h10; have k0 : w10.cell? ⟨g9, 0, none⟩ = some (.int .i64 x.kind) := h10.blk_cell mem0 0; have a3 : w10.cell? ⟨g9, 3, none⟩ = some va := h10.blk_cell mem0 3; have a4 : w10.cell? ⟨g9, 4, none⟩ = some vb2 := h10.blk_cell mem0 4; have H10 := hide h10; clear h10 H9))
          refine wp_region_held_drew (S := fun _ => True) (by kernel_rfl) ?_ (fun hHeld => ?_)
          · trivial
          refine wpAnyH_takeD (i := 0) (some 24) (v := ?v0_17) rfl rfl (by kernel_rfl) (by kernel_rfl) (by kernel_rfl) (fun _ _ _ h => h) (by rfl) ?y0_17 (by assumption) ?r0_17
          case y0_17 => (intro w hSw; (try dsimp only at hSw); first | (go_simp; done) | (go_simp; with_reducible rfl))
          try simp only [Act.put, List.setIfInBounds_toArray, List.set_cons_zero, List.set_cons_succ]
          refine wpAnyH_takeD (i := 3) (some 27) (v := ?v3_18) rfl rfl (by kernel_rfl) (by kernel_rfl) (by kernel_rfl) (fun _ _ _ h => h) (by rfl) ?y3_18 (by assumption) ?r3_18
          case y3_18 => (intro w hSw; (try dsimp only at hSw); first | (go_simp; done) | (go_simp; with_reducible rfl))
          try simp only [Act.put, List.setIfInBounds_toArray, List.set_cons_zero, List.set_cons_succ]
          refine wpAnyH_ready (rs := [1, 4]) (by kernel_rfl) (by simp) ?_
          refine AllReadyH.cons rfl (fun K hK => ?_) ?_
          · go_simp
            refine hK.out _ _ ?_ (fun hHeld => ?_)
            · trivial
            clear hK K
            try simp only [Act.put, List.setIfInBounds_toArray, List.set_cons_zero, List.set_cons_succ]
            refine wpAnyH_ready (rs := [2, 4]) (by kernel_rfl) (by simp) ?_
            refine AllReadyH.cons rfl (fun K hK => ?_) ?_
            · go_simp
              go_at_call 20
              refine (IHA.out _ _ _ _ H10.out.drew mem1 hszA).mono ?_
              rintro z w12 ⟨vA, rfl, h12⟩
              obtain ⟨bA, cA, hvA, _⟩ := h12.sl_form mem0
              subst hvA
              have a4b : w12.cell? ⟨g9, 4, none⟩ = some vb2 := h12.blk_cell mem1 4
              have H12 := hide h12.f1
              clear h12 H10
              refine hK.out _ _ ?_ (fun hHeld => ?_)
              · trivial
              clear hK K
              try simp only [Act.put, List.setIfInBounds_toArray, List.set_cons_zero, List.set_cons_succ]
              refine wpAnyH_ready (rs := [4]) (by kernel_rfl) (by simp) ?_
              refine AllReadyH.cons rfl (fun K hK => ?_) ?_
              · go_simp
                refine hK.out _ _ ?_ (fun hHeld => ?_)
                · trivial
                clear hK K
                try simp only [Act.put, List.setIfInBounds_toArray, List.set_cons_zero, List.set_cons_succ]
                refine wpAnyH_takeD (i := 6) (some 30) (v := ?v6_19) rfl rfl (by kernel_rfl) (by kernel_rfl) (by kernel_rfl) (fun _ _ _ h => h) (by rfl) ?y6_19 (by assumption) ?r6_19
                case y6_19 => (intro w hSw; (try dsimp only at hSw); first | (go_simp; done) | (go_simp; with_reducible rfl))
                try simp only [Act.put, List.setIfInBounds_toArray, List.set_cons_zero, List.set_cons_succ]
                refine wpAnyH_ready (rs := [5]) (by kernel_rfl) (by simp) ?_
                refine AllReadyH.cons rfl (fun K hK => ?_) ?_
                · go_simp
                  go_at_call 20
                  refine (IHB.out _ _ _ _ H12.out mem3 hszB).mono ?_
                  rintro z w13 ⟨vB, rfl, h13⟩
                  obtain ⟨bB, cB, hvB, _⟩ := h13.sl_form mem0
                  subst hvB
                  have H13 := hide h13.f1
                  clear h13 H12
                  refine hK.out _ _ ?_ (fun hHeld => ?_)
                  · trivial
                  clear hK K
                  try simp only [Act.put, List.setIfInBounds_toArray, List.set_cons_zero, List.set_cons_succ]
                  refine wpAnyH_ready (rs := [7]) (by kernel_rfl) (by simp) ?_
                  refine AllReadyH.cons rfl (fun K hK => ?_) ?_
                  · refine step_storeF_st (cs := [.int .i64 x.kind, .int .i64 x.pos, sv x.name, va, vb2]) (ds := [.int .i64 x.kind, .int .i64 x.pos, sv x.name, .slice bA (turnS x.A).toL.length cA, vb2]) rfl 45 (.tmp 30) (.tmp 26) rfl szStmts rfl rfl rfl rfl H13.out (by simp) rfl ?_
                    intro w15 h15
                    have H15 := hide h15
                    clear h15 H13
                    refine hK.out _ _ ?_ (fun hHeld => ?_)
                    · trivial
                    clear hK K
                    try simp only [Act.put, List.setIfInBounds_toArray, List.set_cons_zero, List.set_cons_succ]
                    refine wpAnyH_takeD (i := 8) (some 31) (v := ?v8_20) rfl rfl (by kernel_rfl) (by kernel_rfl) (by kernel_rfl) (fun _ _ _ h => h) (by rfl) ?y8_20 (by assumption) ?r8_20
                    case y8_20 => (intro w hSw; (try dsimp only at hSw); first | (go_simp; done) | (go_simp; with_reducible rfl))
                    try simp only [Act.put, List.setIfInBounds_toArray, List.set_cons_zero, List.set_cons_succ]
                    refine wpAnyH_ready (rs := [9]) (by kernel_rfl) (by simp) ?_
                    refine AllReadyH.cons rfl (fun K hK => ?_) ?_
                    · refine step_storeF_st (cs := [.int .i64 x.kind, .int .i64 x.pos, sv x.name, .slice bA (turnS x.A).toL.length cA, vb2]) (ds := [.int .i64 x.kind, .int .i64 x.pos, sv x.name, .slice bA (turnS x.A).toL.length cA, .slice bB (turnS x.B).toL.length cB]) rfl 45 (.tmp 31) (.tmp 29) rfl szStmts rfl rfl rfl rfl H15.out (by simp) rfl ?_
                      intro w16 h16
                      have HZ0 := hide h16
                      clear h16 H15
                      refine hK.out _ _ ?_ (fun hHeld => ?_)
                      · trivial
                      clear hK K
                      try simp only [Act.put, List.setIfInBounds_toArray, List.set_cons_zero, List.set_cons_succ]
                      refine wpAnyH_done (by kernel_rfl) ?_ _
                      have HZ := hide HZ0.out.d3.d3.d3
                      clear HZ0
                      go_wp2_with (first
                        | (refine wpList_loadB_st (cs := [.int .i64 x.kind, .int .i64 x.pos, sv x.name, .slice bA (turnS x.A).toL.length cA, .slice bB (turnS x.B).toL.length cB]) rfl agStmt (.tmp 5) rfl rfl rfl HZ.out mem0 ?_)
                        | (refine wpList_build1_st (E := stmtE) rfl (.tmp 33) slStmt rfl (turnOf x) rfl HZ.out ?_ ?_; exact (fun e hl hs => by rw [HSO.out]; exact ⟨_, _, rfl, HOK.out, Stms.sl_iff.2 (hs.sl_mem mem2), Stms.sl_iff.2 (hs.sl_mem mem1)⟩); intro g13 w13 h13; have H13 := hide h13.f4; clear h13 HZ)
                        | (at_builtin; refine wpList_append_st rfl (.tmp 32) (.tmp 34) slStmt rfl H13.out (Src.of_rows mem1) rfl rfl hq1 hq2 ?_; intro vb3 n3 vc3 w14 hn3 h14; have H14 := hide (h14.d1.d1.d1.d1); have HN3 := hide hn3; clear h14 H13 hn3))
                      go_roundw
                      case rel => exact ⟨k + 1, by omega, by go_num, vb3, vc3, by rw [HN3.out, HDL.out]; rfl, by rw [HTK.out]; exact H14.out⟩
                      case measure => exact meas_step hlt
                    exact AllReadyH.nil
                  exact AllReadyH.nil
                exact AllReadyH.nil
              exact AllReadyH.nil
            refine AllReadyH.cons rfl (fun K hK => ?_) ?_
            · go_simp
              refine hK.out _ _ ?_ (fun hHeld => ?_)
              · trivial
              clear hK K
              try simp only [Act.put, List.setIfInBounds_toArray, List.set_cons_zero, List.set_cons_succ]
              refine wpAnyH_ready (rs := [2]) (by kernel_rfl) (by simp) ?_
              refine AllReadyH.cons rfl (fun K hK => ?_) ?_
              · go_simp
                go_at_call 20
                refine (IHA.out _ _ _ _ H10.out.drew mem1 hszA).mono ?_
                rintro z w12 ⟨vA, rfl, h12⟩
                obtain ⟨bA, cA, hvA, _⟩ := h12.sl_form mem0
                subst hvA
                have a4b : w12.cell? ⟨g9, 4, none⟩ = some vb2 := h12.blk_cell mem1 4
                have H12 := hide h12.f1
                clear h12 H10
                refine hK.out _ _ ?_ (fun hHeld => ?_)
                · trivial
                clear hK K
                try simp only [Act.put, List.setIfInBounds_toArray, List.set_cons_zero, List.set_cons_succ]
                refine wpAnyH_takeD (i := 6) (some 30) (v := ?v6_21) rfl rfl (by kernel_rfl) (by kernel_rfl) (by kernel_rfl) (fun _ _ _ h => h) (by rfl) ?y6_21 (by assumption) ?r6_21
                case y6_21 => (intro w hSw; (try dsimp only at hSw); first | (go_simp; done) | (go_simp; with_reducible rfl))
                try simp only [Act.put, List.setIfInBounds_toArray, List.set_cons_zero, List.set_cons_succ]
                refine wpAnyH_ready (rs := [5]) (by kernel_rfl) (by simp) ?_
                refine AllReadyH.cons rfl (fun K hK => ?_) ?_
                · go_simp
                  go_at_call 20
                  refine (IHB.out _ _ _ _ H12.out mem3 hszB).mono ?_
                  rintro z w13 ⟨vB, rfl, h13⟩
                  obtain ⟨bB, cB, hvB, _⟩ := h13.sl_form mem0
                  subst hvB
                  have H13 := hide h13.f1
                  clear h13 H12
                  refine hK.out _ _ ?_ (fun hHeld => ?_)
                  · trivial
                  clear hK K
                  try simp only [Act.put, List.setIfInBounds_toArray, List.set_cons_zero, List.set_cons_succ]
                  refine wpAnyH_ready (rs := [7]) (by kernel_rfl) (by simp) ?_
                  refine AllReadyH.cons rfl (fun K hK => ?_) ?_
                  · refine step_storeF_st (cs := [.int .i64 x.kind, .int .i64 x.pos, sv x.name, va, vb2]) (ds := [.int .i64 x.kind, .int .i64 x.pos, sv x.name, .slice bA (turnS x.A).toL.length cA, vb2]) rfl 45 (.tmp 30) (.tmp 26) rfl szStmts rfl rfl rfl rfl H13.out (by simp) rfl ?_
                    intro w15 h15
                    have H15 := hide h15
                    clear h15 H13
                    refine hK.out _ _ ?_ (fun hHeld => ?_)
                    · trivial
                    clear hK K
                    try simp only [Act.put, List.setIfInBounds_toArray, List.set_cons_zero, List.set_cons_succ]
                    refine wpAnyH_takeD (i := 8) (some 31) (v := ?v8_22) rfl rfl (by kernel_rfl) (by kernel_rfl) (by kernel_rfl) (fun _ _ _ h => h) (by rfl) ?y8_22 (by assumption) ?r8_22
                    case y8_22 => (intro w hSw; (try dsimp only at hSw); first | (go_simp; done) | (go_simp; with_reducible rfl))
                    try simp only [Act.put, List.setIfInBounds_toArray, List.set_cons_zero, List.set_cons_succ]
                    refine wpAnyH_ready (rs := [9]) (by kernel_rfl) (by simp) ?_
                    refine AllReadyH.cons rfl (fun K hK => ?_) ?_
                    · refine step_storeF_st (cs := [.int .i64 x.kind, .int .i64 x.pos, sv x.name, .slice bA (turnS x.A).toL.length cA, vb2]) (ds := [.int .i64 x.kind, .int .i64 x.pos, sv x.name, .slice bA (turnS x.A).toL.length cA, .slice bB (turnS x.B).toL.length cB]) rfl 45 (.tmp 31) (.tmp 29) rfl szStmts rfl rfl rfl rfl H15.out (by simp) rfl ?_
                      intro w16 h16
                      have HZ0 := hide h16
                      clear h16 H15
                      refine hK.out _ _ ?_ (fun hHeld => ?_)
                      · trivial
                      clear hK K
                      try simp only [Act.put, List.setIfInBounds_toArray, List.set_cons_zero, List.set_cons_succ]
                      refine wpAnyH_done (by kernel_rfl) ?_ _
                      have HZ := hide HZ0.out.d3.d3.d3
                      clear HZ0
                      go_wp2_with (first
                        | (refine wpList_loadB_st (cs := [.int .i64 x.kind, .int .i64 x.pos, sv x.name, .slice bA (turnS x.A).toL.length cA, .slice bB (turnS x.B).toL.length cB]) rfl agStmt (.tmp 5) rfl rfl rfl HZ.out mem0 ?_)
                        | (refine wpList_build1_st (E := stmtE) rfl (.tmp 33) slStmt rfl (turnOf x) rfl HZ.out ?_ ?_; exact (fun e hl hs => by rw [HSO.out]; exact ⟨_, _, rfl, HOK.out, Stms.sl_iff.2 (hs.sl_mem mem2), Stms.sl_iff.2 (hs.sl_mem mem1)⟩); intro g13 w13 h13; have H13 := hide h13.f4; clear h13 HZ)
                        | (at_builtin; refine wpList_append_st rfl (.tmp 32) (.tmp 34) slStmt rfl H13.out (Src.of_rows mem1) rfl rfl hq1 hq2 ?_; intro vb3 n3 vc3 w14 hn3 h14; have H14 := hide (h14.d1.d1.d1.d1); have HN3 := hide hn3; clear h14 H13 hn3))
                      go_roundw
                      case rel => exact ⟨k + 1, by omega, by go_num, vb3, vc3, by rw [HN3.out, HDL.out]; rfl, by rw [HTK.out]; exact H14.out⟩
                      case measure => exact meas_step hlt
                    exact AllReadyH.nil
                  exact AllReadyH.nil
                exact AllReadyH.nil
              exact AllReadyH.nil
            exact AllReadyH.nil
          refine AllReadyH.cons rfl (fun K hK => ?_) ?_
          · go_simp
            refine hK.out _ _ ?_ (fun hHeld => ?_)
            · trivial
            clear hK K
            try simp only [Act.put, List.setIfInBounds_toArray, List.set_cons_zero, List.set_cons_succ]
            refine wpAnyH_ready (rs := [1]) (by kernel_rfl) (by simp) ?_
            refine AllReadyH.cons rfl (fun K hK => ?_) ?_
            · go_simp
              refine hK.out _ _ ?_ (fun hHeld => ?_)
              · trivial
              clear hK K
              try simp only [Act.put, List.setIfInBounds_toArray, List.set_cons_zero, List.set_cons_succ]
              refine wpAnyH_ready (rs := [2]) (by kernel_rfl) (by simp) ?_
              refine AllReadyH.cons rfl (fun K hK => ?_) ?_
              · go_simp
                go_at_call 20
                refine (IHA.out _ _ _ _ H10.out.drew mem1 hszA).mono ?_
                rintro z w12 ⟨vA, rfl, h12⟩
                obtain ⟨bA, cA, hvA, _⟩ := h12.sl_form mem0
                subst hvA
                have a4b : w12.cell? ⟨g9, 4, none⟩ = some vb2 := h12.blk_cell mem1 4
                have H12 := hide h12.f1
                clear h12 H10
                refine hK.out _ _ ?_ (fun hHeld => ?_)
                · trivial
                clear hK K
                try simp only [Act.put, List.setIfInBounds_toArray, List.set_cons_zero, List.set_cons_succ]
                refine wpAnyH_takeD (i := 6) (some 30) (v := ?v6_23) rfl rfl (by kernel_rfl) (by kernel_rfl) (by kernel_rfl) (fun _ _ _ h => h) (by rfl) ?y6_23 (by assumption) ?r6_23
                case y6_23 => (intro w hSw; (try dsimp only at hSw); first | (go_simp; done) | (go_simp; with_reducible rfl))
                try simp only [Act.put, List.setIfInBounds_toArray, List.set_cons_zero, List.set_cons_succ]
                refine wpAnyH_ready (rs := [5]) (by kernel_rfl) (by simp) ?_
                refine AllReadyH.cons rfl (fun K hK => ?_) ?_
                · go_simp
                  go_at_call 20
                  refine (IHB.out _ _ _ _ H12.out mem3 hszB).mono ?_
                  rintro z w13 ⟨vB, rfl, h13⟩
                  obtain ⟨bB, cB, hvB, _⟩ := h13.sl_form mem0
                  subst hvB
                  have H13 := hide h13.f1
                  clear h13 H12
                  refine hK.out _ _ ?_ (fun hHeld => ?_)
                  · trivial
                  clear hK K
                  try simp only [Act.put, List.setIfInBounds_toArray, List.set_cons_zero, List.set_cons_succ]
                  refine wpAnyH_ready (rs := [7]) (by kernel_rfl) (by simp) ?_
                  refine AllReadyH.cons rfl (fun K hK => ?_) ?_
                  · refine step_storeF_st (cs := [.int .i64 x.kind, .int .i64 x.pos, sv x.name, va, vb2]) (ds := [.int .i64 x.kind, .int .i64 x.pos, sv x.name, .slice bA (turnS x.A).toL.length cA, vb2]) rfl 45 (.tmp 30) (.tmp 26) rfl szStmts rfl rfl rfl rfl H13.out (by simp) rfl ?_
                    intro w15 h15
                    have H15 := hide h15
                    clear h15 H13
                    refine hK.out _ _ ?_ (fun hHeld => ?_)
                    · trivial
                    clear hK K
                    try simp only [Act.put, List.setIfInBounds_toArray, List.set_cons_zero, List.set_cons_succ]
                    refine wpAnyH_takeD (i := 8) (some 31) (v := ?v8_24) rfl rfl (by kernel_rfl) (by kernel_rfl) (by kernel_rfl) (fun _ _ _ h => h) (by rfl) ?y8_24 (by assumption) ?r8_24
                    case y8_24 => (intro w hSw; (try dsimp only at hSw); first | (go_simp; done) | (go_simp; with_reducible rfl))
                    try simp only [Act.put, List.setIfInBounds_toArray, List.set_cons_zero, List.set_cons_succ]
                    refine wpAnyH_ready (rs := [9]) (by kernel_rfl) (by simp) ?_
                    refine AllReadyH.cons rfl (fun K hK => ?_) ?_
                    · refine step_storeF_st (cs := [.int .i64 x.kind, .int .i64 x.pos, sv x.name, .slice bA (turnS x.A).toL.length cA, vb2]) (ds := [.int .i64 x.kind, .int .i64 x.pos, sv x.name, .slice bA (turnS x.A).toL.length cA, .slice bB (turnS x.B).toL.length cB]) rfl 45 (.tmp 31) (.tmp 29) rfl szStmts rfl rfl rfl rfl H15.out (by simp) rfl ?_
                      intro w16 h16
                      have HZ0 := hide h16
                      clear h16 H15
                      refine hK.out _ _ ?_ (fun hHeld => ?_)
                      · trivial
                      clear hK K
                      try simp only [Act.put, List.setIfInBounds_toArray, List.set_cons_zero, List.set_cons_succ]
                      refine wpAnyH_done (by kernel_rfl) ?_ _
                      have HZ := hide HZ0.out.d3.d3.d3
                      clear HZ0
                      go_wp2_with (first
                        | (refine wpList_loadB_st (cs := [.int .i64 x.kind, .int .i64 x.pos, sv x.name, .slice bA (turnS x.A).toL.length cA, .slice bB (turnS x.B).toL.length cB]) rfl agStmt (.tmp 5) rfl rfl rfl HZ.out mem0 ?_)
                        | (refine wpList_build1_st (E := stmtE) rfl (.tmp 33) slStmt rfl (turnOf x) rfl HZ.out ?_ ?_; exact (fun e hl hs => by rw [HSO.out]; exact ⟨_, _, rfl, HOK.out, Stms.sl_iff.2 (hs.sl_mem mem2), Stms.sl_iff.2 (hs.sl_mem mem1)⟩); intro g13 w13 h13; have H13 := hide h13.f4; clear h13 HZ)
                        | (at_builtin; refine wpList_append_st rfl (.tmp 32) (.tmp 34) slStmt rfl H13.out (Src.of_rows mem1) rfl rfl hq1 hq2 ?_; intro vb3 n3 vc3 w14 hn3 h14; have H14 := hide (h14.d1.d1.d1.d1); have HN3 := hide hn3; clear h14 H13 hn3))
                      go_roundw
                      case rel => exact ⟨k + 1, by omega, by go_num, vb3, vc3, by rw [HN3.out, HDL.out]; rfl, by rw [HTK.out]; exact H14.out⟩
                      case measure => exact meas_step hlt
                    exact AllReadyH.nil
                  exact AllReadyH.nil
                exact AllReadyH.nil
              exact AllReadyH.nil
            exact AllReadyH.nil
          exact AllReadyH.nil
      · have hke : l.toL.take k = l.toL := List.take_of_length_le (by omega)
        have hf := H1.out.persist
        rw [hke, ← turnS_toL] at hf
        have HF := hide hf
        clear hke hf H1
        go_wp2_with fail
        go_ret
        exact ⟨_, rfl, HF.out⟩
theorem gturned_calls (l : Stms) : GTurned l := gturned_all l.size l rfl
end Go.Proofs.Ytmebmgbjpbapjaa
