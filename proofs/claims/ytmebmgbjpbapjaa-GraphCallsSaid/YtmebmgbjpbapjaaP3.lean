/-
  deadboltlaw6: Block.
-/
import Derived.Test.YtmebmgbjpbapjaaP1
import Derived.Test.YtmebmgbjpbapjaaGz
import Derived.Test.YtmebmgbjpbapjaaSp
import Derived.Test.YtmebmgbjpbapjaaGqd
namespace Go.Proofs.Ytmebmgbjpbapjaa
open Go.RowKit Go.Maps Go.MapKept
variable {b : Env} {L : List HP} {w : World}

abbrev sX : Str := [120]
abbrev sY : Str := [121]
abbrev sZ : Str := [122]
abbrev sL : Str := [108]
abbrev sM : Str := [109]
abbrev sN : Str := [110]
abbrev sF : Str := [102]
abbrev sG : Str := [103]
abbrev sH : Str := [104]
abbrev sMain : Str := [109, 97, 105, 110]
def nameAt (k : Int) : List Str := if k = 1 ∨ k = 2 then [sX, sY, sZ] else if k = 3 ∨ k = 4 then [sL, sM, sN] else if k = 5 ∨ k = 6 then [sF, sG, sH, sMain] else []
def nameR (k n : Int) : Str := (nameAt k)[(n % (nameAt k).length).toNat]?.getD []
/-- The statements that raw ones become. -/
def blockR : Raws → Stms
  | .nil => .nil
  | .cons k n A B r => .cons (1 + k % 8) 0 (nameR (1 + k % 8) n) (if 1 + k % 8 = 7 ∨ 1 + k % 8 = 8 then blockR A else .nil) (if 1 + k % 8 = 7 then blockR B else .nil) (blockR r)
def stmtOf (s : RRec) : SRec := ⟨1 + s.kind % 8, 0, nameR (1 + s.kind % 8) s.n, if 1 + s.kind % 8 = 7 ∨ 1 + s.kind % 8 = 8 then blockR s.A else .nil, if 1 + s.kind % 8 = 7 then blockR s.B else .nil⟩
theorem blockR_toL : ∀ l : Raws, (blockR l).toL = l.toL.map stmtOf
  | .nil => rfl
  | .cons k n A B r => by simp [blockR, Stms.toL, Raws.toL, stmtOf, blockR_toL r]
theorem okStr_small (s : Str) (h : s.length ≤ 100) : okStr s := by simp only [okStr, maxLen]; omega
theorem sl_nil_stms (h : Frag) : Stms.sl h (.slice none 0 0) .nil := Stms.sl_iff.2 (El.sl_nil _ _)
theorem szStr : (Try.prog.info? 9).map (·.size) = some 1 := by kernel_rfl
theorem szStmts : (Try.prog.info? 45).map (·.size) = some 1 := by kernel_rfl
theorem Raws.size_len : ∀ l : Raws, l.toL.length ≤ l.size
  | .nil => by simp [Raws.toL]
  | .cons k n A B r => by have := Raws.size_len r; simp [Raws.toL, Raws.size]; omega

def GBlock (l : Raws) : Prop := ∀ (b : Env) (L : List HP) (w : World) (v : Value), St b L w → HP.sl rawE v l.toL ∈ L → l.size ≤ 1000 →
    Calls Try.prog 43 #[v] w fun x w' => ∃ v', x = .returned v' ∧ St b (HP.sl stmtE v' (blockR l).toL :: L) w'
def BlockAt (b : Env) (L : List HP) (l : List RRec) (v i : Value) (wr : World) : Prop := ∃ k : Nat, k ≤ l.length ∧ i = .int .i64 k ∧ ∃ base cap, v = .slice base k cap ∧ St b (HP.rows 50 stmtE v ((l.take k).map stmtOf) :: L) wr

set_option maxRecDepth 100000 in
set_option maxHeartbeats 8000000 in
theorem gblock_all : ∀ (n : Nat) (l : Raws), l.size = n → GBlock l := by
  intro n
  induction n using Nat.strongRecOn with
  | _ n ih =>
    intro l hl b L w v h hm hsz
    obtain ⟨base, cap, rfl, hc1, hc2⟩ := h.sl_form hm
    have hm2 : (l.toL.length : Int) ≤ 9223372036854775807 := by unfold maxLen at hc2; omega
    have hlen : l.toL.length ≤ 1000 := Nat.le_trans (Raws.size_len l) hsz
    have H := hide (h.rows_nil 50 stmtE)
    have HM := hide hm
    have IH := hide ih
    have HL := hide hl
    have HSZ := hide hsz
    clear h hm hc1 hc2 ih hl hsz
    go_enter Try.func43, Try.ntmps43
    go_wp2_with fail
    go_loopw [3, 4] (fun v i wr => BlockAt b L l.toL v i wr) (fun _ i _ => l.toL.length - (intOf i).toNat)
    case atStart => exact ⟨0, by omega, rfl, none, 0, rfl, H.out⟩
    case round =>
      obtain ⟨k, hk, rfl, vb, vc, rfl, hs⟩ := hrel
      have H1 := hide hs
      clear hs H
      by_cases hlt : k < l.toL.length
      · have hlt' : (k : Int) < l.toL.length := by omega
        obtain ⟨g, o, rfl⟩ := H1.out.sl_base (up1 HM.out) (by omega) (by decide)
        obtain ⟨cs, h2⟩ := H1.out.elem (up1 HM.out) (List.getElem?_eq_getElem hlt) (by decide)
        have hsm := Raws.size_mem (List.getElem_mem hlt)
        have htk := List.take_succ_eq_append_getElem hlt
        have hdl : ((l.toL.take k).map stmtOf).length = k := by simp; omega
        obtain ⟨x, hx⟩ : ∃ x, l.toL[k] = x := ⟨_, rfl⟩
        rw [hx] at h2 hsm htk
        obtain ⟨va, vb2, hok, rfl, h3⟩ := h2.raw
        have hszA : x.A.size ≤ 1000 := by have := HSZ.out; omega
        have hszB : x.B.size ≤ 1000 := by have := HSZ.out; omega
        have IHA : Hid (GBlock x.A) := hide (IH.out x.A.size (by rw [← HL.out]; exact hsm.1) x.A rfl)
        have IHB : Hid (GBlock x.B) := hide (IH.out x.B.size (by rw [← HL.out]; exact hsm.2) x.B rfl)
        have HTK : Hid ((l.toL.take (k + 1)).map stmtOf = (l.toL.take k).map stmtOf ++ [stmtOf x]) := hide (by rw [htk, List.map_append]; rfl)
        have x0 : wr.cell? ⟨g, o + k * 4, none⟩ = some (.int .i64 x.kind) := h3.elem_cell mem2 0 rfl
        obtain ⟨⟨ok1, ok2⟩, ok3, ok4⟩ := hok
        have hq1 : ((l.toL.take k).map stmtOf).length + [stmtOf x].length ≤ maxLen := by rw [hdl]; unfold maxLen; simp; omega
        have hq2 : (((l.toL.take k).map stmtOf).length + [stmtOf x].length) * 80 ≤ 140737488355328 := by rw [hdl]; simp; omega
        generalize hdone : (l.toL.take k).map stmtOf = done at h3 HTK hdl hq1 hq2
        have HDL := hide hdl
        have H3 := hide h3
        clear h2 h3 hsm htk hx H1 hdone hdl
        have m1 := Int.emod_nonneg x.kind (show (8 : Int) ≠ 0 by omega)
        have m2 := Int.emod_lt_of_pos x.kind (show (0 : Int) < 8 by omega)
        have hcase : x.kind % 8 = 0 ∨ x.kind % 8 = 1 ∨ x.kind % 8 = 2 ∨ x.kind % 8 = 3 ∨ x.kind % 8 = 4 ∨ x.kind % 8 = 5 ∨ x.kind % 8 = 6 ∨ x.kind % 8 = 7 := by omega
        clear m1 m2
        rcases hcase with hkk | hkk | hkk | hkk | hkk | hkk | hkk | hkk
        · have C1 : Hid (∀ w, Calls Try.prog 42 #[.int .i64 x.kind, .int .i64 8] w (fun e w' => e = .returned (.int .i64 0) ∧ w = w')) := hide (fun w => (within6_calls x.kind 8 (by decide) (by decide) ok1 ok2).mono (fun e w' he => ⟨by rw [he.1, hkk], he.2⟩))
          have ONE : Hid (∀ v ∈ ([.int .i64 1, .int .i64 0, .string ⟨#[]⟩, .slice none 0 0, .slice none 0 0] : List Value), v.oneCell' = true) := hide (by simp [Value.oneCell'])
          obtain ⟨j, hj⟩ : ∃ j : Nat, x.n % 3 = (j : Int) := ⟨(x.n % 3).toNat, by have := Int.emod_nonneg x.n (show (3 : Int) ≠ 0 by omega); omega⟩
          have hj2 := Int.emod_lt_of_pos x.n (show (0 : Int) < 3 by omega)
          rw [hj] at hj2
          have hj3 : j < 3 := by omega
          have hjI : (0 : Int) ≤ j := by omega
          obtain ⟨nm, hnm⟩ : ∃ nm, [sX, sY, sZ][j]'hj3 = nm := ⟨_, rfl⟩
          have hnr : nameR (1 + 0) x.n = nm := by unfold nameR; rw [show nameAt (1 + 0) = [sX, sY, sZ] from rfl, show ((([sX, sY, sZ] : List Str).length : Nat) : Int) = 3 from rfl, hj, Int.toNat_natCast, ← hnm, List.getElem?_eq_getElem hj3]; rfl
          have HSO : Hid (stmtOf x = ⟨1, 0, nm, .nil, .nil⟩) := hide (by unfold stmtOf; rw [hkk, hnr]; rfl)
          have C2 : Hid (∀ w, Calls Try.prog 42 #[.int .i64 x.n, .int .i64 3] w (fun e w' => e = .returned (.int .i64 (j : Int)) ∧ w = w')) := hide (fun w => (within6_calls x.n 3 (by decide) (by decide) ok3 ok4).mono (fun e w' he => ⟨by rw [he.1, hj], he.2⟩))
          have HNM := hide hnm
          clear hkk hj hnm hnr
          go_wp2_with (first
            | (go_at_call 42; with_reducible refine (C1.out _).mono ?_; rintro z w1 ⟨rfl, rfl⟩; clear C1)
            | ((with_reducible refine wpList_alloc_ag rfl agStmt rfl H3.out ?_); intro g9 w9 h9; have H9 := hide h9; clear h9 H3)
            | ((with_reducible refine wpList_store_ag (cs := [.int .i64 1, .int .i64 0, .string ⟨#[]⟩, .slice none 0 0, .slice none 0 0]) rfl agStmt (.tmp 5) (.tmp 20) rfl rfl rfl rfl rfl ONE.out H9.out ?_); intro w10 h10; have c0 : w10.cell? ⟨g9, 0, none⟩ = some (.int .i64 1) := h10.blk_cell mem0 0; have x1 : w10.cell? ⟨g, o + k * 4 + 1, none⟩ = some (.int .i64 x.n) := h10.elem_cell mem3 1 rfl; have x2 : w10.cell? ⟨g, o + k * 4 + 2, none⟩ = some va := h10.elem_cell mem3 2 rfl; have x3 : w10.cell? ⟨g, o + k * 4 + 3, none⟩ = some vb2 := h10.elem_cell mem3 3 rfl; have H10 := hide h10; clear h10 H9)
            | (refine wpList_build_st (E := strE) rfl 3 _ slStr rfl (by omega) (by omega) [sv sX, sv sY, sv sZ] [sX, sY, sZ] ?_ rfl rfl H10.out ?_ ?_; exact rfl; exact (fun _ _ _ => ⟨⟨rfl, okStr_small _ (by decide)⟩, ⟨rfl, okStr_small _ (by decide)⟩, ⟨rfl, okStr_small _ (by decide)⟩, trivial⟩); intro g11 w11 h11; obtain ⟨cI, okn⟩ := h11.sc_row_at mem0 (i := j) hj3; rw [HNM.out] at cI okn; have OKN := hide okn; have H11 := hide h11.f1; clear h11 H10 okn)
            | (go_at_call 42; with_reducible refine (C2.out _).mono ?_; rintro z w12 ⟨rfl, rfl⟩; clear C2)
            | ((with_reducible refine wpList_storeF_st (cs := [.int .i64 1, .int .i64 0, .string ⟨#[]⟩, .slice none 0 0, .slice none 0 0]) (ds := [.int .i64 1, .int .i64 0, sv nm, .slice none 0 0, .slice none 0 0]) rfl 9 (.tmp 36) (.tmp 35) rfl szStr rfl rfl rfl rfl H11.out (by decide) rfl ?_); intro w12 h12; have HZ := hide h12.d1; clear h12 H11)
            | (refine wpList_loadB_st (cs := [.int .i64 1, .int .i64 0, sv nm, .slice none 0 0, .slice none 0 0]) rfl agStmt (.tmp 5) rfl rfl rfl HZ.out mem0 ?_)
            | (refine wpList_build1_st (E := stmtE) rfl (.tmp 81) slStmt rfl (stmtOf x) rfl HZ.out ?_ ?_; exact (fun e hl hs => by rw [HSO.out]; exact ⟨_, _, rfl, OKN.out, sl_nil_stms _, sl_nil_stms _⟩); intro g13 w13 h13; have H13 := hide (h13.f5); clear h13 HZ)
            | (at_builtin; refine wpList_append_st rfl (.tmp 80) (.tmp 82) slStmt rfl H13.out (Src.of_rows mem1) rfl rfl hq1 hq2 ?_; intro vb3 n3 vc3 w14 hn3 h14; have H14 := hide (h14.d1.d1.d1.d1.d1); have HN3 := hide hn3; clear h14 H13 hn3))
          go_roundw
          case rel => exact ⟨k + 1, by omega, by go_num, vb3, vc3, by rw [HN3.out, HDL.out]; rfl, by rw [HTK.out]; exact H14.out⟩
          case measure => exact meas_step hlt
        · have C1 : Hid (∀ w, Calls Try.prog 42 #[.int .i64 x.kind, .int .i64 8] w (fun e w' => e = .returned (.int .i64 1) ∧ w = w')) := hide (fun w => (within6_calls x.kind 8 (by decide) (by decide) ok1 ok2).mono (fun e w' he => ⟨by rw [he.1, hkk], he.2⟩))
          have ONE : Hid (∀ v ∈ ([.int .i64 2, .int .i64 0, .string ⟨#[]⟩, .slice none 0 0, .slice none 0 0] : List Value), v.oneCell' = true) := hide (by simp [Value.oneCell'])
          obtain ⟨j, hj⟩ : ∃ j : Nat, x.n % 3 = (j : Int) := ⟨(x.n % 3).toNat, by have := Int.emod_nonneg x.n (show (3 : Int) ≠ 0 by omega); omega⟩
          have hj2 := Int.emod_lt_of_pos x.n (show (0 : Int) < 3 by omega)
          rw [hj] at hj2
          have hj3 : j < 3 := by omega
          have hjI : (0 : Int) ≤ j := by omega
          obtain ⟨nm, hnm⟩ : ∃ nm, [sX, sY, sZ][j]'hj3 = nm := ⟨_, rfl⟩
          have hnr : nameR (1 + 1) x.n = nm := by unfold nameR; rw [show nameAt (1 + 1) = [sX, sY, sZ] from rfl, show ((([sX, sY, sZ] : List Str).length : Nat) : Int) = 3 from rfl, hj, Int.toNat_natCast, ← hnm, List.getElem?_eq_getElem hj3]; rfl
          have HSO : Hid (stmtOf x = ⟨2, 0, nm, .nil, .nil⟩) := hide (by unfold stmtOf; rw [hkk, hnr]; rfl)
          have C2 : Hid (∀ w, Calls Try.prog 42 #[.int .i64 x.n, .int .i64 3] w (fun e w' => e = .returned (.int .i64 (j : Int)) ∧ w = w')) := hide (fun w => (within6_calls x.n 3 (by decide) (by decide) ok3 ok4).mono (fun e w' he => ⟨by rw [he.1, hj], he.2⟩))
          have HNM := hide hnm
          clear hkk hj hnm hnr
          go_wp2_with (first
            | (go_at_call 42; with_reducible refine (C1.out _).mono ?_; rintro z w1 ⟨rfl, rfl⟩; clear C1)
            | ((with_reducible refine wpList_alloc_ag rfl agStmt rfl H3.out ?_); intro g9 w9 h9; have H9 := hide h9; clear h9 H3)
            | ((with_reducible refine wpList_store_ag (cs := [.int .i64 2, .int .i64 0, .string ⟨#[]⟩, .slice none 0 0, .slice none 0 0]) rfl agStmt (.tmp 5) (.tmp 20) rfl rfl rfl rfl rfl ONE.out H9.out ?_); intro w10 h10; have c0 : w10.cell? ⟨g9, 0, none⟩ = some (.int .i64 2) := h10.blk_cell mem0 0; have x1 : w10.cell? ⟨g, o + k * 4 + 1, none⟩ = some (.int .i64 x.n) := h10.elem_cell mem3 1 rfl; have x2 : w10.cell? ⟨g, o + k * 4 + 2, none⟩ = some va := h10.elem_cell mem3 2 rfl; have x3 : w10.cell? ⟨g, o + k * 4 + 3, none⟩ = some vb2 := h10.elem_cell mem3 3 rfl; have H10 := hide h10; clear h10 H9)
            | (refine wpList_build_st (E := strE) rfl 3 _ slStr rfl (by omega) (by omega) [sv sX, sv sY, sv sZ] [sX, sY, sZ] ?_ rfl rfl H10.out ?_ ?_; exact rfl; exact (fun _ _ _ => ⟨⟨rfl, okStr_small _ (by decide)⟩, ⟨rfl, okStr_small _ (by decide)⟩, ⟨rfl, okStr_small _ (by decide)⟩, trivial⟩); intro g11 w11 h11; obtain ⟨cI, okn⟩ := h11.sc_row_at mem0 (i := j) hj3; rw [HNM.out] at cI okn; have OKN := hide okn; have H11 := hide h11.f1; clear h11 H10 okn)
            | (go_at_call 42; with_reducible refine (C2.out _).mono ?_; rintro z w12 ⟨rfl, rfl⟩; clear C2)
            | ((with_reducible refine wpList_storeF_st (cs := [.int .i64 2, .int .i64 0, .string ⟨#[]⟩, .slice none 0 0, .slice none 0 0]) (ds := [.int .i64 2, .int .i64 0, sv nm, .slice none 0 0, .slice none 0 0]) rfl 9 (.tmp 36) (.tmp 35) rfl szStr rfl rfl rfl rfl H11.out (by decide) rfl ?_); intro w12 h12; have HZ := hide h12.d1; clear h12 H11)
            | (refine wpList_loadB_st (cs := [.int .i64 2, .int .i64 0, sv nm, .slice none 0 0, .slice none 0 0]) rfl agStmt (.tmp 5) rfl rfl rfl HZ.out mem0 ?_)
            | (refine wpList_build1_st (E := stmtE) rfl (.tmp 81) slStmt rfl (stmtOf x) rfl HZ.out ?_ ?_; exact (fun e hl hs => by rw [HSO.out]; exact ⟨_, _, rfl, OKN.out, sl_nil_stms _, sl_nil_stms _⟩); intro g13 w13 h13; have H13 := hide (h13.f5); clear h13 HZ)
            | (at_builtin; refine wpList_append_st rfl (.tmp 80) (.tmp 82) slStmt rfl H13.out (Src.of_rows mem1) rfl rfl hq1 hq2 ?_; intro vb3 n3 vc3 w14 hn3 h14; have H14 := hide (h14.d1.d1.d1.d1.d1); have HN3 := hide hn3; clear h14 H13 hn3))
          go_roundw
          case rel => exact ⟨k + 1, by omega, by go_num, vb3, vc3, by rw [HN3.out, HDL.out]; rfl, by rw [HTK.out]; exact H14.out⟩
          case measure => exact meas_step hlt
        · have C1 : Hid (∀ w, Calls Try.prog 42 #[.int .i64 x.kind, .int .i64 8] w (fun e w' => e = .returned (.int .i64 2) ∧ w = w')) := hide (fun w => (within6_calls x.kind 8 (by decide) (by decide) ok1 ok2).mono (fun e w' he => ⟨by rw [he.1, hkk], he.2⟩))
          have ONE : Hid (∀ v ∈ ([.int .i64 3, .int .i64 0, .string ⟨#[]⟩, .slice none 0 0, .slice none 0 0] : List Value), v.oneCell' = true) := hide (by simp [Value.oneCell'])
          obtain ⟨j, hj⟩ : ∃ j : Nat, x.n % 3 = (j : Int) := ⟨(x.n % 3).toNat, by have := Int.emod_nonneg x.n (show (3 : Int) ≠ 0 by omega); omega⟩
          have hj2 := Int.emod_lt_of_pos x.n (show (0 : Int) < 3 by omega)
          rw [hj] at hj2
          have hj3 : j < 3 := by omega
          have hjI : (0 : Int) ≤ j := by omega
          obtain ⟨nm, hnm⟩ : ∃ nm, [sL, sM, sN][j]'hj3 = nm := ⟨_, rfl⟩
          have hnr : nameR (1 + 2) x.n = nm := by unfold nameR; rw [show nameAt (1 + 2) = [sL, sM, sN] from rfl, show ((([sL, sM, sN] : List Str).length : Nat) : Int) = 3 from rfl, hj, Int.toNat_natCast, ← hnm, List.getElem?_eq_getElem hj3]; rfl
          have HSO : Hid (stmtOf x = ⟨3, 0, nm, .nil, .nil⟩) := hide (by unfold stmtOf; rw [hkk, hnr]; rfl)
          have C2 : Hid (∀ w, Calls Try.prog 42 #[.int .i64 x.n, .int .i64 3] w (fun e w' => e = .returned (.int .i64 (j : Int)) ∧ w = w')) := hide (fun w => (within6_calls x.n 3 (by decide) (by decide) ok3 ok4).mono (fun e w' he => ⟨by rw [he.1, hj], he.2⟩))
          have HNM := hide hnm
          clear hkk hj hnm hnr
          go_wp2_with (first
            | (go_at_call 42; with_reducible refine (C1.out _).mono ?_; rintro z w1 ⟨rfl, rfl⟩; clear C1)
            | ((with_reducible refine wpList_alloc_ag rfl agStmt rfl H3.out ?_); intro g9 w9 h9; have H9 := hide h9; clear h9 H3)
            | ((with_reducible refine wpList_store_ag (cs := [.int .i64 3, .int .i64 0, .string ⟨#[]⟩, .slice none 0 0, .slice none 0 0]) rfl agStmt (.tmp 5) (.tmp 20) rfl rfl rfl rfl rfl ONE.out H9.out ?_); intro w10 h10; have c0 : w10.cell? ⟨g9, 0, none⟩ = some (.int .i64 3) := h10.blk_cell mem0 0; have x1 : w10.cell? ⟨g, o + k * 4 + 1, none⟩ = some (.int .i64 x.n) := h10.elem_cell mem3 1 rfl; have x2 : w10.cell? ⟨g, o + k * 4 + 2, none⟩ = some va := h10.elem_cell mem3 2 rfl; have x3 : w10.cell? ⟨g, o + k * 4 + 3, none⟩ = some vb2 := h10.elem_cell mem3 3 rfl; have H10 := hide h10; clear h10 H9)
            | (refine wpList_build_st (E := strE) rfl 3 _ slStr rfl (by omega) (by omega) [sv sL, sv sM, sv sN] [sL, sM, sN] ?_ rfl rfl H10.out ?_ ?_; exact rfl; exact (fun _ _ _ => ⟨⟨rfl, okStr_small _ (by decide)⟩, ⟨rfl, okStr_small _ (by decide)⟩, ⟨rfl, okStr_small _ (by decide)⟩, trivial⟩); intro g11 w11 h11; obtain ⟨cI, okn⟩ := h11.sc_row_at mem0 (i := j) hj3; rw [HNM.out] at cI okn; have OKN := hide okn; have H11 := hide h11.f1; clear h11 H10 okn)
            | (go_at_call 42; with_reducible refine (C2.out _).mono ?_; rintro z w12 ⟨rfl, rfl⟩; clear C2)
            | ((with_reducible refine wpList_storeF_st (cs := [.int .i64 3, .int .i64 0, .string ⟨#[]⟩, .slice none 0 0, .slice none 0 0]) (ds := [.int .i64 3, .int .i64 0, sv nm, .slice none 0 0, .slice none 0 0]) rfl 9 (.tmp 45) (.tmp 44) rfl szStr rfl rfl rfl rfl H11.out (by decide) rfl ?_); intro w12 h12; have HZ := hide h12.d1; clear h12 H11)
            | (refine wpList_loadB_st (cs := [.int .i64 3, .int .i64 0, sv nm, .slice none 0 0, .slice none 0 0]) rfl agStmt (.tmp 5) rfl rfl rfl HZ.out mem0 ?_)
            | (refine wpList_build1_st (E := stmtE) rfl (.tmp 81) slStmt rfl (stmtOf x) rfl HZ.out ?_ ?_; exact (fun e hl hs => by rw [HSO.out]; exact ⟨_, _, rfl, OKN.out, sl_nil_stms _, sl_nil_stms _⟩); intro g13 w13 h13; have H13 := hide (h13.f5); clear h13 HZ)
            | (at_builtin; refine wpList_append_st rfl (.tmp 80) (.tmp 82) slStmt rfl H13.out (Src.of_rows mem1) rfl rfl hq1 hq2 ?_; intro vb3 n3 vc3 w14 hn3 h14; have H14 := hide (h14.d1.d1.d1.d1.d1); have HN3 := hide hn3; clear h14 H13 hn3))
          go_roundw
          case rel => exact ⟨k + 1, by omega, by go_num, vb3, vc3, by rw [HN3.out, HDL.out]; rfl, by rw [HTK.out]; exact H14.out⟩
          case measure => exact meas_step hlt
        · have C1 : Hid (∀ w, Calls Try.prog 42 #[.int .i64 x.kind, .int .i64 8] w (fun e w' => e = .returned (.int .i64 3) ∧ w = w')) := hide (fun w => (within6_calls x.kind 8 (by decide) (by decide) ok1 ok2).mono (fun e w' he => ⟨by rw [he.1, hkk], he.2⟩))
          have ONE : Hid (∀ v ∈ ([.int .i64 4, .int .i64 0, .string ⟨#[]⟩, .slice none 0 0, .slice none 0 0] : List Value), v.oneCell' = true) := hide (by simp [Value.oneCell'])
          obtain ⟨j, hj⟩ : ∃ j : Nat, x.n % 3 = (j : Int) := ⟨(x.n % 3).toNat, by have := Int.emod_nonneg x.n (show (3 : Int) ≠ 0 by omega); omega⟩
          have hj2 := Int.emod_lt_of_pos x.n (show (0 : Int) < 3 by omega)
          rw [hj] at hj2
          have hj3 : j < 3 := by omega
          have hjI : (0 : Int) ≤ j := by omega
          obtain ⟨nm, hnm⟩ : ∃ nm, [sL, sM, sN][j]'hj3 = nm := ⟨_, rfl⟩
          have hnr : nameR (1 + 3) x.n = nm := by unfold nameR; rw [show nameAt (1 + 3) = [sL, sM, sN] from rfl, show ((([sL, sM, sN] : List Str).length : Nat) : Int) = 3 from rfl, hj, Int.toNat_natCast, ← hnm, List.getElem?_eq_getElem hj3]; rfl
          have HSO : Hid (stmtOf x = ⟨4, 0, nm, .nil, .nil⟩) := hide (by unfold stmtOf; rw [hkk, hnr]; rfl)
          have C2 : Hid (∀ w, Calls Try.prog 42 #[.int .i64 x.n, .int .i64 3] w (fun e w' => e = .returned (.int .i64 (j : Int)) ∧ w = w')) := hide (fun w => (within6_calls x.n 3 (by decide) (by decide) ok3 ok4).mono (fun e w' he => ⟨by rw [he.1, hj], he.2⟩))
          have HNM := hide hnm
          clear hkk hj hnm hnr
          go_wp2_with (first
            | (go_at_call 42; with_reducible refine (C1.out _).mono ?_; rintro z w1 ⟨rfl, rfl⟩; clear C1)
            | ((with_reducible refine wpList_alloc_ag rfl agStmt rfl H3.out ?_); intro g9 w9 h9; have H9 := hide h9; clear h9 H3)
            | ((with_reducible refine wpList_store_ag (cs := [.int .i64 4, .int .i64 0, .string ⟨#[]⟩, .slice none 0 0, .slice none 0 0]) rfl agStmt (.tmp 5) (.tmp 20) rfl rfl rfl rfl rfl ONE.out H9.out ?_); intro w10 h10; have c0 : w10.cell? ⟨g9, 0, none⟩ = some (.int .i64 4) := h10.blk_cell mem0 0; have x1 : w10.cell? ⟨g, o + k * 4 + 1, none⟩ = some (.int .i64 x.n) := h10.elem_cell mem3 1 rfl; have x2 : w10.cell? ⟨g, o + k * 4 + 2, none⟩ = some va := h10.elem_cell mem3 2 rfl; have x3 : w10.cell? ⟨g, o + k * 4 + 3, none⟩ = some vb2 := h10.elem_cell mem3 3 rfl; have H10 := hide h10; clear h10 H9)
            | (refine wpList_build_st (E := strE) rfl 3 _ slStr rfl (by omega) (by omega) [sv sL, sv sM, sv sN] [sL, sM, sN] ?_ rfl rfl H10.out ?_ ?_; exact rfl; exact (fun _ _ _ => ⟨⟨rfl, okStr_small _ (by decide)⟩, ⟨rfl, okStr_small _ (by decide)⟩, ⟨rfl, okStr_small _ (by decide)⟩, trivial⟩); intro g11 w11 h11; obtain ⟨cI, okn⟩ := h11.sc_row_at mem0 (i := j) hj3; rw [HNM.out] at cI okn; have OKN := hide okn; have H11 := hide h11.f1; clear h11 H10 okn)
            | (go_at_call 42; with_reducible refine (C2.out _).mono ?_; rintro z w12 ⟨rfl, rfl⟩; clear C2)
            | ((with_reducible refine wpList_storeF_st (cs := [.int .i64 4, .int .i64 0, .string ⟨#[]⟩, .slice none 0 0, .slice none 0 0]) (ds := [.int .i64 4, .int .i64 0, sv nm, .slice none 0 0, .slice none 0 0]) rfl 9 (.tmp 45) (.tmp 44) rfl szStr rfl rfl rfl rfl H11.out (by decide) rfl ?_); intro w12 h12; have HZ := hide h12.d1; clear h12 H11)
            | (refine wpList_loadB_st (cs := [.int .i64 4, .int .i64 0, sv nm, .slice none 0 0, .slice none 0 0]) rfl agStmt (.tmp 5) rfl rfl rfl HZ.out mem0 ?_)
            | (refine wpList_build1_st (E := stmtE) rfl (.tmp 81) slStmt rfl (stmtOf x) rfl HZ.out ?_ ?_; exact (fun e hl hs => by rw [HSO.out]; exact ⟨_, _, rfl, OKN.out, sl_nil_stms _, sl_nil_stms _⟩); intro g13 w13 h13; have H13 := hide (h13.f5); clear h13 HZ)
            | (at_builtin; refine wpList_append_st rfl (.tmp 80) (.tmp 82) slStmt rfl H13.out (Src.of_rows mem1) rfl rfl hq1 hq2 ?_; intro vb3 n3 vc3 w14 hn3 h14; have H14 := hide (h14.d1.d1.d1.d1.d1); have HN3 := hide hn3; clear h14 H13 hn3))
          go_roundw
          case rel => exact ⟨k + 1, by omega, by go_num, vb3, vc3, by rw [HN3.out, HDL.out]; rfl, by rw [HTK.out]; exact H14.out⟩
          case measure => exact meas_step hlt
        · have C1 : Hid (∀ w, Calls Try.prog 42 #[.int .i64 x.kind, .int .i64 8] w (fun e w' => e = .returned (.int .i64 4) ∧ w = w')) := hide (fun w => (within6_calls x.kind 8 (by decide) (by decide) ok1 ok2).mono (fun e w' he => ⟨by rw [he.1, hkk], he.2⟩))
          have ONE : Hid (∀ v ∈ ([.int .i64 5, .int .i64 0, .string ⟨#[]⟩, .slice none 0 0, .slice none 0 0] : List Value), v.oneCell' = true) := hide (by simp [Value.oneCell'])
          obtain ⟨j, hj⟩ : ∃ j : Nat, x.n % 4 = (j : Int) := ⟨(x.n % 4).toNat, by have := Int.emod_nonneg x.n (show (4 : Int) ≠ 0 by omega); omega⟩
          have hj2 := Int.emod_lt_of_pos x.n (show (0 : Int) < 4 by omega)
          rw [hj] at hj2
          have hj3 : j < 4 := by omega
          have hjI : (0 : Int) ≤ j := by omega
          obtain ⟨nm, hnm⟩ : ∃ nm, [sF, sG, sH, sMain][j]'hj3 = nm := ⟨_, rfl⟩
          have hnr : nameR (1 + 4) x.n = nm := by unfold nameR; rw [show nameAt (1 + 4) = [sF, sG, sH, sMain] from rfl, show ((([sF, sG, sH, sMain] : List Str).length : Nat) : Int) = 4 from rfl, hj, Int.toNat_natCast, ← hnm, List.getElem?_eq_getElem hj3]; rfl
          have HSO : Hid (stmtOf x = ⟨5, 0, nm, .nil, .nil⟩) := hide (by unfold stmtOf; rw [hkk, hnr]; rfl)
          have C2 : Hid (∀ w, Calls Try.prog 42 #[.int .i64 x.n, .int .i64 4] w (fun e w' => e = .returned (.int .i64 (j : Int)) ∧ w = w')) := hide (fun w => (within6_calls x.n 4 (by decide) (by decide) ok3 ok4).mono (fun e w' he => ⟨by rw [he.1, hj], he.2⟩))
          have HNM := hide hnm
          clear hkk hj hnm hnr
          go_wp2_with (first
            | (go_at_call 42; with_reducible refine (C1.out _).mono ?_; rintro z w1 ⟨rfl, rfl⟩; clear C1)
            | ((with_reducible refine wpList_alloc_ag rfl agStmt rfl H3.out ?_); intro g9 w9 h9; have H9 := hide h9; clear h9 H3)
            | ((with_reducible refine wpList_store_ag (cs := [.int .i64 5, .int .i64 0, .string ⟨#[]⟩, .slice none 0 0, .slice none 0 0]) rfl agStmt (.tmp 5) (.tmp 20) rfl rfl rfl rfl rfl ONE.out H9.out ?_); intro w10 h10; have c0 : w10.cell? ⟨g9, 0, none⟩ = some (.int .i64 5) := h10.blk_cell mem0 0; have x1 : w10.cell? ⟨g, o + k * 4 + 1, none⟩ = some (.int .i64 x.n) := h10.elem_cell mem3 1 rfl; have x2 : w10.cell? ⟨g, o + k * 4 + 2, none⟩ = some va := h10.elem_cell mem3 2 rfl; have x3 : w10.cell? ⟨g, o + k * 4 + 3, none⟩ = some vb2 := h10.elem_cell mem3 3 rfl; have H10 := hide h10; clear h10 H9)
            | (refine wpList_build_st (E := strE) rfl 4 _ slStr rfl (by omega) (by omega) [sv sF, sv sG, sv sH, sv sMain] [sF, sG, sH, sMain] ?_ rfl rfl H10.out ?_ ?_; exact rfl; exact (fun _ _ _ => ⟨⟨rfl, okStr_small _ (by decide)⟩, ⟨rfl, okStr_small _ (by decide)⟩, ⟨rfl, okStr_small _ (by decide)⟩, ⟨rfl, okStr_small _ (by decide)⟩, trivial⟩); intro g11 w11 h11; obtain ⟨cI, okn⟩ := h11.sc_row_at mem0 (i := j) hj3; rw [HNM.out] at cI okn; have OKN := hide okn; have H11 := hide h11.f1; clear h11 H10 okn)
            | (go_at_call 42; with_reducible refine (C2.out _).mono ?_; rintro z w12 ⟨rfl, rfl⟩; clear C2)
            | ((with_reducible refine wpList_storeF_st (cs := [.int .i64 5, .int .i64 0, .string ⟨#[]⟩, .slice none 0 0, .slice none 0 0]) (ds := [.int .i64 5, .int .i64 0, sv nm, .slice none 0 0, .slice none 0 0]) rfl 9 (.tmp 54) (.tmp 53) rfl szStr rfl rfl rfl rfl H11.out (by decide) rfl ?_); intro w12 h12; have HZ := hide h12.d1; clear h12 H11)
            | (refine wpList_loadB_st (cs := [.int .i64 5, .int .i64 0, sv nm, .slice none 0 0, .slice none 0 0]) rfl agStmt (.tmp 5) rfl rfl rfl HZ.out mem0 ?_)
            | (refine wpList_build1_st (E := stmtE) rfl (.tmp 81) slStmt rfl (stmtOf x) rfl HZ.out ?_ ?_; exact (fun e hl hs => by rw [HSO.out]; exact ⟨_, _, rfl, OKN.out, sl_nil_stms _, sl_nil_stms _⟩); intro g13 w13 h13; have H13 := hide (h13.f5); clear h13 HZ)
            | (at_builtin; refine wpList_append_st rfl (.tmp 80) (.tmp 82) slStmt rfl H13.out (Src.of_rows mem1) rfl rfl hq1 hq2 ?_; intro vb3 n3 vc3 w14 hn3 h14; have H14 := hide (h14.d1.d1.d1.d1.d1); have HN3 := hide hn3; clear h14 H13 hn3))
          go_roundw
          case rel => exact ⟨k + 1, by omega, by go_num, vb3, vc3, by rw [HN3.out, HDL.out]; rfl, by rw [HTK.out]; exact H14.out⟩
          case measure => exact meas_step hlt
        · have C1 : Hid (∀ w, Calls Try.prog 42 #[.int .i64 x.kind, .int .i64 8] w (fun e w' => e = .returned (.int .i64 5) ∧ w = w')) := hide (fun w => (within6_calls x.kind 8 (by decide) (by decide) ok1 ok2).mono (fun e w' he => ⟨by rw [he.1, hkk], he.2⟩))
          have ONE : Hid (∀ v ∈ ([.int .i64 6, .int .i64 0, .string ⟨#[]⟩, .slice none 0 0, .slice none 0 0] : List Value), v.oneCell' = true) := hide (by simp [Value.oneCell'])
          obtain ⟨j, hj⟩ : ∃ j : Nat, x.n % 4 = (j : Int) := ⟨(x.n % 4).toNat, by have := Int.emod_nonneg x.n (show (4 : Int) ≠ 0 by omega); omega⟩
          have hj2 := Int.emod_lt_of_pos x.n (show (0 : Int) < 4 by omega)
          rw [hj] at hj2
          have hj3 : j < 4 := by omega
          have hjI : (0 : Int) ≤ j := by omega
          obtain ⟨nm, hnm⟩ : ∃ nm, [sF, sG, sH, sMain][j]'hj3 = nm := ⟨_, rfl⟩
          have hnr : nameR (1 + 5) x.n = nm := by unfold nameR; rw [show nameAt (1 + 5) = [sF, sG, sH, sMain] from rfl, show ((([sF, sG, sH, sMain] : List Str).length : Nat) : Int) = 4 from rfl, hj, Int.toNat_natCast, ← hnm, List.getElem?_eq_getElem hj3]; rfl
          have HSO : Hid (stmtOf x = ⟨6, 0, nm, .nil, .nil⟩) := hide (by unfold stmtOf; rw [hkk, hnr]; rfl)
          have C2 : Hid (∀ w, Calls Try.prog 42 #[.int .i64 x.n, .int .i64 4] w (fun e w' => e = .returned (.int .i64 (j : Int)) ∧ w = w')) := hide (fun w => (within6_calls x.n 4 (by decide) (by decide) ok3 ok4).mono (fun e w' he => ⟨by rw [he.1, hj], he.2⟩))
          have HNM := hide hnm
          clear hkk hj hnm hnr
          go_wp2_with (first
            | (go_at_call 42; with_reducible refine (C1.out _).mono ?_; rintro z w1 ⟨rfl, rfl⟩; clear C1)
            | ((with_reducible refine wpList_alloc_ag rfl agStmt rfl H3.out ?_); intro g9 w9 h9; have H9 := hide h9; clear h9 H3)
            | ((with_reducible refine wpList_store_ag (cs := [.int .i64 6, .int .i64 0, .string ⟨#[]⟩, .slice none 0 0, .slice none 0 0]) rfl agStmt (.tmp 5) (.tmp 20) rfl rfl rfl rfl rfl ONE.out H9.out ?_); intro w10 h10; have c0 : w10.cell? ⟨g9, 0, none⟩ = some (.int .i64 6) := h10.blk_cell mem0 0; have x1 : w10.cell? ⟨g, o + k * 4 + 1, none⟩ = some (.int .i64 x.n) := h10.elem_cell mem3 1 rfl; have x2 : w10.cell? ⟨g, o + k * 4 + 2, none⟩ = some va := h10.elem_cell mem3 2 rfl; have x3 : w10.cell? ⟨g, o + k * 4 + 3, none⟩ = some vb2 := h10.elem_cell mem3 3 rfl; have H10 := hide h10; clear h10 H9)
            | (refine wpList_build_st (E := strE) rfl 4 _ slStr rfl (by omega) (by omega) [sv sF, sv sG, sv sH, sv sMain] [sF, sG, sH, sMain] ?_ rfl rfl H10.out ?_ ?_; exact rfl; exact (fun _ _ _ => ⟨⟨rfl, okStr_small _ (by decide)⟩, ⟨rfl, okStr_small _ (by decide)⟩, ⟨rfl, okStr_small _ (by decide)⟩, ⟨rfl, okStr_small _ (by decide)⟩, trivial⟩); intro g11 w11 h11; obtain ⟨cI, okn⟩ := h11.sc_row_at mem0 (i := j) hj3; rw [HNM.out] at cI okn; have OKN := hide okn; have H11 := hide h11.f1; clear h11 H10 okn)
            | (go_at_call 42; with_reducible refine (C2.out _).mono ?_; rintro z w12 ⟨rfl, rfl⟩; clear C2)
            | ((with_reducible refine wpList_storeF_st (cs := [.int .i64 6, .int .i64 0, .string ⟨#[]⟩, .slice none 0 0, .slice none 0 0]) (ds := [.int .i64 6, .int .i64 0, sv nm, .slice none 0 0, .slice none 0 0]) rfl 9 (.tmp 54) (.tmp 53) rfl szStr rfl rfl rfl rfl H11.out (by decide) rfl ?_); intro w12 h12; have HZ := hide h12.d1; clear h12 H11)
            | (refine wpList_loadB_st (cs := [.int .i64 6, .int .i64 0, sv nm, .slice none 0 0, .slice none 0 0]) rfl agStmt (.tmp 5) rfl rfl rfl HZ.out mem0 ?_)
            | (refine wpList_build1_st (E := stmtE) rfl (.tmp 81) slStmt rfl (stmtOf x) rfl HZ.out ?_ ?_; exact (fun e hl hs => by rw [HSO.out]; exact ⟨_, _, rfl, OKN.out, sl_nil_stms _, sl_nil_stms _⟩); intro g13 w13 h13; have H13 := hide (h13.f5); clear h13 HZ)
            | (at_builtin; refine wpList_append_st rfl (.tmp 80) (.tmp 82) slStmt rfl H13.out (Src.of_rows mem1) rfl rfl hq1 hq2 ?_; intro vb3 n3 vc3 w14 hn3 h14; have H14 := hide (h14.d1.d1.d1.d1.d1); have HN3 := hide hn3; clear h14 H13 hn3))
          go_roundw
          case rel => exact ⟨k + 1, by omega, by go_num, vb3, vc3, by rw [HN3.out, HDL.out]; rfl, by rw [HTK.out]; exact H14.out⟩
          case measure => exact meas_step hlt
        · have C1 : Hid (∀ w, Calls Try.prog 42 #[.int .i64 x.kind, .int .i64 8] w (fun e w' => e = .returned (.int .i64 6) ∧ w = w')) := hide (fun w => (within6_calls x.kind 8 (by decide) (by decide) ok1 ok2).mono (fun e w' he => ⟨by rw [he.1, hkk], he.2⟩))
          have ONE : Hid (∀ v ∈ ([.int .i64 7, .int .i64 0, .string ⟨#[]⟩, .slice none 0 0, .slice none 0 0] : List Value), v.oneCell' = true) := hide (by simp [Value.oneCell'])
          have HSO : Hid (stmtOf x = ⟨7, 0, [], blockR x.A, blockR x.B⟩) := hide (by unfold stmtOf; rw [hkk]; rfl)
          clear hkk
          go_wp2_with (first
            | (go_at_call 42; with_reducible refine (C1.out _).mono ?_; rintro z w1 ⟨rfl, rfl⟩; clear C1)
            | ((with_reducible refine wpList_alloc_ag rfl agStmt rfl H3.out ?_); intro g9 w9 h9; have H9 := hide h9; clear h9 H3)
            | ((with_reducible refine wpList_store_ag (cs := [.int .i64 7, .int .i64 0, .string ⟨#[]⟩, .slice none 0 0, .slice none 0 0]) rfl agStmt (.tmp 5) (.tmp 20) rfl rfl rfl rfl rfl ONE.out H9.out ?_); intro w10 h10; have c0 : w10.cell? ⟨g9, 0, none⟩ = some (.int .i64 7) := h10.blk_cell mem0 0; have x1 : w10.cell? ⟨g, o + k * 4 + 1, none⟩ = some (.int .i64 x.n) := h10.elem_cell mem3 1 rfl; have x2 : w10.cell? ⟨g, o + k * 4 + 2, none⟩ = some va := h10.elem_cell mem3 2 rfl; have x3 : w10.cell? ⟨g, o + k * 4 + 3, none⟩ = some vb2 := h10.elem_cell mem3 3 rfl; have H10 := hide h10; clear h10 H9))
          refine wp_region_held_drew (S := fun w' => w'.cell? ⟨g, o + k * 4 + 2, none⟩ = some va ∧ w'.cell? ⟨g, o + k * 4 + 3, none⟩ = some vb2) (by kernel_rfl) ?_ (fun hHeld => ?_)
          · exact ⟨x2, x3⟩
          refine wpAnyH_takeD (i := 0) (some 57) (v := ?v0_1) rfl rfl (by kernel_rfl) (by kernel_rfl) (by kernel_rfl) (fun _ _ _ h => h) (by rfl) ?y0_1 (by assumption) ?r0_1
          case y0_1 => (intro w hSw; (try dsimp only at hSw); first | (go_simp; done) | (go_simp; with_reducible rfl))
          try simp only [Act.put, List.setIfInBounds_toArray, List.set_cons_zero, List.set_cons_succ]
          refine wpAnyH_takeD (i := 1) (some 58) (v := ?v1_2) rfl rfl (by kernel_rfl) (by kernel_rfl) (by kernel_rfl) (fun _ _ _ h => h) (by rfl) ?y1_2 (by assumption) ?r1_2
          case y1_2 => (intro w hSw; (try dsimp only at hSw); first | (go_simp; done) | (go_simp; with_reducible rfl))
          try simp only [Act.put, List.setIfInBounds_toArray, List.set_cons_zero, List.set_cons_succ]
          refine wpAnyH_takeD (i := 2) (some 59) (v := ?v2_3) rfl rfl (by kernel_rfl) (by kernel_rfl) (by kernel_rfl) (fun _ _ _ h => h) (by rfl) ?y2_3 (by assumption) ?r2_3
          case y2_3 => (intro w hSw; (try dsimp only at hSw); first | (go_simp; done) | (go_simp; with_reducible rfl))
          try simp only [Act.put, List.setIfInBounds_toArray, List.set_cons_zero, List.set_cons_succ]
          refine wpAnyH_takeD (i := 3) (some 60) (v := ?v3_4) rfl rfl (by kernel_rfl) (by kernel_rfl) (by kernel_rfl) (fun _ _ _ h => h) (by rfl) ?y3_4 (by assumption) ?r3_4
          case y3_4 => (intro w hSw; (try dsimp only at hSw); first | (go_simp; done) | (go_simp; with_reducible rfl))
          try simp only [Act.put, List.setIfInBounds_toArray, List.set_cons_zero, List.set_cons_succ]
          refine wpAnyH_takeD (i := 4) (some 61) (v := ?v4_5) rfl rfl (by kernel_rfl) (by kernel_rfl) (by kernel_rfl) (fun _ _ _ h => h) (by rfl) ?y4_5 (by assumption) ?r4_5
          case y4_5 => (intro w hSw; (try dsimp only at hSw); first | (go_simp; done) | (go_simp; with_reducible rfl))
          try simp only [Act.put, List.setIfInBounds_toArray, List.set_cons_zero, List.set_cons_succ]
          refine wpAnyH_takeD (i := 6) (some 63) (v := ?v6_6) rfl rfl (by kernel_rfl) (by kernel_rfl) (by kernel_rfl) (fun _ _ _ h => h) (by rfl) ?y6_6 (by assumption) ?r6_6
          case y6_6 => (intro w hSw; (try dsimp only at hSw); first | (go_simp; done) | (go_simp; with_reducible rfl))
          try simp only [Act.put, List.setIfInBounds_toArray, List.set_cons_zero, List.set_cons_succ]
          refine wpAnyH_takeD (i := 7) (some 64) (v := ?v7_7) rfl rfl (by kernel_rfl) (by kernel_rfl) (by kernel_rfl) (fun _ _ _ h => h) (by rfl) ?y7_7 (by assumption) ?r7_7
          case y7_7 => (intro w hSw; (try dsimp only at hSw); first | (go_simp; done) | (go_simp; with_reducible rfl))
          try simp only [Act.put, List.setIfInBounds_toArray, List.set_cons_zero, List.set_cons_succ]
          refine wpAnyH_takeD (i := 8) (some 65) (v := ?v8_8) rfl rfl (by kernel_rfl) (by kernel_rfl) (by kernel_rfl) (fun _ _ _ h => h) (by rfl) ?y8_8 (by assumption) ?r8_8
          case y8_8 => (intro w hSw; (try dsimp only at hSw); first | (go_simp; done) | (go_simp; with_reducible rfl))
          try simp only [Act.put, List.setIfInBounds_toArray, List.set_cons_zero, List.set_cons_succ]
          refine wpAnyH_takeD (i := 9) (some 66) (v := ?v9_9) rfl rfl (by kernel_rfl) (by kernel_rfl) (by kernel_rfl) (fun _ _ _ h => h) (by rfl) ?y9_9 (by assumption) ?r9_9
          case y9_9 => (intro w hSw; (try dsimp only at hSw); first | (go_simp; done) | (go_simp; with_reducible rfl))
          try simp only [Act.put, List.setIfInBounds_toArray, List.set_cons_zero, List.set_cons_succ]
          refine wpAnyH_takeD (i := 10) (some 67) (v := ?v10_10) rfl rfl (by kernel_rfl) (by kernel_rfl) (by kernel_rfl) (fun _ _ _ h => h) (by rfl) ?y10_10 (by assumption) ?r10_10
          case y10_10 => (intro w hSw; (try dsimp only at hSw); first | (go_simp; done) | (go_simp; with_reducible rfl))
          try simp only [Act.put, List.setIfInBounds_toArray, List.set_cons_zero, List.set_cons_succ]
          refine wpAnyH_ready (rs := [5]) (by kernel_rfl) (by simp) ?_
          refine AllReadyH.cons rfl (fun K hK => ?_) ?_
          · go_simp
            go_at_call 43
            refine (IHA.out _ _ _ _ H10.out.drew mem1 hszA).mono ?_
            rintro z w12 ⟨vA, rfl, h12⟩
            obtain ⟨bA, cA, hvA, _⟩ := h12.sl_form mem0
            subst hvA
            have H12 := hide h12.f1
            clear h12 H10
            refine hK.out _ _ ?_ (fun hHeld => ?_)
            · exact ⟨H12.out.elem_cell mem4 2 rfl, H12.out.elem_cell mem4 3 rfl⟩
            clear hK K
            try simp only [Act.put, List.setIfInBounds_toArray, List.set_cons_zero, List.set_cons_succ]
            refine wpAnyH_takeD (i := 12) (some 69) (v := ?v12_11) rfl rfl (by kernel_rfl) (by kernel_rfl) (by kernel_rfl) (fun _ _ _ h => h) (by rfl) ?y12_11 (by assumption) ?r12_11
            case y12_11 => (intro w hSw; (try dsimp only at hSw); first | (go_simp; done) | (go_simp; with_reducible rfl))
            try simp only [Act.put, List.setIfInBounds_toArray, List.set_cons_zero, List.set_cons_succ]
            refine wpAnyH_ready (rs := [11]) (by kernel_rfl) (by simp) ?_
            refine AllReadyH.cons rfl (fun K hK => ?_) ?_
            · go_simp
              go_at_call 43
              refine (IHB.out _ _ _ _ H12.out mem3 hszB).mono ?_
              rintro z w13 ⟨vB, rfl, h13⟩
              obtain ⟨bB, cB, hvB, _⟩ := h13.sl_form mem0
              subst hvB
              have H13 := hide h13.f1
              clear h13 H12
              refine hK.out _ _ ?_ (fun hHeld => ?_)
              · exact ⟨H13.out.elem_cell mem5 2 rfl, H13.out.elem_cell mem5 3 rfl⟩
              clear hK K
              try simp only [Act.put, List.setIfInBounds_toArray, List.set_cons_zero, List.set_cons_succ]
              refine wpAnyH_ready (rs := [13]) (by kernel_rfl) (by simp) ?_
              refine AllReadyH.cons rfl (fun K hK => ?_) ?_
              · refine step_storeF_st (cs := [.int .i64 7, .int .i64 0, .string ⟨#[]⟩, .slice none 0 0, .slice none 0 0]) (ds := [.int .i64 7, .int .i64 0, .string ⟨#[]⟩, .slice bA (blockR x.A).toL.length cA, .slice none 0 0]) rfl 45 (.tmp 69) (.tmp 62) rfl szStmts rfl rfl rfl rfl H13.out (by simp) rfl ?_
                intro w15 h15
                have H15 := hide h15
                clear h15 H13
                refine hK.out _ _ ?_ (fun hHeld => ?_)
                · exact ⟨H15.out.elem_cell mem5 2 rfl, H15.out.elem_cell mem5 3 rfl⟩
                clear hK K
                try simp only [Act.put, List.setIfInBounds_toArray, List.set_cons_zero, List.set_cons_succ]
                refine wpAnyH_takeD (i := 14) (some 70) (v := ?v14_12) rfl rfl (by kernel_rfl) (by kernel_rfl) (by kernel_rfl) (fun _ _ _ h => h) (by rfl) ?y14_12 (by assumption) ?r14_12
                case y14_12 => (intro w hSw; (try dsimp only at hSw); first | (go_simp; done) | (go_simp; with_reducible rfl))
                try simp only [Act.put, List.setIfInBounds_toArray, List.set_cons_zero, List.set_cons_succ]
                refine wpAnyH_ready (rs := [15]) (by kernel_rfl) (by simp) ?_
                refine AllReadyH.cons rfl (fun K hK => ?_) ?_
                · refine step_storeF_st (cs := [.int .i64 7, .int .i64 0, .string ⟨#[]⟩, .slice bA (blockR x.A).toL.length cA, .slice none 0 0]) (ds := [.int .i64 7, .int .i64 0, .string ⟨#[]⟩, .slice bA (blockR x.A).toL.length cA, .slice bB (blockR x.B).toL.length cB]) rfl 45 (.tmp 70) (.tmp 68) rfl szStmts rfl rfl rfl rfl H15.out (by simp) rfl ?_
                  intro w16 h16
                  have HZ0 := hide h16
                  clear h16 H15
                  refine hK.out _ _ ?_ (fun hHeld => ?_)
                  · exact ⟨HZ0.out.elem_cell mem5 2 rfl, HZ0.out.elem_cell mem5 3 rfl⟩
                  clear hK K
                  try simp only [Act.put, List.setIfInBounds_toArray, List.set_cons_zero, List.set_cons_succ]
                  refine wpAnyH_done (by kernel_rfl) ?_ _
                  have HZ := hide HZ0.out.d3.d3.d3
                  clear HZ0
                  go_wp2_with (first
                    | (refine wpList_loadB_st (cs := [.int .i64 7, .int .i64 0, .string ⟨#[]⟩, .slice bA (blockR x.A).toL.length cA, .slice bB (blockR x.B).toL.length cB]) rfl agStmt (.tmp 5) rfl rfl rfl HZ.out mem0 ?_)
                    | (refine wpList_build1_st (E := stmtE) rfl (.tmp 81) slStmt rfl (stmtOf x) rfl HZ.out ?_ ?_; exact (fun e hl hs => by rw [HSO.out]; exact ⟨_, _, rfl, okStr_small ([] : Str) (by decide), Stms.sl_iff.2 (hs.sl_mem mem2), Stms.sl_iff.2 (hs.sl_mem mem1)⟩); intro g13 w13 h13; have H13 := hide (h13.f4); clear h13 HZ)
                    | (at_builtin; refine wpList_append_st rfl (.tmp 80) (.tmp 82) slStmt rfl H13.out (Src.of_rows mem1) rfl rfl hq1 hq2 ?_; intro vb3 n3 vc3 w14 hn3 h14; have H14 := hide (h14.d1.d1.d1.d1); have HN3 := hide hn3; clear h14 H13 hn3))
                  go_roundw
                  case rel => exact ⟨k + 1, by omega, by go_num, vb3, vc3, by rw [HN3.out, HDL.out]; rfl, by rw [HTK.out]; exact H14.out⟩
                  case measure => exact meas_step hlt
                exact AllReadyH.nil
              exact AllReadyH.nil
            exact AllReadyH.nil
          exact AllReadyH.nil
        · have C1 : Hid (∀ w, Calls Try.prog 42 #[.int .i64 x.kind, .int .i64 8] w (fun e w' => e = .returned (.int .i64 7) ∧ w = w')) := hide (fun w => (within6_calls x.kind 8 (by decide) (by decide) ok1 ok2).mono (fun e w' he => ⟨by rw [he.1, hkk], he.2⟩))
          have ONE : Hid (∀ v ∈ ([.int .i64 8, .int .i64 0, .string ⟨#[]⟩, .slice none 0 0, .slice none 0 0] : List Value), v.oneCell' = true) := hide (by simp [Value.oneCell'])
          have HSO : Hid (stmtOf x = ⟨8, 0, [], blockR x.A, .nil⟩) := hide (by unfold stmtOf; rw [hkk]; rfl)
          clear hkk
          go_wp2_with (first
            | (go_at_call 42; with_reducible refine (C1.out _).mono ?_; rintro z w1 ⟨rfl, rfl⟩; clear C1)
            | ((with_reducible refine wpList_alloc_ag rfl agStmt rfl H3.out ?_); intro g9 w9 h9; have H9 := hide h9; clear h9 H3)
            | ((with_reducible refine wpList_store_ag (cs := [.int .i64 8, .int .i64 0, .string ⟨#[]⟩, .slice none 0 0, .slice none 0 0]) rfl agStmt (.tmp 5) (.tmp 20) rfl rfl rfl rfl rfl ONE.out H9.out ?_); intro w10 h10; have c0 : w10.cell? ⟨g9, 0, none⟩ = some (.int .i64 8) := h10.blk_cell mem0 0; have x1 : w10.cell? ⟨g, o + k * 4 + 1, none⟩ = some (.int .i64 x.n) := h10.elem_cell mem3 1 rfl; have x2 : w10.cell? ⟨g, o + k * 4 + 2, none⟩ = some va := h10.elem_cell mem3 2 rfl; have x3 : w10.cell? ⟨g, o + k * 4 + 3, none⟩ = some vb2 := h10.elem_cell mem3 3 rfl; have H10 := hide h10; clear h10 H9)
            | (go_at_call 43; refine (IHA.out _ _ _ _ H10.out mem1 hszA).mono ?_; rintro z w12 ⟨vA, rfl, h12⟩; obtain ⟨bA, cA, hvA, _⟩ := h12.sl_form mem0; subst hvA; have H12 := hide h12.f1; clear h12 H10)
            | ((with_reducible refine wpList_storeF_st (cs := [.int .i64 8, .int .i64 0, .string ⟨#[]⟩, .slice none 0 0, .slice none 0 0]) (ds := [.int .i64 8, .int .i64 0, .string ⟨#[]⟩, .slice bA (blockR x.A).toL.length cA, .slice none 0 0]) rfl 45 (.tmp 79) (.tmp 78) rfl szStmts rfl rfl rfl rfl H12.out (by simp) rfl ?_); intro w13 h13; have HZ := hide h13.d2.d2.d2; clear h13 H12)
            | (refine wpList_loadB_st (cs := [.int .i64 8, .int .i64 0, .string ⟨#[]⟩, .slice bA (blockR x.A).toL.length cA, .slice none 0 0]) rfl agStmt (.tmp 5) rfl rfl rfl HZ.out mem0 ?_)
            | (refine wpList_build1_st (E := stmtE) rfl (.tmp 81) slStmt rfl (stmtOf x) rfl HZ.out ?_ ?_; exact (fun e hl hs => by rw [HSO.out]; exact ⟨_, _, rfl, okStr_small ([] : Str) (by decide), Stms.sl_iff.2 (hs.sl_mem mem1), sl_nil_stms _⟩); intro g13 w13 h13; have H13 := hide (h13.f3); clear h13 HZ)
            | (at_builtin; refine wpList_append_st rfl (.tmp 80) (.tmp 82) slStmt rfl H13.out (Src.of_rows mem1) rfl rfl hq1 hq2 ?_; intro vb3 n3 vc3 w14 hn3 h14; have H14 := hide (h14.d1.d1.d1); have HN3 := hide hn3; clear h14 H13 hn3))
          go_roundw
          case rel => exact ⟨k + 1, by omega, by go_num, vb3, vc3, by rw [HN3.out, HDL.out]; rfl, by rw [HTK.out]; exact H14.out⟩
          case measure => exact meas_step hlt
      · have hke : l.toL.take k = l.toL := List.take_of_length_le (by omega)
        have hf := H1.out.persist
        rw [hke, ← blockR_toL] at hf
        have HF := hide hf
        clear hke hf H1
        go_wp2_with fail
        go_ret
        exact ⟨_, rfl, HF.out⟩
theorem gblock_calls (l : Raws) : GBlock l := gblock_all l.size l rfl
end Go.Proofs.Ytmebmgbjpbapjaa
