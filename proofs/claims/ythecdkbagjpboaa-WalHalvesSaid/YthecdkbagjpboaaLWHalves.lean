/-
  The law WalHalves: the walk.
-/
import Derived.Test.YthecdkbagjpboaaWu
namespace Go.Proofs.Ythecdkbagjpboaa
open Go.RowKit Go.Maps Go.MapKept
variable {b : Env} {L : List HP} {w : World} {gd : Nat} {d : Dk}
def halfL (k : Nat) : LogR := if k = 0 then ⟨0, 0, 0, 0, 0⟩ else ⟨k, (k - 1) % 2, 1, 1, k⟩
theorem halfL_succ (k : Nat) : halfL (k + 1) = ⟨k + 1, k % 2, 1, 1, k + 1⟩ := by unfold halfL; rw [if_neg (by omega)]; rfl
theorem halves_round {N k : Nat} {ops : Int} (ha : Alive d N ops) (hk : k ≤ 20) (ho : 0 ≤ ops ∧ ops ≤ 2 * k) (hN : N ≤ 256) (hN8 : 8 ≤ N) (hg : ∀ i p, tabR d N i = some p → p.gen ≤ k) :
    ∃ d', freshD d (halfL k) [UInt8.ofNat k] = (0, d', halfL (k + 1)) ∧ Alive d' N (ops + 2) ∧ openR d' = (halfL (k + 1), [[UInt8.ofNat k]]) ∧ (∀ i p, tabR d' N i = some p → p.gen ≤ k + 1) := by
  have hm : (halfL k).most = k := by unfold halfL; split <;> simp_all
  have hh : (halfL k).half ≤ 1 := by unfold halfL; split; exact Nat.zero_le _; show (k - 1) % 2 ≤ 1; omega
  have hp : partsOf ([UInt8.ofNat k] : Byt).length = 1 := by simp [partsOf]
  obtain ⟨d', e1, e2, e3⟩ := fresh_alive (l := halfL k) (t := [UInt8.ofNat k]) ha (by omega) hN (by rw [hm]; exact hg) hh (by omega) (by rw [hp]; omega)
  have hl : (⟨(halfL k).most + 1, if 0 < (halfL k).gen then 1 - (halfL k).half else 0, partsOf ([UInt8.ofNat k] : Byt).length, 1, (halfL k).most + 1⟩ : LogR) = halfL (k + 1) := by
    rw [hm, halfL_succ, hp]
    congr 1
    unfold halfL
    by_cases h0 : k = 0
    · subst h0; rfl
    · rw [if_neg h0]
      show (if 0 < k then 1 - (k - 1) % 2 else 0) = k % 2
      rw [if_pos (by omega)]; omega
  rw [hl] at e1 e3
  refine ⟨d', e1, by rw [hp] at e2; rw [show ops + 2 = ops + ((1 : Nat) : Int) + 1 from by omega]; exact e2, open_log e2.len rfl (by omega) e3, fun i p hp => ?_⟩
  have := (e3.all i p hp).1
  rw [halfL_succ] at this
  exact this
theorem St.in_elem {α : Type} {E : El α} {g o n cap i : Nat} {xss : List (List α)} (h : St b L w) (hm : HP.sl E.in (.slice (some ⟨g, o, none⟩) n cap) xss ∈ L) (hi : i < xss.length) : ∃ v, St b (HP.sl E v xss[i] :: HP.elem E.in g (o + i) xss[i] [v] :: L) w := by
  obtain ⟨cs, h'⟩ := h.elem hm (List.getElem?_eq_getElem hi) Nat.one_pos
  obtain ⟨e, hl, hs, v, hc, hv⟩ := h'.elem_rd List.mem_cons_self
  subst hc
  rw [show o + i * E.in.sz = o + i by show o + i * 1 = o + i; omega] at hs
  exact ⟨v, e, hl, hs.lay (fun _ => hv)⟩
theorem St.in_cell {α : Type} {E : El α} {g off : Nat} {xs : List α} {v : Value} (h : St b L w) (hm : HP.elem E.in g off xs [v] ∈ L) : w.cell? ⟨g, off, none⟩ = some v := h.elem_cell hm 0 rfl
theorem St.rows_one {A B : HP} {b0 : Option Addr} {c0 : Nat} {x : UInt8} {T : TypeId} (h : St b (A :: B :: HP.rows T byteE.in (.slice b0 1 c0) [[x]] :: L) w) :
    ∃ g9 bD cD, b0 = some ⟨g9, 0, none⟩ ∧ St b (HP.sl byteE (.slice bD 1 cD) [x] :: HP.elem byteE.in g9 (0 + 0) [x] [.slice bD 1 cD] :: HP.sl byteE.in (.slice (some ⟨g9, 0, none⟩) 1 c0) [[x]] :: A :: B :: L) w := by
  obtain ⟨g9, rfl⟩ := h.rows_base mem2 (by simp)
  obtain ⟨v9, h11⟩ := h.f2.persist.in_elem (i := 0) mem0 (by simp)
  obtain ⟨bD, cD, rfl, -⟩ := h11.sl_form mem0
  exact ⟨g9, bD, cD, rfl, h11⟩
theorem run_convert_op {P : Program} {o : Oper} {a : Act} {w : World} {s t : TypeId} {x : Operand} {v r : Value} (ho : o.op = .convert s t x) (hx : a.eval x = v) (h : (convert s t v).run P w = .ok r w) : (execOp a.eval o).run P w = .ok (.value r) w := by simp [execOp, ho, hx, h]
def HalvesAt (b : Env) (L : List HP) (gd N : Nat) (m : Nat) (v i : Value) (wr : World) : Prop := ∃ (k gl : Nat) (d : Dk) (ops : Int), k ≤ m ∧ v = .pointer (some ⟨gl, 0, none⟩) ∧ i = .int .i64 k ∧ Alive d N ops ∧ (0 ≤ ops ∧ ops ≤ 2 * k) ∧ (∀ i p, tabR d N i = some p → p.gen ≤ k) ∧ St b (HP.log gl gd (halfL k) :: HP.disk gd d :: L) wr
set_option linter.unusedSimpArgs false in
set_option maxRecDepth 100000 in
set_option maxHeartbeats 4000000 in
theorem walHalves_calls (h : St b L w) (n s : Int) (hn1 : -9223372036854775808 ≤ n) (hn2 : n ≤ 9223372036854775807) (hs1 : -9223372036854775808 ≤ s) (hs2 : s ≤ 9223372036854775807) :
    Calls Try.prog 3 #[.int .i64 n, .int .i64 s] w fun x w' => x = .returned (.bool true) ∧ St b L w' := by
  obtain ⟨m, hm⟩ : ∃ m : Nat, (n % 20).toNat = m := ⟨_, rfl⟩
  have hm1 : n % 20 = (m : Int) := by omega
  have hm2 : m ≤ 19 := by omega
  obtain ⟨N, hN⟩ : ∃ N : Nat, 8 + 2 * (s % 13).toNat = N := ⟨_, rfl⟩
  have hN8 : 8 ≤ N := by omega
  have hN2 : N ≤ 32 := by omega
  have hA := alive_fresh N (by omega)
  have hz0 := tab_fresh0 N
  have H := hide h
  have HM := hide hm1
  have HN := hide hN
  have HA := hide hA
  have HZ := hide hz0
  clear h hm hm1 hN hA hz0
  go_enter Try.func3, Try.ntmps3
  go_wp2_with (first
    | (go_at_call 10; refine (known3_calls H.out).mono ?_; rintro x w1 ⟨rfl, h1⟩; have H1 := hide h1; clear h1 H)
    | (go_at_call 11; refine (both_calls H1.out s hs1 hs2).mono ?_; rintro x w2 ⟨gd, gx, rfl, h2⟩; rw [HN.out] at h2; have H2 := hide h2.drop; clear h2 H1)
    | (go_at_call 12; refine (wopen_calls H2.out HA.out).mono ?_; rintro x w3 ⟨gl, b0, c0, rfl, h3⟩; rw [open_fresh0] at h3; rw [open_fresh0]; have H3 := hide h3.d2; clear h3 H2))
  go_loopw [7, 10] (fun v i wr => HalvesAt b L gd N m v i wr) (fun _ i _ => m - (intOf i).toNat)
  case atStart => exact ⟨0, gl, _, 0, by omega, rfl, rfl, HA.out, by omega, (by rw [HZ.out]; intro i p hp; cases hp), H3.out⟩
  case round =>
    obtain ⟨k, gl, d, ops, hk, rfl, rfl, ha, ho, hg, hs⟩ := hrel
    by_cases hlt : k < m
    · obtain ⟨d', e1, e2, e3, e4⟩ := halves_round ha (by omega) ho (by omega) hN8 hg
      have hwb : IntKind.u8.wrap (k : Int) = k := by simp [IntKind.wrap, IntKind.bits, IntKind.signed]; omega
      have hlt' : (k : Int) < m := by omega
      have hb : B8 (UInt8.ofNat k) = .int .u8 (k : Int) := by show Value.int .u8 ((UInt8.ofNat k).toNat : Int) = _; rw [UInt8.toNat_ofNat', show k % 256 = k from by omega]
      have hg2 : d.Good := ha.good
      have hop : d.ops ≤ 100000000 := by rw [ha.ops]; omega
      have hmo : (halfL k).most + 1 ≤ 4294967295 := by have : (halfL k).most = k := by unfold halfL; split <;> simp_all
                                                       omega
      have hhf : (halfL k).half ≤ 1 := by unfold halfL; split; exact Nat.zero_le _; show (k - 1) % 2 ≤ 1; omega
      have hhk : (((k % 2 : Nat) : Int) == (k : Int) % 2) = true := by rw [Int.natCast_emod]; exact beq_self_eq_true _
      have hhn : (((k % 2 : Nat) : Int) != (k : Int) % 2) = false := by rw [bne, hhk]; rfl
      have H4 := hide hs
      have HG := hide (And.intro hg2 (And.intro hop (And.intro hmo hhf)))
      have HB := hide hb
      have E1 := hide e1
      have E2 := hide e2
      have E3 := hide e3
      have E4 := hide e4
      clear hs ha hg e1 e2 e3 e4 hb hg2 hop hmo hhf H3 HA HZ HN
      rcases hE : decide ((k : Int) % 3 = 2) with _ | _
      · have h3 := of_decide_eq_false hE
        have h3b : ((k : Int) % 3 == 2) = false := by rw [beq_eq_false_iff_ne]; exact h3
        clear hE
        go_wp2_with (first
          | (go_at_call 13; refine (within3_calls n 20 (by omega) (by omega) hn1 hn2).mono ?_; rintro x w5 ⟨rfl, hw5⟩; subst hw5; rw [HM.out])
          | (refine wpList_build1_st (E := byteE) rfl (.tmp 42) slByte rfl (UInt8.ofNat k) rfl H4.out ?_ ?_; exact (fun _ _ _ => ⟨by rw [HB.out]; rfl, trivial⟩); intro g6 w6 h6; have H6 := hide h6.persist.b2; clear h6 H4)
          | (go_at_call 14; refine (fresh_calls (l := halfL k) (t := [UInt8.ofNat k]) H6.out mem0 HG.out.1 HG.out.2.1 (show partsOf ([UInt8.ofNat k] : Byt).length ≤ 255 by simp [partsOf]) HG.out.2.2.1 HG.out.2.2.2).mono ?_; rintro x w7 ⟨rfl, h7⟩; rw [E1.out, halfL_succ] at h7; rw [E1.out]; have H7 := hide h7; clear h7 H6)
          | (go_at_call 15; refine (state_calls H7.out).mono ?_; rintro x w8 ⟨rfl, h8⟩; have H8 := hide h8; clear h8 H7))
        go_roundw
        case rel => exact ⟨k + 1, gl, d', ops + 2, by omega, rfl, by go_num, E2.out, by omega, E4.out, by rw [halfL_succ]; exact H8.out.d2⟩
        case measure => exact meas_step hlt
      · have h3 := of_decide_eq_true hE
        have h3b : ((k : Int) % 3 == 2) = true := by rw [h3]; rfl
        clear hE
        go_wp2_with (first
          | (go_at_call 13; refine (within3_calls n 20 (by omega) (by omega) hn1 hn2).mono ?_; rintro x w5 ⟨rfl, hw5⟩; subst hw5; rw [HM.out])
          | (refine wpList_build1_st (E := byteE) rfl (.tmp 42) slByte rfl (UInt8.ofNat k) rfl H4.out ?_ ?_; exact (fun _ _ _ => ⟨by rw [HB.out]; rfl, trivial⟩); intro g6 w6 h6; have H6 := hide h6.persist.b2; clear h6 H4)
          | (go_at_call 14; refine (fresh_calls (l := halfL k) (t := [UInt8.ofNat k]) H6.out mem0 HG.out.1 HG.out.2.1 (show partsOf ([UInt8.ofNat k] : Byt).length ≤ 255 by simp [partsOf]) HG.out.2.2.1 HG.out.2.2.2).mono ?_; rintro x w7 ⟨rfl, h7⟩; rw [E1.out, halfL_succ] at h7; rw [E1.out]; have H7 := hide h7; clear h7 H6)
          | (go_at_call 15; refine (state_calls H7.out).mono ?_; rintro x w8 ⟨rfl, h8⟩; have H8 := hide h8; clear h8 H7)
          | (go_at_call 16; refine (dops_calls H8.out.drop).mono ?_; rintro x w9 ⟨rfl, hw9⟩; subst hw9)
          | (go_at_call 12; refine (wopen_calls H8.out.drop E2.out).mono ?_; rintro x w10 ⟨gl2, b0, c0, rfl, h10⟩; rw [E3.out, halfL_succ] at h10; rw [E3.out]; change St b (HP.log gl2 gd ⟨k + 1, k % 2, 1, 1, k + 1⟩ :: HP.disk gd d' :: HP.rows 34 byteE.in (.slice b0 1 c0) [[UInt8.ofNat k]] :: _) w10 at h10; obtain ⟨g9, bD, cD, rfl, h11⟩ := h10.rows_one; have H11 := hide h11; clear h10 h11 H8))
        have eB : (([UInt8.ofNat k] : Byt).map B8).toArray = #[Value.int .u8 (k : Int)] := by rw [List.map_cons, HB.out]; rfl
        have hA1 := (H11.out.d5.lit (T := 5) (fz := (0, 0)) [UInt8.ofNat k] (show 1 ≤ maxLen by decide)).drew
        rw [eB] at hA1
        have HA1 := hide hA1
        have cA : (convert 34 9 (.slice (some ⟨w10.heap.size, 0, none⟩) 1 1)).run Try.prog (w10.alloc (.cells #[.int .u8 (k : Int)] 5)).drew = .ok (.string ⟨#[UInt8.ofNat k]⟩) (w10.alloc (.cells #[.int .u8 (k : Int)] 5)).drew := conv_str hA1 (Reads.of_sl mem0)
        clear hA1 eB
        refine wp_region_held_drew (S := fun w' => w'.cell? ⟨g9, 0, none⟩ = some (.slice bD 1 cD) ∧ St b (HP.sl byteE (.slice bD 1 cD) [UInt8.ofNat k] :: HP.elem byteE.in g9 (0 + 0) [UInt8.ofNat k] [.slice bD 1 cD] :: HP.sl byteE.in (.slice (some ⟨g9, 0, none⟩) 1 c0) [[UInt8.ofNat k]] :: HP.log gl2 gd ⟨k + 1, k % 2, 1, 1, k + 1⟩ :: HP.disk gd d' :: L) w') (by kernel_rfl) ?_ (fun hHeld => ?_)
        · exact ⟨H11.out.drew.in_cell mem1, H11.out.drew.d5⟩
        refine wpAnyH_takeD (i := 0) (some 82) (v := ?v0_1) rfl rfl (by kernel_rfl) (by kernel_rfl) (by kernel_rfl) (fun _ _ _ h => h) (by rfl) ?y0_1 (by assumption) ?r0_1
        case y0_1 => (intro w hSw; (try dsimp only at hSw); first | (go_simp; done) | (go_simp; with_reducible rfl))
        try simp only [Act.put, List.setIfInBounds_toArray, List.set_cons_zero, List.set_cons_succ]
        refine wpAnyH_takeD (i := 1) (some 83) (v := ?v1_2) rfl rfl (by kernel_rfl) (by kernel_rfl) (by kernel_rfl) (fun _ _ _ h => h) (by rfl) ?y1_2 (by assumption) ?r1_2
        case y1_2 => (intro w hSw; (try dsimp only at hSw); first | (go_simp; done) | (go_simp; with_reducible rfl))
        try simp only [Act.put, List.setIfInBounds_toArray, List.set_cons_zero, List.set_cons_succ]
        refine wpAnyH_takeD (i := 2) (some 84) (v := ?v2_3) rfl rfl (by kernel_rfl) (by kernel_rfl) (by kernel_rfl) (fun _ _ _ h => h) (by rfl) ?y2_3 (by assumption) ?r2_3
        case y2_3 => (intro w hSw; (try dsimp only at hSw); first | (go_simp; done) | (go_simp; with_reducible rfl))
        try simp only [Act.put, List.setIfInBounds_toArray, List.set_cons_zero, List.set_cons_succ]
        refine wpAnyH_takeD (i := 3) (some 85) (v := ?v3_4) rfl rfl (by kernel_rfl) (by kernel_rfl) (by kernel_rfl) (fun _ _ _ h => h) (by rfl) ?y3_4 (by assumption) ?r3_4
        case y3_4 => (intro w hSw; (try dsimp only at hSw); first | (go_simp; done) | (go_simp; with_reducible rfl))
        try simp only [Act.put, List.setIfInBounds_toArray, List.set_cons_zero, List.set_cons_succ]
        refine wpAnyH_takeD (i := 4) (some 86) (v := ?v4_5) rfl rfl (by kernel_rfl) (by kernel_rfl) (by kernel_rfl) (fun _ _ _ h => h) (by rfl) ?y4_5 (by assumption) ?r4_5
        case y4_5 => (intro w hSw; (try dsimp only at hSw); first | (go_simp; done) | (go_simp; with_reducible rfl))
        try simp only [Act.put, List.setIfInBounds_toArray, List.set_cons_zero, List.set_cons_succ]
        refine wpAnyH_takeD (i := 5) (some 87) (v := ?v5_6) rfl rfl (by kernel_rfl) (by kernel_rfl) (by kernel_rfl) (fun _ _ _ h => h) (by rfl) ?y5_6 (by assumption) ?r5_6
        case y5_6 => (intro w hSw; (try dsimp only at hSw); first | (go_simp; done) | (go_simp; with_reducible rfl))
        try simp only [Act.put, List.setIfInBounds_toArray, List.set_cons_zero, List.set_cons_succ]
        refine wpAnyH_takeD (i := 6) (some 88) (v := ?v6_7) rfl rfl (by kernel_rfl) (by kernel_rfl) (by kernel_rfl) (fun _ _ _ h => h) (by rfl) ?y6_7 (by assumption) ?r6_7
        case y6_7 => (intro w hSw; (try dsimp only at hSw); first | (go_simp; done) | (go_simp; with_reducible rfl))
        try simp only [Act.put, List.setIfInBounds_toArray, List.set_cons_zero, List.set_cons_succ]
        refine wpAnyH_takeD (i := 7) (some 89) (v := ?v7_8) rfl rfl (by kernel_rfl) (by kernel_rfl) (by kernel_rfl) (fun _ _ _ h => h) (by rfl) ?y7_8 (by assumption) ?r7_8
        case y7_8 => (intro w hSw; (try dsimp only at hSw); first | (go_simp; done) | (go_simp; with_reducible rfl))
        try simp only [Act.put, List.setIfInBounds_toArray, List.set_cons_zero, List.set_cons_succ]
        refine wpAnyH_takeD (i := 8) (some 90) (v := ?v8_9) rfl rfl (by kernel_rfl) (by kernel_rfl) (by kernel_rfl) (fun _ _ _ h => h) (by rfl) ?y8_9 (by assumption) ?r8_9
        case y8_9 => (intro w hSw; (try dsimp only at hSw); first | (go_simp; done) | (go_simp; with_reducible rfl))
        try simp only [Act.put, List.setIfInBounds_toArray, List.set_cons_zero, List.set_cons_succ]
        refine wpAnyH_takeD (i := 9) (some 91) (v := ?v9_10) rfl rfl (by kernel_rfl) (by kernel_rfl) (by kernel_rfl) (fun _ _ _ h => h) (by rfl) ?y9_10 (by assumption) ?r9_10
        case y9_10 => (intro w hSw; (try dsimp only at hSw); first | (go_simp; done) | (go_simp; with_reducible rfl))
        try simp only [Act.put, List.setIfInBounds_toArray, List.set_cons_zero, List.set_cons_succ]
        refine wpAnyH_takeD (i := 10) (some 92) (v := ?v10_11) rfl rfl (by kernel_rfl) (by kernel_rfl) (by kernel_rfl) (fun _ _ _ h => h) (by rfl) ?y10_11 (by assumption) ?r10_11
        case y10_11 => (intro w hSw; (try dsimp only at hSw); first | (go_simp; done) | (go_simp; with_reducible rfl))
        try simp only [Act.put, List.setIfInBounds_toArray, List.set_cons_zero, List.set_cons_succ]
        refine wpAnyH_takeD (i := 11) (some 93) (v := .string ⟨#[UInt8.ofNat k]⟩) rfl rfl (by kernel_rfl) (by kernel_rfl) (by kernel_rfl) (fun _ _ _ h => h) (by rfl) ?y11_12 (by assumption) ?r11_12
        case y11_12 => (intro w hSw; exact run_convert_op (x := .tmp 92) rfl rfl (conv_str hSw.2 (Reads.of_sl mem0)))
        try simp only [Act.put, List.setIfInBounds_toArray, List.set_cons_zero, List.set_cons_succ]
        refine wpAnyH_takeD (i := 12) (some 94) (v := ?v12_13) rfl rfl (by kernel_rfl) (by kernel_rfl) (by kernel_rfl) (fun _ _ _ h => h) (by rfl) ?y12_13 (by assumption) ?r12_13
        case y12_13 => (intro w hSw; (try dsimp only at hSw); first | (go_simp; done) | (go_simp; with_reducible rfl))
        try simp only [Act.put, List.setIfInBounds_toArray, List.set_cons_zero, List.set_cons_succ]
        refine wpAnyH_takeD (i := 13) (some 95) (v := ?v13_14) rfl rfl (by kernel_rfl) (by kernel_rfl) (by kernel_rfl) (fun _ _ _ h => h) (by rfl) ?y13_14 (by assumption) ?r13_14
        case y13_14 => (intro w hSw; (try dsimp only at hSw); first | (go_simp; done) | (go_simp; with_reducible rfl))
        try simp only [Act.put, List.setIfInBounds_toArray, List.set_cons_zero, List.set_cons_succ]
        refine wpAnyH_ready (rs := [14]) (by kernel_rfl) (by simp) ?_
        refine AllReadyH.cons rfl (fun K hK => ?_) ?_
        · go_simp
          refine hK.out _ _ ?_ (fun hHeld => ?_)
          · exact ⟨HA1.out.in_cell mem2, HA1.out.drop⟩
          clear hK K
          try simp only [Act.put, List.setIfInBounds_toArray, List.set_cons_zero, List.set_cons_succ]
          refine wpAnyH_ready (rs := [15]) (by kernel_rfl) (by simp) ?_
          refine AllReadyH.cons rfl (fun K hK => ?_) ?_
          · go_simp
            refine hK.out _ _ ?_ (fun hHeld => ?_)
            · exact ⟨HA1.out.in_cell mem2, HA1.out.drop⟩
            clear hK K
            try simp only [Act.put, List.setIfInBounds_toArray, List.set_cons_zero, List.set_cons_succ]
            refine wpAnyH_takeD (i := 16) (some 98) (v := ?v16_15) rfl rfl (by kernel_rfl) (by kernel_rfl) (by kernel_rfl) (fun _ _ _ h => h) (by rfl) ?y16_15 (by assumption) ?r16_15
            case y16_15 => (intro w hSw; (try dsimp only at hSw); first | (go_simp; done) | (go_simp; with_reducible rfl))
            try simp only [Act.put, List.setIfInBounds_toArray, List.set_cons_zero, List.set_cons_succ]
            refine wpAnyH_takeD (i := 17) (some 99) (v := ?v17_16) rfl rfl (by kernel_rfl) (by kernel_rfl) (by kernel_rfl) (fun _ _ _ h => h) (by rfl) ?y17_16 (by assumption) ?r17_16
            case y17_16 => (intro w hSw; (try dsimp only at hSw); first | (go_simp; done) | (go_simp; with_reducible rfl))
            try simp only [Act.put, List.setIfInBounds_toArray, List.set_cons_zero, List.set_cons_succ]
            refine wpAnyH_takeD (i := 18) (some 100) (v := ?v18_17) rfl rfl (by kernel_rfl) (by kernel_rfl) (by kernel_rfl) (fun _ _ _ h => h) (by rfl) ?y18_17 (by assumption) ?r18_17
            case y18_17 => (intro w hSw; (try dsimp only at hSw); first | (go_simp; done) | (go_simp; with_reducible rfl))
            try simp only [Act.put, List.setIfInBounds_toArray, List.set_cons_zero, List.set_cons_succ]
            refine wpAnyH_takeD (i := 19) (some 101) (v := ?v19_18) rfl rfl (by kernel_rfl) (by kernel_rfl) (by kernel_rfl) (fun _ _ _ h => h) (by rfl) ?y19_18 (by assumption) ?r19_18
            case y19_18 => (intro w hSw; (try dsimp only at hSw); first | (go_simp; done) | (go_simp; with_reducible rfl))
            try simp only [Act.put, List.setIfInBounds_toArray, List.set_cons_zero, List.set_cons_succ]
            refine wpAnyH_tellsD (i := 20) (some 102) (v := .int .i64 d'.ops) rfl rfl (by kernel_rfl) (by kernel_rfl) (by kernel_rfl) (fun _ _ _ h => h) ⟨by rfl, 16, #[.pointer (some ⟨gd, 0, none⟩)], fun w hSw => ⟨?y20_19, (by have := dops_calls hSw.2.drop.drop.drop.drop; exact this.mono (fun x w' h => ⟨h.1, h.2.symm⟩))⟩⟩ (by assumption) ?r20_19
            case y20_19 => first | (go_simp; done) | (go_simp; with_reducible rfl)
            try simp only [Act.put, List.setIfInBounds_toArray, List.set_cons_zero, List.set_cons_succ]
            refine wpAnyH_takeD (i := 21) (some 103) (v := ?v21_20) rfl rfl (by kernel_rfl) (by kernel_rfl) (by kernel_rfl) (fun _ _ _ h => h) (by rfl) ?y21_20 (by assumption) ?r21_20
            case y21_20 => (intro w hSw; (try dsimp only at hSw); first | (go_simp; done) | (go_simp; with_reducible rfl))
            try simp only [Act.put, List.setIfInBounds_toArray, List.set_cons_zero, List.set_cons_succ]
            refine wpAnyH_takeD (i := 22) (some 104) (v := ?v22_21) rfl rfl (by kernel_rfl) (by kernel_rfl) (by kernel_rfl) (fun _ _ _ h => h) (by rfl) ?y22_21 (by assumption) ?r22_21
            case y22_21 => (intro w hSw; (try dsimp only at hSw); first | (go_simp; done) | (go_simp; with_reducible rfl))
            try simp only [Act.put, List.setIfInBounds_toArray, List.set_cons_zero, List.set_cons_succ]
            refine wpAnyH_takeD (i := 23) (some 105) (v := ?v23_22) rfl rfl (by kernel_rfl) (by kernel_rfl) (by kernel_rfl) (fun _ _ _ h => h) (by rfl) ?y23_22 (by assumption) ?r23_22
            case y23_22 => (intro w hSw; (try dsimp only at hSw); first | (go_simp; done) | (go_simp; with_reducible rfl))
            try simp only [Act.put, List.setIfInBounds_toArray, List.set_cons_zero, List.set_cons_succ]
            refine wpAnyH_done (by kernel_rfl) ?_ _
            have H20 := hide hHeld.2
            clear hHeld cA HA1 H11
            go_wp2_with fail
            go_roundw
            case rel => exact ⟨k + 1, gl2, d', ops + 2, by omega, rfl, by go_num, E2.out, by omega, E4.out, by rw [halfL_succ]; exact H20.out.drop.drop.drop⟩
            case measure => exact meas_step hlt
          exact AllReadyH.nil
        exact AllReadyH.nil
    · have hke : k = m := by omega
      subst hke
      have H4 := hide hs
      clear hs ha ho hg H3 HA HZ HN
      go_wp2_with (first
        | (go_at_call 13; refine (within3_calls n 20 (by omega) (by omega) hn1 hn2).mono ?_; rintro x w5 ⟨rfl, hw5⟩; subst hw5; rw [HM.out]))
      go_ret
      exact ⟨rfl, H4.out.drop.drop⟩
end Go.Proofs.Ythecdkbagjpboaa
