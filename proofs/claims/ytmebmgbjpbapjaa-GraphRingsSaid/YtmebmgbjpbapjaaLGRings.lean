/-
  GraphRings.
-/
import Derived.Test.YtmebmgbjpbapjaaLGParts
import Derived.Test.YtmebmgbjpbapjaaGx
import Derived.Test.YtmebmgbjpbapjaaGqd
import Derived.Test.YtmebmgbjpbapjaaGe2
import Derived.Test.YtmebmgbjpbapjaaGz
namespace Go.Proofs.Ytmebmgbjpbapjaa
open Go.RowKit Go.Maps Go.MapKept
variable {b : Env} {L : List HP} {w : World}

def ER1 (b : Env) (L : List HP) (n g : Nat) (i : Value) (wr : World) : Prop := ∃ k : Nat, k ≤ n ∧ i = .int .i64 k ∧ St b (HP.mat 34 g (diagM k) :: L) wr

def ER2 (b : Env) (L : List HP) (m g : Nat) (I : List (Nat × Nat)) (i : Value) (wr : World) : Prop := ∃ k : Nat, k ≤ I.length ∧ i = .int .i64 k ∧ St b (HP.mat 34 g (edgeM m (I.take k)) :: L) wr
def ER3 (b : Env) (L : List HP) (m g : Nat) (nxt : Str → List Str) (i : Value) (wr : World) : Prop := ∃ k : Nat, k ≤ m ∧ i = .int .i64 k ∧ ∃ M, TabP m nmN nxt k M ∧ St b (HP.mat 34 g M :: L) wr
def ER4 (b : Env) (L : List HP) (m g k : Nat) (M : Mx) (i : Value) (wr : World) : Prop := ∃ i' : Nat, i' ≤ m ∧ i = .int .i64 i' ∧ St b (HP.mat 34 g (stageM M m k i' 0) :: L) wr
def ER5 (b : Env) (L : List HP) (m g k i : Nat) (M : Mx) (j : Value) (wr : World) : Prop := ∃ j' : Nat, j' ≤ m ∧ j = .int .i64 j' ∧ St b (HP.mat 34 g (stageM M m k i j') :: L) wr

def ER6 (b : Env) (L : List HP) (m g : Nat) (i : Value) (wr : World) : Prop := ∃ k : Nat, k ≤ m ∧ i = .int .i64 k ∧ ∃ Z : List Int, Z.length = m ∧ (∀ c, c < k → Z[c]? = some (-1)) ∧ St b (HP.rows 3 intE (.slice (some ⟨g, 0, none⟩) m m) Z :: L) wr
def ER7 (b : Env) (L : List HP) (p : List (List Str)) (m g : Nat) (i : Value) (wr : World) : Prop := ∃ i' : Nat, i' ≤ p.length ∧ i = .int .i64 i' ∧ ∃ Z : List Int, InP p m i' 0 Z ∧ St b (HP.rows 3 intE (.slice (some ⟨g, 0, none⟩) m m) Z :: L) wr
def ER8 (b : Env) (L : List HP) (p : List (List Str)) (P : List Str) (m g i : Nat) (k : Value) (wr : World) : Prop := ∃ k' : Nat, k' ≤ P.length ∧ k = .int .i64 k' ∧ ∃ Z : List Int, InP p m i k' Z ∧ St b (HP.rows 3 intE (.slice (some ⟨g, 0, none⟩) m m) Z :: L) wr
def ER9 (w0 : World) (m : Nat) (i : Value) (wr : World) : Prop := ∃ i' n : Nat, i' ≤ m ∧ i = .int .i64 i' ∧ wr = w0.drewN n

set_option linter.unusedSimpArgs false in
set_option maxRecDepth 100000 in
set_option maxHeartbeats 8000000 in
theorem graphRings_calls (h : St b L w) (n : Int) {v : Value} {ns : List Int} (hm : HP.sl intE v ns ∈ L) (hns : ∀ x ∈ ns, i64 x) (hn1 : -9223372036854775808 ≤ n) (hn2 : n ≤ 9223372036854775807) :
    Calls Try.prog 4 #[.int .i64 n, v] w fun x w' => x = .returned (.bool true) ∧ St b L w' := by
  have H := hide h
  have HM := hide hm
  have HNS := hide hns
  have p1 := Int.emod_nonneg n (show (8 : Int) ≠ 0 by omega)
  have p2 := Int.emod_lt_of_pos n (show (0 : Int) < 8 by omega)
  obtain ⟨m0, hmn⟩ : ∃ m : Nat, n % 8 = m := ⟨(n % 8).toNat, by omega⟩
  rw [hmn] at p1 p2
  have HMN := hide hmn
  obtain ⟨m, hm1⟩ : ∃ m : Nat, (1 : Int) + m0 = m := ⟨1 + m0, by omega⟩
  have HM1 := hide hm1
  have hm8 : (m : Int) ≤ 8 := by omega
  have hm0 : (1 : Int) ≤ m := by omega
  have HINC : Hid (Inc (namesL m)) := hide (namesL_inc (by omega))
  have hE : pairsN ((m : Int) + 2) ns = (idxN (m + 2) ns).map pairNm := by have := pairsN_idx (m := m + 2) (by omega) ns; push_cast at this; exact this
  have hIl := idxN_lt (m := m + 2) (by omega) ns
  have hel : (idxN (m + 2) ns).length ≤ 40 := by unfold idxN; simp; omega
  generalize idxN (m + 2) ns = I at hE hIl hel
  obtain ⟨E, hE2⟩ : ∃ E, I.map pairNm = E := ⟨_, rfl⟩
  rw [hE2] at hE
  have hEl : E.length = I.length := by rw [← hE2, List.length_map]
  have HE := hide hE
  have HNN : Hid (namesN (m : Int) = namesL m) := hide (by unfold namesN; rw [Int.toNat_natCast])
  have HE2 := hide hE2
  have HIL := hide hIl
  have HEL := hide hEl
  clear h hm hns hmn hE hm1 hE2 hIl hEl
  go_enter Try.func4, Try.ntmps4
  go_wp2_with (first
    | (go_at_call 11; refine (known_calls H.out).mono ?_; rintro x w1 ⟨rfl, h1⟩; have H1 := hide h1; clear h1 H)
    | (go_at_call 13; refine (within8_calls n 8 (by decide) (by decide) hn1 hn2).mono ?_; rintro x w2 ⟨rfl, rfl⟩; rw [HMN.out])
    | (go_at_call 12; rw [HM1.out]; refine (edges_calls H1.out HM.out HNS.out m (by omega) (by omega)).mono ?_; rintro x w3 ⟨v1, v2, rfl, h3⟩; rw [HE.out, HNN.out] at h3; obtain ⟨b1, c1, hv1, _⟩ := h3.sl_form mem0; obtain ⟨b2, c2, hv2, _⟩ := h3.sl_form mem1; subst hv1; subst hv2; have H3 := hide h3; clear h3 H1))
  have H4 := hide H3.out.mat_new
  clear H3
  generalize w3.alloc _ = w4 at H4 ⊢
  generalize w3.heap.size = g at H4 ⊢
  go_loopw [8] (fun i wr => ER1 b (HP.sl strE (.slice b1 (namesL m).length c1) (namesL m) :: HP.sl pairE (.slice b2 E.length c2) E :: L) m g i wr) (fun i _ => m - (intOf i).toNat)
  case atStart => exact ⟨0, by omega, rfl, H4.out⟩
  case round =>
    obtain ⟨k, hk, rfl, hs⟩ := hrel
    have H5 := hide hs
    clear hs H4
    by_cases hlt : k < m
    · have hlt' : (k : Int) < m := by omega
      have hk12 : (k : Int) < 12 := by omega
      obtain ⟨_, hf⟩ := H5.out.mat_cell (i := k) (j := k) (by omega) (by omega)
      obtain ⟨hc, _⟩ := H5.out.mat_cell (i := k) (j := k) (by omega) (by omega)
      have H6 := hide (H5.out.mat_set (i := k) (j := k) (by omega) (by omega) true)
      go_wp2_with fail
      go_roundw
      case rel => exact ⟨k + 1, by omega, by go_num, by rw [← diagM_succ]; exact H6.out⟩
      case measure => exact meas_step hlt
    · have hkm : k = m := by omega
      subst hkm
      have H6 := hide H5.out
      clear H5
      go_wp2_with fail
      go_loopw [9] (fun i wr => ER2 b (HP.sl strE (.slice b1 (namesL k).length c1) (namesL k) :: HP.sl pairE (.slice b2 E.length c2) E :: L) k g I i wr) (fun i _ => I.length - (intOf i).toNat)
      case atStart => exact ⟨0, by omega, rfl, H6.out⟩
      case round =>
        obtain ⟨k2, hk2, rfl, hs⟩ := hrel
        have H7 := hide hs
        clear hs H6
        by_cases hlt2 : k2 < I.length
        · have hltE : k2 < E.length := by rw [HEL.out]; exact hlt2
          have hltE' : (k2 : Int) < E.length := by omega
          obtain ⟨ge, oe, hge⟩ := H7.out.sl_base mem2 (by omega) (by decide)
          subst hge
          have hx1 : E[k2] = pairNm I[k2] := by simp only [← HE2.out, List.getElem_map]
          have hil := HIL.out I[k2] (List.getElem_mem hlt2)
          obtain ⟨⟨a, c⟩, hac⟩ : ∃ x, I[k2] = x := ⟨_, rfl⟩
          have HST := hide (edgeM_succ (m := k) hlt2 hac)
          rw [hac] at hx1 hil
          obtain ⟨ha, hc⟩ := hil
          dsimp only at ha hc
          have d1 := (H7.out.drew.pair_at mem2 hltE).1
          have d2 := (H7.out.drew.pair_at mem2 hltE).2.1
          rw [hx1] at d1 d2
          have d3 := (H7.out.drew.mat_cell (i := a) (j := c) (by omega) (by omega)).1
          have d4 := (H7.out.drew.mat_cell (i := a) (j := c) (by omega) (by omega)).2
          have HSET := hide (H7.out.drew.mat_set (i := a) (j := c) (by omega) (by omega) ((decide (a < k) && decide (c < k)) || edgeM k (I.take k2) a c))
          have f1 := (HSET.out.pair_at mem2 hltE).1
          have f2 := (HSET.out.pair_at mem2 hltE).2.1
          have f3 := (HSET.out.mat_cell (i := a) (j := c) (by omega) (by omega)).1
          rw [show ((edgeM k (I.take k2)).set a c ((decide (a < k) && decide (c < k)) || edgeM k (I.take k2) a c)) a c = ((decide (a < k) && decide (c < k)) || edgeM k (I.take k2) a c) from if_pos ⟨rfl, rfl⟩] at f3
          rw [HST.out] at HSET
          rw [hx1] at f1 f2
          have n1 := nmN_byte (i := a) (by omega)
          have n2 := nmN_byte (i := c) (by omega)
          simp only [pairNm, nmN, nameS] at d1 d2 f1 f2
          generalize nameB (a : Int) = na at d1 n1 f1
          generalize nameB (c : Int) = nc at d2 n2 f2
          have u1 : IntKind.u8.wrap ((na.toNat : Int) - 97) = (a : Int) := by rw [n1, show (97 + (a : Int)) - 97 = a by omega]; exact wrap_byte (by omega) (by omega)
          have u2 : IntKind.u8.wrap ((nc.toNat : Int) - 97) = (c : Int) := by rw [n2, show (97 + (c : Int)) - 97 = c by omega]; exact wrap_byte (by omega) (by omega)
          have u3 : IntKind.i64.wrap (97 + (k : Int)) = 97 + k := wrap_small (by omega) (by omega)
          have u4 : IntKind.u8.wrap (97 + (k : Int)) = 97 + k := wrap_byte (by omega) (by omega)
          have hb0 : ∀ (x : UInt8) (h : 0 < (⟨#[x]⟩ : ByteArray).size), (⟨#[x]⟩ : ByteArray)[0]'h = x := fun _ _ => rfl
          have ha12 : (a : Int) < 12 := by omega
          have hc12 : (c : Int) < 12 := by omega
          have ha0 : (0 : Int) ≤ a := by omega
          have hc0 : (0 : Int) ≤ c := by omega
          clear hx1 hac H7
          by_cases hak : a < k
          · have e1 : decide ((na.toNat : Int) < 97 + k) = true := by simp; omega
            by_cases hck : c < k
            · have e2 : decide ((nc.toNat : Int) < 97 + k) = true := by simp; omega
              rw [decide_eq_true hak, decide_eq_true hck, Bool.and_self, Bool.true_or] at HSET f1 f2
              have F := hide (And.intro f1 f2)
              clear f1 f2 f3
              clear n1 n2
              go_wp2_with fail
              as_aux_lemma =>
                refine wp_region_held_drew (S := fun w' => w'.cell? ⟨ge, oe + k2 * 2, none⟩ = some (.string ⟨[na].toArray⟩) ∧ w'.cell? ⟨ge, oe + k2 * 2 + 1, none⟩ = some (.string ⟨[nc].toArray⟩)) (by kernel_rfl) ?_ (fun hHeld => ?_)
                · exact ⟨d1, d2⟩
                refine wpAnyH_takeD (i := 0) (some 47) (v := ?v0_115) rfl rfl (by kernel_rfl) (by kernel_rfl) (by kernel_rfl) (fun _ _ _ h => h) (by rfl) ?y0_115 (by assumption) ?r0_115
                case y0_115 => (intro w hSw; (try dsimp only at hSw); first | (go_simp; done) | (go_simp; with_reducible rfl))
                try simp only [Act.put, List.setIfInBounds_toArray, List.set_cons_zero, List.set_cons_succ]
                refine wpAnyH_takeD (i := 1) (some 48) (v := ?v1_116) rfl rfl (by kernel_rfl) (by kernel_rfl) (by kernel_rfl) (fun _ _ _ h => h) (by rfl) ?y1_116 (by assumption) ?r1_116
                case y1_116 => (intro w hSw; (try dsimp only at hSw); first | (go_simp; done) | (go_simp; with_reducible rfl))
                try simp only [Act.put, List.setIfInBounds_toArray, List.set_cons_zero, List.set_cons_succ]
                refine wpAnyH_takeD (i := 2) (some 49) (v := ?v2_117) rfl rfl (by kernel_rfl) (by kernel_rfl) (by kernel_rfl) (fun _ _ _ h => h) (by rfl) ?y2_117 (by assumption) ?r2_117
                case y2_117 => (intro w hSw; (try dsimp only at hSw); first | (go_simp; done) | (go_simp; with_reducible rfl))
                try simp only [Act.put, List.setIfInBounds_toArray, List.set_cons_zero, List.set_cons_succ]
                refine wpAnyH_takeD (i := 3) (some 50) (v := ?v3_118) rfl rfl (by kernel_rfl) (by kernel_rfl) (by kernel_rfl) (fun _ _ _ h => h) (by rfl) ?y3_118 (by assumption) ?r3_118
                case y3_118 => (intro w hSw; (try dsimp only at hSw); first | (go_simp; done) | (go_simp; with_reducible rfl))
                try simp only [Act.put, List.setIfInBounds_toArray, List.set_cons_zero, List.set_cons_succ]
                refine wpAnyH_takeD (i := 4) (some 51) (v := ?v4_119) rfl rfl (by kernel_rfl) (by kernel_rfl) (by kernel_rfl) (fun _ _ _ h => h) (by rfl) ?y4_119 (by assumption) ?r4_119
                case y4_119 => (intro w hSw; (try dsimp only at hSw); first | (go_simp; done) | (go_simp; with_reducible rfl))
                try simp only [Act.put, List.setIfInBounds_toArray, List.set_cons_zero, List.set_cons_succ]
                refine wpAnyH_takeD (i := 5) (some 52) (v := ?v5_120) rfl rfl (by kernel_rfl) (by kernel_rfl) (by kernel_rfl) (fun _ _ _ h => h) (by rfl) ?y5_120 (by assumption) ?r5_120
                case y5_120 => (intro w hSw; (try dsimp only at hSw); first | (go_simp; done) | (go_simp; with_reducible rfl))
                try simp only [Act.put, List.setIfInBounds_toArray, List.set_cons_zero, List.set_cons_succ]
                refine wpAnyH_takeD (i := 6) (some 53) (v := ?v6_121) rfl rfl (by kernel_rfl) (by kernel_rfl) (by kernel_rfl) (fun _ _ _ h => h) (by rfl) ?y6_121 (by assumption) ?r6_121
                case y6_121 => (intro w hSw; (try dsimp only at hSw); first | (go_simp; done) | (go_simp; with_reducible rfl))
                try simp only [Act.put, List.setIfInBounds_toArray, List.set_cons_zero, List.set_cons_succ]
                refine wpAnyH_takeD (i := 7) (some 54) (v := ?v7_122) rfl rfl (by kernel_rfl) (by kernel_rfl) (by kernel_rfl) (fun _ _ _ h => h) (by rfl) ?y7_122 (by assumption) ?r7_122
                case y7_122 => (intro w hSw; (try dsimp only at hSw); first | (go_simp; done) | (go_simp; with_reducible rfl))
                try simp only [Act.put, List.setIfInBounds_toArray, List.set_cons_zero, List.set_cons_succ]
                refine wpAnyH_takeD (i := 8) (some 55) (v := ?v8_123) rfl rfl (by kernel_rfl) (by kernel_rfl) (by kernel_rfl) (fun _ _ _ h => h) (by rfl) ?y8_123 (by assumption) ?r8_123
                case y8_123 => (intro w hSw; (try dsimp only at hSw); first | (go_simp; done) | (go_simp; with_reducible rfl))
                try simp only [Act.put, List.setIfInBounds_toArray, List.set_cons_zero, List.set_cons_succ]
                refine wpAnyH_takeD (i := 9) (some 56) (v := ?v9_124) rfl rfl (by kernel_rfl) (by kernel_rfl) (by kernel_rfl) (fun _ _ _ h => h) (by rfl) ?y9_124 (by assumption) ?r9_124
                case y9_124 => (intro w hSw; (try dsimp only at hSw); first | (go_simp; done) | (go_simp; with_reducible rfl))
                try simp only [Act.put, List.setIfInBounds_toArray, List.set_cons_zero, List.set_cons_succ]
                refine wpAnyH_takeD (i := 10) (some 57) (v := ?v10_125) rfl rfl (by kernel_rfl) (by kernel_rfl) (by kernel_rfl) (fun _ _ _ h => h) (by rfl) ?y10_125 (by assumption) ?r10_125
                case y10_125 => (intro w hSw; (try dsimp only at hSw); first | (go_simp; done) | (go_simp; with_reducible rfl))
                try simp only [Act.put, List.setIfInBounds_toArray, List.set_cons_zero, List.set_cons_succ]
                refine wpAnyH_takeD (i := 11) (some 58) (v := ?v11_126) rfl rfl (by kernel_rfl) (by kernel_rfl) (by kernel_rfl) (fun _ _ _ h => h) (by rfl) ?y11_126 (by assumption) ?r11_126
                case y11_126 => (intro w hSw; (try dsimp only at hSw); first | (go_simp; done) | (go_simp; with_reducible rfl))
                try simp only [Act.put, List.setIfInBounds_toArray, List.set_cons_zero, List.set_cons_succ]
                refine wpAnyH_takeD (i := 12) (some 59) (v := ?v12_127) rfl rfl (by kernel_rfl) (by kernel_rfl) (by kernel_rfl) (fun _ _ _ h => h) (by rfl) ?y12_127 (by assumption) ?r12_127
                case y12_127 => (intro w hSw; (try dsimp only at hSw); first | (go_simp; done) | (go_simp; with_reducible rfl))
                try simp only [Act.put, List.setIfInBounds_toArray, List.set_cons_zero, List.set_cons_succ]
                refine wpAnyH_takeD (i := 13) (some 60) (v := ?v13_128) rfl rfl (by kernel_rfl) (by kernel_rfl) (by kernel_rfl) (fun _ _ _ h => h) (by rfl) ?y13_128 (by assumption) ?r13_128
                case y13_128 => (intro w hSw; (try dsimp only at hSw); first | (go_simp; done) | (go_simp; with_reducible rfl))
                try simp only [Act.put, List.setIfInBounds_toArray, List.set_cons_zero, List.set_cons_succ]
                refine wpAnyH_takeD (i := 14) (some 61) (v := ?v14_129) rfl rfl (by kernel_rfl) (by kernel_rfl) (by kernel_rfl) (fun _ _ _ h => h) (by rfl) ?y14_129 (by assumption) ?r14_129
                case y14_129 => (intro w hSw; (try dsimp only at hSw); first | (go_simp; done) | (go_simp; with_reducible rfl))
                try simp only [Act.put, List.setIfInBounds_toArray, List.set_cons_zero, List.set_cons_succ]
                refine wpAnyH_takeD (i := 15) (some 62) (v := ?v15_130) rfl rfl (by kernel_rfl) (by kernel_rfl) (by kernel_rfl) (fun _ _ _ h => h) (by rfl) ?y15_130 (by assumption) ?r15_130
                case y15_130 => (intro w hSw; (try dsimp only at hSw); first | (go_simp; done) | (go_simp; with_reducible rfl))
                try simp only [Act.put, List.setIfInBounds_toArray, List.set_cons_zero, List.set_cons_succ]
                refine wpAnyH_takeD (i := 16) (some 63) (v := ?v16_131) rfl rfl (by kernel_rfl) (by kernel_rfl) (by kernel_rfl) (fun _ _ _ h => h) (by rfl) ?y16_131 (by assumption) ?r16_131
                case y16_131 => (intro w hSw; (try dsimp only at hSw); first | (go_simp; done) | (go_simp; with_reducible rfl))
                try simp only [Act.put, List.setIfInBounds_toArray, List.set_cons_zero, List.set_cons_succ]
                refine wpAnyH_takeD (i := 17) (some 64) (v := ?v17_132) rfl rfl (by kernel_rfl) (by kernel_rfl) (by kernel_rfl) (fun _ _ _ h => h) (by rfl) ?y17_132 (by assumption) ?r17_132
                case y17_132 => (intro w hSw; (try dsimp only at hSw); first | (go_simp; done) | (go_simp; with_reducible rfl))
                try simp only [Act.put, List.setIfInBounds_toArray, List.set_cons_zero, List.set_cons_succ]
                refine wpAnyH_takeD (i := 18) (some 65) (v := ?v18_133) rfl rfl (by kernel_rfl) (by kernel_rfl) (by kernel_rfl) (fun _ _ _ h => h) (by rfl) ?y18_133 (by assumption) ?r18_133
                case y18_133 => (intro w hSw; (try dsimp only at hSw); first | (go_simp; done) | (go_simp; with_reducible rfl))
                try simp only [Act.put, List.setIfInBounds_toArray, List.set_cons_zero, List.set_cons_succ]
                refine wpAnyH_takeD (i := 19) (some 66) (v := ?v19_134) rfl rfl (by kernel_rfl) (by kernel_rfl) (by kernel_rfl) (fun _ _ _ h => h) (by rfl) ?y19_134 (by assumption) ?r19_134
                case y19_134 => (intro w hSw; (try dsimp only at hSw); first | (go_simp; done) | (go_simp; with_reducible rfl))
                try simp only [Act.put, List.setIfInBounds_toArray, List.set_cons_zero, List.set_cons_succ]
                refine wpAnyH_takeD (i := 20) (some 67) (v := ?v20_135) rfl rfl (by kernel_rfl) (by kernel_rfl) (by kernel_rfl) (fun _ _ _ h => h) (by rfl) ?y20_135 (by assumption) ?r20_135
                case y20_135 => (intro w hSw; (try dsimp only at hSw); first | (go_simp; done) | (go_simp; with_reducible rfl))
                try simp only [Act.put, List.setIfInBounds_toArray, List.set_cons_zero, List.set_cons_succ]
                refine wpAnyH_takeD (i := 21) (some 68) (v := ?v21_136) rfl rfl (by kernel_rfl) (by kernel_rfl) (by kernel_rfl) (fun _ _ _ h => h) (by rfl) ?y21_136 (by assumption) ?r21_136
                case y21_136 => (intro w hSw; (try dsimp only at hSw); first | (go_simp; done) | (go_simp; with_reducible rfl))
                try simp only [Act.put, List.setIfInBounds_toArray, List.set_cons_zero, List.set_cons_succ]
                refine wpAnyH_takeD (i := 22) (some 69) (v := ?v22_137) rfl rfl (by kernel_rfl) (by kernel_rfl) (by kernel_rfl) (fun _ _ _ h => h) (by rfl) ?y22_137 (by assumption) ?r22_137
                case y22_137 => (intro w hSw; (try dsimp only at hSw); first | (go_simp; done) | (go_simp; with_reducible rfl))
                try simp only [Act.put, List.setIfInBounds_toArray, List.set_cons_zero, List.set_cons_succ]
                refine wpAnyH_takeD (i := 23) (some 70) (v := ?v23_138) rfl rfl (by kernel_rfl) (by kernel_rfl) (by kernel_rfl) (fun _ _ _ h => h) (by rfl) ?y23_138 (by assumption) ?r23_138
                case y23_138 => (intro w hSw; (try dsimp only at hSw); first | (go_simp; done) | (go_simp; with_reducible rfl))
                try simp only [Act.put, List.setIfInBounds_toArray, List.set_cons_zero, List.set_cons_succ]
                refine wpAnyH_takeD (i := 24) (some 71) (v := ?v24_139) rfl rfl (by kernel_rfl) (by kernel_rfl) (by kernel_rfl) (fun _ _ _ h => h) (by rfl) ?y24_139 (by assumption) ?r24_139
                case y24_139 => (intro w hSw; (try dsimp only at hSw); first | (go_simp; done) | (go_simp; with_reducible rfl))
                try simp only [Act.put, List.setIfInBounds_toArray, List.set_cons_zero, List.set_cons_succ]
                refine wpAnyH_takeD (i := 25) (some 72) (v := ?v25_140) rfl rfl (by kernel_rfl) (by kernel_rfl) (by kernel_rfl) (fun _ _ _ h => h) (by rfl) ?y25_140 (by assumption) ?r25_140
                case y25_140 => (intro w hSw; (try dsimp only at hSw); first | (go_simp; done) | (go_simp; with_reducible rfl))
                try simp only [Act.put, List.setIfInBounds_toArray, List.set_cons_zero, List.set_cons_succ]
                refine wpAnyH_takeD (i := 26) (some 73) (v := ?v26_141) rfl rfl (by kernel_rfl) (by kernel_rfl) (by kernel_rfl) (fun _ _ _ h => h) (by rfl) ?y26_141 (by assumption) ?r26_141
                case y26_141 => (intro w hSw; (try dsimp only at hSw); first | (go_simp; done) | (go_simp; with_reducible rfl))
                try simp only [Act.put, List.setIfInBounds_toArray, List.set_cons_zero, List.set_cons_succ]
                refine wpAnyH_takeD (i := 27) (some 74) (v := ?v27_142) rfl rfl (by kernel_rfl) (by kernel_rfl) (by kernel_rfl) (fun _ _ _ h => h) (by rfl) ?y27_142 (by assumption) ?r27_142
                case y27_142 => (intro w hSw; (try dsimp only at hSw); first | (go_simp; done) | (go_simp; with_reducible rfl))
                try simp only [Act.put, List.setIfInBounds_toArray, List.set_cons_zero, List.set_cons_succ]
                refine wpAnyH_takeD (i := 28) (some 75) (v := ?v28_143) rfl rfl (by kernel_rfl) (by kernel_rfl) (by kernel_rfl) (fun _ _ _ h => h) (by rfl) ?y28_143 (by assumption) ?r28_143
                case y28_143 => (intro w hSw; (try dsimp only at hSw); first | (go_simp; done) | (go_simp; with_reducible rfl))
                try simp only [Act.put, List.setIfInBounds_toArray, List.set_cons_zero, List.set_cons_succ]
                refine wpAnyH_takeD (i := 29) (some 76) (v := ?v29_144) rfl rfl (by kernel_rfl) (by kernel_rfl) (by kernel_rfl) (fun _ _ _ h => h) (by rfl) ?y29_144 (by assumption) ?r29_144
                case y29_144 => (intro w hSw; (try dsimp only at hSw); first | (go_simp; done) | (go_simp; with_reducible rfl))
                try simp only [Act.put, List.setIfInBounds_toArray, List.set_cons_zero, List.set_cons_succ]
                refine wpAnyH_takeD (i := 30) (some 77) (v := ?v30_145) rfl rfl (by kernel_rfl) (by kernel_rfl) (by kernel_rfl) (fun _ _ _ h => h) (by rfl) ?y30_145 (by assumption) ?r30_145
                case y30_145 => (intro w hSw; (try dsimp only at hSw); first | (go_simp; done) | (go_simp; with_reducible rfl))
                try simp only [Act.put, List.setIfInBounds_toArray, List.set_cons_zero, List.set_cons_succ]
                refine wpAnyH_takeD (i := 31) (some 78) (v := ?v31_146) rfl rfl (by kernel_rfl) (by kernel_rfl) (by kernel_rfl) (fun _ _ _ h => h) (by rfl) ?y31_146 (by assumption) ?r31_146
                case y31_146 => (intro w hSw; (try dsimp only at hSw); first | (go_simp; done) | (go_simp; with_reducible rfl))
                try simp only [Act.put, List.setIfInBounds_toArray, List.set_cons_zero, List.set_cons_succ]
                refine wpAnyH_takeD (i := 32) (some 79) (v := ?v32_147) rfl rfl (by kernel_rfl) (by kernel_rfl) (by kernel_rfl) (fun _ _ _ h => h) (by rfl) ?y32_147 (by assumption) ?r32_147
                case y32_147 => (intro w hSw; (try dsimp only at hSw); first | (go_simp; done) | (go_simp; with_reducible rfl))
                try simp only [Act.put, List.setIfInBounds_toArray, List.set_cons_zero, List.set_cons_succ]
                refine wpAnyH_takeD (i := 33) (some 80) (v := ?v33_148) rfl rfl (by kernel_rfl) (by kernel_rfl) (by kernel_rfl) (fun _ _ _ h => h) (by rfl) ?y33_148 (by assumption) ?r33_148
                case y33_148 => (intro w hSw; (try dsimp only at hSw); first | (go_simp; done) | (go_simp; with_reducible rfl))
                try simp only [Act.put, List.setIfInBounds_toArray, List.set_cons_zero, List.set_cons_succ]
                refine wpAnyH_takeD (i := 34) (some 81) (v := ?v34_149) rfl rfl (by kernel_rfl) (by kernel_rfl) (by kernel_rfl) (fun _ _ _ h => h) (by rfl) ?y34_149 (by assumption) ?r34_149
                case y34_149 => (intro w hSw; (try dsimp only at hSw); first | (go_simp; done) | (go_simp; with_reducible rfl))
                try simp only [Act.put, List.setIfInBounds_toArray, List.set_cons_zero, List.set_cons_succ]
                refine wpAnyH_takeD (i := 35) (some 82) (v := ?v35_150) rfl rfl (by kernel_rfl) (by kernel_rfl) (by kernel_rfl) (fun _ _ _ h => h) (by rfl) ?y35_150 (by assumption) ?r35_150
                case y35_150 => (intro w hSw; (try dsimp only at hSw); first | (go_simp; done) | (go_simp; with_reducible rfl))
                try simp only [Act.put, List.setIfInBounds_toArray, List.set_cons_zero, List.set_cons_succ]
                refine wpAnyH_takeD (i := 36) (some 83) (v := ?v36_151) rfl rfl (by kernel_rfl) (by kernel_rfl) (by kernel_rfl) (fun _ _ _ h => h) (by rfl) ?y36_151 (by assumption) ?r36_151
                case y36_151 => (intro w hSw; (try dsimp only at hSw); first | (go_simp; done) | (go_simp; with_reducible rfl))
                try simp only [Act.put, List.setIfInBounds_toArray, List.set_cons_zero, List.set_cons_succ]
                refine wpAnyH_skipD (i := 37) (some 84) rfl rfl (by kernel_rfl) (by kernel_rfl) (by kernel_rfl) (fun _ _ _ h => h) (by rfl) (by assumption) ?r37_152
                try simp only [Act.put, List.setIfInBounds_toArray, List.set_cons_zero, List.set_cons_succ]
                refine wpAnyH_skipD (i := 38) (some 85) rfl rfl (by kernel_rfl) (by kernel_rfl) (by kernel_rfl) (fun _ _ _ h => h) (by rfl) (by assumption) ?r38_153
                try simp only [Act.put, List.setIfInBounds_toArray, List.set_cons_zero, List.set_cons_succ]
                refine wpAnyH_skipD (i := 39) (some 86) rfl rfl (by kernel_rfl) (by kernel_rfl) (by kernel_rfl) (fun _ _ _ h => h) (by rfl) (by assumption) ?r39_154
                try simp only [Act.put, List.setIfInBounds_toArray, List.set_cons_zero, List.set_cons_succ]
                refine wpAnyH_skipD (i := 40) (some 87) rfl rfl (by kernel_rfl) (by kernel_rfl) (by kernel_rfl) (fun _ _ _ h => h) (by rfl) (by assumption) ?r40_155
                try simp only [Act.put, List.setIfInBounds_toArray, List.set_cons_zero, List.set_cons_succ]
                refine wpAnyH_skipD (i := 41) (some 88) rfl rfl (by kernel_rfl) (by kernel_rfl) (by kernel_rfl) (fun _ _ _ h => h) (by rfl) (by assumption) ?r41_156
                try simp only [Act.put, List.setIfInBounds_toArray, List.set_cons_zero, List.set_cons_succ]
                refine wpAnyH_skipD (i := 42) (some 89) rfl rfl (by kernel_rfl) (by kernel_rfl) (by kernel_rfl) (fun _ _ _ h => h) (by rfl) (by assumption) ?r42_157
                try simp only [Act.put, List.setIfInBounds_toArray, List.set_cons_zero, List.set_cons_succ]
                refine wpAnyH_skipD (i := 43) (some 90) rfl rfl (by kernel_rfl) (by kernel_rfl) (by kernel_rfl) (fun _ _ _ h => h) (by rfl) (by assumption) ?r43_158
                try simp only [Act.put, List.setIfInBounds_toArray, List.set_cons_zero, List.set_cons_succ]
                refine wpAnyH_skipD (i := 44) (some 91) rfl rfl (by kernel_rfl) (by kernel_rfl) (by kernel_rfl) (fun _ _ _ h => h) (by rfl) (by assumption) ?r44_159
                try simp only [Act.put, List.setIfInBounds_toArray, List.set_cons_zero, List.set_cons_succ]
                refine wpAnyH_skipD (i := 45) (some 92) rfl rfl (by kernel_rfl) (by kernel_rfl) (by kernel_rfl) (fun _ _ _ h => h) (by rfl) (by assumption) ?r45_160
                try simp only [Act.put, List.setIfInBounds_toArray, List.set_cons_zero, List.set_cons_succ]
                refine wpAnyH_skipD (i := 46) (some 93) rfl rfl (by kernel_rfl) (by kernel_rfl) (by kernel_rfl) (fun _ _ _ h => h) (by rfl) (by assumption) ?r46_161
                try simp only [Act.put, List.setIfInBounds_toArray, List.set_cons_zero, List.set_cons_succ]
                refine wpAnyH_skipD (i := 47) (some 94) rfl rfl (by kernel_rfl) (by kernel_rfl) (by kernel_rfl) (fun _ _ _ h => h) (by rfl) (by assumption) ?r47_162
                try simp only [Act.put, List.setIfInBounds_toArray, List.set_cons_zero, List.set_cons_succ]
                refine wpAnyH_skipD (i := 48) (some 95) rfl rfl (by kernel_rfl) (by kernel_rfl) (by kernel_rfl) (fun _ _ _ h => h) (by rfl) (by assumption) ?r48_163
                try simp only [Act.put, List.setIfInBounds_toArray, List.set_cons_zero, List.set_cons_succ]
                refine wpAnyH_skipD (i := 49) (some 96) rfl rfl (by kernel_rfl) (by kernel_rfl) (by kernel_rfl) (fun _ _ _ h => h) (by rfl) (by assumption) ?r49_164
                try simp only [Act.put, List.setIfInBounds_toArray, List.set_cons_zero, List.set_cons_succ]
                refine wpAnyH_skipD (i := 50) (some 97) rfl rfl (by kernel_rfl) (by kernel_rfl) (by kernel_rfl) (fun _ _ _ h => h) (by rfl) (by assumption) ?r50_165
                try simp only [Act.put, List.setIfInBounds_toArray, List.set_cons_zero, List.set_cons_succ]
                refine wpAnyH_skipD (i := 51) (some 98) rfl rfl (by kernel_rfl) (by kernel_rfl) (by kernel_rfl) (fun _ _ _ h => h) (by rfl) (by assumption) ?r51_166
                try simp only [Act.put, List.setIfInBounds_toArray, List.set_cons_zero, List.set_cons_succ]
                refine wpAnyH_skipD (i := 52) (some 99) rfl rfl (by kernel_rfl) (by kernel_rfl) (by kernel_rfl) (fun _ _ _ h => h) (by rfl) (by assumption) ?r52_167
                try simp only [Act.put, List.setIfInBounds_toArray, List.set_cons_zero, List.set_cons_succ]
                refine wpAnyH_skipD (i := 53) (some 100) rfl rfl (by kernel_rfl) (by kernel_rfl) (by kernel_rfl) (fun _ _ _ h => h) (by rfl) (by assumption) ?r53_168
                try simp only [Act.put, List.setIfInBounds_toArray, List.set_cons_zero, List.set_cons_succ]
                refine wpAnyH_takeD (i := 54) (some 101) (v := ?v54_169) rfl rfl (by kernel_rfl) (by kernel_rfl) (by kernel_rfl) (fun _ _ _ h => h) (by rfl) ?y54_169 (by assumption) ?r54_169
                case y54_169 => (intro w hSw; (try dsimp only at hSw); first | (go_simp; done) | (go_simp; with_reducible rfl))
                try simp only [Act.put, List.setIfInBounds_toArray, List.set_cons_zero, List.set_cons_succ]
                refine wpAnyH_takeD (i := 55) (some 102) (v := ?v55_170) rfl rfl (by kernel_rfl) (by kernel_rfl) (by kernel_rfl) (fun _ _ _ h => h) (by rfl) ?y55_170 (by assumption) ?r55_170
                case y55_170 => (intro w hSw; (try dsimp only at hSw); first | (go_simp; done) | (go_simp; with_reducible rfl))
                try simp only [Act.put, List.setIfInBounds_toArray, List.set_cons_zero, List.set_cons_succ]
                refine wpAnyH_takeD (i := 56) (some 103) (v := ?v56_171) rfl rfl (by kernel_rfl) (by kernel_rfl) (by kernel_rfl) (fun _ _ _ h => h) (by rfl) ?y56_171 (by assumption) ?r56_171
                case y56_171 => (intro w hSw; (try dsimp only at hSw); first | (go_simp; done) | (go_simp; with_reducible rfl))
                try simp only [Act.put, List.setIfInBounds_toArray, List.set_cons_zero, List.set_cons_succ]
                refine wpAnyH_ready (rs := [57]) (by kernel_rfl) (by simp) ?_
                refine AllReadyH.cons rfl (fun K hK => ?_) ?_
                · go_simp
                  refine hK.out _ _ ?_ (fun hHeld => ?_)
                  · exact F.out
                  clear hK K
                  try simp only [Act.put, List.setIfInBounds_toArray, List.set_cons_zero, List.set_cons_succ]
                  refine wpAnyH_done (by kernel_rfl) ?_ _
                  go_wp2_with fail
                  go_roundw
                  case rel => exact ⟨k2 + 1, by omega, by go_num, HSET.out⟩
                  case measure => exact meas_step hlt2
                exact AllReadyH.nil
            · have e2 : decide ((nc.toNat : Int) < 97 + k) = false := by simp; omega
              rw [decide_eq_true hak, decide_eq_false hck, Bool.and_false, Bool.false_or] at HSET f1 f2 f3
              have F := hide (And.intro f1 (And.intro f2 f3))
              clear f1 f2 f3
              clear n1 n2
              go_wp2_with fail
              as_aux_lemma =>
                refine wp_region_held_drew (S := fun w' => w'.cell? ⟨ge, oe + k2 * 2, none⟩ = some (.string ⟨[na].toArray⟩) ∧ w'.cell? ⟨ge, oe + k2 * 2 + 1, none⟩ = some (.string ⟨[nc].toArray⟩) ∧ w'.cell? ⟨g, a * 12 + c, none⟩ = some (.bool (edgeM k (I.take k2) a c))) (by kernel_rfl) ?_ (fun hHeld => ?_)
                · exact ⟨d1, d2, d3⟩
                refine wpAnyH_takeD (i := 0) (some 47) (v := ?v0_58) rfl rfl (by kernel_rfl) (by kernel_rfl) (by kernel_rfl) (fun _ _ _ h => h) (by rfl) ?y0_58 (by assumption) ?r0_58
                case y0_58 => (intro w hSw; (try dsimp only at hSw); first | (go_simp; done) | (go_simp; with_reducible rfl))
                try simp only [Act.put, List.setIfInBounds_toArray, List.set_cons_zero, List.set_cons_succ]
                refine wpAnyH_takeD (i := 1) (some 48) (v := ?v1_59) rfl rfl (by kernel_rfl) (by kernel_rfl) (by kernel_rfl) (fun _ _ _ h => h) (by rfl) ?y1_59 (by assumption) ?r1_59
                case y1_59 => (intro w hSw; (try dsimp only at hSw); first | (go_simp; done) | (go_simp; with_reducible rfl))
                try simp only [Act.put, List.setIfInBounds_toArray, List.set_cons_zero, List.set_cons_succ]
                refine wpAnyH_takeD (i := 2) (some 49) (v := ?v2_60) rfl rfl (by kernel_rfl) (by kernel_rfl) (by kernel_rfl) (fun _ _ _ h => h) (by rfl) ?y2_60 (by assumption) ?r2_60
                case y2_60 => (intro w hSw; (try dsimp only at hSw); first | (go_simp; done) | (go_simp; with_reducible rfl))
                try simp only [Act.put, List.setIfInBounds_toArray, List.set_cons_zero, List.set_cons_succ]
                refine wpAnyH_takeD (i := 3) (some 50) (v := ?v3_61) rfl rfl (by kernel_rfl) (by kernel_rfl) (by kernel_rfl) (fun _ _ _ h => h) (by rfl) ?y3_61 (by assumption) ?r3_61
                case y3_61 => (intro w hSw; (try dsimp only at hSw); first | (go_simp; done) | (go_simp; with_reducible rfl))
                try simp only [Act.put, List.setIfInBounds_toArray, List.set_cons_zero, List.set_cons_succ]
                refine wpAnyH_takeD (i := 4) (some 51) (v := ?v4_62) rfl rfl (by kernel_rfl) (by kernel_rfl) (by kernel_rfl) (fun _ _ _ h => h) (by rfl) ?y4_62 (by assumption) ?r4_62
                case y4_62 => (intro w hSw; (try dsimp only at hSw); first | (go_simp; done) | (go_simp; with_reducible rfl))
                try simp only [Act.put, List.setIfInBounds_toArray, List.set_cons_zero, List.set_cons_succ]
                refine wpAnyH_takeD (i := 5) (some 52) (v := ?v5_63) rfl rfl (by kernel_rfl) (by kernel_rfl) (by kernel_rfl) (fun _ _ _ h => h) (by rfl) ?y5_63 (by assumption) ?r5_63
                case y5_63 => (intro w hSw; (try dsimp only at hSw); first | (go_simp; done) | (go_simp; with_reducible rfl))
                try simp only [Act.put, List.setIfInBounds_toArray, List.set_cons_zero, List.set_cons_succ]
                refine wpAnyH_takeD (i := 6) (some 53) (v := ?v6_64) rfl rfl (by kernel_rfl) (by kernel_rfl) (by kernel_rfl) (fun _ _ _ h => h) (by rfl) ?y6_64 (by assumption) ?r6_64
                case y6_64 => (intro w hSw; (try dsimp only at hSw); first | (go_simp; done) | (go_simp; with_reducible rfl))
                try simp only [Act.put, List.setIfInBounds_toArray, List.set_cons_zero, List.set_cons_succ]
                refine wpAnyH_takeD (i := 7) (some 54) (v := ?v7_65) rfl rfl (by kernel_rfl) (by kernel_rfl) (by kernel_rfl) (fun _ _ _ h => h) (by rfl) ?y7_65 (by assumption) ?r7_65
                case y7_65 => (intro w hSw; (try dsimp only at hSw); first | (go_simp; done) | (go_simp; with_reducible rfl))
                try simp only [Act.put, List.setIfInBounds_toArray, List.set_cons_zero, List.set_cons_succ]
                refine wpAnyH_takeD (i := 8) (some 55) (v := ?v8_66) rfl rfl (by kernel_rfl) (by kernel_rfl) (by kernel_rfl) (fun _ _ _ h => h) (by rfl) ?y8_66 (by assumption) ?r8_66
                case y8_66 => (intro w hSw; (try dsimp only at hSw); first | (go_simp; done) | (go_simp; with_reducible rfl))
                try simp only [Act.put, List.setIfInBounds_toArray, List.set_cons_zero, List.set_cons_succ]
                refine wpAnyH_takeD (i := 9) (some 56) (v := ?v9_67) rfl rfl (by kernel_rfl) (by kernel_rfl) (by kernel_rfl) (fun _ _ _ h => h) (by rfl) ?y9_67 (by assumption) ?r9_67
                case y9_67 => (intro w hSw; (try dsimp only at hSw); first | (go_simp; done) | (go_simp; with_reducible rfl))
                try simp only [Act.put, List.setIfInBounds_toArray, List.set_cons_zero, List.set_cons_succ]
                refine wpAnyH_takeD (i := 10) (some 57) (v := ?v10_68) rfl rfl (by kernel_rfl) (by kernel_rfl) (by kernel_rfl) (fun _ _ _ h => h) (by rfl) ?y10_68 (by assumption) ?r10_68
                case y10_68 => (intro w hSw; (try dsimp only at hSw); first | (go_simp; done) | (go_simp; with_reducible rfl))
                try simp only [Act.put, List.setIfInBounds_toArray, List.set_cons_zero, List.set_cons_succ]
                refine wpAnyH_takeD (i := 11) (some 58) (v := ?v11_69) rfl rfl (by kernel_rfl) (by kernel_rfl) (by kernel_rfl) (fun _ _ _ h => h) (by rfl) ?y11_69 (by assumption) ?r11_69
                case y11_69 => (intro w hSw; (try dsimp only at hSw); first | (go_simp; done) | (go_simp; with_reducible rfl))
                try simp only [Act.put, List.setIfInBounds_toArray, List.set_cons_zero, List.set_cons_succ]
                refine wpAnyH_takeD (i := 12) (some 59) (v := ?v12_70) rfl rfl (by kernel_rfl) (by kernel_rfl) (by kernel_rfl) (fun _ _ _ h => h) (by rfl) ?y12_70 (by assumption) ?r12_70
                case y12_70 => (intro w hSw; (try dsimp only at hSw); first | (go_simp; done) | (go_simp; with_reducible rfl))
                try simp only [Act.put, List.setIfInBounds_toArray, List.set_cons_zero, List.set_cons_succ]
                refine wpAnyH_takeD (i := 13) (some 60) (v := ?v13_71) rfl rfl (by kernel_rfl) (by kernel_rfl) (by kernel_rfl) (fun _ _ _ h => h) (by rfl) ?y13_71 (by assumption) ?r13_71
                case y13_71 => (intro w hSw; (try dsimp only at hSw); first | (go_simp; done) | (go_simp; with_reducible rfl))
                try simp only [Act.put, List.setIfInBounds_toArray, List.set_cons_zero, List.set_cons_succ]
                refine wpAnyH_takeD (i := 14) (some 61) (v := ?v14_72) rfl rfl (by kernel_rfl) (by kernel_rfl) (by kernel_rfl) (fun _ _ _ h => h) (by rfl) ?y14_72 (by assumption) ?r14_72
                case y14_72 => (intro w hSw; (try dsimp only at hSw); first | (go_simp; done) | (go_simp; with_reducible rfl))
                try simp only [Act.put, List.setIfInBounds_toArray, List.set_cons_zero, List.set_cons_succ]
                refine wpAnyH_takeD (i := 15) (some 62) (v := ?v15_73) rfl rfl (by kernel_rfl) (by kernel_rfl) (by kernel_rfl) (fun _ _ _ h => h) (by rfl) ?y15_73 (by assumption) ?r15_73
                case y15_73 => (intro w hSw; (try dsimp only at hSw); first | (go_simp; done) | (go_simp; with_reducible rfl))
                try simp only [Act.put, List.setIfInBounds_toArray, List.set_cons_zero, List.set_cons_succ]
                refine wpAnyH_takeD (i := 16) (some 63) (v := ?v16_74) rfl rfl (by kernel_rfl) (by kernel_rfl) (by kernel_rfl) (fun _ _ _ h => h) (by rfl) ?y16_74 (by assumption) ?r16_74
                case y16_74 => (intro w hSw; (try dsimp only at hSw); first | (go_simp; done) | (go_simp; with_reducible rfl))
                try simp only [Act.put, List.setIfInBounds_toArray, List.set_cons_zero, List.set_cons_succ]
                refine wpAnyH_takeD (i := 17) (some 64) (v := ?v17_75) rfl rfl (by kernel_rfl) (by kernel_rfl) (by kernel_rfl) (fun _ _ _ h => h) (by rfl) ?y17_75 (by assumption) ?r17_75
                case y17_75 => (intro w hSw; (try dsimp only at hSw); first | (go_simp; done) | (go_simp; with_reducible rfl))
                try simp only [Act.put, List.setIfInBounds_toArray, List.set_cons_zero, List.set_cons_succ]
                refine wpAnyH_takeD (i := 18) (some 65) (v := ?v18_76) rfl rfl (by kernel_rfl) (by kernel_rfl) (by kernel_rfl) (fun _ _ _ h => h) (by rfl) ?y18_76 (by assumption) ?r18_76
                case y18_76 => (intro w hSw; (try dsimp only at hSw); first | (go_simp; done) | (go_simp; with_reducible rfl))
                try simp only [Act.put, List.setIfInBounds_toArray, List.set_cons_zero, List.set_cons_succ]
                refine wpAnyH_takeD (i := 19) (some 66) (v := ?v19_77) rfl rfl (by kernel_rfl) (by kernel_rfl) (by kernel_rfl) (fun _ _ _ h => h) (by rfl) ?y19_77 (by assumption) ?r19_77
                case y19_77 => (intro w hSw; (try dsimp only at hSw); first | (go_simp; done) | (go_simp; with_reducible rfl))
                try simp only [Act.put, List.setIfInBounds_toArray, List.set_cons_zero, List.set_cons_succ]
                refine wpAnyH_takeD (i := 20) (some 67) (v := ?v20_78) rfl rfl (by kernel_rfl) (by kernel_rfl) (by kernel_rfl) (fun _ _ _ h => h) (by rfl) ?y20_78 (by assumption) ?r20_78
                case y20_78 => (intro w hSw; (try dsimp only at hSw); first | (go_simp; done) | (go_simp; with_reducible rfl))
                try simp only [Act.put, List.setIfInBounds_toArray, List.set_cons_zero, List.set_cons_succ]
                refine wpAnyH_takeD (i := 21) (some 68) (v := ?v21_79) rfl rfl (by kernel_rfl) (by kernel_rfl) (by kernel_rfl) (fun _ _ _ h => h) (by rfl) ?y21_79 (by assumption) ?r21_79
                case y21_79 => (intro w hSw; (try dsimp only at hSw); first | (go_simp; done) | (go_simp; with_reducible rfl))
                try simp only [Act.put, List.setIfInBounds_toArray, List.set_cons_zero, List.set_cons_succ]
                refine wpAnyH_takeD (i := 22) (some 69) (v := ?v22_80) rfl rfl (by kernel_rfl) (by kernel_rfl) (by kernel_rfl) (fun _ _ _ h => h) (by rfl) ?y22_80 (by assumption) ?r22_80
                case y22_80 => (intro w hSw; (try dsimp only at hSw); first | (go_simp; done) | (go_simp; with_reducible rfl))
                try simp only [Act.put, List.setIfInBounds_toArray, List.set_cons_zero, List.set_cons_succ]
                refine wpAnyH_takeD (i := 23) (some 70) (v := ?v23_81) rfl rfl (by kernel_rfl) (by kernel_rfl) (by kernel_rfl) (fun _ _ _ h => h) (by rfl) ?y23_81 (by assumption) ?r23_81
                case y23_81 => (intro w hSw; (try dsimp only at hSw); first | (go_simp; done) | (go_simp; with_reducible rfl))
                try simp only [Act.put, List.setIfInBounds_toArray, List.set_cons_zero, List.set_cons_succ]
                refine wpAnyH_takeD (i := 24) (some 71) (v := ?v24_82) rfl rfl (by kernel_rfl) (by kernel_rfl) (by kernel_rfl) (fun _ _ _ h => h) (by rfl) ?y24_82 (by assumption) ?r24_82
                case y24_82 => (intro w hSw; (try dsimp only at hSw); first | (go_simp; done) | (go_simp; with_reducible rfl))
                try simp only [Act.put, List.setIfInBounds_toArray, List.set_cons_zero, List.set_cons_succ]
                refine wpAnyH_takeD (i := 25) (some 72) (v := ?v25_83) rfl rfl (by kernel_rfl) (by kernel_rfl) (by kernel_rfl) (fun _ _ _ h => h) (by rfl) ?y25_83 (by assumption) ?r25_83
                case y25_83 => (intro w hSw; (try dsimp only at hSw); first | (go_simp; done) | (go_simp; with_reducible rfl))
                try simp only [Act.put, List.setIfInBounds_toArray, List.set_cons_zero, List.set_cons_succ]
                refine wpAnyH_takeD (i := 26) (some 73) (v := ?v26_84) rfl rfl (by kernel_rfl) (by kernel_rfl) (by kernel_rfl) (fun _ _ _ h => h) (by rfl) ?y26_84 (by assumption) ?r26_84
                case y26_84 => (intro w hSw; (try dsimp only at hSw); first | (go_simp; done) | (go_simp; with_reducible rfl))
                try simp only [Act.put, List.setIfInBounds_toArray, List.set_cons_zero, List.set_cons_succ]
                refine wpAnyH_takeD (i := 27) (some 74) (v := ?v27_85) rfl rfl (by kernel_rfl) (by kernel_rfl) (by kernel_rfl) (fun _ _ _ h => h) (by rfl) ?y27_85 (by assumption) ?r27_85
                case y27_85 => (intro w hSw; (try dsimp only at hSw); first | (go_simp; done) | (go_simp; with_reducible rfl))
                try simp only [Act.put, List.setIfInBounds_toArray, List.set_cons_zero, List.set_cons_succ]
                refine wpAnyH_takeD (i := 28) (some 75) (v := ?v28_86) rfl rfl (by kernel_rfl) (by kernel_rfl) (by kernel_rfl) (fun _ _ _ h => h) (by rfl) ?y28_86 (by assumption) ?r28_86
                case y28_86 => (intro w hSw; (try dsimp only at hSw); first | (go_simp; done) | (go_simp; with_reducible rfl))
                try simp only [Act.put, List.setIfInBounds_toArray, List.set_cons_zero, List.set_cons_succ]
                refine wpAnyH_takeD (i := 29) (some 76) (v := ?v29_87) rfl rfl (by kernel_rfl) (by kernel_rfl) (by kernel_rfl) (fun _ _ _ h => h) (by rfl) ?y29_87 (by assumption) ?r29_87
                case y29_87 => (intro w hSw; (try dsimp only at hSw); first | (go_simp; done) | (go_simp; with_reducible rfl))
                try simp only [Act.put, List.setIfInBounds_toArray, List.set_cons_zero, List.set_cons_succ]
                refine wpAnyH_takeD (i := 30) (some 77) (v := ?v30_88) rfl rfl (by kernel_rfl) (by kernel_rfl) (by kernel_rfl) (fun _ _ _ h => h) (by rfl) ?y30_88 (by assumption) ?r30_88
                case y30_88 => (intro w hSw; (try dsimp only at hSw); first | (go_simp; done) | (go_simp; with_reducible rfl))
                try simp only [Act.put, List.setIfInBounds_toArray, List.set_cons_zero, List.set_cons_succ]
                refine wpAnyH_takeD (i := 31) (some 78) (v := ?v31_89) rfl rfl (by kernel_rfl) (by kernel_rfl) (by kernel_rfl) (fun _ _ _ h => h) (by rfl) ?y31_89 (by assumption) ?r31_89
                case y31_89 => (intro w hSw; (try dsimp only at hSw); first | (go_simp; done) | (go_simp; with_reducible rfl))
                try simp only [Act.put, List.setIfInBounds_toArray, List.set_cons_zero, List.set_cons_succ]
                refine wpAnyH_takeD (i := 32) (some 79) (v := ?v32_90) rfl rfl (by kernel_rfl) (by kernel_rfl) (by kernel_rfl) (fun _ _ _ h => h) (by rfl) ?y32_90 (by assumption) ?r32_90
                case y32_90 => (intro w hSw; (try dsimp only at hSw); first | (go_simp; done) | (go_simp; with_reducible rfl))
                try simp only [Act.put, List.setIfInBounds_toArray, List.set_cons_zero, List.set_cons_succ]
                refine wpAnyH_takeD (i := 33) (some 80) (v := ?v33_91) rfl rfl (by kernel_rfl) (by kernel_rfl) (by kernel_rfl) (fun _ _ _ h => h) (by rfl) ?y33_91 (by assumption) ?r33_91
                case y33_91 => (intro w hSw; (try dsimp only at hSw); first | (go_simp; done) | (go_simp; with_reducible rfl))
                try simp only [Act.put, List.setIfInBounds_toArray, List.set_cons_zero, List.set_cons_succ]
                refine wpAnyH_takeD (i := 34) (some 81) (v := ?v34_92) rfl rfl (by kernel_rfl) (by kernel_rfl) (by kernel_rfl) (fun _ _ _ h => h) (by rfl) ?y34_92 (by assumption) ?r34_92
                case y34_92 => (intro w hSw; (try dsimp only at hSw); first | (go_simp; done) | (go_simp; with_reducible rfl))
                try simp only [Act.put, List.setIfInBounds_toArray, List.set_cons_zero, List.set_cons_succ]
                refine wpAnyH_takeD (i := 35) (some 82) (v := ?v35_93) rfl rfl (by kernel_rfl) (by kernel_rfl) (by kernel_rfl) (fun _ _ _ h => h) (by rfl) ?y35_93 (by assumption) ?r35_93
                case y35_93 => (intro w hSw; (try dsimp only at hSw); first | (go_simp; done) | (go_simp; with_reducible rfl))
                try simp only [Act.put, List.setIfInBounds_toArray, List.set_cons_zero, List.set_cons_succ]
                refine wpAnyH_takeD (i := 36) (some 83) (v := ?v36_94) rfl rfl (by kernel_rfl) (by kernel_rfl) (by kernel_rfl) (fun _ _ _ h => h) (by rfl) ?y36_94 (by assumption) ?r36_94
                case y36_94 => (intro w hSw; (try dsimp only at hSw); first | (go_simp; done) | (go_simp; with_reducible rfl))
                try simp only [Act.put, List.setIfInBounds_toArray, List.set_cons_zero, List.set_cons_succ]
                refine wpAnyH_takeD (i := 37) (some 84) (v := ?v37_95) rfl rfl (by kernel_rfl) (by kernel_rfl) (by kernel_rfl) (fun _ _ _ h => h) (by rfl) ?y37_95 (by assumption) ?r37_95
                case y37_95 => (intro w hSw; (try dsimp only at hSw); first | (go_simp; done) | (go_simp; with_reducible rfl))
                try simp only [Act.put, List.setIfInBounds_toArray, List.set_cons_zero, List.set_cons_succ]
                refine wpAnyH_takeD (i := 38) (some 85) (v := ?v38_96) rfl rfl (by kernel_rfl) (by kernel_rfl) (by kernel_rfl) (fun _ _ _ h => h) (by rfl) ?y38_96 (by assumption) ?r38_96
                case y38_96 => (intro w hSw; (try dsimp only at hSw); first | (go_simp; done) | (go_simp; with_reducible rfl))
                try simp only [Act.put, List.setIfInBounds_toArray, List.set_cons_zero, List.set_cons_succ]
                refine wpAnyH_takeD (i := 39) (some 86) (v := ?v39_97) rfl rfl (by kernel_rfl) (by kernel_rfl) (by kernel_rfl) (fun _ _ _ h => h) (by rfl) ?y39_97 (by assumption) ?r39_97
                case y39_97 => (intro w hSw; (try dsimp only at hSw); first | (go_simp; done) | (go_simp; with_reducible rfl))
                try simp only [Act.put, List.setIfInBounds_toArray, List.set_cons_zero, List.set_cons_succ]
                refine wpAnyH_takeD (i := 40) (some 87) (v := ?v40_98) rfl rfl (by kernel_rfl) (by kernel_rfl) (by kernel_rfl) (fun _ _ _ h => h) (by rfl) ?y40_98 (by assumption) ?r40_98
                case y40_98 => (intro w hSw; (try dsimp only at hSw); first | (go_simp; done) | (go_simp; with_reducible rfl))
                try simp only [Act.put, List.setIfInBounds_toArray, List.set_cons_zero, List.set_cons_succ]
                refine wpAnyH_takeD (i := 41) (some 88) (v := ?v41_99) rfl rfl (by kernel_rfl) (by kernel_rfl) (by kernel_rfl) (fun _ _ _ h => h) (by rfl) ?y41_99 (by assumption) ?r41_99
                case y41_99 => (intro w hSw; (try dsimp only at hSw); first | (go_simp; done) | (go_simp; with_reducible rfl))
                try simp only [Act.put, List.setIfInBounds_toArray, List.set_cons_zero, List.set_cons_succ]
                refine wpAnyH_takeD (i := 42) (some 89) (v := ?v42_100) rfl rfl (by kernel_rfl) (by kernel_rfl) (by kernel_rfl) (fun _ _ _ h => h) (by rfl) ?y42_100 (by assumption) ?r42_100
                case y42_100 => (intro w hSw; (try dsimp only at hSw); first | (go_simp; done) | (go_simp; with_reducible rfl))
                try simp only [Act.put, List.setIfInBounds_toArray, List.set_cons_zero, List.set_cons_succ]
                refine wpAnyH_takeD (i := 43) (some 90) (v := ?v43_101) rfl rfl (by kernel_rfl) (by kernel_rfl) (by kernel_rfl) (fun _ _ _ h => h) (by rfl) ?y43_101 (by assumption) ?r43_101
                case y43_101 => (intro w hSw; (try dsimp only at hSw); first | (go_simp; done) | (go_simp; with_reducible rfl))
                try simp only [Act.put, List.setIfInBounds_toArray, List.set_cons_zero, List.set_cons_succ]
                refine wpAnyH_takeD (i := 44) (some 91) (v := ?v44_102) rfl rfl (by kernel_rfl) (by kernel_rfl) (by kernel_rfl) (fun _ _ _ h => h) (by rfl) ?y44_102 (by assumption) ?r44_102
                case y44_102 => (intro w hSw; (try dsimp only at hSw); first | (go_simp; done) | (go_simp; with_reducible rfl))
                try simp only [Act.put, List.setIfInBounds_toArray, List.set_cons_zero, List.set_cons_succ]
                refine wpAnyH_takeD (i := 45) (some 92) (v := ?v45_103) rfl rfl (by kernel_rfl) (by kernel_rfl) (by kernel_rfl) (fun _ _ _ h => h) (by rfl) ?y45_103 (by assumption) ?r45_103
                case y45_103 => (intro w hSw; (try dsimp only at hSw); first | (go_simp; done) | (go_simp; with_reducible rfl))
                try simp only [Act.put, List.setIfInBounds_toArray, List.set_cons_zero, List.set_cons_succ]
                refine wpAnyH_takeD (i := 46) (some 93) (v := ?v46_104) rfl rfl (by kernel_rfl) (by kernel_rfl) (by kernel_rfl) (fun _ _ _ h => h) (by rfl) ?y46_104 (by assumption) ?r46_104
                case y46_104 => (intro w hSw; (try dsimp only at hSw); first | (go_simp; done) | (go_simp; with_reducible rfl))
                try simp only [Act.put, List.setIfInBounds_toArray, List.set_cons_zero, List.set_cons_succ]
                refine wpAnyH_takeD (i := 47) (some 94) (v := ?v47_105) rfl rfl (by kernel_rfl) (by kernel_rfl) (by kernel_rfl) (fun _ _ _ h => h) (by rfl) ?y47_105 (by assumption) ?r47_105
                case y47_105 => (intro w hSw; (try dsimp only at hSw); first | (go_simp; done) | (go_simp; with_reducible rfl))
                try simp only [Act.put, List.setIfInBounds_toArray, List.set_cons_zero, List.set_cons_succ]
                refine wpAnyH_takeD (i := 48) (some 95) (v := ?v48_106) rfl rfl (by kernel_rfl) (by kernel_rfl) (by kernel_rfl) (fun _ _ _ h => h) (by rfl) ?y48_106 (by assumption) ?r48_106
                case y48_106 => (intro w hSw; (try dsimp only at hSw); first | (go_simp; done) | (go_simp; with_reducible rfl))
                try simp only [Act.put, List.setIfInBounds_toArray, List.set_cons_zero, List.set_cons_succ]
                refine wpAnyH_takeD (i := 49) (some 96) (v := ?v49_107) rfl rfl (by kernel_rfl) (by kernel_rfl) (by kernel_rfl) (fun _ _ _ h => h) (by rfl) ?y49_107 (by assumption) ?r49_107
                case y49_107 => (intro w hSw; (try dsimp only at hSw); first | (go_simp; done) | (go_simp; with_reducible rfl))
                try simp only [Act.put, List.setIfInBounds_toArray, List.set_cons_zero, List.set_cons_succ]
                refine wpAnyH_takeD (i := 50) (some 97) (v := ?v50_108) rfl rfl (by kernel_rfl) (by kernel_rfl) (by kernel_rfl) (fun _ _ _ h => h) (by rfl) ?y50_108 (by assumption) ?r50_108
                case y50_108 => (intro w hSw; (try dsimp only at hSw); first | (go_simp; done) | (go_simp; with_reducible rfl))
                try simp only [Act.put, List.setIfInBounds_toArray, List.set_cons_zero, List.set_cons_succ]
                refine wpAnyH_takeD (i := 51) (some 98) (v := ?v51_109) rfl rfl (by kernel_rfl) (by kernel_rfl) (by kernel_rfl) (fun _ _ _ h => h) (by rfl) ?y51_109 (by assumption) ?r51_109
                case y51_109 => (intro w hSw; (try dsimp only at hSw); first | (go_simp; done) | (go_simp; with_reducible rfl))
                try simp only [Act.put, List.setIfInBounds_toArray, List.set_cons_zero, List.set_cons_succ]
                refine wpAnyH_takeD (i := 52) (some 99) (v := ?v52_110) rfl rfl (by kernel_rfl) (by kernel_rfl) (by kernel_rfl) (fun _ _ _ h => h) (by rfl) ?y52_110 (by assumption) ?r52_110
                case y52_110 => (intro w hSw; (try dsimp only at hSw); first | (go_simp; done) | (go_simp; with_reducible rfl))
                try simp only [Act.put, List.setIfInBounds_toArray, List.set_cons_zero, List.set_cons_succ]
                refine wpAnyH_takeD (i := 53) (some 100) (v := ?v53_111) rfl rfl (by kernel_rfl) (by kernel_rfl) (by kernel_rfl) (fun _ _ _ h => h) (by rfl) ?y53_111 (by assumption) ?r53_111
                case y53_111 => (intro w hSw; (try dsimp only at hSw); first | (go_simp; done) | (go_simp; with_reducible rfl))
                try simp only [Act.put, List.setIfInBounds_toArray, List.set_cons_zero, List.set_cons_succ]
                refine wpAnyH_takeD (i := 54) (some 101) (v := ?v54_112) rfl rfl (by kernel_rfl) (by kernel_rfl) (by kernel_rfl) (fun _ _ _ h => h) (by rfl) ?y54_112 (by assumption) ?r54_112
                case y54_112 => (intro w hSw; (try dsimp only at hSw); first | (go_simp; done) | (go_simp; with_reducible rfl))
                try simp only [Act.put, List.setIfInBounds_toArray, List.set_cons_zero, List.set_cons_succ]
                refine wpAnyH_takeD (i := 55) (some 102) (v := ?v55_113) rfl rfl (by kernel_rfl) (by kernel_rfl) (by kernel_rfl) (fun _ _ _ h => h) (by rfl) ?y55_113 (by assumption) ?r55_113
                case y55_113 => (intro w hSw; (try dsimp only at hSw); first | (go_simp; done) | (go_simp; with_reducible rfl))
                try simp only [Act.put, List.setIfInBounds_toArray, List.set_cons_zero, List.set_cons_succ]
                refine wpAnyH_takeD (i := 56) (some 103) (v := ?v56_114) rfl rfl (by kernel_rfl) (by kernel_rfl) (by kernel_rfl) (fun _ _ _ h => h) (by rfl) ?y56_114 (by assumption) ?r56_114
                case y56_114 => (intro w hSw; (try dsimp only at hSw); first | (go_simp; done) | (go_simp; with_reducible rfl))
                try simp only [Act.put, List.setIfInBounds_toArray, List.set_cons_zero, List.set_cons_succ]
                refine wpAnyH_ready (rs := [57]) (by kernel_rfl) (by simp) ?_
                refine AllReadyH.cons rfl (fun K hK => ?_) ?_
                · go_simp
                  refine hK.out _ _ ?_ (fun hHeld => ?_)
                  · exact F.out
                  clear hK K
                  try simp only [Act.put, List.setIfInBounds_toArray, List.set_cons_zero, List.set_cons_succ]
                  refine wpAnyH_done (by kernel_rfl) ?_ _
                  go_wp2_with fail
                  go_roundw
                  case rel => exact ⟨k2 + 1, by omega, by go_num, HSET.out⟩
                  case measure => exact meas_step hlt2
                exact AllReadyH.nil
          · have e1 : decide ((na.toNat : Int) < 97 + k) = false := by simp; omega
            rw [decide_eq_false hak, Bool.false_and, Bool.false_or] at HSET f1 f2 f3
            have F := hide (And.intro f1 (And.intro f2 f3))
            clear f1 f2 f3
            clear n1 n2
            go_wp2_with fail
            as_aux_lemma =>
              refine wp_region_held_drew (S := fun w' => w'.cell? ⟨ge, oe + k2 * 2, none⟩ = some (.string ⟨[na].toArray⟩) ∧ w'.cell? ⟨ge, oe + k2 * 2 + 1, none⟩ = some (.string ⟨[nc].toArray⟩) ∧ w'.cell? ⟨g, a * 12 + c, none⟩ = some (.bool (edgeM k (I.take k2) a c))) (by kernel_rfl) ?_ (fun hHeld => ?_)
              · exact ⟨d1, d2, d3⟩
              refine wpAnyH_takeD (i := 0) (some 47) (v := ?v0_1) rfl rfl (by kernel_rfl) (by kernel_rfl) (by kernel_rfl) (fun _ _ _ h => h) (by rfl) ?y0_1 (by assumption) ?r0_1
              case y0_1 => (intro w hSw; (try dsimp only at hSw); first | (go_simp; done) | (go_simp; with_reducible rfl))
              try simp only [Act.put, List.setIfInBounds_toArray, List.set_cons_zero, List.set_cons_succ]
              refine wpAnyH_takeD (i := 1) (some 48) (v := ?v1_2) rfl rfl (by kernel_rfl) (by kernel_rfl) (by kernel_rfl) (fun _ _ _ h => h) (by rfl) ?y1_2 (by assumption) ?r1_2
              case y1_2 => (intro w hSw; (try dsimp only at hSw); first | (go_simp; done) | (go_simp; with_reducible rfl))
              try simp only [Act.put, List.setIfInBounds_toArray, List.set_cons_zero, List.set_cons_succ]
              refine wpAnyH_takeD (i := 2) (some 49) (v := ?v2_3) rfl rfl (by kernel_rfl) (by kernel_rfl) (by kernel_rfl) (fun _ _ _ h => h) (by rfl) ?y2_3 (by assumption) ?r2_3
              case y2_3 => (intro w hSw; (try dsimp only at hSw); first | (go_simp; done) | (go_simp; with_reducible rfl))
              try simp only [Act.put, List.setIfInBounds_toArray, List.set_cons_zero, List.set_cons_succ]
              refine wpAnyH_takeD (i := 3) (some 50) (v := ?v3_4) rfl rfl (by kernel_rfl) (by kernel_rfl) (by kernel_rfl) (fun _ _ _ h => h) (by rfl) ?y3_4 (by assumption) ?r3_4
              case y3_4 => (intro w hSw; (try dsimp only at hSw); first | (go_simp; done) | (go_simp; with_reducible rfl))
              try simp only [Act.put, List.setIfInBounds_toArray, List.set_cons_zero, List.set_cons_succ]
              refine wpAnyH_takeD (i := 4) (some 51) (v := ?v4_5) rfl rfl (by kernel_rfl) (by kernel_rfl) (by kernel_rfl) (fun _ _ _ h => h) (by rfl) ?y4_5 (by assumption) ?r4_5
              case y4_5 => (intro w hSw; (try dsimp only at hSw); first | (go_simp; done) | (go_simp; with_reducible rfl))
              try simp only [Act.put, List.setIfInBounds_toArray, List.set_cons_zero, List.set_cons_succ]
              refine wpAnyH_takeD (i := 5) (some 52) (v := ?v5_6) rfl rfl (by kernel_rfl) (by kernel_rfl) (by kernel_rfl) (fun _ _ _ h => h) (by rfl) ?y5_6 (by assumption) ?r5_6
              case y5_6 => (intro w hSw; (try dsimp only at hSw); first | (go_simp; done) | (go_simp; with_reducible rfl))
              try simp only [Act.put, List.setIfInBounds_toArray, List.set_cons_zero, List.set_cons_succ]
              refine wpAnyH_takeD (i := 6) (some 53) (v := ?v6_7) rfl rfl (by kernel_rfl) (by kernel_rfl) (by kernel_rfl) (fun _ _ _ h => h) (by rfl) ?y6_7 (by assumption) ?r6_7
              case y6_7 => (intro w hSw; (try dsimp only at hSw); first | (go_simp; done) | (go_simp; with_reducible rfl))
              try simp only [Act.put, List.setIfInBounds_toArray, List.set_cons_zero, List.set_cons_succ]
              refine wpAnyH_takeD (i := 7) (some 54) (v := ?v7_8) rfl rfl (by kernel_rfl) (by kernel_rfl) (by kernel_rfl) (fun _ _ _ h => h) (by rfl) ?y7_8 (by assumption) ?r7_8
              case y7_8 => (intro w hSw; (try dsimp only at hSw); first | (go_simp; done) | (go_simp; with_reducible rfl))
              try simp only [Act.put, List.setIfInBounds_toArray, List.set_cons_zero, List.set_cons_succ]
              refine wpAnyH_takeD (i := 8) (some 55) (v := ?v8_9) rfl rfl (by kernel_rfl) (by kernel_rfl) (by kernel_rfl) (fun _ _ _ h => h) (by rfl) ?y8_9 (by assumption) ?r8_9
              case y8_9 => (intro w hSw; (try dsimp only at hSw); first | (go_simp; done) | (go_simp; with_reducible rfl))
              try simp only [Act.put, List.setIfInBounds_toArray, List.set_cons_zero, List.set_cons_succ]
              refine wpAnyH_takeD (i := 9) (some 56) (v := ?v9_10) rfl rfl (by kernel_rfl) (by kernel_rfl) (by kernel_rfl) (fun _ _ _ h => h) (by rfl) ?y9_10 (by assumption) ?r9_10
              case y9_10 => (intro w hSw; (try dsimp only at hSw); first | (go_simp; done) | (go_simp; with_reducible rfl))
              try simp only [Act.put, List.setIfInBounds_toArray, List.set_cons_zero, List.set_cons_succ]
              refine wpAnyH_takeD (i := 10) (some 57) (v := ?v10_11) rfl rfl (by kernel_rfl) (by kernel_rfl) (by kernel_rfl) (fun _ _ _ h => h) (by rfl) ?y10_11 (by assumption) ?r10_11
              case y10_11 => (intro w hSw; (try dsimp only at hSw); first | (go_simp; done) | (go_simp; with_reducible rfl))
              try simp only [Act.put, List.setIfInBounds_toArray, List.set_cons_zero, List.set_cons_succ]
              refine wpAnyH_takeD (i := 11) (some 58) (v := ?v11_12) rfl rfl (by kernel_rfl) (by kernel_rfl) (by kernel_rfl) (fun _ _ _ h => h) (by rfl) ?y11_12 (by assumption) ?r11_12
              case y11_12 => (intro w hSw; (try dsimp only at hSw); first | (go_simp; done) | (go_simp; with_reducible rfl))
              try simp only [Act.put, List.setIfInBounds_toArray, List.set_cons_zero, List.set_cons_succ]
              refine wpAnyH_takeD (i := 12) (some 59) (v := ?v12_13) rfl rfl (by kernel_rfl) (by kernel_rfl) (by kernel_rfl) (fun _ _ _ h => h) (by rfl) ?y12_13 (by assumption) ?r12_13
              case y12_13 => (intro w hSw; (try dsimp only at hSw); first | (go_simp; done) | (go_simp; with_reducible rfl))
              try simp only [Act.put, List.setIfInBounds_toArray, List.set_cons_zero, List.set_cons_succ]
              refine wpAnyH_takeD (i := 13) (some 60) (v := ?v13_14) rfl rfl (by kernel_rfl) (by kernel_rfl) (by kernel_rfl) (fun _ _ _ h => h) (by rfl) ?y13_14 (by assumption) ?r13_14
              case y13_14 => (intro w hSw; (try dsimp only at hSw); first | (go_simp; done) | (go_simp; with_reducible rfl))
              try simp only [Act.put, List.setIfInBounds_toArray, List.set_cons_zero, List.set_cons_succ]
              refine wpAnyH_takeD (i := 14) (some 61) (v := ?v14_15) rfl rfl (by kernel_rfl) (by kernel_rfl) (by kernel_rfl) (fun _ _ _ h => h) (by rfl) ?y14_15 (by assumption) ?r14_15
              case y14_15 => (intro w hSw; (try dsimp only at hSw); first | (go_simp; done) | (go_simp; with_reducible rfl))
              try simp only [Act.put, List.setIfInBounds_toArray, List.set_cons_zero, List.set_cons_succ]
              refine wpAnyH_takeD (i := 15) (some 62) (v := ?v15_16) rfl rfl (by kernel_rfl) (by kernel_rfl) (by kernel_rfl) (fun _ _ _ h => h) (by rfl) ?y15_16 (by assumption) ?r15_16
              case y15_16 => (intro w hSw; (try dsimp only at hSw); first | (go_simp; done) | (go_simp; with_reducible rfl))
              try simp only [Act.put, List.setIfInBounds_toArray, List.set_cons_zero, List.set_cons_succ]
              refine wpAnyH_takeD (i := 16) (some 63) (v := ?v16_17) rfl rfl (by kernel_rfl) (by kernel_rfl) (by kernel_rfl) (fun _ _ _ h => h) (by rfl) ?y16_17 (by assumption) ?r16_17
              case y16_17 => (intro w hSw; (try dsimp only at hSw); first | (go_simp; done) | (go_simp; with_reducible rfl))
              try simp only [Act.put, List.setIfInBounds_toArray, List.set_cons_zero, List.set_cons_succ]
              refine wpAnyH_takeD (i := 17) (some 64) (v := ?v17_18) rfl rfl (by kernel_rfl) (by kernel_rfl) (by kernel_rfl) (fun _ _ _ h => h) (by rfl) ?y17_18 (by assumption) ?r17_18
              case y17_18 => (intro w hSw; (try dsimp only at hSw); first | (go_simp; done) | (go_simp; with_reducible rfl))
              try simp only [Act.put, List.setIfInBounds_toArray, List.set_cons_zero, List.set_cons_succ]
              refine wpAnyH_takeD (i := 18) (some 65) (v := ?v18_19) rfl rfl (by kernel_rfl) (by kernel_rfl) (by kernel_rfl) (fun _ _ _ h => h) (by rfl) ?y18_19 (by assumption) ?r18_19
              case y18_19 => (intro w hSw; (try dsimp only at hSw); first | (go_simp; done) | (go_simp; with_reducible rfl))
              try simp only [Act.put, List.setIfInBounds_toArray, List.set_cons_zero, List.set_cons_succ]
              refine wpAnyH_takeD (i := 19) (some 66) (v := ?v19_20) rfl rfl (by kernel_rfl) (by kernel_rfl) (by kernel_rfl) (fun _ _ _ h => h) (by rfl) ?y19_20 (by assumption) ?r19_20
              case y19_20 => (intro w hSw; (try dsimp only at hSw); first | (go_simp; done) | (go_simp; with_reducible rfl))
              try simp only [Act.put, List.setIfInBounds_toArray, List.set_cons_zero, List.set_cons_succ]
              refine wpAnyH_takeD (i := 20) (some 67) (v := ?v20_21) rfl rfl (by kernel_rfl) (by kernel_rfl) (by kernel_rfl) (fun _ _ _ h => h) (by rfl) ?y20_21 (by assumption) ?r20_21
              case y20_21 => (intro w hSw; (try dsimp only at hSw); first | (go_simp; done) | (go_simp; with_reducible rfl))
              try simp only [Act.put, List.setIfInBounds_toArray, List.set_cons_zero, List.set_cons_succ]
              refine wpAnyH_takeD (i := 21) (some 68) (v := ?v21_22) rfl rfl (by kernel_rfl) (by kernel_rfl) (by kernel_rfl) (fun _ _ _ h => h) (by rfl) ?y21_22 (by assumption) ?r21_22
              case y21_22 => (intro w hSw; (try dsimp only at hSw); first | (go_simp; done) | (go_simp; with_reducible rfl))
              try simp only [Act.put, List.setIfInBounds_toArray, List.set_cons_zero, List.set_cons_succ]
              refine wpAnyH_takeD (i := 22) (some 69) (v := ?v22_23) rfl rfl (by kernel_rfl) (by kernel_rfl) (by kernel_rfl) (fun _ _ _ h => h) (by rfl) ?y22_23 (by assumption) ?r22_23
              case y22_23 => (intro w hSw; (try dsimp only at hSw); first | (go_simp; done) | (go_simp; with_reducible rfl))
              try simp only [Act.put, List.setIfInBounds_toArray, List.set_cons_zero, List.set_cons_succ]
              refine wpAnyH_takeD (i := 23) (some 70) (v := ?v23_24) rfl rfl (by kernel_rfl) (by kernel_rfl) (by kernel_rfl) (fun _ _ _ h => h) (by rfl) ?y23_24 (by assumption) ?r23_24
              case y23_24 => (intro w hSw; (try dsimp only at hSw); first | (go_simp; done) | (go_simp; with_reducible rfl))
              try simp only [Act.put, List.setIfInBounds_toArray, List.set_cons_zero, List.set_cons_succ]
              refine wpAnyH_takeD (i := 24) (some 71) (v := ?v24_25) rfl rfl (by kernel_rfl) (by kernel_rfl) (by kernel_rfl) (fun _ _ _ h => h) (by rfl) ?y24_25 (by assumption) ?r24_25
              case y24_25 => (intro w hSw; (try dsimp only at hSw); first | (go_simp; done) | (go_simp; with_reducible rfl))
              try simp only [Act.put, List.setIfInBounds_toArray, List.set_cons_zero, List.set_cons_succ]
              refine wpAnyH_skipD (i := 25) (some 72) rfl rfl (by kernel_rfl) (by kernel_rfl) (by kernel_rfl) (fun _ _ _ h => h) (by rfl) (by assumption) ?r25_26
              try simp only [Act.put, List.setIfInBounds_toArray, List.set_cons_zero, List.set_cons_succ]
              refine wpAnyH_skipD (i := 26) (some 73) rfl rfl (by kernel_rfl) (by kernel_rfl) (by kernel_rfl) (fun _ _ _ h => h) (by rfl) (by assumption) ?r26_27
              try simp only [Act.put, List.setIfInBounds_toArray, List.set_cons_zero, List.set_cons_succ]
              refine wpAnyH_skipD (i := 27) (some 74) rfl rfl (by kernel_rfl) (by kernel_rfl) (by kernel_rfl) (fun _ _ _ h => h) (by rfl) (by assumption) ?r27_28
              try simp only [Act.put, List.setIfInBounds_toArray, List.set_cons_zero, List.set_cons_succ]
              refine wpAnyH_skipD (i := 28) (some 75) rfl rfl (by kernel_rfl) (by kernel_rfl) (by kernel_rfl) (fun _ _ _ h => h) (by rfl) (by assumption) ?r28_29
              try simp only [Act.put, List.setIfInBounds_toArray, List.set_cons_zero, List.set_cons_succ]
              refine wpAnyH_skipD (i := 29) (some 76) rfl rfl (by kernel_rfl) (by kernel_rfl) (by kernel_rfl) (fun _ _ _ h => h) (by rfl) (by assumption) ?r29_30
              try simp only [Act.put, List.setIfInBounds_toArray, List.set_cons_zero, List.set_cons_succ]
              refine wpAnyH_skipD (i := 30) (some 77) rfl rfl (by kernel_rfl) (by kernel_rfl) (by kernel_rfl) (fun _ _ _ h => h) (by rfl) (by assumption) ?r30_31
              try simp only [Act.put, List.setIfInBounds_toArray, List.set_cons_zero, List.set_cons_succ]
              refine wpAnyH_skipD (i := 31) (some 78) rfl rfl (by kernel_rfl) (by kernel_rfl) (by kernel_rfl) (fun _ _ _ h => h) (by rfl) (by assumption) ?r31_32
              try simp only [Act.put, List.setIfInBounds_toArray, List.set_cons_zero, List.set_cons_succ]
              refine wpAnyH_skipD (i := 32) (some 79) rfl rfl (by kernel_rfl) (by kernel_rfl) (by kernel_rfl) (fun _ _ _ h => h) (by rfl) (by assumption) ?r32_33
              try simp only [Act.put, List.setIfInBounds_toArray, List.set_cons_zero, List.set_cons_succ]
              refine wpAnyH_skipD (i := 33) (some 80) rfl rfl (by kernel_rfl) (by kernel_rfl) (by kernel_rfl) (fun _ _ _ h => h) (by rfl) (by assumption) ?r33_34
              try simp only [Act.put, List.setIfInBounds_toArray, List.set_cons_zero, List.set_cons_succ]
              refine wpAnyH_skipD (i := 34) (some 81) rfl rfl (by kernel_rfl) (by kernel_rfl) (by kernel_rfl) (fun _ _ _ h => h) (by rfl) (by assumption) ?r34_35
              try simp only [Act.put, List.setIfInBounds_toArray, List.set_cons_zero, List.set_cons_succ]
              refine wpAnyH_takeD (i := 35) (some 82) (v := ?v35_36) rfl rfl (by kernel_rfl) (by kernel_rfl) (by kernel_rfl) (fun _ _ _ h => h) (by rfl) ?y35_36 (by assumption) ?r35_36
              case y35_36 => (intro w hSw; (try dsimp only at hSw); first | (go_simp; done) | (go_simp; with_reducible rfl))
              try simp only [Act.put, List.setIfInBounds_toArray, List.set_cons_zero, List.set_cons_succ]
              refine wpAnyH_takeD (i := 36) (some 83) (v := ?v36_37) rfl rfl (by kernel_rfl) (by kernel_rfl) (by kernel_rfl) (fun _ _ _ h => h) (by rfl) ?y36_37 (by assumption) ?r36_37
              case y36_37 => (intro w hSw; (try dsimp only at hSw); first | (go_simp; done) | (go_simp; with_reducible rfl))
              try simp only [Act.put, List.setIfInBounds_toArray, List.set_cons_zero, List.set_cons_succ]
              refine wpAnyH_takeD (i := 37) (some 84) (v := ?v37_38) rfl rfl (by kernel_rfl) (by kernel_rfl) (by kernel_rfl) (fun _ _ _ h => h) (by rfl) ?y37_38 (by assumption) ?r37_38
              case y37_38 => (intro w hSw; (try dsimp only at hSw); first | (go_simp; done) | (go_simp; with_reducible rfl))
              try simp only [Act.put, List.setIfInBounds_toArray, List.set_cons_zero, List.set_cons_succ]
              refine wpAnyH_takeD (i := 38) (some 85) (v := ?v38_39) rfl rfl (by kernel_rfl) (by kernel_rfl) (by kernel_rfl) (fun _ _ _ h => h) (by rfl) ?y38_39 (by assumption) ?r38_39
              case y38_39 => (intro w hSw; (try dsimp only at hSw); first | (go_simp; done) | (go_simp; with_reducible rfl))
              try simp only [Act.put, List.setIfInBounds_toArray, List.set_cons_zero, List.set_cons_succ]
              refine wpAnyH_takeD (i := 39) (some 86) (v := ?v39_40) rfl rfl (by kernel_rfl) (by kernel_rfl) (by kernel_rfl) (fun _ _ _ h => h) (by rfl) ?y39_40 (by assumption) ?r39_40
              case y39_40 => (intro w hSw; (try dsimp only at hSw); first | (go_simp; done) | (go_simp; with_reducible rfl))
              try simp only [Act.put, List.setIfInBounds_toArray, List.set_cons_zero, List.set_cons_succ]
              refine wpAnyH_takeD (i := 40) (some 87) (v := ?v40_41) rfl rfl (by kernel_rfl) (by kernel_rfl) (by kernel_rfl) (fun _ _ _ h => h) (by rfl) ?y40_41 (by assumption) ?r40_41
              case y40_41 => (intro w hSw; (try dsimp only at hSw); first | (go_simp; done) | (go_simp; with_reducible rfl))
              try simp only [Act.put, List.setIfInBounds_toArray, List.set_cons_zero, List.set_cons_succ]
              refine wpAnyH_takeD (i := 41) (some 88) (v := ?v41_42) rfl rfl (by kernel_rfl) (by kernel_rfl) (by kernel_rfl) (fun _ _ _ h => h) (by rfl) ?y41_42 (by assumption) ?r41_42
              case y41_42 => (intro w hSw; (try dsimp only at hSw); first | (go_simp; done) | (go_simp; with_reducible rfl))
              try simp only [Act.put, List.setIfInBounds_toArray, List.set_cons_zero, List.set_cons_succ]
              refine wpAnyH_takeD (i := 42) (some 89) (v := ?v42_43) rfl rfl (by kernel_rfl) (by kernel_rfl) (by kernel_rfl) (fun _ _ _ h => h) (by rfl) ?y42_43 (by assumption) ?r42_43
              case y42_43 => (intro w hSw; (try dsimp only at hSw); first | (go_simp; done) | (go_simp; with_reducible rfl))
              try simp only [Act.put, List.setIfInBounds_toArray, List.set_cons_zero, List.set_cons_succ]
              refine wpAnyH_takeD (i := 43) (some 90) (v := ?v43_44) rfl rfl (by kernel_rfl) (by kernel_rfl) (by kernel_rfl) (fun _ _ _ h => h) (by rfl) ?y43_44 (by assumption) ?r43_44
              case y43_44 => (intro w hSw; (try dsimp only at hSw); first | (go_simp; done) | (go_simp; with_reducible rfl))
              try simp only [Act.put, List.setIfInBounds_toArray, List.set_cons_zero, List.set_cons_succ]
              refine wpAnyH_takeD (i := 44) (some 91) (v := ?v44_45) rfl rfl (by kernel_rfl) (by kernel_rfl) (by kernel_rfl) (fun _ _ _ h => h) (by rfl) ?y44_45 (by assumption) ?r44_45
              case y44_45 => (intro w hSw; (try dsimp only at hSw); first | (go_simp; done) | (go_simp; with_reducible rfl))
              try simp only [Act.put, List.setIfInBounds_toArray, List.set_cons_zero, List.set_cons_succ]
              refine wpAnyH_takeD (i := 45) (some 92) (v := ?v45_46) rfl rfl (by kernel_rfl) (by kernel_rfl) (by kernel_rfl) (fun _ _ _ h => h) (by rfl) ?y45_46 (by assumption) ?r45_46
              case y45_46 => (intro w hSw; (try dsimp only at hSw); first | (go_simp; done) | (go_simp; with_reducible rfl))
              try simp only [Act.put, List.setIfInBounds_toArray, List.set_cons_zero, List.set_cons_succ]
              refine wpAnyH_takeD (i := 46) (some 93) (v := ?v46_47) rfl rfl (by kernel_rfl) (by kernel_rfl) (by kernel_rfl) (fun _ _ _ h => h) (by rfl) ?y46_47 (by assumption) ?r46_47
              case y46_47 => (intro w hSw; (try dsimp only at hSw); first | (go_simp; done) | (go_simp; with_reducible rfl))
              try simp only [Act.put, List.setIfInBounds_toArray, List.set_cons_zero, List.set_cons_succ]
              refine wpAnyH_takeD (i := 47) (some 94) (v := ?v47_48) rfl rfl (by kernel_rfl) (by kernel_rfl) (by kernel_rfl) (fun _ _ _ h => h) (by rfl) ?y47_48 (by assumption) ?r47_48
              case y47_48 => (intro w hSw; (try dsimp only at hSw); first | (go_simp; done) | (go_simp; with_reducible rfl))
              try simp only [Act.put, List.setIfInBounds_toArray, List.set_cons_zero, List.set_cons_succ]
              refine wpAnyH_takeD (i := 48) (some 95) (v := ?v48_49) rfl rfl (by kernel_rfl) (by kernel_rfl) (by kernel_rfl) (fun _ _ _ h => h) (by rfl) ?y48_49 (by assumption) ?r48_49
              case y48_49 => (intro w hSw; (try dsimp only at hSw); first | (go_simp; done) | (go_simp; with_reducible rfl))
              try simp only [Act.put, List.setIfInBounds_toArray, List.set_cons_zero, List.set_cons_succ]
              refine wpAnyH_takeD (i := 49) (some 96) (v := ?v49_50) rfl rfl (by kernel_rfl) (by kernel_rfl) (by kernel_rfl) (fun _ _ _ h => h) (by rfl) ?y49_50 (by assumption) ?r49_50
              case y49_50 => (intro w hSw; (try dsimp only at hSw); first | (go_simp; done) | (go_simp; with_reducible rfl))
              try simp only [Act.put, List.setIfInBounds_toArray, List.set_cons_zero, List.set_cons_succ]
              refine wpAnyH_takeD (i := 50) (some 97) (v := ?v50_51) rfl rfl (by kernel_rfl) (by kernel_rfl) (by kernel_rfl) (fun _ _ _ h => h) (by rfl) ?y50_51 (by assumption) ?r50_51
              case y50_51 => (intro w hSw; (try dsimp only at hSw); first | (go_simp; done) | (go_simp; with_reducible rfl))
              try simp only [Act.put, List.setIfInBounds_toArray, List.set_cons_zero, List.set_cons_succ]
              refine wpAnyH_takeD (i := 51) (some 98) (v := ?v51_52) rfl rfl (by kernel_rfl) (by kernel_rfl) (by kernel_rfl) (fun _ _ _ h => h) (by rfl) ?y51_52 (by assumption) ?r51_52
              case y51_52 => (intro w hSw; (try dsimp only at hSw); first | (go_simp; done) | (go_simp; with_reducible rfl))
              try simp only [Act.put, List.setIfInBounds_toArray, List.set_cons_zero, List.set_cons_succ]
              refine wpAnyH_takeD (i := 52) (some 99) (v := ?v52_53) rfl rfl (by kernel_rfl) (by kernel_rfl) (by kernel_rfl) (fun _ _ _ h => h) (by rfl) ?y52_53 (by assumption) ?r52_53
              case y52_53 => (intro w hSw; (try dsimp only at hSw); first | (go_simp; done) | (go_simp; with_reducible rfl))
              try simp only [Act.put, List.setIfInBounds_toArray, List.set_cons_zero, List.set_cons_succ]
              refine wpAnyH_takeD (i := 53) (some 100) (v := ?v53_54) rfl rfl (by kernel_rfl) (by kernel_rfl) (by kernel_rfl) (fun _ _ _ h => h) (by rfl) ?y53_54 (by assumption) ?r53_54
              case y53_54 => (intro w hSw; (try dsimp only at hSw); first | (go_simp; done) | (go_simp; with_reducible rfl))
              try simp only [Act.put, List.setIfInBounds_toArray, List.set_cons_zero, List.set_cons_succ]
              refine wpAnyH_takeD (i := 54) (some 101) (v := ?v54_55) rfl rfl (by kernel_rfl) (by kernel_rfl) (by kernel_rfl) (fun _ _ _ h => h) (by rfl) ?y54_55 (by assumption) ?r54_55
              case y54_55 => (intro w hSw; (try dsimp only at hSw); first | (go_simp; done) | (go_simp; with_reducible rfl))
              try simp only [Act.put, List.setIfInBounds_toArray, List.set_cons_zero, List.set_cons_succ]
              refine wpAnyH_takeD (i := 55) (some 102) (v := ?v55_56) rfl rfl (by kernel_rfl) (by kernel_rfl) (by kernel_rfl) (fun _ _ _ h => h) (by rfl) ?y55_56 (by assumption) ?r55_56
              case y55_56 => (intro w hSw; (try dsimp only at hSw); first | (go_simp; done) | (go_simp; with_reducible rfl))
              try simp only [Act.put, List.setIfInBounds_toArray, List.set_cons_zero, List.set_cons_succ]
              refine wpAnyH_takeD (i := 56) (some 103) (v := ?v56_57) rfl rfl (by kernel_rfl) (by kernel_rfl) (by kernel_rfl) (fun _ _ _ h => h) (by rfl) ?y56_57 (by assumption) ?r56_57
              case y56_57 => (intro w hSw; (try dsimp only at hSw); first | (go_simp; done) | (go_simp; with_reducible rfl))
              try simp only [Act.put, List.setIfInBounds_toArray, List.set_cons_zero, List.set_cons_succ]
              refine wpAnyH_ready (rs := [57]) (by kernel_rfl) (by simp) ?_
              refine AllReadyH.cons rfl (fun K hK => ?_) ?_
              · go_simp
                refine hK.out _ _ ?_ (fun hHeld => ?_)
                · exact F.out
                clear hK K
                try simp only [Act.put, List.setIfInBounds_toArray, List.set_cons_zero, List.set_cons_succ]
                refine wpAnyH_done (by kernel_rfl) ?_ _
                go_wp2_with fail
                go_roundw
                case rel => exact ⟨k2 + 1, by omega, by go_num, HSET.out⟩
                case measure => exact meas_step hlt2
              exact AllReadyH.nil
        · have hltE : ¬ (k2 : Int) < E.length := by rw [HEL.out]; omega
          have h8 := H7.out
          rw [List.take_of_length_le (by omega)] at h8
          have HT0 := edgeM_tab (m := k) (by omega) (l := I) HIL.out
          rw [HE2.out] at HT0
          have HT := hide HT0
          have H8 := hide h8
          generalize edgeM k I = M0 at HT H8
          clear h8 H7 HT0
          go_wp2_with fail
          go_loopw [10] (fun i wr => ER3 b (HP.sl strE (.slice b1 (namesL k).length c1) (namesL k) :: HP.sl pairE (.slice b2 E.length c2) E :: L) k g (edgesN (inEdges (namesL k) E)) i wr) (fun i _ => k - (intOf i).toNat)
          case atStart => exact ⟨0, by omega, rfl, M0, HT.out, H8.out⟩
          case round =>
            obtain ⟨q, hq, rfl, M, hM, hs⟩ := hrel
            have H9 := hide hs
            have HM9 := hide hM
            clear hs hM H8 HT
            by_cases hltq : q < k
            · have hltq' : (q : Int) < k := by omega
              have h10 := H9.out
              rw [← stage_start (T := M) (n := k) (k := q)] at h10
              have H10 := hide h10
              clear h10 H9
              go_wp2_with fail
              go_loopw [11] (fun i wr => ER4 b (HP.sl strE (.slice b1 (namesL k).length c1) (namesL k) :: HP.sl pairE (.slice b2 E.length c2) E :: L) k g q M i wr) (fun i _ => k - (intOf i).toNat)
              case atStart => exact ⟨0, by omega, rfl, H10.out⟩
              case round =>
                obtain ⟨i, hi, rfl, hs⟩ := hrel
                have H11 := hide hs
                clear hs H10
                by_cases hlti : i < k
                · have hlti' : (i : Int) < k := by omega
                  go_wp2_with fail
                  go_loopw [12] (fun j wr => ER5 b (HP.sl strE (.slice b1 (namesL k).length c1) (namesL k) :: HP.sl pairE (.slice b2 E.length c2) E :: L) k g q i M j wr) (fun j _ => k - (intOf j).toNat)
                  case atStart => exact ⟨0, by omega, rfl, H11.out⟩
                  case round =>
                    obtain ⟨j, hj, rfl, hs⟩ := hrel
                    have H12 := hide hs
                    clear hs H11
                    by_cases hltj : j < k
                    · have hltj' : (j : Int) < k := by omega
                      obtain ⟨v1, v2, v3⟩ := stage_val (T := M) (n := k) (k := q) (i := i) (j := j)
                      have d1 := (H12.out.drew.mat_cell (i := i) (j := j) (by omega) (by omega)).1
                      have d2 := (H12.out.drew.mat_cell (i := i) (j := q) (by omega) (by omega)).1
                      have d3 := (H12.out.drew.mat_cell (i := q) (j := j) (by omega) (by omega)).1
                      have d4 := (H12.out.drew.mat_cell (i := i) (j := j) (by omega) (by omega)).2
                      rw [v1] at d1
                      rw [v2] at d2
                      rw [v3] at d3
                      have HSET := hide (H12.out.drew.mat_set (i := i) (j := j) (by omega) (by omega) (M i j || (M i q && M q j)))
                      rw [stage_step] at HSET
                      have hi12 : (i : Int) < 12 := by omega
                      have hj12 : (j : Int) < 12 := by omega
                      have hq12 : (q : Int) < 12 := by omega
                      clear v1 v2 v3 H12
                      cases t1 : M i j with
                      | true =>
                        rw [t1] at d1
                        rw [t1, Bool.true_or] at HSET
                        clear t1
                        go_wp2_with fail
                        as_aux_lemma =>
                          go_region
                          go_wp2_with fail
                          go_roundw
                          case rel => exact ⟨j + 1, by omega, by go_num, HSET.out⟩
                          case measure => exact meas_step hltj
                      | false =>
                        cases t2 : M i q with
                        | true =>
                          rw [t1] at d1
                          rw [t2] at d2
                          rw [t1, t2, Bool.true_and, Bool.false_or] at HSET
                          clear t1 t2
                          go_wp2_with fail
                          as_aux_lemma =>
                            go_region
                            go_wp2_with fail
                            go_roundw
                            case rel => exact ⟨j + 1, by omega, by go_num, HSET.out⟩
                            case measure => exact meas_step hltj
                        | false =>
                          rw [t1] at d1
                          rw [t2] at d2
                          rw [t1, t2, Bool.false_and, Bool.false_or] at HSET
                          clear t1 t2
                          go_wp2_with fail
                          as_aux_lemma =>
                            go_region
                            go_wp2_with fail
                            go_roundw
                            case rel => exact ⟨j + 1, by omega, by go_num, HSET.out⟩
                            case measure => exact meas_step hltj
                    · have hjk : j = k := by omega
                      subst hjk
                      have h13 := H12.out
                      rw [stage_row] at h13
                      have H13 := hide h13
                      clear h13 H12
                      go_wp2_with fail
                      go_roundw
                      case rel => exact ⟨i + 1, by omega, by go_num, H13.out⟩
                      case measure => exact meas_step hlti
                · have hik : i = k := by omega
                  subst hik
                  have HT9 := hide (HM9.out.stage hltq)
                  go_wp2_with fail
                  go_roundw
                  case rel => exact ⟨q + 1, by omega, by go_num, _, HT9.out, H11.out⟩
                  case measure => exact meas_step hltq
            · have hqk : q = k := by omega
              subst hqk
              as_aux_lemma =>
                have hNl : (namesL q).length = q := namesL_len q
                have hDN : Hid (∀ i j, i < q → j < q → (M i j && M j i) = eqv (edgesN (inEdges (namesL q) E)) (nmN i) (nmN j)) := hide (fun i j hi hj => tab_done (by omega) HM9.out hi hj)
                have hRG := hide (ringP q HINC.out (edgesN (inEdges (namesL q) E)))
                have q1 : (namesL q).length ≤ 1000 := by omega
                have q2 : E.length ≤ 50000 := by rw [HEL.out]; omega
                have q3 : 8 * q ≤ 140737488355328 := by omega
                have q4 : q ≤ maxLen := by unfold maxLen; omega
                clear hNl
                go_wp2_with (first
                  | (go_at_call 15; refine (gparts_calls H9.out (N := namesL q) (es := E) mem1 mem2 q1 q2).mono ?_; rintro x w10 ⟨v13, S, rfl, hinc, hmem, h10⟩; have hSe := Inc.ext hinc HINC.out hmem; rw [hSe] at h10; generalize partsR (eqv (edgesN (inEdges (namesL q) E))) (namesL q).length (namesL q) = p at h10 hRG; have H10 := hide h10; clear h10 H9 hinc hmem hSe)
                  | (refine wpList_make_st (E := intE) rfl (.tmp 145) (.tmp 145) slInt rfl rfl q rfl rfl rfl rfl 0 (fun _ => ⟨rfl, trivial⟩) H10.out q3 q4 ?_; intro g14 w11 h11; have H11 := hide h11; clear h11 H10))
                go_loopw [15] (fun i wr => ER6 b (HP.sl strE.in v13 p :: HP.mat 34 g M :: HP.sl strE (.slice b1 (namesL q).length c1) (namesL q) :: HP.sl pairE (.slice b2 E.length c2) E :: L) q g14 i wr) (fun i _ => q - (intOf i).toNat)
                case atStart => exact ⟨0, by omega, rfl, _, by simp, fun c hc => by omega, H11.out⟩
                case round =>
                  obtain ⟨k6, hk6, rfl, Z, hZl, hZ, hs⟩ := hrel
                  have H12 := hide hs
                  have HZ := hide hZ
                  clear hs hZ H11
                  by_cases hlt6 : k6 < q
                  · have hlt6' : (k6 : Int) < q := by omega
                    obtain ⟨hcz, _⟩ := H12.out.sc_row_at mem0 (i := k6) (by omega)
                    obtain ⟨hfz, hset⟩ := H12.out.sc_row_set (i := k6) (by omega)
                    have H13 := hide (hset (-1) trivial)
                    clear hset
                    go_wp2_with fail
                    go_roundw
                    case rel => exact ⟨k6 + 1, by omega, by go_num, Z.set k6 (-1), by simp [hZl], fun c hc => by
                      by_cases hck : c = k6
                      · subst hck; rw [List.getElem?_set]; simp; omega
                      · rw [List.getElem?_set, if_neg (fun e => hck e.symm)]; exact HZ.out c (by omega), H13.out⟩
                    case measure => exact meas_step hlt6
                  · have hZe : Z = List.replicate q (-1) := by
                      apply List.ext_getElem?
                      intro c
                      rw [List.getElem?_replicate]
                      by_cases hc : c < q
                      · rw [if_pos hc]; exact HZ.out c (by omega)
                      · rw [if_neg hc, List.getElem?_eq_none (by omega)]
                    have HI0 := hide (inP_start p q)
                    rw [← hZe] at HI0
                    clear hZe HZ
                    obtain ⟨b13, c13, hv13, hp1, hp2⟩ := H12.out.sl_form mem1
                    have hpl : (p.length : Int) ≤ 9223372036854775807 := by unfold maxLen at hp2; omega
                    clear hp1 hp2
                    subst hv13
                    go_wp2_with fail
                    go_loopw [16] (fun i wr => ER7 b (HP.sl strE.in (.slice b13 p.length c13) p :: HP.mat 34 g M :: HP.sl strE (.slice b1 (namesL q).length c1) (namesL q) :: HP.sl pairE (.slice b2 E.length c2) E :: L) p q g14 i wr) (fun i _ => p.length - (intOf i).toNat)
                    case atStart => exact ⟨0, by omega, rfl, Z, HI0.out, H12.out⟩
                    case round =>
                      obtain ⟨i7, hi7, rfl, Z7, hI7, hs⟩ := hrel
                      have H14 := hide hs
                      have HI7 := hide hI7
                      clear hs hI7 H12 HI0
                      by_cases hlt7 : i7 < p.length
                      · have hlt7' : (i7 : Int) < p.length := by omega
                        obtain ⟨gp, op, hgp⟩ := H14.out.sl_base mem1 (by omega) Nat.one_pos
                        subst hgp
                        obtain ⟨vP, h15⟩ := H14.out.in_elem mem1 hlt7
                        obtain ⟨P, hP⟩ : ∃ P, p[i7] = P := ⟨_, rfl⟩
                        have hP' : p[i7]? = some P := by rw [List.getElem?_eq_getElem hlt7, hP]
                        rw [hP] at h15
                        obtain ⟨bP, cP, hvP, hP1, hP2⟩ := h15.sl_form mem0
                        have hPl : (P.length : Int) ≤ 9223372036854775807 := by unfold maxLen at hP2; omega
                        subst hvP
                        have HP' := hide hP'
                        have hpos := hRG.out.pos P (List.mem_of_getElem? hP')
                        have hcP := h15.in_cell mem1
                        have H15 := hide h15.f2
                        clear hP1 hP2 hP hP' h15 H14
                        go_wp2_with fail
                        go_loopw [17] (fun i wr => ER8 b (HP.sl strE (.slice bP P.length cP) P :: HP.elem strE.in gp (op + i7) P [.slice bP P.length cP] :: HP.sl strE.in (.slice (some ⟨gp, op, none⟩) p.length c13) p :: HP.mat 34 g M :: HP.sl strE (.slice b1 (namesL q).length c1) (namesL q) :: HP.sl pairE (.slice b2 E.length c2) E :: L) p P q g14 i7 i wr) (fun i _ => P.length - (intOf i).toNat)
                        case atStart => exact ⟨0, by omega, rfl, Z7, HI7.out, H15.out⟩
                        case round =>
                          obtain ⟨k8, hk8, rfl, Z8, hI8, hs⟩ := hrel
                          have H16 := hide hs
                          have HI8 := hide hI8
                          clear hs hI8 H15 HI7
                          have hcP := H16.out.in_cell mem2
                          by_cases hlt8 : k8 < P.length
                          · have hlt8' : (k8 : Int) < P.length := by omega
                            obtain ⟨gs, os, hgs⟩ := H16.out.sl_base mem1 hpos Nat.one_pos
                            subst hgs
                            obtain ⟨hcs, _⟩ := H16.out.sc_at mem1 hlt8
                            have hPm := List.mem_of_getElem? HP'.out
                            obtain ⟨c, hcq, hxc⟩ := hRG.out.sub P hPm P[k8] (List.getElem_mem hlt8)
                            have hfr := hRG.out.fresh (by omega) HI8.out HP'.out hlt8 hcq hxc
                            have hst := hide (HI8.out.step (by omega) HP'.out hlt8 hcq hxc)
                            have hzl := HI8.out.len
                            obtain ⟨hz, _⟩ := H16.out.sc_row_at mem0 (i := c) (by omega)
                            obtain ⟨hfz, hset⟩ := H16.out.sc_row_set (i := c) (by omega)
                            have H17 := hide (hset (i7 : Int) trivial)
                            rw [show Z8[c]'(by omega) = (-1 : Int) by rw [List.getElem?_eq_getElem (by omega)] at hfr; simpa using hfr] at hz
                            have n1 := nmN_byte (i := c) (by omega)
                            rw [hxc] at hcs
                            simp only [nmN, nameS] at hcs
                            obtain ⟨nc, hnc⟩ : ∃ x, nameB (c : Int) = x := ⟨_, rfl⟩
                            rw [hnc] at hcs n1
                            have u1 : IntKind.u8.wrap ((nc.toNat : Int) - 97) = (c : Int) := by rw [n1, show (97 + (c : Int)) - 97 = c by omega]; exact wrap_byte (by omega) (by omega)
                            have u2 : IntKind.i64.wrap (c : Int) = (c : Int) := wrap_small (by omega) (by omega)
                            have hb0 : ∀ (x : UInt8) (h : 0 < (⟨#[x]⟩ : ByteArray).size), (⟨#[x]⟩ : ByteArray)[0]'h = x := fun _ _ => rfl
                            have e1 : decide ((nc.toNat : Int) < 97) = false := by simp; omega
                            have hcq' : (c : Int) < q := by omega
                            have hcq2 : ¬ (q : Int) ≤ c := by omega
                            have hc0 : (0 : Int) ≤ c := by omega
                            clear hset hfr n1 hPm
                            cases k8 with
                            | zero =>
                              simp only [Nat.add_zero] at hcs
                              clear H16 hnc hxc
                              go_wp2_with fail
                              go_roundw
                              case rel => exact ⟨1, by omega, by go_num, _, hst.out, H17.out⟩
                              case measure => exact meas_step hlt8
                            | succ k8 =>
                              obtain ⟨hcs2, _⟩ := H16.out.sc_at mem1 (i := k8) (by omega)
                              have hpr := hRG.out.prev HP'.out hlt8
                              rw [hxc] at hpr
                              simp only [nmN, nameS, hnc] at hpr
                              obtain ⟨y, hy⟩ : ∃ y, P[k8] = y := ⟨_, rfl⟩
                              rw [hy] at hcs2 hpr
                              have u3 : IntKind.i64.wrap (((k8 + 1 : Nat) : Int) - 1) = (k8 : Int) := by rw [show (((k8 + 1 : Nat) : Int) - 1) = k8 by omega]; exact wrap_small (by omega) (by omega)
                              have hk8 : (k8 : Int) < P.length := by omega
                              have hk80 : (0 : Int) < (k8 + 1 : Nat) := by omega
                              clear H16 hnc hxc hy
                              go_wp2_with fail
                              go_roundw
                              case rel => exact ⟨k8 + 2, by omega, by go_num, _, hst.out, H17.out⟩
                              case measure => exact meas_step hlt8
                          · have hk8e : k8 = P.length := by omega
                            have hst := hide (HI8.out.row HP'.out hk8e)
                            have H17 := hide H16.out.d1.d1
                            have hk8n : ¬ ((k8 : Int) < P.length) := by omega
                            have hpz : ((P.length : Int) == 0) = false := by rw [beq_eq_false_iff_ne]; omega
                            clear HI8
                            cases i7 with
                            | zero =>
                              simp only [Nat.add_zero] at hcP
                              clear H16
                              go_wp2_with fail
                              as_aux_lemma =>
                                refine wp_region_held_drew (S := fun w' => w'.cell? ⟨gp, op, none⟩ = some (.slice bP P.length cP)) (by kernel_rfl) ?_ (fun hHeld => ?_)
                                · exact hcP
                                refine wpAnyH_takeD (i := 0) (some 224) (v := ?v0_172) rfl rfl (by kernel_rfl) (by kernel_rfl) (by kernel_rfl) (fun _ _ _ h => h) (by rfl) ?y0_172 (by assumption) ?r0_172
                                case y0_172 => (intro w hSw; (try dsimp only at hSw); first | (go_simp; done) | (go_simp; with_reducible rfl))
                                try simp only [Act.put, List.setIfInBounds_toArray, List.set_cons_zero, List.set_cons_succ]
                                refine wpAnyH_takeD (i := 1) (some 225) (v := ?v1_173) rfl rfl (by kernel_rfl) (by kernel_rfl) (by kernel_rfl) (fun _ _ _ h => h) (by rfl) ?y1_173 (by assumption) ?r1_173
                                case y1_173 => (intro w hSw; (try dsimp only at hSw); first | (go_simp; done) | (go_simp; with_reducible rfl))
                                try simp only [Act.put, List.setIfInBounds_toArray, List.set_cons_zero, List.set_cons_succ]
                                refine wpAnyH_takeD (i := 2) (some 226) (v := ?v2_174) rfl rfl (by kernel_rfl) (by kernel_rfl) (by kernel_rfl) (fun _ _ _ h => h) (by rfl) ?y2_174 (by assumption) ?r2_174
                                case y2_174 => (intro w hSw; (try dsimp only at hSw); first | (go_simp; done) | (go_simp; with_reducible rfl))
                                try simp only [Act.put, List.setIfInBounds_toArray, List.set_cons_zero, List.set_cons_succ]
                                refine wpAnyH_takeD (i := 3) (some 227) (v := ?v3_175) rfl rfl (by kernel_rfl) (by kernel_rfl) (by kernel_rfl) (fun _ _ _ h => h) (by rfl) ?y3_175 (by assumption) ?r3_175
                                case y3_175 => (intro w hSw; (try dsimp only at hSw); first | (go_simp; done) | (go_simp; with_reducible rfl))
                                try simp only [Act.put, List.setIfInBounds_toArray, List.set_cons_zero, List.set_cons_succ]
                                refine wpAnyH_takeD (i := 4) (some 228) (v := ?v4_176) rfl rfl (by kernel_rfl) (by kernel_rfl) (by kernel_rfl) (fun _ _ _ h => h) (by rfl) ?y4_176 (by assumption) ?r4_176
                                case y4_176 => (intro w hSw; (try dsimp only at hSw); first | (go_simp; done) | (go_simp; with_reducible rfl))
                                try simp only [Act.put, List.setIfInBounds_toArray, List.set_cons_zero, List.set_cons_succ]
                                refine wpAnyH_takeD (i := 5) (some 229) (v := ?v5_177) rfl rfl (by kernel_rfl) (by kernel_rfl) (by kernel_rfl) (fun _ _ _ h => h) (by rfl) ?y5_177 (by assumption) ?r5_177
                                case y5_177 => (intro w hSw; (try dsimp only at hSw); first | (go_simp; done) | (go_simp; with_reducible rfl))
                                try simp only [Act.put, List.setIfInBounds_toArray, List.set_cons_zero, List.set_cons_succ]
                                refine wpAnyH_takeD (i := 6) (some 230) (v := ?v6_178) rfl rfl (by kernel_rfl) (by kernel_rfl) (by kernel_rfl) (fun _ _ _ h => h) (by rfl) ?y6_178 (by assumption) ?r6_178
                                case y6_178 => (intro w hSw; (try dsimp only at hSw); first | (go_simp; done) | (go_simp; with_reducible rfl))
                                try simp only [Act.put, List.setIfInBounds_toArray, List.set_cons_zero, List.set_cons_succ]
                                refine wpAnyH_takeD (i := 7) (some 231) (v := ?v7_179) rfl rfl (by kernel_rfl) (by kernel_rfl) (by kernel_rfl) (fun _ _ _ h => h) (by rfl) ?y7_179 (by assumption) ?r7_179
                                case y7_179 => (intro w hSw; (try dsimp only at hSw); first | (go_simp; done) | (go_simp; with_reducible rfl))
                                try simp only [Act.put, List.setIfInBounds_toArray, List.set_cons_zero, List.set_cons_succ]
                                refine wpAnyH_takeD (i := 8) (some 232) (v := ?v8_180) rfl rfl (by kernel_rfl) (by kernel_rfl) (by kernel_rfl) (fun _ _ _ h => h) (by rfl) ?y8_180 (by assumption) ?r8_180
                                case y8_180 => (intro w hSw; (try dsimp only at hSw); first | (go_simp; done) | (go_simp; with_reducible rfl))
                                try simp only [Act.put, List.setIfInBounds_toArray, List.set_cons_zero, List.set_cons_succ]
                                refine wpAnyH_takeD (i := 9) (some 233) (v := ?v9_181) rfl rfl (by kernel_rfl) (by kernel_rfl) (by kernel_rfl) (fun _ _ _ h => h) (by rfl) ?y9_181 (by assumption) ?r9_181
                                case y9_181 => (intro w hSw; (try dsimp only at hSw); first | (go_simp; done) | (go_simp; with_reducible rfl))
                                try simp only [Act.put, List.setIfInBounds_toArray, List.set_cons_zero, List.set_cons_succ]
                                refine wpAnyH_skipD (i := 10) (some 234) rfl rfl (by kernel_rfl) (by kernel_rfl) (by kernel_rfl) (fun _ _ _ h => h) (by rfl) (by assumption) ?r10_182
                                try simp only [Act.put, List.setIfInBounds_toArray, List.set_cons_zero, List.set_cons_succ]
                                refine wpAnyH_skipD (i := 11) (some 235) rfl rfl (by kernel_rfl) (by kernel_rfl) (by kernel_rfl) (fun _ _ _ h => h) (by rfl) (by assumption) ?r11_183
                                try simp only [Act.put, List.setIfInBounds_toArray, List.set_cons_zero, List.set_cons_succ]
                                refine wpAnyH_skipD (i := 12) (some 236) rfl rfl (by kernel_rfl) (by kernel_rfl) (by kernel_rfl) (fun _ _ _ h => h) (by rfl) (by assumption) ?r12_184
                                try simp only [Act.put, List.setIfInBounds_toArray, List.set_cons_zero, List.set_cons_succ]
                                refine wpAnyH_skipD (i := 13) (some 237) rfl rfl (by kernel_rfl) (by kernel_rfl) (by kernel_rfl) (fun _ _ _ h => h) (by rfl) (by assumption) ?r13_185
                                try simp only [Act.put, List.setIfInBounds_toArray, List.set_cons_zero, List.set_cons_succ]
                                refine wpAnyH_skipD (i := 14) (some 238) rfl rfl (by kernel_rfl) (by kernel_rfl) (by kernel_rfl) (fun _ _ _ h => h) (by rfl) (by assumption) ?r14_186
                                try simp only [Act.put, List.setIfInBounds_toArray, List.set_cons_zero, List.set_cons_succ]
                                refine wpAnyH_skipD (i := 15) (some 239) rfl rfl (by kernel_rfl) (by kernel_rfl) (by kernel_rfl) (fun _ _ _ h => h) (by rfl) (by assumption) ?r15_187
                                try simp only [Act.put, List.setIfInBounds_toArray, List.set_cons_zero, List.set_cons_succ]
                                refine wpAnyH_skipD (i := 16) (some 240) rfl rfl (by kernel_rfl) (by kernel_rfl) (by kernel_rfl) (fun _ _ _ h => h) (by rfl) (by assumption) ?r16_188
                                try simp only [Act.put, List.setIfInBounds_toArray, List.set_cons_zero, List.set_cons_succ]
                                refine wpAnyH_skipD (i := 17) (some 241) rfl rfl (by kernel_rfl) (by kernel_rfl) (by kernel_rfl) (fun _ _ _ h => h) (by rfl) (by assumption) ?r17_189
                                try simp only [Act.put, List.setIfInBounds_toArray, List.set_cons_zero, List.set_cons_succ]
                                refine wpAnyH_skipD (i := 18) (some 242) rfl rfl (by kernel_rfl) (by kernel_rfl) (by kernel_rfl) (fun _ _ _ h => h) (by rfl) (by assumption) ?r18_190
                                try simp only [Act.put, List.setIfInBounds_toArray, List.set_cons_zero, List.set_cons_succ]
                                refine wpAnyH_skipD (i := 19) (some 243) rfl rfl (by kernel_rfl) (by kernel_rfl) (by kernel_rfl) (fun _ _ _ h => h) (by rfl) (by assumption) ?r19_191
                                try simp only [Act.put, List.setIfInBounds_toArray, List.set_cons_zero, List.set_cons_succ]
                                refine wpAnyH_skipD (i := 20) (some 244) rfl rfl (by kernel_rfl) (by kernel_rfl) (by kernel_rfl) (fun _ _ _ h => h) (by rfl) (by assumption) ?r20_192
                                try simp only [Act.put, List.setIfInBounds_toArray, List.set_cons_zero, List.set_cons_succ]
                                refine wpAnyH_skipD (i := 21) (some 245) rfl rfl (by kernel_rfl) (by kernel_rfl) (by kernel_rfl) (fun _ _ _ h => h) (by rfl) (by assumption) ?r21_193
                                try simp only [Act.put, List.setIfInBounds_toArray, List.set_cons_zero, List.set_cons_succ]
                                refine wpAnyH_skipD (i := 22) (some 246) rfl rfl (by kernel_rfl) (by kernel_rfl) (by kernel_rfl) (fun _ _ _ h => h) (by rfl) (by assumption) ?r22_194
                                try simp only [Act.put, List.setIfInBounds_toArray, List.set_cons_zero, List.set_cons_succ]
                                refine wpAnyH_skipD (i := 23) (some 247) rfl rfl (by kernel_rfl) (by kernel_rfl) (by kernel_rfl) (fun _ _ _ h => h) (by rfl) (by assumption) ?r23_195
                                try simp only [Act.put, List.setIfInBounds_toArray, List.set_cons_zero, List.set_cons_succ]
                                refine wpAnyH_takeD (i := 24) (some 248) (v := ?v24_196) rfl rfl (by kernel_rfl) (by kernel_rfl) (by kernel_rfl) (fun _ _ _ h => h) (by rfl) ?y24_196 (by assumption) ?r24_196
                                case y24_196 => (intro w hSw; (try dsimp only at hSw); first | (go_simp; done) | (go_simp; with_reducible rfl))
                                try simp only [Act.put, List.setIfInBounds_toArray, List.set_cons_zero, List.set_cons_succ]
                                refine wpAnyH_takeD (i := 25) (some 249) (v := ?v25_197) rfl rfl (by kernel_rfl) (by kernel_rfl) (by kernel_rfl) (fun _ _ _ h => h) (by rfl) ?y25_197 (by assumption) ?r25_197
                                case y25_197 => (intro w hSw; (try dsimp only at hSw); first | (go_simp; done) | (go_simp; with_reducible rfl))
                                try simp only [Act.put, List.setIfInBounds_toArray, List.set_cons_zero, List.set_cons_succ]
                                refine wpAnyH_done (by kernel_rfl) ?_ _
                            
                                go_wp2_with fail
                                go_roundw
                                case rel => exact ⟨1, by omega, by go_num, _, hst.out, H17.out.drew⟩
                                case measure => exact meas_step hlt7
                            | succ i7 =>
                              have hi7 : i7 < p.length := by omega
                              obtain ⟨vR, h18⟩ := H16.out.in_elem mem3 hi7
                              obtain ⟨R, hR⟩ : ∃ R, p[i7] = R := ⟨_, rfl⟩
                              have hR' : p[i7]? = some R := by rw [List.getElem?_eq_getElem hi7, hR]
                              rw [hR] at h18
                              obtain ⟨bR, cR, hvR, _, _⟩ := h18.sl_form mem0
                              subst hvR
                              have hRpos := hRG.out.pos R (List.mem_of_getElem? hR')
                              obtain ⟨gR, oR, hgR⟩ := h18.sl_base mem0 hRpos Nat.one_pos
                              subst hgR
                              obtain ⟨gS, oS, hgS⟩ := H16.out.sl_base mem1 hpos Nat.one_pos
                              subst hgS
                              have hcR := h18.in_cell mem1
                              have hcr0 := (h18.sc_at mem0 hRpos).1
                              have hcp0 := (H16.out.sc_at mem1 hpos).1
                              have hhd := hRG.out.heads i7 (i7 + 1) R P R[0] P[0] (by omega) hR' HP'.out (List.getElem?_eq_getElem hRpos) (List.getElem?_eq_getElem hpos)
                              obtain ⟨x0, hx0⟩ : ∃ x, R[0] = x := ⟨_, rfl⟩
                              obtain ⟨y0, hy0⟩ : ∃ x, P[0] = x := ⟨_, rfl⟩
                              rw [hx0] at hcr0 hhd
                              rw [hy0] at hcp0 hhd
                              simp only [Nat.add_zero] at hcr0 hcp0
                              have u3 : IntKind.i64.wrap (((i7 + 1 : Nat) : Int) - 1) = (i7 : Int) := by rw [show (((i7 + 1 : Nat) : Int) - 1) = i7 by omega]; exact wrap_small (by omega) (by omega)
                              have u4 : IntKind.i64.wrap (i7 : Int) = (i7 : Int) := wrap_small (by omega) (by omega)
                              have hi7' : (i7 : Int) < p.length := by omega
                              have hi7a : (0 : Int) ≤ (i7 : Int) + 1 := by omega
                              have hi7b : (i7 : Int) + 1 < p.length := by omega
                              have hi7c : (0 : Int) < (i7 : Int) + 1 := by omega
                              have hi70 : (0 : Int) < (i7 + 1 : Nat) := by omega
                              have hposI : (0 : Int) < P.length := by omega
                              have hRposI : (0 : Int) < R.length := by omega
                              clear H16 hR hR' h18 hx0 hy0
                              go_wp2_with fail
                              as_aux_lemma =>
                                refine wp_region_held_drew (S := fun w' => w'.cell? ⟨gp, op + (i7 + 1), none⟩ = some (.slice (some ⟨gS, oS, none⟩) P.length cP) ∧ w'.cell? ⟨gp, op + i7, none⟩ = some (.slice (some ⟨gR, oR, none⟩) R.length cR) ∧ w'.cell? ⟨gS, oS, none⟩ = some (.string ⟨y0.toArray⟩) ∧ w'.cell? ⟨gR, oR, none⟩ = some (.string ⟨x0.toArray⟩)) (by kernel_rfl) ?_ (fun hHeld => ?_)
                                · exact ⟨hcP, hcR, hcp0, hcr0⟩
                                refine wpAnyH_takeD (i := 0) (some 224) (v := ?v0_198) rfl rfl (by kernel_rfl) (by kernel_rfl) (by kernel_rfl) (fun _ _ _ h => h) (by rfl) ?y0_198 (by assumption) ?r0_198
                                case y0_198 => (intro w hSw; (try dsimp only at hSw); first | (go_simp; done) | (go_simp; with_reducible rfl))
                                try simp only [Act.put, List.setIfInBounds_toArray, List.set_cons_zero, List.set_cons_succ]
                                refine wpAnyH_takeD (i := 1) (some 225) (v := ?v1_199) rfl rfl (by kernel_rfl) (by kernel_rfl) (by kernel_rfl) (fun _ _ _ h => h) (by rfl) ?y1_199 (by assumption) ?r1_199
                                case y1_199 => (intro w hSw; (try dsimp only at hSw); first | (go_simp; done) | (go_simp; with_reducible rfl))
                                try simp only [Act.put, List.setIfInBounds_toArray, List.set_cons_zero, List.set_cons_succ]
                                refine wpAnyH_takeD (i := 2) (some 226) (v := ?v2_200) rfl rfl (by kernel_rfl) (by kernel_rfl) (by kernel_rfl) (fun _ _ _ h => h) (by rfl) ?y2_200 (by assumption) ?r2_200
                                case y2_200 => (intro w hSw; (try dsimp only at hSw); first | (go_simp; done) | (go_simp; with_reducible rfl))
                                try simp only [Act.put, List.setIfInBounds_toArray, List.set_cons_zero, List.set_cons_succ]
                                refine wpAnyH_takeD (i := 3) (some 227) (v := ?v3_201) rfl rfl (by kernel_rfl) (by kernel_rfl) (by kernel_rfl) (fun _ _ _ h => h) (by rfl) ?y3_201 (by assumption) ?r3_201
                                case y3_201 => (intro w hSw; (try dsimp only at hSw); first | (go_simp; done) | (go_simp; with_reducible rfl))
                                try simp only [Act.put, List.setIfInBounds_toArray, List.set_cons_zero, List.set_cons_succ]
                                refine wpAnyH_takeD (i := 4) (some 228) (v := ?v4_202) rfl rfl (by kernel_rfl) (by kernel_rfl) (by kernel_rfl) (fun _ _ _ h => h) (by rfl) ?y4_202 (by assumption) ?r4_202
                                case y4_202 => (intro w hSw; (try dsimp only at hSw); first | (go_simp; done) | (go_simp; with_reducible rfl))
                                try simp only [Act.put, List.setIfInBounds_toArray, List.set_cons_zero, List.set_cons_succ]
                                refine wpAnyH_takeD (i := 5) (some 229) (v := ?v5_203) rfl rfl (by kernel_rfl) (by kernel_rfl) (by kernel_rfl) (fun _ _ _ h => h) (by rfl) ?y5_203 (by assumption) ?r5_203
                                case y5_203 => (intro w hSw; (try dsimp only at hSw); first | (go_simp; done) | (go_simp; with_reducible rfl))
                                try simp only [Act.put, List.setIfInBounds_toArray, List.set_cons_zero, List.set_cons_succ]
                                refine wpAnyH_takeD (i := 6) (some 230) (v := ?v6_204) rfl rfl (by kernel_rfl) (by kernel_rfl) (by kernel_rfl) (fun _ _ _ h => h) (by rfl) ?y6_204 (by assumption) ?r6_204
                                case y6_204 => (intro w hSw; (try dsimp only at hSw); first | (go_simp; done) | (go_simp; with_reducible rfl))
                                try simp only [Act.put, List.setIfInBounds_toArray, List.set_cons_zero, List.set_cons_succ]
                                refine wpAnyH_takeD (i := 7) (some 231) (v := ?v7_205) rfl rfl (by kernel_rfl) (by kernel_rfl) (by kernel_rfl) (fun _ _ _ h => h) (by rfl) ?y7_205 (by assumption) ?r7_205
                                case y7_205 => (intro w hSw; (try dsimp only at hSw); first | (go_simp; done) | (go_simp; with_reducible rfl))
                                try simp only [Act.put, List.setIfInBounds_toArray, List.set_cons_zero, List.set_cons_succ]
                                refine wpAnyH_takeD (i := 8) (some 232) (v := ?v8_206) rfl rfl (by kernel_rfl) (by kernel_rfl) (by kernel_rfl) (fun _ _ _ h => h) (by rfl) ?y8_206 (by assumption) ?r8_206
                                case y8_206 => (intro w hSw; (try dsimp only at hSw); first | (go_simp; done) | (go_simp; with_reducible rfl))
                                try simp only [Act.put, List.setIfInBounds_toArray, List.set_cons_zero, List.set_cons_succ]
                                refine wpAnyH_takeD (i := 9) (some 233) (v := ?v9_207) rfl rfl (by kernel_rfl) (by kernel_rfl) (by kernel_rfl) (fun _ _ _ h => h) (by rfl) ?y9_207 (by assumption) ?r9_207
                                case y9_207 => (intro w hSw; (try dsimp only at hSw); first | (go_simp; done) | (go_simp; with_reducible rfl))
                                try simp only [Act.put, List.setIfInBounds_toArray, List.set_cons_zero, List.set_cons_succ]
                                refine wpAnyH_takeD (i := 10) (some 234) (v := ?v10_208) rfl rfl (by kernel_rfl) (by kernel_rfl) (by kernel_rfl) (fun _ _ _ h => h) (by rfl) ?y10_208 (by assumption) ?r10_208
                                case y10_208 => (intro w hSw; (try dsimp only at hSw); first | (go_simp; done) | (go_simp; with_reducible rfl))
                                try simp only [Act.put, List.setIfInBounds_toArray, List.set_cons_zero, List.set_cons_succ]
                                refine wpAnyH_takeD (i := 11) (some 235) (v := ?v11_209) rfl rfl (by kernel_rfl) (by kernel_rfl) (by kernel_rfl) (fun _ _ _ h => h) (by rfl) ?y11_209 (by assumption) ?r11_209
                                case y11_209 => (intro w hSw; (try dsimp only at hSw); first | (go_simp; done) | (go_simp; with_reducible rfl))
                                try simp only [Act.put, List.setIfInBounds_toArray, List.set_cons_zero, List.set_cons_succ]
                                refine wpAnyH_takeD (i := 12) (some 236) (v := ?v12_210) rfl rfl (by kernel_rfl) (by kernel_rfl) (by kernel_rfl) (fun _ _ _ h => h) (by rfl) ?y12_210 (by assumption) ?r12_210
                                case y12_210 => (intro w hSw; (try dsimp only at hSw); first | (go_simp; done) | (go_simp; with_reducible rfl))
                                try simp only [Act.put, List.setIfInBounds_toArray, List.set_cons_zero, List.set_cons_succ]
                                refine wpAnyH_takeD (i := 13) (some 237) (v := ?v13_211) rfl rfl (by kernel_rfl) (by kernel_rfl) (by kernel_rfl) (fun _ _ _ h => h) (by rfl) ?y13_211 (by assumption) ?r13_211
                                case y13_211 => (intro w hSw; (try dsimp only at hSw); first | (go_simp; done) | (go_simp; with_reducible rfl))
                                try simp only [Act.put, List.setIfInBounds_toArray, List.set_cons_zero, List.set_cons_succ]
                                refine wpAnyH_takeD (i := 14) (some 238) (v := ?v14_212) rfl rfl (by kernel_rfl) (by kernel_rfl) (by kernel_rfl) (fun _ _ _ h => h) (by rfl) ?y14_212 (by assumption) ?r14_212
                                case y14_212 => (intro w hSw; (try dsimp only at hSw); first | (go_simp; done) | (go_simp; with_reducible rfl))
                                try simp only [Act.put, List.setIfInBounds_toArray, List.set_cons_zero, List.set_cons_succ]
                                refine wpAnyH_takeD (i := 15) (some 239) (v := ?v15_213) rfl rfl (by kernel_rfl) (by kernel_rfl) (by kernel_rfl) (fun _ _ _ h => h) (by rfl) ?y15_213 (by assumption) ?r15_213
                                case y15_213 => (intro w hSw; (try dsimp only at hSw); first | (go_simp; done) | (go_simp; with_reducible rfl))
                                try simp only [Act.put, List.setIfInBounds_toArray, List.set_cons_zero, List.set_cons_succ]
                                refine wpAnyH_takeD (i := 16) (some 240) (v := ?v16_214) rfl rfl (by kernel_rfl) (by kernel_rfl) (by kernel_rfl) (fun _ _ _ h => h) (by rfl) ?y16_214 (by assumption) ?r16_214
                                case y16_214 => (intro w hSw; (try dsimp only at hSw); first | (go_simp; done) | (go_simp; with_reducible rfl))
                                try simp only [Act.put, List.setIfInBounds_toArray, List.set_cons_zero, List.set_cons_succ]
                                refine wpAnyH_takeD (i := 17) (some 241) (v := ?v17_215) rfl rfl (by kernel_rfl) (by kernel_rfl) (by kernel_rfl) (fun _ _ _ h => h) (by rfl) ?y17_215 (by assumption) ?r17_215
                                case y17_215 => (intro w hSw; (try dsimp only at hSw); first | (go_simp; done) | (go_simp; with_reducible rfl))
                                try simp only [Act.put, List.setIfInBounds_toArray, List.set_cons_zero, List.set_cons_succ]
                                refine wpAnyH_takeD (i := 18) (some 242) (v := ?v18_216) rfl rfl (by kernel_rfl) (by kernel_rfl) (by kernel_rfl) (fun _ _ _ h => h) (by rfl) ?y18_216 (by assumption) ?r18_216
                                case y18_216 => (intro w hSw; (try dsimp only at hSw); first | (go_simp; done) | (go_simp; with_reducible rfl))
                                try simp only [Act.put, List.setIfInBounds_toArray, List.set_cons_zero, List.set_cons_succ]
                                refine wpAnyH_takeD (i := 19) (some 243) (v := ?v19_217) rfl rfl (by kernel_rfl) (by kernel_rfl) (by kernel_rfl) (fun _ _ _ h => h) (by rfl) ?y19_217 (by assumption) ?r19_217
                                case y19_217 => (intro w hSw; (try dsimp only at hSw); first | (go_simp; done) | (go_simp; with_reducible rfl))
                                try simp only [Act.put, List.setIfInBounds_toArray, List.set_cons_zero, List.set_cons_succ]
                                refine wpAnyH_takeD (i := 20) (some 244) (v := ?v20_218) rfl rfl (by kernel_rfl) (by kernel_rfl) (by kernel_rfl) (fun _ _ _ h => h) (by rfl) ?y20_218 (by assumption) ?r20_218
                                case y20_218 => (intro w hSw; (try dsimp only at hSw); first | (go_simp; done) | (go_simp; with_reducible rfl))
                                try simp only [Act.put, List.setIfInBounds_toArray, List.set_cons_zero, List.set_cons_succ]
                                refine wpAnyH_takeD (i := 21) (some 245) (v := ?v21_219) rfl rfl (by kernel_rfl) (by kernel_rfl) (by kernel_rfl) (fun _ _ _ h => h) (by rfl) ?y21_219 (by assumption) ?r21_219
                                case y21_219 => (intro w hSw; (try dsimp only at hSw); first | (go_simp; done) | (go_simp; with_reducible rfl))
                                try simp only [Act.put, List.setIfInBounds_toArray, List.set_cons_zero, List.set_cons_succ]
                                refine wpAnyH_takeD (i := 22) (some 246) (v := ?v22_220) rfl rfl (by kernel_rfl) (by kernel_rfl) (by kernel_rfl) (fun _ _ _ h => h) (by rfl) ?y22_220 (by assumption) ?r22_220
                                case y22_220 => (intro w hSw; (try dsimp only at hSw); first | (go_simp; done) | (go_simp; with_reducible rfl))
                                try simp only [Act.put, List.setIfInBounds_toArray, List.set_cons_zero, List.set_cons_succ]
                                refine wpAnyH_takeD (i := 23) (some 247) (v := ?v23_221) rfl rfl (by kernel_rfl) (by kernel_rfl) (by kernel_rfl) (fun _ _ _ h => h) (by rfl) ?y23_221 (by assumption) ?r23_221
                                case y23_221 => (intro w hSw; (try dsimp only at hSw); first | (go_simp; done) | (go_simp; with_reducible rfl))
                                try simp only [Act.put, List.setIfInBounds_toArray, List.set_cons_zero, List.set_cons_succ]
                                refine wpAnyH_takeD (i := 24) (some 248) (v := ?v24_222) rfl rfl (by kernel_rfl) (by kernel_rfl) (by kernel_rfl) (fun _ _ _ h => h) (by rfl) ?y24_222 (by assumption) ?r24_222
                                case y24_222 => (intro w hSw; (try dsimp only at hSw); first | (go_simp; done) | (go_simp; with_reducible rfl))
                                try simp only [Act.put, List.setIfInBounds_toArray, List.set_cons_zero, List.set_cons_succ]
                                refine wpAnyH_takeD (i := 25) (some 249) (v := ?v25_223) rfl rfl (by kernel_rfl) (by kernel_rfl) (by kernel_rfl) (fun _ _ _ h => h) (by rfl) ?y25_223 (by assumption) ?r25_223
                                case y25_223 => (intro w hSw; (try dsimp only at hSw); first | (go_simp; done) | (go_simp; with_reducible rfl))
                                try simp only [Act.put, List.setIfInBounds_toArray, List.set_cons_zero, List.set_cons_succ]
                                refine wpAnyH_done (by kernel_rfl) ?_ _
                            
                                go_wp2_with fail
                                go_roundw
                                case rel => exact ⟨i7 + 2, by omega, by go_num, _, hst.out, H17.out.drew⟩
                                case measure => exact meas_step hlt7
                      · have hi7e : i7 = p.length := by omega
                        subst hi7e
                        have hLS := hide (fun c d hc hd => hRG.out.last HI7.out (c := c) (d := d) hc hd)
                        have hzl := HI7.out.len
                        clear HI7
                        go_wp2_with fail
                        go_loopw [19] (fun i w' => ER9 wr q i w') (fun i _ => q - (intOf i).toNat)
                        case atStart => exact ⟨0, 0, by omega, rfl, rfl⟩
                        case round =>
                          obtain ⟨i9, n9, hi9, rfl, rfl⟩ := hrel
                          by_cases hlt9 : i9 < q
                          · have hlt9' : (i9 : Int) < q := by omega
                            go_wp2_with fail
                            go_loopw [20] (fun i w' => ER9 wr q i w') (fun i _ => q - (intOf i).toNat)
                            case atStart => exact ⟨0, _, by omega, rfl, rfl⟩
                            case round =>
                              obtain ⟨j9, m9, hj9, rfl, rfl⟩ := hrel
                              by_cases hltj9 : j9 < q
                              · have hltj9' : (j9 : Int) < q := by omega
                                obtain ⟨a, a', ha, ha', haa⟩ := hLS.out i9 j9 hlt9 hltj9
                                have hz1 := (H14.out.sc_row_at mem0 (i := i9) (by omega)).1
                                have hz2 := (H14.out.sc_row_at mem0 (i := j9) (by omega)).1
                                rw [show Z7[i9]'(by omega) = (a : Int) by rw [List.getElem?_eq_getElem (by omega)] at ha; simpa using ha] at hz1
                                rw [show Z7[j9]'(by omega) = (a' : Int) by rw [List.getElem?_eq_getElem (by omega)] at ha'; simpa using ha'] at hz2
                                rw [← hDN.out i9 j9 hlt9 hltj9] at haa
                                have d1 := (H14.out.mat_cell2 (i := i9) (j := j9) (by omega) (by omega))
                                have d2 := (H14.out.mat_cell2 (i := j9) (j := i9) (by omega) (by omega))
                                have hi12 : (i9 : Int) < 12 := by omega
                                have hj12 : (j9 : Int) < 12 := by omega
                                clear ha ha'
                                cases t1 : M i9 j9 with
                                | true =>
                                  cases t2 : M j9 i9 with
                                  | true =>
                                    have hE9 : ((a : Int) == (a' : Int)) = true := by rw [beq_iff_eq]; have := haa.2 (by rw [t1, t2]; rfl); omega
                                    rw [t1] at d1
                                    rw [t2] at d2
                                    clear haa t1 t2
                                    go_wp2_with fail
                                    as_aux_lemma =>
                                      refine wp_region_held_drew (S := fun w' => w'.cell? ⟨g14, i9, none⟩ = some (.int .i64 (a : Int)) ∧ w'.cell? ⟨g14, j9, none⟩ = some (.int .i64 (a' : Int)) ∧ w'.cell? ⟨g, i9 * 12 + j9, none⟩ = some (.bool true) ∧ w'.cell? ⟨g, j9 * 12 + i9, none⟩ = some (.bool true)) (by kernel_rfl) ?_ (fun hHeld => ?_)
                                      · exact ⟨hz1, hz2, d1, d2⟩
                                      refine wpAnyH_takeD (i := 0) (some 260) (v := ?v0_224) rfl rfl (by kernel_rfl) (by kernel_rfl) (by kernel_rfl) (fun _ _ _ h => h) (by rfl) ?y0_224 (by assumption) ?r0_224
                                      case y0_224 => (intro w hSw; (try dsimp only at hSw); first | (go_simp; done) | (go_simp; with_reducible rfl))
                                      try simp only [Act.put, List.setIfInBounds_toArray, List.set_cons_zero, List.set_cons_succ]
                                      refine wpAnyH_takeD (i := 1) (some 261) (v := ?v1_225) rfl rfl (by kernel_rfl) (by kernel_rfl) (by kernel_rfl) (fun _ _ _ h => h) (by rfl) ?y1_225 (by assumption) ?r1_225
                                      case y1_225 => (intro w hSw; (try dsimp only at hSw); first | (go_simp; done) | (go_simp; with_reducible rfl))
                                      try simp only [Act.put, List.setIfInBounds_toArray, List.set_cons_zero, List.set_cons_succ]
                                      refine wpAnyH_takeD (i := 2) (some 262) (v := ?v2_226) rfl rfl (by kernel_rfl) (by kernel_rfl) (by kernel_rfl) (fun _ _ _ h => h) (by rfl) ?y2_226 (by assumption) ?r2_226
                                      case y2_226 => (intro w hSw; (try dsimp only at hSw); first | (go_simp; done) | (go_simp; with_reducible rfl))
                                      try simp only [Act.put, List.setIfInBounds_toArray, List.set_cons_zero, List.set_cons_succ]
                                      refine wpAnyH_takeD (i := 3) (some 263) (v := ?v3_227) rfl rfl (by kernel_rfl) (by kernel_rfl) (by kernel_rfl) (fun _ _ _ h => h) (by rfl) ?y3_227 (by assumption) ?r3_227
                                      case y3_227 => (intro w hSw; (try dsimp only at hSw); first | (go_simp; done) | (go_simp; with_reducible rfl))
                                      try simp only [Act.put, List.setIfInBounds_toArray, List.set_cons_zero, List.set_cons_succ]
                                      refine wpAnyH_takeD (i := 4) (some 264) (v := ?v4_228) rfl rfl (by kernel_rfl) (by kernel_rfl) (by kernel_rfl) (fun _ _ _ h => h) (by rfl) ?y4_228 (by assumption) ?r4_228
                                      case y4_228 => (intro w hSw; (try dsimp only at hSw); first | (go_simp; done) | (go_simp; with_reducible rfl))
                                      try simp only [Act.put, List.setIfInBounds_toArray, List.set_cons_zero, List.set_cons_succ]
                                      refine wpAnyH_takeD (i := 5) (some 265) (v := ?v5_229) rfl rfl (by kernel_rfl) (by kernel_rfl) (by kernel_rfl) (fun _ _ _ h => h) (by rfl) ?y5_229 (by assumption) ?r5_229
                                      case y5_229 => (intro w hSw; (try dsimp only at hSw); first | (go_simp; done) | (go_simp; with_reducible rfl))
                                      try simp only [Act.put, List.setIfInBounds_toArray, List.set_cons_zero, List.set_cons_succ]
                                      refine wpAnyH_takeD (i := 6) (some 266) (v := ?v6_230) rfl rfl (by kernel_rfl) (by kernel_rfl) (by kernel_rfl) (fun _ _ _ h => h) (by rfl) ?y6_230 (by assumption) ?r6_230
                                      case y6_230 => (intro w hSw; (try dsimp only at hSw); first | (go_simp; done) | (go_simp; with_reducible rfl))
                                      try simp only [Act.put, List.setIfInBounds_toArray, List.set_cons_zero, List.set_cons_succ]
                                      refine wpAnyH_takeD (i := 7) (some 267) (v := ?v7_231) rfl rfl (by kernel_rfl) (by kernel_rfl) (by kernel_rfl) (fun _ _ _ h => h) (by rfl) ?y7_231 (by assumption) ?r7_231
                                      case y7_231 => (intro w hSw; (try dsimp only at hSw); first | (go_simp; done) | (go_simp; with_reducible rfl))
                                      try simp only [Act.put, List.setIfInBounds_toArray, List.set_cons_zero, List.set_cons_succ]
                                      refine wpAnyH_takeD (i := 8) (some 268) (v := ?v8_232) rfl rfl (by kernel_rfl) (by kernel_rfl) (by kernel_rfl) (fun _ _ _ h => h) (by rfl) ?y8_232 (by assumption) ?r8_232
                                      case y8_232 => (intro w hSw; (try dsimp only at hSw); first | (go_simp; done) | (go_simp; with_reducible rfl))
                                      try simp only [Act.put, List.setIfInBounds_toArray, List.set_cons_zero, List.set_cons_succ]
                                      refine wpAnyH_takeD (i := 9) (some 269) (v := ?v9_233) rfl rfl (by kernel_rfl) (by kernel_rfl) (by kernel_rfl) (fun _ _ _ h => h) (by rfl) ?y9_233 (by assumption) ?r9_233
                                      case y9_233 => (intro w hSw; (try dsimp only at hSw); first | (go_simp; done) | (go_simp; with_reducible rfl))
                                      try simp only [Act.put, List.setIfInBounds_toArray, List.set_cons_zero, List.set_cons_succ]
                                      refine wpAnyH_takeD (i := 10) (some 270) (v := ?v10_234) rfl rfl (by kernel_rfl) (by kernel_rfl) (by kernel_rfl) (fun _ _ _ h => h) (by rfl) ?y10_234 (by assumption) ?r10_234
                                      case y10_234 => (intro w hSw; (try dsimp only at hSw); first | (go_simp; done) | (go_simp; with_reducible rfl))
                                      try simp only [Act.put, List.setIfInBounds_toArray, List.set_cons_zero, List.set_cons_succ]
                                      refine wpAnyH_takeD (i := 11) (some 271) (v := ?v11_235) rfl rfl (by kernel_rfl) (by kernel_rfl) (by kernel_rfl) (fun _ _ _ h => h) (by rfl) ?y11_235 (by assumption) ?r11_235
                                      case y11_235 => (intro w hSw; (try dsimp only at hSw); first | (go_simp; done) | (go_simp; with_reducible rfl))
                                      try simp only [Act.put, List.setIfInBounds_toArray, List.set_cons_zero, List.set_cons_succ]
                                      refine wpAnyH_takeD (i := 12) (some 272) (v := ?v12_236) rfl rfl (by kernel_rfl) (by kernel_rfl) (by kernel_rfl) (fun _ _ _ h => h) (by rfl) ?y12_236 (by assumption) ?r12_236
                                      case y12_236 => (intro w hSw; (try dsimp only at hSw); first | (go_simp; done) | (go_simp; with_reducible rfl))
                                      try simp only [Act.put, List.setIfInBounds_toArray, List.set_cons_zero, List.set_cons_succ]
                                      refine wpAnyH_takeD (i := 13) (some 273) (v := ?v13_237) rfl rfl (by kernel_rfl) (by kernel_rfl) (by kernel_rfl) (fun _ _ _ h => h) (by rfl) ?y13_237 (by assumption) ?r13_237
                                      case y13_237 => (intro w hSw; (try dsimp only at hSw); first | (go_simp; done) | (go_simp; with_reducible rfl))
                                      try simp only [Act.put, List.setIfInBounds_toArray, List.set_cons_zero, List.set_cons_succ]
                                      refine wpAnyH_takeD (i := 14) (some 274) (v := ?v14_238) rfl rfl (by kernel_rfl) (by kernel_rfl) (by kernel_rfl) (fun _ _ _ h => h) (by rfl) ?y14_238 (by assumption) ?r14_238
                                      case y14_238 => (intro w hSw; (try dsimp only at hSw); first | (go_simp; done) | (go_simp; with_reducible rfl))
                                      try simp only [Act.put, List.setIfInBounds_toArray, List.set_cons_zero, List.set_cons_succ]
                                      refine wpAnyH_takeD (i := 15) (some 275) (v := ?v15_239) rfl rfl (by kernel_rfl) (by kernel_rfl) (by kernel_rfl) (fun _ _ _ h => h) (by rfl) ?y15_239 (by assumption) ?r15_239
                                      case y15_239 => (intro w hSw; (try dsimp only at hSw); first | (go_simp; done) | (go_simp; with_reducible rfl))
                                      try simp only [Act.put, List.setIfInBounds_toArray, List.set_cons_zero, List.set_cons_succ]
                                      refine wpAnyH_takeD (i := 16) (some 276) (v := ?v16_240) rfl rfl (by kernel_rfl) (by kernel_rfl) (by kernel_rfl) (fun _ _ _ h => h) (by rfl) ?y16_240 (by assumption) ?r16_240
                                      case y16_240 => (intro w hSw; (try dsimp only at hSw); first | (go_simp; done) | (go_simp; with_reducible rfl))
                                      try simp only [Act.put, List.setIfInBounds_toArray, List.set_cons_zero, List.set_cons_succ]
                                      refine wpAnyH_takeD (i := 17) (some 277) (v := ?v17_241) rfl rfl (by kernel_rfl) (by kernel_rfl) (by kernel_rfl) (fun _ _ _ h => h) (by rfl) ?y17_241 (by assumption) ?r17_241
                                      case y17_241 => (intro w hSw; (try dsimp only at hSw); first | (go_simp; done) | (go_simp; with_reducible rfl))
                                      try simp only [Act.put, List.setIfInBounds_toArray, List.set_cons_zero, List.set_cons_succ]
                                      refine wpAnyH_takeD (i := 18) (some 278) (v := ?v18_242) rfl rfl (by kernel_rfl) (by kernel_rfl) (by kernel_rfl) (fun _ _ _ h => h) (by rfl) ?y18_242 (by assumption) ?r18_242
                                      case y18_242 => (intro w hSw; (try dsimp only at hSw); first | (go_simp; done) | (go_simp; with_reducible rfl))
                                      try simp only [Act.put, List.setIfInBounds_toArray, List.set_cons_zero, List.set_cons_succ]
                                      refine wpAnyH_takeD (i := 19) (some 279) (v := ?v19_243) rfl rfl (by kernel_rfl) (by kernel_rfl) (by kernel_rfl) (fun _ _ _ h => h) (by rfl) ?y19_243 (by assumption) ?r19_243
                                      case y19_243 => (intro w hSw; (try dsimp only at hSw); first | (go_simp; done) | (go_simp; with_reducible rfl))
                                      try simp only [Act.put, List.setIfInBounds_toArray, List.set_cons_zero, List.set_cons_succ]
                                      refine wpAnyH_takeD (i := 20) (some 280) (v := ?v20_244) rfl rfl (by kernel_rfl) (by kernel_rfl) (by kernel_rfl) (fun _ _ _ h => h) (by rfl) ?y20_244 (by assumption) ?r20_244
                                      case y20_244 => (intro w hSw; (try dsimp only at hSw); first | (go_simp; done) | (go_simp; with_reducible rfl))
                                      try simp only [Act.put, List.setIfInBounds_toArray, List.set_cons_zero, List.set_cons_succ]
                                      refine wpAnyH_takeD (i := 21) (some 281) (v := ?v21_245) rfl rfl (by kernel_rfl) (by kernel_rfl) (by kernel_rfl) (fun _ _ _ h => h) (by rfl) ?y21_245 (by assumption) ?r21_245
                                      case y21_245 => (intro w hSw; (try dsimp only at hSw); first | (go_simp; done) | (go_simp; with_reducible rfl))
                                      try simp only [Act.put, List.setIfInBounds_toArray, List.set_cons_zero, List.set_cons_succ]
                                      refine wpAnyH_takeD (i := 22) (some 282) (v := ?v22_246) rfl rfl (by kernel_rfl) (by kernel_rfl) (by kernel_rfl) (fun _ _ _ h => h) (by rfl) ?y22_246 (by assumption) ?r22_246
                                      case y22_246 => (intro w hSw; (try dsimp only at hSw); first | (go_simp; done) | (go_simp; with_reducible rfl))
                                      try simp only [Act.put, List.setIfInBounds_toArray, List.set_cons_zero, List.set_cons_succ]
                                      refine wpAnyH_takeD (i := 23) (some 283) (v := ?v23_247) rfl rfl (by kernel_rfl) (by kernel_rfl) (by kernel_rfl) (fun _ _ _ h => h) (by rfl) ?y23_247 (by assumption) ?r23_247
                                      case y23_247 => (intro w hSw; (try dsimp only at hSw); first | (go_simp; done) | (go_simp; with_reducible rfl))
                                      try simp only [Act.put, List.setIfInBounds_toArray, List.set_cons_zero, List.set_cons_succ]
                                      refine wpAnyH_takeD (i := 24) (some 284) (v := ?v24_248) rfl rfl (by kernel_rfl) (by kernel_rfl) (by kernel_rfl) (fun _ _ _ h => h) (by rfl) ?y24_248 (by assumption) ?r24_248
                                      case y24_248 => (intro w hSw; (try dsimp only at hSw); first | (go_simp; done) | (go_simp; with_reducible rfl))
                                      try simp only [Act.put, List.setIfInBounds_toArray, List.set_cons_zero, List.set_cons_succ]
                                      refine wpAnyH_takeD (i := 25) (some 285) (v := ?v25_249) rfl rfl (by kernel_rfl) (by kernel_rfl) (by kernel_rfl) (fun _ _ _ h => h) (by rfl) ?y25_249 (by assumption) ?r25_249
                                      case y25_249 => (intro w hSw; (try dsimp only at hSw); first | (go_simp; done) | (go_simp; with_reducible rfl))
                                      try simp only [Act.put, List.setIfInBounds_toArray, List.set_cons_zero, List.set_cons_succ]
                                      refine wpAnyH_takeD (i := 26) (some 286) (v := ?v26_250) rfl rfl (by kernel_rfl) (by kernel_rfl) (by kernel_rfl) (fun _ _ _ h => h) (by rfl) ?y26_250 (by assumption) ?r26_250
                                      case y26_250 => (intro w hSw; (try dsimp only at hSw); first | (go_simp; done) | (go_simp; with_reducible rfl))
                                      try simp only [Act.put, List.setIfInBounds_toArray, List.set_cons_zero, List.set_cons_succ]
                                      refine wpAnyH_takeD (i := 27) (some 287) (v := ?v27_251) rfl rfl (by kernel_rfl) (by kernel_rfl) (by kernel_rfl) (fun _ _ _ h => h) (by rfl) ?y27_251 (by assumption) ?r27_251
                                      case y27_251 => (intro w hSw; (try dsimp only at hSw); first | (go_simp; done) | (go_simp; with_reducible rfl))
                                      try simp only [Act.put, List.setIfInBounds_toArray, List.set_cons_zero, List.set_cons_succ]
                                      refine wpAnyH_takeD (i := 28) (some 288) (v := ?v28_252) rfl rfl (by kernel_rfl) (by kernel_rfl) (by kernel_rfl) (fun _ _ _ h => h) (by rfl) ?y28_252 (by assumption) ?r28_252
                                      case y28_252 => (intro w hSw; (try dsimp only at hSw); first | (go_simp; done) | (go_simp; with_reducible rfl))
                                      try simp only [Act.put, List.setIfInBounds_toArray, List.set_cons_zero, List.set_cons_succ]
                                      refine wpAnyH_done (by kernel_rfl) ?_ _
                                  
                                      go_wp2_with fail
                                      go_roundw
                                      case rel => exact ⟨j9 + 1, m9 + 1, by omega, by go_num, rfl⟩
                                      case measure => exact meas_step hltj9
                                  | false =>
                                    have hE9 : ((a : Int) == (a' : Int)) = false := by rw [beq_eq_false_iff_ne]; intro e; have := haa.1 (by omega); rw [t1, t2] at this; cases this
                                    rw [t1] at d1
                                    rw [t2] at d2
                                    clear haa t1 t2
                                    go_wp2_with fail
                                    as_aux_lemma =>
                                      refine wp_region_held_drew (S := fun w' => w'.cell? ⟨g14, i9, none⟩ = some (.int .i64 (a : Int)) ∧ w'.cell? ⟨g14, j9, none⟩ = some (.int .i64 (a' : Int)) ∧ w'.cell? ⟨g, i9 * 12 + j9, none⟩ = some (.bool true) ∧ w'.cell? ⟨g, j9 * 12 + i9, none⟩ = some (.bool false)) (by kernel_rfl) ?_ (fun hHeld => ?_)
                                      · exact ⟨hz1, hz2, d1, d2⟩
                                      refine wpAnyH_takeD (i := 0) (some 260) (v := ?v0_253) rfl rfl (by kernel_rfl) (by kernel_rfl) (by kernel_rfl) (fun _ _ _ h => h) (by rfl) ?y0_253 (by assumption) ?r0_253
                                      case y0_253 => (intro w hSw; (try dsimp only at hSw); first | (go_simp; done) | (go_simp; with_reducible rfl))
                                      try simp only [Act.put, List.setIfInBounds_toArray, List.set_cons_zero, List.set_cons_succ]
                                      refine wpAnyH_takeD (i := 1) (some 261) (v := ?v1_254) rfl rfl (by kernel_rfl) (by kernel_rfl) (by kernel_rfl) (fun _ _ _ h => h) (by rfl) ?y1_254 (by assumption) ?r1_254
                                      case y1_254 => (intro w hSw; (try dsimp only at hSw); first | (go_simp; done) | (go_simp; with_reducible rfl))
                                      try simp only [Act.put, List.setIfInBounds_toArray, List.set_cons_zero, List.set_cons_succ]
                                      refine wpAnyH_takeD (i := 2) (some 262) (v := ?v2_255) rfl rfl (by kernel_rfl) (by kernel_rfl) (by kernel_rfl) (fun _ _ _ h => h) (by rfl) ?y2_255 (by assumption) ?r2_255
                                      case y2_255 => (intro w hSw; (try dsimp only at hSw); first | (go_simp; done) | (go_simp; with_reducible rfl))
                                      try simp only [Act.put, List.setIfInBounds_toArray, List.set_cons_zero, List.set_cons_succ]
                                      refine wpAnyH_takeD (i := 3) (some 263) (v := ?v3_256) rfl rfl (by kernel_rfl) (by kernel_rfl) (by kernel_rfl) (fun _ _ _ h => h) (by rfl) ?y3_256 (by assumption) ?r3_256
                                      case y3_256 => (intro w hSw; (try dsimp only at hSw); first | (go_simp; done) | (go_simp; with_reducible rfl))
                                      try simp only [Act.put, List.setIfInBounds_toArray, List.set_cons_zero, List.set_cons_succ]
                                      refine wpAnyH_takeD (i := 4) (some 264) (v := ?v4_257) rfl rfl (by kernel_rfl) (by kernel_rfl) (by kernel_rfl) (fun _ _ _ h => h) (by rfl) ?y4_257 (by assumption) ?r4_257
                                      case y4_257 => (intro w hSw; (try dsimp only at hSw); first | (go_simp; done) | (go_simp; with_reducible rfl))
                                      try simp only [Act.put, List.setIfInBounds_toArray, List.set_cons_zero, List.set_cons_succ]
                                      refine wpAnyH_takeD (i := 5) (some 265) (v := ?v5_258) rfl rfl (by kernel_rfl) (by kernel_rfl) (by kernel_rfl) (fun _ _ _ h => h) (by rfl) ?y5_258 (by assumption) ?r5_258
                                      case y5_258 => (intro w hSw; (try dsimp only at hSw); first | (go_simp; done) | (go_simp; with_reducible rfl))
                                      try simp only [Act.put, List.setIfInBounds_toArray, List.set_cons_zero, List.set_cons_succ]
                                      refine wpAnyH_takeD (i := 6) (some 266) (v := ?v6_259) rfl rfl (by kernel_rfl) (by kernel_rfl) (by kernel_rfl) (fun _ _ _ h => h) (by rfl) ?y6_259 (by assumption) ?r6_259
                                      case y6_259 => (intro w hSw; (try dsimp only at hSw); first | (go_simp; done) | (go_simp; with_reducible rfl))
                                      try simp only [Act.put, List.setIfInBounds_toArray, List.set_cons_zero, List.set_cons_succ]
                                      refine wpAnyH_takeD (i := 7) (some 267) (v := ?v7_260) rfl rfl (by kernel_rfl) (by kernel_rfl) (by kernel_rfl) (fun _ _ _ h => h) (by rfl) ?y7_260 (by assumption) ?r7_260
                                      case y7_260 => (intro w hSw; (try dsimp only at hSw); first | (go_simp; done) | (go_simp; with_reducible rfl))
                                      try simp only [Act.put, List.setIfInBounds_toArray, List.set_cons_zero, List.set_cons_succ]
                                      refine wpAnyH_takeD (i := 8) (some 268) (v := ?v8_261) rfl rfl (by kernel_rfl) (by kernel_rfl) (by kernel_rfl) (fun _ _ _ h => h) (by rfl) ?y8_261 (by assumption) ?r8_261
                                      case y8_261 => (intro w hSw; (try dsimp only at hSw); first | (go_simp; done) | (go_simp; with_reducible rfl))
                                      try simp only [Act.put, List.setIfInBounds_toArray, List.set_cons_zero, List.set_cons_succ]
                                      refine wpAnyH_takeD (i := 9) (some 269) (v := ?v9_262) rfl rfl (by kernel_rfl) (by kernel_rfl) (by kernel_rfl) (fun _ _ _ h => h) (by rfl) ?y9_262 (by assumption) ?r9_262
                                      case y9_262 => (intro w hSw; (try dsimp only at hSw); first | (go_simp; done) | (go_simp; with_reducible rfl))
                                      try simp only [Act.put, List.setIfInBounds_toArray, List.set_cons_zero, List.set_cons_succ]
                                      refine wpAnyH_takeD (i := 10) (some 270) (v := ?v10_263) rfl rfl (by kernel_rfl) (by kernel_rfl) (by kernel_rfl) (fun _ _ _ h => h) (by rfl) ?y10_263 (by assumption) ?r10_263
                                      case y10_263 => (intro w hSw; (try dsimp only at hSw); first | (go_simp; done) | (go_simp; with_reducible rfl))
                                      try simp only [Act.put, List.setIfInBounds_toArray, List.set_cons_zero, List.set_cons_succ]
                                      refine wpAnyH_takeD (i := 11) (some 271) (v := ?v11_264) rfl rfl (by kernel_rfl) (by kernel_rfl) (by kernel_rfl) (fun _ _ _ h => h) (by rfl) ?y11_264 (by assumption) ?r11_264
                                      case y11_264 => (intro w hSw; (try dsimp only at hSw); first | (go_simp; done) | (go_simp; with_reducible rfl))
                                      try simp only [Act.put, List.setIfInBounds_toArray, List.set_cons_zero, List.set_cons_succ]
                                      refine wpAnyH_takeD (i := 12) (some 272) (v := ?v12_265) rfl rfl (by kernel_rfl) (by kernel_rfl) (by kernel_rfl) (fun _ _ _ h => h) (by rfl) ?y12_265 (by assumption) ?r12_265
                                      case y12_265 => (intro w hSw; (try dsimp only at hSw); first | (go_simp; done) | (go_simp; with_reducible rfl))
                                      try simp only [Act.put, List.setIfInBounds_toArray, List.set_cons_zero, List.set_cons_succ]
                                      refine wpAnyH_takeD (i := 13) (some 273) (v := ?v13_266) rfl rfl (by kernel_rfl) (by kernel_rfl) (by kernel_rfl) (fun _ _ _ h => h) (by rfl) ?y13_266 (by assumption) ?r13_266
                                      case y13_266 => (intro w hSw; (try dsimp only at hSw); first | (go_simp; done) | (go_simp; with_reducible rfl))
                                      try simp only [Act.put, List.setIfInBounds_toArray, List.set_cons_zero, List.set_cons_succ]
                                      refine wpAnyH_takeD (i := 14) (some 274) (v := ?v14_267) rfl rfl (by kernel_rfl) (by kernel_rfl) (by kernel_rfl) (fun _ _ _ h => h) (by rfl) ?y14_267 (by assumption) ?r14_267
                                      case y14_267 => (intro w hSw; (try dsimp only at hSw); first | (go_simp; done) | (go_simp; with_reducible rfl))
                                      try simp only [Act.put, List.setIfInBounds_toArray, List.set_cons_zero, List.set_cons_succ]
                                      refine wpAnyH_takeD (i := 15) (some 275) (v := ?v15_268) rfl rfl (by kernel_rfl) (by kernel_rfl) (by kernel_rfl) (fun _ _ _ h => h) (by rfl) ?y15_268 (by assumption) ?r15_268
                                      case y15_268 => (intro w hSw; (try dsimp only at hSw); first | (go_simp; done) | (go_simp; with_reducible rfl))
                                      try simp only [Act.put, List.setIfInBounds_toArray, List.set_cons_zero, List.set_cons_succ]
                                      refine wpAnyH_takeD (i := 16) (some 276) (v := ?v16_269) rfl rfl (by kernel_rfl) (by kernel_rfl) (by kernel_rfl) (fun _ _ _ h => h) (by rfl) ?y16_269 (by assumption) ?r16_269
                                      case y16_269 => (intro w hSw; (try dsimp only at hSw); first | (go_simp; done) | (go_simp; with_reducible rfl))
                                      try simp only [Act.put, List.setIfInBounds_toArray, List.set_cons_zero, List.set_cons_succ]
                                      refine wpAnyH_takeD (i := 17) (some 277) (v := ?v17_270) rfl rfl (by kernel_rfl) (by kernel_rfl) (by kernel_rfl) (fun _ _ _ h => h) (by rfl) ?y17_270 (by assumption) ?r17_270
                                      case y17_270 => (intro w hSw; (try dsimp only at hSw); first | (go_simp; done) | (go_simp; with_reducible rfl))
                                      try simp only [Act.put, List.setIfInBounds_toArray, List.set_cons_zero, List.set_cons_succ]
                                      refine wpAnyH_takeD (i := 18) (some 278) (v := ?v18_271) rfl rfl (by kernel_rfl) (by kernel_rfl) (by kernel_rfl) (fun _ _ _ h => h) (by rfl) ?y18_271 (by assumption) ?r18_271
                                      case y18_271 => (intro w hSw; (try dsimp only at hSw); first | (go_simp; done) | (go_simp; with_reducible rfl))
                                      try simp only [Act.put, List.setIfInBounds_toArray, List.set_cons_zero, List.set_cons_succ]
                                      refine wpAnyH_takeD (i := 19) (some 279) (v := ?v19_272) rfl rfl (by kernel_rfl) (by kernel_rfl) (by kernel_rfl) (fun _ _ _ h => h) (by rfl) ?y19_272 (by assumption) ?r19_272
                                      case y19_272 => (intro w hSw; (try dsimp only at hSw); first | (go_simp; done) | (go_simp; with_reducible rfl))
                                      try simp only [Act.put, List.setIfInBounds_toArray, List.set_cons_zero, List.set_cons_succ]
                                      refine wpAnyH_takeD (i := 20) (some 280) (v := ?v20_273) rfl rfl (by kernel_rfl) (by kernel_rfl) (by kernel_rfl) (fun _ _ _ h => h) (by rfl) ?y20_273 (by assumption) ?r20_273
                                      case y20_273 => (intro w hSw; (try dsimp only at hSw); first | (go_simp; done) | (go_simp; with_reducible rfl))
                                      try simp only [Act.put, List.setIfInBounds_toArray, List.set_cons_zero, List.set_cons_succ]
                                      refine wpAnyH_takeD (i := 21) (some 281) (v := ?v21_274) rfl rfl (by kernel_rfl) (by kernel_rfl) (by kernel_rfl) (fun _ _ _ h => h) (by rfl) ?y21_274 (by assumption) ?r21_274
                                      case y21_274 => (intro w hSw; (try dsimp only at hSw); first | (go_simp; done) | (go_simp; with_reducible rfl))
                                      try simp only [Act.put, List.setIfInBounds_toArray, List.set_cons_zero, List.set_cons_succ]
                                      refine wpAnyH_takeD (i := 22) (some 282) (v := ?v22_275) rfl rfl (by kernel_rfl) (by kernel_rfl) (by kernel_rfl) (fun _ _ _ h => h) (by rfl) ?y22_275 (by assumption) ?r22_275
                                      case y22_275 => (intro w hSw; (try dsimp only at hSw); first | (go_simp; done) | (go_simp; with_reducible rfl))
                                      try simp only [Act.put, List.setIfInBounds_toArray, List.set_cons_zero, List.set_cons_succ]
                                      refine wpAnyH_takeD (i := 23) (some 283) (v := ?v23_276) rfl rfl (by kernel_rfl) (by kernel_rfl) (by kernel_rfl) (fun _ _ _ h => h) (by rfl) ?y23_276 (by assumption) ?r23_276
                                      case y23_276 => (intro w hSw; (try dsimp only at hSw); first | (go_simp; done) | (go_simp; with_reducible rfl))
                                      try simp only [Act.put, List.setIfInBounds_toArray, List.set_cons_zero, List.set_cons_succ]
                                      refine wpAnyH_takeD (i := 24) (some 284) (v := ?v24_277) rfl rfl (by kernel_rfl) (by kernel_rfl) (by kernel_rfl) (fun _ _ _ h => h) (by rfl) ?y24_277 (by assumption) ?r24_277
                                      case y24_277 => (intro w hSw; (try dsimp only at hSw); first | (go_simp; done) | (go_simp; with_reducible rfl))
                                      try simp only [Act.put, List.setIfInBounds_toArray, List.set_cons_zero, List.set_cons_succ]
                                      refine wpAnyH_takeD (i := 25) (some 285) (v := ?v25_278) rfl rfl (by kernel_rfl) (by kernel_rfl) (by kernel_rfl) (fun _ _ _ h => h) (by rfl) ?y25_278 (by assumption) ?r25_278
                                      case y25_278 => (intro w hSw; (try dsimp only at hSw); first | (go_simp; done) | (go_simp; with_reducible rfl))
                                      try simp only [Act.put, List.setIfInBounds_toArray, List.set_cons_zero, List.set_cons_succ]
                                      refine wpAnyH_takeD (i := 26) (some 286) (v := ?v26_279) rfl rfl (by kernel_rfl) (by kernel_rfl) (by kernel_rfl) (fun _ _ _ h => h) (by rfl) ?y26_279 (by assumption) ?r26_279
                                      case y26_279 => (intro w hSw; (try dsimp only at hSw); first | (go_simp; done) | (go_simp; with_reducible rfl))
                                      try simp only [Act.put, List.setIfInBounds_toArray, List.set_cons_zero, List.set_cons_succ]
                                      refine wpAnyH_takeD (i := 27) (some 287) (v := ?v27_280) rfl rfl (by kernel_rfl) (by kernel_rfl) (by kernel_rfl) (fun _ _ _ h => h) (by rfl) ?y27_280 (by assumption) ?r27_280
                                      case y27_280 => (intro w hSw; (try dsimp only at hSw); first | (go_simp; done) | (go_simp; with_reducible rfl))
                                      try simp only [Act.put, List.setIfInBounds_toArray, List.set_cons_zero, List.set_cons_succ]
                                      refine wpAnyH_takeD (i := 28) (some 288) (v := ?v28_281) rfl rfl (by kernel_rfl) (by kernel_rfl) (by kernel_rfl) (fun _ _ _ h => h) (by rfl) ?y28_281 (by assumption) ?r28_281
                                      case y28_281 => (intro w hSw; (try dsimp only at hSw); first | (go_simp; done) | (go_simp; with_reducible rfl))
                                      try simp only [Act.put, List.setIfInBounds_toArray, List.set_cons_zero, List.set_cons_succ]
                                      refine wpAnyH_done (by kernel_rfl) ?_ _
                                  
                                      go_wp2_with fail
                                      go_roundw
                                      case rel => exact ⟨j9 + 1, m9 + 1, by omega, by go_num, rfl⟩
                                      case measure => exact meas_step hltj9
                                | false =>
                                  have hE9 : ((a : Int) == (a' : Int)) = false := by rw [beq_eq_false_iff_ne]; intro e; have := haa.1 (by omega); rw [t1] at this; cases this
                                  rw [t1] at d1
                                  clear haa t1
                                  go_wp2_with fail
                                  as_aux_lemma =>
                                    refine wp_region_held_drew (S := fun w' => w'.cell? ⟨g14, i9, none⟩ = some (.int .i64 (a : Int)) ∧ w'.cell? ⟨g14, j9, none⟩ = some (.int .i64 (a' : Int)) ∧ w'.cell? ⟨g, i9 * 12 + j9, none⟩ = some (.bool false)) (by kernel_rfl) ?_ (fun hHeld => ?_)
                                    · exact ⟨hz1, hz2, d1⟩
                                    refine wpAnyH_takeD (i := 0) (some 260) (v := ?v0_282) rfl rfl (by kernel_rfl) (by kernel_rfl) (by kernel_rfl) (fun _ _ _ h => h) (by rfl) ?y0_282 (by assumption) ?r0_282
                                    case y0_282 => (intro w hSw; (try dsimp only at hSw); first | (go_simp; done) | (go_simp; with_reducible rfl))
                                    try simp only [Act.put, List.setIfInBounds_toArray, List.set_cons_zero, List.set_cons_succ]
                                    refine wpAnyH_takeD (i := 1) (some 261) (v := ?v1_283) rfl rfl (by kernel_rfl) (by kernel_rfl) (by kernel_rfl) (fun _ _ _ h => h) (by rfl) ?y1_283 (by assumption) ?r1_283
                                    case y1_283 => (intro w hSw; (try dsimp only at hSw); first | (go_simp; done) | (go_simp; with_reducible rfl))
                                    try simp only [Act.put, List.setIfInBounds_toArray, List.set_cons_zero, List.set_cons_succ]
                                    refine wpAnyH_takeD (i := 2) (some 262) (v := ?v2_284) rfl rfl (by kernel_rfl) (by kernel_rfl) (by kernel_rfl) (fun _ _ _ h => h) (by rfl) ?y2_284 (by assumption) ?r2_284
                                    case y2_284 => (intro w hSw; (try dsimp only at hSw); first | (go_simp; done) | (go_simp; with_reducible rfl))
                                    try simp only [Act.put, List.setIfInBounds_toArray, List.set_cons_zero, List.set_cons_succ]
                                    refine wpAnyH_takeD (i := 3) (some 263) (v := ?v3_285) rfl rfl (by kernel_rfl) (by kernel_rfl) (by kernel_rfl) (fun _ _ _ h => h) (by rfl) ?y3_285 (by assumption) ?r3_285
                                    case y3_285 => (intro w hSw; (try dsimp only at hSw); first | (go_simp; done) | (go_simp; with_reducible rfl))
                                    try simp only [Act.put, List.setIfInBounds_toArray, List.set_cons_zero, List.set_cons_succ]
                                    refine wpAnyH_takeD (i := 4) (some 264) (v := ?v4_286) rfl rfl (by kernel_rfl) (by kernel_rfl) (by kernel_rfl) (fun _ _ _ h => h) (by rfl) ?y4_286 (by assumption) ?r4_286
                                    case y4_286 => (intro w hSw; (try dsimp only at hSw); first | (go_simp; done) | (go_simp; with_reducible rfl))
                                    try simp only [Act.put, List.setIfInBounds_toArray, List.set_cons_zero, List.set_cons_succ]
                                    refine wpAnyH_takeD (i := 5) (some 265) (v := ?v5_287) rfl rfl (by kernel_rfl) (by kernel_rfl) (by kernel_rfl) (fun _ _ _ h => h) (by rfl) ?y5_287 (by assumption) ?r5_287
                                    case y5_287 => (intro w hSw; (try dsimp only at hSw); first | (go_simp; done) | (go_simp; with_reducible rfl))
                                    try simp only [Act.put, List.setIfInBounds_toArray, List.set_cons_zero, List.set_cons_succ]
                                    refine wpAnyH_takeD (i := 6) (some 266) (v := ?v6_288) rfl rfl (by kernel_rfl) (by kernel_rfl) (by kernel_rfl) (fun _ _ _ h => h) (by rfl) ?y6_288 (by assumption) ?r6_288
                                    case y6_288 => (intro w hSw; (try dsimp only at hSw); first | (go_simp; done) | (go_simp; with_reducible rfl))
                                    try simp only [Act.put, List.setIfInBounds_toArray, List.set_cons_zero, List.set_cons_succ]
                                    refine wpAnyH_takeD (i := 7) (some 267) (v := ?v7_289) rfl rfl (by kernel_rfl) (by kernel_rfl) (by kernel_rfl) (fun _ _ _ h => h) (by rfl) ?y7_289 (by assumption) ?r7_289
                                    case y7_289 => (intro w hSw; (try dsimp only at hSw); first | (go_simp; done) | (go_simp; with_reducible rfl))
                                    try simp only [Act.put, List.setIfInBounds_toArray, List.set_cons_zero, List.set_cons_succ]
                                    refine wpAnyH_takeD (i := 8) (some 268) (v := ?v8_290) rfl rfl (by kernel_rfl) (by kernel_rfl) (by kernel_rfl) (fun _ _ _ h => h) (by rfl) ?y8_290 (by assumption) ?r8_290
                                    case y8_290 => (intro w hSw; (try dsimp only at hSw); first | (go_simp; done) | (go_simp; with_reducible rfl))
                                    try simp only [Act.put, List.setIfInBounds_toArray, List.set_cons_zero, List.set_cons_succ]
                                    refine wpAnyH_takeD (i := 9) (some 269) (v := ?v9_291) rfl rfl (by kernel_rfl) (by kernel_rfl) (by kernel_rfl) (fun _ _ _ h => h) (by rfl) ?y9_291 (by assumption) ?r9_291
                                    case y9_291 => (intro w hSw; (try dsimp only at hSw); first | (go_simp; done) | (go_simp; with_reducible rfl))
                                    try simp only [Act.put, List.setIfInBounds_toArray, List.set_cons_zero, List.set_cons_succ]
                                    refine wpAnyH_takeD (i := 10) (some 270) (v := ?v10_292) rfl rfl (by kernel_rfl) (by kernel_rfl) (by kernel_rfl) (fun _ _ _ h => h) (by rfl) ?y10_292 (by assumption) ?r10_292
                                    case y10_292 => (intro w hSw; (try dsimp only at hSw); first | (go_simp; done) | (go_simp; with_reducible rfl))
                                    try simp only [Act.put, List.setIfInBounds_toArray, List.set_cons_zero, List.set_cons_succ]
                                    refine wpAnyH_takeD (i := 11) (some 271) (v := ?v11_293) rfl rfl (by kernel_rfl) (by kernel_rfl) (by kernel_rfl) (fun _ _ _ h => h) (by rfl) ?y11_293 (by assumption) ?r11_293
                                    case y11_293 => (intro w hSw; (try dsimp only at hSw); first | (go_simp; done) | (go_simp; with_reducible rfl))
                                    try simp only [Act.put, List.setIfInBounds_toArray, List.set_cons_zero, List.set_cons_succ]
                                    refine wpAnyH_takeD (i := 12) (some 272) (v := ?v12_294) rfl rfl (by kernel_rfl) (by kernel_rfl) (by kernel_rfl) (fun _ _ _ h => h) (by rfl) ?y12_294 (by assumption) ?r12_294
                                    case y12_294 => (intro w hSw; (try dsimp only at hSw); first | (go_simp; done) | (go_simp; with_reducible rfl))
                                    try simp only [Act.put, List.setIfInBounds_toArray, List.set_cons_zero, List.set_cons_succ]
                                    refine wpAnyH_takeD (i := 13) (some 273) (v := ?v13_295) rfl rfl (by kernel_rfl) (by kernel_rfl) (by kernel_rfl) (fun _ _ _ h => h) (by rfl) ?y13_295 (by assumption) ?r13_295
                                    case y13_295 => (intro w hSw; (try dsimp only at hSw); first | (go_simp; done) | (go_simp; with_reducible rfl))
                                    try simp only [Act.put, List.setIfInBounds_toArray, List.set_cons_zero, List.set_cons_succ]
                                    refine wpAnyH_takeD (i := 14) (some 274) (v := ?v14_296) rfl rfl (by kernel_rfl) (by kernel_rfl) (by kernel_rfl) (fun _ _ _ h => h) (by rfl) ?y14_296 (by assumption) ?r14_296
                                    case y14_296 => (intro w hSw; (try dsimp only at hSw); first | (go_simp; done) | (go_simp; with_reducible rfl))
                                    try simp only [Act.put, List.setIfInBounds_toArray, List.set_cons_zero, List.set_cons_succ]
                                    refine wpAnyH_takeD (i := 15) (some 275) (v := ?v15_297) rfl rfl (by kernel_rfl) (by kernel_rfl) (by kernel_rfl) (fun _ _ _ h => h) (by rfl) ?y15_297 (by assumption) ?r15_297
                                    case y15_297 => (intro w hSw; (try dsimp only at hSw); first | (go_simp; done) | (go_simp; with_reducible rfl))
                                    try simp only [Act.put, List.setIfInBounds_toArray, List.set_cons_zero, List.set_cons_succ]
                                    refine wpAnyH_takeD (i := 16) (some 276) (v := ?v16_298) rfl rfl (by kernel_rfl) (by kernel_rfl) (by kernel_rfl) (fun _ _ _ h => h) (by rfl) ?y16_298 (by assumption) ?r16_298
                                    case y16_298 => (intro w hSw; (try dsimp only at hSw); first | (go_simp; done) | (go_simp; with_reducible rfl))
                                    try simp only [Act.put, List.setIfInBounds_toArray, List.set_cons_zero, List.set_cons_succ]
                                    refine wpAnyH_takeD (i := 17) (some 277) (v := ?v17_299) rfl rfl (by kernel_rfl) (by kernel_rfl) (by kernel_rfl) (fun _ _ _ h => h) (by rfl) ?y17_299 (by assumption) ?r17_299
                                    case y17_299 => (intro w hSw; (try dsimp only at hSw); first | (go_simp; done) | (go_simp; with_reducible rfl))
                                    try simp only [Act.put, List.setIfInBounds_toArray, List.set_cons_zero, List.set_cons_succ]
                                    refine wpAnyH_takeD (i := 18) (some 278) (v := ?v18_300) rfl rfl (by kernel_rfl) (by kernel_rfl) (by kernel_rfl) (fun _ _ _ h => h) (by rfl) ?y18_300 (by assumption) ?r18_300
                                    case y18_300 => (intro w hSw; (try dsimp only at hSw); first | (go_simp; done) | (go_simp; with_reducible rfl))
                                    try simp only [Act.put, List.setIfInBounds_toArray, List.set_cons_zero, List.set_cons_succ]
                                    refine wpAnyH_takeD (i := 19) (some 279) (v := ?v19_301) rfl rfl (by kernel_rfl) (by kernel_rfl) (by kernel_rfl) (fun _ _ _ h => h) (by rfl) ?y19_301 (by assumption) ?r19_301
                                    case y19_301 => (intro w hSw; (try dsimp only at hSw); first | (go_simp; done) | (go_simp; with_reducible rfl))
                                    try simp only [Act.put, List.setIfInBounds_toArray, List.set_cons_zero, List.set_cons_succ]
                                    refine wpAnyH_takeD (i := 20) (some 280) (v := ?v20_302) rfl rfl (by kernel_rfl) (by kernel_rfl) (by kernel_rfl) (fun _ _ _ h => h) (by rfl) ?y20_302 (by assumption) ?r20_302
                                    case y20_302 => (intro w hSw; (try dsimp only at hSw); first | (go_simp; done) | (go_simp; with_reducible rfl))
                                    try simp only [Act.put, List.setIfInBounds_toArray, List.set_cons_zero, List.set_cons_succ]
                                    refine wpAnyH_skipD (i := 21) (some 281) rfl rfl (by kernel_rfl) (by kernel_rfl) (by kernel_rfl) (fun _ _ _ h => h) (by rfl) (by assumption) ?r21_303
                                    try simp only [Act.put, List.setIfInBounds_toArray, List.set_cons_zero, List.set_cons_succ]
                                    refine wpAnyH_skipD (i := 22) (some 282) rfl rfl (by kernel_rfl) (by kernel_rfl) (by kernel_rfl) (fun _ _ _ h => h) (by rfl) (by assumption) ?r22_304
                                    try simp only [Act.put, List.setIfInBounds_toArray, List.set_cons_zero, List.set_cons_succ]
                                    refine wpAnyH_skipD (i := 23) (some 283) rfl rfl (by kernel_rfl) (by kernel_rfl) (by kernel_rfl) (fun _ _ _ h => h) (by rfl) (by assumption) ?r23_305
                                    try simp only [Act.put, List.setIfInBounds_toArray, List.set_cons_zero, List.set_cons_succ]
                                    refine wpAnyH_skipD (i := 24) (some 284) rfl rfl (by kernel_rfl) (by kernel_rfl) (by kernel_rfl) (fun _ _ _ h => h) (by rfl) (by assumption) ?r24_306
                                    try simp only [Act.put, List.setIfInBounds_toArray, List.set_cons_zero, List.set_cons_succ]
                                    refine wpAnyH_skipD (i := 25) (some 285) rfl rfl (by kernel_rfl) (by kernel_rfl) (by kernel_rfl) (fun _ _ _ h => h) (by rfl) (by assumption) ?r25_307
                                    try simp only [Act.put, List.setIfInBounds_toArray, List.set_cons_zero, List.set_cons_succ]
                                    refine wpAnyH_takeD (i := 26) (some 286) (v := ?v26_308) rfl rfl (by kernel_rfl) (by kernel_rfl) (by kernel_rfl) (fun _ _ _ h => h) (by rfl) ?y26_308 (by assumption) ?r26_308
                                    case y26_308 => (intro w hSw; (try dsimp only at hSw); first | (go_simp; done) | (go_simp; with_reducible rfl))
                                    try simp only [Act.put, List.setIfInBounds_toArray, List.set_cons_zero, List.set_cons_succ]
                                    refine wpAnyH_takeD (i := 27) (some 287) (v := ?v27_309) rfl rfl (by kernel_rfl) (by kernel_rfl) (by kernel_rfl) (fun _ _ _ h => h) (by rfl) ?y27_309 (by assumption) ?r27_309
                                    case y27_309 => (intro w hSw; (try dsimp only at hSw); first | (go_simp; done) | (go_simp; with_reducible rfl))
                                    try simp only [Act.put, List.setIfInBounds_toArray, List.set_cons_zero, List.set_cons_succ]
                                    refine wpAnyH_takeD (i := 28) (some 288) (v := ?v28_310) rfl rfl (by kernel_rfl) (by kernel_rfl) (by kernel_rfl) (fun _ _ _ h => h) (by rfl) ?y28_310 (by assumption) ?r28_310
                                    case y28_310 => (intro w hSw; (try dsimp only at hSw); first | (go_simp; done) | (go_simp; with_reducible rfl))
                                    try simp only [Act.put, List.setIfInBounds_toArray, List.set_cons_zero, List.set_cons_succ]
                                    refine wpAnyH_done (by kernel_rfl) ?_ _
                                
                                    go_wp2_with fail
                                    go_roundw
                                    case rel => exact ⟨j9 + 1, m9 + 1, by omega, by go_num, rfl⟩
                                    case measure => exact meas_step hltj9
                              · go_wp2_with fail
                                go_roundw
                                case rel => exact ⟨i9 + 1, _, by omega, by go_num, rfl⟩
                                case measure => exact meas_step hlt9
                          · go_wp2_with fail
                            go_ret
                            exact ⟨rfl, (H14.out.drewN _).drop.drop.drop.drop.drop⟩
end Go.Proofs.Ytmebmgbjpbapjaa
