/-
  The law WalStale: the walk.
-/
import Derived.Test.YthecdkbagjpboaaV8
namespace Go.Proofs.Ythecdkbagjpboaa
open Go.RowKit Go.Maps Go.MapKept
variable {b : Env} {L : List HP} {w : World} {gd gx : Nat} {d : Dk}
theorem slBytess : SlT Try.prog 46 28 1 24 (.slice none 0 0) := ⟨Try.underlying46, by kernel_rfl, rfl, by decide, by decide⟩
/-- What Fresh asks, and (once begun) what Open tells. -/
def StaleI (d : Dk) (N k : Nat) (l : LogR) (W : List Byt) : Prop :=
  (∀ i p, tabR d N i = some p → p.gen ≤ l.most) ∧ l.half ≤ 1 ∧ l.most ≤ k ∧ (0 < k → LogI (tabR d N) (N / 2) l W)
/-- A log ahead of each turn. -/
def StaleAt (b : Env) (L : List HP) (gd gx gl N : Nat) (want i : Value) (wr : World) : Prop :=
  ∃ (k : Nat) (l : LogR) (d : Dk) (ops : Int) (W : List Byt) (bw : Option Addr) (cw nw : Nat), k ≤ 3 ∧ i = .int .i64 k ∧ nw = W.length ∧ want = .slice bw nw cw ∧ W.length ≤ 20 ∧
    Alive d N ops ∧ (0 ≤ ops ∧ ops ≤ 20000 * k) ∧ StaleI d N k l W ∧
    St b (HP.rows 34 byteE.in (.slice bw nw cw) W :: HP.log gl gd l :: HP.disk gd d :: HP.ref gx (Rk.fresh0 N) :: L) wr
/-- A log in the loop over a turn's rows. -/
def StaleIn (b : Env) (L : List HP) (gd gx gl N : Nat) (o0 : Int) (g0 : Nat) (rs : List Byt) (want i : Value) (wr : World) : Prop :=
  ∃ (k : Nat) (l : LogR) (d : Dk) (ops : Int) (W : List Byt) (bw : Option Addr) (cw nw : Nat), k ≤ rs.length ∧ i = .int .i64 k ∧ nw = W.length ∧ want = .slice bw nw cw ∧ W.length ≤ k + 1 ∧
    Alive d N ops ∧ (0 ≤ ops ∧ ops ≤ o0 + 1000 + 1000 * k) ∧ LogI (tabR d N) (N / 2) l W ∧ l.gen ≤ g0 + 1 ∧
    St b (HP.rows 34 byteE.in (.slice bw nw cw) W :: HP.log gl gd l :: HP.disk gd d :: HP.ref gx (Rk.fresh0 N) :: L) wr
theorem stale_pick {ba bb : Option Addr} {na nb ca cb : Nat} {ra rb : List Byt} (ha : HP.sl byteE.in (.slice ba na ca) ra ∈ L) (hb : HP.sl byteE.in (.slice bb nb cb) rb ∈ L) (h1 : ra.length = na) (h2 : rb.length = nb) (h3 : na ≤ 10) (h4 : nb ≤ 10) (k : Nat) (hk : k < 3) :
    ∃ br nr cr rs, ([.slice ba na ca, .slice bb nb cb, .slice none 0 0] : List Value)[k]? = some (.slice br nr cr) ∧ rs.length = nr ∧ nr ≤ 10 ∧ HP.sl byteE.in (.slice br nr cr) rs ∈ HP.sl byteE.in (.slice none 0 0) [] :: L := by
  have hk3 : k = 0 ∨ k = 1 ∨ k = 2 := by omega
  rcases hk3 with rfl | rfl | rfl
  · exact ⟨ba, na, ca, ra, rfl, h1, h3, List.mem_cons_of_mem _ ha⟩
  · exact ⟨bb, nb, cb, rb, rfl, h2, h4, List.mem_cons_of_mem _ hb⟩
  · exact ⟨none, 0, 0, [], rfl, rfl, by decide, List.mem_cons_self⟩
set_option linter.unusedSimpArgs false in
set_option maxRecDepth 100000 in
set_option maxHeartbeats 40000000 in
theorem walStale_calls {va vb : Value} {ra rb : List Byt} (h : St b L w) (ha : HP.sl byteE.in va ra ∈ L) (hb : HP.sl byteE.in vb rb ∈ L) (s : Int) (hs1 : -9223372036854775808 ≤ s) (hs2 : s ≤ 9223372036854775807) :
    Calls Try.prog 6 #[va, vb, .int .i64 s] w fun x w' => x = .returned (.bool true) ∧ St b L w' := by
  obtain ⟨ba, ca, rfl, ua1, ua2⟩ := h.sl_form ha
  obtain ⟨bb, cb, rfl, ub1, ub2⟩ := h.sl_form hb
  obtain ⟨na, hna⟩ : ∃ n, ra.length = n := ⟨_, rfl⟩
  obtain ⟨nb, hnb⟩ : ∃ n, rb.length = n := ⟨_, rfl⟩
  obtain ⟨m, hm⟩ : ∃ m : Nat, s % 7 = (m : Int) := ⟨(s % 7).toNat, by omega⟩
  have hm2 : (m : Int) ≤ 6 := by omega
  obtain ⟨N, hN⟩ : ∃ N : Nat, 8 + 2 * ((6 + (m : Int)) % 13).toNat = N := ⟨_, rfl⟩
  have hN8 : 20 ≤ N := by omega
  have hN2 : N ≤ 32 := by omega
  have hA := alive_fresh N (by omega)
  rw [hna] at ha ⊢
  rw [hnb] at hb ⊢
  have hca : (na : Int) ≤ 9223372036854775807 := by unfold maxLen at ua2; omega
  have hcb : (nb : Int) ≤ 9223372036854775807 := by unfold maxLen at ub2; omega
  clear ua1 ua2 ub1 ub2
  have H := hide h
  have HA0 := hide ha
  have HB0 := hide hb
  have HNA := hide hna
  have HNB := hide hnb
  have HM := hide hm
  have HN := hide hN
  have HA := hide hA
  clear h ha hb hna hnb hm hN hA
  by_cases hbig : 10 < na
  · have hbig' : (10 : Int) < na := by omega
    go_enter Try.func6, Try.ntmps6
    go_wp2_with (first
      | (go_at_call 10; refine (known3_calls H.out).mono ?_; rintro x w1 ⟨rfl, h1⟩; have H1 := hide h1; clear h1 H))
    go_ret
    exact ⟨rfl, H1.out⟩
  · have hbig' : ¬ (10 : Int) < na := by omega
    by_cases hbig2 : 10 < nb
    · have hbig2' : (10 : Int) < nb := by omega
      go_enter Try.func6, Try.ntmps6
      go_wp2_with (first
        | (go_at_call 10; refine (known3_calls H.out).mono ?_; rintro x w1 ⟨rfl, h1⟩; have H1 := hide h1; clear h1 H))
      go_ret
      exact ⟨rfl, H1.out⟩
    · have hbig2' : ¬ (10 : Int) < nb := by omega
      go_enter Try.func6, Try.ntmps6
      go_wp2_with (first
        | (go_at_call 10; refine (known3_calls H.out).mono ?_; rintro x w1 ⟨rfl, h1⟩; have H1 := hide h1; clear h1 H)
        | (go_at_call 13; have hm9 := HM.out; refine (within3_calls s 7 (by omega) (by omega) (by omega) (by omega)).mono ?_; rintro x w5 ⟨rfl, hw5⟩; subst hw5; rw [hm9]; clear hm9 HM)
        | (go_at_call 11; refine (both_calls H1.out (6 + (m : Int)) (by omega) (by omega)).mono ?_; rintro x w2 ⟨gd, gx, rfl, h2⟩; rw [HN.out] at h2; have H2 := hide h2.f1; clear h2 H1)
        | (go_at_call 12; refine (wopen_calls H2.out HA.out).mono ?_; rintro x w3 ⟨gl, b0, c0, rfl, h3⟩; rw [open_fresh0] at h3; rw [open_fresh0]; have H3 := hide h3.d2; clear h3 H2))
      go_loopw [12, 13] (fun want i wr => StaleAt b L gd gx gl N want i wr) (fun _ i _ => 3 - (intOf i).toNat)
      case atStart => exact ⟨0, ⟨0, 0, 0, 0, 0⟩, Dk.fresh0 N, 0, [], none, 0, 0, by omega, rfl, rfl, rfl, by decide, HA.out, by omega, ⟨(by rw [tab_fresh0]; intro i p hp; cases hp), by decide, by decide, fun h => absurd h (by decide)⟩, H3.out.rows_nil _ _⟩
      case round =>
        obtain ⟨k0, l, d, ops0, W, bw, cw, nw, hk0, rfl, hnw, rfl, hwl, ha, ho, hsi, hs⟩ := hrel
        clear H3 HA
        by_cases hlt0 : k0 < 3
        · have hlt0' : (k0 : Int) < 3 := by omega
          obtain ⟨br, nr, cr, rs, hv, hnr, hrl, hr⟩ := stale_pick HA0.out HB0.out HNA.out HNB.out (by omega) (by omega) k0 hlt0
          have hnrm : (nr : Int) ≤ 9223372036854775807 := by omega
          obtain ⟨tb, htb⟩ : ∃ tb : UInt8, (tb.toNat : Int) = k0 := ⟨UInt8.ofNat k0, by rw [UInt8.toNat_ofNat']; omega⟩
          have hkw : IntKind.u8.wrap (k0 : Int) = (k0 : Int) := by rcases (show k0 = 0 ∨ k0 = 1 ∨ k0 = 2 by omega) with rfl | rfl | rfl <;> rfl
          obtain ⟨d1, e1, e2, e3⟩ := fresh_alive (l := l) (t := [tb]) ha (by omega) (by omega) hsi.1 hsi.2.1 (by have := hsi.2.2.1; omega) (by show partsOf 1 ≤ N / 2; unfold partsOf; omega)
          rw [show partsOf ([tb] : Byt).length = 1 from (show partsOf 1 = 1 by decide)] at e1 e2 e3
          obtain ⟨l1, hl1⟩ : ∃ x : LogR, (⟨l.most + 1, if 0 < l.gen then 1 - l.half else 0, 1, 1, l.most + 1⟩ : LogR) = x := ⟨_, rfl⟩
          rw [hl1] at e1 e3
          have hgm : l1.gen ≤ k0 + 1 := by rw [← hl1]; show l.most + 1 ≤ k0 + 1; have := hsi.2.2.1; omega
          have hg1 := ha.good
          have hop1 : d.ops ≤ 100000000 := by rw [ha.ops]; omega
          have HG := hide (And.intro hg1 (And.intro hop1 (And.intro (show l.most + 1 ≤ 4294967295 by have := hsi.2.2.1; omega) hsi.2.1)))
          have H4 := hide (show St b (HP.log gl gd l :: HP.disk gd d :: HP.ref gx (Rk.fresh0 N) :: HP.sl byteE.in (.slice none 0 0) [] :: L) wr from (hs.sl_nil byteE.in).pick [2, 3, 4, 0] 5 (by decide) (by decide) (by simp))
          obtain ⟨hk2, hel⟩ := List.getElem?_eq_some_iff.1 hv
          have HR := hide hr
          have HNR := hide hnr
          have HTB := hide (show (Value.int .u8 (k0 : Int)) = .int .u8 tb.toNat by rw [htb])
          have E1 := hide e1
          have E2 := hide e2
          have E3 := hide e3
          have HGM := hide hgm
          have HO0 := hide ho
          clear hs hv hr hnr e1 e2 e3 hl1 hgm ho hsi ha hg1 hop1 htb hnw hwl
          go_wp2_with (first
            | (refine wpList_build1_st (E := byteE) rfl (.tmp 68) slByte rfl tb HTB.out (H4.out.alloc_ _) ?_ ?_; exact (fun _ _ _ => ⟨rfl, trivial⟩); intro g6 w6 h6; have H6 := hide (show St b (HP.log gl gd l :: HP.disk gd d :: HP.sl byteE (.slice (some ⟨g6, 0, none⟩) 1 1) [tb] :: HP.ref gx (Rk.fresh0 N) :: HP.sl byteE.in (.slice none 0 0) [] :: L) w6 from (h6.persist.pick [1, 2, 0, 3, 4] 5 (by decide) (by decide) (by simp))); clear h6 H4)
            | (go_at_call 14; refine (fresh_calls (l := l) (t := [tb]) H6.out mem0 HG.out.1 HG.out.2.1 (show partsOf 1 ≤ 255 by decide) HG.out.2.2.1 HG.out.2.2.2).mono ?_; rintro x w7 ⟨rfl, h7⟩; rw [E1.out] at h7; rw [E1.out]; have H7 := hide h7; clear h7 H6)
            | (refine wpList_build1_st (E := byteE) rfl (.tmp 73) slByte rfl tb HTB.out H7.out ?_ ?_; exact (fun _ _ _ => ⟨rfl, trivial⟩); intro g8 w8 h8; have H8 := hide h8.persist; clear h8 H7)
            | (refine wpList_build1_st (E := byteE.in) rfl (.tmp 74) slBytes rfl [tb] rfl H8.out ?_ ?_; exact (fun _ _ hs => ⟨_, rfl, hs.sl_mem mem0⟩); intro g9 w9 h9; have H9 := hide (show St b (HP.rows 34 byteE.in (.slice (some ⟨g9, 0, none⟩) 1 1) [[tb]] :: HP.log gl gd l1 :: HP.disk gd d1 :: HP.ref gx (Rk.fresh0 N) :: HP.sl byteE.in (.slice none 0 0) [] :: L) w9 from h9.pick [0, 2, 3, 5, 6] 7 (by decide) (by decide) (by simp)); clear h9 H8))
          go_loopw [12, 15] (fun want i wr => StaleIn b (HP.sl byteE.in (.slice none 0 0) [] :: L) gd gx gl N ops0 k0 rs want i wr) (fun _ i _ => nr - (intOf i).toNat)
          case atStart => exact ⟨0, _, d1, _, [[tb]], some ⟨g9, 0, none⟩, 1, 1, by omega, rfl, rfl, rfl, Nat.le_refl 1, E2.out, by have := HO0.out; omega, E3.out, HGM.out, H9.out⟩
          case round =>
            obtain ⟨k, l, d, ops, W, bw, cw, nw, hk, rfl, hnw, rfl, hwl, ha, ho, hI, hge, hs⟩ := hrel
            have HNW2 := hide hnw
            have HWL := hide hwl
            have HA2 := hide ha
            have HO := hide ho
            have HI := hide hI
            have HGE := hide hge
            rw [HNR.out] at hk
            have hmo1 := hI.mo
            have hhf1 := hI.hf
            have hrc1 := hI.rc
            have hft1 := hI.fit
            have hg1 := ha.good
            have ho00 := HO0.out
            have hop1 : d.ops ≤ 100000000 := by rw [ha.ops]; omega
            have hln1 : l.next ≤ d.last.length / 2 := by rw [ha.len]; exact hft1
            clear H9 E1 E2 E3 HG hel hk2
            by_cases hlt : k < nr
            · have hlt' : (k : Int) < nr := by omega
              have hkA : k < rs.length := by rw [HNR.out]; exact hlt
              obtain ⟨gr, or, rfl⟩ := hs.sl_base (up4 HR.out) (by omega) Nat.one_pos
              obtain ⟨hml, p, q, p2, q2, hc, hsl, h2⟩ := row_cut hs (up4 HR.out) hkA 60
              obtain ⟨t, ht⟩ : ∃ t, rs[k].take 60 = t := ⟨_, rfl⟩
              obtain ⟨n1, hn1⟩ : ∃ n, rs[k].length = n := ⟨_, rfl⟩
              have htl : t.length ≤ 60 := by rw [← ht, List.length_take]; omega
              have hn1m : (n1 : Int) ≤ 9223372036854775807 := by unfold maxLen at hml; omega
              clear hml
              rw [ht, hn1] at hsl
              rw [hn1] at hc
              rw [ht] at h2
              have hp2 : partsOf t.length ≤ 3 := by unfold partsOf; omega
              obtain ⟨f1, f2⟩ := append_alive (t := t) ha (by omega) (by omega) hI (by omega) (by omega) (by omega)
              have H3 := hide (show St b (HP.log gl gd l :: HP.disk gd d :: HP.sl byteE (.slice p2 t.length q2) t :: HP.rows 34 byteE.in (.slice bw nw cw) W :: HP.ref gx (Rk.fresh0 N) :: HP.sl byteE.in (.slice none 0 0) [] :: L) wr from h2.pick [2, 3, 0, 1, 4] 5 (by decide) (by decide) (by simp))
              have HC := hide hc
              have HSL := hide hsl
              have HG := hide (And.intro hg1 (And.intro hop1 (And.intro (show partsOf t.length ≤ 255 by omega) (And.intro (show l.gen ≤ 4294967295 by omega) (And.intro hhf1 (And.intro (show l.rc ≤ 65535 by omega) hln1))))))
              have Q1 := hide (show W.length + ([t] : List Byt).length ≤ maxLen ∧ (W.length + ([t] : List Byt).length) * 24 ≤ 140737488355328 from ⟨by simp only [List.length_cons, List.length_nil]; unfold maxLen; omega, by simp only [List.length_cons, List.length_nil]; omega⟩)
              clear hs h2 hc hsl ha hI hge hmo1 hhf1 hrc1 hft1 hg1 hop1 hln1 ht hn1 hnw hwl ho ho00 hkA
              by_cases hfit : l.next + partsOf t.length ≤ N / 2
              · obtain ⟨d', a1, a2, a3⟩ := f1 hfit
                have A1 := hide a1
                have A2 := hide a2
                have A4 := hide a3
                clear f1 f2 a1 a2 a3 hfit
                go_wp2_with fail
                refine wp_region_held_drew (S := fun w' => w'.cell? ⟨gr, or + k, none⟩ = some (.slice p n1 q)) (by kernel_rfl) ?_ (fun hHeld => ?_)
                · exact HC.out
                refine wpAnyH_takeD (i := 0) (some 82) (v := ?v0_1) rfl rfl (by kernel_rfl) (by kernel_rfl) (by kernel_rfl) (fun _ _ _ h => h) (by rfl) ?y0_1 (by assumption) ?r0_1
                case y0_1 => (intro w hSw; (try dsimp only at hSw); first | (go_simp; done) | (go_simp; with_reducible rfl))
                try simp only [Act.put, List.setIfInBounds_toArray, List.set_cons_zero, List.set_cons_succ]
                refine wpAnyH_takeD (i := 1) (some 83) (v := ?v1_2) rfl rfl (by kernel_rfl) (by kernel_rfl) (by kernel_rfl) (fun _ _ _ h => h) (by rfl) ?y1_2 (by assumption) ?r1_2
                case y1_2 => (intro w hSw; (try dsimp only at hSw); first | (go_simp; done) | (go_simp; with_reducible rfl))
                try simp only [Act.put, List.setIfInBounds_toArray, List.set_cons_zero, List.set_cons_succ]
                refine wpAnyH_takeD (i := 2) (some 84) (v := ?v2_3) rfl rfl (by kernel_rfl) (by kernel_rfl) (by kernel_rfl) (fun _ _ _ h => h) (by rfl) ?y2_3 (by assumption) ?r2_3
                case y2_3 => (intro w hSw; (try dsimp only at hSw); first | (go_simp; done) | (go_simp; with_reducible rfl))
                try simp only [Act.put, List.setIfInBounds_toArray, List.set_cons_zero, List.set_cons_succ]
                refine wpAnyH_takeD (i := 3) (some 85) (v := ?v3_4) rfl rfl (by kernel_rfl) (by kernel_rfl) (by kernel_rfl) (fun _ _ _ h => h) (by rfl) ?y3_4 (by assumption) ?r3_4
                case y3_4 => (intro w hSw; (try dsimp only at hSw); first | (go_simp; done) | (go_simp; with_reducible rfl))
                try simp only [Act.put, List.setIfInBounds_toArray, List.set_cons_zero, List.set_cons_succ]
                refine wpAnyH_takeD (i := 4) (some 86) (v := ?v4_5) rfl rfl (by kernel_rfl) (by kernel_rfl) (by kernel_rfl) (fun _ _ _ h => h) (by rfl) ?y4_5 (by assumption) ?r4_5
                case y4_5 => (intro w hSw; (try dsimp only at hSw); first | (go_simp; done) | (go_simp; with_reducible rfl))
                try simp only [Act.put, List.setIfInBounds_toArray, List.set_cons_zero, List.set_cons_succ]
                refine wpAnyH_takeD (i := 5) (some 87) (v := ?v5_6) rfl rfl (by kernel_rfl) (by kernel_rfl) (by kernel_rfl) (fun _ _ _ h => h) (by rfl) ?y5_6 (by assumption) ?r5_6
                case y5_6 => (intro w hSw; (try dsimp only at hSw); first | (go_simp; done) | (go_simp; with_reducible rfl))
                try simp only [Act.put, List.setIfInBounds_toArray, List.set_cons_zero, List.set_cons_succ]
                refine wpAnyH_takeD (i := 6) (some 88) (v := ?v6_7) rfl rfl (by kernel_rfl) (by kernel_rfl) (by kernel_rfl) (fun _ _ _ h => h) (by rfl) ?y6_7 (by assumption) ?r6_7
                case y6_7 => (intro w hSw; (try dsimp only at hSw); first | (go_simp; done) | (go_simp; with_reducible rfl))
                try simp only [Act.put, List.setIfInBounds_toArray, List.set_cons_zero, List.set_cons_succ]
                refine wpAnyH_takeD (i := 7) (some 89) (v := ?v7_8) rfl rfl (by kernel_rfl) (by kernel_rfl) (by kernel_rfl) (fun _ _ _ h => h) (by rfl) ?y7_8 (by assumption) ?r7_8
                case y7_8 => (intro w hSw; (try dsimp only at hSw); first | (go_simp; done) | (go_simp; with_reducible rfl))
                try simp only [Act.put, List.setIfInBounds_toArray, List.set_cons_zero, List.set_cons_succ]
                refine wpAnyH_takeD (i := 8) (some 90) (v := ?v8_9) rfl rfl (by kernel_rfl) (by kernel_rfl) (by kernel_rfl) (fun _ _ _ h => h) (by rfl) ?y8_9 (by assumption) ?r8_9
                case y8_9 => (intro w hSw; (try dsimp only at hSw); first | (go_simp; done) | (go_simp; with_reducible rfl))
                try simp only [Act.put, List.setIfInBounds_toArray, List.set_cons_zero, List.set_cons_succ]
                refine wpAnyH_takeD (i := 9) (some 91) (v := ?v9_10) rfl rfl (by kernel_rfl) (by kernel_rfl) (by kernel_rfl) (fun _ _ _ h => h) (by rfl) ?y9_10 (by assumption) ?r9_10
                case y9_10 => (intro w hSw; (try dsimp only at hSw); first | (go_simp; done) | (go_simp; with_reducible rfl))
                try simp only [Act.put, List.setIfInBounds_toArray, List.set_cons_zero, List.set_cons_succ]
                refine wpAnyH_takeD (i := 10) (some 92) (v := .slice p2 t.length q2) rfl rfl (by kernel_rfl) (by kernel_rfl) (by kernel_rfl) (fun _ _ _ h => h) (by rfl) ?y10_11 (by assumption) ?r10_11
                case y10_11 => (intro w hSw; exact run_slice_op rfl rfl rfl (HSL.out w))
                try simp only [Act.put, List.setIfInBounds_toArray, List.set_cons_zero, List.set_cons_succ]
                refine wpAnyH_takeD (i := 11) (some 16) (v := ?v11_12) rfl rfl (by kernel_rfl) (by kernel_rfl) (by kernel_rfl) (fun _ _ _ h => h) (by rfl) ?y11_12 (by assumption) ?r11_12
                case y11_12 => (intro w hSw; (try dsimp only at hSw); first | (go_simp; done) | (go_simp; with_reducible rfl))
                try simp only [Act.put, List.setIfInBounds_toArray, List.set_cons_zero, List.set_cons_succ]
                refine wpAnyH_done (by kernel_rfl) ?_ _
                have H3d := hide H3.out.drew
                clear hHeld H3
                go_wp2_with (first
                  | (go_at_call 17; refine (append_calls (l := l) (t := t) H3d.out mem0 HG.out.1 HG.out.2.1 HG.out.2.2.1 HG.out.2.2.2.1 HG.out.2.2.2.2.1 HG.out.2.2.2.2.2.1 HG.out.2.2.2.2.2.2).mono ?_; rintro x w7 ⟨rfl, h7⟩; rw [A1.out] at h7; rw [A1.out]; have H7 := hide h7; clear h7 H3d)
                  | (refine wpList_build1_st (E := byteE.in) rfl (.tmp 103) slBytes rfl t rfl H7.out ?_ ?_; exact (fun _ _ hs => ⟨_, rfl, hs.sl_mem mem2⟩); intro g8 w8 h8; have H8 := hide h8.f4; clear h8 H7)
                  | (at_builtin; refine wpList_append_st (E := byteE.in) rfl (.tmp 102) (.tmp 104) slBytes rfl H8.out (Src.of_rows mem1) rfl rfl Q1.out.1 Q1.out.2 ?_; intro b9 n9 c9 w9 hn9 h9; have H9 := hide (h9.pick [0, 2, 3, 5] 6 (by decide) (by decide) (by simp)); have HN9 := hide hn9; clear h9 H8 hn9))
                go_roundw
                case rel => exact ⟨k + 1, _, d', ops + partsOf t.length + 1, W ++ [t], b9, c9, n9, by rw [HNR.out]; omega, by go_num, by rw [HN9.out, List.length_append], rfl, by rw [List.length_append]; have := HWL.out; simp only [List.length_cons, List.length_nil]; omega, A2.out, by have := HO.out; omega, A4.out, HGE.out, H9.out⟩
                case measure => exact meas_step hlt
              · have A1 := hide (f2 (by omega))
                clear f1 f2 hfit
                go_wp2_with fail
                refine wp_region_held_drew (S := fun w' => w'.cell? ⟨gr, or + k, none⟩ = some (.slice p n1 q)) (by kernel_rfl) ?_ (fun hHeld => ?_)
                · exact HC.out
                refine wpAnyH_takeD (i := 0) (some 82) (v := ?v0_13) rfl rfl (by kernel_rfl) (by kernel_rfl) (by kernel_rfl) (fun _ _ _ h => h) (by rfl) ?y0_13 (by assumption) ?r0_13
                case y0_13 => (intro w hSw; (try dsimp only at hSw); first | (go_simp; done) | (go_simp; with_reducible rfl))
                try simp only [Act.put, List.setIfInBounds_toArray, List.set_cons_zero, List.set_cons_succ]
                refine wpAnyH_takeD (i := 1) (some 83) (v := ?v1_14) rfl rfl (by kernel_rfl) (by kernel_rfl) (by kernel_rfl) (fun _ _ _ h => h) (by rfl) ?y1_14 (by assumption) ?r1_14
                case y1_14 => (intro w hSw; (try dsimp only at hSw); first | (go_simp; done) | (go_simp; with_reducible rfl))
                try simp only [Act.put, List.setIfInBounds_toArray, List.set_cons_zero, List.set_cons_succ]
                refine wpAnyH_takeD (i := 2) (some 84) (v := ?v2_15) rfl rfl (by kernel_rfl) (by kernel_rfl) (by kernel_rfl) (fun _ _ _ h => h) (by rfl) ?y2_15 (by assumption) ?r2_15
                case y2_15 => (intro w hSw; (try dsimp only at hSw); first | (go_simp; done) | (go_simp; with_reducible rfl))
                try simp only [Act.put, List.setIfInBounds_toArray, List.set_cons_zero, List.set_cons_succ]
                refine wpAnyH_takeD (i := 3) (some 85) (v := ?v3_16) rfl rfl (by kernel_rfl) (by kernel_rfl) (by kernel_rfl) (fun _ _ _ h => h) (by rfl) ?y3_16 (by assumption) ?r3_16
                case y3_16 => (intro w hSw; (try dsimp only at hSw); first | (go_simp; done) | (go_simp; with_reducible rfl))
                try simp only [Act.put, List.setIfInBounds_toArray, List.set_cons_zero, List.set_cons_succ]
                refine wpAnyH_takeD (i := 4) (some 86) (v := ?v4_17) rfl rfl (by kernel_rfl) (by kernel_rfl) (by kernel_rfl) (fun _ _ _ h => h) (by rfl) ?y4_17 (by assumption) ?r4_17
                case y4_17 => (intro w hSw; (try dsimp only at hSw); first | (go_simp; done) | (go_simp; with_reducible rfl))
                try simp only [Act.put, List.setIfInBounds_toArray, List.set_cons_zero, List.set_cons_succ]
                refine wpAnyH_takeD (i := 5) (some 87) (v := ?v5_18) rfl rfl (by kernel_rfl) (by kernel_rfl) (by kernel_rfl) (fun _ _ _ h => h) (by rfl) ?y5_18 (by assumption) ?r5_18
                case y5_18 => (intro w hSw; (try dsimp only at hSw); first | (go_simp; done) | (go_simp; with_reducible rfl))
                try simp only [Act.put, List.setIfInBounds_toArray, List.set_cons_zero, List.set_cons_succ]
                refine wpAnyH_takeD (i := 6) (some 88) (v := ?v6_19) rfl rfl (by kernel_rfl) (by kernel_rfl) (by kernel_rfl) (fun _ _ _ h => h) (by rfl) ?y6_19 (by assumption) ?r6_19
                case y6_19 => (intro w hSw; (try dsimp only at hSw); first | (go_simp; done) | (go_simp; with_reducible rfl))
                try simp only [Act.put, List.setIfInBounds_toArray, List.set_cons_zero, List.set_cons_succ]
                refine wpAnyH_takeD (i := 7) (some 89) (v := ?v7_20) rfl rfl (by kernel_rfl) (by kernel_rfl) (by kernel_rfl) (fun _ _ _ h => h) (by rfl) ?y7_20 (by assumption) ?r7_20
                case y7_20 => (intro w hSw; (try dsimp only at hSw); first | (go_simp; done) | (go_simp; with_reducible rfl))
                try simp only [Act.put, List.setIfInBounds_toArray, List.set_cons_zero, List.set_cons_succ]
                refine wpAnyH_takeD (i := 8) (some 90) (v := ?v8_21) rfl rfl (by kernel_rfl) (by kernel_rfl) (by kernel_rfl) (fun _ _ _ h => h) (by rfl) ?y8_21 (by assumption) ?r8_21
                case y8_21 => (intro w hSw; (try dsimp only at hSw); first | (go_simp; done) | (go_simp; with_reducible rfl))
                try simp only [Act.put, List.setIfInBounds_toArray, List.set_cons_zero, List.set_cons_succ]
                refine wpAnyH_takeD (i := 9) (some 91) (v := ?v9_22) rfl rfl (by kernel_rfl) (by kernel_rfl) (by kernel_rfl) (fun _ _ _ h => h) (by rfl) ?y9_22 (by assumption) ?r9_22
                case y9_22 => (intro w hSw; (try dsimp only at hSw); first | (go_simp; done) | (go_simp; with_reducible rfl))
                try simp only [Act.put, List.setIfInBounds_toArray, List.set_cons_zero, List.set_cons_succ]
                refine wpAnyH_takeD (i := 10) (some 92) (v := .slice p2 t.length q2) rfl rfl (by kernel_rfl) (by kernel_rfl) (by kernel_rfl) (fun _ _ _ h => h) (by rfl) ?y10_23 (by assumption) ?r10_23
                case y10_23 => (intro w hSw; exact run_slice_op rfl rfl rfl (HSL.out w))
                try simp only [Act.put, List.setIfInBounds_toArray, List.set_cons_zero, List.set_cons_succ]
                refine wpAnyH_takeD (i := 11) (some 16) (v := ?v11_24) rfl rfl (by kernel_rfl) (by kernel_rfl) (by kernel_rfl) (fun _ _ _ h => h) (by rfl) ?y11_24 (by assumption) ?r11_24
                case y11_24 => (intro w hSw; (try dsimp only at hSw); first | (go_simp; done) | (go_simp; with_reducible rfl))
                try simp only [Act.put, List.setIfInBounds_toArray, List.set_cons_zero, List.set_cons_succ]
                refine wpAnyH_done (by kernel_rfl) ?_ _
                have H3d := hide H3.out.drew
                clear hHeld H3
                go_wp2_with (first
                  | (go_at_call 17; refine (append_calls (l := l) (t := t) H3d.out mem0 HG.out.1 HG.out.2.1 HG.out.2.2.1 HG.out.2.2.2.1 HG.out.2.2.2.2.1 HG.out.2.2.2.2.2.1 HG.out.2.2.2.2.2.2).mono ?_; rintro x w7 ⟨rfl, h7⟩; rw [A1.out] at h7; rw [A1.out]; have H7 := hide h7; clear h7 H3d))
                go_roundw
                case rel => exact ⟨k + 1, l, d, ops, W, bw, cw, nw, by rw [HNR.out]; omega, by go_num, HNW2.out, rfl, by have := HWL.out; omega, HA2.out, by have := HO.out; omega, HI.out, HGE.out, H7.out.pick [3, 0, 1, 4] 5 (by decide) (by decide) (by simp)⟩
                case measure => exact meas_step hlt
            · have hke : k = nr := by omega
              have hsi : StaleI d N (k0 + 1) l W := ⟨fun i p hp => by rw [hmo1]; exact (hI.all i p hp).1, hhf1, by omega, fun _ => hI⟩
              have hopz : ops ≤ 20000 * ((k0 + 1 : Nat) : Int) := by omega
              have hopy := ho.1
              have hwlz : W.length ≤ 20 := by omega
              have HZ := hide (And.intro hsi (And.intro hopz (And.intro hopy hwlz)))
              have H4 := hide (hs.pick [0, 1, 2, 3] 5 (by decide) (by decide) (by simp))
              clear hs ha hI hge hmo1 hhf1 hrc1 hft1 hg1 hop1 hln1 hwl ho ho00 hsi hopz hopy hwlz hnw
              go_wp2_with fail
              go_roundw
              case rel => exact ⟨k0 + 1, l, d, ops, W, bw, cw, nw, by omega, by go_num, HNW2.out, rfl, HZ.out.2.2.2, HA2.out, ⟨HZ.out.2.2.1, HZ.out.2.1⟩, HZ.out.1, H4.out⟩
              case measure => exact meas_step hlt0
        · have hk3 : k0 = 3 := by omega
          have HA2 := hide ha
          have HI := hide hsi.2.2.2
          have hW3 : W.length ≤ 1000 := by omega
          have HW3 := hide hW3
          subst hnw
          have H4 := hide (show St b (HP.disk gd d :: HP.ref gx (Rk.fresh0 N) :: HP.rows 34 byteE.in (.slice bw W.length cw) W :: L) wr from hs.pick [2, 3, 0] 4 (by decide) (by decide) (by simp))
          clear hs ha hsi ho hwl hW3
          have OL := hide (open_log HA2.out.len rfl (by omega) (HI.out (by omega)))
          clear HI
          go_wp2_with (first
            | (go_at_call 12; refine (wopen_calls H4.out HA2.out).mono ?_; rintro x w3 ⟨gl2, b0, c0, rfl, h3⟩; rw [OL.out] at h3; rw [OL.out]; have H5 := hide (show St b (HP.ref gx (Rk.fresh0 N) :: HP.sl byteE.in (.slice bw W.length cw) W :: HP.sl byteE.in (.slice b0 W.length c0) W :: L) w3 from ((h3.pick [2, 4, 3] 5 (by decide) (by decide) (by simp)).persist.f1.persist).f2); clear h3 H4)
            | (go_at_call 21; refine (ropen_empty H5.out (rfresh0_ok N (by omega)) (by simp [Rk.fresh0]) (by omega) (by omega) (fun i h0 h1 => rfresh0_reads N i h0 h1)).mono ?_; rintro x w4 ⟨gl3, rfl, h4⟩; have H6 := hide h4; clear h4 H5)
            | (go_at_call 18; refine (rows3_calls H6.out mem2 mem1 HW3.out HW3.out).mono ?_; rintro x w4 ⟨rfl, h4⟩; rw [decide_eq_true rfl]; have H7 := hide h4; clear h4 H6)
            | (go_at_call 22; refine few_nil.mono ?_; rintro x w4 ⟨rfl, rfl⟩))
          go_ret
          exact ⟨rfl, H7.out.drop.drop.drop⟩
end Go.Proofs.Ythecdkbagjpboaa
