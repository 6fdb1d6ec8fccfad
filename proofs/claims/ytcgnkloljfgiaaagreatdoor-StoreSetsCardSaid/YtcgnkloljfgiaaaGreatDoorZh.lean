/-
  Slices of an owned slice: what stands from a place on, as a source; up to a place. deadboltref4.Sorted. deadboltlaw4.Make.
-/
import Derived.Test.YtcgnkloljfgiaaaGreatDoorZf
namespace Go.Proofs.YtcgnkloljfgiaaaGreatDoor
open Go.RowKit Go.Maps Go.MapKept
section
variable {α : Type} {E : El α} {P : Program} {t T : TypeId} {bytes : Nat} {z : Value} {b : Env} {L : List HP} {w : World}
theorem View.low {h : Frag} {base : Option Addr} {n cap k sz : Nat} {cs : List Value} (H : View h (.slice base n cap) n cs) (hk : k ≤ n) (hc : n ≤ cap) (hlen : cs.length = n * sz) : View h (.slice (fromBase base cap k sz) (n - k) (cap - k)) (n - k) (cs.drop (k * sz)) := by
  obtain ⟨b', c', hv, h1⟩ := H
  simp only [Value.slice.injEq, true_and] at hv
  obtain ⟨rfl, rfl⟩ := hv
  refine ⟨_, _, rfl, ?_⟩
  by_cases hkn : k = n
  · subst hkn
    left
    rw [← hlen, List.drop_length]
  · rcases h1 with rfl | ⟨g, o, c, t, fz, rfl, h2, h3⟩
    · left; simp
    · right
      have hne : ¬ cap = k := by omega
      refine ⟨g, o + k * sz, c, t, fz, ?_, h2, fun j u hj => ?_⟩
      · unfold fromBase; rw [if_neg hne, Option.map_some, Addr.add_lit]
      · rw [List.getElem?_drop] at hj
        rw [Nat.add_assoc]; exact h3 _ u hj
theorem Src.of_rows_low {base : Option Addr} {n cap k : Nat} {xs : List α} (hm : HP.rows T E (.slice base n cap) xs ∈ L) (hn : n = xs.length) (hk : k ≤ n) : Src E L w (.slice (fromBase base cap k E.sz) (n - k) (cap - k)) (xs.drop k) := fun _ hs => by
  subst hn
  obtain ⟨L', h'⟩ := hs.mem_front hm
  obtain ⟨b0, c0, hv, hcl, _⟩ := h'.rows_form
  simp only [Value.slice.injEq, true_and] at hv
  obtain ⟨rfl, rfl⟩ := hv
  obtain ⟨cs, hr, hs⟩ := h'.rows_open
  have hl := El.rds_len hr
  have hx : xs = xs.take k ++ xs.drop k := (List.take_append_drop k xs).symm
  rw [hx] at hr
  obtain ⟨c, d, e1, e2, e3⟩ := El.rds_split hr
  have hcl2 := El.rds_len e2
  rw [List.length_take, Nat.min_eq_left hk] at hcl2
  refine ⟨cs.drop (k * E.sz), ?_, ?_⟩
  · rw [e1, ← hcl2, List.drop_left]; exact e3
  · rw [List.length_drop]; exact View.low hs.row_view hk hcl hl
theorem run_slice_high (S : SlT P t T E.sz bytes z) (base : Option Addr) (n cap l : Nat) (hl : l ≤ n) (hc : n ≤ cap) (k : IntKind) (w : World) : (Instr.sliceAt t (.slice base n cap) none (some (.int k (l : Int))) none).run P w = .ok (.slice base l cap) w := by
  obtain ⟨i, hi', hz, hsize, hby⟩ := info_parts S.info
  have hszr : (sizeOf T).run P w = .ok E.sz w := by simp [sizeOf, typeInfo, hi', hsize]
  have hhc' : (l : Int) ≤ (cap : Int) := by omega
  simp [Instr.sliceAt, Instr.slice, run_underlying S.ht, Instr.sliceBounds, run_sliceBound w k (l : Int) cap _ (Int.natCast_nonneg l) hhc', hszr]
  intro _
  cases base with
  | none => rfl
  | some a => simp [Addr.add]
end
end Go.Proofs.YtcgnkloljfgiaaaGreatDoor

namespace Go.Proofs.YtcgnkloljfgiaaaGreatDoor
open Go.RowKit Go.Maps Go.MapKept
variable {b : Env} {L : List HP} {w : World}
theorem while_at {α : Type} (p : α → Bool) : ∀ (l : List α) (k : Nat), (∀ x ∈ l.take k, p x = true) → (∀ h : k < l.length, p l[k] = false) → k ≤ l.length → l.takeWhile p = l.take k ∧ l.dropWhile p = l.drop k
  | [], k, _, _, hk => by simp at hk; subst hk; simp
  | x :: l, 0, _, h, _ => by have := h (by simp); simp at this; simp [this]
  | x :: l, k + 1, h1, h2, hk => by
    have hx : p x = true := h1 x (by simp)
    obtain ⟨i1, i2⟩ := while_at p l k (fun y hy => h1 y (by simp [hy])) (fun h => by have := h2 (by simp; exact h); simpa using this) (by simpa using hk)
    simp [hx, i1, i2]
def SortAt (b : Env) (L : List HP) (l : List (Str × Str)) (v3 i : Value) (wr : World) : Prop :=
  ∃ k : Nat, k ≤ l.length ∧ i = .int .i64 k ∧ ∃ base n cap, v3 = .slice base n cap ∧ n = (sortF (l.take k)).length ∧ St b (HP.rows 48 pairE (.slice base n cap) (sortF (l.take k)) :: L) wr
def SortIn (b : Env) (L : List HP) (O : List (Str × Str)) (base : Option Addr) (m cap : Nat) (s : Str) (i : Value) (wr : World) : Prop :=
  ∃ j : Nat, j ≤ m ∧ i = .int .i64 j ∧ (∀ q ∈ O.take j, Op.bytesLess q.1 s = true) ∧ St b (HP.rows 48 pairE (.slice base m cap) O :: L) wr
theorem sortF_len (l : List (Str × Str)) : (sortF l).length = l.length := (sortF_perm0 l).length_eq
set_option linter.unusedSimpArgs false in
set_option maxRecDepth 100000 in
set_option maxHeartbeats 4000000 in
theorem sorted4_calls {v : Value} {l : List (Str × Str)} (h : St b L w) (hr : Reads pairE L v l) (hl : l.length ≤ 1000) :
    Calls Tryz.prog 18 #[v] w fun x w' => ∃ base n cap, x = .returned (.slice base n cap) ∧ n = (sortF l).length ∧ St b (HP.rows 48 pairE (.slice base n cap) (sortF l) :: L) w' := by
  obtain ⟨bv, cv, rfl, u1, u2⟩ := hr.form h
  obtain ⟨n, hn⟩ : ∃ n, l.length = n := ⟨_, rfl⟩
  rw [hn] at hr hl ⊢
  have hnI : (n : Int) ≤ 1000 := by omega
  have H := hide h
  have HR := hide hr
  have HN := hide hn
  clear h hr hn u1 u2
  go_enter Tryz.func18, Tryz.ntmps18
  go_wp2_with fail
  go_loopw [3, 4] (fun v3 i wr => SortAt b L l v3 i wr) (fun _ i _ => n - (intOf i).toNat)
  case atStart => exact ⟨0, by omega, rfl, none, 0, 0, rfl, rfl, H.out.rows_nil _ _⟩
  case round =>
    obtain ⟨k, hk, rfl, bo, m, co, rfl, hm, hs⟩ := hrel
    rw [HN.out] at hk
    clear H
    by_cases hlt : k < n
    · have hlt' : (k : Int) < n := by omega
      have hkl : k < l.length := by rw [HN.out]; exact hlt
      have hm2 : m = k := by rw [hm, sortF_len, List.length_take]; omega
      have hmI : (m : Int) ≤ 1000 := by omega
      obtain ⟨gr, or, rfl⟩ := HR.out.up.base hs (by omega) (by decide)
      obtain ⟨hc, ok1, ok2⟩ := HR.out.up.pair_at hs hkl
      have hat : sortF (l.take (k + 1)) = insF (sortF (l.take k)) l[k] := by rw [← List.take_append_getElem hkl, sortF_snoc]
      obtain ⟨s, hs1⟩ : ∃ s, l[k].1 = s := ⟨_, rfl⟩
      obtain ⟨t, ht1⟩ : ∃ t, l[k].2 = t := ⟨_, rfl⟩
      have hpe : l[k] = (s, t) := by rw [← hs1, ← ht1]
      rw [hpe] at hat
      rw [hs1, ht1] at hc
      rw [hs1] at ok1
      rw [ht1] at ok2
      obtain ⟨O, hO⟩ : ∃ O, sortF (l.take k) = O := ⟨_, rfl⟩
      rw [hO] at hs hm hat
      have HAT := hide hat
      have HM := hide hm
      have HKL := hide (show k + 1 ≤ l.length from hkl)
      have HOKP := hide (And.intro ok1 ok2)
      have HCR := hide (fun (w' : World) (h' : St b (HP.rows 48 pairE (.slice bo m co) O :: L) w') => (show ∀ j u, ([sv s, sv t] : List Value)[j]? = some u → w'.cell? ⟨gr, or + k * 2 + j, none⟩ = some u from by
        have q := (HR.out.up (A := HP.rows 48 pairE (.slice bo m co) O)).pair_at h' hkl
        rw [hs1, ht1] at q
        exact q.1))
      have HCL := hide (fun (w' : World) (h' : St b L w') => (show ∀ j u, ([sv s, sv t] : List Value)[j]? = some u → w'.cell? ⟨gr, or + k * 2 + j, none⟩ = some u from by
        have q := HR.out.pair_at h' hkl
        rw [hs1, ht1] at q
        exact q.1))
      have H1 := hide hs
      clear hs hc ok1 ok2 hs1 ht1 hpe hat hm hO hkl hm2
      go_wp2_with fail
      go_loopw [5] (fun i wr => SortIn b L O bo m co s i wr) (fun i _ => m - (intOf i).toNat)
      case atStart => exact ⟨0, by omega, rfl, by simp, H1.out⟩
      case round =>
        obtain ⟨j, hj, rfl, hbl, hs⟩ := hrel
        have HBL := hide hbl
        clear hbl H1
        have hlow := fun w' => run_slice_low (E := pairE) (P := Tryz.prog) slFile bo m co j hj .i64 w'
        have hcap : m ≤ co := by obtain ⟨b1, c1, hv, h1, _⟩ := hs.rows_form mem0; simp only [Value.slice.injEq] at hv; rw [hv.2.2, HM.out]; exact h1
        have hhigh := fun w' => run_slice_high (E := pairE) (P := Tryz.prog) slFile bo m co j hj hcap .i64 w'
        by_cases hjm : j < m
        · have hjm' : (j : Int) < m := by omega
          have hjO : j < O.length := by rw [← HM.out]; exact hjm
          obtain ⟨go, rfl⟩ := hs.rows_base mem0 (by omega)
          obtain ⟨hco, -, -⟩ := (Reads.of_rows (T := 48) mem0).pair_at hs.drew hjO
          obtain ⟨s2, hs2⟩ : ∃ s, O[j].1 = s := ⟨_, rfl⟩
          rw [hs2] at hco
          have d0 : wr.drew.cell? ⟨go, j * 2, none⟩ = some (.string ⟨s2.toArray⟩) := by
            have := hco 0 _ rfl
            simpa using this
          have d1 : wr.drew.cell? ⟨gr, or + k * 2, none⟩ = some (.string ⟨s.toArray⟩) := HCR.out _ hs.drew 0 _ rfl
          have HD := hide (And.intro d0 d1)
          have H2 := hide hs
          have HJ := hide (show O.take (j + 1) = O.take j ++ [O[j]] from (List.take_append_getElem hjO).symm)
          cases hb : Op.bytesLess s2 s with
          | true =>
            have HNX := hide (show ∀ q ∈ O.take (j + 1), Op.bytesLess q.1 s = true from fun q hq => by
              rw [HJ.out, List.mem_append, List.mem_singleton] at hq
              rcases hq with hq | rfl
              · exact HBL.out q hq
              · rw [hs2]; exact hb)
            clear hs hco d0 d1 hs2 HJ hjO
            go_wp2_with fail
            refine wp_region_held_drew (S := fun w' => w'.cell? ⟨go, j * 2, none⟩ = some (.string ⟨s2.toArray⟩) ∧ w'.cell? ⟨gr, or + k * 2, none⟩ = some (.string ⟨s.toArray⟩)) (by kernel_rfl) ?_ (fun hHeld => ?_)
            · exact HD.out
            refine wpAnyH_takeD (i := 0) (some 13) (v := ?v0_1) rfl rfl (by kernel_rfl) (by kernel_rfl) (by kernel_rfl) (fun _ _ _ h => h) (by rfl) ?y0_1 (by assumption) ?r0_1
            case y0_1 => (intro w hSw; (try dsimp only at hSw); first | (go_simp; done) | (go_simp; with_reducible rfl))
            try simp only [Act.put, List.setIfInBounds_toArray, List.set_cons_zero, List.set_cons_succ]
            refine wpAnyH_takeD (i := 1) (some 14) (v := ?v1_2) rfl rfl (by kernel_rfl) (by kernel_rfl) (by kernel_rfl) (fun _ _ _ h => h) (by rfl) ?y1_2 (by assumption) ?r1_2
            case y1_2 => (intro w hSw; (try dsimp only at hSw); first | (go_simp; done) | (go_simp; with_reducible rfl))
            try simp only [Act.put, List.setIfInBounds_toArray, List.set_cons_zero, List.set_cons_succ]
            refine wpAnyH_takeD (i := 2) (some 15) (v := ?v2_3) rfl rfl (by kernel_rfl) (by kernel_rfl) (by kernel_rfl) (fun _ _ _ h => h) (by rfl) ?y2_3 (by assumption) ?r2_3
            case y2_3 => (intro w hSw; (try dsimp only at hSw); first | (go_simp; done) | (go_simp; with_reducible rfl))
            try simp only [Act.put, List.setIfInBounds_toArray, List.set_cons_zero, List.set_cons_succ]
            refine wpAnyH_takeD (i := 3) (some 16) (v := ?v3_4) rfl rfl (by kernel_rfl) (by kernel_rfl) (by kernel_rfl) (fun _ _ _ h => h) (by rfl) ?y3_4 (by assumption) ?r3_4
            case y3_4 => (intro w hSw; (try dsimp only at hSw); first | (go_simp; done) | (go_simp; with_reducible rfl))
            try simp only [Act.put, List.setIfInBounds_toArray, List.set_cons_zero, List.set_cons_succ]
            refine wpAnyH_takeD (i := 4) (some 17) (v := ?v4_5) rfl rfl (by kernel_rfl) (by kernel_rfl) (by kernel_rfl) (fun _ _ _ h => h) (by rfl) ?y4_5 (by assumption) ?r4_5
            case y4_5 => (intro w hSw; (try dsimp only at hSw); first | (go_simp; done) | (go_simp; with_reducible rfl))
            try simp only [Act.put, List.setIfInBounds_toArray, List.set_cons_zero, List.set_cons_succ]
            refine wpAnyH_takeD (i := 5) (some 18) (v := ?v5_6) rfl rfl (by kernel_rfl) (by kernel_rfl) (by kernel_rfl) (fun _ _ _ h => h) (by rfl) ?y5_6 (by assumption) ?r5_6
            case y5_6 => (intro w hSw; (try dsimp only at hSw); first | (go_simp; done) | (go_simp; with_reducible rfl))
            try simp only [Act.put, List.setIfInBounds_toArray, List.set_cons_zero, List.set_cons_succ]
            refine wpAnyH_takeD (i := 6) (some 19) (v := ?v6_7) rfl rfl (by kernel_rfl) (by kernel_rfl) (by kernel_rfl) (fun _ _ _ h => h) (by rfl) ?y6_7 (by assumption) ?r6_7
            case y6_7 => (intro w hSw; (try dsimp only at hSw); first | (go_simp; done) | (go_simp; with_reducible rfl))
            try simp only [Act.put, List.setIfInBounds_toArray, List.set_cons_zero, List.set_cons_succ]
            refine wpAnyH_takeD (i := 7) (some 20) (v := ?v7_8) rfl rfl (by kernel_rfl) (by kernel_rfl) (by kernel_rfl) (fun _ _ _ h => h) (by rfl) ?y7_8 (by assumption) ?r7_8
            case y7_8 => (intro w hSw; (try dsimp only at hSw); first | (go_simp; done) | (go_simp; with_reducible rfl))
            try simp only [Act.put, List.setIfInBounds_toArray, List.set_cons_zero, List.set_cons_succ]
            refine wpAnyH_takeD (i := 8) (some 21) (v := ?v8_9) rfl rfl (by kernel_rfl) (by kernel_rfl) (by kernel_rfl) (fun _ _ _ h => h) (by rfl) ?y8_9 (by assumption) ?r8_9
            case y8_9 => (intro w hSw; (try dsimp only at hSw); first | (go_simp; done) | (go_simp; with_reducible rfl))
            try simp only [Act.put, List.setIfInBounds_toArray, List.set_cons_zero, List.set_cons_succ]
            refine wpAnyH_takeD (i := 9) (some 22) (v := ?v9_10) rfl rfl (by kernel_rfl) (by kernel_rfl) (by kernel_rfl) (fun _ _ _ h => h) (by rfl) ?y9_10 (by assumption) ?r9_10
            case y9_10 => (intro w hSw; (try dsimp only at hSw); first | (go_simp; done) | (go_simp; with_reducible rfl))
            try simp only [Act.put, List.setIfInBounds_toArray, List.set_cons_zero, List.set_cons_succ]
            refine wpAnyH_takeD (i := 10) (some 23) (v := ?v10_11) rfl rfl (by kernel_rfl) (by kernel_rfl) (by kernel_rfl) (fun _ _ _ h => h) (by rfl) ?y10_11 (by assumption) ?r10_11
            case y10_11 => (intro w hSw; (try dsimp only at hSw); first | (go_simp; done) | (go_simp; with_reducible rfl))
            try simp only [Act.put, List.setIfInBounds_toArray, List.set_cons_zero, List.set_cons_succ]
            refine wpAnyH_takeD (i := 11) (some 24) (v := ?v11_12) rfl rfl (by kernel_rfl) (by kernel_rfl) (by kernel_rfl) (fun _ _ _ h => h) (by rfl) ?y11_12 (by assumption) ?r11_12
            case y11_12 => (intro w hSw; (try dsimp only at hSw); first | (go_simp; done) | (go_simp; with_reducible rfl))
            try simp only [Act.put, List.setIfInBounds_toArray, List.set_cons_zero, List.set_cons_succ]
            refine wpAnyH_takeD (i := 12) (some 25) (v := ?v12_13) rfl rfl (by kernel_rfl) (by kernel_rfl) (by kernel_rfl) (fun _ _ _ h => h) (by rfl) ?y12_13 (by assumption) ?r12_13
            case y12_13 => (intro w hSw; (try dsimp only at hSw); first | (go_simp; done) | (go_simp; with_reducible rfl))
            try simp only [Act.put, List.setIfInBounds_toArray, List.set_cons_zero, List.set_cons_succ]
            refine wpAnyH_takeD (i := 13) (some 26) (v := ?v13_14) rfl rfl (by kernel_rfl) (by kernel_rfl) (by kernel_rfl) (fun _ _ _ h => h) (by rfl) ?y13_14 (by assumption) ?r13_14
            case y13_14 => (intro w hSw; (try dsimp only at hSw); first | (go_simp; done) | (go_simp; with_reducible rfl))
            try simp only [Act.put, List.setIfInBounds_toArray, List.set_cons_zero, List.set_cons_succ]
            refine wpAnyH_takeD (i := 14) (some 27) (v := ?v14_15) rfl rfl (by kernel_rfl) (by kernel_rfl) (by kernel_rfl) (fun _ _ _ h => h) (by rfl) ?y14_15 (by assumption) ?r14_15
            case y14_15 => (intro w hSw; (try dsimp only at hSw); first | (go_simp; done) | (go_simp; with_reducible rfl))
            try simp only [Act.put, List.setIfInBounds_toArray, List.set_cons_zero, List.set_cons_succ]
            refine wpAnyH_takeD (i := 15) (some 28) (v := ?v15_16) rfl rfl (by kernel_rfl) (by kernel_rfl) (by kernel_rfl) (fun _ _ _ h => h) (by rfl) ?y15_16 (by assumption) ?r15_16
            case y15_16 => (intro w hSw; (try dsimp only at hSw); first | (go_simp; done) | (go_simp; with_reducible rfl))
            try simp only [Act.put, List.setIfInBounds_toArray, List.set_cons_zero, List.set_cons_succ]
            refine wpAnyH_takeD (i := 16) (some 29) (v := ?v16_17) rfl rfl (by kernel_rfl) (by kernel_rfl) (by kernel_rfl) (fun _ _ _ h => h) (by rfl) ?y16_17 (by assumption) ?r16_17
            case y16_17 => (intro w hSw; (try dsimp only at hSw); first | (go_simp; done) | (go_simp; with_reducible rfl))
            try simp only [Act.put, List.setIfInBounds_toArray, List.set_cons_zero, List.set_cons_succ]
            refine wpAnyH_done (by kernel_rfl) ?_ _
            clear hHeld
            go_wp2_with fail
            go_roundw
            case rel => exact ⟨j + 1, by omega, by go_num, HNX.out, H2.out.drew⟩
            case measure => exact meas_step hjm
          | false =>
            have HQ : Hid (insF O (s, t) = O.take j ++ [(s, t)] ++ O.drop j) := hide (by
              obtain ⟨e1, e2⟩ := while_at (fun q : Str × Str => Op.bytesLess q.1 s) O j HBL.out (fun _ => by rw [hs2]; exact hb) (by omega)
              unfold insF; simp only [e1, e2, List.append_assoc, List.singleton_append])
            clear hs hco d0 d1 hs2 HJ hjO
            go_wp2_with fail
            refine wp_region_held_drew (S := fun w' => w'.cell? ⟨go, j * 2, none⟩ = some (.string ⟨s2.toArray⟩) ∧ w'.cell? ⟨gr, or + k * 2, none⟩ = some (.string ⟨s.toArray⟩)) (by kernel_rfl) ?_ (fun hHeld => ?_)
            · exact HD.out
            refine wpAnyH_takeD (i := 0) (some 13) (v := ?v0_27) rfl rfl (by kernel_rfl) (by kernel_rfl) (by kernel_rfl) (fun _ _ _ h => h) (by rfl) ?y0_27 (by assumption) ?r0_27
            case y0_27 => (intro w hSw; (try dsimp only at hSw); first | (go_simp; done) | (go_simp; with_reducible rfl))
            try simp only [Act.put, List.setIfInBounds_toArray, List.set_cons_zero, List.set_cons_succ]
            refine wpAnyH_takeD (i := 1) (some 14) (v := ?v1_28) rfl rfl (by kernel_rfl) (by kernel_rfl) (by kernel_rfl) (fun _ _ _ h => h) (by rfl) ?y1_28 (by assumption) ?r1_28
            case y1_28 => (intro w hSw; (try dsimp only at hSw); first | (go_simp; done) | (go_simp; with_reducible rfl))
            try simp only [Act.put, List.setIfInBounds_toArray, List.set_cons_zero, List.set_cons_succ]
            refine wpAnyH_takeD (i := 2) (some 15) (v := ?v2_29) rfl rfl (by kernel_rfl) (by kernel_rfl) (by kernel_rfl) (fun _ _ _ h => h) (by rfl) ?y2_29 (by assumption) ?r2_29
            case y2_29 => (intro w hSw; (try dsimp only at hSw); first | (go_simp; done) | (go_simp; with_reducible rfl))
            try simp only [Act.put, List.setIfInBounds_toArray, List.set_cons_zero, List.set_cons_succ]
            refine wpAnyH_takeD (i := 3) (some 16) (v := ?v3_30) rfl rfl (by kernel_rfl) (by kernel_rfl) (by kernel_rfl) (fun _ _ _ h => h) (by rfl) ?y3_30 (by assumption) ?r3_30
            case y3_30 => (intro w hSw; (try dsimp only at hSw); first | (go_simp; done) | (go_simp; with_reducible rfl))
            try simp only [Act.put, List.setIfInBounds_toArray, List.set_cons_zero, List.set_cons_succ]
            refine wpAnyH_takeD (i := 4) (some 17) (v := ?v4_31) rfl rfl (by kernel_rfl) (by kernel_rfl) (by kernel_rfl) (fun _ _ _ h => h) (by rfl) ?y4_31 (by assumption) ?r4_31
            case y4_31 => (intro w hSw; (try dsimp only at hSw); first | (go_simp; done) | (go_simp; with_reducible rfl))
            try simp only [Act.put, List.setIfInBounds_toArray, List.set_cons_zero, List.set_cons_succ]
            refine wpAnyH_takeD (i := 5) (some 18) (v := ?v5_32) rfl rfl (by kernel_rfl) (by kernel_rfl) (by kernel_rfl) (fun _ _ _ h => h) (by rfl) ?y5_32 (by assumption) ?r5_32
            case y5_32 => (intro w hSw; (try dsimp only at hSw); first | (go_simp; done) | (go_simp; with_reducible rfl))
            try simp only [Act.put, List.setIfInBounds_toArray, List.set_cons_zero, List.set_cons_succ]
            refine wpAnyH_takeD (i := 6) (some 19) (v := ?v6_33) rfl rfl (by kernel_rfl) (by kernel_rfl) (by kernel_rfl) (fun _ _ _ h => h) (by rfl) ?y6_33 (by assumption) ?r6_33
            case y6_33 => (intro w hSw; (try dsimp only at hSw); first | (go_simp; done) | (go_simp; with_reducible rfl))
            try simp only [Act.put, List.setIfInBounds_toArray, List.set_cons_zero, List.set_cons_succ]
            refine wpAnyH_takeD (i := 7) (some 20) (v := ?v7_34) rfl rfl (by kernel_rfl) (by kernel_rfl) (by kernel_rfl) (fun _ _ _ h => h) (by rfl) ?y7_34 (by assumption) ?r7_34
            case y7_34 => (intro w hSw; (try dsimp only at hSw); first | (go_simp; done) | (go_simp; with_reducible rfl))
            try simp only [Act.put, List.setIfInBounds_toArray, List.set_cons_zero, List.set_cons_succ]
            refine wpAnyH_takeD (i := 8) (some 21) (v := ?v8_35) rfl rfl (by kernel_rfl) (by kernel_rfl) (by kernel_rfl) (fun _ _ _ h => h) (by rfl) ?y8_35 (by assumption) ?r8_35
            case y8_35 => (intro w hSw; (try dsimp only at hSw); first | (go_simp; done) | (go_simp; with_reducible rfl))
            try simp only [Act.put, List.setIfInBounds_toArray, List.set_cons_zero, List.set_cons_succ]
            refine wpAnyH_takeD (i := 9) (some 22) (v := ?v9_36) rfl rfl (by kernel_rfl) (by kernel_rfl) (by kernel_rfl) (fun _ _ _ h => h) (by rfl) ?y9_36 (by assumption) ?r9_36
            case y9_36 => (intro w hSw; (try dsimp only at hSw); first | (go_simp; done) | (go_simp; with_reducible rfl))
            try simp only [Act.put, List.setIfInBounds_toArray, List.set_cons_zero, List.set_cons_succ]
            refine wpAnyH_takeD (i := 10) (some 23) (v := ?v10_37) rfl rfl (by kernel_rfl) (by kernel_rfl) (by kernel_rfl) (fun _ _ _ h => h) (by rfl) ?y10_37 (by assumption) ?r10_37
            case y10_37 => (intro w hSw; (try dsimp only at hSw); first | (go_simp; done) | (go_simp; with_reducible rfl))
            try simp only [Act.put, List.setIfInBounds_toArray, List.set_cons_zero, List.set_cons_succ]
            refine wpAnyH_takeD (i := 11) (some 24) (v := ?v11_38) rfl rfl (by kernel_rfl) (by kernel_rfl) (by kernel_rfl) (fun _ _ _ h => h) (by rfl) ?y11_38 (by assumption) ?r11_38
            case y11_38 => (intro w hSw; (try dsimp only at hSw); first | (go_simp; done) | (go_simp; with_reducible rfl))
            try simp only [Act.put, List.setIfInBounds_toArray, List.set_cons_zero, List.set_cons_succ]
            refine wpAnyH_takeD (i := 12) (some 25) (v := ?v12_39) rfl rfl (by kernel_rfl) (by kernel_rfl) (by kernel_rfl) (fun _ _ _ h => h) (by rfl) ?y12_39 (by assumption) ?r12_39
            case y12_39 => (intro w hSw; (try dsimp only at hSw); first | (go_simp; done) | (go_simp; with_reducible rfl))
            try simp only [Act.put, List.setIfInBounds_toArray, List.set_cons_zero, List.set_cons_succ]
            refine wpAnyH_takeD (i := 13) (some 26) (v := ?v13_40) rfl rfl (by kernel_rfl) (by kernel_rfl) (by kernel_rfl) (fun _ _ _ h => h) (by rfl) ?y13_40 (by assumption) ?r13_40
            case y13_40 => (intro w hSw; (try dsimp only at hSw); first | (go_simp; done) | (go_simp; with_reducible rfl))
            try simp only [Act.put, List.setIfInBounds_toArray, List.set_cons_zero, List.set_cons_succ]
            refine wpAnyH_takeD (i := 14) (some 27) (v := ?v14_41) rfl rfl (by kernel_rfl) (by kernel_rfl) (by kernel_rfl) (fun _ _ _ h => h) (by rfl) ?y14_41 (by assumption) ?r14_41
            case y14_41 => (intro w hSw; (try dsimp only at hSw); first | (go_simp; done) | (go_simp; with_reducible rfl))
            try simp only [Act.put, List.setIfInBounds_toArray, List.set_cons_zero, List.set_cons_succ]
            refine wpAnyH_takeD (i := 15) (some 28) (v := ?v15_42) rfl rfl (by kernel_rfl) (by kernel_rfl) (by kernel_rfl) (fun _ _ _ h => h) (by rfl) ?y15_42 (by assumption) ?r15_42
            case y15_42 => (intro w hSw; (try dsimp only at hSw); first | (go_simp; done) | (go_simp; with_reducible rfl))
            try simp only [Act.put, List.setIfInBounds_toArray, List.set_cons_zero, List.set_cons_succ]
            refine wpAnyH_takeD (i := 16) (some 29) (v := ?v16_43) rfl rfl (by kernel_rfl) (by kernel_rfl) (by kernel_rfl) (fun _ _ _ h => h) (by rfl) ?y16_43 (by assumption) ?r16_43
            case y16_43 => (intro w hSw; (try dsimp only at hSw); first | (go_simp; done) | (go_simp; with_reducible rfl))
            try simp only [Act.put, List.setIfInBounds_toArray, List.set_cons_zero, List.set_cons_succ]
            refine wpAnyH_done (by kernel_rfl) ?_ _
            clear hHeld
            have H3 := hide H2.out.drew
            clear H2
            have QB := hide (show ([] : List (Str × Str)).length + (O.drop j).length ≤ maxLen ∧ (([] : List (Str × Str)).length + (O.drop j).length) * 32 ≤ 140737488355328 from by rw [List.length_drop, ← HM.out]; simp only [List.length_nil]; unfold maxLen; omega)
            have QA := hide (show (O.take j).length + ([(s, t)] : List (Str × Str)).length ≤ maxLen ∧ ((O.take j).length + ([(s, t)] : List (Str × Str)).length) * 32 ≤ 140737488355328 ∧ (O.take j ++ [(s, t)]).length + (O.drop j).length ≤ maxLen ∧ ((O.take j ++ [(s, t)]).length + (O.drop j).length) * 32 ≤ 140737488355328 from by rw [List.length_append, List.length_take, List.length_drop, ← HM.out]; simp only [List.length_cons, List.length_nil]; unfold maxLen; omega)
            go_wp2_with (first
              | (refine wpList_build0_st (α := Str × Str) (E := pairE) rfl slFile rfl H3.out ?_; intro g5 w5 h5; have H5 := hide h5; clear h5 H3)
              | (at_builtin; refine wpList_append_st (E := pairE) rfl (.tmp 32) (.tmp 35) slFile rfl H5.out (Src.of_rows_low mem1 HM.out hj) rfl rfl QB.out.1 QB.out.2 ?_; intro b6 n6 c6 w6 hn6 h6; rw [List.nil_append] at h6; have H6 := hide h6; clear h6 H5 hn6))
            refine wp_region_held_drew (S := fun w' => ∀ j u, ([sv s, sv t] : List Value)[j]? = some u → w'.cell? ⟨gr, or + k * 2 + j, none⟩ = some u) (by kernel_rfl) ?_ (fun hHeld => ?_)
            · exact HCL.out _ H6.out.drop.drop.drew
            refine wpAnyH_takeD (i := 0) (some 37) (v := ?v0_18) rfl rfl (by kernel_rfl) (by kernel_rfl) (by kernel_rfl) (fun _ _ _ h => h) (by rfl) ?y0_18 (by assumption) ?r0_18
            case y0_18 => (intro w hSw; (try dsimp only at hSw); first | (go_simp; done) | (go_simp; with_reducible rfl))
            try simp only [Act.put, List.setIfInBounds_toArray, List.set_cons_zero, List.set_cons_succ]
            refine wpAnyH_takeD (i := 1) (some 38) (v := ?v1_19) rfl rfl (by kernel_rfl) (by kernel_rfl) (by kernel_rfl) (fun _ _ _ h => h) (by rfl) ?y1_19 (by assumption) ?r1_19
            case y1_19 => (intro w hSw; (try dsimp only at hSw); first | (go_simp; done) | (go_simp; with_reducible rfl))
            try simp only [Act.put, List.setIfInBounds_toArray, List.set_cons_zero, List.set_cons_succ]
            refine wpAnyH_takeD (i := 2) (some 39) (v := ?v2_20) rfl rfl (by kernel_rfl) (by kernel_rfl) (by kernel_rfl) (fun _ _ _ h => h) (by rfl) ?y2_20 (by assumption) ?r2_20
            case y2_20 => (intro w hSw; (try dsimp only at hSw); first | (go_simp; done) | (go_simp; with_reducible rfl))
            try simp only [Act.put, List.setIfInBounds_toArray, List.set_cons_zero, List.set_cons_succ]
            refine wpAnyH_takeD (i := 3) (some 40) (v := ?v3_21) rfl rfl (by kernel_rfl) (by kernel_rfl) (by kernel_rfl) (fun _ _ _ h => h) (by rfl) ?y3_21 (by assumption) ?r3_21
            case y3_21 => (intro w hSw; (try dsimp only at hSw); first | (go_simp; done) | (go_simp; with_reducible rfl))
            try simp only [Act.put, List.setIfInBounds_toArray, List.set_cons_zero, List.set_cons_succ]
            refine wpAnyH_takeD (i := 4) (some 41) (v := ?v4_22) rfl rfl (by kernel_rfl) (by kernel_rfl) (by kernel_rfl) (fun _ _ _ h => h) (by rfl) ?y4_22 (by assumption) ?r4_22
            case y4_22 => (intro w hSw; (try dsimp only at hSw); first | (go_simp; done) | (go_simp; with_reducible rfl))
            try simp only [Act.put, List.setIfInBounds_toArray, List.set_cons_zero, List.set_cons_succ]
            refine wpAnyH_takeD (i := 5) (some 42) (v := ?v5_23) rfl rfl (by kernel_rfl) (by kernel_rfl) (by kernel_rfl) (fun _ _ _ h => h) (by rfl) ?y5_23 (by assumption) ?r5_23
            case y5_23 => (intro w hSw; (try dsimp only at hSw); first | (go_simp; done) | (go_simp; with_reducible rfl))
            try simp only [Act.put, List.setIfInBounds_toArray, List.set_cons_zero, List.set_cons_succ]
            refine wpAnyH_takeD (i := 6) (some 43) (v := .agg ([sv s, sv t] : List Value).toArray) rfl rfl (by kernel_rfl) (by kernel_rfl) (by kernel_rfl) (fun _ _ _ h => h) (by rfl) ?y6_24 (by assumption) ?r6_24
            case y6_24 => (intro w hSw; exact run_loadO agFile (.tmp 42) rfl rfl rfl hSw)
            try simp only [Act.put, List.setIfInBounds_toArray, List.set_cons_zero, List.set_cons_succ]
            refine wpAnyH_takeD (i := 9) (some 46) (v := ?v9_25) rfl rfl (by kernel_rfl) (by kernel_rfl) (by kernel_rfl) (fun _ _ _ h => h) (by rfl) ?y9_25 (by assumption) ?r9_25
            case y9_25 => (intro w hSw; (try dsimp only at hSw); first | (go_simp; done) | (go_simp; with_reducible rfl))
            try simp only [Act.put, List.setIfInBounds_toArray, List.set_cons_zero, List.set_cons_succ]
            refine wpAnyH_ready (rs := [7]) (by kernel_rfl) (by simp) ?_
            refine AllReadyH.cons rfl (fun K hK => ?_) ?_
            · go_simp
              have hz := ((H6.out.drew.alloc (.cells #[sv s, sv t] 48)).rows1 (E := pairE) (cs := [sv s, sv t]) (s, t) (fun _ _ _ => ⟨rfl, HOKP.out.1, HOKP.out.2⟩)).f2
              have H7 := hide (hz.rows_take j (by rw [← HM.out]; exact hj))
              clear hz H6
              refine hK.out _ _ ?_ (fun hHeld => ?_)
              · exact HCL.out _ H7.out.drop.drop.drop
              clear hK K
              try simp only [Act.put, List.setIfInBounds_toArray, List.set_cons_zero, List.set_cons_succ]
              refine wpAnyH_ready (rs := [8]) (by kernel_rfl) (by simp) ?_
              refine AllReadyH.cons rfl (fun K hK => ?_) ?_
              · refine step_append_st (E := pairE) rfl (.tmp 39) (.tmp 44) slFile rfl H7.out (Src.of_rows mem1) rfl rfl QA.out.1 QA.out.2.1 ?_
                intro b8 n8 c8 w8 hn8 h8
                have H8 := hide h8
                clear h8 H7 hn8
                refine hK.out _ _ ?_ (fun hHeld => ?_)
                · exact HCL.out _ H8.out.drop.drop.drop
                clear hK K
                try simp only [Act.put, List.setIfInBounds_toArray, List.set_cons_zero, List.set_cons_succ]
                refine wpAnyH_ready (rs := [10]) (by kernel_rfl) (by simp) ?_
                refine AllReadyH.cons rfl (fun K hK => ?_) ?_
                · refine step_append_st (E := pairE) rfl (.tmp 45) (.tmp 46) slFile rfl H8.out (Src.of_rows mem2) rfl rfl QA.out.2.2.1 QA.out.2.2.2 ?_
                  intro b9 n9 c9 w9 hn9 h9
                  rw [← HQ.out, ← HAT.out] at h9
                  have H9 := hide (h9.pick [0] 3 (by decide) (by decide) (by simp))
                  have HN9 := hide hn9
                  clear h9 H8 hn9
                  refine hK.out _ _ ?_ (fun hHeld => ?_)
                  · exact HCL.out _ H9.out.drop
                  clear hK K
                  try simp only [Act.put, List.setIfInBounds_toArray, List.set_cons_zero, List.set_cons_succ]
                  refine wpAnyH_takeD (i := 11) (some 3) (v := ?v11_26) rfl rfl (by kernel_rfl) (by kernel_rfl) (by kernel_rfl) (fun _ _ _ h => h) (by rfl) ?y11_26 (by assumption) ?r11_26
                  case y11_26 => (intro w hSw; (try dsimp only at hSw); first | (go_simp; done) | (go_simp; with_reducible rfl))
                  try simp only [Act.put, List.setIfInBounds_toArray, List.set_cons_zero, List.set_cons_succ]
                  refine wpAnyH_done (by kernel_rfl) ?_ _
                  clear hHeld
                  go_wp2_with fail
                  go_roundw
                  case rel => exact ⟨k + 1, HKL.out, by go_num, b9, n9, c9, rfl, by rw [HN9.out, HAT.out, HQ.out]; simp only [List.length_append], H9.out⟩
                  case measure => exact meas_step hlt
                exact AllReadyH.nil
              exact AllReadyH.nil
            exact AllReadyH.nil
        · have hjm' : ¬ (j : Int) < m := by omega
          have HQ : Hid (insF O (s, t) = O.take j ++ [(s, t)] ++ O.drop j) := hide (by
            obtain ⟨e1, e2⟩ := while_at (fun q : Str × Str => Op.bytesLess q.1 s) O j HBL.out (fun h => absurd h (by rw [← HM.out]; exact hjm)) (by rw [← HM.out]; exact hj)
            unfold insF; simp only [e1, e2, List.append_assoc, List.singleton_append])
          have H2 := hide hs
          clear hs
          go_wp2_with fail
          refine wp_region_held_drew (S := fun _ => True) (by kernel_rfl) ?_ (fun hHeld => ?_)
          · trivial
          refine wpAnyH_takeD (i := 0) (some 13) (v := ?v0_53) rfl rfl (by kernel_rfl) (by kernel_rfl) (by kernel_rfl) (fun _ _ _ h => h) (by rfl) ?y0_53 (by assumption) ?r0_53
          case y0_53 => (intro w hSw; (try dsimp only at hSw); first | (go_simp; done) | (go_simp; with_reducible rfl))
          try simp only [Act.put, List.setIfInBounds_toArray, List.set_cons_zero, List.set_cons_succ]
          refine wpAnyH_takeD (i := 1) (some 14) (v := ?v1_54) rfl rfl (by kernel_rfl) (by kernel_rfl) (by kernel_rfl) (fun _ _ _ h => h) (by rfl) ?y1_54 (by assumption) ?r1_54
          case y1_54 => (intro w hSw; (try dsimp only at hSw); first | (go_simp; done) | (go_simp; with_reducible rfl))
          try simp only [Act.put, List.setIfInBounds_toArray, List.set_cons_zero, List.set_cons_succ]
          refine wpAnyH_takeD (i := 2) (some 15) (v := ?v2_55) rfl rfl (by kernel_rfl) (by kernel_rfl) (by kernel_rfl) (fun _ _ _ h => h) (by rfl) ?y2_55 (by assumption) ?r2_55
          case y2_55 => (intro w hSw; (try dsimp only at hSw); first | (go_simp; done) | (go_simp; with_reducible rfl))
          try simp only [Act.put, List.setIfInBounds_toArray, List.set_cons_zero, List.set_cons_succ]
          refine wpAnyH_takeD (i := 3) (some 16) (v := ?v3_56) rfl rfl (by kernel_rfl) (by kernel_rfl) (by kernel_rfl) (fun _ _ _ h => h) (by rfl) ?y3_56 (by assumption) ?r3_56
          case y3_56 => (intro w hSw; (try dsimp only at hSw); first | (go_simp; done) | (go_simp; with_reducible rfl))
          try simp only [Act.put, List.setIfInBounds_toArray, List.set_cons_zero, List.set_cons_succ]
          refine wpAnyH_takeD (i := 4) (some 17) (v := ?v4_57) rfl rfl (by kernel_rfl) (by kernel_rfl) (by kernel_rfl) (fun _ _ _ h => h) (by rfl) ?y4_57 (by assumption) ?r4_57
          case y4_57 => (intro w hSw; (try dsimp only at hSw); first | (go_simp; done) | (go_simp; with_reducible rfl))
          try simp only [Act.put, List.setIfInBounds_toArray, List.set_cons_zero, List.set_cons_succ]
          refine wpAnyH_skipD (i := 5) (some 18) rfl rfl (by kernel_rfl) (by kernel_rfl) (by kernel_rfl) (fun _ _ _ h => h) (by rfl) (by assumption) ?r5_58
          try simp only [Act.put, List.setIfInBounds_toArray, List.set_cons_zero, List.set_cons_succ]
          refine wpAnyH_skipD (i := 6) (some 19) rfl rfl (by kernel_rfl) (by kernel_rfl) (by kernel_rfl) (fun _ _ _ h => h) (by rfl) (by assumption) ?r6_59
          try simp only [Act.put, List.setIfInBounds_toArray, List.set_cons_zero, List.set_cons_succ]
          refine wpAnyH_skipD (i := 7) (some 20) rfl rfl (by kernel_rfl) (by kernel_rfl) (by kernel_rfl) (fun _ _ _ h => h) (by rfl) (by assumption) ?r7_60
          try simp only [Act.put, List.setIfInBounds_toArray, List.set_cons_zero, List.set_cons_succ]
          refine wpAnyH_skipD (i := 8) (some 21) rfl rfl (by kernel_rfl) (by kernel_rfl) (by kernel_rfl) (fun _ _ _ h => h) (by rfl) (by assumption) ?r8_61
          try simp only [Act.put, List.setIfInBounds_toArray, List.set_cons_zero, List.set_cons_succ]
          refine wpAnyH_skipD (i := 9) (some 22) rfl rfl (by kernel_rfl) (by kernel_rfl) (by kernel_rfl) (fun _ _ _ h => h) (by rfl) (by assumption) ?r9_62
          try simp only [Act.put, List.setIfInBounds_toArray, List.set_cons_zero, List.set_cons_succ]
          refine wpAnyH_skipD (i := 10) (some 23) rfl rfl (by kernel_rfl) (by kernel_rfl) (by kernel_rfl) (fun _ _ _ h => h) (by rfl) (by assumption) ?r10_63
          try simp only [Act.put, List.setIfInBounds_toArray, List.set_cons_zero, List.set_cons_succ]
          refine wpAnyH_skipD (i := 11) (some 24) rfl rfl (by kernel_rfl) (by kernel_rfl) (by kernel_rfl) (fun _ _ _ h => h) (by rfl) (by assumption) ?r11_64
          try simp only [Act.put, List.setIfInBounds_toArray, List.set_cons_zero, List.set_cons_succ]
          refine wpAnyH_skipD (i := 12) (some 25) rfl rfl (by kernel_rfl) (by kernel_rfl) (by kernel_rfl) (fun _ _ _ h => h) (by rfl) (by assumption) ?r12_65
          try simp only [Act.put, List.setIfInBounds_toArray, List.set_cons_zero, List.set_cons_succ]
          refine wpAnyH_skipD (i := 13) (some 26) rfl rfl (by kernel_rfl) (by kernel_rfl) (by kernel_rfl) (fun _ _ _ h => h) (by rfl) (by assumption) ?r13_66
          try simp only [Act.put, List.setIfInBounds_toArray, List.set_cons_zero, List.set_cons_succ]
          refine wpAnyH_skipD (i := 14) (some 27) rfl rfl (by kernel_rfl) (by kernel_rfl) (by kernel_rfl) (fun _ _ _ h => h) (by rfl) (by assumption) ?r14_67
          try simp only [Act.put, List.setIfInBounds_toArray, List.set_cons_zero, List.set_cons_succ]
          refine wpAnyH_skipD (i := 15) (some 28) rfl rfl (by kernel_rfl) (by kernel_rfl) (by kernel_rfl) (fun _ _ _ h => h) (by rfl) (by assumption) ?r15_68
          try simp only [Act.put, List.setIfInBounds_toArray, List.set_cons_zero, List.set_cons_succ]
          refine wpAnyH_takeD (i := 16) (some 29) (v := ?v16_69) rfl rfl (by kernel_rfl) (by kernel_rfl) (by kernel_rfl) (fun _ _ _ h => h) (by rfl) ?y16_69 (by assumption) ?r16_69
          case y16_69 => (intro w hSw; (try dsimp only at hSw); first | (go_simp; done) | (go_simp; with_reducible rfl))
          try simp only [Act.put, List.setIfInBounds_toArray, List.set_cons_zero, List.set_cons_succ]
          refine wpAnyH_done (by kernel_rfl) ?_ _
          clear hHeld
          have H3 := hide H2.out.drew
          clear H2
          have QB := hide (show ([] : List (Str × Str)).length + (O.drop j).length ≤ maxLen ∧ (([] : List (Str × Str)).length + (O.drop j).length) * 32 ≤ 140737488355328 from by rw [List.length_drop, ← HM.out]; simp only [List.length_nil]; unfold maxLen; omega)
          have QA := hide (show (O.take j).length + ([(s, t)] : List (Str × Str)).length ≤ maxLen ∧ ((O.take j).length + ([(s, t)] : List (Str × Str)).length) * 32 ≤ 140737488355328 ∧ (O.take j ++ [(s, t)]).length + (O.drop j).length ≤ maxLen ∧ ((O.take j ++ [(s, t)]).length + (O.drop j).length) * 32 ≤ 140737488355328 from by rw [List.length_append, List.length_take, List.length_drop, ← HM.out]; simp only [List.length_cons, List.length_nil]; unfold maxLen; omega)
          go_wp2_with (first
            | (refine wpList_build0_st (α := Str × Str) (E := pairE) rfl slFile rfl H3.out ?_; intro g5 w5 h5; have H5 := hide h5; clear h5 H3)
            | (at_builtin; refine wpList_append_st (E := pairE) rfl (.tmp 32) (.tmp 35) slFile rfl H5.out (Src.of_rows_low mem1 HM.out hj) rfl rfl QB.out.1 QB.out.2 ?_; intro b6 n6 c6 w6 hn6 h6; rw [List.nil_append] at h6; have H6 := hide h6; clear h6 H5 hn6))
          refine wp_region_held_drew (S := fun w' => ∀ j u, ([sv s, sv t] : List Value)[j]? = some u → w'.cell? ⟨gr, or + k * 2 + j, none⟩ = some u) (by kernel_rfl) ?_ (fun hHeld => ?_)
          · exact HCL.out _ H6.out.drop.drop.drew
          refine wpAnyH_takeD (i := 0) (some 37) (v := ?v0_44) rfl rfl (by kernel_rfl) (by kernel_rfl) (by kernel_rfl) (fun _ _ _ h => h) (by rfl) ?y0_44 (by assumption) ?r0_44
          case y0_44 => (intro w hSw; (try dsimp only at hSw); first | (go_simp; done) | (go_simp; with_reducible rfl))
          try simp only [Act.put, List.setIfInBounds_toArray, List.set_cons_zero, List.set_cons_succ]
          refine wpAnyH_takeD (i := 1) (some 38) (v := ?v1_45) rfl rfl (by kernel_rfl) (by kernel_rfl) (by kernel_rfl) (fun _ _ _ h => h) (by rfl) ?y1_45 (by assumption) ?r1_45
          case y1_45 => (intro w hSw; (try dsimp only at hSw); first | (go_simp; done) | (go_simp; with_reducible rfl))
          try simp only [Act.put, List.setIfInBounds_toArray, List.set_cons_zero, List.set_cons_succ]
          refine wpAnyH_takeD (i := 2) (some 39) (v := ?v2_46) rfl rfl (by kernel_rfl) (by kernel_rfl) (by kernel_rfl) (fun _ _ _ h => h) (by rfl) ?y2_46 (by assumption) ?r2_46
          case y2_46 => (intro w hSw; (try dsimp only at hSw); first | (go_simp; done) | (go_simp; with_reducible rfl))
          try simp only [Act.put, List.setIfInBounds_toArray, List.set_cons_zero, List.set_cons_succ]
          refine wpAnyH_takeD (i := 3) (some 40) (v := ?v3_47) rfl rfl (by kernel_rfl) (by kernel_rfl) (by kernel_rfl) (fun _ _ _ h => h) (by rfl) ?y3_47 (by assumption) ?r3_47
          case y3_47 => (intro w hSw; (try dsimp only at hSw); first | (go_simp; done) | (go_simp; with_reducible rfl))
          try simp only [Act.put, List.setIfInBounds_toArray, List.set_cons_zero, List.set_cons_succ]
          refine wpAnyH_takeD (i := 4) (some 41) (v := ?v4_48) rfl rfl (by kernel_rfl) (by kernel_rfl) (by kernel_rfl) (fun _ _ _ h => h) (by rfl) ?y4_48 (by assumption) ?r4_48
          case y4_48 => (intro w hSw; (try dsimp only at hSw); first | (go_simp; done) | (go_simp; with_reducible rfl))
          try simp only [Act.put, List.setIfInBounds_toArray, List.set_cons_zero, List.set_cons_succ]
          refine wpAnyH_takeD (i := 5) (some 42) (v := ?v5_49) rfl rfl (by kernel_rfl) (by kernel_rfl) (by kernel_rfl) (fun _ _ _ h => h) (by rfl) ?y5_49 (by assumption) ?r5_49
          case y5_49 => (intro w hSw; (try dsimp only at hSw); first | (go_simp; done) | (go_simp; with_reducible rfl))
          try simp only [Act.put, List.setIfInBounds_toArray, List.set_cons_zero, List.set_cons_succ]
          refine wpAnyH_takeD (i := 6) (some 43) (v := .agg ([sv s, sv t] : List Value).toArray) rfl rfl (by kernel_rfl) (by kernel_rfl) (by kernel_rfl) (fun _ _ _ h => h) (by rfl) ?y6_50 (by assumption) ?r6_50
          case y6_50 => (intro w hSw; exact run_loadO agFile (.tmp 42) rfl rfl rfl hSw)
          try simp only [Act.put, List.setIfInBounds_toArray, List.set_cons_zero, List.set_cons_succ]
          refine wpAnyH_takeD (i := 9) (some 46) (v := ?v9_51) rfl rfl (by kernel_rfl) (by kernel_rfl) (by kernel_rfl) (fun _ _ _ h => h) (by rfl) ?y9_51 (by assumption) ?r9_51
          case y9_51 => (intro w hSw; (try dsimp only at hSw); first | (go_simp; done) | (go_simp; with_reducible rfl))
          try simp only [Act.put, List.setIfInBounds_toArray, List.set_cons_zero, List.set_cons_succ]
          refine wpAnyH_ready (rs := [7]) (by kernel_rfl) (by simp) ?_
          refine AllReadyH.cons rfl (fun K hK => ?_) ?_
          · go_simp
            have hz := ((H6.out.drew.alloc (.cells #[sv s, sv t] 48)).rows1 (E := pairE) (cs := [sv s, sv t]) (s, t) (fun _ _ _ => ⟨rfl, HOKP.out.1, HOKP.out.2⟩)).f2
            have H7 := hide (hz.rows_take j (by rw [← HM.out]; exact hj))
            clear hz H6
            refine hK.out _ _ ?_ (fun hHeld => ?_)
            · exact HCL.out _ H7.out.drop.drop.drop
            clear hK K
            try simp only [Act.put, List.setIfInBounds_toArray, List.set_cons_zero, List.set_cons_succ]
            refine wpAnyH_ready (rs := [8]) (by kernel_rfl) (by simp) ?_
            refine AllReadyH.cons rfl (fun K hK => ?_) ?_
            · refine step_append_st (E := pairE) rfl (.tmp 39) (.tmp 44) slFile rfl H7.out (Src.of_rows mem1) rfl rfl QA.out.1 QA.out.2.1 ?_
              intro b8 n8 c8 w8 hn8 h8
              have H8 := hide h8
              clear h8 H7 hn8
              refine hK.out _ _ ?_ (fun hHeld => ?_)
              · exact HCL.out _ H8.out.drop.drop.drop
              clear hK K
              try simp only [Act.put, List.setIfInBounds_toArray, List.set_cons_zero, List.set_cons_succ]
              refine wpAnyH_ready (rs := [10]) (by kernel_rfl) (by simp) ?_
              refine AllReadyH.cons rfl (fun K hK => ?_) ?_
              · refine step_append_st (E := pairE) rfl (.tmp 45) (.tmp 46) slFile rfl H8.out (Src.of_rows mem2) rfl rfl QA.out.2.2.1 QA.out.2.2.2 ?_
                intro b9 n9 c9 w9 hn9 h9
                rw [← HQ.out, ← HAT.out] at h9
                have H9 := hide (h9.pick [0] 3 (by decide) (by decide) (by simp))
                have HN9 := hide hn9
                clear h9 H8 hn9
                refine hK.out _ _ ?_ (fun hHeld => ?_)
                · exact HCL.out _ H9.out.drop
                clear hK K
                try simp only [Act.put, List.setIfInBounds_toArray, List.set_cons_zero, List.set_cons_succ]
                refine wpAnyH_takeD (i := 11) (some 3) (v := ?v11_52) rfl rfl (by kernel_rfl) (by kernel_rfl) (by kernel_rfl) (fun _ _ _ h => h) (by rfl) ?y11_52 (by assumption) ?r11_52
                case y11_52 => (intro w hSw; (try dsimp only at hSw); first | (go_simp; done) | (go_simp; with_reducible rfl))
                try simp only [Act.put, List.setIfInBounds_toArray, List.set_cons_zero, List.set_cons_succ]
                refine wpAnyH_done (by kernel_rfl) ?_ _
                clear hHeld
                go_wp2_with fail
                go_roundw
                case rel => exact ⟨k + 1, HKL.out, by go_num, b9, n9, c9, rfl, by rw [HN9.out, HAT.out, HQ.out]; simp only [List.length_append], H9.out⟩
                case measure => exact meas_step hlt
              exact AllReadyH.nil
            exact AllReadyH.nil
          exact AllReadyH.nil
    · have hke : k = n := by omega
      subst hke
      have h3 := hs
      rw [List.take_of_length_le (by rw [HN.out]; exact Nat.le_refl _)] at h3 hm
      have H3 := hide h3
      have HM := hide hm
      clear hs h3 hm
      go_wp2_with fail
      go_ret
      exact ⟨bo, m, co, rfl, HM.out, H3.out⟩
end Go.Proofs.YtcgnkloljfgiaaaGreatDoor

namespace Go.Proofs.YtcgnkloljfgiaaaGreatDoor
open Go.RowKit Go.Maps Go.MapKept
variable {b : Env} {L : List HP} {w : World}
theorem szFile : (Tryz.prog.info? 48).map (·.size) = some ([sv [0], sv [0]] : List Value).length := by kernel_rfl
def MakeAt (b : Env) (L : List HP) (l : List (Str × Str)) (ns : List Int) (v5 i : Value) (wr : World) : Prop :=
  ∃ k : Nat, k ≤ min l.length 8 ∧ i = .int .i64 k ∧ ∃ base n cap, v5 = .slice base n cap ∧ n = (makeN l ns k).length ∧ St b (HP.rows 48 pairE (.slice base n cap) (makeN l ns k) :: L) wr
theorem str_take (t : Str) (w : World) : (Instr.sliceAt 9 (.string ⟨t.toArray⟩) none (some (.int .i64 (min (t.length : Int) 400))) none).run Tryz.prog w = .ok (.string ⟨(t.take 400).toArray⟩) w := by
  have hs : (⟨t.toArray⟩ : ByteArray).size = t.length := rfl
  have h0 : (0 : Int) ≤ min (t.length : Int) 400 := by omega
  have h1 : min (t.length : Int) 400 ≤ ((⟨t.toArray⟩ : ByteArray).size : Int) := by rw [hs]; omega
  have e : (⟨t.toArray⟩ : ByteArray).extract 0 (min (t.length : Int) 400).toNat = ⟨(t.take 400).toArray⟩ := by
    apply ByteArray.ext
    rw [show (min (t.length : Int) 400).toNat = min t.length 400 from by omega]
    simp
    exact Nat.min_comm _ _
  simp [go_sem, Tryz.underlying9, h0, hs, e]
  intro h; omega
set_option linter.unusedSimpArgs false in
set_option maxRecDepth 100000 in
set_option maxHeartbeats 4000000 in
theorem make_calls {vl vn : Value} {l : List (Str × Str)} {ns : List Int} (h : St b L w) (hr : Reads pairE L vl l) (hm : HP.sl intE vn ns ∈ L) (hns : ∀ x ∈ ns, -9223372036854775808 ≤ x ∧ x ≤ 9223372036854775807) :
    Calls Tryz.prog 16 #[vl, vn] w fun x w' => ∃ base n cap, x = .returned (.slice base n cap) ∧ n = (makeL l ns).length ∧ St b (HP.rows 48 pairE (.slice base n cap) (makeL l ns) :: L) w' := by
  obtain ⟨bv, cv, rfl, u1, u2⟩ := hr.form h
  obtain ⟨bn, cn, rfl, u3, u4⟩ := h.sl_form hm
  obtain ⟨n, hn⟩ : ∃ n, l.length = n := ⟨_, rfl⟩
  obtain ⟨m, hmn⟩ : ∃ n, ns.length = n := ⟨_, rfl⟩
  rw [hn] at hr
  rw [hmn] at hm
  rw [hn, hmn]
  have hnI : (n : Int) ≤ 9223372036854775807 := by unfold maxLen at u2; omega
  have hmI : (m : Int) ≤ 9223372036854775807 := by unfold maxLen at u4; omega
  have hsl := fun t w' => str_take t w'
  have H := hide h
  have HR := hide hr
  have HM := hide hm
  have HN := hide hn
  have HMN := hide hmn
  have HNS := hide hns
  clear h hr hm hn hmn hns u1 u2 u3 u4
  go_enter Tryz.func16, Tryz.ntmps16
  go_wp2_with fail
  go_loopw [5, 6] (fun v5 i wr => MakeAt b L l ns v5 i wr) (fun _ i _ => 8 - (intOf i).toNat)
  case atStart => exact ⟨0, by omega, rfl, none, 0, 0, rfl, rfl, H.out.rows_nil _ _⟩
  case round =>
    obtain ⟨k, hk, rfl, bo, q, co, rfl, hq, hs⟩ := hrel
    rw [HN.out] at hk
    clear H
    by_cases hlt : k < n ∧ k < 8
    · have hlt1 : (k : Int) < n := by omega
      have hlt2 : (k : Int) < 8 := by omega
      have hkl : k < l.length := by rw [HN.out]; exact hlt.1
      obtain ⟨gr, or, rfl⟩ := HR.out.base hs.drop (by omega) (by decide)
      have HCL := hide (fun (w' : World) (h' : St b L w') => (show w'.cell? ⟨gr, or + k * 2 + 1, none⟩ = some (.string ⟨l[k].2.toArray⟩) from (HR.out.pair_at h' hkl).1 1 _ rfl))
      have hokt := (HR.out.pair_at hs.drop hkl).2.2
      obtain ⟨t, ht⟩ : ∃ t, l[k].2 = t := ⟨_, rfl⟩
      rw [ht] at HCL hokt
      have htI : (t.length : Int) ≤ 9223372036854775807 := by unfold okStr maxLen at hokt; omega
      have hgd : (l.getD k ([], [])).2 = t := by rw [← ht]; simp [List.getD, hkl]
      obtain ⟨kk, hkk⟩ : ∃ kk : Int, ns.getD k (k : Int) = kk := ⟨_, rfl⟩
      have hkb : -9223372036854775808 ≤ kk ∧ kk ≤ 9223372036854775807 := by
        rw [← hkk]
        by_cases hkm : k < ns.length
        · have := HNS.out ns[k] (List.getElem_mem _); simpa [List.getD, hkm] using this
        · simp [List.getD, hkm]; omega
      obtain ⟨r, hrr⟩ : ∃ r : Nat, kk % 5 = (r : Int) := ⟨(kk % 5).toNat, by omega⟩
      have hr5 : (r : Int) ≤ 4 := by omega
      obtain ⟨c, hce⟩ : ∃ c : UInt8, c = UInt8.ofNat (97 + kk % 5).toNat := ⟨_, rfl⟩
      have hcv : (97 : Int) + (r : Int) = (c.toNat : Int) := by rw [hce, hrr, UInt8.toNat_ofNat']; omega
      have hcI : (c.toNat : Int) ≤ 255 := by have := c.toNat_lt; omega
      have hcw : IntKind.u8.wrap (c.toNat : Int) = (c.toNat : Int) := by show (c.toNat : Int) % 256 = _; omega
      have hcw64 : IntKind.i64.wrap (c.toNat : Int) = (c.toNat : Int) := wrap_small (by omega) (by omega)
      have hmk : mkP l ns k = ([c], t.take 400) := by unfold mkP mkN; rw [hkk, hgd, hce]
      have T1 := hide (fun w' : World => (within4_calls (w := w') kk 5 (by omega) (by omega) hkb.1 hkb.2).mono (fun e w2 he => (show e = .returned (.int .i64 (r : Int)) ∧ w2 = w' from ⟨by rw [he.1, hrr], he.2.symm⟩)))
      have HMK := hide hmk
      have HQ := hide hq
      have H1 := hide hs
      have hqk : q ≤ 8 := by rw [hq]; exact Nat.le_trans (makeN_ok l ns k).2.2 (by omega)
      have HQK := hide hqk
      have HK1 := hide (show k + 1 ≤ min l.length 8 by rw [HN.out]; omega)
      have HO2 := hide (show okStr [c] ∧ okStr (t.take 400) from ⟨by simp [okStr, maxLen], by unfold okStr at hokt ⊢; rw [List.length_take]; omega⟩)
      have HONE := hide (two_cells [c] (t.take 400))
      have HSTEP := hide (show makeN l ns (k + 1) = if ([c] : Str) ∈ keysOf (makeN l ns k) then makeN l ns k else makeN l ns k ++ [([c], t.take 400)] by simp only [makeN, hmk])
      clear hs hokt ht hgd hce hrr hmk hq hqk hkb hkl
      by_cases hkm : k < m
      · have hkm' : (k : Int) < m := by omega
        have hkn : k < ns.length := by rw [HMN.out]; exact hkm
        obtain ⟨gn, on, rfl⟩ := H1.out.sl_base (up1 HM.out) (by omega) Nat.one_pos
        have cn0 : wr.cell? ⟨gn, on + k, none⟩ = some (.int .i64 kk) := by
          have := (H1.out.sc_at (up1 HM.out) (i := k) hkn).1
          rw [← hkk]; simpa [List.getD, hkn] using this
        clear hkk hkn
        go_wp2_with fail
        refine wp_region_held_drew (S := fun w' => w'.cell? ⟨gr, or + k * 2 + 1, none⟩ = some (.string ⟨t.toArray⟩)) (by kernel_rfl) ?_ (fun hHeld => ?_)
        · exact HCL.out _ H1.out.drop.drew
        have H8 := hide H1.out
        clear H1
        refine wpAnyH_takeD (i := 0) (some 28) (v := ?v0_1) rfl rfl (by kernel_rfl) (by kernel_rfl) (by kernel_rfl) (fun _ _ _ h => h) (by rfl) ?y0_1 (by assumption) ?r0_1
        case y0_1 => (intro w hSw; (try dsimp only at hSw); first | (go_simp; done) | (go_simp; with_reducible rfl))
        try simp only [Act.put, List.setIfInBounds_toArray, List.set_cons_zero, List.set_cons_succ]
        refine wpAnyH_tellsD (i := 1) (some 29) (v := .int .i64 (r : Int)) rfl rfl (by kernel_rfl) (by kernel_rfl) (by kernel_rfl) (fun _ _ _ h => h) ⟨by rfl, 14, #[.int .i64 kk, .int .i64 5], fun w hSw => ⟨?y1_2, T1.out w⟩⟩ (by assumption) ?r1_2
        case y1_2 => first | (go_simp; done) | (go_simp; with_reducible rfl)
        try simp only [Act.put, List.setIfInBounds_toArray, List.set_cons_zero, List.set_cons_succ]
        refine wpAnyH_takeD (i := 2) (some 30) (v := ?v2_3) rfl rfl (by kernel_rfl) (by kernel_rfl) (by kernel_rfl) (fun _ _ _ h => h) (by rfl) ?y2_3 (by assumption) ?r2_3
        case y2_3 => (intro w hSw; (try dsimp only at hSw); first | (go_simp; done) | (go_simp; with_reducible rfl))
        try simp only [Act.put, List.setIfInBounds_toArray, List.set_cons_zero, List.set_cons_succ]
        refine wpAnyH_takeD (i := 3) (some 31) (v := ?v3_4) rfl rfl (by kernel_rfl) (by kernel_rfl) (by kernel_rfl) (fun _ _ _ h => h) (by rfl) ?y3_4 (by assumption) ?r3_4
        case y3_4 => (intro w hSw; (try dsimp only at hSw); first | (go_simp; done) | (go_simp; with_reducible rfl))
        try simp only [Act.put, List.setIfInBounds_toArray, List.set_cons_zero, List.set_cons_succ]
        refine wpAnyH_takeD (i := 6) (some 34) (v := ?v6_5) rfl rfl (by kernel_rfl) (by kernel_rfl) (by kernel_rfl) (fun _ _ _ h => h) (by rfl) ?y6_5 (by assumption) ?r6_5
        case y6_5 => (intro w hSw; (try dsimp only at hSw); first | (go_simp; done) | (go_simp; with_reducible rfl))
        try simp only [Act.put, List.setIfInBounds_toArray, List.set_cons_zero, List.set_cons_succ]
        refine wpAnyH_takeD (i := 7) (some 35) (v := ?v7_6) rfl rfl (by kernel_rfl) (by kernel_rfl) (by kernel_rfl) (fun _ _ _ h => h) (by rfl) ?y7_6 (by assumption) ?r7_6
        case y7_6 => (intro w hSw; (try dsimp only at hSw); first | (go_simp; done) | (go_simp; with_reducible rfl))
        try simp only [Act.put, List.setIfInBounds_toArray, List.set_cons_zero, List.set_cons_succ]
        refine wpAnyH_takeD (i := 8) (some 36) (v := ?v8_7) rfl rfl (by kernel_rfl) (by kernel_rfl) (by kernel_rfl) (fun _ _ _ h => h) (by rfl) ?y8_7 (by assumption) ?r8_7
        case y8_7 => (intro w hSw; (try dsimp only at hSw); first | (go_simp; done) | (go_simp; with_reducible rfl))
        try simp only [Act.put, List.setIfInBounds_toArray, List.set_cons_zero, List.set_cons_succ]
        refine wpAnyH_takeD (i := 9) (some 37) (v := ?v9_8) rfl rfl (by kernel_rfl) (by kernel_rfl) (by kernel_rfl) (fun _ _ _ h => h) (by rfl) ?y9_8 (by assumption) ?r9_8
        case y9_8 => (intro w hSw; (try dsimp only at hSw); first | (go_simp; done) | (go_simp; with_reducible rfl))
        try simp only [Act.put, List.setIfInBounds_toArray, List.set_cons_zero, List.set_cons_succ]
        refine wpAnyH_takeD (i := 10) (some 38) (v := ?v10_9) rfl rfl (by kernel_rfl) (by kernel_rfl) (by kernel_rfl) (fun _ _ _ h => h) (by rfl) ?y10_9 (by assumption) ?r10_9
        case y10_9 => (intro w hSw; (try dsimp only at hSw); first | (go_simp; done) | (go_simp; with_reducible rfl))
        try simp only [Act.put, List.setIfInBounds_toArray, List.set_cons_zero, List.set_cons_succ]
        refine wpAnyH_takeD (i := 11) (some 39) (v := ?v11_10) rfl rfl (by kernel_rfl) (by kernel_rfl) (by kernel_rfl) (fun _ _ _ h => h) (by rfl) ?y11_10 (by assumption) ?r11_10
        case y11_10 => (intro w hSw; (try dsimp only at hSw); first | (go_simp; done) | (go_simp; with_reducible rfl))
        try simp only [Act.put, List.setIfInBounds_toArray, List.set_cons_zero, List.set_cons_succ]
        refine wpAnyH_takeD (i := 12) (some 40) (v := ?v12_11) rfl rfl (by kernel_rfl) (by kernel_rfl) (by kernel_rfl) (fun _ _ _ h => h) (by rfl) ?y12_11 (by assumption) ?r12_11
        case y12_11 => (intro w hSw; (try dsimp only at hSw); first | (go_simp; done) | (go_simp; with_reducible rfl))
        try simp only [Act.put, List.setIfInBounds_toArray, List.set_cons_zero, List.set_cons_succ]
        refine wpAnyH_takeD (i := 13) (some 41) (v := ?v13_12) rfl rfl (by kernel_rfl) (by kernel_rfl) (by kernel_rfl) (fun _ _ _ h => h) (by rfl) ?y13_12 (by assumption) ?r13_12
        case y13_12 => (intro w hSw; (try dsimp only at hSw); first | (go_simp; done) | (go_simp; with_reducible rfl))
        try simp only [Act.put, List.setIfInBounds_toArray, List.set_cons_zero, List.set_cons_succ]
        refine wpAnyH_takeD (i := 14) (some 42) (v := ?v14_13) rfl rfl (by kernel_rfl) (by kernel_rfl) (by kernel_rfl) (fun _ _ _ h => h) (by rfl) ?y14_13 (by assumption) ?r14_13
        case y14_13 => (intro w hSw; (try dsimp only at hSw); first | (go_simp; done) | (go_simp; with_reducible rfl))
        try simp only [Act.put, List.setIfInBounds_toArray, List.set_cons_zero, List.set_cons_succ]
        refine wpAnyH_takeD (i := 15) (some 43) (v := ?v15_14) rfl rfl (by kernel_rfl) (by kernel_rfl) (by kernel_rfl) (fun _ _ _ h => h) (by rfl) ?y15_14 (by assumption) ?r15_14
        case y15_14 => (intro w hSw; (try dsimp only at hSw); first | (go_simp; done) | (go_simp; with_reducible rfl))
        try simp only [Act.put, List.setIfInBounds_toArray, List.set_cons_zero, List.set_cons_succ]
        refine wpAnyH_takeD (i := 16) (some 44) (v := ?v16_15) rfl rfl (by kernel_rfl) (by kernel_rfl) (by kernel_rfl) (fun _ _ _ h => h) (by rfl) ?y16_15 (by assumption) ?r16_15
        case y16_15 => (intro w hSw; (try dsimp only at hSw); first | (go_simp; done) | (go_simp; with_reducible rfl))
        try simp only [Act.put, List.setIfInBounds_toArray, List.set_cons_zero, List.set_cons_succ]
        refine wpAnyH_takeD (i := 17) (some 45) (v := ?v17_16) rfl rfl (by kernel_rfl) (by kernel_rfl) (by kernel_rfl) (fun _ _ _ h => h) (by rfl) ?y17_16 (by assumption) ?r17_16
        case y17_16 => (intro w hSw; (try dsimp only at hSw); first | (go_simp; done) | (go_simp; with_reducible rfl))
        try simp only [Act.put, List.setIfInBounds_toArray, List.set_cons_zero, List.set_cons_succ]
        refine wpAnyH_takeD (i := 18) (some 46) (v := ?v18_17) rfl rfl (by kernel_rfl) (by kernel_rfl) (by kernel_rfl) (fun _ _ _ h => h) (by rfl) ?y18_17 (by assumption) ?r18_17
        case y18_17 => (intro w hSw; (try dsimp only at hSw); first | (go_simp; done) | (go_simp; with_reducible rfl))
        try simp only [Act.put, List.setIfInBounds_toArray, List.set_cons_zero, List.set_cons_succ]
        refine wpAnyH_ready (rs := [4, 20]) (by kernel_rfl) (by simp) ?_
        refine AllReadyH.cons rfl (fun K hK => ?_) ?_
        · go_simp
          have hz := (H8.out.lit (T := 5) (fz := (0, 0)) [c] (show 1 ≤ maxLen by decide)).drew
          have H9 := hide (show St b (HP.sl byteE (.slice (some ⟨_, 0, none⟩) 1 1) [c] :: _) (wr.alloc (.cells #[.int .u8 (c.toNat : Int)] 5)).drew from hz)
          clear hz
          clear H8
          have H8 := H9
          clear H9
          refine hK.out _ _ ?_ (fun hHeld => ?_)
          · exact HCL.out _ H8.out.drop.drop
          clear hK K
          try simp only [Act.put, List.setIfInBounds_toArray, List.set_cons_zero, List.set_cons_succ]
          refine wpAnyH_ready (rs := [5, 20]) (by kernel_rfl) (by simp) ?_
          refine AllReadyH.cons rfl (fun K hK => ?_) ?_
          · have cv8 := conv_str H8.out (Reads.of_sl mem0)
            go_simp
            refine hK.out _ _ ?_ (fun hHeld => ?_)
            · exact HCL.out _ H8.out.drop.drop
            clear hK K
            try simp only [Act.put, List.setIfInBounds_toArray, List.set_cons_zero, List.set_cons_succ]
            refine wpAnyH_takeD (i := 19) (some 47) (v := ?v19_18) rfl rfl (by kernel_rfl) (by kernel_rfl) (by kernel_rfl) (fun _ _ _ h => h) (by rfl) ?y19_18 (by assumption) ?r19_18
            case y19_18 => (intro w hSw; (try dsimp only at hSw); first | (go_simp; done) | (go_simp; with_reducible rfl))
            try simp only [Act.put, List.setIfInBounds_toArray, List.set_cons_zero, List.set_cons_succ]
            refine wpAnyH_ready (rs := [20]) (by kernel_rfl) (by simp) ?_
            refine AllReadyH.cons rfl (fun K hK => ?_) ?_
            · refine step_alloc_ag rfl agFile rfl H8.out ?_
              intro g9 w9 h9
              change K (Act.put _ (some 8) _) _
              have H9 := hide h9
              clear h9
              clear H8
              have H8 := H9
              clear H9
              refine hK.out _ _ ?_ (fun hHeld => ?_)
              · exact HCL.out _ H8.out.drop.drop.drop
              clear hK K
              try simp only [Act.put, List.setIfInBounds_toArray, List.set_cons_zero, List.set_cons_succ]
              refine wpAnyH_ready (rs := [21]) (by kernel_rfl) (by simp) ?_
              refine AllReadyH.cons rfl (fun K hK => ?_) ?_
              · refine step_storeB_st (cs := [sv [c], sv (t.take 400)]) (c := [.string ⟨#[]⟩, .string ⟨#[]⟩]) (d := [sv [c], sv (t.take 400)]) rfl 48 (.tmp 8) (.tmp 47) rfl szFile rfl rfl HONE.out H8.out (by simp) rfl ?_
                intro w10 h10
                have H10 := hide (h10.pick [0, 2] 3 (by decide) (by decide) (by simp))
                clear h10 H8
                refine hK.out _ _ ?_ (fun hHeld => ?_)
                · exact HCL.out _ H10.out.drop.drop
                clear hK K
                try simp only [Act.put, List.setIfInBounds_toArray, List.set_cons_zero, List.set_cons_succ]
                refine wpAnyH_done (by kernel_rfl) ?_ _
                clear hHeld
                have f0 : w10.cell? ⟨g9, 0, none⟩ = some (.string ⟨([c] : Str).toArray⟩) := H10.out.blk_cell mem0 0
                by_cases hin : ([c] : Str) ∈ keysOf (makeN l ns k)
                · have HIN := hide hin
                  clear hin
                  go_wp2_with (first
                    | (go_at_call 41; refine (rat_calls H10.out (Reads.of_rows mem1) [c]).mono ?_; rintro x w11 (⟨k2, rfl, hx, hw⟩ | ⟨rfl, hx, hw⟩); rotate_left; exact absurd HIN.out hx; subst hw; clear hx; have H11 := H10; clear H10))
                  go_roundw
                  case rel => exact ⟨k + 1, HK1.out, by go_num, bo, q, co, rfl, by rw [HSTEP.out, if_pos HIN.out]; exact HQ.out, by rw [HSTEP.out, if_pos HIN.out]; exact H11.out.drop⟩
                  case measure => exact meas_step (by omega)
                · have HIN := hide hin
                  clear hin
                  have QQ := hide (show (makeN l ns k).length + ([([c], t.take 400)] : List (Str × Str)).length ≤ maxLen ∧ ((makeN l ns k).length + ([([c], t.take 400)] : List (Str × Str)).length) * 32 ≤ 140737488355328 from by rw [← HQ.out]; have := HQK.out; simp only [List.length_cons, List.length_nil]; unfold maxLen; omega)
                  go_wp2_with (first
                    | (go_at_call 41; refine (rat_calls H10.out (Reads.of_rows mem1) [c]).mono ?_; rintro x w11 (⟨k2, rfl, hx, hw⟩ | ⟨rfl, hx, hw⟩); exact absurd hx HIN.out; subst hw; clear hx; have H11 := H10; clear H10)
                    | (refine wpList_loadB_st (cs := [sv [c], sv (t.take 400)]) rfl agFile (.tmp 8) rfl rfl rfl H11.out mem0 ?_)
                    | (refine wpList_build1_st (E := pairE) rfl (.tmp 54) slFile rfl ([c], t.take 400) rfl H11.out ?_ ?_; exact (fun _ _ _ => ⟨rfl, HO2.out.1, HO2.out.2⟩); intro g12 w12 h12; have H12 := hide h12.f2; clear h12 H11)
                    | (at_builtin; refine wpList_append_st (E := pairE) rfl (.tmp 53) (.tmp 55) slFile rfl H12.out (Src.of_rows mem1) rfl rfl QQ.out.1 QQ.out.2 ?_; intro b13 n13 c13 w13 hn13 h13; have H13 := hide (h13.pick [0] 3 (by decide) (by decide) (by simp)); have HN13 := hide hn13; clear h13 H12 hn13))
                  go_roundw
                  case rel => exact ⟨k + 1, HK1.out, by go_num, b13, n13, c13, rfl, by rw [HSTEP.out, if_neg HIN.out, HN13.out, List.length_append], by rw [HSTEP.out, if_neg HIN.out]; exact H13.out⟩
                  case measure => exact meas_step (by omega)
              exact AllReadyH.nil
            exact AllReadyH.nil
          refine AllReadyH.cons rfl (fun K hK => ?_) ?_
          · refine step_alloc_ag rfl agFile rfl H8.out ?_
            intro g9 w9 h9
            change K (Act.put _ (some 8) _) _
            have H9 := hide h9
            clear h9
            clear H8
            have H8 := H9
            clear H9
            refine hK.out _ _ ?_ (fun hHeld => ?_)
            · exact HCL.out _ H8.out.drop.drop.drop
            clear hK K
            try simp only [Act.put, List.setIfInBounds_toArray, List.set_cons_zero, List.set_cons_succ]
            refine wpAnyH_ready (rs := [5]) (by kernel_rfl) (by simp) ?_
            refine AllReadyH.cons rfl (fun K hK => ?_) ?_
            · have cv8 := conv_str H8.out (Reads.of_sl mem1)
              go_simp
              refine hK.out _ _ ?_ (fun hHeld => ?_)
              · exact HCL.out _ H8.out.drop.drop.drop
              clear hK K
              try simp only [Act.put, List.setIfInBounds_toArray, List.set_cons_zero, List.set_cons_succ]
              refine wpAnyH_takeD (i := 19) (some 47) (v := ?v19_19) rfl rfl (by kernel_rfl) (by kernel_rfl) (by kernel_rfl) (fun _ _ _ h => h) (by rfl) ?y19_19 (by assumption) ?r19_19
              case y19_19 => (intro w hSw; (try dsimp only at hSw); first | (go_simp; done) | (go_simp; with_reducible rfl))
              try simp only [Act.put, List.setIfInBounds_toArray, List.set_cons_zero, List.set_cons_succ]
              refine wpAnyH_ready (rs := [21]) (by kernel_rfl) (by simp) ?_
              refine AllReadyH.cons rfl (fun K hK => ?_) ?_
              · refine step_storeB_st (cs := [sv [c], sv (t.take 400)]) (c := [.string ⟨#[]⟩, .string ⟨#[]⟩]) (d := [sv [c], sv (t.take 400)]) rfl 48 (.tmp 8) (.tmp 47) rfl szFile rfl rfl HONE.out H8.out (by simp) rfl ?_
                intro w10 h10
                have H10 := hide (h10.pick [0, 2] 3 (by decide) (by decide) (by simp))
                clear h10 H8
                refine hK.out _ _ ?_ (fun hHeld => ?_)
                · exact HCL.out _ H10.out.drop.drop
                clear hK K
                try simp only [Act.put, List.setIfInBounds_toArray, List.set_cons_zero, List.set_cons_succ]
                refine wpAnyH_done (by kernel_rfl) ?_ _
                clear hHeld
                have f0 : w10.cell? ⟨g9, 0, none⟩ = some (.string ⟨([c] : Str).toArray⟩) := H10.out.blk_cell mem0 0
                by_cases hin : ([c] : Str) ∈ keysOf (makeN l ns k)
                · have HIN := hide hin
                  clear hin
                  go_wp2_with (first
                    | (go_at_call 41; refine (rat_calls H10.out (Reads.of_rows mem1) [c]).mono ?_; rintro x w11 (⟨k2, rfl, hx, hw⟩ | ⟨rfl, hx, hw⟩); rotate_left; exact absurd HIN.out hx; subst hw; clear hx; have H11 := H10; clear H10))
                  go_roundw
                  case rel => exact ⟨k + 1, HK1.out, by go_num, bo, q, co, rfl, by rw [HSTEP.out, if_pos HIN.out]; exact HQ.out, by rw [HSTEP.out, if_pos HIN.out]; exact H11.out.drop⟩
                  case measure => exact meas_step (by omega)
                · have HIN := hide hin
                  clear hin
                  have QQ := hide (show (makeN l ns k).length + ([([c], t.take 400)] : List (Str × Str)).length ≤ maxLen ∧ ((makeN l ns k).length + ([([c], t.take 400)] : List (Str × Str)).length) * 32 ≤ 140737488355328 from by rw [← HQ.out]; have := HQK.out; simp only [List.length_cons, List.length_nil]; unfold maxLen; omega)
                  go_wp2_with (first
                    | (go_at_call 41; refine (rat_calls H10.out (Reads.of_rows mem1) [c]).mono ?_; rintro x w11 (⟨k2, rfl, hx, hw⟩ | ⟨rfl, hx, hw⟩); exact absurd hx HIN.out; subst hw; clear hx; have H11 := H10; clear H10)
                    | (refine wpList_loadB_st (cs := [sv [c], sv (t.take 400)]) rfl agFile (.tmp 8) rfl rfl rfl H11.out mem0 ?_)
                    | (refine wpList_build1_st (E := pairE) rfl (.tmp 54) slFile rfl ([c], t.take 400) rfl H11.out ?_ ?_; exact (fun _ _ _ => ⟨rfl, HO2.out.1, HO2.out.2⟩); intro g12 w12 h12; have H12 := hide h12.f2; clear h12 H11)
                    | (at_builtin; refine wpList_append_st (E := pairE) rfl (.tmp 53) (.tmp 55) slFile rfl H12.out (Src.of_rows mem1) rfl rfl QQ.out.1 QQ.out.2 ?_; intro b13 n13 c13 w13 hn13 h13; have H13 := hide (h13.pick [0] 3 (by decide) (by decide) (by simp)); have HN13 := hide hn13; clear h13 H12 hn13))
                  go_roundw
                  case rel => exact ⟨k + 1, HK1.out, by go_num, b13, n13, c13, rfl, by rw [HSTEP.out, if_neg HIN.out, HN13.out, List.length_append], by rw [HSTEP.out, if_neg HIN.out]; exact H13.out⟩
                  case measure => exact meas_step (by omega)
              exact AllReadyH.nil
            exact AllReadyH.nil
          exact AllReadyH.nil
        refine AllReadyH.cons rfl (fun K hK => ?_) ?_
        · refine step_alloc_ag rfl agFile rfl H8.out.drew ?_
          intro g9 w9 h9
          change K (Act.put _ (some 8) _) _
          have H9 := hide h9
          clear h9
          clear H8
          have H8 := H9
          clear H9
          refine hK.out _ _ ?_ (fun hHeld => ?_)
          · exact HCL.out _ H8.out.drop.drop
          clear hK K
          try simp only [Act.put, List.setIfInBounds_toArray, List.set_cons_zero, List.set_cons_succ]
          refine wpAnyH_ready (rs := [4]) (by kernel_rfl) (by simp) ?_
          refine AllReadyH.cons rfl (fun K hK => ?_) ?_
          · go_simp
            have hz := (H8.out.lit (T := 5) (fz := (0, 0)) [c] (show 1 ≤ maxLen by decide))
            have H9 := hide (show St b (HP.sl byteE (.slice (some ⟨_, 0, none⟩) 1 1) [c] :: _) (w9.alloc (.cells #[.int .u8 (c.toNat : Int)] 5)) from hz)
            clear hz
            clear H8
            have H8 := H9
            clear H9
            refine hK.out _ _ ?_ (fun hHeld => ?_)
            · exact HCL.out _ H8.out.drop.drop.drop
            clear hK K
            try simp only [Act.put, List.setIfInBounds_toArray, List.set_cons_zero, List.set_cons_succ]
            refine wpAnyH_ready (rs := [5]) (by kernel_rfl) (by simp) ?_
            refine AllReadyH.cons rfl (fun K hK => ?_) ?_
            · have cv8 := conv_str H8.out (Reads.of_sl mem0)
              go_simp
              refine hK.out _ _ ?_ (fun hHeld => ?_)
              · exact HCL.out _ H8.out.drop.drop.drop
              clear hK K
              try simp only [Act.put, List.setIfInBounds_toArray, List.set_cons_zero, List.set_cons_succ]
              refine wpAnyH_takeD (i := 19) (some 47) (v := ?v19_20) rfl rfl (by kernel_rfl) (by kernel_rfl) (by kernel_rfl) (fun _ _ _ h => h) (by rfl) ?y19_20 (by assumption) ?r19_20
              case y19_20 => (intro w hSw; (try dsimp only at hSw); first | (go_simp; done) | (go_simp; with_reducible rfl))
              try simp only [Act.put, List.setIfInBounds_toArray, List.set_cons_zero, List.set_cons_succ]
              refine wpAnyH_ready (rs := [21]) (by kernel_rfl) (by simp) ?_
              refine AllReadyH.cons rfl (fun K hK => ?_) ?_
              · refine step_storeB_st (cs := [sv [c], sv (t.take 400)]) (c := [.string ⟨#[]⟩, .string ⟨#[]⟩]) (d := [sv [c], sv (t.take 400)]) rfl 48 (.tmp 8) (.tmp 47) rfl szFile rfl rfl HONE.out H8.out.f1 (by simp) rfl ?_
                intro w10 h10
                have H10 := hide (h10.pick [0, 2] 3 (by decide) (by decide) (by simp))
                clear h10 H8
                refine hK.out _ _ ?_ (fun hHeld => ?_)
                · exact HCL.out _ H10.out.drop.drop
                clear hK K
                try simp only [Act.put, List.setIfInBounds_toArray, List.set_cons_zero, List.set_cons_succ]
                refine wpAnyH_done (by kernel_rfl) ?_ _
                clear hHeld
                have f0 : w10.cell? ⟨g9, 0, none⟩ = some (.string ⟨([c] : Str).toArray⟩) := H10.out.blk_cell mem0 0
                by_cases hin : ([c] : Str) ∈ keysOf (makeN l ns k)
                · have HIN := hide hin
                  clear hin
                  go_wp2_with (first
                    | (go_at_call 41; refine (rat_calls H10.out (Reads.of_rows mem1) [c]).mono ?_; rintro x w11 (⟨k2, rfl, hx, hw⟩ | ⟨rfl, hx, hw⟩); rotate_left; exact absurd HIN.out hx; subst hw; clear hx; have H11 := H10; clear H10))
                  go_roundw
                  case rel => exact ⟨k + 1, HK1.out, by go_num, bo, q, co, rfl, by rw [HSTEP.out, if_pos HIN.out]; exact HQ.out, by rw [HSTEP.out, if_pos HIN.out]; exact H11.out.drop⟩
                  case measure => exact meas_step (by omega)
                · have HIN := hide hin
                  clear hin
                  have QQ := hide (show (makeN l ns k).length + ([([c], t.take 400)] : List (Str × Str)).length ≤ maxLen ∧ ((makeN l ns k).length + ([([c], t.take 400)] : List (Str × Str)).length) * 32 ≤ 140737488355328 from by rw [← HQ.out]; have := HQK.out; simp only [List.length_cons, List.length_nil]; unfold maxLen; omega)
                  go_wp2_with (first
                    | (go_at_call 41; refine (rat_calls H10.out (Reads.of_rows mem1) [c]).mono ?_; rintro x w11 (⟨k2, rfl, hx, hw⟩ | ⟨rfl, hx, hw⟩); exact absurd hx HIN.out; subst hw; clear hx; have H11 := H10; clear H10)
                    | (refine wpList_loadB_st (cs := [sv [c], sv (t.take 400)]) rfl agFile (.tmp 8) rfl rfl rfl H11.out mem0 ?_)
                    | (refine wpList_build1_st (E := pairE) rfl (.tmp 54) slFile rfl ([c], t.take 400) rfl H11.out ?_ ?_; exact (fun _ _ _ => ⟨rfl, HO2.out.1, HO2.out.2⟩); intro g12 w12 h12; have H12 := hide h12.f2; clear h12 H11)
                    | (at_builtin; refine wpList_append_st (E := pairE) rfl (.tmp 53) (.tmp 55) slFile rfl H12.out (Src.of_rows mem1) rfl rfl QQ.out.1 QQ.out.2 ?_; intro b13 n13 c13 w13 hn13 h13; have H13 := hide (h13.pick [0] 3 (by decide) (by decide) (by simp)); have HN13 := hide hn13; clear h13 H12 hn13))
                  go_roundw
                  case rel => exact ⟨k + 1, HK1.out, by go_num, b13, n13, c13, rfl, by rw [HSTEP.out, if_neg HIN.out, HN13.out, List.length_append], by rw [HSTEP.out, if_neg HIN.out]; exact H13.out⟩
                  case measure => exact meas_step (by omega)
              exact AllReadyH.nil
            exact AllReadyH.nil
          exact AllReadyH.nil
        exact AllReadyH.nil
      · have hkm' : ¬ (k : Int) < m := by omega
        have hke : (k : Int) = kk := by rw [← hkk]; simp [List.getD, HMN.out, hkm]
        subst hke
        clear hkk
        go_wp2_with fail
        refine wp_region_held_drew (S := fun w' => w'.cell? ⟨gr, or + k * 2 + 1, none⟩ = some (.string ⟨t.toArray⟩)) (by kernel_rfl) ?_ (fun hHeld => ?_)
        · exact HCL.out _ H1.out.drop.drew
        have H8 := hide H1.out
        clear H1
        refine wpAnyH_takeD (i := 0) (some 28) (v := ?v0_21) rfl rfl (by kernel_rfl) (by kernel_rfl) (by kernel_rfl) (fun _ _ _ h => h) (by rfl) ?y0_21 (by assumption) ?r0_21
        case y0_21 => (intro w hSw; (try dsimp only at hSw); first | (go_simp; done) | (go_simp; with_reducible rfl))
        try simp only [Act.put, List.setIfInBounds_toArray, List.set_cons_zero, List.set_cons_succ]
        refine wpAnyH_tellsD (i := 1) (some 29) (v := .int .i64 (r : Int)) rfl rfl (by kernel_rfl) (by kernel_rfl) (by kernel_rfl) (fun _ _ _ h => h) ⟨by rfl, 14, #[.int .i64 (k : Int), .int .i64 5], fun w hSw => ⟨?y1_22, T1.out w⟩⟩ (by assumption) ?r1_22
        case y1_22 => first | (go_simp; done) | (go_simp; with_reducible rfl)
        try simp only [Act.put, List.setIfInBounds_toArray, List.set_cons_zero, List.set_cons_succ]
        refine wpAnyH_takeD (i := 2) (some 30) (v := ?v2_23) rfl rfl (by kernel_rfl) (by kernel_rfl) (by kernel_rfl) (fun _ _ _ h => h) (by rfl) ?y2_23 (by assumption) ?r2_23
        case y2_23 => (intro w hSw; (try dsimp only at hSw); first | (go_simp; done) | (go_simp; with_reducible rfl))
        try simp only [Act.put, List.setIfInBounds_toArray, List.set_cons_zero, List.set_cons_succ]
        refine wpAnyH_takeD (i := 3) (some 31) (v := ?v3_24) rfl rfl (by kernel_rfl) (by kernel_rfl) (by kernel_rfl) (fun _ _ _ h => h) (by rfl) ?y3_24 (by assumption) ?r3_24
        case y3_24 => (intro w hSw; (try dsimp only at hSw); first | (go_simp; done) | (go_simp; with_reducible rfl))
        try simp only [Act.put, List.setIfInBounds_toArray, List.set_cons_zero, List.set_cons_succ]
        refine wpAnyH_takeD (i := 6) (some 34) (v := ?v6_25) rfl rfl (by kernel_rfl) (by kernel_rfl) (by kernel_rfl) (fun _ _ _ h => h) (by rfl) ?y6_25 (by assumption) ?r6_25
        case y6_25 => (intro w hSw; (try dsimp only at hSw); first | (go_simp; done) | (go_simp; with_reducible rfl))
        try simp only [Act.put, List.setIfInBounds_toArray, List.set_cons_zero, List.set_cons_succ]
        refine wpAnyH_takeD (i := 7) (some 35) (v := ?v7_26) rfl rfl (by kernel_rfl) (by kernel_rfl) (by kernel_rfl) (fun _ _ _ h => h) (by rfl) ?y7_26 (by assumption) ?r7_26
        case y7_26 => (intro w hSw; (try dsimp only at hSw); first | (go_simp; done) | (go_simp; with_reducible rfl))
        try simp only [Act.put, List.setIfInBounds_toArray, List.set_cons_zero, List.set_cons_succ]
        refine wpAnyH_takeD (i := 8) (some 36) (v := ?v8_27) rfl rfl (by kernel_rfl) (by kernel_rfl) (by kernel_rfl) (fun _ _ _ h => h) (by rfl) ?y8_27 (by assumption) ?r8_27
        case y8_27 => (intro w hSw; (try dsimp only at hSw); first | (go_simp; done) | (go_simp; with_reducible rfl))
        try simp only [Act.put, List.setIfInBounds_toArray, List.set_cons_zero, List.set_cons_succ]
        refine wpAnyH_takeD (i := 9) (some 37) (v := ?v9_28) rfl rfl (by kernel_rfl) (by kernel_rfl) (by kernel_rfl) (fun _ _ _ h => h) (by rfl) ?y9_28 (by assumption) ?r9_28
        case y9_28 => (intro w hSw; (try dsimp only at hSw); first | (go_simp; done) | (go_simp; with_reducible rfl))
        try simp only [Act.put, List.setIfInBounds_toArray, List.set_cons_zero, List.set_cons_succ]
        refine wpAnyH_takeD (i := 10) (some 38) (v := ?v10_29) rfl rfl (by kernel_rfl) (by kernel_rfl) (by kernel_rfl) (fun _ _ _ h => h) (by rfl) ?y10_29 (by assumption) ?r10_29
        case y10_29 => (intro w hSw; (try dsimp only at hSw); first | (go_simp; done) | (go_simp; with_reducible rfl))
        try simp only [Act.put, List.setIfInBounds_toArray, List.set_cons_zero, List.set_cons_succ]
        refine wpAnyH_takeD (i := 11) (some 39) (v := ?v11_30) rfl rfl (by kernel_rfl) (by kernel_rfl) (by kernel_rfl) (fun _ _ _ h => h) (by rfl) ?y11_30 (by assumption) ?r11_30
        case y11_30 => (intro w hSw; (try dsimp only at hSw); first | (go_simp; done) | (go_simp; with_reducible rfl))
        try simp only [Act.put, List.setIfInBounds_toArray, List.set_cons_zero, List.set_cons_succ]
        refine wpAnyH_takeD (i := 12) (some 40) (v := ?v12_31) rfl rfl (by kernel_rfl) (by kernel_rfl) (by kernel_rfl) (fun _ _ _ h => h) (by rfl) ?y12_31 (by assumption) ?r12_31
        case y12_31 => (intro w hSw; (try dsimp only at hSw); first | (go_simp; done) | (go_simp; with_reducible rfl))
        try simp only [Act.put, List.setIfInBounds_toArray, List.set_cons_zero, List.set_cons_succ]
        refine wpAnyH_takeD (i := 13) (some 41) (v := ?v13_32) rfl rfl (by kernel_rfl) (by kernel_rfl) (by kernel_rfl) (fun _ _ _ h => h) (by rfl) ?y13_32 (by assumption) ?r13_32
        case y13_32 => (intro w hSw; (try dsimp only at hSw); first | (go_simp; done) | (go_simp; with_reducible rfl))
        try simp only [Act.put, List.setIfInBounds_toArray, List.set_cons_zero, List.set_cons_succ]
        refine wpAnyH_takeD (i := 14) (some 42) (v := ?v14_33) rfl rfl (by kernel_rfl) (by kernel_rfl) (by kernel_rfl) (fun _ _ _ h => h) (by rfl) ?y14_33 (by assumption) ?r14_33
        case y14_33 => (intro w hSw; (try dsimp only at hSw); first | (go_simp; done) | (go_simp; with_reducible rfl))
        try simp only [Act.put, List.setIfInBounds_toArray, List.set_cons_zero, List.set_cons_succ]
        refine wpAnyH_takeD (i := 15) (some 43) (v := ?v15_34) rfl rfl (by kernel_rfl) (by kernel_rfl) (by kernel_rfl) (fun _ _ _ h => h) (by rfl) ?y15_34 (by assumption) ?r15_34
        case y15_34 => (intro w hSw; (try dsimp only at hSw); first | (go_simp; done) | (go_simp; with_reducible rfl))
        try simp only [Act.put, List.setIfInBounds_toArray, List.set_cons_zero, List.set_cons_succ]
        refine wpAnyH_takeD (i := 16) (some 44) (v := ?v16_35) rfl rfl (by kernel_rfl) (by kernel_rfl) (by kernel_rfl) (fun _ _ _ h => h) (by rfl) ?y16_35 (by assumption) ?r16_35
        case y16_35 => (intro w hSw; (try dsimp only at hSw); first | (go_simp; done) | (go_simp; with_reducible rfl))
        try simp only [Act.put, List.setIfInBounds_toArray, List.set_cons_zero, List.set_cons_succ]
        refine wpAnyH_takeD (i := 17) (some 45) (v := ?v17_36) rfl rfl (by kernel_rfl) (by kernel_rfl) (by kernel_rfl) (fun _ _ _ h => h) (by rfl) ?y17_36 (by assumption) ?r17_36
        case y17_36 => (intro w hSw; (try dsimp only at hSw); first | (go_simp; done) | (go_simp; with_reducible rfl))
        try simp only [Act.put, List.setIfInBounds_toArray, List.set_cons_zero, List.set_cons_succ]
        refine wpAnyH_takeD (i := 18) (some 46) (v := ?v18_37) rfl rfl (by kernel_rfl) (by kernel_rfl) (by kernel_rfl) (fun _ _ _ h => h) (by rfl) ?y18_37 (by assumption) ?r18_37
        case y18_37 => (intro w hSw; (try dsimp only at hSw); first | (go_simp; done) | (go_simp; with_reducible rfl))
        try simp only [Act.put, List.setIfInBounds_toArray, List.set_cons_zero, List.set_cons_succ]
        refine wpAnyH_ready (rs := [4, 20]) (by kernel_rfl) (by simp) ?_
        refine AllReadyH.cons rfl (fun K hK => ?_) ?_
        · go_simp
          have hz := (H8.out.lit (T := 5) (fz := (0, 0)) [c] (show 1 ≤ maxLen by decide)).drew
          have H9 := hide (show St b (HP.sl byteE (.slice (some ⟨_, 0, none⟩) 1 1) [c] :: _) (wr.alloc (.cells #[.int .u8 (c.toNat : Int)] 5)).drew from hz)
          clear hz
          clear H8
          have H8 := H9
          clear H9
          refine hK.out _ _ ?_ (fun hHeld => ?_)
          · exact HCL.out _ H8.out.drop.drop
          clear hK K
          try simp only [Act.put, List.setIfInBounds_toArray, List.set_cons_zero, List.set_cons_succ]
          refine wpAnyH_ready (rs := [5, 20]) (by kernel_rfl) (by simp) ?_
          refine AllReadyH.cons rfl (fun K hK => ?_) ?_
          · have cv8 := conv_str H8.out (Reads.of_sl mem0)
            go_simp
            refine hK.out _ _ ?_ (fun hHeld => ?_)
            · exact HCL.out _ H8.out.drop.drop
            clear hK K
            try simp only [Act.put, List.setIfInBounds_toArray, List.set_cons_zero, List.set_cons_succ]
            refine wpAnyH_takeD (i := 19) (some 47) (v := ?v19_38) rfl rfl (by kernel_rfl) (by kernel_rfl) (by kernel_rfl) (fun _ _ _ h => h) (by rfl) ?y19_38 (by assumption) ?r19_38
            case y19_38 => (intro w hSw; (try dsimp only at hSw); first | (go_simp; done) | (go_simp; with_reducible rfl))
            try simp only [Act.put, List.setIfInBounds_toArray, List.set_cons_zero, List.set_cons_succ]
            refine wpAnyH_ready (rs := [20]) (by kernel_rfl) (by simp) ?_
            refine AllReadyH.cons rfl (fun K hK => ?_) ?_
            · refine step_alloc_ag rfl agFile rfl H8.out ?_
              intro g9 w9 h9
              change K (Act.put _ (some 8) _) _
              have H9 := hide h9
              clear h9
              clear H8
              have H8 := H9
              clear H9
              refine hK.out _ _ ?_ (fun hHeld => ?_)
              · exact HCL.out _ H8.out.drop.drop.drop
              clear hK K
              try simp only [Act.put, List.setIfInBounds_toArray, List.set_cons_zero, List.set_cons_succ]
              refine wpAnyH_ready (rs := [21]) (by kernel_rfl) (by simp) ?_
              refine AllReadyH.cons rfl (fun K hK => ?_) ?_
              · refine step_storeB_st (cs := [sv [c], sv (t.take 400)]) (c := [.string ⟨#[]⟩, .string ⟨#[]⟩]) (d := [sv [c], sv (t.take 400)]) rfl 48 (.tmp 8) (.tmp 47) rfl szFile rfl rfl HONE.out H8.out (by simp) rfl ?_
                intro w10 h10
                have H10 := hide (h10.pick [0, 2] 3 (by decide) (by decide) (by simp))
                clear h10 H8
                refine hK.out _ _ ?_ (fun hHeld => ?_)
                · exact HCL.out _ H10.out.drop.drop
                clear hK K
                try simp only [Act.put, List.setIfInBounds_toArray, List.set_cons_zero, List.set_cons_succ]
                refine wpAnyH_done (by kernel_rfl) ?_ _
                clear hHeld
                have f0 : w10.cell? ⟨g9, 0, none⟩ = some (.string ⟨([c] : Str).toArray⟩) := H10.out.blk_cell mem0 0
                by_cases hin : ([c] : Str) ∈ keysOf (makeN l ns k)
                · have HIN := hide hin
                  clear hin
                  go_wp2_with (first
                    | (go_at_call 41; refine (rat_calls H10.out (Reads.of_rows mem1) [c]).mono ?_; rintro x w11 (⟨k2, rfl, hx, hw⟩ | ⟨rfl, hx, hw⟩); rotate_left; exact absurd HIN.out hx; subst hw; clear hx; have H11 := H10; clear H10))
                  go_roundw
                  case rel => exact ⟨k + 1, HK1.out, by go_num, bo, q, co, rfl, by rw [HSTEP.out, if_pos HIN.out]; exact HQ.out, by rw [HSTEP.out, if_pos HIN.out]; exact H11.out.drop⟩
                  case measure => exact meas_step (by omega)
                · have HIN := hide hin
                  clear hin
                  have QQ := hide (show (makeN l ns k).length + ([([c], t.take 400)] : List (Str × Str)).length ≤ maxLen ∧ ((makeN l ns k).length + ([([c], t.take 400)] : List (Str × Str)).length) * 32 ≤ 140737488355328 from by rw [← HQ.out]; have := HQK.out; simp only [List.length_cons, List.length_nil]; unfold maxLen; omega)
                  go_wp2_with (first
                    | (go_at_call 41; refine (rat_calls H10.out (Reads.of_rows mem1) [c]).mono ?_; rintro x w11 (⟨k2, rfl, hx, hw⟩ | ⟨rfl, hx, hw⟩); exact absurd hx HIN.out; subst hw; clear hx; have H11 := H10; clear H10)
                    | (refine wpList_loadB_st (cs := [sv [c], sv (t.take 400)]) rfl agFile (.tmp 8) rfl rfl rfl H11.out mem0 ?_)
                    | (refine wpList_build1_st (E := pairE) rfl (.tmp 54) slFile rfl ([c], t.take 400) rfl H11.out ?_ ?_; exact (fun _ _ _ => ⟨rfl, HO2.out.1, HO2.out.2⟩); intro g12 w12 h12; have H12 := hide h12.f2; clear h12 H11)
                    | (at_builtin; refine wpList_append_st (E := pairE) rfl (.tmp 53) (.tmp 55) slFile rfl H12.out (Src.of_rows mem1) rfl rfl QQ.out.1 QQ.out.2 ?_; intro b13 n13 c13 w13 hn13 h13; have H13 := hide (h13.pick [0] 3 (by decide) (by decide) (by simp)); have HN13 := hide hn13; clear h13 H12 hn13))
                  go_roundw
                  case rel => exact ⟨k + 1, HK1.out, by go_num, b13, n13, c13, rfl, by rw [HSTEP.out, if_neg HIN.out, HN13.out, List.length_append], by rw [HSTEP.out, if_neg HIN.out]; exact H13.out⟩
                  case measure => exact meas_step (by omega)
              exact AllReadyH.nil
            exact AllReadyH.nil
          refine AllReadyH.cons rfl (fun K hK => ?_) ?_
          · refine step_alloc_ag rfl agFile rfl H8.out ?_
            intro g9 w9 h9
            change K (Act.put _ (some 8) _) _
            have H9 := hide h9
            clear h9
            clear H8
            have H8 := H9
            clear H9
            refine hK.out _ _ ?_ (fun hHeld => ?_)
            · exact HCL.out _ H8.out.drop.drop.drop
            clear hK K
            try simp only [Act.put, List.setIfInBounds_toArray, List.set_cons_zero, List.set_cons_succ]
            refine wpAnyH_ready (rs := [5]) (by kernel_rfl) (by simp) ?_
            refine AllReadyH.cons rfl (fun K hK => ?_) ?_
            · have cv8 := conv_str H8.out (Reads.of_sl mem1)
              go_simp
              refine hK.out _ _ ?_ (fun hHeld => ?_)
              · exact HCL.out _ H8.out.drop.drop.drop
              clear hK K
              try simp only [Act.put, List.setIfInBounds_toArray, List.set_cons_zero, List.set_cons_succ]
              refine wpAnyH_takeD (i := 19) (some 47) (v := ?v19_39) rfl rfl (by kernel_rfl) (by kernel_rfl) (by kernel_rfl) (fun _ _ _ h => h) (by rfl) ?y19_39 (by assumption) ?r19_39
              case y19_39 => (intro w hSw; (try dsimp only at hSw); first | (go_simp; done) | (go_simp; with_reducible rfl))
              try simp only [Act.put, List.setIfInBounds_toArray, List.set_cons_zero, List.set_cons_succ]
              refine wpAnyH_ready (rs := [21]) (by kernel_rfl) (by simp) ?_
              refine AllReadyH.cons rfl (fun K hK => ?_) ?_
              · refine step_storeB_st (cs := [sv [c], sv (t.take 400)]) (c := [.string ⟨#[]⟩, .string ⟨#[]⟩]) (d := [sv [c], sv (t.take 400)]) rfl 48 (.tmp 8) (.tmp 47) rfl szFile rfl rfl HONE.out H8.out (by simp) rfl ?_
                intro w10 h10
                have H10 := hide (h10.pick [0, 2] 3 (by decide) (by decide) (by simp))
                clear h10 H8
                refine hK.out _ _ ?_ (fun hHeld => ?_)
                · exact HCL.out _ H10.out.drop.drop
                clear hK K
                try simp only [Act.put, List.setIfInBounds_toArray, List.set_cons_zero, List.set_cons_succ]
                refine wpAnyH_done (by kernel_rfl) ?_ _
                clear hHeld
                have f0 : w10.cell? ⟨g9, 0, none⟩ = some (.string ⟨([c] : Str).toArray⟩) := H10.out.blk_cell mem0 0
                by_cases hin : ([c] : Str) ∈ keysOf (makeN l ns k)
                · have HIN := hide hin
                  clear hin
                  go_wp2_with (first
                    | (go_at_call 41; refine (rat_calls H10.out (Reads.of_rows mem1) [c]).mono ?_; rintro x w11 (⟨k2, rfl, hx, hw⟩ | ⟨rfl, hx, hw⟩); rotate_left; exact absurd HIN.out hx; subst hw; clear hx; have H11 := H10; clear H10))
                  go_roundw
                  case rel => exact ⟨k + 1, HK1.out, by go_num, bo, q, co, rfl, by rw [HSTEP.out, if_pos HIN.out]; exact HQ.out, by rw [HSTEP.out, if_pos HIN.out]; exact H11.out.drop⟩
                  case measure => exact meas_step (by omega)
                · have HIN := hide hin
                  clear hin
                  have QQ := hide (show (makeN l ns k).length + ([([c], t.take 400)] : List (Str × Str)).length ≤ maxLen ∧ ((makeN l ns k).length + ([([c], t.take 400)] : List (Str × Str)).length) * 32 ≤ 140737488355328 from by rw [← HQ.out]; have := HQK.out; simp only [List.length_cons, List.length_nil]; unfold maxLen; omega)
                  go_wp2_with (first
                    | (go_at_call 41; refine (rat_calls H10.out (Reads.of_rows mem1) [c]).mono ?_; rintro x w11 (⟨k2, rfl, hx, hw⟩ | ⟨rfl, hx, hw⟩); exact absurd hx HIN.out; subst hw; clear hx; have H11 := H10; clear H10)
                    | (refine wpList_loadB_st (cs := [sv [c], sv (t.take 400)]) rfl agFile (.tmp 8) rfl rfl rfl H11.out mem0 ?_)
                    | (refine wpList_build1_st (E := pairE) rfl (.tmp 54) slFile rfl ([c], t.take 400) rfl H11.out ?_ ?_; exact (fun _ _ _ => ⟨rfl, HO2.out.1, HO2.out.2⟩); intro g12 w12 h12; have H12 := hide h12.f2; clear h12 H11)
                    | (at_builtin; refine wpList_append_st (E := pairE) rfl (.tmp 53) (.tmp 55) slFile rfl H12.out (Src.of_rows mem1) rfl rfl QQ.out.1 QQ.out.2 ?_; intro b13 n13 c13 w13 hn13 h13; have H13 := hide (h13.pick [0] 3 (by decide) (by decide) (by simp)); have HN13 := hide hn13; clear h13 H12 hn13))
                  go_roundw
                  case rel => exact ⟨k + 1, HK1.out, by go_num, b13, n13, c13, rfl, by rw [HSTEP.out, if_neg HIN.out, HN13.out, List.length_append], by rw [HSTEP.out, if_neg HIN.out]; exact H13.out⟩
                  case measure => exact meas_step (by omega)
              exact AllReadyH.nil
            exact AllReadyH.nil
          exact AllReadyH.nil
        refine AllReadyH.cons rfl (fun K hK => ?_) ?_
        · refine step_alloc_ag rfl agFile rfl H8.out.drew ?_
          intro g9 w9 h9
          change K (Act.put _ (some 8) _) _
          have H9 := hide h9
          clear h9
          clear H8
          have H8 := H9
          clear H9
          refine hK.out _ _ ?_ (fun hHeld => ?_)
          · exact HCL.out _ H8.out.drop.drop
          clear hK K
          try simp only [Act.put, List.setIfInBounds_toArray, List.set_cons_zero, List.set_cons_succ]
          refine wpAnyH_ready (rs := [4]) (by kernel_rfl) (by simp) ?_
          refine AllReadyH.cons rfl (fun K hK => ?_) ?_
          · go_simp
            have hz := (H8.out.lit (T := 5) (fz := (0, 0)) [c] (show 1 ≤ maxLen by decide))
            have H9 := hide (show St b (HP.sl byteE (.slice (some ⟨_, 0, none⟩) 1 1) [c] :: _) (w9.alloc (.cells #[.int .u8 (c.toNat : Int)] 5)) from hz)
            clear hz
            clear H8
            have H8 := H9
            clear H9
            refine hK.out _ _ ?_ (fun hHeld => ?_)
            · exact HCL.out _ H8.out.drop.drop.drop
            clear hK K
            try simp only [Act.put, List.setIfInBounds_toArray, List.set_cons_zero, List.set_cons_succ]
            refine wpAnyH_ready (rs := [5]) (by kernel_rfl) (by simp) ?_
            refine AllReadyH.cons rfl (fun K hK => ?_) ?_
            · have cv8 := conv_str H8.out (Reads.of_sl mem0)
              go_simp
              refine hK.out _ _ ?_ (fun hHeld => ?_)
              · exact HCL.out _ H8.out.drop.drop.drop
              clear hK K
              try simp only [Act.put, List.setIfInBounds_toArray, List.set_cons_zero, List.set_cons_succ]
              refine wpAnyH_takeD (i := 19) (some 47) (v := ?v19_40) rfl rfl (by kernel_rfl) (by kernel_rfl) (by kernel_rfl) (fun _ _ _ h => h) (by rfl) ?y19_40 (by assumption) ?r19_40
              case y19_40 => (intro w hSw; (try dsimp only at hSw); first | (go_simp; done) | (go_simp; with_reducible rfl))
              try simp only [Act.put, List.setIfInBounds_toArray, List.set_cons_zero, List.set_cons_succ]
              refine wpAnyH_ready (rs := [21]) (by kernel_rfl) (by simp) ?_
              refine AllReadyH.cons rfl (fun K hK => ?_) ?_
              · refine step_storeB_st (cs := [sv [c], sv (t.take 400)]) (c := [.string ⟨#[]⟩, .string ⟨#[]⟩]) (d := [sv [c], sv (t.take 400)]) rfl 48 (.tmp 8) (.tmp 47) rfl szFile rfl rfl HONE.out H8.out.f1 (by simp) rfl ?_
                intro w10 h10
                have H10 := hide (h10.pick [0, 2] 3 (by decide) (by decide) (by simp))
                clear h10 H8
                refine hK.out _ _ ?_ (fun hHeld => ?_)
                · exact HCL.out _ H10.out.drop.drop
                clear hK K
                try simp only [Act.put, List.setIfInBounds_toArray, List.set_cons_zero, List.set_cons_succ]
                refine wpAnyH_done (by kernel_rfl) ?_ _
                clear hHeld
                have f0 : w10.cell? ⟨g9, 0, none⟩ = some (.string ⟨([c] : Str).toArray⟩) := H10.out.blk_cell mem0 0
                by_cases hin : ([c] : Str) ∈ keysOf (makeN l ns k)
                · have HIN := hide hin
                  clear hin
                  go_wp2_with (first
                    | (go_at_call 41; refine (rat_calls H10.out (Reads.of_rows mem1) [c]).mono ?_; rintro x w11 (⟨k2, rfl, hx, hw⟩ | ⟨rfl, hx, hw⟩); rotate_left; exact absurd HIN.out hx; subst hw; clear hx; have H11 := H10; clear H10))
                  go_roundw
                  case rel => exact ⟨k + 1, HK1.out, by go_num, bo, q, co, rfl, by rw [HSTEP.out, if_pos HIN.out]; exact HQ.out, by rw [HSTEP.out, if_pos HIN.out]; exact H11.out.drop⟩
                  case measure => exact meas_step (by omega)
                · have HIN := hide hin
                  clear hin
                  have QQ := hide (show (makeN l ns k).length + ([([c], t.take 400)] : List (Str × Str)).length ≤ maxLen ∧ ((makeN l ns k).length + ([([c], t.take 400)] : List (Str × Str)).length) * 32 ≤ 140737488355328 from by rw [← HQ.out]; have := HQK.out; simp only [List.length_cons, List.length_nil]; unfold maxLen; omega)
                  go_wp2_with (first
                    | (go_at_call 41; refine (rat_calls H10.out (Reads.of_rows mem1) [c]).mono ?_; rintro x w11 (⟨k2, rfl, hx, hw⟩ | ⟨rfl, hx, hw⟩); exact absurd hx HIN.out; subst hw; clear hx; have H11 := H10; clear H10)
                    | (refine wpList_loadB_st (cs := [sv [c], sv (t.take 400)]) rfl agFile (.tmp 8) rfl rfl rfl H11.out mem0 ?_)
                    | (refine wpList_build1_st (E := pairE) rfl (.tmp 54) slFile rfl ([c], t.take 400) rfl H11.out ?_ ?_; exact (fun _ _ _ => ⟨rfl, HO2.out.1, HO2.out.2⟩); intro g12 w12 h12; have H12 := hide h12.f2; clear h12 H11)
                    | (at_builtin; refine wpList_append_st (E := pairE) rfl (.tmp 53) (.tmp 55) slFile rfl H12.out (Src.of_rows mem1) rfl rfl QQ.out.1 QQ.out.2 ?_; intro b13 n13 c13 w13 hn13 h13; have H13 := hide (h13.pick [0] 3 (by decide) (by decide) (by simp)); have HN13 := hide hn13; clear h13 H12 hn13))
                  go_roundw
                  case rel => exact ⟨k + 1, HK1.out, by go_num, b13, n13, c13, rfl, by rw [HSTEP.out, if_neg HIN.out, HN13.out, List.length_append], by rw [HSTEP.out, if_neg HIN.out]; exact H13.out⟩
                  case measure => exact meas_step (by omega)
              exact AllReadyH.nil
            exact AllReadyH.nil
          exact AllReadyH.nil
        exact AllReadyH.nil
    · have H2 := hide hs
      have hkM : k = min l.length 8 := by rw [HN.out]; omega
      have HF : Hid (makeN l ns k = makeL l ns) := hide (by rw [hkM]; rfl)
      have HQ := hide hq
      clear hs hq hkM
      by_cases hkn : k < n
      · have h1 : (k : Int) < n := by omega
        have h2 : ¬ (k : Int) < 8 := by omega
        go_wp2_with fail
        go_ret
        exact ⟨bo, q, co, rfl, by rw [HQ.out, HF.out], by rw [← HF.out]; exact H2.out⟩
      · have h1 : ¬ (k : Int) < n := by omega
        go_wp2_with fail
        go_ret
        exact ⟨bo, q, co, rfl, by rw [HQ.out, HF.out], by rw [← HF.out]; exact H2.out⟩
end Go.Proofs.YtcgnkloljfgiaaaGreatDoor
