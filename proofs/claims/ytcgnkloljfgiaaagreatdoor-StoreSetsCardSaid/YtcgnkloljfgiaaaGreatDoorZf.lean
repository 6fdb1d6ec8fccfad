/-
  deadboltlaw4: within, known. deadboltlaw4.Few; deadboltref4.At. deadboltref4.Same.
-/
import Derived.Test.YtcgnkloljfgiaaaGreatDoorZe
import Derived.Laws.StructEq
namespace Go.Proofs.YtcgnkloljfgiaaaGreatDoor
open Go.RowKit Go.Maps Go.MapKept
variable {b : Env} {L : List HP} {w : World} {gd : Nat} {d : Dk}
theorem within4_calls (k n : Int) (hn : 0 < n) (hn2 : n ≤ 4294967296) (hk1 : -9223372036854775808 ≤ k) (hk2 : k ≤ 9223372036854775807) : Calls Tryz.prog 14 #[.int .i64 k, .int .i64 n] w fun x w' => x = .returned (.int .i64 (k % n)) ∧ w = w' := by
  by_cases h0 : 0 ≤ k
  · have hnn : decide (k % n < 0) = false := by simpa using Int.emod_nonneg k (show n ≠ 0 by omega)
    go_enter Tryz.func14, Tryz.ntmps14
    go_wp2
    go_ret
    exact ⟨rfl, rfl⟩
  · have hf := tmod_facts k n hn (by omega)
    obtain ⟨f1, f2, f3, f4⟩ := hf
    have F3 := hide f3
    have F4 := hide f4
    clear f3 f4
    by_cases h1 : k.tmod n < 0
    · go_enter Tryz.func14, Tryz.ntmps14
      go_wp2
      go_ret
      exact ⟨by rw [F3.out h1]; rfl, rfl⟩
    · go_enter Tryz.func14, Tryz.ntmps14
      go_wp2
      go_ret
      exact ⟨by rw [F4.out (by omega)]; rfl, rfl⟩
theorem okL_one {s t : Str} (h : Nm s) (ht : t.length ≤ 2000) : OkL [(s, t)] := ⟨by simp, by intro p hp; rw [List.mem_singleton] at hp; subst hp; exact h, by intro p hp; rw [List.mem_singleton] at hp; subst hp; exact ht, by simp⟩
theorem canon_one (s t : Str) : canon [(s, t)] = [(s, t)] := canon_self (by simp [Inc])
theorem St.file1 {T : TypeId} {s t : Str} (h : St b L w) (hs : okStr s) (ht : okStr t) : St b (HP.rows T pairE (.slice (some ⟨w.heap.size, 0, none⟩) 1 1) [(s, t)] :: L) (w.alloc (.cells #[sv s, sv t] T)) :=
  St.rows1 (E := pairE) (cs := [sv s, sv t]) (h.alloc _) (s, t) (fun _ _ _ => ⟨rfl, hs, ht⟩)
set_option linter.unusedSimpArgs false in
set_option maxRecDepth 100000 in
set_option maxHeartbeats 4000000 in
theorem known4_calls (h : St b L w) (hsp : HP.spaces ∈ L) : Calls Tryz.prog 11 #[] w fun x w' => x = .returned (.bool true) ∧ St b L w' := by
  obtain ⟨d1, l1, k1, o1, o2, o3, o4, o5, o6⟩ := open_new 8 (by decide) (by decide)
  have hA := alive_fresh 8 (by omega)
  have hnm : Nm [97] := ⟨97, rfl, by decide, by decide⟩
  have hL1 := okL_one (s := [97]) (t := [120]) hnm (by decide)
  have hG : OkF [(([97] : Str), ([120] : Str))] := by have := hL1.okF; rw [canon_one] at this; exact this
  obtain ⟨-, -, c3⟩ := commit_alive (G := [([97], [120])]) o3 (by omega) (by decide) hG (by omega)
  obtain ⟨d2, l2, k2, e1, -, -⟩ := c3 (by decide) (by intro e; cases e)
  have H := hide h
  have HSP := hide hsp
  have HA := hide hA
  have HO := hide (And.intro o1 (And.intro o2 (And.intro o3 (And.intro o4 (And.intro o5 o6)))))
  have HL1 := hide hL1
  have HG := hide hG
  have HE := hide e1
  have HT0 : Hid (ReplayOf [] []) := hide (Or.inl ⟨rfl, rfl⟩)
  clear h hsp hA o1 o2 o3 o4 o5 o6 hL1 hG e1 c3 hnm
  go_enter Tryz.func11, Tryz.ntmps11
  go_wp2_with (first
    | (go_at_call 21; refine (dnew_calls H.out 8 (by omega) (by omega) (by omega)).mono ?_; rintro x w1 ⟨gd, rfl, h1⟩; have H1 := hide h1; clear h1 H)
    | (go_at_call 15; refine (sopen_calls H1.out HA.out (by decide) HO.out.1 HT0.out okF_nil HO.out.2.1 (by decide) (by decide) (by decide) HSP.out).mono ?_; rintro x w2 ⟨gs, rfl, gl, m, kv, hcan, h2⟩; have H2 := hide h2.f1; have HC2 := hide hcan; clear h2 hcan H1)
    | (go_at_call 20; have hx2 := HC2.out; refine (files_calls H2.out mem0 (by rw [hx2]; exact okF_nil)).mono ?_; rintro x w3 ⟨bf, nf, cf, rfl, hnf, h3⟩; rw [hx2] at hnf; simp only [List.length_nil] at hnf; subst hnf; have H3 := hide h3.drop; clear h3 H2 hx2)
    | (go_at_call 17; have hx3 := HC2.out; have h4 : St b (HP.store gs gl m :: HP.fmap m kv :: HP.log gl gd l1 :: HP.disk gd d1 :: HP.rows 48 pairE (.slice (some ⟨w3.heap.size, 0, none⟩) 1 1) [([97], [120])] :: L) _ := (H3.out.file1 (T := 48) (s := [97]) (t := [120]) (by unfold okStr; decide) (by unfold okStr; decide)).pick [2, 1, 3, 4, 0] 5 (by decide) (by decide) (by simp); refine (scommit_calls (fl := [([97], [120])]) h4 (Reads.of_rows mem0) HL1.out (by rw [hx3]; exact HO.out.2.2.1) ⟨HO.out.2.2.2.1, by have := HO.out.2.2.2.2.1; omega⟩ (by decide) (by have := HO.out.2.2.2.2.2; omega) (by rw [canon_one]; decide) (up1 HSP.out)).mono ?_; rintro x w5 ⟨rfl, m2, kv2, hcan, h5⟩; rw [hx3, canon_one, HE.out] at hcan h5 ⊢; have H5 := hide h5.f1; have HC5 := hide hcan; clear h4 h5 hcan H3 HC2 hx3)
    | (go_at_call 20; have hx5 := HC5.out; refine (files_calls H5.out mem0 (by rw [hx5]; exact HG.out)).mono ?_; rintro x w6 ⟨bf, nf, cf, rfl, hnf, h6⟩; rw [hx5] at hnf h6; simp only [List.length_cons, List.length_nil, Nat.zero_add] at hnf; subst hnf; obtain ⟨gf, rfl⟩ := h6.rows_base mem0 (by decide); obtain ⟨hcc, -, -⟩ := (Reads.of_rows (T := 48) mem0).pair_at h6 (i := 0) (by decide); have c60 : w6.cell? ⟨gf, 0, none⟩ = some (sv [97]) := hcc 0 _ rfl; have c61 : w6.cell? ⟨gf, 1, none⟩ = some (sv [120]) := hcc 1 _ rfl; have H6 := hide h6; clear h6 H5 hx5 hcc))
  go_ret
  exact ⟨rfl, H6.out.drop.drop.drop.drop.drop.drop⟩
end Go.Proofs.YtcgnkloljfgiaaaGreatDoor

namespace Go.Proofs.YtcgnkloljfgiaaaGreatDoor
open Go.RowKit Go.Maps Go.MapKept
variable {b : Env} {L : List HP} {w : World}
def FewAt (l : List (Str × Str)) (w : World) (i : Value) (wr : World) : Prop := ∃ k : Nat, k ≤ l.length ∧ i = .int .i64 k ∧ wr = w
set_option linter.unusedSimpArgs false in
set_option maxRecDepth 100000 in
set_option maxHeartbeats 4000000 in
theorem few_calls {v : Value} {l : List (Str × Str)} (h : St b L w) (hr : Reads pairE L v l) :
    Calls Tryz.prog 22 #[v] w fun x w' => (x = .returned (.bool false) ∧ w' = w) ∨ (x = .returned (.bool true) ∧ w' = w) := by
  obtain ⟨bv, cv, rfl, u1, u2⟩ := hr.form h
  obtain ⟨n, hn⟩ : ∃ n, l.length = n := ⟨_, rfl⟩
  rw [hn] at hr u1 ⊢
  have hnI : (n : Int) ≤ 9223372036854775807 := by unfold maxLen at u2; omega
  have H := hide h
  have HR := hide hr
  have HN := hide hn
  clear h hr hn u1 u2
  go_enter Tryz.func22, Tryz.ntmps22
  go_wp2_with fail
  go_loopw [3] (fun i wr => FewAt l w i wr) (fun i _ => n - (intOf i).toNat)
  case atStart => exact ⟨0, by omega, rfl, rfl⟩
  case round =>
    obtain ⟨k, hk, rfl, rfl⟩ := hrel
    rw [HN.out] at hk
    by_cases hlt : k < n
    · have hlt' : (k : Int) < n := by omega
      have hkl : k < l.length := by rw [HN.out]; exact hlt
      obtain ⟨gr, or, rfl⟩ := HR.out.base H.out (by omega) (by decide)
      obtain ⟨hc, ok1, ok2⟩ := HR.out.pair_at H.out hkl
      obtain ⟨s, hs1⟩ : ∃ s, l[k].1 = s := ⟨_, rfl⟩
      obtain ⟨t, ht1⟩ : ∃ t, l[k].2 = t := ⟨_, rfl⟩
      rw [hs1, ht1] at hc
      rw [hs1] at ok1
      rw [ht1] at ok2
      have c0 : wr.cell? ⟨gr, or + k * 2, none⟩ = some (.string ⟨s.toArray⟩) := hc 0 _ rfl
      have c1 : wr.cell? ⟨gr, or + k * 2 + 1, none⟩ = some (.string ⟨t.toArray⟩) := hc 1 _ rfl
      have hsI : (s.length : Int) ≤ 9223372036854775807 := by unfold okStr maxLen at ok1; omega
      have htI : (t.length : Int) ≤ 9223372036854775807 := by unfold okStr maxLen at ok2; omega
      have HKL := hide hkl
      clear hc ok1 ok2 hs1 ht1 hkl
      by_cases hb1 : (30 : Int) < s.length
      · go_wp2_with fail
        go_ret
        exact Or.inl ⟨rfl, rfl⟩
      · by_cases hb2 : (2500 : Int) < t.length
        · go_wp2_with fail
          go_ret
          exact Or.inl ⟨rfl, rfl⟩
        · go_wp2_with fail
          go_roundw
          case rel => exact ⟨k + 1, HKL.out, by go_num, rfl⟩
          case measure => exact meas_step hlt
    · have hke : k = n := by omega
      subst hke
      by_cases hb : (k : Int) ≤ 12
      · go_wp2_with fail
        go_ret
        exact Or.inr ⟨rfl, rfl⟩
      · go_wp2_with fail
        go_ret
        exact Or.inl ⟨rfl, rfl⟩
def AtAt (l : List (Str × Str)) (s : Str) (w : World) (i : Value) (wr : World) : Prop := ∃ k : Nat, k ≤ l.length ∧ i = .int .i64 k ∧ s ∉ keysOf (l.take k) ∧ wr = w
set_option linter.unusedSimpArgs false in
set_option maxRecDepth 100000 in
set_option maxHeartbeats 4000000 in
theorem rat_calls {v : Value} {l : List (Str × Str)} (h : St b L w) (hr : Reads pairE L v l) (s : Str) :
    Calls Tryz.prog 41 #[v, .string ⟨s.toArray⟩] w fun x w' => (∃ k : Nat, x = .returned (.int .i64 k) ∧ s ∈ keysOf l ∧ w' = w) ∨ (x = .returned (.int .i64 (-1)) ∧ s ∉ keysOf l ∧ w' = w) := by
  obtain ⟨bv, cv, rfl, u1, u2⟩ := hr.form h
  obtain ⟨n, hn⟩ : ∃ n, l.length = n := ⟨_, rfl⟩
  rw [hn] at hr u1 ⊢
  have hnI : (n : Int) ≤ 9223372036854775807 := by unfold maxLen at u2; omega
  have H := hide h
  have HR := hide hr
  have HN := hide hn
  clear h hr hn u1 u2
  go_enter Tryz.func41, Tryz.ntmps41
  go_wp2_with fail
  go_loopw [5] (fun i wr => AtAt l s w i wr) (fun i _ => n - (intOf i).toNat)
  case atStart => exact ⟨0, by omega, rfl, by simp, rfl⟩
  case round =>
    obtain ⟨k, hk, rfl, hnot, rfl⟩ := hrel
    rw [HN.out] at hk
    have HNOT := hide hnot
    clear hnot
    by_cases hlt : k < n
    · have hlt' : (k : Int) < n := by omega
      have hkl : k < l.length := by rw [HN.out]; exact hlt
      obtain ⟨gr, or, rfl⟩ := HR.out.base H.out (by omega) (by decide)
      obtain ⟨hc, ok1, ok2⟩ := HR.out.pair_at H.out hkl
      obtain ⟨q, hs1⟩ : ∃ q, l[k].1 = q := ⟨_, rfl⟩
      rw [hs1] at hc
      have c0 : wr.cell? ⟨gr, or + k * 2, none⟩ = some (.string ⟨q.toArray⟩) := hc 0 _ rfl
      have HKL := hide hkl
      have HQM := hide (show q ∈ keysOf l from by rw [← hs1]; exact List.mem_map_of_mem (List.getElem_mem _))
      have HQ2 := hide (show keysOf (l.take (k + 1)) = keysOf (l.take k) ++ [q] from by rw [← List.take_append_getElem hkl, keysOf, List.map_append, ← hs1]; rfl)
      clear hc ok1 ok2 hkl hs1
      by_cases hb : q = s
      · have hbe : (q == s) = true := beq_iff_eq.2 hb
        have HB := hide hb
        clear hb
        go_wp2_with fail
        go_ret
        exact Or.inl ⟨k, rfl, by rw [← HB.out]; exact HQM.out, rfl⟩
      · have hbe : (q == s) = false := beq_eq_false_iff_ne.2 hb
        have HB := hide hb
        clear hb
        go_wp2_with fail
        go_roundw
        case rel => exact ⟨k + 1, HKL.out, by go_num, by
          rw [HQ2.out, List.mem_append]
          rintro (h | h)
          · exact HNOT.out h
          · exact HB.out (List.mem_singleton.1 h).symm, rfl⟩
        case measure => exact meas_step hlt
    · have hke : k = n := by omega
      subst hke
      have hno := HNOT.out
      rw [← HN.out, List.take_length] at hno
      have HNO := hide hno
      clear hno HNOT
      go_wp2_with fail
      go_ret
      exact Or.inr ⟨rfl, HNO.out, rfl⟩
end Go.Proofs.YtcgnkloljfgiaaaGreatDoor

namespace Go.Proofs.YtcgnkloljfgiaaaGreatDoor
open Go.RowKit Go.Maps Go.MapKept
variable {b : Env} {L : List HP} {w : World}
theorem file_neq (s t s2 t2 : Str) (w : World) : (binOp .neq 48 (.agg #[sv s, sv t]) (.agg #[sv s2, sv t2])).run Tryz.prog w = .ok (.bool (!((s, t) == (s2, t2)))) w := by
  have hf : Tryz.prog.underlying 48 = some (.struct (Tryz.prog.fieldsOf 48)) := by kernel_rfl
  have hp : Tryz.prog.stoodInHeld 48 = false := by kernel_rfl
  rw [run_neq_struct, run_equalIn_agg _ _ _ _ _ hf hp]
  simp only [Program.fieldsOf, Tryz.underlying48]
  by_cases h1 : s = s2 <;> by_cases h2 : t = t2 <;> simp [Op.eqFields, part, isAgg, run_underlying Tryz.underlying9, go_sem, sv, h1, h2]
def SameAt (b : Env) (L : List HP) (A B : List (Str × Str)) (i : Value) (wr : World) : Prop := ∃ k : Nat, k ≤ A.length ∧ i = .int .i64 k ∧ A.take k = B.take k ∧ St b L wr
set_option linter.unusedSimpArgs false in
set_option maxRecDepth 100000 in
set_option maxHeartbeats 4000000 in
theorem fsame_calls {va vb : Value} {A B : List (Str × Str)} (h : St b L w) (ha : Reads pairE L va A) (hb : Reads pairE L vb B) :
    Calls Tryz.prog 19 #[va, vb] w fun x w' => x = .returned (.bool (decide (A = B))) ∧ St b L w' := by
  obtain ⟨ba, ca, rfl, u1, u2⟩ := ha.form h
  obtain ⟨bb, cb, rfl, u3, u4⟩ := hb.form h
  obtain ⟨n, hn⟩ : ∃ n, A.length = n := ⟨_, rfl⟩
  obtain ⟨m, hm⟩ : ∃ n, B.length = n := ⟨_, rfl⟩
  rw [hn] at ha u1 ⊢
  rw [hm] at hb u3 ⊢
  have hnI : (n : Int) ≤ 9223372036854775807 := by unfold maxLen at u2; omega
  have hmI : (m : Int) ≤ 9223372036854775807 := by unfold maxLen at u4; omega
  have hmf := fun s t s2 t2 w => file_neq s t s2 t2 w
  have hgd : Tryz.prog.eqGuardType Tryz.prog.depth 48 = false := by kernel_rfl
  have H := hide h
  have HA := hide ha
  have HB := hide hb
  have HN := hide hn
  have HM := hide hm
  clear h ha hb hn hm u1 u2 u3 u4
  by_cases hnm : n = m
  · subst hnm
    go_enter Tryz.func19, Tryz.ntmps19
    go_wp2_with fail
    go_loopw [5] (fun i wr => SameAt b L A B i wr) (fun i _ => n - (intOf i).toNat)
    case atStart => exact ⟨0, by omega, rfl, by simp, H.out⟩
    case round =>
      obtain ⟨k, hk, rfl, htk, hs⟩ := hrel
      rw [HN.out] at hk
      have HTK := hide htk
      clear H htk
      by_cases hlt : k < n
      · have hlt' : (k : Int) < n := by omega
        have hkA : k < A.length := by rw [HN.out]; exact hlt
        have hkB : k < B.length := by rw [HM.out]; exact hlt
        obtain ⟨ga, oa, rfl⟩ := HA.out.base hs (by omega) (by decide)
        obtain ⟨gb, ob, rfl⟩ := HB.out.base hs (by omega) (by decide)
        obtain ⟨hc1, -, -⟩ := HA.out.pair_at hs.drew hkA
        obtain ⟨hc2, -, -⟩ := HB.out.pair_at hs.drew hkB
        obtain ⟨s, hs1⟩ : ∃ s, A[k].1 = s := ⟨_, rfl⟩
        obtain ⟨t, ht1⟩ : ∃ t, A[k].2 = t := ⟨_, rfl⟩
        obtain ⟨s2, hs2⟩ : ∃ s, B[k].1 = s := ⟨_, rfl⟩
        obtain ⟨t2, ht2⟩ : ∃ t, B[k].2 = t := ⟨_, rfl⟩
        have hea : A[k] = (s, t) := by rw [← hs1, ← ht1]
        have heb : B[k] = (s2, t2) := by rw [← hs2, ← ht2]
        have HTA := hide (show A.take (k + 1) = A.take k ++ [(s, t)] from by rw [← List.take_append_getElem hkA, hea])
        have HTB := hide (show B.take (k + 1) = B.take k ++ [(s2, t2)] from by rw [← List.take_append_getElem hkB, heb])
        have HAB := hide (show A = B → (s, t) = (s2, t2) from fun e => by
          have h1 : A[k]? = B[k]? := by rw [e]
          rw [List.getElem?_eq_getElem hkA, List.getElem?_eq_getElem hkB, hea, heb] at h1
          exact Option.some.inj h1)
        rw [hs1, ht1] at hc1
        rw [hs2, ht2] at hc2
        have HC1 := hide hc1
        have HC2 := hide hc2
        have HKA := hide (show k + 1 ≤ A.length from hkA)
        have H2 := hide hs.drew
        clear hs hc1 hc2 hs1 ht1 hs2 ht2 hea heb hkA hkB
        by_cases heq : ((s, t) : Str × Str) = (s2, t2)
        · have hbe : (((s, t) : Str × Str) == (s2, t2)) = true := beq_iff_eq.2 heq
          have HEQ := hide heq
          clear heq
          go_wp2_with fail
          refine wp_region_held_drew (S := fun w' => (∀ j u, ([sv s, sv t] : List Value)[j]? = some u → w'.cell? ⟨ga, oa + k * 2 + j, none⟩ = some u) ∧ (∀ j u, ([sv s2, sv t2] : List Value)[j]? = some u → w'.cell? ⟨gb, ob + k * 2 + j, none⟩ = some u)) (by kernel_rfl) ?_ (fun hHeld => ?_)
          · exact ⟨HC1.out, HC2.out⟩
          refine wpAnyH_takeD (i := 0) (some 17) (v := ?v0_1) rfl rfl (by kernel_rfl) (by kernel_rfl) (by kernel_rfl) (fun _ _ _ h => h) (by rfl) ?y0_1 (by assumption) ?r0_1
          case y0_1 => (intro w hSw; (try dsimp only at hSw); first | (go_simp; done) | (go_simp; with_reducible rfl))
          try simp only [Act.put, List.setIfInBounds_toArray, List.set_cons_zero, List.set_cons_succ]
          refine wpAnyH_takeD (i := 1) (some 18) (v := ?v1_2) rfl rfl (by kernel_rfl) (by kernel_rfl) (by kernel_rfl) (fun _ _ _ h => h) (by rfl) ?y1_2 (by assumption) ?r1_2
          case y1_2 => (intro w hSw; (try dsimp only at hSw); first | (go_simp; done) | (go_simp; with_reducible rfl))
          try simp only [Act.put, List.setIfInBounds_toArray, List.set_cons_zero, List.set_cons_succ]
          refine wpAnyH_takeD (i := 2) (some 19) (v := ?v2_3) rfl rfl (by kernel_rfl) (by kernel_rfl) (by kernel_rfl) (fun _ _ _ h => h) (by rfl) ?y2_3 (by assumption) ?r2_3
          case y2_3 => (intro w hSw; (try dsimp only at hSw); first | (go_simp; done) | (go_simp; with_reducible rfl))
          try simp only [Act.put, List.setIfInBounds_toArray, List.set_cons_zero, List.set_cons_succ]
          refine wpAnyH_takeD (i := 3) (some 20) (v := .agg ([sv s, sv t] : List Value).toArray) rfl rfl (by kernel_rfl) (by kernel_rfl) (by kernel_rfl) (fun _ _ _ h => h) (by rfl) ?y3_4 (by assumption) ?r3_4
          case y3_4 => (intro w hSw; exact run_loadO agFile (.tmp 19) rfl rfl rfl hSw.1)
          try simp only [Act.put, List.setIfInBounds_toArray, List.set_cons_zero, List.set_cons_succ]
          refine wpAnyH_takeD (i := 4) (some 21) (v := ?v4_5) rfl rfl (by kernel_rfl) (by kernel_rfl) (by kernel_rfl) (fun _ _ _ h => h) (by rfl) ?y4_5 (by assumption) ?r4_5
          case y4_5 => (intro w hSw; (try dsimp only at hSw); first | (go_simp; done) | (go_simp; with_reducible rfl))
          try simp only [Act.put, List.setIfInBounds_toArray, List.set_cons_zero, List.set_cons_succ]
          refine wpAnyH_takeD (i := 5) (some 22) (v := ?v5_6) rfl rfl (by kernel_rfl) (by kernel_rfl) (by kernel_rfl) (fun _ _ _ h => h) (by rfl) ?y5_6 (by assumption) ?r5_6
          case y5_6 => (intro w hSw; (try dsimp only at hSw); first | (go_simp; done) | (go_simp; with_reducible rfl))
          try simp only [Act.put, List.setIfInBounds_toArray, List.set_cons_zero, List.set_cons_succ]
          refine wpAnyH_takeD (i := 6) (some 23) (v := ?v6_7) rfl rfl (by kernel_rfl) (by kernel_rfl) (by kernel_rfl) (fun _ _ _ h => h) (by rfl) ?y6_7 (by assumption) ?r6_7
          case y6_7 => (intro w hSw; (try dsimp only at hSw); first | (go_simp; done) | (go_simp; with_reducible rfl))
          try simp only [Act.put, List.setIfInBounds_toArray, List.set_cons_zero, List.set_cons_succ]
          refine wpAnyH_takeD (i := 7) (some 24) (v := .agg ([sv s2, sv t2] : List Value).toArray) rfl rfl (by kernel_rfl) (by kernel_rfl) (by kernel_rfl) (fun _ _ _ h => h) (by rfl) ?y7_8 (by assumption) ?r7_8
          case y7_8 => (intro w hSw; exact run_loadO agFile (.tmp 23) rfl rfl rfl hSw.2)
          try simp only [Act.put, List.setIfInBounds_toArray, List.set_cons_zero, List.set_cons_succ]
          refine wpAnyH_takeD (i := 8) (some 25) (v := ?v8_9) rfl rfl (by kernel_rfl) (by kernel_rfl) (by kernel_rfl) (fun _ _ _ h => h) (by rfl) ?y8_9 (by assumption) ?r8_9
          case y8_9 => (intro w hSw; (try dsimp only at hSw); first | (go_simp; done) | (go_simp; with_reducible rfl))
          try simp only [Act.put, List.setIfInBounds_toArray, List.set_cons_zero, List.set_cons_succ]
          refine wpAnyH_done (by kernel_rfl) ?_ _
          clear hHeld
          go_wp2_with fail
          go_roundw
          case rel => exact ⟨k + 1, HKA.out, by go_num, by rw [HTA.out, HTB.out, HTK.out, HEQ.out], H2.out⟩
          case measure => exact meas_step hlt
        · have hbe : (((s, t) : Str × Str) == (s2, t2)) = false := beq_eq_false_iff_ne.2 heq
          have HEQ := hide heq
          clear heq
          go_wp2_with fail
          refine wp_region_held_drew (S := fun w' => (∀ j u, ([sv s, sv t] : List Value)[j]? = some u → w'.cell? ⟨ga, oa + k * 2 + j, none⟩ = some u) ∧ (∀ j u, ([sv s2, sv t2] : List Value)[j]? = some u → w'.cell? ⟨gb, ob + k * 2 + j, none⟩ = some u)) (by kernel_rfl) ?_ (fun hHeld => ?_)
          · exact ⟨HC1.out, HC2.out⟩
          refine wpAnyH_takeD (i := 0) (some 17) (v := ?v0_10) rfl rfl (by kernel_rfl) (by kernel_rfl) (by kernel_rfl) (fun _ _ _ h => h) (by rfl) ?y0_10 (by assumption) ?r0_10
          case y0_10 => (intro w hSw; (try dsimp only at hSw); first | (go_simp; done) | (go_simp; with_reducible rfl))
          try simp only [Act.put, List.setIfInBounds_toArray, List.set_cons_zero, List.set_cons_succ]
          refine wpAnyH_takeD (i := 1) (some 18) (v := ?v1_11) rfl rfl (by kernel_rfl) (by kernel_rfl) (by kernel_rfl) (fun _ _ _ h => h) (by rfl) ?y1_11 (by assumption) ?r1_11
          case y1_11 => (intro w hSw; (try dsimp only at hSw); first | (go_simp; done) | (go_simp; with_reducible rfl))
          try simp only [Act.put, List.setIfInBounds_toArray, List.set_cons_zero, List.set_cons_succ]
          refine wpAnyH_takeD (i := 2) (some 19) (v := ?v2_12) rfl rfl (by kernel_rfl) (by kernel_rfl) (by kernel_rfl) (fun _ _ _ h => h) (by rfl) ?y2_12 (by assumption) ?r2_12
          case y2_12 => (intro w hSw; (try dsimp only at hSw); first | (go_simp; done) | (go_simp; with_reducible rfl))
          try simp only [Act.put, List.setIfInBounds_toArray, List.set_cons_zero, List.set_cons_succ]
          refine wpAnyH_takeD (i := 3) (some 20) (v := .agg ([sv s, sv t] : List Value).toArray) rfl rfl (by kernel_rfl) (by kernel_rfl) (by kernel_rfl) (fun _ _ _ h => h) (by rfl) ?y3_13 (by assumption) ?r3_13
          case y3_13 => (intro w hSw; exact run_loadO agFile (.tmp 19) rfl rfl rfl hSw.1)
          try simp only [Act.put, List.setIfInBounds_toArray, List.set_cons_zero, List.set_cons_succ]
          refine wpAnyH_takeD (i := 4) (some 21) (v := ?v4_14) rfl rfl (by kernel_rfl) (by kernel_rfl) (by kernel_rfl) (fun _ _ _ h => h) (by rfl) ?y4_14 (by assumption) ?r4_14
          case y4_14 => (intro w hSw; (try dsimp only at hSw); first | (go_simp; done) | (go_simp; with_reducible rfl))
          try simp only [Act.put, List.setIfInBounds_toArray, List.set_cons_zero, List.set_cons_succ]
          refine wpAnyH_takeD (i := 5) (some 22) (v := ?v5_15) rfl rfl (by kernel_rfl) (by kernel_rfl) (by kernel_rfl) (fun _ _ _ h => h) (by rfl) ?y5_15 (by assumption) ?r5_15
          case y5_15 => (intro w hSw; (try dsimp only at hSw); first | (go_simp; done) | (go_simp; with_reducible rfl))
          try simp only [Act.put, List.setIfInBounds_toArray, List.set_cons_zero, List.set_cons_succ]
          refine wpAnyH_takeD (i := 6) (some 23) (v := ?v6_16) rfl rfl (by kernel_rfl) (by kernel_rfl) (by kernel_rfl) (fun _ _ _ h => h) (by rfl) ?y6_16 (by assumption) ?r6_16
          case y6_16 => (intro w hSw; (try dsimp only at hSw); first | (go_simp; done) | (go_simp; with_reducible rfl))
          try simp only [Act.put, List.setIfInBounds_toArray, List.set_cons_zero, List.set_cons_succ]
          refine wpAnyH_takeD (i := 7) (some 24) (v := .agg ([sv s2, sv t2] : List Value).toArray) rfl rfl (by kernel_rfl) (by kernel_rfl) (by kernel_rfl) (fun _ _ _ h => h) (by rfl) ?y7_17 (by assumption) ?r7_17
          case y7_17 => (intro w hSw; exact run_loadO agFile (.tmp 23) rfl rfl rfl hSw.2)
          try simp only [Act.put, List.setIfInBounds_toArray, List.set_cons_zero, List.set_cons_succ]
          refine wpAnyH_takeD (i := 8) (some 25) (v := ?v8_18) rfl rfl (by kernel_rfl) (by kernel_rfl) (by kernel_rfl) (fun _ _ _ h => h) (by rfl) ?y8_18 (by assumption) ?r8_18
          case y8_18 => (intro w hSw; (try dsimp only at hSw); first | (go_simp; done) | (go_simp; with_reducible rfl))
          try simp only [Act.put, List.setIfInBounds_toArray, List.set_cons_zero, List.set_cons_succ]
          refine wpAnyH_done (by kernel_rfl) ?_ _
          clear hHeld
          go_wp2_with fail
          go_ret
          exact ⟨by rw [decide_eq_false (fun e => HEQ.out (HAB.out e))]; rfl, H2.out⟩
      · have hke : k = n := by omega
        subst hke
        have HAB : Hid (A = B) := hide (by
          have := HTK.out
          rw [List.take_of_length_le (by rw [HN.out]; exact Nat.le_refl _), List.take_of_length_le (by rw [HM.out]; exact Nat.le_refl _)] at this
          exact this)
        have H2 := hide hs
        clear hs
        go_wp2_with fail
        go_ret
        exact ⟨by rw [decide_eq_true HAB.out]; rfl, H2.out⟩
  · have hneI : ((n : Int) == m) = false := by rw [beq_eq_false_iff_ne]; omega
    go_enter Tryz.func19, Tryz.ntmps19
    go_wp2_with fail
    go_ret
    exact ⟨by rw [decide_eq_false (fun e => hnm (by rw [← HN.out, ← HM.out, e]))]; rfl, H.out⟩
end Go.Proofs.YtcgnkloljfgiaaaGreatDoor
