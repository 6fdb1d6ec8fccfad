/-
  The law StoreSets: the walk.
-/
import Derived.Test.YtcgnkloljfgiaaaGreatDoorYva
import Derived.Test.YtcgnkloljfgiaaaGreatDoorZh
import Derived.Test.YtcgnkloljfgiaaaGreatDoorSte
namespace Go.Proofs.YtcgnkloljfgiaaaGreatDoor
open Go.RowKit Go.Maps Go.MapKept
variable {b : Env} {L : List HP} {w : World}
def PlentyAt (n : Nat) (w : World) (i : Value) (wr : World) : Prop := ∃ k : Nat, k ≤ n ∧ i = .int .i64 k ∧ wr = w
set_option linter.unusedSimpArgs false in
set_option maxRecDepth 100000 in
set_option maxHeartbeats 4000000 in
theorem plenty_calls {v : Value} {l : List StepR} (h : St b L w) (hm : HP.sl stepE v l ∈ L) :
    Calls Tryz.prog 12 #[v] w fun x w' => (x = .returned (.bool true) ∧ w' = w) ∨ (x = .returned (.bool false) ∧ w' = w) := by
  obtain ⟨bv, cv, rfl, u1, u2⟩ := h.sl_form hm
  obtain ⟨n, hn⟩ : ∃ n, l.length = n := ⟨_, rfl⟩
  rw [hn] at hm u1 ⊢
  have hnI : (n : Int) ≤ 9223372036854775807 := by unfold maxLen at u2; omega
  have H := hide h
  have HM := hide hm
  have HN := hide hn
  clear h hm hn u1 u2
  go_enter Tryz.func12, Tryz.ntmps12
  go_wp2_with fail
  go_loopw [3] (fun i wr => PlentyAt n w i wr) (fun i _ => n - (intOf i).toNat)
  case atStart => exact ⟨0, by omega, rfl, rfl⟩
  case round =>
    obtain ⟨k, hk, rfl, rfl⟩ := hrel
    by_cases hlt : k < n
    · have hlt' : (k : Int) < n := by omega
      have hkl : k < l.length := by rw [HN.out]; exact hlt
      obtain ⟨gr, or, rfl⟩ := H.out.sl_base HM.out (by omega) (by decide)
      obtain ⟨cs, h2⟩ := H.out.elem HM.out (List.getElem?_eq_getElem hkl) (by decide)
      obtain ⟨x, hx⟩ : ∃ x, l[k] = x := ⟨_, rfl⟩
      rw [hx] at h2
      obtain ⟨va, vb, vc, hok, rfl, h3⟩ := h2.step
      have x0 : wr.cell? ⟨gr, or + k * 5, none⟩ = some va := h3.elem_cell mem3 0 rfl
      have hag : ∃ b n c, va = .slice b n c := by obtain ⟨b', c', h, _⟩ := h3.sl_form mem0; exact ⟨_, _, _, h⟩
      obtain ⟨ab, an, ac, rfl⟩ := hag
      have H3 := hide h3
      clear h2 h3 hok hkl hx
      go_wp2_with (first
        | (go_at_call 22; refine (few_calls H3.out (Reads.of_sl mem0)).mono ?_; rintro x w1 (⟨rfl, hw⟩ | ⟨rfl, hw⟩) <;> subst hw <;> have H4 := H3 <;> clear H3))
      · go_ret
        exact Or.inl ⟨rfl, rfl⟩
      · go_roundw
        case rel => exact ⟨k + 1, by omega, by go_num, rfl⟩
        case measure => exact meas_step hlt
    · have hlt' : ¬ (k : Int) < n := by omega
      go_wp2_with fail
      go_ret
      exact Or.inr ⟨rfl, rfl⟩
structure SetsI (N k : Nat) (d : Dk) (K : Int) (l : LogR) (F kv : List (Str × Str)) (q : Nat) : Prop where
  can : canon kv = F
  si : StoreI d N K l F
  k0 : 0 ≤ K
  k1 : K ≤ 300 + 600 * k
  gen : l.gen ≤ 1 + 2 * k
  pt : partsOf (setB F).length ≤ N / 2
  len : q = F.length
def SetsAt (b : Env) (L : List HP) (gd N z : Nat) (v7 v9 i : Value) (wr : World) : Prop :=
  ∃ (k : Nat) (d : Dk) (K : Int) (l : LogR) (F kv : List (Str × Str)) (gs gl m : Nat) (base : Option Addr) (q cap : Nat), k ≤ z ∧ k ≤ 20 ∧ i = .int .i64 k ∧ v7 = .pointer (some ⟨gs, 0, none⟩) ∧ v9 = .slice base q cap ∧ Hid (SetsI N k d K l F kv q) ∧
    St b (HP.rows 48 pairE (.slice base q cap) F :: HP.store gs gl m :: HP.fmap m kv :: HP.log gl gd l :: HP.disk gd d :: L) wr
set_option linter.unusedSimpArgs false in
set_option maxRecDepth 100000 in
set_option maxHeartbeats 4000000 in
theorem storeSets_calls {vl : Value} {l : List StepR} (h : St b L w) (hsp : HP.spaces ∈ L) (hm : HP.sl stepE vl l ∈ L) (s : Int) (hs1 : -9223372036854775808 ≤ s) (hs2 : s ≤ 9223372036854775807) :
    Calls Tryz.prog 3 #[vl, .int .i64 s] w fun x w' => x = .returned (.bool true) ∧ St b L w' := by
  obtain ⟨bv, cv, rfl, u1, u2⟩ := h.sl_form hm
  obtain ⟨z, hz⟩ : ∃ n, l.length = n := ⟨_, rfl⟩
  rw [hz] at hm u1 ⊢
  have hzI : (z : Int) ≤ 9223372036854775807 := by unfold maxLen at u2; omega
  obtain ⟨q9, hq9⟩ : ∃ q : Nat, s % 9 = (q : Int) := ⟨(s % 9).toNat, by omega⟩
  have hq9I : (q9 : Int) ≤ 8 := by omega
  obtain ⟨N, hN⟩ : ∃ N : Nat, 8 + 2 * (((4 : Int) + (q9 : Int)) % 13).toNat = N := ⟨_, rfl⟩
  have hN8 : 8 ≤ N := by omega
  have hN2 : N ≤ 256 := by omega
  obtain ⟨d1, l1, k1, o1, o2, o3, o4, o5, o6⟩ := open_new N hN8 hN2
  have hA := alive_fresh N hN2
  have hI0 : SetsI N 0 d1 k1 l1 [] [] 0 := ⟨canon_self List.Pairwise.nil, o3, o4, by omega, by omega, by rw [show partsOf (setB []).length = 1 from by decide]; omega, rfl⟩
  have H := hide h
  have HSP := hide hsp
  have HM := hide hm
  have HZ := hide hz
  have HQ9 := hide hq9
  have HN := hide hN
  have HA := hide hA
  have HO := hide (And.intro o1 o2)
  have HI0 := hide hI0
  have HT0 : Hid (ReplayOf [] []) := hide (Or.inl ⟨rfl, rfl⟩)
  clear h hsp hm hA o1 o2 o3 o4 o5 o6 hz hq9 hN hI0 u1 u2
  go_enter Tryz.func3, Tryz.ntmps3
  go_wp2_with (first
    | (go_at_call 11; refine (known4_calls H.out HSP.out).mono ?_; rintro x w0 ⟨rfl, h0⟩; have H0 := hide h0; clear h0 H)
    | (go_at_call 12; refine (plenty_calls H0.out HM.out).mono ?_; rintro x w1 (⟨rfl, hw⟩ | ⟨rfl, hw⟩) <;> subst hw <;> have H1 := H0 <;> clear H0)
    | (go_at_call 14; have hm9 := HQ9.out; refine (within4_calls s 9 (by omega) (by omega) hs1 hs2).mono ?_; rintro x w5 ⟨rfl, hw5⟩; subst hw5; rw [hm9]; clear hm9 HQ9)
    | (go_at_call 13; refine (both_calls H1.out (4 + (q9 : Int)) (by omega) (by omega)).mono ?_; rintro x w4 ⟨gd, gx, rfl, h4⟩; rw [HN.out] at h4; have H4 := hide h4.drop; clear h4 H1)
    | (go_at_call 15; refine (sopen_calls H4.out HA.out (show (Dk.fresh0 N).ops ≤ 100000000 from (by decide : (0 : Int) ≤ 100000000)) HO.out.1 HT0.out okF_nil HO.out.2 (by decide) (by decide) (by decide) HSP.out).mono ?_; rintro x w5 ⟨gs, rfl, gl, m, kv, hcan, h5⟩; have H5 := hide (h5.rows_nil 48 pairE); have HC5 := hide hcan; clear h5 hcan H4))
  · go_ret
    exact ⟨rfl, H1.out⟩
  go_loopw [7, 9, 10] (fun v7 v9 i wr => SetsAt b L gd N z v7 v9 i wr) (fun _ _ i _ => 20 - (intOf i).toNat)
  case atStart => exact ⟨0, d1, k1, l1, [], kv, gs, gl, m, none, 0, 0, by omega, by omega, rfl, rfl, rfl, hide ⟨HC5.out, HI0.out.si, HI0.out.k0, HI0.out.k1, HI0.out.gen, HI0.out.pt, rfl⟩, H5.out⟩
  case round =>
    obtain ⟨k, d, K, lg, F, kv6, gs6, gl6, m6, bw, qw, cw, hk, hk20, rfl, rfl, rfl, HI, hs⟩ := hrel
    have H6 := hide hs
    clear hs H5 HC5
    by_cases hlt : k < z ∧ k < 20
    · have hlt1 : (k : Int) < z := by omega
      have hlt2 : (k : Int) < 20 := by omega
      have hkl : k < l.length := by rw [HZ.out]; exact hlt.1
      obtain ⟨gr, or, rfl⟩ := H6.out.sl_base (up5 HM.out) (by omega) (by decide)
      obtain ⟨cs, h7⟩ := H6.out.elem (up5 HM.out) (List.getElem?_eq_getElem hkl) (by decide)
      obtain ⟨x, hx⟩ : ∃ x, l[k] = x := ⟨_, rfl⟩
      rw [hx] at h7
      obtain ⟨va, vb, vc, hok, rfl, h7⟩ := h7.step
      have hag : ∃ b n c, va = .slice b n c := by obtain ⟨b', c', h, _⟩ := h7.sl_form mem0; exact ⟨_, _, _, h⟩
      have hbg : ∃ b n c, vb = .slice b n c := by obtain ⟨b', c', h, _⟩ := h7.sl_form mem1; exact ⟨_, _, _, h⟩
      obtain ⟨ab, an, ac, rfl⟩ := hag
      obtain ⟨bb, bn, bc, rfl⟩ := hbg
      have h8 := h7.pick [4, 5, 6, 7, 8, 0, 1, 3] 9 (by decide) (by decide) (by simp)
      obtain ⟨L2, hL2⟩ : ∃ L2, HP.sl pairE (.slice ab an ac) x.files :: HP.sl intE (.slice bb bn bc) x.ns :: HP.elem stepE gr (or + k * stepE.sz) x [.slice ab an ac, .slice bb bn bc, .int .i64 x.kind, .int .i64 x.fuse, vc] :: L = L2 := ⟨_, rfl⟩
      have m0 : HP.sl pairE (.slice ab an ac) x.files ∈ L2 := by rw [← hL2]; exact mem0
      have m1 : HP.sl intE (.slice bb bn bc) x.ns ∈ L2 := by rw [← hL2]; exact mem1
      have m2 : HP.elem stepE gr (or + k * stepE.sz) x [.slice ab an ac, .slice bb bn bc, .int .i64 x.kind, .int .i64 x.fuse, vc] ∈ L2 := by rw [← hL2]; exact mem2
      have m3 : HP.spaces ∈ L2 := by rw [← hL2]; exact up3 HSP.out
      have HOUT := hide (fun (A1 A2 A3 A4 A5 : HP) (w' : World) (h' : St b (A1 :: A2 :: A3 :: A4 :: A5 :: L2) w') => (show St b (A1 :: A2 :: A3 :: A4 :: A5 :: L) w' from by
        rw [← hL2] at h'
        exact h'.pick [0, 1, 2, 3, 4] 8 (by decide) (by decide) (by simp)))
      have h9 : St b (HP.rows 48 pairE (.slice bw qw cw) F :: HP.store gs6 gl6 m6 :: HP.fmap m6 kv6 :: HP.log gl6 gd lg :: HP.disk gd d :: L2) wr := by
        rw [← hL2]; exact h8
      have XC0 := hide (fun (w' : World) (L' : List HP) (h' : St b (L' ++ L2) w') => (show w'.cell? ⟨gr, or + k * 5, none⟩ = some (.slice ab an ac) from h'.elem_cell (List.mem_append_right _ m2) 0 rfl))
      have XC1 := hide (fun (w' : World) (L' : List HP) (h' : St b (L' ++ L2) w') => (show w'.cell? ⟨gr, or + k * 5 + 1, none⟩ = some (.slice bb bn bc) from h'.elem_cell (List.mem_append_right _ m2) 1 rfl))
      have XC2 := hide (fun (w' : World) (L' : List HP) (h' : St b (L' ++ L2) w') => (show w'.cell? ⟨gr, or + k * 5 + 2, none⟩ = some (.int .i64 x.kind) from h'.elem_cell (List.mem_append_right _ m2) 2 rfl))
      obtain ⟨kd, hkd⟩ : ∃ kd, x.kind = kd := ⟨_, rfl⟩
      rw [hkd] at XC2 hok
      obtain ⟨⟨hkd1, hkd2⟩, -, hns⟩ := hok
      obtain ⟨k4, hk4⟩ : ∃ k4 : Nat, kd % 4 = (k4 : Int) := ⟨(kd % 4).toNat, by omega⟩
      have hk4I : (k4 : Int) ≤ 3 := by omega
      have HK4 := hide hk4
      have M0 := hide m0
      have M1 := hide m1
      have M3 := hide m3
      have HNS := hide hns
      obtain ⟨M, hM⟩ : ∃ M, makeL x.files x.ns = M := ⟨_, rfl⟩
      have hmok := (makeL_ok x.files x.ns).1
      have hmp := make_parts x.files x.ns
      rw [hM] at hmok hmp
      obtain ⟨G, hG⟩ : ∃ G, canon M = G := ⟨_, rfl⟩
      have hGo : OkF G := by rw [← hG]; exact hmok.okF
      have hsort : sortF M = G := by rw [sortF_canon hmok.nd, hG]
      rw [hG] at hmp
      have HPP := hide (show partsOf (setB (canon M)).length ≤ 255 by rw [hG]; omega)
      have hlen : M.length ≤ 8 := hmok.len
      have HMM := hide hM
      have HGG := hide hG
      have HOK := hide hmok
      have HSO := hide hsort
      have HLEN := hide hlen
      have hI := HI.out
      have HI1 := hide (And.intro hI.can (And.intro hI.si (And.intro hI.k0 (And.intro hI.k1 hI.gen))))
      have H9 := hide h9
      clear H6 h7 h8 h9 hL2 m0 m1 m2 m3 hk4 hns hM hG hmok hsort hlen hkl hx hkd
      by_cases hfit : partsOf (setB G).length ≤ N / 2
      · obtain ⟨d', l', K', e1, e2, e3, e4, e5⟩ := commit_fit hI.si ⟨hI.k0, by have := hI.k1; omega⟩ hN2 hGo (by have := hI.gen; omega) hfit
        have HE := hide e1
        have hI2 : K' ≤ 600 + 600 * k ∧ 0 ≤ K' ∧ l'.gen ≤ 2 + 2 * k := by have := hI.k1; have := hI.k0; have := hI.gen; omega
        have HE2 := hide (And.intro e2 hI2)
        have HGO := hide hGo
        have HFIT := hide hfit
        clear hI e1 e2 e3 e4 e5 hI2 hfit hmp hGo HI
        go_wp2_with fail
        refine wp_region_held_drew (S := fun w' => w'.cell? ⟨gr, or + k * 5, none⟩ = some (.slice ab an ac) ∧ w'.cell? ⟨gr, or + k * 5 + 1, none⟩ = some (.slice bb bn bc)) (by kernel_rfl) ?_ (fun hHeld => ?_)
        · exact ⟨XC0.out _ [_, _, _, _, _] H9.out.drew, XC1.out _ [_, _, _, _, _] H9.out.drew⟩
        refine wpAnyH_takeD (i := 0) (some 43) (v := ?v0_1) rfl rfl (by kernel_rfl) (by kernel_rfl) (by kernel_rfl) (fun _ _ _ h => h) (by rfl) ?y0_1 (by assumption) ?r0_1
        case y0_1 => (intro w hSw; (try dsimp only at hSw); first | (go_simp; done) | (go_simp; with_reducible rfl))
        try simp only [Act.put, List.setIfInBounds_toArray, List.set_cons_zero, List.set_cons_succ]
        refine wpAnyH_takeD (i := 1) (some 44) (v := ?v1_2) rfl rfl (by kernel_rfl) (by kernel_rfl) (by kernel_rfl) (fun _ _ _ h => h) (by rfl) ?y1_2 (by assumption) ?r1_2
        case y1_2 => (intro w hSw; (try dsimp only at hSw); first | (go_simp; done) | (go_simp; with_reducible rfl))
        try simp only [Act.put, List.setIfInBounds_toArray, List.set_cons_zero, List.set_cons_succ]
        refine wpAnyH_takeD (i := 2) (some 45) (v := ?v2_3) rfl rfl (by kernel_rfl) (by kernel_rfl) (by kernel_rfl) (fun _ _ _ h => h) (by rfl) ?y2_3 (by assumption) ?r2_3
        case y2_3 => (intro w hSw; (try dsimp only at hSw); first | (go_simp; done) | (go_simp; with_reducible rfl))
        try simp only [Act.put, List.setIfInBounds_toArray, List.set_cons_zero, List.set_cons_succ]
        refine wpAnyH_takeD (i := 3) (some 46) (v := ?v3_4) rfl rfl (by kernel_rfl) (by kernel_rfl) (by kernel_rfl) (fun _ _ _ h => h) (by rfl) ?y3_4 (by assumption) ?r3_4
        case y3_4 => (intro w hSw; (try dsimp only at hSw); first | (go_simp; done) | (go_simp; with_reducible rfl))
        try simp only [Act.put, List.setIfInBounds_toArray, List.set_cons_zero, List.set_cons_succ]
        refine wpAnyH_takeD (i := 4) (some 47) (v := ?v4_5) rfl rfl (by kernel_rfl) (by kernel_rfl) (by kernel_rfl) (fun _ _ _ h => h) (by rfl) ?y4_5 (by assumption) ?r4_5
        case y4_5 => (intro w hSw; (try dsimp only at hSw); first | (go_simp; done) | (go_simp; with_reducible rfl))
        try simp only [Act.put, List.setIfInBounds_toArray, List.set_cons_zero, List.set_cons_succ]
        refine wpAnyH_takeD (i := 5) (some 48) (v := ?v5_6) rfl rfl (by kernel_rfl) (by kernel_rfl) (by kernel_rfl) (fun _ _ _ h => h) (by rfl) ?y5_6 (by assumption) ?r5_6
        case y5_6 => (intro w hSw; (try dsimp only at hSw); first | (go_simp; done) | (go_simp; with_reducible rfl))
        try simp only [Act.put, List.setIfInBounds_toArray, List.set_cons_zero, List.set_cons_succ]
        refine wpAnyH_takeD (i := 6) (some 49) (v := ?v6_7) rfl rfl (by kernel_rfl) (by kernel_rfl) (by kernel_rfl) (fun _ _ _ h => h) (by rfl) ?y6_7 (by assumption) ?r6_7
        case y6_7 => (intro w hSw; (try dsimp only at hSw); first | (go_simp; done) | (go_simp; with_reducible rfl))
        try simp only [Act.put, List.setIfInBounds_toArray, List.set_cons_zero, List.set_cons_succ]
        refine wpAnyH_takeD (i := 7) (some 50) (v := ?v7_8) rfl rfl (by kernel_rfl) (by kernel_rfl) (by kernel_rfl) (fun _ _ _ h => h) (by rfl) ?y7_8 (by assumption) ?r7_8
        case y7_8 => (intro w hSw; (try dsimp only at hSw); first | (go_simp; done) | (go_simp; with_reducible rfl))
        try simp only [Act.put, List.setIfInBounds_toArray, List.set_cons_zero, List.set_cons_succ]
        refine wpAnyH_takeD (i := 8) (some 51) (v := ?v8_9) rfl rfl (by kernel_rfl) (by kernel_rfl) (by kernel_rfl) (fun _ _ _ h => h) (by rfl) ?y8_9 (by assumption) ?r8_9
        case y8_9 => (intro w hSw; (try dsimp only at hSw); first | (go_simp; done) | (go_simp; with_reducible rfl))
        try simp only [Act.put, List.setIfInBounds_toArray, List.set_cons_zero, List.set_cons_succ]
        refine wpAnyH_takeD (i := 9) (some 52) (v := ?v9_10) rfl rfl (by kernel_rfl) (by kernel_rfl) (by kernel_rfl) (fun _ _ _ h => h) (by rfl) ?y9_10 (by assumption) ?r9_10
        case y9_10 => (intro w hSw; (try dsimp only at hSw); first | (go_simp; done) | (go_simp; with_reducible rfl))
        try simp only [Act.put, List.setIfInBounds_toArray, List.set_cons_zero, List.set_cons_succ]
        refine wpAnyH_ready (rs := [10]) (by kernel_rfl) (by simp) ?_
        refine AllReadyH.cons rfl (fun K hK => ?_) ?_
        · go_simp
          go_at_call 16
          refine (make_calls H9.out.drew (Reads.of_sl (up5 M0.out)) (up5 M1.out) HNS.out).mono ?_
          rintro xx w10 ⟨ba, na, ca, rfl, hna, h10⟩
          rw [HMM.out] at h10
          have H10 := hide (h10.b5.b5)
          clear h10 hna H9
          refine hK.out _ _ ?_ (fun hHeld => ?_)
          · exact ⟨XC0.out _ [_, _, _, _, _, _] H10.out, XC1.out _ [_, _, _, _, _, _] H10.out⟩
          clear hK K
          try simp only [Act.put, List.setIfInBounds_toArray, List.set_cons_zero, List.set_cons_succ]
          refine wpAnyH_takeD (i := 11) (some 11) (v := ?v11_11) rfl rfl (by kernel_rfl) (by kernel_rfl) (by kernel_rfl) (fun _ _ _ h => h) (by rfl) ?y11_11 (by assumption) ?r11_11
          case y11_11 => (intro w hSw; (try dsimp only at hSw); first | (go_simp; done) | (go_simp; with_reducible rfl))
          try simp only [Act.put, List.setIfInBounds_toArray, List.set_cons_zero, List.set_cons_succ]
          refine wpAnyH_done (by kernel_rfl) ?_ _
          clear hHeld
          go_wp2_with (first
            | (go_at_call 17; have hi1 := HI1.out; refine (scommit_calls (fl := M) H10.out (Reads.of_rows mem0) HOK.out (by rw [hi1.1]; exact hi1.2.1) ⟨hi1.2.2.1, by have := hi1.2.2.2.1; omega⟩ hN2 (by have := hi1.2.2.2.2; omega) HPP.out (up2 M3.out)).mono ?_; rintro xx w11 ⟨rfl, m11, kv11, hcan, h11⟩; rw [hi1.1, HGG.out, HE.out] at hcan h11 ⊢; have H11 := hide h11; have HC11 := hide hcan; clear h11 hcan H10 hi1 HI1)
            | (go_at_call 18; refine (sorted4_calls H11.out (Reads.of_rows mem4) (by have := HLEN.out; omega)).mono ?_; rintro xx w12 ⟨bs, nb, cb, rfl, hnb, h12⟩; rw [HSO.out] at h12 hnb; have HNB := hide hnb; have H12 := hide (h12.d5.d5.b4.f1); clear h12 hnb H11)
            | (go_at_call 20; have hx5 := HC11.out; refine (files_calls H12.out mem0 (by rw [hx5]; exact HGO.out)).mono ?_; rintro xx w13 ⟨bf, nf, cf, rfl, hnf, h13⟩; rw [hx5] at h13; have H13 := hide h13; clear h13 H12 hx5 hnf)
            | (go_at_call 19; refine (fsame_calls H13.out (Reads.of_rows mem0) (Reads.of_rows mem5)).mono ?_; rintro xx w14 ⟨rfl, h14⟩; rw [decide_eq_true rfl]; have x2 := XC2.out _ [_, _, _, _, _] h14.drop; have H15 := hide h14.drop; clear h14 H13))
          by_cases h40 : k4 = 0
          · subst h40
            obtain ⟨hz1, hz2, hz3, hz4⟩ := HE2.out
            obtain ⟨rows, d9, l9, K9, r1, r2, r3, r4, r5, r6, r7⟩ := reopen_alive hz1 ⟨hz3, by omega⟩ hN2 (by omega) HFIT.out
            have HR : Hid (Alive d' N K' ∧ d'.ops ≤ 100000000 ∧ openR d' = (l', rows) ∧ TellsF rows G ∧ freshD d' l' (setB G) = (0, d9, l9) ∧ partsOf (setB G).length ≤ 255 ∧ l'.most + 1 ≤ 4294967295 ∧ l'.half ≤ 1) := hide (by
              obtain ⟨rs, hL, -⟩ := hz1.rows
              exact ⟨hz1.al, by rw [hz1.al.ops]; omega, r1, r2, r3, by have := HFIT.out; omega, by rw [hL.mo]; omega, hL.hf⟩)
            have HN9 : Hid (StoreI d9 N K9 l9 G ∧ 0 ≤ K9 ∧ K9 ≤ 300 + 600 * ((k + 1 : Nat) : Int) ∧ l9.gen ≤ 1 + 2 * (k + 1)) := hide ⟨r4, by omega, by omega, by omega⟩
            have H16 := hide (H15.out.drop.drop.drop)
            clear hz1 hz2 hz3 hz4 r1 r2 r3 r4 r5 r6 r7 H15
            go_wp2_with (first
              | (go_at_call 14; have hm9 := HK4.out; refine (within4_calls kd 4 (by omega) (by omega) hkd1 hkd2).mono ?_; rintro xx w15 ⟨rfl, hw15⟩; subst hw15; rw [hm9]; clear hm9 HK4)
              | (go_at_call 15; refine (sopen_calls H16.out HR.out.1 HR.out.2.1 HR.out.2.2.1 (Or.inr HR.out.2.2.2.1) HGO.out HR.out.2.2.2.2.1 HR.out.2.2.2.2.2.1 HR.out.2.2.2.2.2.2.1 HR.out.2.2.2.2.2.2.2 (up1 M3.out)).mono ?_; rintro xx w17 ⟨gs17, rfl, gl17, m17, kv17, hcan, h17⟩; have H17 := hide h17.f1; have HC17 := hide hcan; clear h17 hcan H16)
              | (go_at_call 20; have hx5 := HC17.out; refine (files_calls H17.out mem0 (by rw [hx5]; exact HGO.out)).mono ?_; rintro xx w13 ⟨bf, nf, cf, rfl, hnf, h13⟩; rw [hx5] at h13; have H18 := hide h13; clear h13 H17 hx5 hnf)
              | (go_at_call 19; refine (fsame_calls H18.out (Reads.of_rows mem0) (Reads.of_rows mem5)).mono ?_; rintro xx w14 ⟨rfl, h14⟩; rw [decide_eq_true rfl]; have H19 := hide h14.drop; clear h14 H18))
            go_roundw
            case rel => exact ⟨k + 1, d9, K9, l9, G, kv17, gs17, gl17, m17, bs, nb, cb, by omega, by omega, by go_num, rfl, rfl, hide ⟨HC17.out, HN9.out.1, HN9.out.2.1, HN9.out.2.2.1, HN9.out.2.2.2, HFIT.out, HNB.out⟩, HOUT.out _ _ _ _ _ _ (H19.out.f1.f4)⟩
            case measure => exact meas_step (by omega)
          · have hk40 : ¬ ((k4 : Int) = 0) := by omega
            go_wp2_with (first
              | (go_at_call 14; have hm9 := HK4.out; refine (within4_calls kd 4 (by omega) (by omega) hkd1 hkd2).mono ?_; rintro xx w15 ⟨rfl, hw15⟩; subst hw15; rw [hm9]; clear hm9 HK4))
            go_roundw
            case rel => exact ⟨k + 1, d', K', l', G, kv11, gs6, gl6, m11, bs, nb, cb, by omega, by omega, by go_num, rfl, rfl, hide ⟨HC11.out, HE2.out.1, HE2.out.2.2.1, by have := HE2.out.2.1; omega, by have := HE2.out.2.2.2; omega, HFIT.out, HNB.out⟩, HOUT.out _ _ _ _ _ _ (H15.out.f1.f4)⟩
            case measure => exact meas_step (by omega)
        exact AllReadyH.nil
      · have e1 := (commit_alive (G := G) hI.si ⟨hI.k0, by have := hI.k1; omega⟩ hN2 hGo (by have := hI.gen; omega)).1 (by omega)
        have HE := hide e1
        have hI2 : K ≤ 600 + 600 * k ∧ 0 ≤ K ∧ lg.gen ≤ 2 + 2 * k := by have := hI.k1; have := hI.k0; have := hI.gen; omega
        have HE2 := hide (And.intro hI.si hI2)
        have HGO := hide hI.si.ok
        have HFIT := hide hI.pt
        have HQW := hide hI.len
        clear hI e1 hI2 hfit hmp hGo HI
        go_wp2_with fail
        refine wp_region_held_drew (S := fun w' => w'.cell? ⟨gr, or + k * 5, none⟩ = some (.slice ab an ac) ∧ w'.cell? ⟨gr, or + k * 5 + 1, none⟩ = some (.slice bb bn bc)) (by kernel_rfl) ?_ (fun hHeld => ?_)
        · exact ⟨XC0.out _ [_, _, _, _, _] H9.out.drew, XC1.out _ [_, _, _, _, _] H9.out.drew⟩
        refine wpAnyH_takeD (i := 0) (some 43) (v := ?v0_12) rfl rfl (by kernel_rfl) (by kernel_rfl) (by kernel_rfl) (fun _ _ _ h => h) (by rfl) ?y0_12 (by assumption) ?r0_12
        case y0_12 => (intro w hSw; (try dsimp only at hSw); first | (go_simp; done) | (go_simp; with_reducible rfl))
        try simp only [Act.put, List.setIfInBounds_toArray, List.set_cons_zero, List.set_cons_succ]
        refine wpAnyH_takeD (i := 1) (some 44) (v := ?v1_13) rfl rfl (by kernel_rfl) (by kernel_rfl) (by kernel_rfl) (fun _ _ _ h => h) (by rfl) ?y1_13 (by assumption) ?r1_13
        case y1_13 => (intro w hSw; (try dsimp only at hSw); first | (go_simp; done) | (go_simp; with_reducible rfl))
        try simp only [Act.put, List.setIfInBounds_toArray, List.set_cons_zero, List.set_cons_succ]
        refine wpAnyH_takeD (i := 2) (some 45) (v := ?v2_14) rfl rfl (by kernel_rfl) (by kernel_rfl) (by kernel_rfl) (fun _ _ _ h => h) (by rfl) ?y2_14 (by assumption) ?r2_14
        case y2_14 => (intro w hSw; (try dsimp only at hSw); first | (go_simp; done) | (go_simp; with_reducible rfl))
        try simp only [Act.put, List.setIfInBounds_toArray, List.set_cons_zero, List.set_cons_succ]
        refine wpAnyH_takeD (i := 3) (some 46) (v := ?v3_15) rfl rfl (by kernel_rfl) (by kernel_rfl) (by kernel_rfl) (fun _ _ _ h => h) (by rfl) ?y3_15 (by assumption) ?r3_15
        case y3_15 => (intro w hSw; (try dsimp only at hSw); first | (go_simp; done) | (go_simp; with_reducible rfl))
        try simp only [Act.put, List.setIfInBounds_toArray, List.set_cons_zero, List.set_cons_succ]
        refine wpAnyH_takeD (i := 4) (some 47) (v := ?v4_16) rfl rfl (by kernel_rfl) (by kernel_rfl) (by kernel_rfl) (fun _ _ _ h => h) (by rfl) ?y4_16 (by assumption) ?r4_16
        case y4_16 => (intro w hSw; (try dsimp only at hSw); first | (go_simp; done) | (go_simp; with_reducible rfl))
        try simp only [Act.put, List.setIfInBounds_toArray, List.set_cons_zero, List.set_cons_succ]
        refine wpAnyH_takeD (i := 5) (some 48) (v := ?v5_17) rfl rfl (by kernel_rfl) (by kernel_rfl) (by kernel_rfl) (fun _ _ _ h => h) (by rfl) ?y5_17 (by assumption) ?r5_17
        case y5_17 => (intro w hSw; (try dsimp only at hSw); first | (go_simp; done) | (go_simp; with_reducible rfl))
        try simp only [Act.put, List.setIfInBounds_toArray, List.set_cons_zero, List.set_cons_succ]
        refine wpAnyH_takeD (i := 6) (some 49) (v := ?v6_18) rfl rfl (by kernel_rfl) (by kernel_rfl) (by kernel_rfl) (fun _ _ _ h => h) (by rfl) ?y6_18 (by assumption) ?r6_18
        case y6_18 => (intro w hSw; (try dsimp only at hSw); first | (go_simp; done) | (go_simp; with_reducible rfl))
        try simp only [Act.put, List.setIfInBounds_toArray, List.set_cons_zero, List.set_cons_succ]
        refine wpAnyH_takeD (i := 7) (some 50) (v := ?v7_19) rfl rfl (by kernel_rfl) (by kernel_rfl) (by kernel_rfl) (fun _ _ _ h => h) (by rfl) ?y7_19 (by assumption) ?r7_19
        case y7_19 => (intro w hSw; (try dsimp only at hSw); first | (go_simp; done) | (go_simp; with_reducible rfl))
        try simp only [Act.put, List.setIfInBounds_toArray, List.set_cons_zero, List.set_cons_succ]
        refine wpAnyH_takeD (i := 8) (some 51) (v := ?v8_20) rfl rfl (by kernel_rfl) (by kernel_rfl) (by kernel_rfl) (fun _ _ _ h => h) (by rfl) ?y8_20 (by assumption) ?r8_20
        case y8_20 => (intro w hSw; (try dsimp only at hSw); first | (go_simp; done) | (go_simp; with_reducible rfl))
        try simp only [Act.put, List.setIfInBounds_toArray, List.set_cons_zero, List.set_cons_succ]
        refine wpAnyH_takeD (i := 9) (some 52) (v := ?v9_21) rfl rfl (by kernel_rfl) (by kernel_rfl) (by kernel_rfl) (fun _ _ _ h => h) (by rfl) ?y9_21 (by assumption) ?r9_21
        case y9_21 => (intro w hSw; (try dsimp only at hSw); first | (go_simp; done) | (go_simp; with_reducible rfl))
        try simp only [Act.put, List.setIfInBounds_toArray, List.set_cons_zero, List.set_cons_succ]
        refine wpAnyH_ready (rs := [10]) (by kernel_rfl) (by simp) ?_
        refine AllReadyH.cons rfl (fun K hK => ?_) ?_
        · go_simp
          go_at_call 16
          refine (make_calls H9.out.drew (Reads.of_sl (up5 M0.out)) (up5 M1.out) HNS.out).mono ?_
          rintro xx w10 ⟨ba, na, ca, rfl, hna, h10⟩
          rw [HMM.out] at h10
          have H10 := hide (h10.b5.b5)
          clear h10 hna H9
          refine hK.out _ _ ?_ (fun hHeld => ?_)
          · exact ⟨XC0.out _ [_, _, _, _, _, _] H10.out, XC1.out _ [_, _, _, _, _, _] H10.out⟩
          clear hK K
          try simp only [Act.put, List.setIfInBounds_toArray, List.set_cons_zero, List.set_cons_succ]
          refine wpAnyH_takeD (i := 11) (some 11) (v := ?v11_22) rfl rfl (by kernel_rfl) (by kernel_rfl) (by kernel_rfl) (fun _ _ _ h => h) (by rfl) ?y11_22 (by assumption) ?r11_22
          case y11_22 => (intro w hSw; (try dsimp only at hSw); first | (go_simp; done) | (go_simp; with_reducible rfl))
          try simp only [Act.put, List.setIfInBounds_toArray, List.set_cons_zero, List.set_cons_succ]
          refine wpAnyH_done (by kernel_rfl) ?_ _
          clear hHeld
          go_wp2_with (first
            | (go_at_call 17; have hi1 := HI1.out; refine (scommit_calls (fl := M) H10.out (Reads.of_rows mem0) HOK.out (by rw [hi1.1]; exact hi1.2.1) ⟨hi1.2.2.1, by have := hi1.2.2.2.1; omega⟩ hN2 (by have := hi1.2.2.2.2; omega) HPP.out (up2 M3.out)).mono ?_; rintro xx w11 ⟨rfl, m11, kv11, hcan, h11⟩; rw [hi1.1, HGG.out, HE.out] at hcan h11 ⊢; have H12 := hide (h11.d4.f1); have HC11 := hide hcan; clear h11 hcan H10 hi1 HI1)
            | (go_at_call 20; have hx5 := HC11.out; refine (files_calls H12.out mem0 (by rw [hx5]; exact HGO.out)).mono ?_; rintro xx w13 ⟨bf, nf, cf, rfl, hnf, h13⟩; rw [hx5] at h13; have H13 := hide h13; clear h13 H12 hx5 hnf)
            | (go_at_call 19; refine (fsame_calls H13.out (Reads.of_rows mem0) (Reads.of_rows mem5)).mono ?_; rintro xx w14 ⟨rfl, h14⟩; rw [decide_eq_true rfl]; have x2 := XC2.out _ [_, _, _, _, _] h14.drop; have H15 := hide h14.drop; clear h14 H13))
          by_cases h40 : k4 = 0
          · subst h40
            obtain ⟨hz1, hz2, hz3, hz4⟩ := HE2.out
            obtain ⟨rows, d9, l9, K9, r1, r2, r3, r4, r5, r6, r7⟩ := reopen_alive hz1 ⟨hz3, by omega⟩ hN2 (by omega) HFIT.out
            have HR : Hid (Alive d N K ∧ d.ops ≤ 100000000 ∧ openR d = (lg, rows) ∧ TellsF rows F ∧ freshD d lg (setB F) = (0, d9, l9) ∧ partsOf (setB F).length ≤ 255 ∧ lg.most + 1 ≤ 4294967295 ∧ lg.half ≤ 1) := hide (by
              obtain ⟨rs, hL, -⟩ := hz1.rows
              exact ⟨hz1.al, by rw [hz1.al.ops]; omega, r1, r2, r3, by have := HFIT.out; omega, by rw [hL.mo]; omega, hL.hf⟩)
            have HN9 : Hid (StoreI d9 N K9 l9 F ∧ 0 ≤ K9 ∧ K9 ≤ 300 + 600 * ((k + 1 : Nat) : Int) ∧ l9.gen ≤ 1 + 2 * (k + 1)) := hide ⟨r4, by omega, by omega, by omega⟩
            have H16 := hide (H15.out.drop.drop.drop)
            clear hz1 hz2 hz3 hz4 r1 r2 r3 r4 r5 r6 r7 H15
            go_wp2_with (first
              | (go_at_call 14; have hm9 := HK4.out; refine (within4_calls kd 4 (by omega) (by omega) hkd1 hkd2).mono ?_; rintro xx w15 ⟨rfl, hw15⟩; subst hw15; rw [hm9]; clear hm9 HK4)
              | (go_at_call 15; refine (sopen_calls H16.out HR.out.1 HR.out.2.1 HR.out.2.2.1 (Or.inr HR.out.2.2.2.1) HGO.out HR.out.2.2.2.2.1 HR.out.2.2.2.2.2.1 HR.out.2.2.2.2.2.2.1 HR.out.2.2.2.2.2.2.2 (up1 M3.out)).mono ?_; rintro xx w17 ⟨gs17, rfl, gl17, m17, kv17, hcan, h17⟩; have H17 := hide h17.f1; have HC17 := hide hcan; clear h17 hcan H16)
              | (go_at_call 20; have hx5 := HC17.out; refine (files_calls H17.out mem0 (by rw [hx5]; exact HGO.out)).mono ?_; rintro xx w13 ⟨bf, nf, cf, rfl, hnf, h13⟩; rw [hx5] at h13; have H18 := hide h13; clear h13 H17 hx5 hnf)
              | (go_at_call 19; refine (fsame_calls H18.out (Reads.of_rows mem0) (Reads.of_rows mem5)).mono ?_; rintro xx w14 ⟨rfl, h14⟩; rw [decide_eq_true rfl]; have H19 := hide h14.drop; clear h14 H18))
            go_roundw
            case rel => exact ⟨k + 1, d9, K9, l9, F, kv17, gs17, gl17, m17, bw, qw, cw, by omega, by omega, by go_num, rfl, rfl, hide ⟨HC17.out, HN9.out.1, HN9.out.2.1, HN9.out.2.2.1, HN9.out.2.2.2, HFIT.out, HQW.out⟩, HOUT.out _ _ _ _ _ _ (H19.out.f1.f4)⟩
            case measure => exact meas_step (by omega)
          · have hk40 : ¬ ((k4 : Int) = 0) := by omega
            go_wp2_with (first
              | (go_at_call 14; have hm9 := HK4.out; refine (within4_calls kd 4 (by omega) (by omega) hkd1 hkd2).mono ?_; rintro xx w15 ⟨rfl, hw15⟩; subst hw15; rw [hm9]; clear hm9 HK4))
            go_roundw
            case rel => exact ⟨k + 1, d, K, lg, F, kv11, gs6, gl6, m11, bw, qw, cw, by omega, by omega, by go_num, rfl, rfl, hide ⟨HC11.out, HE2.out.1, HE2.out.2.2.1, by have := HE2.out.2.1; omega, by have := HE2.out.2.2.2; omega, HFIT.out, HQW.out⟩, HOUT.out _ _ _ _ _ _ (H15.out.f1.f4)⟩
            case measure => exact meas_step (by omega)
        exact AllReadyH.nil
    · by_cases hlz : k < z
      · have hlt1 : (k : Int) < z := by omega
        have hlt2 : ¬ (k : Int) < 20 := by omega
        go_wp2_with fail
        go_ret
        exact ⟨rfl, H6.out.drop.drop.drop.drop.drop⟩
      · have hlt1 : ¬ (k : Int) < z := by omega
        go_wp2_with fail
        go_ret
        exact ⟨rfl, H6.out.drop.drop.drop.drop.drop⟩
end Go.Proofs.YtcgnkloljfgiaaaGreatDoor
