/-
  No program in sight: who leads to whom, reckoned. deadboltlaw8: fun. No program in sight: the statement's own program, reckoned. deadboltlaw8: what the statement's own program answers, as facts. deadboltlaw8: the region of GraphKnown that holds its rows: each of its operations.
-/
import Derived.Test.YtmebmgbjpbapjaaGy
import Derived.Test.YtmebmgbjpbapjaaP9
import Derived.Test.YtmebmgbjpbapjaaP4
import Derived.Test.YtmebmgbjpbapjaaGqd
import Derived.Test.YtmebmgbjpbapjaaQq
import Derived.Test.YtmebmgbjpbapjaaIi
import Derived.Test.YtmebmgbjpbapjaaPp
namespace Go.Proofs.Ytmebmgbjpbapjaa
open Go.RowKit Go.Maps Go.MapKept

def stepC (es : List (Str × Str)) (R : List Str) : List Str := R ++ (es.filter (fun e => decide (e.1 ∈ R) && !decide (e.2 ∈ R))).map (·.2)
def reachC (es : List (Str × Str)) : Nat → List Str → List Str
  | 0, R => R
  | n + 1, R => reachC es n (stepC es R)
def shutC (es : List (Str × Str)) (R : List Str) : Bool := es.all (fun e => !decide (e.1 ∈ R) || decide (e.2 ∈ R))
theorem stepC_sound {es : List (Str × Str)} {s : Str} {R : List Str} (h : ∀ x ∈ R, Rch (edgesN es) s x) : ∀ x ∈ stepC es R, Rch (edgesN es) s x := by
  intro x hx
  unfold stepC at hx
  rcases List.mem_append.1 hx with hx | hx
  · exact h x hx
  · obtain ⟨e, he, rfl⟩ := List.mem_map.1 hx
    obtain ⟨h1, h2⟩ := List.mem_filter.1 he
    simp only [Bool.and_eq_true, decide_eq_true_eq] at h2
    exact (h e.1 h2.1).step (edgesN_mem.2 h1)
theorem reachC_sound {es : List (Str × Str)} {s : Str} : ∀ (n : Nat) (R : List Str), (∀ x ∈ R, Rch (edgesN es) s x) → ∀ x ∈ reachC es n R, Rch (edgesN es) s x
  | 0, _, h => h
  | n + 1, R, h => reachC_sound n _ (stepC_sound h)
theorem reachC_grows {es : List (Str × Str)} : ∀ (n : Nat) (R : List Str) (x : Str), x ∈ R → x ∈ reachC es n R
  | 0, _, _, h => h
  | n + 1, R, x, h => reachC_grows n _ x (List.mem_append_left _ h)
theorem reachC_iff {es : List (Str × Str)} {s : Str} (n : Nat) (hc : shutC es (reachC es n [s]) = true) (y : Str) : Rch (edgesN es) s y ↔ y ∈ reachC es n [s] := by
  constructor
  · intro h
    refine h (fun y => y ∈ reachC es n [s]) (reachC_grows n _ s (by simp)) (fun x hx z hz => ?_)
    have := List.all_eq_true.1 hc (x, z) (edgesN_mem.1 hz)
    simp [hx] at this
    exact this
  · exact reachC_sound n [s] (fun x hx => by simp at hx; subst hx; exact Rch.refl _ _) y
def eqC (es : List (Str × Str)) (n : Nat) (x y : Str) : Bool := decide (y ∈ reachC es n [x]) && decide (x ∈ reachC es n [y])
theorem eqv_eqC {es : List (Str × Str)} {n : Nat} {x y : Str} (hx : shutC es (reachC es n [x]) = true) (hy : shutC es (reachC es n [y]) = true) : eqv (edgesN es) x y = eqC es n x y := by
  rw [Bool.eq_iff_iff, eqv_iff, reachC_iff n hx, reachC_iff n hy]
  simp [eqC]
theorem partsR_congr {q q' : Str → Str → Bool} : ∀ (n : Nat) (l : List Str), (∀ x ∈ l, ∀ y ∈ l, q x y = q' x y) → partsR q n l = partsR q' n l
  | 0, _, _ => by simp [partsR]
  | _ + 1, [], _ => by simp [partsR]
  | n + 1, x :: l, h => by
    have h1 : (x :: l).filter (q x) = (x :: l).filter (q' x) := List.filter_congr (fun y hy => h x (by simp) y hy)
    have h2 : (x :: l).filter (fun y => !q x y) = (x :: l).filter (fun y => !q' x y) := List.filter_congr (fun y hy => by rw [h x (by simp) y hy])
    simp only [partsR]
    rw [h1, h2, partsR_congr n _ (fun a ha c hc => h a (List.mem_filter.1 ha).1 c (List.mem_filter.1 hc).1)]
/-- Parts, reckoned. -/
theorem parts_reckon {es : List (Str × Str)} {S : List Str} {n : Nat} (h : ∀ x ∈ S, shutC es (reachC es n [x]) = true) : partsR (eqv (edgesN es)) S.length S = partsR (eqC es n) S.length S :=
  partsR_congr _ _ (fun x hx y hy => eqv_eqC (h x hx) (h y hy))
end Go.Proofs.Ytmebmgbjpbapjaa

namespace Go.Proofs.Ytmebmgbjpbapjaa
open Go.RowKit Go.Maps Go.MapKept
variable {b : Env} {L : List HP} {w : World}

/-- Calls of these, as statements. -/
def callS (t : Str) : SRec := ⟨5, 0, t, .nil, .nil⟩
theorem szFunc : (Try.prog.info? 48).map (·.size) = some 3 := by kernel_rfl
def FunAt (b : Env) (L : List HP) (G4 : HP) (g5 : Nat) (nm : Str) (cto : List Str) (i : Value) (wr : World) : Prop := ∃ k : Nat, k ≤ cto.length ∧ i = .int .i64 k ∧ ∃ base cap,
  St b (HP.blk g5 (.cells [sv nm, .int .i64 0, .slice base k cap].toArray 48) :: HP.rows 50 stmtE (.slice base k cap) ((cto.take k).map callS) :: G4 :: L) wr

set_option linter.unusedSimpArgs false in
set_option maxRecDepth 100000 in
set_option maxHeartbeats 4000000 in
theorem fun_calls (h : St b L w) (nm : Str) (hnm : okStr nm) {vt : Value} {cto : List Str} (hm : HP.sl strE vt cto ∈ L) (hl : cto.length ≤ 1000) :
    Calls Try.prog 34 #[sv nm, vt] w fun x w' => ∃ v, x = .returned (.agg #[sv nm, .int .i64 0, v]) ∧ St b (HP.sl stmtE v (cto.map callS) :: L) w' := by
  obtain ⟨bt, ct, rfl, _, _⟩ := h.sl_form hm
  have hone : ∀ (a c d : Value), a.oneCell' = true → c.oneCell' = true → d.oneCell' = true → ∀ v ∈ [a, c, d], v.oneCell' = true := by intro a c d h1 h2 h3 v hv; simp at hv; rcases hv with rfl | rfl | rfl <;> assumption
  have ONE := hide hone
  have H := hide h
  have HM := hide hm
  have HN := hide hnm
  have hlI : (cto.length : Int) ≤ 9223372036854775807 := by omega
  clear h hm hnm hone
  go_enter Try.func34, Try.ntmps34
  go_wp2_with (first
    | ((with_reducible refine wpList_alloc_ag rfl agFunc (by rfl) H.out ?_); intro g4 w1 h1; have H1 := hide h1; clear h1 H)
    | ((with_reducible refine wpList_alloc_ag rfl agFunc (by rfl) H1.out ?_); intro g5 w2 h2; have H2 := hide h2; clear h2 H1)
    | ((with_reducible refine wpList_store_ag (cs := [sv nm, .int .i64 0, .slice none 0 0]) rfl agFunc (.tmp 5) (.tmp 8) rfl rfl rfl rfl rfl (ONE.out _ _ _ rfl rfl rfl) H2.out ?_); intro w3 h3; have H3 := hide ((h3.rows_nil 50 stmtE).f1); clear h3 H2))
  go_loopw [6] (fun i wr => FunAt b L (HP.blk g4 (.cells [.string ⟨#[]⟩, .int .i64 0, .slice none 0 0].toArray 48)) g5 nm cto i wr) (fun i _ => cto.length - (intOf i).toNat)
  case atStart => exact ⟨0, by omega, rfl, none, 0, H3.out⟩
  case round =>
    obtain ⟨k, hk, rfl, be, ce, hs⟩ := hrel
    have H4 := hide hs
    clear hs H3
    by_cases hlt : k < cto.length
    · have hlt' : (k : Int) < cto.length := by omega
      obtain ⟨gt, ot, hgt⟩ := H4.out.sl_base (up3 HM.out) (by omega) Nat.one_pos
      subst hgt
      obtain ⟨hcx, hokx⟩ := H4.out.drew.sc_at (up3 HM.out) hlt
      have htk : (cto.take (k + 1)).map callS = (cto.take k).map callS ++ [callS cto[k]] := by rw [List.take_succ_eq_append_getElem hlt, List.map_append, List.map_singleton]
      have hdl : ((cto.take k).map callS).length = k := by rw [List.length_map, List.length_take]; omega
      obtain ⟨x, hx⟩ : ∃ x, cto[k] = x := ⟨_, rfl⟩
      have HX := hide hx
      rw [hx] at hcx hokx htk
      have hrd : ∀ h : Frag, stmtE.rd h (callS x) [.int .i64 5, .int .i64 0, sv x, .slice none 0 0, .slice none 0 0] := fun h => ⟨_, _, rfl, hokx, sl_nil_stms _, sl_nil_stms _⟩
      have c5 : wr.cell? ⟨g5, 2, none⟩ = some (.slice be k ce) := H4.out.blk_cell mem0 2
      have hA0 := (H4.out.alloc (.cells #[.int .i64 5, .int .i64 0, .string ⟨x.toArray⟩, .slice none 0 0, .slice none 0 0] 50)).rows1 (E := stmtE) (cs := [.int .i64 5, .int .i64 0, sv x, .slice none 0 0, .slice none 0 0]) (callS x) (fun e _ _ => hrd e.h)
      have hA := hA0.drew
      have c5a := hA.blk_cell mem1 2
      have cxa := (hA.sc_at (up1 (up3 HM.out)) hlt).1
      rw [hx] at cxa
      have HA := hide hA.f2
      have HTK := hide htk
      have q1 : ((cto.take k).map callS).length + [callS x].length ≤ maxLen := by rw [hdl]; unfold maxLen; simp; omega
      have q2 : (((cto.take k).map callS).length + [callS x].length) * 80 ≤ 140737488355328 := by rw [hdl]; simp; omega
      have HDL := hide hdl
      clear hx hokx htk hdl hA hA0 H4 hrd
      go_wp2_with fail
      refine wp_region_held_drew (S := fun w' => w'.cell? ⟨gt, ot + k, none⟩ = some (.string ⟨x.toArray⟩)) (by kernel_rfl) ?_ (fun hHeld => ?_)
      · exact hcx
      refine wpAnyH_takeD (i := 0) (some 15) (v := ?v0_1) rfl rfl (by kernel_rfl) (by kernel_rfl) (by kernel_rfl) (fun _ _ _ h => h) (by rfl) ?y0_1 (by assumption) ?r0_1
      case y0_1 => (intro w hSw; (try dsimp only at hSw); first | (go_simp; done) | (go_simp; with_reducible rfl))
      try simp only [Act.put, List.setIfInBounds_toArray, List.set_cons_zero, List.set_cons_succ]
      refine wpAnyH_takeD (i := 2) (some 17) (v := ?v2_2) rfl rfl (by kernel_rfl) (by kernel_rfl) (by kernel_rfl) (fun _ _ _ h => h) (by rfl) ?y2_2 (by assumption) ?r2_2
      case y2_2 => (intro w hSw; (try dsimp only at hSw); first | (go_simp; done) | (go_simp; with_reducible rfl))
      try simp only [Act.put, List.setIfInBounds_toArray, List.set_cons_zero, List.set_cons_succ]
      refine wpAnyH_takeD (i := 3) (some 18) (v := ?v3_3) rfl rfl (by kernel_rfl) (by kernel_rfl) (by kernel_rfl) (fun _ _ _ h => h) (by rfl) ?y3_3 (by assumption) ?r3_3
      case y3_3 => (intro w hSw; (try dsimp only at hSw); first | (go_simp; done) | (go_simp; with_reducible rfl))
      try simp only [Act.put, List.setIfInBounds_toArray, List.set_cons_zero, List.set_cons_succ]
      refine wpAnyH_takeD (i := 4) (some 19) (v := ?v4_4) rfl rfl (by kernel_rfl) (by kernel_rfl) (by kernel_rfl) (fun _ _ _ h => h) (by rfl) ?y4_4 (by assumption) ?r4_4
      case y4_4 => (intro w hSw; (try dsimp only at hSw); first | (go_simp; done) | (go_simp; with_reducible rfl))
      try simp only [Act.put, List.setIfInBounds_toArray, List.set_cons_zero, List.set_cons_succ]
      refine wpAnyH_takeD (i := 5) (some 20) (v := ?v5_5) rfl rfl (by kernel_rfl) (by kernel_rfl) (by kernel_rfl) (fun _ _ _ h => h) (by rfl) ?y5_5 (by assumption) ?r5_5
      case y5_5 => (intro w hSw; (try dsimp only at hSw); first | (go_simp; done) | (go_simp; with_reducible rfl))
      try simp only [Act.put, List.setIfInBounds_toArray, List.set_cons_zero, List.set_cons_succ]
      refine wpAnyH_takeD (i := 6) (some 21) (v := ?v6_6) rfl rfl (by kernel_rfl) (by kernel_rfl) (by kernel_rfl) (fun _ _ _ h => h) (by rfl) ?y6_6 (by assumption) ?r6_6
      case y6_6 => (intro w hSw; (try dsimp only at hSw); first | (go_simp; done) | (go_simp; with_reducible rfl))
      try simp only [Act.put, List.setIfInBounds_toArray, List.set_cons_zero, List.set_cons_succ]
      refine wpAnyH_ready (rs := [1, 7]) (by kernel_rfl) (by simp) ?_
      refine AllReadyH.cons rfl (fun K hK => ?_) ?_
      · go_simp
        refine hK.out _ _ ?_ (fun hHeld => ?_)
        · assumption
        clear hK K
        try simp only [Act.put, List.setIfInBounds_toArray, List.set_cons_zero, List.set_cons_succ]
        refine wpAnyH_ready (rs := [7]) (by kernel_rfl) (by simp) ?_
        refine AllReadyH.cons rfl (fun K hK => ?_) ?_
        · go_simp
          refine hK.out _ _ ?_ (fun hHeld => ?_)
          · exact cxa
          clear hK K
          try simp only [Act.put, List.setIfInBounds_toArray, List.set_cons_zero, List.set_cons_succ]
          refine wpAnyH_ready (rs := [8]) (by kernel_rfl) (by simp) ?_
          refine AllReadyH.cons rfl (fun K hK => ?_) ?_
          · refine step_append_st (E := stmtE) rfl (.tmp 16) (.tmp 22) slStmt rfl HA.out (Src.of_rows mem1) rfl rfl q1 q2 ?_
            intro vb2 n2 vc2 w5 hn2 h5
            have cx5 := (h5.sc_at (up2 (up2 HM.out)) hlt).1
            rw [HX.out] at cx5
            have H5 := hide h5.d1.f1
            have HN2 := hide hn2
            clear h5 HA hn2
            refine hK.out _ _ ?_ (fun hHeld => ?_)
            · exact cx5
            clear hK K
            try simp only [Act.put, List.setIfInBounds_toArray, List.set_cons_zero, List.set_cons_succ]
            refine wpAnyH_takeD (i := 9) (some 24) (v := ?v9_7) rfl rfl (by kernel_rfl) (by kernel_rfl) (by kernel_rfl) (fun _ _ _ h => h) (by rfl) ?y9_7 (by assumption) ?r9_7
            case y9_7 => (intro w hSw; (try dsimp only at hSw); first | (go_simp; done) | (go_simp; with_reducible rfl))
            try simp only [Act.put, List.setIfInBounds_toArray, List.set_cons_zero, List.set_cons_succ]
            refine wpAnyH_ready (rs := [10]) (by kernel_rfl) (by simp) ?_
            refine AllReadyH.cons rfl (fun K hK => ?_) ?_
            · refine step_storeF_st (cs := [sv nm, .int .i64 0, .slice be k ce]) (ds := [sv nm, .int .i64 0, .slice vb2 n2 vc2]) rfl 45 (.tmp 24) (.tmp 23) rfl szStmts rfl rfl rfl rfl H5.out (by simp) rfl ?_
              intro w6 h6
              have cx6 := (h6.sc_at (up3 HM.out) hlt).1
              rw [HX.out] at cx6
              have H6 := hide h6
              clear h6 H5
              refine hK.out _ _ ?_ (fun hHeld => ?_)
              · exact cx6
              clear hK K
              try simp only [Act.put, List.setIfInBounds_toArray, List.set_cons_zero, List.set_cons_succ]
              refine wpAnyH_done (by kernel_rfl) ?_ _
              have hn2 := HN2.out
              rw [HDL.out] at hn2
              have hn3 : n2 = k + 1 := by rw [hn2]; rfl
              subst hn3
              go_wp2_with fail
              go_roundw
              case rel => exact ⟨k + 1, by omega, by go_num, vb2, vc2, by rw [HTK.out]; exact H6.out⟩
              case measure => exact meas_step hlt
            exact AllReadyH.nil
          exact AllReadyH.nil
        exact AllReadyH.nil
      refine AllReadyH.cons rfl (fun K hK => ?_) ?_
      · go_simp
        refine hK.out _ _ ?_ (fun hHeld => ?_)
        · exact cxa
        clear hK K
        try simp only [Act.put, List.setIfInBounds_toArray, List.set_cons_zero, List.set_cons_succ]
        refine wpAnyH_ready (rs := [1]) (by kernel_rfl) (by simp) ?_
        refine AllReadyH.cons rfl (fun K hK => ?_) ?_
        · go_simp
          refine hK.out _ _ ?_ (fun hHeld => ?_)
          · exact cxa
          clear hK K
          try simp only [Act.put, List.setIfInBounds_toArray, List.set_cons_zero, List.set_cons_succ]
          refine wpAnyH_ready (rs := [8]) (by kernel_rfl) (by simp) ?_
          refine AllReadyH.cons rfl (fun K hK => ?_) ?_
          · refine step_append_st (E := stmtE) rfl (.tmp 16) (.tmp 22) slStmt rfl HA.out (Src.of_rows mem1) rfl rfl q1 q2 ?_
            intro vb2 n2 vc2 w5 hn2 h5
            have cx5 := (h5.sc_at (up2 (up2 HM.out)) hlt).1
            rw [HX.out] at cx5
            have H5 := hide h5.d1.f1
            have HN2 := hide hn2
            clear h5 HA hn2
            refine hK.out _ _ ?_ (fun hHeld => ?_)
            · exact cx5
            clear hK K
            try simp only [Act.put, List.setIfInBounds_toArray, List.set_cons_zero, List.set_cons_succ]
            refine wpAnyH_takeD (i := 9) (some 24) (v := ?v9_8) rfl rfl (by kernel_rfl) (by kernel_rfl) (by kernel_rfl) (fun _ _ _ h => h) (by rfl) ?y9_8 (by assumption) ?r9_8
            case y9_8 => (intro w hSw; (try dsimp only at hSw); first | (go_simp; done) | (go_simp; with_reducible rfl))
            try simp only [Act.put, List.setIfInBounds_toArray, List.set_cons_zero, List.set_cons_succ]
            refine wpAnyH_ready (rs := [10]) (by kernel_rfl) (by simp) ?_
            refine AllReadyH.cons rfl (fun K hK => ?_) ?_
            · refine step_storeF_st (cs := [sv nm, .int .i64 0, .slice be k ce]) (ds := [sv nm, .int .i64 0, .slice vb2 n2 vc2]) rfl 45 (.tmp 24) (.tmp 23) rfl szStmts rfl rfl rfl rfl H5.out (by simp) rfl ?_
              intro w6 h6
              have cx6 := (h6.sc_at (up3 HM.out) hlt).1
              rw [HX.out] at cx6
              have H6 := hide h6
              clear h6 H5
              refine hK.out _ _ ?_ (fun hHeld => ?_)
              · exact cx6
              clear hK K
              try simp only [Act.put, List.setIfInBounds_toArray, List.set_cons_zero, List.set_cons_succ]
              refine wpAnyH_done (by kernel_rfl) ?_ _
              have hn2 := HN2.out
              rw [HDL.out] at hn2
              have hn3 : n2 = k + 1 := by rw [hn2]; rfl
              subst hn3
              go_wp2_with fail
              go_roundw
              case rel => exact ⟨k + 1, by omega, by go_num, vb2, vc2, by rw [HTK.out]; exact H6.out⟩
              case measure => exact meas_step hlt
            exact AllReadyH.nil
          exact AllReadyH.nil
        exact AllReadyH.nil
      exact AllReadyH.nil
    · have hke : cto.take k = cto := List.take_of_length_le (by omega)
      have h5 := H4.out
      rw [hke] at h5
      have H5 := hide h5
      clear h5 H4 hke
      go_wp2_with (first
        | (refine wpList_loadB_st (cs := [sv nm, .int .i64 0, .slice be k ce]) rfl agFunc (.tmp 5) rfl rfl rfl H5.out mem0 ?_)
        | ((with_reducible refine wpList_store_ag (cs := [sv nm, .int .i64 0, .slice be k ce]) rfl agFunc (.tmp 4) (.tmp 25) rfl rfl rfl rfl rfl (ONE.out _ _ _ rfl rfl rfl) H5.out.f2 ?_); intro w6 h6; have H6 := hide h6; clear h6 H5))
      (try simp only [Exit.inBlock, Exit.then])
      have hb4 := H6.out.mem_blk mem0
      refine bodyPost_ret (results_cell_row rfl _ _ g4 _ _ _ _ rfl hb4 Try.underlying48 rfl szFunc) rfl ?_
      exact ⟨_, rfl, H6.out.drop.drop.persist⟩
end Go.Proofs.Ytmebmgbjpbapjaa

namespace Go.Proofs.Ytmebmgbjpbapjaa
open Go.RowKit Go.Maps Go.MapKept

theorem setS_eq {m l : List Str} (hl : Inc l) (h1 : m.all (fun y => decide (y ∈ l)) = true) (h2 : l.all (fun y => decide (y ∈ m)) = true) : setS m = l :=
  (setS_inc m).ext hl (fun y => by
    rw [mem_setS]
    rw [List.all_eq_true] at h1 h2
    exact ⟨fun h => of_decide_eq_true (h1 y h), fun h => of_decide_eq_true (h2 y h)⟩)
abbrev sD : Str := [100]
abbrev sE : Str := [101]
/-- The body of d. -/
def bodyD : Stms := .cons 8 0 [] (.cons 6 0 sE .nil .nil .nil) .nil (.cons 7 0 [] .nil (.cons 6 0 sA .nil .nil (.cons 6 0 sE .nil .nil .nil)) .nil)
def bodyC (l : List Str) : Stms := Stms.ofL (l.map callS)
def progK : List FRec := [⟨sMain, 0, bodyC [sD, sA]⟩, ⟨sA, 0, bodyC [sB]⟩, ⟨sB, 0, bodyC [sC, sB]⟩, ⟨sC, 0, bodyC [sA]⟩, ⟨sD, 0, bodyD⟩, ⟨sE, 0, bodyC [sC]⟩, ⟨sF, 0, bodyC [sF]⟩]
theorem nxK_main : nxF progK sMain = [sA, sD] := setS_eq (by unfold Inc; decide) (by decide) (by decide)
theorem nxK_a : nxF progK sA = [sB] := setS_eq (by unfold Inc; decide) (by decide) (by decide)
theorem nxK_b : nxF progK sB = [sB, sC] := setS_eq (by unfold Inc; decide) (by decide) (by decide)
theorem nxK_c : nxF progK sC = [sA] := setS_eq (by unfold Inc; decide) (by decide) (by decide)
theorem nxK_d : nxF progK sD = [] := setS_eq (by unfold Inc; decide) (by decide) (by decide)
theorem nxK_e : nxF progK sE = [sC] := setS_eq (by unfold Inc; decide) (by decide) (by decide)
theorem nxK_f : nxF progK sF = [sF] := setS_eq (by unfold Inc; decide) (by decide) (by decide)
theorem spK_d : setS (namesP 6 progK sD) = [sA, sE] := setS_eq (by unfold Inc; decide) (by decide) (by decide)
theorem spK_main : setS (namesP 6 progK sMain) = [] := setS_eq (by unfold Inc; decide) (by decide) (by decide)
def edgesK : List (Str × Str) := [(sMain, sA), (sMain, sD), (sA, sB), (sB, sB), (sB, sC), (sC, sA), (sE, sC), (sF, sF)]
theorem callK : callE progK progK = edgesK := by
  simp only [callE, progK, List.flatMap_cons, List.flatMap_nil]
  rw [show nxF [⟨sMain, 0, bodyC [sD, sA]⟩, ⟨sA, 0, bodyC [sB]⟩, ⟨sB, 0, bodyC [sC, sB]⟩, ⟨sC, 0, bodyC [sA]⟩, ⟨sD, 0, bodyD⟩, ⟨sE, 0, bodyC [sC]⟩, ⟨sF, 0, bodyC [sF]⟩] = nxF progK from rfl, nxK_main, nxK_a, nxK_b, nxK_c, nxK_d, nxK_e, nxK_f]
  rfl
def setK : List Str := [sA, sB, sC, sD, sE, sF, sMain]
theorem partsK : partsR (eqv (edgesN edgesK)) setK.length setK = [[sA, sB, sC], [sD], [sE], [sF], [sMain]] := by
  rw [parts_reckon (n := 4) (by decide)]
  decide
theorem orderK : orderG edgesK 5 [] [[sA, sB, sC], [sD], [sE], [sF], [sMain]] = [[sA, sB, sC], [sD], [sE], [sF], [sMain]] := by decide
theorem nx_edges (F : List FRec) (x z : Str) : z ∈ nxF F x ↔ z ∈ edgesN (callE F F) x := by
  rw [edgesN_mem, mem_callE]
  refine ⟨fun h => ⟨?_, h⟩, fun h => h.2⟩
  have := mem_nxF.1 h
  unfold namesP at this
  obtain ⟨r, hr, hz⟩ := List.mem_flatMap.1 this
  split at hz
  · rename_i hn; exact List.mem_map.2 ⟨r, hr, hn⟩
  · simp at hz
theorem reachK {s : Str} {R l : List Str} (hR : Inc R) (hm : ∀ y, y ∈ R ↔ Rch (nxF progK) s y) (hl : Inc l) (hc : shutC edgesK (reachC edgesK 4 [s]) = true) (h1 : (reachC edgesK 4 [s]).all (fun y => decide (y ∈ l)) = true) (h2 : l.all (fun y => decide (y ∈ reachC edgesK 4 [s])) = true) : R = l :=
  hR.ext hl (fun y => by
    rw [hm, Rch.congr (fun x z => nx_edges progK x z), callK, reachC_iff 4 hc]
    rw [List.all_eq_true] at h1 h2
    exact ⟨fun h => of_decide_eq_true (h1 y h), fun h => of_decide_eq_true (h2 y h)⟩)
theorem reachK_main {R : List Str} (hR : Inc R) (hm : ∀ y, y ∈ R ↔ Rch (nxF progK) sMain y) : R = [sA, sB, sC, sD, sMain] := reachK hR hm (by unfold Inc; decide) (by decide) (by decide) (by decide)
theorem reachK_c {R : List Str} (hR : Inc R) (hm : ∀ y, y ∈ R ↔ Rch (nxF progK) sC y) : R = [sA, sB, sC] := reachK hR hm (by unfold Inc; decide) (by decide) (by decide) (by decide)
theorem reachK_f {R : List Str} (hR : Inc R) (hm : ∀ y, y ∈ R ↔ Rch (nxF progK) sF y) : R = [sF] := reachK hR hm (by unfold Inc; decide) (by decide) (by decide) (by decide)
end Go.Proofs.Ytmebmgbjpbapjaa

namespace Go.Proofs.Ytmebmgbjpbapjaa
open Go.RowKit Go.Maps Go.MapKept
variable {b e : Env} {L : List HP} {w : World}

abbrev ordK : List (List Str) := [[sA, sB, sC], [sD], [sE], [sF], [sMain]]
theorem okK (n : Nat) : ∀ s ∈ setK, okStr s := by
  intro s hs
  simp only [setK, List.mem_cons, List.not_mem_nil, or_false] at hs
  rcases hs with rfl | rfl | rfl | rfl | rfl | rfl | rfl <;> (unfold okStr; decide)
theorem nlK (k : Int) (f : Str) (hk : totS progK ≤ 100) : (namesP k progK f).length ≤ 100 := Nat.le_trans (namesP_len k f progK) hk
theorem totK : totS progK ≤ 100 := by decide
theorem nxlK (f : Str) : (nxF progK f).length ≤ 100 := Nat.le_trans (setS_len _) (nlK 5 f totK)
theorem closedK : ∀ a ∈ setK, ∀ z ∈ nxF progK a, z ∈ setK := by
  intro a ha
  simp only [setK, List.mem_cons, List.not_mem_nil, or_false] at ha
  rcases ha with rfl | rfl | rfl | rfl | rfl | rfl | rfl
  · rw [nxK_a]; decide
  · rw [nxK_b]; decide
  · rw [nxK_c]; decide
  · rw [nxK_d]; decide
  · rw [nxK_e]; decide
  · rw [nxK_f]; decide
  · rw [nxK_main]; decide
theorem order_K (h : Sat e L w) {vf : Value} (hm : HP.sl funcE vf progK ∈ L) : Calls Try.prog 28 #[.agg #[.slice none 0 0, .slice none 0 0, vf]] w fun x w' => ∃ v e', x = .returned v ∧ e.le e' ∧ Sat e' L w' ∧ (FK.parts ordK).ok e' v := by
  refine (order_calls h.st hm (by decide) (fun f => Nat.le_trans (nlK 5 f totK) (by decide)) nxlK).mono ?_
  rintro x w' ⟨v, S, rfl, hinc, hmem, h'⟩
  have hS : S = setK := hinc.ext (by unfold Inc; decide) (fun y => by rw [hmem]; exact ⟨fun h => by revert h; simp only [progK, setK, List.map_cons, List.map_nil, List.mem_cons, List.not_mem_nil, or_false]; grind, fun h => by revert h; simp only [progK, setK, List.map_cons, List.map_nil, List.mem_cons, List.not_mem_nil, or_false]; grind⟩)
  subst hS
  have hin : inEdges (progK.map (·.name)) edgesK = edgesK := by decide
  rw [callK, hin, partsK] at h'
  have h2 : St e (HP.sl strE.in v ordK :: L) w' := by
    rw [show (ordK : List (List Str)) = orderG edgesK 5 [] ordK from orderK.symm]; exact h'
  obtain ⟨e', h1, h2, h3⟩ := h2.out_sl
  exact ⟨v, e', rfl, h1, h2, h3⟩
theorem reach_K (h : Sat e L w) {vf : Value} (hm : HP.sl funcE vf progK ∈ L) (s : Str) (hs : s ∈ setK) (l : List Str) (hl : ∀ R, Inc R → (∀ y, y ∈ R ↔ Rch (nxF progK) s y) → R = l) : Calls Try.prog 26 #[.agg #[.slice none 0 0, .slice none 0 0, vf], sv s] w fun x w' => ∃ v e', x = .returned v ∧ e.le e' ∧ Sat e' L w' ∧ (FK.strs l).ok e' v := by
  refine (greach_calls h.st hm (fun f => Nat.le_trans (nlK 5 f totK) (by decide)) s (okK 0 s hs) setK hs closedK (by decide)).mono ?_
  rintro x w' ⟨v, R, rfl, hinc, hmem, _, h'⟩
  have hR := hl R hinc hmem
  subst hR
  obtain ⟨e', h1, h2, h3⟩ := h'.out_sl
  exact ⟨v, e', rfl, h1, h2, h3⟩
theorem calls_K (h : Sat e L w) {vf : Value} (hm : HP.sl funcE vf progK ∈ L) (s : Str) (l : List Str) (hl : nxF progK s = l) : Calls Try.prog 22 #[.agg #[.slice none 0 0, .slice none 0 0, vf], sv s] w fun x w' => ∃ v e', x = .returned v ∧ e.le e' ∧ Sat e' L w' ∧ (FK.strs l).ok e' v := by
  refine (gcalls_calls h.st hm s (Nat.le_trans (nlK 5 s totK) (by decide))).mono ?_
  rintro x w' ⟨v, rfl, h'⟩
  rw [show setS (namesP 5 progK s) = l from hl] at h'
  obtain ⟨e', h1, h2, h3⟩ := h'.out_sl
  exact ⟨v, e', rfl, h1, h2, h3⟩
theorem spawns_K (h : Sat e L w) {vf : Value} (hm : HP.sl funcE vf progK ∈ L) (s : Str) (l : List Str) (hl : setS (namesP 6 progK s) = l) : Calls Try.prog 23 #[.agg #[.slice none 0 0, .slice none 0 0, vf], sv s] w fun x w' => ∃ v e', x = .returned v ∧ e.le e' ∧ Sat e' L w' ∧ (FK.strs l).ok e' v := by
  refine (gspawns_calls h.st hm s (Nat.le_trans (nlK 6 s totK) (by decide))).mono ?_
  rintro x w' ⟨v, rfl, h'⟩
  rw [hl] at h'
  obtain ⟨e', h1, h2, h3⟩ := h'.out_sl
  exact ⟨v, e', rfl, h1, h2, h3⟩
theorem same_K (h : Sat e L w) {va vb : Value} {l : List Str} (ha : (FK.strs l).ok e va) (hb : (FK.strs l).ok e vb) : Calls Try.prog 21 #[va, vb] w fun x w' => ∃ v e', x = .returned v ∧ e.le e' ∧ Sat e' L w' ∧ (FK.is (.bool true)).ok e' v := by
  have h1 : Sat e (HP.sl strE va l :: HP.sl strE vb l :: L) w := (h.in_sl hb).in_sl ha
  refine (same_calls h1.st (Reads.of_sl mem0) (Reads.of_sl mem1)).mono ?_
  rintro x w' ⟨rfl, n, rfl⟩
  exact ⟨_, e, rfl, Env.le_refl e, h.drewN n, by rw [decide_eq_true rfl]; rfl⟩
theorem all_K (h : Sat e L w) {va vb : Value} {l : List (List Str)} (ha : (FK.parts l).ok e va) (hb : (FK.parts l).ok e vb) : Calls Try.prog 14 #[va, vb] w fun x w' => ∃ v e', x = .returned v ∧ e.le e' ∧ Sat e' L w' ∧ (FK.is (.bool true)).ok e' v := by
  have h1 : Sat e (HP.sl strE.in va l :: HP.sl strE.in vb l :: L) w := (h.in_sl hb).in_sl ha
  refine (all_calls h1.st mem0 mem1).mono ?_
  rintro x w' ⟨rfl, n, rfl⟩
  exact ⟨_, e, rfl, Env.le_refl e, h.drewN n, by rw [decide_eq_true rfl]; rfl⟩
end Go.Proofs.Ytmebmgbjpbapjaa

namespace Go.Proofs.Ytmebmgbjpbapjaa
open Go.RowKit Go.Maps Go.MapKept
variable {b : Env} {L : List HP} {vf : Value} {g3 : Nat} {a0 : Act} {Q : Exit → Act → World → Prop}

theorem El.sl_form {α : Type} {E : El α} {h : Frag} {v : Value} {xs : List α} (H : E.sl h v xs) : ∃ base cap, v = .slice base xs.length cap := by
  obtain ⟨_, _, _, base, cap, hv, _⟩ := H; exact ⟨base, cap, hv⟩
theorem El.sl_cells {α : Type} {E : El α} {h : Frag} {v : Value} {xs : List α} (H : E.sl h v xs) : v.cells.toList = [v] := by
  obtain ⟨base, cap, rfl⟩ := El.sl_form H; rfl
theorem HasK.one {e : Env} {x : OpK} {v : Value} {l : List OpK} {r : List Value} (h : HasK e (x :: l) (v :: r)) : x.has e v := by
  obtain ⟨_, _, h1, h2, _⟩ := h; cases h1; exact h2
theorem HasK.two {e : Env} {x y : OpK} {v u : Value} {l : List OpK} {r : List Value} (h : HasK e (x :: y :: l) (v :: u :: r)) : y.has e u := by
  obtain ⟨_, _, h1, _, h2⟩ := h; cases h1; exact HasK.one h2
theorem lenK {a : Act} {w : World} {d : Nat} {base : Option Addr} {cap : Nat} {dst : Option Nat} {ty : TypeId} {pos : String} {after : Array Edge} {guard : Option (Nat × Bool)} (h : a.eval (.tmp d) = .slice base 0 cap) :
    (execOp a.eval { dst, op := .call { callee := .builtin .len, args := #[.tmp d], argTypes := #[24] }, type := ty, pos, after, guard }).run Try.prog w = .ok (.value (.int .i64 0)) w := by
  simp [execOp, resolve, invoke, builtin, h, Builtin.len_, run_underlying Try.underlying24]
  go_simp
theorem eqlK {a : Act} {w : World} {d : Nat} {dst : Option Nat} {ty ty2 : TypeId} {pos : String} {after : Array Edge} {guard : Option (Nat × Bool)} (h : a.eval (.tmp d) = .int .i64 0) :
    (execOp a.eval { dst, op := .binOp .eql 3 (.tmp d) (.const (.int .i64 0)) ty2, type := ty, pos, after, guard }).run Try.prog w = .ok (.value (.bool true)) w := by
  show ((do let v ← (do eqGuard .eql 3 (.tmp d) (.const (.int .i64 0)) (a.eval (.tmp d)) (.int .i64 0); binOp .eql 3 (a.eval (.tmp d)) (.int .i64 0)); pure (.value v)) : Sem Next).run Try.prog w = _
  rw [h]
  go_simp

def tabK (vf : Value) : List FK := [.is (.agg #[.slice none 0 0, .slice none 0 0, vf]), .parts ordK, .strs [sA, sB, sC], .strs [sD], .strs [sE], .strs [sF], .strs [sMain], .parts ordK, .is (.bool true), .is (.agg #[.slice none 0 0, .slice none 0 0, vf]), .strs [sA, sB, sC, sD, sMain], .strs [sA, sB, sC, sD, sMain], .is (.bool true), .is (.agg #[.slice none 0 0, .slice none 0 0, vf]), .strs [sA, sB, sC], .strs [sA, sB, sC], .is (.bool true), .is (.bool true), .is (.agg #[.slice none 0 0, .slice none 0 0, vf]), .strs [sF], .strs [sF], .is (.bool true), .is (.bool true), .is (.agg #[.slice none 0 0, .slice none 0 0, vf]), .strs [sB, sC], .strs [sB, sC], .is (.bool true), .is (.bool true), .is (.agg #[.slice none 0 0, .slice none 0 0, vf]), .strs [sA, sD], .strs [sA, sD], .is (.bool true), .is (.bool true), .is (.agg #[.slice none 0 0, .slice none 0 0, vf]), .strs [sA, sE], .strs [sA, sE], .is (.bool true), .is (.bool true), .is (.agg #[.slice none 0 0, .slice none 0 0, vf]), .strs [], .is (.int .i64 0), .is (.bool true), .is (.bool true), .is (.agg #[.slice none 0 0, .slice none 0 0, vf]), .strs [], .is (.int .i64 0), .is (.bool true), .bools [true, true, true, true, true, true], .bools [true, true, true, true, true, true]]

end Go.Proofs.Ytmebmgbjpbapjaa
