/-
  deadboltref8: Reach. No program in sight: the document's order of parts is the order of the first that are ready. deadboltref8: Order.
-/
import Derived.Test.YtmebmgbjpbapjaaSs
import Derived.Test.YtmebmgbjpbapjaaQq
import Derived.Test.YtmebmgbjpbapjaaP9
import Derived.Test.YtmebmgbjpbapjaaGa
namespace Go.Proofs.Ytmebmgbjpbapjaa
open Go.RowKit Go.Maps Go.MapKept
variable {b : Env} {L : List HP} {w : World}

/-- On the way: out is in order, all of it is reached; what is led to from it is in it, but for what is still to do. -/
structure RP (nxt : Str → List Str) (U : List Str) (f : Str) (out todo : List Str) (more : Str → Prop) : Prop where
  inc : Inc out
  frm : f ∈ out
  rch : ∀ x ∈ out, Rch nxt f x
  sub : ∀ x ∈ out, x ∈ U
  sh : ∀ x ∈ todo, x ∈ out
  cl : ∀ x ∈ out, x ∈ todo ∨ (∀ z ∈ nxt x, z ∈ out) ∨ more x
theorem RP.len {nxt : Str → List Str} {U out todo : List Str} {f : Str} {more : Str → Prop} (h : RP nxt U f out todo more) : out.length ≤ U.length := nodup_len out U h.inc.nodup h.sub
theorem RP.start {nxt : Str → List Str} {U : List Str} {f : Str} (hf : f ∈ U) : RP nxt U f [f] [f] (fun _ => False) :=
  ⟨by simp [Inc], by simp, fun x hx => by simp at hx; subst hx; exact Rch.refl _ _, fun x hx => by simp at hx; subst hx; exact hf, fun x hx => hx, fun x hx => Or.inl hx⟩
theorem RP.pop {nxt : Str → List Str} {U out T : List Str} {f y : Str} (h : RP nxt U f out (y :: T) (fun _ => False)) : RP nxt U f out T (fun x => x = y) :=
  ⟨h.inc, h.frm, h.rch, h.sub, fun x hx => h.sh x (List.mem_cons_of_mem _ hx), fun x hx => by
    rcases h.cl x hx with h1 | h1 | h1
    · rcases List.mem_cons.1 h1 with h2 | h2
      · exact Or.inr (Or.inr h2)
      · exact Or.inl h2
    · exact Or.inr (Or.inl h1)
    · exact h1.elim⟩
theorem RP.push {nxt : Str → List Str} {U out T : List Str} {f y z : Str} (h : RP nxt U f out T (fun x => x = y)) (hy : y ∈ out) (hz : z ∈ nxt y) (hU : z ∈ U) : RP nxt U f (insS out z) (T ++ [z]) (fun x => x = y) :=
  ⟨insS_inc h.inc z, mem_insS.2 (Or.inl h.frm), fun x hx => (mem_insS.1 hx).elim (h.rch x) (fun e => by subst e; exact (h.rch y hy).step hz), fun x hx => (mem_insS.1 hx).elim (h.sub x) (fun e => by subst e; exact hU),
   fun x hx => by
    rcases List.mem_append.1 hx with h1 | h1
    · exact mem_insS.2 (Or.inl (h.sh x h1))
    · simp at h1; exact mem_insS.2 (Or.inr h1),
   fun x hx => by
    rcases mem_insS.1 hx with h1 | h1
    · rcases h.cl x h1 with h2 | h2 | h2
      · exact Or.inl (List.mem_append_left _ h2)
      · exact Or.inr (Or.inl (fun q hq => mem_insS.2 (Or.inl (h2 q hq))))
      · exact Or.inr (Or.inr h2)
    · exact Or.inl (List.mem_append_right _ (by simp [h1]))⟩
theorem RP.close {nxt : Str → List Str} {U out T : List Str} {f y : Str} (h : RP nxt U f out T (fun x => x = y)) (hc : ∀ z ∈ nxt y, z ∈ out) : RP nxt U f out T (fun _ => False) :=
  ⟨h.inc, h.frm, h.rch, h.sub, h.sh, fun x hx => by
    rcases h.cl x hx with h1 | h1 | h1
    · exact Or.inl h1
    · exact Or.inr (Or.inl h1)
    · subst h1; exact Or.inr (Or.inl hc)⟩
theorem RP.done {nxt : Str → List Str} {U out : List Str} {f : Str} (h : RP nxt U f out [] (fun _ => False)) (y : Str) : y ∈ out ↔ Rch nxt f y :=
  ⟨h.rch y, fun hy => hy (fun x => x ∈ out) h.frm (fun x hx z hz => by
    rcases h.cl x hx with h1 | h1 | h1
    · cases h1
    · exact h1 z hz
    · exact h1.elim)⟩
theorem insS_more {l : List Str} {s : Str} (hl : Inc l) (hs : s ∉ l) : (insS l s).length = l.length + 1 := by
  refine Nat.le_antisymm ?_ ?_
  · have := nodup_len (insS l s) (s :: l) (insS_inc hl s).nodup (fun x hx => by rcases mem_insS.1 hx with h | h <;> simp [h])
    simpa using this
  · have hn : (s :: l).Nodup := List.nodup_cons.2 ⟨hs, hl.nodup⟩
    have := nodup_len (s :: l) (insS l s) hn (fun x hx => by rcases List.mem_cons.1 hx with h | h; exact mem_insS.2 (Or.inr h); exact mem_insS.2 (Or.inl h))
    simpa using this
def RfO (b : Env) (L : List HP) (nxt : Str → List Str) (U : List Str) (f : Str) (g : Nat) (v5 v6 : Value) (wr : World) : Prop :=
  ∃ out todo, RP nxt U f out todo (fun _ => False) ∧ 2 * (U.length - out.length) + todo.length ≤ g ∧ g ≤ 2 * U.length + 1 ∧ ∃ base cap, v6 = .slice base todo.length cap ∧ St b (HP.rowsO 9 strE v6 todo :: HP.sl strE v5 out :: L) wr
def RfI (b : Env) (L : List HP) (nxt : Str → List Str) (U : List Str) (f y : Str) (C : List Str) (g : Nat) (v5 v6 i : Value) (wr : World) : Prop :=
  ∃ out todo k, RP nxt U f out todo (fun x => x = y) ∧ y ∈ out ∧ (∀ z ∈ C.take k, z ∈ out) ∧ 2 * (U.length - out.length) + todo.length ≤ g ∧ g ≤ 2 * U.length ∧ k ≤ C.length ∧ i = .int .i64 k ∧ ∃ base cap, v6 = .slice base todo.length cap ∧ St b (HP.rowsO 9 strE v6 todo :: HP.sl strE v5 out :: L) wr
theorem take_in {C out : List Str} {k : Nat} (hk : k < C.length) (h : ∀ z ∈ C.take k, z ∈ out) (hz : C[k] ∈ out) : ∀ z ∈ C.take (k + 1), z ∈ out := by
  intro z h1
  rw [List.take_succ_eq_append_getElem hk] at h1
  rcases List.mem_append.1 h1 with h2 | h2
  · exact h z h2
  · simp at h2; rw [h2]; exact hz

set_option linter.unusedSimpArgs false in
set_option maxRecDepth 100000 in
set_option maxHeartbeats 16000000 in
theorem rreach_calls (h : St b L w) {vv vl vf : Value} {F : List FRec} (hm : HP.sl funcE vf F ∈ L) (f : Str) (hf : okStr f) (U : List Str) (hU0 : f ∈ U) (hU : ∀ a ∈ U, ∀ z ∈ nxF F a, z ∈ U) (hUl : U.length ≤ 1000)
    (hat : ∀ y ∈ U, okStr y ∧ ∃ (i : Nat) (x : FRec), F[i]? = some x ∧ findR F y = (i : Int) ∧ x.body.size ≤ 10000 ∧ setS (names 5 x.body) = nxF F y) :
    Calls Try.prog 31 #[.agg #[vv, vl, vf], sv f] w fun x w' => ∃ v R, x = .returned v ∧ Inc R ∧ (∀ y, y ∈ R ↔ Rch (nxF F) f y) ∧ St b (HP.sl strE v R :: L) w' := by
  have H := hide h
  have HM := hide hm
  have HOK := hide hf
  have HU0 := hide hU0
  have HU := hide hU
  have HAT := hide hat
  clear h hm hf hU0 hU hat
  go_enter Try.func31, Try.ntmps31
  go_wp2_with (first
    | ((with_reducible refine wpList_box_st (cs := [vv, vl, vf]) rfl (.tmp 0) rfl rfl H.out ?_); intro g2 w1 h1; have H1 := hide h1; clear h1 H)
    | (refine wpList_build1_st (E := strE) rfl (.tmp 9) slStr rfl f rfl H1.out ?_ ?_; exact (fun _ _ _ => ⟨rfl, HOK.out⟩); intro g3 w2 h2; have H2 := hide h2.persist; clear h2 H1)
    | (refine wpList_build1_st (E := strE) rfl (.tmp 11) slStr rfl f rfl H2.out ?_ ?_; exact (fun _ _ _ => ⟨rfl, HOK.out⟩); intro g4 w3 h3; have H3 := hide h3.rows_rowsO; clear h3 H2))
  go_loopg [5, 6] (2 * U.length + 1) (fun g v5 v6 wr => RfO b (HP.blk g2 (.cells [vv, vl, vf].toArray 43) :: L) (nxF F) U f g v5 v6 wr)
  case atStart => exact ⟨[f], [f], RP.start HU0.out, by have := List.length_pos_of_mem HU0.out; simp; omega, by omega, _, _, rfl, H3.out⟩
  case round =>
    obtain ⟨out, todo, hp, hg, hg2, base, cap, rfl, hs⟩ := hrel
    have H4 := hide hs
    have HP4 := hide hp
    have htI : (todo.length : Int) ≤ 9223372036854775807 := by obtain ⟨_, _, hv, h1, h2, _⟩ := hs.rowsO_form; unfold maxLen at h2; omega
    clear hs hp H3
    cases todo with
    | nil =>
      go_wp2_with fail
      go_ret
      exact ⟨_, out, rfl, HP4.out.inc, HP4.out.done, H4.out.drop.d1⟩
    | cons y T =>
      obtain ⟨g6, o6, hg6⟩ : ∃ g6 o6, base = some ⟨g6, o6, none⟩ := by
        obtain ⟨_, _, hv, _, _, h3⟩ := H4.out.rowsO_form
        simp only [Value.slice.injEq] at hv
        rw [hv.1]; exact h3 (by simp)
      subst hg6
      obtain ⟨hc0, hok0⟩ := H4.out.sc_rowO_at (i := 0) (by simp)
      have hc : wr.cell? ⟨g6, o6, none⟩ = some (.string ⟨y.toArray⟩) := hc0
      have hyo := HP4.out.sh y (by simp)
      have hyU := HP4.out.sub y hyo
      have HYO := hide hyo
      have HYU := hide hyU
      have HPP := hide HP4.out.pop
      have HTL : (T.length : Int) < 9223372036854775807 := by simp at htI; omega
      have hTl : (y :: T).length = T.length + 1 := rfl
      rw [hTl] at hg ⊢
      have e1 : Hid (∀ j u, ([vv, vl, vf] : List Value)[j]? = some u → wr.cell? ⟨g2, 0 + j, none⟩ = some u) := hide (fun j u hj => by rw [Nat.zero_add]; exact (H4.out.blk_cell mem2 j).trans (by simpa using hj))
      clear hc0 hok0 hyo hyU HP4 htI hTl
      go_wp2_with fail
      refine wp_region_held_drew (S := fun w' => (∀ j u, ([vv, vl, vf] : List Value)[j]? = some u → w'.cell? ⟨g2, 0 + j, none⟩ = some u) ∧ w'.cell? ⟨g6, o6, none⟩ = some (.string ⟨y.toArray⟩)) (by kernel_rfl) ?_ (fun hHeld => ?_)
      · exact ⟨e1.out, hc⟩
      refine wpAnyH_takeD (i := 0) (some 16) (v := .agg ([vv, vl, vf] : List Value).toArray) rfl rfl (by kernel_rfl) (by kernel_rfl) (by kernel_rfl) (fun _ _ _ h => h) (by rfl) ?y0_1 (by assumption) ?r0_1
      case y0_1 => (intro w hSw; exact run_loadB agProg (.tmp 2) rfl rfl rfl hSw.1)
      try simp only [Act.put, List.setIfInBounds_toArray, List.set_cons_zero, List.set_cons_succ]
      refine wpAnyH_takeD (i := 1) (some 17) (v := ?v1_2) rfl rfl (by kernel_rfl) (by kernel_rfl) (by kernel_rfl) (fun _ _ _ h => h) (by rfl) ?y1_2 (by assumption) ?r1_2
      case y1_2 => (intro w hSw; (try dsimp only at hSw); first | (go_simp; done) | (go_simp; with_reducible rfl))
      try simp only [Act.put, List.setIfInBounds_toArray, List.set_cons_zero, List.set_cons_succ]
      refine wpAnyH_takeD (i := 2) (some 18) (v := ?v2_3) rfl rfl (by kernel_rfl) (by kernel_rfl) (by kernel_rfl) (fun _ _ _ h => h) (by rfl) ?y2_3 (by assumption) ?r2_3
      case y2_3 => (intro w hSw; (try dsimp only at hSw); first | (go_simp; done) | (go_simp; with_reducible rfl))
      try simp only [Act.put, List.setIfInBounds_toArray, List.set_cons_zero, List.set_cons_succ]
      refine wpAnyH_takeD (i := 3) (some 19) (v := ?v3_4) rfl rfl (by kernel_rfl) (by kernel_rfl) (by kernel_rfl) (fun _ _ _ h => h) (by rfl) ?y3_4 (by assumption) ?r3_4
      case y3_4 => (intro w hSw; (try dsimp only at hSw); first | (go_simp; done) | (go_simp; with_reducible rfl))
      try simp only [Act.put, List.setIfInBounds_toArray, List.set_cons_zero, List.set_cons_succ]
      refine wpAnyH_ready (rs := [4]) (by kernel_rfl) (by simp) ?_
      refine AllReadyH.cons rfl (fun K hK => ?_) ?_
      · go_simp
        go_at_call 29
        obtain ⟨hoky, iy, xy, hiy, hfy, hsy, hny⟩ := HAT.out y HYU.out
        refine (rcalls_calls H4.out.drew (up3 HM.out) y hiy hfy hsy).mono ?_
        rintro z w5 ⟨vc, rfl, h5⟩
        rw [hny] at h5
        obtain ⟨bc, cc, hvc, hc1, hc2⟩ := h5.sl_form mem0
        have hcl : ((nxF F y).length : Int) ≤ 9223372036854775807 := (by unfold maxLen at hc2; omega)
        subst hvc
        generalize hC : nxF F y = C at h5 hcl ⊢
        have HC : Hid (nxF F y = C) := hide hC
        have H5 := hide h5.f1
        clear h5 H4 hc1 hc2 hC hoky iy xy hiy hfy hsy hny
        refine hK.out _ _ ?_ (fun hHeld => ?_)
        · exact ⟨fun j u hj => by rw [Nat.zero_add]; exact (H5.out.blk_cell mem3 j).trans (by simpa using hj), (H5.out.sc_rowO_at (i := 0) (by simp)).1⟩
        clear hK K
        try simp only [Act.put, List.setIfInBounds_toArray, List.set_cons_zero, List.set_cons_succ]
        refine wpAnyH_takeD (i := 5) (some 7) (v := ?v5_5) rfl rfl (by kernel_rfl) (by kernel_rfl) (by kernel_rfl) (fun _ _ _ h => h) (by rfl) ?y5_5 (by assumption) ?r5_5
        case y5_5 => (intro w hSw; (try dsimp only at hSw); first | (go_simp; done) | (go_simp; with_reducible rfl))
        try simp only [Act.put, List.setIfInBounds_toArray, List.set_cons_zero, List.set_cons_succ]
        refine wpAnyH_done (by kernel_rfl) ?_ _
        go_wp2_with (
          (refine wpList_lowO_st rfl (.tmp 21) (.const (.int .i64 1)) slStr rfl H5.out rfl 1 .i64 rfl (by simp) ?_; intro b7 c7 h7; have H7 := hide h7; clear h7 H5))
        go_loopw [5, 6, 8] (fun v5 v6 i wr => RfI b (HP.sl strE (.slice bc C.length cc) C :: HP.blk g2 (.cells [vv, vl, vf].toArray 43) :: L) (nxF F) U f y C (gk - 1) v5 v6 i wr) (fun _ _ i _ => C.length - (intOf i).toNat)
        case atStart => exact ⟨out, T, 0, HPP.out, HYO.out, by simp, by omega, by omega, by omega, rfl, _, _, rfl, H7.out.f2.f1⟩
        case round =>
          obtain ⟨out2, todo, k, hp, hyo, hzk, hg3, hg4, hk, rfl, base, cap, rfl, hs⟩ := hrel
          have H8 := hide hs
          have HP8 := hide hp
          have HYO8 := hide hyo
          have HZK := hide hzk
          have hol := hp.len
          clear hs hp hyo hzk H7 HPP HYO
          by_cases hlt : k < C.length
          · have hlt' : (k : Int) < C.length := by omega
            obtain ⟨gc, oc, hgc⟩ := H8.out.sl_base mem2 (by omega) Nat.one_pos
            subst hgc
            obtain ⟨hcc, hokc⟩ := H8.out.sc_at mem2 hlt
            have hzn : C[k] ∈ nxF F y := by rw [HC.out]; exact List.getElem_mem hlt
            have hzU := HU.out y HYU.out _ hzn
            have HZN := hide hzn
            have HZU := hide hzU
            have HOKC := hide hokc
            clear hzn hzU hokc
            by_cases hin : C[k] ∈ out2
            · have HT := hide (take_in hlt HZK.out hin)
              have HIN := hide hin
              clear hin
              go_wp2_with (go_at_call 17; refine (in_calls H8.out (Reads.of_sl mem1) C[k]).mono ?_; rintro z w9 ⟨rfl, hw9⟩; subst hw9; rw [decide_eq_true HIN.out])
              go_roundw
              case rel => exact ⟨out2, todo, k + 1, HP8.out, HYO8.out, HT.out, hg3, hg4, by omega, by go_num, base, cap, rfl, H8.out⟩
              case measure => exact meas_step hlt
            · have hpu := HP8.out.push HYO8.out HZN.out HZU.out
              have hil := insS_more HP8.out.inc hin
              have hl2 := hpu.len
              have HPU := hide hpu
              have HNI := hide hin
              have HIL := hide hil
              have HT := hide (take_in (out := insS out2 C[k]) hlt (fun z hz => mem_insS.2 (Or.inl (HZK.out z hz))) (mem_insS.2 (Or.inr rfl)))
              rw [hil] at hl2
              have htb : todo.length ≤ 2 * 1000 := by omega
              clear hin hpu hil
              go_wp2_with (first
                | (go_at_call 17; refine (in_calls H8.out (Reads.of_sl mem1) C[k]).mono ?_; rintro z w9 ⟨rfl, hw9⟩; subst hw9; rw [decide_eq_false HNI.out])
                | (go_at_call 27; refine (with_calls H8.out mem1 C[k] HOKC.out (by omega)).mono ?_; rintro z w10 ⟨vo, rfl, h10⟩; have hcx := (h10.sc_at mem3 hlt).1; have H10 := hide h10.d2.f1; clear h10 H8)
                | (refine wpList_build1_st (E := strE) rfl (.tmp 46) slStr rfl C[k] rfl H10.out ?_ ?_; exact (fun _ _ _ => ⟨rfl, HOKC.out⟩); intro g11 w11 h11; have H11 := hide h11.f1; clear h11 H10)
                | (at_builtin; refine wpList_appendO_st rfl (.tmp 42) (.tmp 47) slStr rfl H11.out (Src.of_rows mem1) rfl rfl ?_ ?_ ?_; (simp; unfold maxLen; omega); (simp; omega); intro vb3 n3 vc3 w12 hn3 h12; have H12 := hide h12.d1; have HN3 := hide hn3; clear h12 H11 hn3))
              go_roundw
              case rel => exact ⟨_, _, k + 1, HPU.out, mem_insS.2 (Or.inl HYO8.out), HT.out, by rw [HIL.out]; simp; omega, hg4, by omega, by go_num, vb3, vc3, by rw [HN3.out]; simp, H12.out⟩
              case measure => exact meas_step hlt
          · have hzz := HZK.out
            rw [List.take_of_length_le (by omega)] at hzz
            have HF := hide (HP8.out.close (by rw [HC.out]; exact hzz))
            clear hzz
            go_wp2_with fail
            go_roundg (gk - 1)
            case measure => omega
            case rel => exact ⟨out2, todo, HF.out, hg3, by omega, base, cap, rfl, H8.out.d2⟩
      exact AllReadyH.nil
end Go.Proofs.Ytmebmgbjpbapjaa

namespace Go.Proofs.Ytmebmgbjpbapjaa
open Go.RowKit Go.Maps Go.MapKept

def hdS (P : List Str) : Str := P[0]?.getD []
def okD (done P : List Str) (e : Str × Str) : Bool := !(decide (e.1 ∈ P) && !decide (e.2 ∈ P) && !decide (e.2 ∈ done))
def rdyD (es : List (Str × Str)) (done P : List Str) : Bool := es.all (okD done P)
def nowD (es : List (Str × Str)) (done P : List Str) : Bool := !decide (hdS P ∈ done) && rdyD es done P
theorem filter_eraseIdx {p : List Str → Bool} : ∀ (l : List (List Str)) (i : Nat), (∀ j Q, l[j]? = some Q → (p Q = true ↔ j ≠ i)) → l.filter p = l.eraseIdx i
  | [], _, _ => by simp
  | a :: l, 0, h => by
    have ha : p a = false := by
      cases hp : p a with
      | false => rfl
      | true => exact absurd rfl ((h 0 a rfl).1 hp)
    rw [List.filter_cons_of_neg (by simp [ha]), List.eraseIdx_cons_zero, List.filter_eq_self]
    intro Q hQ
    obtain ⟨j, hj⟩ := List.getElem?_of_mem hQ
    exact (h (j + 1) Q (by simpa using hj)).2 (by omega)
  | a :: l, i + 1, h => by
    rw [List.filter_cons_of_pos ((h 0 a rfl).2 (by omega)), List.eraseIdx_cons_succ, filter_eraseIdx l i (fun j Q hj => by
      rw [h (j + 1) Q (by simpa using hj)]; omega)]
theorem find_idx {q : List Str → Bool} : ∀ (l : List (List Str)) (i : Nat) (P : List Str), l.findIdx? q = some i → l[i]? = some P → l.find? q = some P
  | [], _, _, h, _ => by simp at h
  | a :: l, i, P, h, hP => by
    rw [List.findIdx?_cons] at h
    by_cases hq : q a = true
    · rw [if_pos hq] at h
      cases h
      rw [List.find?_cons_of_pos hq]; simpa using hP
    · rw [if_neg hq] at h
      rw [List.find?_cons_of_neg hq]
      cases hf : l.findIdx? q with
      | none => rw [hf] at h; simp at h
      | some j =>
        rw [hf] at h
        simp at h
        subst h
        exact find_idx l j P hf (by simpa using hP)
structure OD (nxt : Str → List Str) (es : List (Str × Str)) (S : List Str) (ps0 O : List (List Str)) (done : List Str) (dn : List (Str × Bool)) (T : List (List Str)) : Prop where
  ord : OrdP nxt es S dn (ps0.filter fun P => !decide (hdS P ∈ done))
  rel : ∀ y, has dn y = true ↔ y ∈ done
  len : O.length + (ps0.filter fun P => !decide (hdS P ∈ done)).length = ps0.length
  tgt : T = O ++ orderG es (ps0.filter fun P => !decide (hdS P ∈ done)).length dn (ps0.filter fun P => !decide (hdS P ∈ done))
  dis : ps0.Pairwise (fun P Q => ∀ x ∈ P, x ∉ Q)
  dl : done.length = O.flatten.length
  sub : ∀ P ∈ O, P ∈ ps0
variable {nxt : Str → List Str} {es : List (Str × Str)} {S : List Str} {ps0 O T : List (List Str)} {done : List Str} {dn : List (Str × Bool)}
theorem OD.start (h : OrdP nxt es S [] ps0) (hd : ps0.Pairwise (fun P Q => ∀ x ∈ P, x ∉ Q)) : OD nxt es S ps0 [] [] [] (orderG es ps0.length [] ps0) := by
  have e : (ps0.filter fun P => !decide (hdS P ∈ ([] : List Str))) = ps0 := List.filter_eq_self.2 (fun _ _ => by simp)
  exact ⟨by rw [e]; exact h, by simp [has, kget], by rw [e]; simp, by rw [e]; simp, hd, rfl, by simp⟩
theorem OD.rdy (h : OD nxt es S ps0 O done dn T) (P : List Str) : rdyD es done P = readyR es dn P := by
  unfold rdyD readyR
  congr 1
  funext e
  unfold okD okE
  have : has dn e.2 = decide (e.2 ∈ done) := by
    rw [Bool.eq_iff_iff, h.rel]; simp
  rw [this]
  cases decide (e.1 ∈ P) <;> cases decide (e.2 ∈ P) <;> cases decide (e.2 ∈ done) <;> rfl
theorem OD.find (h : OD nxt es S ps0 O done dn T) (hl : O.length < ps0.length) : ∃ P, ps0.find? (nowD es done) = some P ∧ P ∈ ps0 ∧ nowD es done P = true ∧
    OD nxt es S ps0 (O ++ [P]) (done ++ P) (putAll dn P) T := by
  have hne : (ps0.filter fun P => !decide (hdS P ∈ done)) ≠ [] := fun e => by have := h.len; rw [e] at this; simp at this; omega
  obtain ⟨i, P, hf, hi, hr, _⟩ := h.ord.find hne
  have hfd := find_idx _ i P hf hi
  rw [List.find?_filter] at hfd
  have hq : (fun a => (!decide (hdS a ∈ done)) && readyR es dn a) = nowD es done := by
    funext a; unfold nowD; rw [h.rdy]
  have hfd2 : ps0.find? (nowD es done) = some P := by
    rw [← hq]; simpa using hfd
  refine ⟨P, hfd2, List.mem_of_find?_eq_some hfd2, List.find?_some hfd2, ?_⟩
  have hdis2 : (ps0.filter fun P => !decide (hdS P ∈ done)).Pairwise (fun P Q => ∀ x ∈ P, x ∉ Q) := h.dis.filter _
  have hil := (List.getElem?_eq_some_iff.1 hi).1
  have hPi := (List.getElem?_eq_some_iff.1 hi).2
  have hhd : ∀ Q ∈ (ps0.filter fun P => !decide (hdS P ∈ done)), hdS Q ∈ Q := fun Q hQ => by
    have := (h.ord.cls Q hQ).1
    unfold hdS
    rw [List.getElem?_eq_getElem this]
    exact List.getElem_mem this
  have hps : (ps0.filter fun Q => !decide (hdS Q ∈ done ++ P)) = (ps0.filter fun P => !decide (hdS P ∈ done)).eraseIdx i := by
    have e1 : (ps0.filter fun Q => !decide (hdS Q ∈ done ++ P)) = (ps0.filter fun P => !decide (hdS P ∈ done)).filter (fun Q => !decide (hdS Q ∈ P)) := by
      rw [List.filter_filter]
      congr 1
      funext Q
      rw [Bool.eq_iff_iff]; simp; exact And.comm
    rw [e1]
    refine filter_eraseIdx _ i (fun j Q hj => ?_)
    have hjl := (List.getElem?_eq_some_iff.1 hj).1
    have hQj := (List.getElem?_eq_some_iff.1 hj).2
    have hQm := hhd Q (List.mem_of_getElem? hj)
    simp only [Bool.not_eq_true', decide_eq_false_iff_not]
    constructor
    · rintro hn rfl
      rw [hi] at hj; cases hj
      exact hn hQm
    · intro hji hin
      rcases Nat.lt_or_ge j i with hlt | hge
      · have := List.pairwise_iff_getElem.1 hdis2 j i hjl hil hlt
        rw [hPi, hQj] at this
        exact this _ hQm hin
      · have := List.pairwise_iff_getElem.1 hdis2 i j hil hjl (by omega)
        rw [hPi, hQj] at this
        exact this _ hin hQm
  have hrel : ∀ y, has (putAll dn P) y = true ↔ y ∈ done ++ P := fun y => by
    rw [has_iff (putAll_true P h.ord.tru), keysOf_putAll, List.mem_append, ← h.rel y, has_iff h.ord.tru]
  have hlen : ((ps0.filter fun P => !decide (hdS P ∈ done)).eraseIdx i).length + 1 = (ps0.filter fun P => !decide (hdS P ∈ done)).length := by
    rw [List.length_eraseIdx, if_pos hil]; omega
  refine ⟨by rw [hps]; exact h.ord.next hi, hrel, by rw [hps, List.length_append, List.length_singleton]; have := h.len; omega, ?_, h.dis, by simp [h.dl], fun Q hQ => ?_⟩
  · rw [hps, h.tgt, ← hlen]
    simp only [orderG, hf, hi, Option.getD_some]
    simp
  · rcases List.mem_append.1 hQ with h1 | h1
    · exact h.sub Q h1
    · simp at h1; subst h1; exact List.mem_of_find?_eq_some hfd2
theorem OD.fin (h : OD nxt es S ps0 O done dn T) (hl : ¬ O.length < ps0.length) : T = O := by
  have := h.len
  have e : (ps0.filter fun P => !decide (hdS P ∈ done)) = [] := List.eq_nil_of_length_eq_zero (by omega)
  rw [h.tgt, e]; simp [orderG]
theorem OD.le (h : OD nxt es S ps0 O done dn T) : O.length ≤ ps0.length := by have := h.len; omega
/-- All parts of names that are in order are apart. -/
theorem parts_apart {nxt : Str → List Str} {S : List Str} (hS : S.Nodup) : (partsR (eqv nxt) S.length S).Pairwise (fun P Q => ∀ x ∈ P, x ∉ Q) := by
  have hp := partsR_perm (eqv_refl nxt) S.length S (Nat.le_refl _)
  have hn : (partsR (eqv nxt) S.length S).flatten.Nodup := hp.nodup_iff.2 hS
  have := (List.pairwise_flatten.1 hn).2
  exact this.imp (fun h x hx hx2 => h x hx x hx2 rfl)
theorem inEdges_mem {N M : List Str} (h : ∀ y, y ∈ N ↔ y ∈ M) (es : List (Str × Str)) : inEdges N es = inEdges M es := by
  unfold inEdges
  congr 1
  funext e
  rw [Bool.eq_iff_iff]; simp [h]
theorem rdy_take {es : List (Str × Str)} {done P : List Str} {k : Nat} (hk : k < es.length) {e : Str × Str} (he : es[k] = e) : (es.take (k + 1)).all (okD done P) = ((es.take k).all (okD done P) && okD done P e) := by
  rw [List.take_succ_eq_append_getElem hk, he, List.all_append]; simp
theorem now_skip {es : List (Str × Str)} {done : List Str} {ps0 : List (List Str)} {i : Nat} (hi : i < ps0.length) {P : List Str} (hP : ps0[i] = P) (h : ∀ Q ∈ ps0.take i, nowD es done Q = false) (hn : nowD es done P = false) : ∀ Q ∈ ps0.take (i + 1), nowD es done Q = false := by
  intro Q hQ
  rw [List.take_succ_eq_append_getElem hi, hP] at hQ
  rcases List.mem_append.1 hQ with h1 | h1
  · exact h Q h1
  · simp at h1; rw [h1]; exact hn
theorem now_first {es : List (Str × Str)} {done : List Str} {ps0 : List (List Str)} {i : Nat} (hi : i < ps0.length) {P P' : List Str} (hP : ps0[i] = P) (h : ∀ Q ∈ ps0.take i, nowD es done Q = false) (hn : nowD es done P = true) (hf : ps0.find? (nowD es done) = some P') : P' = P := by
  have e : ps0 = ps0.take i ++ (P :: ps0.drop (i + 1)) := by rw [← hP, ← List.drop_eq_getElem_cons hi, List.take_append_drop]
  rw [e, List.find?_append, List.find?_eq_none.2 (fun Q hQ => by rw [h Q hQ]; simp), List.find?_cons_of_pos hn] at hf
  simpa using hf.symm
theorem ordP_start {F : List FRec} (hcl : ∀ a ∈ F.map (·.name), ∀ z ∈ nxF F a, z ∈ F.map (·.name)) {S : List Str} (hmem : ∀ y, y ∈ S ↔ y ∈ F.map (·.name)) :
    OrdP (edgesN (inEdges (F.map (·.name)) (callE F F))) (callE F F) S [] (partsR (eqv (edgesN (inEdges (F.map (·.name)) (callE F F)))) S.length S) := by
  have hr := eqv_refl (edgesN (inEdges (F.map (·.name)) (callE F F)))
  have hsy : ∀ x y, eqv (edgesN (inEdges (F.map (·.name)) (callE F F))) x y = true → eqv (edgesN (inEdges (F.map (·.name)) (callE F F))) y x = true := fun x y h => eqv_symm h
  have htr : ∀ x y z, eqv (edgesN (inEdges (F.map (·.name)) (callE F F))) x y = true → eqv (edgesN (inEdges (F.map (·.name)) (callE F F))) y z = true → eqv (edgesN (inEdges (F.map (·.name)) (callE F F))) x z = true := fun x y z h k => eqv_trans h k
  refine ⟨by simp, fun P hP => ⟨(parts_ne hr hsy htr hP).1, fun x hx => parts_sub hr hsy htr hP hx, fun x hx y hy => ?_⟩, fun y hy => Or.inr (parts_cover hr _ _ (Nat.le_refl _) y hy), fun e he => ?_⟩
  · obtain ⟨z, _, rfl⟩ := parts_mem hsy htr _ _ P hP
    have hzx := (List.mem_filter.1 hx).2
    rw [List.mem_filter]
    exact ⟨fun h => htr _ _ _ (hsy _ _ hzx) h.2, fun h => ⟨hy, htr _ _ _ hzx h⟩⟩
  · obtain ⟨x, y⟩ := e
    obtain ⟨h1, h2⟩ := mem_callE.1 he
    have h3 : y ∈ F.map (·.name) := hcl x h1 y h2
    exact ⟨(hmem x).2 h1, (hmem y).2 h3, mem_inEdges.2 ⟨he, h1, h3⟩⟩
theorem flat_ge : ∀ {l : List (List Str)}, (∀ P ∈ l, 0 < P.length) → l.length ≤ l.flatten.length ∧ ∀ P ∈ l, P.length ≤ l.flatten.length
  | [], _ => ⟨by simp, by simp⟩
  | a :: l, h => by
    have h1 := h a (by simp)
    obtain ⟨h2, h3⟩ := flat_ge (l := l) (fun P hP => h P (by simp [hP]))
    refine ⟨by simp only [List.flatten_cons, List.length_append, List.length_cons]; omega, fun P hP => ?_⟩
    rcases List.mem_cons.1 hP with rfl | hP
    · simp only [List.flatten_cons, List.length_append]; omega
    · have := h3 P hP; simp only [List.flatten_cons, List.length_append]; omega
theorem flat_le (n : Nat) : ∀ {l : List (List Str)}, (∀ P ∈ l, P.length ≤ n) → l.flatten.length ≤ l.length * n
  | [], _ => by simp
  | a :: l, h => by
    have h1 := h a (by simp)
    have h2 := flat_le n (l := l) (fun P hP => h P (by simp [hP]))
    rw [List.flatten_cons, List.length_append, List.length_cons, Nat.add_mul]; omega
theorem parts_bound {nxt : Str → List Str} {S : List Str} (hS : S.length ≤ 100) : (partsR (eqv nxt) S.length S).length ≤ 100 ∧ (∀ P ∈ partsR (eqv nxt) S.length S, P.length ≤ 100 ∧ 0 < P.length) := by
  have hp := (partsR_perm (eqv_refl nxt) S.length S (Nat.le_refl _)).length_eq
  have hne : ∀ P ∈ partsR (eqv nxt) S.length S, 0 < P.length := fun P hP => (parts_ne (eqv_refl nxt) (fun _ _ h => eqv_symm h) (fun _ _ _ h k => eqv_trans h k) hP).1
  obtain ⟨h1, h2⟩ := flat_ge hne
  exact ⟨by omega, fun P hP => ⟨by have := h2 P hP; omega, hne P hP⟩⟩
end Go.Proofs.Ytmebmgbjpbapjaa

namespace Go.Proofs.Ytmebmgbjpbapjaa
open Go.RowKit Go.Maps Go.MapKept
variable {b : Env} {L : List HP} {w : World}

def RO1 (b : Env) (L : List HP) (F : List FRec) (B1 : HP) (v3 v4 i : Value) (wr : World) : Prop :=
  ∃ k : Nat, k ≤ F.length ∧ i = .int .i64 k ∧ ∃ b4 c4, v4 = .slice b4 (callE F (F.take k)).length c4 ∧ St b (HP.rows 35 pairE v4 (callE F (F.take k)) :: HP.sl strE v3 (withAll [] ((F.take k).map (·.name))) :: B1 :: L) wr
def RO2 (b : Env) (L : List HP) (es0 : List (Str × Str)) (C : List Str) (f : Str) (v4 i : Value) (wr : World) : Prop :=
  ∃ j : Nat, j ≤ C.length ∧ i = .int .i64 j ∧ ∃ b4 c4 n4, n4 = (es0 ++ (C.take j).map (fun y => (f, y))).length ∧ v4 = .slice b4 n4 c4 ∧ St b (HP.rows 35 pairE v4 (es0 ++ (C.take j).map (fun y => (f, y))) :: L) wr
def RO3 (b : Env) (L : List HP) (nxt : Str → List Str) (es : List (Str × Str)) (S : List Str) (ps0 T : List (List Str)) (g : Nat) (v10 v11 : Value) (wr : World) : Prop :=
  ∃ (O : List (List Str)) (done : List Str) (dn : List (Str × Bool)), OD nxt es S ps0 O done dn T ∧ g = ps0.length - O.length ∧ ∃ b10 c10 b11 c11, v10 = .slice b10 O.length c10 ∧ v11 = .slice b11 done.length c11 ∧ St b (HP.rows 24 strE.in v10 O :: HP.rows 9 strE v11 done :: L) wr
def RO4 (b : Env) (L : List HP) (es : List (Str × Str)) (ps0 : List (List Str)) (done : List Str) (V10 V11 : Value) (v10 v11 i : Value) (wr : World) : Prop :=
  ∃ k : Nat, k ≤ ps0.length ∧ i = .int .i64 k ∧ v10 = V10 ∧ v11 = V11 ∧ (∀ Q ∈ ps0.take k, nowD es done Q = false) ∧ St b L wr
def RO5 (b : Env) (L : List HP) (es : List (Str × Str)) (done P : List Str) (v13 i : Value) (wr : World) : Prop :=
  ∃ (k : Nat) (r : Bool), k ≤ es.length ∧ i = .int .i64 k ∧ v13 = .bool r ∧ (es.take k).all (okD done P) = r ∧ St b L wr

set_option linter.unusedSimpArgs false in
set_option maxRecDepth 100000 in
set_option maxHeartbeats 16000000 in
theorem rorder_calls (h : St b L w) {vv vl vf : Value} {F : List FRec} (hm : HP.sl funcE vf F ∈ L) (hFl : F.length ≤ 100) (hnx : ∀ f, (nxF F f).length ≤ 100) (hcl : ∀ a ∈ F.map (·.name), ∀ z ∈ nxF F a, z ∈ F.map (·.name))
    (hat : ∀ y ∈ F.map (·.name), ∃ (i : Nat) (x : FRec), F[i]? = some x ∧ findR F y = (i : Int) ∧ x.body.size ≤ 10000 ∧ setS (names 5 x.body) = nxF F y) :
    Calls Try.prog 33 #[.agg #[vv, vl, vf]] w fun x w' => ∃ v S, x = .returned v ∧ Inc S ∧ (∀ y, y ∈ S ↔ y ∈ F.map (·.name)) ∧
      St b (HP.sl strE.in v (orderG (callE F F) (partsR (eqv (edgesN (inEdges (F.map (·.name)) (callE F F)))) S.length S).length [] (partsR (eqv (edgesN (inEdges (F.map (·.name)) (callE F F)))) S.length S)) :: L) w' := by
  obtain ⟨bf, cf, rfl, hc1, hc2⟩ := h.sl_form hm
  have hFi : (F.length : Int) ≤ 9223372036854775807 := by omega
  have H := hide h
  have HM := hide hm
  have HNX := hide hnx
  have HEL := hide (callE_len (F := F) hnx)
  have HFL := hide hFl
  have HAT := hide hat
  have HCL := hide hcl
  clear h hm hc1 hc2 hnx hat hcl
  go_enter Try.func33, Try.ntmps33
  go_wp2_with (first
    | ((with_reducible refine wpList_box_st (cs := [vv, vl, .slice bf F.length cf]) rfl (.tmp 0) rfl rfl H.out ?_); intro g1 w1 h1; have H1 := hide ((h1.sl_nil strE).rows_nil 35 pairE); clear h1 H))
  go_loopw [3, 4, 5] (fun v3 v4 i wr => RO1 b L F (HP.blk g1 (.cells [vv, vl, .slice bf F.length cf].toArray 43)) v3 v4 i wr) (fun _ _ i _ => F.length - (intOf i).toNat)
  case atStart => exact ⟨0, by omega, rfl, none, 0, rfl, H1.out⟩
  case round =>
    obtain ⟨k, hk, rfl, b4, c4, rfl, hs⟩ := hrel
    have H3 := hide hs
    have n1 : wr.cell? ⟨g1, 2, none⟩ = some (.slice bf F.length cf) := hs.blk_cell mem2 2
    clear hs H1
    by_cases hlt : k < F.length
    · have hlt' : (k : Int) < F.length := by omega
      obtain ⟨g, o, rfl⟩ := H3.out.sl_base (up3 HM.out) (by omega) (by decide)
      obtain ⟨cs, h4⟩ := H3.out.elem (up3 HM.out) (List.getElem?_eq_getElem hlt) (by decide)
      obtain ⟨x, hx⟩ : ∃ x, F[k] = x := ⟨_, rfl⟩
      rw [hx] at h4
      obtain ⟨vx, hok, rfl, h5⟩ := h4.func
      have n2 : wr.cell? ⟨g, o + k * 3, none⟩ = some (.string ⟨x.name.toArray⟩) := h5.elem_cell mem1 0 rfl
      have HOK := hide hok
      have HES := hide (callE_succ (F := F) hlt hx)
      have HXM : Hid (x.name ∈ F.map (·.name)) := hide (List.mem_map.2 ⟨F[k], List.getElem_mem hlt, by rw [hx]⟩)
      have HNM : Hid (withAll [] ((F.take (k + 1)).map (·.name)) = insS (withAll [] ((F.take k).map (·.name))) x.name) := hide (by rw [List.take_succ_eq_append_getElem hlt, hx, List.map_append, withAll_append]; rfl)
      have hel := HEL.out (F.take k)
      have hnx := HNX.out x.name
      have hel2 : (callE F (F.take k)).length ≤ 10000 := by rw [List.length_take] at hel; omega
      have hwl : (withAll [] ((F.take k).map (·.name))).length ≤ 1000000 := by have := withAll_len ((F.take k).map (·.name)) []; rw [List.length_map, List.length_take, List.length_nil] at this; omega
      have HWL := hide hwl
      generalize callE F (F.take k) = es0 at H3 h5 HES hel2
      generalize withAll [] ((F.take k).map (·.name)) = ns0 at H3 h5 HNM HWL hwl
      have H5 := hide h5.drop.drop
      clear h4 h5 hok hx H3 hel hwl
      go_wp2_with (first
        | (go_at_call 27; refine (with_calls H5.out mem1 x.name HOK.out HWL.out).mono ?_; rintro z w6 ⟨vn, rfl, h6⟩; have H6 := hide h6.d2; clear h6 H5)
        | (refine wpList_loadB_st (cs := [vv, vl, .slice (some ⟨g, o, none⟩) F.length cf]) rfl agProg (.tmp 1) rfl rfl rfl H6.out mem2 ?_)
        | (go_at_call 29; obtain ⟨iy, xy, hiy, hfy, hsy, hny⟩ := HAT.out x.name HXM.out; refine (rcalls_calls H6.out (up3 HM.out) x.name hiy hfy hsy).mono ?_; rintro z w10 ⟨vC, rfl, h10⟩; rw [hny] at h10; obtain ⟨bC, cC, hvC, _, hcC⟩ := h10.sl_form mem0; have hCI : ((nxF F x.name).length : Int) ≤ 9223372036854775807 := (by unfold maxLen at hcC; omega); subst hvC; generalize hC : nxF F x.name = C at h10 hCI ⊢; have HC : Hid (nxF F x.name = C) := hide hC; have H10 := hide h10.f2; clear h10 H6 hcC hC iy xy hiy hfy hsy hny))
      have hCl : C.length ≤ 100 := by rw [← HC.out]; exact hnx
      rw [HC.out] at HES
      clear hnx
      go_loopw [4, 8] (fun v4 j wr => RO2 b (HP.sl strE (.slice bC C.length cC) C :: HP.sl strE vn (insS ns0 x.name) :: HP.blk g1 (.cells [vv, vl, .slice (some ⟨g, o, none⟩) F.length cf].toArray 43) :: L) es0 C x.name v4 j wr) (fun _ j _ => C.length - (intOf j).toNat)
      case atStart => exact ⟨0, by omega, rfl, b4, c4, es0.length, by simp, rfl, by simpa using H10.out⟩
      case round =>
        obtain ⟨j, hj, rfl, b5, c5, n5, hn5, rfl, hs⟩ := hrel
        have H11 := hide hs
        have HN5 := hide hn5
        clear hs hn5 H10
        by_cases hltj : j < C.length
        · have hltj' : (j : Int) < C.length := by omega
          obtain ⟨gC, oC, hgC⟩ := H11.out.sl_base mem1 (by omega) Nat.one_pos
          subst hgC
          obtain ⟨hcy, hoky⟩ := H11.out.sc_at mem1 hltj
          have htk : (C.take (j + 1)).map (fun y => (x.name, y)) = (C.take j).map (fun y => (x.name, y)) ++ [(x.name, C[j])] := by rw [List.take_succ_eq_append_getElem hltj, List.map_append, List.map_singleton]
          obtain ⟨y, hy⟩ : ∃ y, C[j] = y := ⟨_, rfl⟩
          rw [hy] at hcy hoky htk
          have HAP : Hid (es0 ++ (C.take (j + 1)).map (fun y => (x.name, y)) = (es0 ++ (C.take j).map (fun y => (x.name, y))) ++ [(x.name, y)]) := hide (by rw [htk, ← List.append_assoc])
          have HOKY := hide hoky
          have hpl : (es0 ++ (C.take j).map (fun y => (x.name, y))).length ≤ 20000 := by simp; omega
          generalize es0 ++ (C.take j).map (fun y => (x.name, y)) = es1 at H11 HN5 HAP hpl
          have q3 : es1.length + [(x.name, y)].length ≤ maxLen := by unfold maxLen; simp; omega
          have q4 : (es1.length + [(x.name, y)].length) * 32 ≤ 140737488355328 := by simp; omega
          clear hy hoky htk hpl
          go_wp2_with (first
            | (refine wpList_build1_st (E := pairE) rfl (.tmp 46) slPair rfl (x.name, y) rfl H11.out ?_ ?_; exact (fun _ _ _ => ⟨rfl, HOK.out, HOKY.out⟩); intro g12 w12 h12; have H12 := hide h12.f1; clear h12 H11)
            | (at_builtin; refine wpList_append_st rfl (.tmp 40) (.tmp 47) slPair rfl H12.out (Src.of_rows mem1) rfl rfl q3 q4 ?_; intro vb4 n4 vc4 w13 hn4 h13; have H13 := hide h13.d1; have HN4 := hide hn4; clear h13 H12 hn4))
          go_roundw
          case rel => exact ⟨j + 1, by omega, by go_num, vb4, vc4, n4, by rw [HAP.out, HN4.out, List.length_append], rfl, by rw [HAP.out]; exact H13.out⟩
          case measure => exact meas_step hltj
        · have hn2 := HN5.out
          have h12 := H11.out.d1
          rw [List.take_of_length_le (show C.length ≤ j by omega), ← HES.out] at h12 hn2
          subst hn2
          rw [← HNM.out] at h12
          have H12 := hide h12
          clear h12 H11
          go_wp2_with fail
          go_roundw
          case rel => exact ⟨k + 1, by omega, by go_num, b5, c5, rfl, H12.out⟩
          case measure => exact meas_step hlt
    · have hke : F.take k = F := List.take_of_length_le (by omega)
      rw [hke] at H3 ⊢
      have hel := HEL.out F
      have hel2 : (callE F F).length ≤ 50000 := by omega
      have hNl : (withAll [] (F.map (·.name))).length ≤ 100 := by have := withAll_len (F.map (·.name)) []; rw [List.length_map, List.length_nil] at this; omega
      have hNi : Inc (withAll [] (F.map (·.name))) := withAll_inc _ _ (by simp [Inc])
      have hNm : ∀ y, y ∈ withAll [] (F.map (·.name)) ↔ y ∈ F.map (·.name) := fun y => by rw [mem_withAll]; simp
      have hnlt : ¬ (k : Int) < F.length := by omega
      have hord := ordP_start (F := F) HCL.out hNm
      have hap := parts_apart (nxt := edgesN (inEdges (F.map (·.name)) (callE F F))) hNi.nodup
      obtain ⟨hpl, hpe⟩ := parts_bound (nxt := edgesN (inEdges (F.map (·.name)) (callE F F))) hNl
      have hod := OD.start hord hap
      have HNI := hide hNi
      have HNM := hide hNm
      have HPE := hide hpe
      have HIE := hide (inEdges_mem hNm (callE F F))
      have HOD := hide hod
      have HNL := hide hNl
      have HEL2 := hide hel2
      have H4 := hide H3.out.persist
      clear hlt hk hord hap hpe hod H3 hke hel hel2 hNi hNm
      generalize hS : withAll [] (F.map (·.name)) = S at HNI HNM HIE HOD HNL H4 HPE hpl
      generalize hPS : partsR (eqv (edgesN (inEdges (F.map (·.name)) (callE F F)))) S.length S = ps0 at HOD HPE hpl
      have HPS := hide hPS
      clear hPS hS hNl
      go_wp2_with (first
        | (go_at_call 16; refine (rparts_calls H4.out mem1 mem0 HNI.out (Nat.le_trans HNL.out (by decide)) HEL2.out).mono ?_; rintro z w20 ⟨v9, rfl, h20⟩; rw [HIE.out, HPS.out] at h20; obtain ⟨b9, c9, hv9, _⟩ := h20.sl_form mem0; obtain ⟨be, ce, hve, _⟩ := h20.sl_form mem1; have hei : ((callE F F).length : Int) ≤ 9223372036854775807 := (by have := HEL2.out; omega); subst hv9; simp only [Value.slice.injEq] at hve; obtain ⟨rfl, -, rfl⟩ := hve; have H20 := hide (((h20.d2.d2.rows_nil 9 strE).rows_nil 24 strE.in)); clear h20 H4))
      have hpI : (ps0.length : Int) ≤ 9223372036854775807 := by omega
      generalize hES : callE F F = es at H20 HOD hei
      generalize hT : orderG es ps0.length [] ps0 = T at HOD
      have HT := hide hT
      have HES := hide hES
      clear hT hES HEL2 HIE
      go_loopg [10, 11] ps0.length (fun gg v10 v11 wr => RO3 b (HP.sl strE.in (.slice b9 ps0.length c9) ps0 :: HP.sl pairE (.slice b4 es.length c4) es :: L) (edgesN (inEdges (F.map (·.name)) es)) es S ps0 T gg v10 v11 wr)
      case atStart => exact ⟨[], [], [], HOD.out, by simp, none, 0, none, 0, rfl, rfl, H20.out⟩
      case round =>
        obtain ⟨O, done, dn, hod, hgk, b10, c10, b11, c11, rfl, rfl, hs⟩ := hrel
        have H21 := hide hs
        have HO := hide hod
        have hOle := hod.le
        have hdl : done.length ≤ 10000 := by
          rw [hod.dl]
          refine Nat.le_trans (flat_le 100 (fun P hP => (HPE.out P (hod.sub P hP)).1)) ?_
          omega
        have hOI : (O.length : Int) ≤ 9223372036854775807 := by omega
        clear hs hod H20 HOD
        by_cases hol : O.length < ps0.length
        · have hol' : (O.length : Int) < ps0.length := by omega
          obtain ⟨P1, hfd, hPm, hPn, hnext⟩ := HO.out.find hol
          have HFD := hide hfd
          have HPM := hide hPm
          have HNX1 := hide hnext
          have HPN := hide hPn
          clear hfd hPm hnext hPn HO
          go_wp2_with fail
          go_loopw [10, 11, 12] (fun v10 v11 i wr => RO4 b (HP.rows 24 strE.in (.slice b10 O.length c10) O :: HP.rows 9 strE (.slice b11 done.length c11) done :: HP.sl strE.in (.slice b9 ps0.length c9) ps0 :: HP.sl pairE (.slice b4 es.length c4) es :: L) es ps0 done (.slice b10 O.length c10) (.slice b11 done.length c11) v10 v11 i wr) (fun _ _ i _ => ps0.length - (intOf i).toNat)
          case atStart => exact ⟨0, by omega, rfl, rfl, rfl, by simp, H21.out⟩
          case round =>
            obtain ⟨i, hi, rfl, rfl, rfl, hsk, hs⟩ := hrel
            have H22 := hide hs
            have HSK := hide hsk
            clear hs hsk H21
            by_cases hlti : i < ps0.length
            · have hlti' : (i : Int) < ps0.length := by omega
              obtain ⟨g9, o9, hg9⟩ := H22.out.sl_base mem2 (by omega) Nat.one_pos
              subst hg9
              obtain ⟨vP, h23⟩ := H22.out.in_elem mem2 hlti
              obtain ⟨P, hP⟩ : ∃ P, ps0[i] = P := ⟨_, rfl⟩
              rw [hP] at h23
              obtain ⟨hPl, hP0⟩ := HPE.out P (by rw [← hP]; exact List.getElem_mem hlti)
              obtain ⟨bP, cP, hvP, _⟩ := h23.sl_form mem0
              subst hvP
              obtain ⟨gP, oP, hgP⟩ := h23.sl_base mem0 hP0 Nat.one_pos
              subst hgP
              have c1 : wr.cell? ⟨g9, o9 + i, none⟩ = some (.slice (some ⟨gP, oP, none⟩) P.length cP) := h23.in_cell mem1
              have c20 := (h23.sc_at mem0 hP0).1
              have hhd : P[0] = hdS P := by unfold hdS; rw [List.getElem?_eq_getElem hP0]; rfl
              rw [hhd] at c20
              obtain ⟨hd, hhdP⟩ : ∃ x, hdS P = x := ⟨_, rfl⟩
              rw [hhdP] at c20
              have c2 : wr.cell? ⟨gP, oP, none⟩ = some (.string ⟨hd.toArray⟩) := c20
              have HHD := hide hhdP
              have HPi := hide hP
              have hPI : (P.length : Int) ≤ 9223372036854775807 := by omega
              have hPI0 : (0 : Int) < P.length := by omega
              have H23 := hide h23
              clear h23 c20 hhd hhdP hP H22
              by_cases hin : hd ∈ done
              · have HIN := hide hin
                have HN := hide (now_skip (es := es) (done := done) hlti HPi.out HSK.out (by unfold nowD; rw [HHD.out, decide_eq_true hin]; rfl))
                clear hin
                go_wp2_with (go_at_call 17; refine (in_calls H23.out (Reads.of_rows mem3) hd).mono ?_; rintro z w24 ⟨rfl, hw24⟩; subst hw24; rw [decide_eq_true HIN.out])
                go_roundw
                case rel => exact ⟨i + 1, by omega, by go_num, rfl, rfl, HN.out, H23.out.drop.drop⟩
                case measure => exact meas_step hlti
              · have HIN := hide hin
                clear hin
                go_wp2_with (go_at_call 17; refine (in_calls H23.out (Reads.of_rows mem3) hd).mono ?_; rintro z w24 ⟨rfl, hw24⟩; subst hw24; rw [decide_eq_false HIN.out])
                go_loopw [13, 14] (fun v13 j wr => RO5 b (HP.sl strE (.slice (some ⟨gP, oP, none⟩) P.length cP) P :: HP.elem strE.in g9 (o9 + i) P [.slice (some ⟨gP, oP, none⟩) P.length cP] :: HP.rows 24 strE.in (.slice b10 O.length c10) O :: HP.rows 9 strE (.slice b11 done.length c11) done :: HP.sl strE.in (.slice (some ⟨g9, o9, none⟩) ps0.length c9) ps0 :: HP.sl pairE (.slice b4 es.length c4) es :: L) es done P v13 j wr) (fun _ j _ => es.length - (intOf j).toNat)
                case atStart => exact ⟨0, true, by omega, rfl, rfl, by simp, H23.out⟩
                case round =>
                  obtain ⟨k2, r, hk2, rfl, rfl, hr, hs⟩ := hrel
                  have H25 := hide hs
                  have HR := hide hr
                  clear hs hr H23 c1 c2
                  by_cases hlte : k2 < es.length
                  · have hlte' : (k2 : Int) < es.length := by omega
                    obtain ⟨ge, oe, hge⟩ := H25.out.sl_base (E := pairE) mem5 (by omega) (by decide)
                    subst hge
                    obtain ⟨p1, p2, _, _⟩ := H25.out.pair_at mem5 hlte
                    have c3 : wr.cell? ⟨g9, o9 + i, none⟩ = some (.slice (some ⟨gP, oP, none⟩) P.length cP) := H25.out.in_cell mem1
                    obtain ⟨e, he⟩ : ∃ e, es[k2] = e := ⟨_, rfl⟩
                    rw [he] at p1 p2
                    have HRT := hide (rdy_take (done := done) (P := P) hlte he)
                    have HS0 := hide (And.intro c3 (And.intro p1 p2))
                    have HDD := hide H25.out.drew
                    have HS1 : Hid (wr.drew.cell? ⟨g9, o9 + i, none⟩ = some (.slice (some ⟨gP, oP, none⟩) P.length cP) ∧ wr.drew.cell? ⟨ge, oe + k2 * 2, none⟩ = some (.string ⟨e.1.toArray⟩) ∧ wr.drew.cell? ⟨ge, oe + k2 * 2 + 1, none⟩ = some (.string ⟨e.2.toArray⟩)) := hide ⟨HDD.out.in_cell mem1, by rw [← he]; exact (HDD.out.pair_at mem5 hlte).1, by rw [← he]; exact (HDD.out.pair_at mem5 hlte).2.1⟩
                    obtain ⟨x1, hx1⟩ : ∃ x, e.1 = x := ⟨_, rfl⟩
                    obtain ⟨x2, hx2⟩ : ∃ x, e.2 = x := ⟨_, rfl⟩
                    rw [hx1, hx2] at HS0 HS1
                    have HX1 := hide hx1
                    have HX2 := hide hx2
                    clear he c3 p1 p2 hx1 hx2
                    by_cases q1 : x1 ∈ P
                    · by_cases q2 : x2 ∈ P
                      · have HB : Hid (okD done P e = true) := hide (by unfold okD; rw [HX1.out, HX2.out, decide_eq_true q1, decide_eq_true q2]; rfl)
                        have Q1 := hide q1
                        have Q2 := hide q2
                        clear q1 q2
                        go_wp2_with fail
                        refine wp_region_held_drew (S := fun w' => w'.cell? ⟨g9, o9 + i, none⟩ = some (.slice (some ⟨gP, oP, none⟩) P.length cP) ∧ w'.cell? ⟨ge, oe + k2 * 2, none⟩ = some (.string ⟨x1.toArray⟩) ∧ w'.cell? ⟨ge, oe + k2 * 2 + 1, none⟩ = some (.string ⟨x2.toArray⟩)) (by kernel_rfl) ?_ (fun hHeld => ?_)
                        · exact HS0.out
                        refine wpAnyH_takeD (i := 0) (some 77) (v := ?v0_1) rfl rfl (by kernel_rfl) (by kernel_rfl) (by kernel_rfl) (fun _ _ _ h => h) (by rfl) ?y0_1 (by assumption) ?r0_1
                        case y0_1 => (intro w hSw; (try dsimp only at hSw); first | (go_simp; done) | (go_simp; with_reducible rfl))
                        try simp only [Act.put, List.setIfInBounds_toArray, List.set_cons_zero, List.set_cons_succ]
                        refine wpAnyH_takeD (i := 1) (some 78) (v := ?v1_2) rfl rfl (by kernel_rfl) (by kernel_rfl) (by kernel_rfl) (fun _ _ _ h => h) (by rfl) ?y1_2 (by assumption) ?r1_2
                        case y1_2 => (intro w hSw; (try dsimp only at hSw); first | (go_simp; done) | (go_simp; with_reducible rfl))
                        try simp only [Act.put, List.setIfInBounds_toArray, List.set_cons_zero, List.set_cons_succ]
                        refine wpAnyH_takeD (i := 2) (some 79) (v := ?v2_3) rfl rfl (by kernel_rfl) (by kernel_rfl) (by kernel_rfl) (fun _ _ _ h => h) (by rfl) ?y2_3 (by assumption) ?r2_3
                        case y2_3 => (intro w hSw; (try dsimp only at hSw); first | (go_simp; done) | (go_simp; with_reducible rfl))
                        try simp only [Act.put, List.setIfInBounds_toArray, List.set_cons_zero, List.set_cons_succ]
                        refine wpAnyH_takeD (i := 3) (some 80) (v := ?v3_4) rfl rfl (by kernel_rfl) (by kernel_rfl) (by kernel_rfl) (fun _ _ _ h => h) (by rfl) ?y3_4 (by assumption) ?r3_4
                        case y3_4 => (intro w hSw; (try dsimp only at hSw); first | (go_simp; done) | (go_simp; with_reducible rfl))
                        try simp only [Act.put, List.setIfInBounds_toArray, List.set_cons_zero, List.set_cons_succ]
                        refine wpAnyH_takeD (i := 4) (some 81) (v := ?v4_5) rfl rfl (by kernel_rfl) (by kernel_rfl) (by kernel_rfl) (fun _ _ _ h => h) (by rfl) ?y4_5 (by assumption) ?r4_5
                        case y4_5 => (intro w hSw; (try dsimp only at hSw); first | (go_simp; done) | (go_simp; with_reducible rfl))
                        try simp only [Act.put, List.setIfInBounds_toArray, List.set_cons_zero, List.set_cons_succ]
                        refine wpAnyH_takeD (i := 5) (some 82) (v := ?v5_6) rfl rfl (by kernel_rfl) (by kernel_rfl) (by kernel_rfl) (fun _ _ _ h => h) (by rfl) ?y5_6 (by assumption) ?r5_6
                        case y5_6 => (intro w hSw; (try dsimp only at hSw); first | (go_simp; done) | (go_simp; with_reducible rfl))
                        try simp only [Act.put, List.setIfInBounds_toArray, List.set_cons_zero, List.set_cons_succ]
                        refine wpAnyH_takeD (i := 6) (some 83) (v := ?v6_7) rfl rfl (by kernel_rfl) (by kernel_rfl) (by kernel_rfl) (fun _ _ _ h => h) (by rfl) ?y6_7 (by assumption) ?r6_7
                        case y6_7 => (intro w hSw; (try dsimp only at hSw); first | (go_simp; done) | (go_simp; with_reducible rfl))
                        try simp only [Act.put, List.setIfInBounds_toArray, List.set_cons_zero, List.set_cons_succ]
                        refine wpAnyH_takeD (i := 7) (some 84) (v := ?v7_8) rfl rfl (by kernel_rfl) (by kernel_rfl) (by kernel_rfl) (fun _ _ _ h => h) (by rfl) ?y7_8 (by assumption) ?r7_8
                        case y7_8 => (intro w hSw; (try dsimp only at hSw); first | (go_simp; done) | (go_simp; with_reducible rfl))
                        try simp only [Act.put, List.setIfInBounds_toArray, List.set_cons_zero, List.set_cons_succ]
                        refine wpAnyH_takeD (i := 8) (some 85) (v := ?v8_9) rfl rfl (by kernel_rfl) (by kernel_rfl) (by kernel_rfl) (fun _ _ _ h => h) (by rfl) ?y8_9 (by assumption) ?r8_9
                        case y8_9 => (intro w hSw; (try dsimp only at hSw); first | (go_simp; done) | (go_simp; with_reducible rfl))
                        try simp only [Act.put, List.setIfInBounds_toArray, List.set_cons_zero, List.set_cons_succ]
                        refine wpAnyH_ready (rs := [9]) (by kernel_rfl) (by simp) ?_
                        refine AllReadyH.cons rfl (fun K hK => ?_) ?_
                        · go_simp
                          go_at_call 17
                          refine (in_calls HDD.out (Reads.of_sl mem0) x1).mono ?_
                          rintro z w31 ⟨rfl, hw31⟩
                          subst hw31
                          rw [decide_eq_true Q1.out]
                          refine hK.out _ _ ?_ (fun hHeld => ?_)
                          · exact HS1.out
                          clear hK K
                          try simp only [Act.put, List.setIfInBounds_toArray, List.set_cons_zero, List.set_cons_succ]
                          refine wpAnyH_takeD (i := 10) (some 87) (v := ?v10_10) rfl rfl (by kernel_rfl) (by kernel_rfl) (by kernel_rfl) (fun _ _ _ h => h) (by rfl) ?y10_10 (by assumption) ?r10_10
                          case y10_10 => (intro w hSw; (try dsimp only at hSw); first | (go_simp; done) | (go_simp; with_reducible rfl))
                          try simp only [Act.put, List.setIfInBounds_toArray, List.set_cons_zero, List.set_cons_succ]
                          refine wpAnyH_takeD (i := 11) (some 88) (v := ?v11_11) rfl rfl (by kernel_rfl) (by kernel_rfl) (by kernel_rfl) (fun _ _ _ h => h) (by rfl) ?y11_11 (by assumption) ?r11_11
                          case y11_11 => (intro w hSw; (try dsimp only at hSw); first | (go_simp; done) | (go_simp; with_reducible rfl))
                          try simp only [Act.put, List.setIfInBounds_toArray, List.set_cons_zero, List.set_cons_succ]
                          refine wpAnyH_takeD (i := 12) (some 89) (v := ?v12_12) rfl rfl (by kernel_rfl) (by kernel_rfl) (by kernel_rfl) (fun _ _ _ h => h) (by rfl) ?y12_12 (by assumption) ?r12_12
                          case y12_12 => (intro w hSw; (try dsimp only at hSw); first | (go_simp; done) | (go_simp; with_reducible rfl))
                          try simp only [Act.put, List.setIfInBounds_toArray, List.set_cons_zero, List.set_cons_succ]
                          refine wpAnyH_takeD (i := 13) (some 90) (v := ?v13_13) rfl rfl (by kernel_rfl) (by kernel_rfl) (by kernel_rfl) (fun _ _ _ h => h) (by rfl) ?y13_13 (by assumption) ?r13_13
                          case y13_13 => (intro w hSw; (try dsimp only at hSw); first | (go_simp; done) | (go_simp; with_reducible rfl))
                          try simp only [Act.put, List.setIfInBounds_toArray, List.set_cons_zero, List.set_cons_succ]
                          refine wpAnyH_takeD (i := 14) (some 91) (v := ?v14_14) rfl rfl (by kernel_rfl) (by kernel_rfl) (by kernel_rfl) (fun _ _ _ h => h) (by rfl) ?y14_14 (by assumption) ?r14_14
                          case y14_14 => (intro w hSw; (try dsimp only at hSw); first | (go_simp; done) | (go_simp; with_reducible rfl))
                          try simp only [Act.put, List.setIfInBounds_toArray, List.set_cons_zero, List.set_cons_succ]
                          refine wpAnyH_takeD (i := 15) (some 92) (v := ?v15_15) rfl rfl (by kernel_rfl) (by kernel_rfl) (by kernel_rfl) (fun _ _ _ h => h) (by rfl) ?y15_15 (by assumption) ?r15_15
                          case y15_15 => (intro w hSw; (try dsimp only at hSw); first | (go_simp; done) | (go_simp; with_reducible rfl))
                          try simp only [Act.put, List.setIfInBounds_toArray, List.set_cons_zero, List.set_cons_succ]
                          refine wpAnyH_takeD (i := 16) (some 93) (v := ?v16_16) rfl rfl (by kernel_rfl) (by kernel_rfl) (by kernel_rfl) (fun _ _ _ h => h) (by rfl) ?y16_16 (by assumption) ?r16_16
                          case y16_16 => (intro w hSw; (try dsimp only at hSw); first | (go_simp; done) | (go_simp; with_reducible rfl))
                          try simp only [Act.put, List.setIfInBounds_toArray, List.set_cons_zero, List.set_cons_succ]
                          refine wpAnyH_takeD (i := 17) (some 94) (v := ?v17_17) rfl rfl (by kernel_rfl) (by kernel_rfl) (by kernel_rfl) (fun _ _ _ h => h) (by rfl) ?y17_17 (by assumption) ?r17_17
                          case y17_17 => (intro w hSw; (try dsimp only at hSw); first | (go_simp; done) | (go_simp; with_reducible rfl))
                          try simp only [Act.put, List.setIfInBounds_toArray, List.set_cons_zero, List.set_cons_succ]
                          refine wpAnyH_takeD (i := 18) (some 95) (v := ?v18_18) rfl rfl (by kernel_rfl) (by kernel_rfl) (by kernel_rfl) (fun _ _ _ h => h) (by rfl) ?y18_18 (by assumption) ?r18_18
                          case y18_18 => (intro w hSw; (try dsimp only at hSw); first | (go_simp; done) | (go_simp; with_reducible rfl))
                          try simp only [Act.put, List.setIfInBounds_toArray, List.set_cons_zero, List.set_cons_succ]
                          refine wpAnyH_takeD (i := 19) (some 96) (v := ?v19_19) rfl rfl (by kernel_rfl) (by kernel_rfl) (by kernel_rfl) (fun _ _ _ h => h) (by rfl) ?y19_19 (by assumption) ?r19_19
                          case y19_19 => (intro w hSw; (try dsimp only at hSw); first | (go_simp; done) | (go_simp; with_reducible rfl))
                          try simp only [Act.put, List.setIfInBounds_toArray, List.set_cons_zero, List.set_cons_succ]
                          refine wpAnyH_ready (rs := [20]) (by kernel_rfl) (by simp) ?_
                          refine AllReadyH.cons rfl (fun K hK => ?_) ?_
                          · go_simp
                            go_at_call 17
                            refine (in_calls HDD.out (Reads.of_sl mem0) x2).mono ?_
                            rintro z w31 ⟨rfl, hw31⟩
                            subst hw31
                            rw [decide_eq_true Q2.out]
                            refine hK.out _ _ ?_ (fun hHeld => ?_)
                            · exact HS1.out
                            clear hK K
                            try simp only [Act.put, List.setIfInBounds_toArray, List.set_cons_zero, List.set_cons_succ]
                            refine wpAnyH_takeD (i := 21) (some 98) (v := ?v21_20) rfl rfl (by kernel_rfl) (by kernel_rfl) (by kernel_rfl) (fun _ _ _ h => h) (by rfl) ?y21_20 (by assumption) ?r21_20
                            case y21_20 => (intro w hSw; (try dsimp only at hSw); first | (go_simp; done) | (go_simp; with_reducible rfl))
                            try simp only [Act.put, List.setIfInBounds_toArray, List.set_cons_zero, List.set_cons_succ]
                            refine wpAnyH_takeD (i := 22) (some 99) (v := ?v22_21) rfl rfl (by kernel_rfl) (by kernel_rfl) (by kernel_rfl) (fun _ _ _ h => h) (by rfl) ?y22_21 (by assumption) ?r22_21
                            case y22_21 => (intro w hSw; (try dsimp only at hSw); first | (go_simp; done) | (go_simp; with_reducible rfl))
                            try simp only [Act.put, List.setIfInBounds_toArray, List.set_cons_zero, List.set_cons_succ]
                            refine wpAnyH_takeD (i := 23) (some 100) (v := ?v23_22) rfl rfl (by kernel_rfl) (by kernel_rfl) (by kernel_rfl) (fun _ _ _ h => h) (by rfl) ?y23_22 (by assumption) ?r23_22
                            case y23_22 => (intro w hSw; (try dsimp only at hSw); first | (go_simp; done) | (go_simp; with_reducible rfl))
                            try simp only [Act.put, List.setIfInBounds_toArray, List.set_cons_zero, List.set_cons_succ]
                            refine wpAnyH_skipD (i := 24) (some 101) rfl rfl (by kernel_rfl) (by kernel_rfl) (by kernel_rfl) (fun _ _ _ h => h) (by rfl) (by assumption) ?r24_23
                            try simp only [Act.put, List.setIfInBounds_toArray, List.set_cons_zero, List.set_cons_succ]
                            refine wpAnyH_skipD (i := 25) (some 102) rfl rfl (by kernel_rfl) (by kernel_rfl) (by kernel_rfl) (fun _ _ _ h => h) (by rfl) (by assumption) ?r25_24
                            try simp only [Act.put, List.setIfInBounds_toArray, List.set_cons_zero, List.set_cons_succ]
                            refine wpAnyH_skipD (i := 26) (some 103) rfl rfl (by kernel_rfl) (by kernel_rfl) (by kernel_rfl) (fun _ _ _ h => h) (by rfl) (by assumption) ?r26_25
                            try simp only [Act.put, List.setIfInBounds_toArray, List.set_cons_zero, List.set_cons_succ]
                            refine wpAnyH_skipD (i := 27) (some 104) rfl rfl (by kernel_rfl) (by kernel_rfl) (by kernel_rfl) (fun _ _ _ h => h) (by rfl) (by assumption) ?r27_26
                            try simp only [Act.put, List.setIfInBounds_toArray, List.set_cons_zero, List.set_cons_succ]
                            refine wpAnyH_skipD (i := 28) (some 105) rfl rfl (by kernel_rfl) (by kernel_rfl) (by kernel_rfl) (fun _ _ _ h => h) (by rfl) (by assumption) ?r28_27
                            try simp only [Act.put, List.setIfInBounds_toArray, List.set_cons_zero, List.set_cons_succ]
                            refine wpAnyH_skipD (i := 29) (some 106) rfl rfl (by kernel_rfl) (by kernel_rfl) (by kernel_rfl) (fun _ _ _ h => h) (by rfl) (by assumption) ?r29_28
                            try simp only [Act.put, List.setIfInBounds_toArray, List.set_cons_zero, List.set_cons_succ]
                            refine wpAnyH_skipD (i := 30) (some 107) rfl rfl (by kernel_rfl) (by kernel_rfl) (by kernel_rfl) (fun _ _ _ h => h) (by rfl) (by assumption) ?r30_29
                            try simp only [Act.put, List.setIfInBounds_toArray, List.set_cons_zero, List.set_cons_succ]
                            refine wpAnyH_skipD (i := 31) (some 108) rfl rfl (by kernel_rfl) (by kernel_rfl) (by kernel_rfl) (fun _ _ _ h => h) (by rfl) (by assumption) ?r31_30
                            try simp only [Act.put, List.setIfInBounds_toArray, List.set_cons_zero, List.set_cons_succ]
                            refine wpAnyH_takeD (i := 32) (some 109) (v := ?v32_31) rfl rfl (by kernel_rfl) (by kernel_rfl) (by kernel_rfl) (fun _ _ _ h => h) (by rfl) ?y32_31 (by assumption) ?r32_31
                            case y32_31 => (intro w hSw; (try dsimp only at hSw); first | (go_simp; done) | (go_simp; with_reducible rfl))
                            try simp only [Act.put, List.setIfInBounds_toArray, List.set_cons_zero, List.set_cons_succ]
                            refine wpAnyH_done (by kernel_rfl) ?_ _
                            go_wp2_with fail
                            go_roundw
                            case rel => exact ⟨k2 + 1, r, by omega, by go_num, rfl, by rw [HRT.out, HB.out, HR.out]; simp, HDD.out⟩
                            case measure => exact meas_step hlte
                          exact AllReadyH.nil
                        exact AllReadyH.nil
                      · by_cases q3 : x2 ∈ done
                        · have HB : Hid (okD done P e = true) := hide (by unfold okD; rw [HX1.out, HX2.out, decide_eq_true q1, decide_eq_false q2, decide_eq_true q3]; rfl)
                          have Q1 := hide q1
                          have Q2 := hide q2
                          have Q3 := hide q3
                          clear q1 q2 q3
                          go_wp2_with fail
                          refine wp_region_held_drew (S := fun w' => w'.cell? ⟨g9, o9 + i, none⟩ = some (.slice (some ⟨gP, oP, none⟩) P.length cP) ∧ w'.cell? ⟨ge, oe + k2 * 2, none⟩ = some (.string ⟨x1.toArray⟩) ∧ w'.cell? ⟨ge, oe + k2 * 2 + 1, none⟩ = some (.string ⟨x2.toArray⟩)) (by kernel_rfl) ?_ (fun hHeld => ?_)
                          · exact HS0.out
                          refine wpAnyH_takeD (i := 0) (some 77) (v := ?v0_32) rfl rfl (by kernel_rfl) (by kernel_rfl) (by kernel_rfl) (fun _ _ _ h => h) (by rfl) ?y0_32 (by assumption) ?r0_32
                          case y0_32 => (intro w hSw; (try dsimp only at hSw); first | (go_simp; done) | (go_simp; with_reducible rfl))
                          try simp only [Act.put, List.setIfInBounds_toArray, List.set_cons_zero, List.set_cons_succ]
                          refine wpAnyH_takeD (i := 1) (some 78) (v := ?v1_33) rfl rfl (by kernel_rfl) (by kernel_rfl) (by kernel_rfl) (fun _ _ _ h => h) (by rfl) ?y1_33 (by assumption) ?r1_33
                          case y1_33 => (intro w hSw; (try dsimp only at hSw); first | (go_simp; done) | (go_simp; with_reducible rfl))
                          try simp only [Act.put, List.setIfInBounds_toArray, List.set_cons_zero, List.set_cons_succ]
                          refine wpAnyH_takeD (i := 2) (some 79) (v := ?v2_34) rfl rfl (by kernel_rfl) (by kernel_rfl) (by kernel_rfl) (fun _ _ _ h => h) (by rfl) ?y2_34 (by assumption) ?r2_34
                          case y2_34 => (intro w hSw; (try dsimp only at hSw); first | (go_simp; done) | (go_simp; with_reducible rfl))
                          try simp only [Act.put, List.setIfInBounds_toArray, List.set_cons_zero, List.set_cons_succ]
                          refine wpAnyH_takeD (i := 3) (some 80) (v := ?v3_35) rfl rfl (by kernel_rfl) (by kernel_rfl) (by kernel_rfl) (fun _ _ _ h => h) (by rfl) ?y3_35 (by assumption) ?r3_35
                          case y3_35 => (intro w hSw; (try dsimp only at hSw); first | (go_simp; done) | (go_simp; with_reducible rfl))
                          try simp only [Act.put, List.setIfInBounds_toArray, List.set_cons_zero, List.set_cons_succ]
                          refine wpAnyH_takeD (i := 4) (some 81) (v := ?v4_36) rfl rfl (by kernel_rfl) (by kernel_rfl) (by kernel_rfl) (fun _ _ _ h => h) (by rfl) ?y4_36 (by assumption) ?r4_36
                          case y4_36 => (intro w hSw; (try dsimp only at hSw); first | (go_simp; done) | (go_simp; with_reducible rfl))
                          try simp only [Act.put, List.setIfInBounds_toArray, List.set_cons_zero, List.set_cons_succ]
                          refine wpAnyH_takeD (i := 5) (some 82) (v := ?v5_37) rfl rfl (by kernel_rfl) (by kernel_rfl) (by kernel_rfl) (fun _ _ _ h => h) (by rfl) ?y5_37 (by assumption) ?r5_37
                          case y5_37 => (intro w hSw; (try dsimp only at hSw); first | (go_simp; done) | (go_simp; with_reducible rfl))
                          try simp only [Act.put, List.setIfInBounds_toArray, List.set_cons_zero, List.set_cons_succ]
                          refine wpAnyH_takeD (i := 6) (some 83) (v := ?v6_38) rfl rfl (by kernel_rfl) (by kernel_rfl) (by kernel_rfl) (fun _ _ _ h => h) (by rfl) ?y6_38 (by assumption) ?r6_38
                          case y6_38 => (intro w hSw; (try dsimp only at hSw); first | (go_simp; done) | (go_simp; with_reducible rfl))
                          try simp only [Act.put, List.setIfInBounds_toArray, List.set_cons_zero, List.set_cons_succ]
                          refine wpAnyH_takeD (i := 7) (some 84) (v := ?v7_39) rfl rfl (by kernel_rfl) (by kernel_rfl) (by kernel_rfl) (fun _ _ _ h => h) (by rfl) ?y7_39 (by assumption) ?r7_39
                          case y7_39 => (intro w hSw; (try dsimp only at hSw); first | (go_simp; done) | (go_simp; with_reducible rfl))
                          try simp only [Act.put, List.setIfInBounds_toArray, List.set_cons_zero, List.set_cons_succ]
                          refine wpAnyH_takeD (i := 8) (some 85) (v := ?v8_40) rfl rfl (by kernel_rfl) (by kernel_rfl) (by kernel_rfl) (fun _ _ _ h => h) (by rfl) ?y8_40 (by assumption) ?r8_40
                          case y8_40 => (intro w hSw; (try dsimp only at hSw); first | (go_simp; done) | (go_simp; with_reducible rfl))
                          try simp only [Act.put, List.setIfInBounds_toArray, List.set_cons_zero, List.set_cons_succ]
                          refine wpAnyH_ready (rs := [9]) (by kernel_rfl) (by simp) ?_
                          refine AllReadyH.cons rfl (fun K hK => ?_) ?_
                          · go_simp
                            go_at_call 17
                            refine (in_calls HDD.out (Reads.of_sl mem0) x1).mono ?_
                            rintro z w31 ⟨rfl, hw31⟩
                            subst hw31
                            rw [decide_eq_true Q1.out]
                            refine hK.out _ _ ?_ (fun hHeld => ?_)
                            · exact HS1.out
                            clear hK K
                            try simp only [Act.put, List.setIfInBounds_toArray, List.set_cons_zero, List.set_cons_succ]
                            refine wpAnyH_takeD (i := 10) (some 87) (v := ?v10_41) rfl rfl (by kernel_rfl) (by kernel_rfl) (by kernel_rfl) (fun _ _ _ h => h) (by rfl) ?y10_41 (by assumption) ?r10_41
                            case y10_41 => (intro w hSw; (try dsimp only at hSw); first | (go_simp; done) | (go_simp; with_reducible rfl))
                            try simp only [Act.put, List.setIfInBounds_toArray, List.set_cons_zero, List.set_cons_succ]
                            refine wpAnyH_takeD (i := 11) (some 88) (v := ?v11_42) rfl rfl (by kernel_rfl) (by kernel_rfl) (by kernel_rfl) (fun _ _ _ h => h) (by rfl) ?y11_42 (by assumption) ?r11_42
                            case y11_42 => (intro w hSw; (try dsimp only at hSw); first | (go_simp; done) | (go_simp; with_reducible rfl))
                            try simp only [Act.put, List.setIfInBounds_toArray, List.set_cons_zero, List.set_cons_succ]
                            refine wpAnyH_takeD (i := 12) (some 89) (v := ?v12_43) rfl rfl (by kernel_rfl) (by kernel_rfl) (by kernel_rfl) (fun _ _ _ h => h) (by rfl) ?y12_43 (by assumption) ?r12_43
                            case y12_43 => (intro w hSw; (try dsimp only at hSw); first | (go_simp; done) | (go_simp; with_reducible rfl))
                            try simp only [Act.put, List.setIfInBounds_toArray, List.set_cons_zero, List.set_cons_succ]
                            refine wpAnyH_takeD (i := 13) (some 90) (v := ?v13_44) rfl rfl (by kernel_rfl) (by kernel_rfl) (by kernel_rfl) (fun _ _ _ h => h) (by rfl) ?y13_44 (by assumption) ?r13_44
                            case y13_44 => (intro w hSw; (try dsimp only at hSw); first | (go_simp; done) | (go_simp; with_reducible rfl))
                            try simp only [Act.put, List.setIfInBounds_toArray, List.set_cons_zero, List.set_cons_succ]
                            refine wpAnyH_takeD (i := 14) (some 91) (v := ?v14_45) rfl rfl (by kernel_rfl) (by kernel_rfl) (by kernel_rfl) (fun _ _ _ h => h) (by rfl) ?y14_45 (by assumption) ?r14_45
                            case y14_45 => (intro w hSw; (try dsimp only at hSw); first | (go_simp; done) | (go_simp; with_reducible rfl))
                            try simp only [Act.put, List.setIfInBounds_toArray, List.set_cons_zero, List.set_cons_succ]
                            refine wpAnyH_takeD (i := 15) (some 92) (v := ?v15_46) rfl rfl (by kernel_rfl) (by kernel_rfl) (by kernel_rfl) (fun _ _ _ h => h) (by rfl) ?y15_46 (by assumption) ?r15_46
                            case y15_46 => (intro w hSw; (try dsimp only at hSw); first | (go_simp; done) | (go_simp; with_reducible rfl))
                            try simp only [Act.put, List.setIfInBounds_toArray, List.set_cons_zero, List.set_cons_succ]
                            refine wpAnyH_takeD (i := 16) (some 93) (v := ?v16_47) rfl rfl (by kernel_rfl) (by kernel_rfl) (by kernel_rfl) (fun _ _ _ h => h) (by rfl) ?y16_47 (by assumption) ?r16_47
                            case y16_47 => (intro w hSw; (try dsimp only at hSw); first | (go_simp; done) | (go_simp; with_reducible rfl))
                            try simp only [Act.put, List.setIfInBounds_toArray, List.set_cons_zero, List.set_cons_succ]
                            refine wpAnyH_takeD (i := 17) (some 94) (v := ?v17_48) rfl rfl (by kernel_rfl) (by kernel_rfl) (by kernel_rfl) (fun _ _ _ h => h) (by rfl) ?y17_48 (by assumption) ?r17_48
                            case y17_48 => (intro w hSw; (try dsimp only at hSw); first | (go_simp; done) | (go_simp; with_reducible rfl))
                            try simp only [Act.put, List.setIfInBounds_toArray, List.set_cons_zero, List.set_cons_succ]
                            refine wpAnyH_takeD (i := 18) (some 95) (v := ?v18_49) rfl rfl (by kernel_rfl) (by kernel_rfl) (by kernel_rfl) (fun _ _ _ h => h) (by rfl) ?y18_49 (by assumption) ?r18_49
                            case y18_49 => (intro w hSw; (try dsimp only at hSw); first | (go_simp; done) | (go_simp; with_reducible rfl))
                            try simp only [Act.put, List.setIfInBounds_toArray, List.set_cons_zero, List.set_cons_succ]
                            refine wpAnyH_takeD (i := 19) (some 96) (v := ?v19_50) rfl rfl (by kernel_rfl) (by kernel_rfl) (by kernel_rfl) (fun _ _ _ h => h) (by rfl) ?y19_50 (by assumption) ?r19_50
                            case y19_50 => (intro w hSw; (try dsimp only at hSw); first | (go_simp; done) | (go_simp; with_reducible rfl))
                            try simp only [Act.put, List.setIfInBounds_toArray, List.set_cons_zero, List.set_cons_succ]
                            refine wpAnyH_ready (rs := [20]) (by kernel_rfl) (by simp) ?_
                            refine AllReadyH.cons rfl (fun K hK => ?_) ?_
                            · go_simp
                              go_at_call 17
                              refine (in_calls HDD.out (Reads.of_sl mem0) x2).mono ?_
                              rintro z w31 ⟨rfl, hw31⟩
                              subst hw31
                              rw [decide_eq_false Q2.out]
                              refine hK.out _ _ ?_ (fun hHeld => ?_)
                              · exact HS1.out
                              clear hK K
                              try simp only [Act.put, List.setIfInBounds_toArray, List.set_cons_zero, List.set_cons_succ]
                              refine wpAnyH_takeD (i := 21) (some 98) (v := ?v21_51) rfl rfl (by kernel_rfl) (by kernel_rfl) (by kernel_rfl) (fun _ _ _ h => h) (by rfl) ?y21_51 (by assumption) ?r21_51
                              case y21_51 => (intro w hSw; (try dsimp only at hSw); first | (go_simp; done) | (go_simp; with_reducible rfl))
                              try simp only [Act.put, List.setIfInBounds_toArray, List.set_cons_zero, List.set_cons_succ]
                              refine wpAnyH_takeD (i := 22) (some 99) (v := ?v22_52) rfl rfl (by kernel_rfl) (by kernel_rfl) (by kernel_rfl) (fun _ _ _ h => h) (by rfl) ?y22_52 (by assumption) ?r22_52
                              case y22_52 => (intro w hSw; (try dsimp only at hSw); first | (go_simp; done) | (go_simp; with_reducible rfl))
                              try simp only [Act.put, List.setIfInBounds_toArray, List.set_cons_zero, List.set_cons_succ]
                              refine wpAnyH_takeD (i := 23) (some 100) (v := ?v23_53) rfl rfl (by kernel_rfl) (by kernel_rfl) (by kernel_rfl) (fun _ _ _ h => h) (by rfl) ?y23_53 (by assumption) ?r23_53
                              case y23_53 => (intro w hSw; (try dsimp only at hSw); first | (go_simp; done) | (go_simp; with_reducible rfl))
                              try simp only [Act.put, List.setIfInBounds_toArray, List.set_cons_zero, List.set_cons_succ]
                              refine wpAnyH_takeD (i := 24) (some 101) (v := ?v24_54) rfl rfl (by kernel_rfl) (by kernel_rfl) (by kernel_rfl) (fun _ _ _ h => h) (by rfl) ?y24_54 (by assumption) ?r24_54
                              case y24_54 => (intro w hSw; (try dsimp only at hSw); first | (go_simp; done) | (go_simp; with_reducible rfl))
                              try simp only [Act.put, List.setIfInBounds_toArray, List.set_cons_zero, List.set_cons_succ]
                              refine wpAnyH_takeD (i := 25) (some 102) (v := ?v25_55) rfl rfl (by kernel_rfl) (by kernel_rfl) (by kernel_rfl) (fun _ _ _ h => h) (by rfl) ?y25_55 (by assumption) ?r25_55
                              case y25_55 => (intro w hSw; (try dsimp only at hSw); first | (go_simp; done) | (go_simp; with_reducible rfl))
                              try simp only [Act.put, List.setIfInBounds_toArray, List.set_cons_zero, List.set_cons_succ]
                              refine wpAnyH_takeD (i := 26) (some 103) (v := ?v26_56) rfl rfl (by kernel_rfl) (by kernel_rfl) (by kernel_rfl) (fun _ _ _ h => h) (by rfl) ?y26_56 (by assumption) ?r26_56
                              case y26_56 => (intro w hSw; (try dsimp only at hSw); first | (go_simp; done) | (go_simp; with_reducible rfl))
                              try simp only [Act.put, List.setIfInBounds_toArray, List.set_cons_zero, List.set_cons_succ]
                              refine wpAnyH_takeD (i := 27) (some 104) (v := ?v27_57) rfl rfl (by kernel_rfl) (by kernel_rfl) (by kernel_rfl) (fun _ _ _ h => h) (by rfl) ?y27_57 (by assumption) ?r27_57
                              case y27_57 => (intro w hSw; (try dsimp only at hSw); first | (go_simp; done) | (go_simp; with_reducible rfl))
                              try simp only [Act.put, List.setIfInBounds_toArray, List.set_cons_zero, List.set_cons_succ]
                              refine wpAnyH_takeD (i := 28) (some 105) (v := ?v28_58) rfl rfl (by kernel_rfl) (by kernel_rfl) (by kernel_rfl) (fun _ _ _ h => h) (by rfl) ?y28_58 (by assumption) ?r28_58
                              case y28_58 => (intro w hSw; (try dsimp only at hSw); first | (go_simp; done) | (go_simp; with_reducible rfl))
                              try simp only [Act.put, List.setIfInBounds_toArray, List.set_cons_zero, List.set_cons_succ]
                              refine wpAnyH_takeD (i := 29) (some 106) (v := ?v29_59) rfl rfl (by kernel_rfl) (by kernel_rfl) (by kernel_rfl) (fun _ _ _ h => h) (by rfl) ?y29_59 (by assumption) ?r29_59
                              case y29_59 => (intro w hSw; (try dsimp only at hSw); first | (go_simp; done) | (go_simp; with_reducible rfl))
                              try simp only [Act.put, List.setIfInBounds_toArray, List.set_cons_zero, List.set_cons_succ]
                              refine wpAnyH_ready (rs := [30]) (by kernel_rfl) (by simp) ?_
                              refine AllReadyH.cons rfl (fun K hK => ?_) ?_
                              · go_simp
                                go_at_call 17
                                refine (in_calls HDD.out (Reads.of_rows mem3) x2).mono ?_
                                rintro z w31 ⟨rfl, hw31⟩
                                subst hw31
                                rw [decide_eq_true Q3.out]
                                refine hK.out _ _ ?_ (fun hHeld => ?_)
                                · exact HS1.out
                                clear hK K
                                try simp only [Act.put, List.setIfInBounds_toArray, List.set_cons_zero, List.set_cons_succ]
                                refine wpAnyH_takeD (i := 31) (some 108) (v := ?v31_60) rfl rfl (by kernel_rfl) (by kernel_rfl) (by kernel_rfl) (fun _ _ _ h => h) (by rfl) ?y31_60 (by assumption) ?r31_60
                                case y31_60 => (intro w hSw; (try dsimp only at hSw); first | (go_simp; done) | (go_simp; with_reducible rfl))
                                try simp only [Act.put, List.setIfInBounds_toArray, List.set_cons_zero, List.set_cons_succ]
                                refine wpAnyH_takeD (i := 32) (some 109) (v := ?v32_61) rfl rfl (by kernel_rfl) (by kernel_rfl) (by kernel_rfl) (fun _ _ _ h => h) (by rfl) ?y32_61 (by assumption) ?r32_61
                                case y32_61 => (intro w hSw; (try dsimp only at hSw); first | (go_simp; done) | (go_simp; with_reducible rfl))
                                try simp only [Act.put, List.setIfInBounds_toArray, List.set_cons_zero, List.set_cons_succ]
                                refine wpAnyH_done (by kernel_rfl) ?_ _
                                go_wp2_with fail
                                go_roundw
                                case rel => exact ⟨k2 + 1, r, by omega, by go_num, rfl, by rw [HRT.out, HB.out, HR.out]; simp, HDD.out⟩
                                case measure => exact meas_step hlte
                              exact AllReadyH.nil
                            exact AllReadyH.nil
                          exact AllReadyH.nil
                        · have HB : Hid (okD done P e = false) := hide (by unfold okD; rw [HX1.out, HX2.out, decide_eq_true q1, decide_eq_false q2, decide_eq_false q3]; rfl)
                          have Q1 := hide q1
                          have Q2 := hide q2
                          have Q3 := hide q3
                          clear q1 q2 q3
                          go_wp2_with fail
                          refine wp_region_held_drew (S := fun w' => w'.cell? ⟨g9, o9 + i, none⟩ = some (.slice (some ⟨gP, oP, none⟩) P.length cP) ∧ w'.cell? ⟨ge, oe + k2 * 2, none⟩ = some (.string ⟨x1.toArray⟩) ∧ w'.cell? ⟨ge, oe + k2 * 2 + 1, none⟩ = some (.string ⟨x2.toArray⟩)) (by kernel_rfl) ?_ (fun hHeld => ?_)
                          · exact HS0.out
                          refine wpAnyH_takeD (i := 0) (some 77) (v := ?v0_62) rfl rfl (by kernel_rfl) (by kernel_rfl) (by kernel_rfl) (fun _ _ _ h => h) (by rfl) ?y0_62 (by assumption) ?r0_62
                          case y0_62 => (intro w hSw; (try dsimp only at hSw); first | (go_simp; done) | (go_simp; with_reducible rfl))
                          try simp only [Act.put, List.setIfInBounds_toArray, List.set_cons_zero, List.set_cons_succ]
                          refine wpAnyH_takeD (i := 1) (some 78) (v := ?v1_63) rfl rfl (by kernel_rfl) (by kernel_rfl) (by kernel_rfl) (fun _ _ _ h => h) (by rfl) ?y1_63 (by assumption) ?r1_63
                          case y1_63 => (intro w hSw; (try dsimp only at hSw); first | (go_simp; done) | (go_simp; with_reducible rfl))
                          try simp only [Act.put, List.setIfInBounds_toArray, List.set_cons_zero, List.set_cons_succ]
                          refine wpAnyH_takeD (i := 2) (some 79) (v := ?v2_64) rfl rfl (by kernel_rfl) (by kernel_rfl) (by kernel_rfl) (fun _ _ _ h => h) (by rfl) ?y2_64 (by assumption) ?r2_64
                          case y2_64 => (intro w hSw; (try dsimp only at hSw); first | (go_simp; done) | (go_simp; with_reducible rfl))
                          try simp only [Act.put, List.setIfInBounds_toArray, List.set_cons_zero, List.set_cons_succ]
                          refine wpAnyH_takeD (i := 3) (some 80) (v := ?v3_65) rfl rfl (by kernel_rfl) (by kernel_rfl) (by kernel_rfl) (fun _ _ _ h => h) (by rfl) ?y3_65 (by assumption) ?r3_65
                          case y3_65 => (intro w hSw; (try dsimp only at hSw); first | (go_simp; done) | (go_simp; with_reducible rfl))
                          try simp only [Act.put, List.setIfInBounds_toArray, List.set_cons_zero, List.set_cons_succ]
                          refine wpAnyH_takeD (i := 4) (some 81) (v := ?v4_66) rfl rfl (by kernel_rfl) (by kernel_rfl) (by kernel_rfl) (fun _ _ _ h => h) (by rfl) ?y4_66 (by assumption) ?r4_66
                          case y4_66 => (intro w hSw; (try dsimp only at hSw); first | (go_simp; done) | (go_simp; with_reducible rfl))
                          try simp only [Act.put, List.setIfInBounds_toArray, List.set_cons_zero, List.set_cons_succ]
                          refine wpAnyH_takeD (i := 5) (some 82) (v := ?v5_67) rfl rfl (by kernel_rfl) (by kernel_rfl) (by kernel_rfl) (fun _ _ _ h => h) (by rfl) ?y5_67 (by assumption) ?r5_67
                          case y5_67 => (intro w hSw; (try dsimp only at hSw); first | (go_simp; done) | (go_simp; with_reducible rfl))
                          try simp only [Act.put, List.setIfInBounds_toArray, List.set_cons_zero, List.set_cons_succ]
                          refine wpAnyH_takeD (i := 6) (some 83) (v := ?v6_68) rfl rfl (by kernel_rfl) (by kernel_rfl) (by kernel_rfl) (fun _ _ _ h => h) (by rfl) ?y6_68 (by assumption) ?r6_68
                          case y6_68 => (intro w hSw; (try dsimp only at hSw); first | (go_simp; done) | (go_simp; with_reducible rfl))
                          try simp only [Act.put, List.setIfInBounds_toArray, List.set_cons_zero, List.set_cons_succ]
                          refine wpAnyH_takeD (i := 7) (some 84) (v := ?v7_69) rfl rfl (by kernel_rfl) (by kernel_rfl) (by kernel_rfl) (fun _ _ _ h => h) (by rfl) ?y7_69 (by assumption) ?r7_69
                          case y7_69 => (intro w hSw; (try dsimp only at hSw); first | (go_simp; done) | (go_simp; with_reducible rfl))
                          try simp only [Act.put, List.setIfInBounds_toArray, List.set_cons_zero, List.set_cons_succ]
                          refine wpAnyH_takeD (i := 8) (some 85) (v := ?v8_70) rfl rfl (by kernel_rfl) (by kernel_rfl) (by kernel_rfl) (fun _ _ _ h => h) (by rfl) ?y8_70 (by assumption) ?r8_70
                          case y8_70 => (intro w hSw; (try dsimp only at hSw); first | (go_simp; done) | (go_simp; with_reducible rfl))
                          try simp only [Act.put, List.setIfInBounds_toArray, List.set_cons_zero, List.set_cons_succ]
                          refine wpAnyH_ready (rs := [9]) (by kernel_rfl) (by simp) ?_
                          refine AllReadyH.cons rfl (fun K hK => ?_) ?_
                          · go_simp
                            go_at_call 17
                            refine (in_calls HDD.out (Reads.of_sl mem0) x1).mono ?_
                            rintro z w31 ⟨rfl, hw31⟩
                            subst hw31
                            rw [decide_eq_true Q1.out]
                            refine hK.out _ _ ?_ (fun hHeld => ?_)
                            · exact HS1.out
                            clear hK K
                            try simp only [Act.put, List.setIfInBounds_toArray, List.set_cons_zero, List.set_cons_succ]
                            refine wpAnyH_takeD (i := 10) (some 87) (v := ?v10_71) rfl rfl (by kernel_rfl) (by kernel_rfl) (by kernel_rfl) (fun _ _ _ h => h) (by rfl) ?y10_71 (by assumption) ?r10_71
                            case y10_71 => (intro w hSw; (try dsimp only at hSw); first | (go_simp; done) | (go_simp; with_reducible rfl))
                            try simp only [Act.put, List.setIfInBounds_toArray, List.set_cons_zero, List.set_cons_succ]
                            refine wpAnyH_takeD (i := 11) (some 88) (v := ?v11_72) rfl rfl (by kernel_rfl) (by kernel_rfl) (by kernel_rfl) (fun _ _ _ h => h) (by rfl) ?y11_72 (by assumption) ?r11_72
                            case y11_72 => (intro w hSw; (try dsimp only at hSw); first | (go_simp; done) | (go_simp; with_reducible rfl))
                            try simp only [Act.put, List.setIfInBounds_toArray, List.set_cons_zero, List.set_cons_succ]
                            refine wpAnyH_takeD (i := 12) (some 89) (v := ?v12_73) rfl rfl (by kernel_rfl) (by kernel_rfl) (by kernel_rfl) (fun _ _ _ h => h) (by rfl) ?y12_73 (by assumption) ?r12_73
                            case y12_73 => (intro w hSw; (try dsimp only at hSw); first | (go_simp; done) | (go_simp; with_reducible rfl))
                            try simp only [Act.put, List.setIfInBounds_toArray, List.set_cons_zero, List.set_cons_succ]
                            refine wpAnyH_takeD (i := 13) (some 90) (v := ?v13_74) rfl rfl (by kernel_rfl) (by kernel_rfl) (by kernel_rfl) (fun _ _ _ h => h) (by rfl) ?y13_74 (by assumption) ?r13_74
                            case y13_74 => (intro w hSw; (try dsimp only at hSw); first | (go_simp; done) | (go_simp; with_reducible rfl))
                            try simp only [Act.put, List.setIfInBounds_toArray, List.set_cons_zero, List.set_cons_succ]
                            refine wpAnyH_takeD (i := 14) (some 91) (v := ?v14_75) rfl rfl (by kernel_rfl) (by kernel_rfl) (by kernel_rfl) (fun _ _ _ h => h) (by rfl) ?y14_75 (by assumption) ?r14_75
                            case y14_75 => (intro w hSw; (try dsimp only at hSw); first | (go_simp; done) | (go_simp; with_reducible rfl))
                            try simp only [Act.put, List.setIfInBounds_toArray, List.set_cons_zero, List.set_cons_succ]
                            refine wpAnyH_takeD (i := 15) (some 92) (v := ?v15_76) rfl rfl (by kernel_rfl) (by kernel_rfl) (by kernel_rfl) (fun _ _ _ h => h) (by rfl) ?y15_76 (by assumption) ?r15_76
                            case y15_76 => (intro w hSw; (try dsimp only at hSw); first | (go_simp; done) | (go_simp; with_reducible rfl))
                            try simp only [Act.put, List.setIfInBounds_toArray, List.set_cons_zero, List.set_cons_succ]
                            refine wpAnyH_takeD (i := 16) (some 93) (v := ?v16_77) rfl rfl (by kernel_rfl) (by kernel_rfl) (by kernel_rfl) (fun _ _ _ h => h) (by rfl) ?y16_77 (by assumption) ?r16_77
                            case y16_77 => (intro w hSw; (try dsimp only at hSw); first | (go_simp; done) | (go_simp; with_reducible rfl))
                            try simp only [Act.put, List.setIfInBounds_toArray, List.set_cons_zero, List.set_cons_succ]
                            refine wpAnyH_takeD (i := 17) (some 94) (v := ?v17_78) rfl rfl (by kernel_rfl) (by kernel_rfl) (by kernel_rfl) (fun _ _ _ h => h) (by rfl) ?y17_78 (by assumption) ?r17_78
                            case y17_78 => (intro w hSw; (try dsimp only at hSw); first | (go_simp; done) | (go_simp; with_reducible rfl))
                            try simp only [Act.put, List.setIfInBounds_toArray, List.set_cons_zero, List.set_cons_succ]
                            refine wpAnyH_takeD (i := 18) (some 95) (v := ?v18_79) rfl rfl (by kernel_rfl) (by kernel_rfl) (by kernel_rfl) (fun _ _ _ h => h) (by rfl) ?y18_79 (by assumption) ?r18_79
                            case y18_79 => (intro w hSw; (try dsimp only at hSw); first | (go_simp; done) | (go_simp; with_reducible rfl))
                            try simp only [Act.put, List.setIfInBounds_toArray, List.set_cons_zero, List.set_cons_succ]
                            refine wpAnyH_takeD (i := 19) (some 96) (v := ?v19_80) rfl rfl (by kernel_rfl) (by kernel_rfl) (by kernel_rfl) (fun _ _ _ h => h) (by rfl) ?y19_80 (by assumption) ?r19_80
                            case y19_80 => (intro w hSw; (try dsimp only at hSw); first | (go_simp; done) | (go_simp; with_reducible rfl))
                            try simp only [Act.put, List.setIfInBounds_toArray, List.set_cons_zero, List.set_cons_succ]
                            refine wpAnyH_ready (rs := [20]) (by kernel_rfl) (by simp) ?_
                            refine AllReadyH.cons rfl (fun K hK => ?_) ?_
                            · go_simp
                              go_at_call 17
                              refine (in_calls HDD.out (Reads.of_sl mem0) x2).mono ?_
                              rintro z w31 ⟨rfl, hw31⟩
                              subst hw31
                              rw [decide_eq_false Q2.out]
                              refine hK.out _ _ ?_ (fun hHeld => ?_)
                              · exact HS1.out
                              clear hK K
                              try simp only [Act.put, List.setIfInBounds_toArray, List.set_cons_zero, List.set_cons_succ]
                              refine wpAnyH_takeD (i := 21) (some 98) (v := ?v21_81) rfl rfl (by kernel_rfl) (by kernel_rfl) (by kernel_rfl) (fun _ _ _ h => h) (by rfl) ?y21_81 (by assumption) ?r21_81
                              case y21_81 => (intro w hSw; (try dsimp only at hSw); first | (go_simp; done) | (go_simp; with_reducible rfl))
                              try simp only [Act.put, List.setIfInBounds_toArray, List.set_cons_zero, List.set_cons_succ]
                              refine wpAnyH_takeD (i := 22) (some 99) (v := ?v22_82) rfl rfl (by kernel_rfl) (by kernel_rfl) (by kernel_rfl) (fun _ _ _ h => h) (by rfl) ?y22_82 (by assumption) ?r22_82
                              case y22_82 => (intro w hSw; (try dsimp only at hSw); first | (go_simp; done) | (go_simp; with_reducible rfl))
                              try simp only [Act.put, List.setIfInBounds_toArray, List.set_cons_zero, List.set_cons_succ]
                              refine wpAnyH_takeD (i := 23) (some 100) (v := ?v23_83) rfl rfl (by kernel_rfl) (by kernel_rfl) (by kernel_rfl) (fun _ _ _ h => h) (by rfl) ?y23_83 (by assumption) ?r23_83
                              case y23_83 => (intro w hSw; (try dsimp only at hSw); first | (go_simp; done) | (go_simp; with_reducible rfl))
                              try simp only [Act.put, List.setIfInBounds_toArray, List.set_cons_zero, List.set_cons_succ]
                              refine wpAnyH_takeD (i := 24) (some 101) (v := ?v24_84) rfl rfl (by kernel_rfl) (by kernel_rfl) (by kernel_rfl) (fun _ _ _ h => h) (by rfl) ?y24_84 (by assumption) ?r24_84
                              case y24_84 => (intro w hSw; (try dsimp only at hSw); first | (go_simp; done) | (go_simp; with_reducible rfl))
                              try simp only [Act.put, List.setIfInBounds_toArray, List.set_cons_zero, List.set_cons_succ]
                              refine wpAnyH_takeD (i := 25) (some 102) (v := ?v25_85) rfl rfl (by kernel_rfl) (by kernel_rfl) (by kernel_rfl) (fun _ _ _ h => h) (by rfl) ?y25_85 (by assumption) ?r25_85
                              case y25_85 => (intro w hSw; (try dsimp only at hSw); first | (go_simp; done) | (go_simp; with_reducible rfl))
                              try simp only [Act.put, List.setIfInBounds_toArray, List.set_cons_zero, List.set_cons_succ]
                              refine wpAnyH_takeD (i := 26) (some 103) (v := ?v26_86) rfl rfl (by kernel_rfl) (by kernel_rfl) (by kernel_rfl) (fun _ _ _ h => h) (by rfl) ?y26_86 (by assumption) ?r26_86
                              case y26_86 => (intro w hSw; (try dsimp only at hSw); first | (go_simp; done) | (go_simp; with_reducible rfl))
                              try simp only [Act.put, List.setIfInBounds_toArray, List.set_cons_zero, List.set_cons_succ]
                              refine wpAnyH_takeD (i := 27) (some 104) (v := ?v27_87) rfl rfl (by kernel_rfl) (by kernel_rfl) (by kernel_rfl) (fun _ _ _ h => h) (by rfl) ?y27_87 (by assumption) ?r27_87
                              case y27_87 => (intro w hSw; (try dsimp only at hSw); first | (go_simp; done) | (go_simp; with_reducible rfl))
                              try simp only [Act.put, List.setIfInBounds_toArray, List.set_cons_zero, List.set_cons_succ]
                              refine wpAnyH_takeD (i := 28) (some 105) (v := ?v28_88) rfl rfl (by kernel_rfl) (by kernel_rfl) (by kernel_rfl) (fun _ _ _ h => h) (by rfl) ?y28_88 (by assumption) ?r28_88
                              case y28_88 => (intro w hSw; (try dsimp only at hSw); first | (go_simp; done) | (go_simp; with_reducible rfl))
                              try simp only [Act.put, List.setIfInBounds_toArray, List.set_cons_zero, List.set_cons_succ]
                              refine wpAnyH_takeD (i := 29) (some 106) (v := ?v29_89) rfl rfl (by kernel_rfl) (by kernel_rfl) (by kernel_rfl) (fun _ _ _ h => h) (by rfl) ?y29_89 (by assumption) ?r29_89
                              case y29_89 => (intro w hSw; (try dsimp only at hSw); first | (go_simp; done) | (go_simp; with_reducible rfl))
                              try simp only [Act.put, List.setIfInBounds_toArray, List.set_cons_zero, List.set_cons_succ]
                              refine wpAnyH_ready (rs := [30]) (by kernel_rfl) (by simp) ?_
                              refine AllReadyH.cons rfl (fun K hK => ?_) ?_
                              · go_simp
                                go_at_call 17
                                refine (in_calls HDD.out (Reads.of_rows mem3) x2).mono ?_
                                rintro z w31 ⟨rfl, hw31⟩
                                subst hw31
                                rw [decide_eq_false Q3.out]
                                refine hK.out _ _ ?_ (fun hHeld => ?_)
                                · exact HS1.out
                                clear hK K
                                try simp only [Act.put, List.setIfInBounds_toArray, List.set_cons_zero, List.set_cons_succ]
                                refine wpAnyH_takeD (i := 31) (some 108) (v := ?v31_90) rfl rfl (by kernel_rfl) (by kernel_rfl) (by kernel_rfl) (fun _ _ _ h => h) (by rfl) ?y31_90 (by assumption) ?r31_90
                                case y31_90 => (intro w hSw; (try dsimp only at hSw); first | (go_simp; done) | (go_simp; with_reducible rfl))
                                try simp only [Act.put, List.setIfInBounds_toArray, List.set_cons_zero, List.set_cons_succ]
                                refine wpAnyH_takeD (i := 32) (some 109) (v := ?v32_91) rfl rfl (by kernel_rfl) (by kernel_rfl) (by kernel_rfl) (fun _ _ _ h => h) (by rfl) ?y32_91 (by assumption) ?r32_91
                                case y32_91 => (intro w hSw; (try dsimp only at hSw); first | (go_simp; done) | (go_simp; with_reducible rfl))
                                try simp only [Act.put, List.setIfInBounds_toArray, List.set_cons_zero, List.set_cons_succ]
                                refine wpAnyH_done (by kernel_rfl) ?_ _
                                go_wp2_with fail
                                go_roundw
                                case rel => exact ⟨k2 + 1, false, by omega, by go_num, rfl, by rw [HRT.out, HB.out]; simp, HDD.out⟩
                                case measure => exact meas_step hlte
                              exact AllReadyH.nil
                            exact AllReadyH.nil
                          exact AllReadyH.nil
                    · have HB : Hid (okD done P e = true) := hide (by unfold okD; rw [HX1.out, HX2.out, decide_eq_false q1]; rfl)
                      have Q1 := hide q1
                      clear q1
                      go_wp2_with fail
                      refine wp_region_held_drew (S := fun w' => w'.cell? ⟨g9, o9 + i, none⟩ = some (.slice (some ⟨gP, oP, none⟩) P.length cP) ∧ w'.cell? ⟨ge, oe + k2 * 2, none⟩ = some (.string ⟨x1.toArray⟩) ∧ w'.cell? ⟨ge, oe + k2 * 2 + 1, none⟩ = some (.string ⟨x2.toArray⟩)) (by kernel_rfl) ?_ (fun hHeld => ?_)
                      · exact HS0.out
                      refine wpAnyH_takeD (i := 0) (some 77) (v := ?v0_92) rfl rfl (by kernel_rfl) (by kernel_rfl) (by kernel_rfl) (fun _ _ _ h => h) (by rfl) ?y0_92 (by assumption) ?r0_92
                      case y0_92 => (intro w hSw; (try dsimp only at hSw); first | (go_simp; done) | (go_simp; with_reducible rfl))
                      try simp only [Act.put, List.setIfInBounds_toArray, List.set_cons_zero, List.set_cons_succ]
                      refine wpAnyH_takeD (i := 1) (some 78) (v := ?v1_93) rfl rfl (by kernel_rfl) (by kernel_rfl) (by kernel_rfl) (fun _ _ _ h => h) (by rfl) ?y1_93 (by assumption) ?r1_93
                      case y1_93 => (intro w hSw; (try dsimp only at hSw); first | (go_simp; done) | (go_simp; with_reducible rfl))
                      try simp only [Act.put, List.setIfInBounds_toArray, List.set_cons_zero, List.set_cons_succ]
                      refine wpAnyH_takeD (i := 2) (some 79) (v := ?v2_94) rfl rfl (by kernel_rfl) (by kernel_rfl) (by kernel_rfl) (fun _ _ _ h => h) (by rfl) ?y2_94 (by assumption) ?r2_94
                      case y2_94 => (intro w hSw; (try dsimp only at hSw); first | (go_simp; done) | (go_simp; with_reducible rfl))
                      try simp only [Act.put, List.setIfInBounds_toArray, List.set_cons_zero, List.set_cons_succ]
                      refine wpAnyH_takeD (i := 3) (some 80) (v := ?v3_95) rfl rfl (by kernel_rfl) (by kernel_rfl) (by kernel_rfl) (fun _ _ _ h => h) (by rfl) ?y3_95 (by assumption) ?r3_95
                      case y3_95 => (intro w hSw; (try dsimp only at hSw); first | (go_simp; done) | (go_simp; with_reducible rfl))
                      try simp only [Act.put, List.setIfInBounds_toArray, List.set_cons_zero, List.set_cons_succ]
                      refine wpAnyH_takeD (i := 4) (some 81) (v := ?v4_96) rfl rfl (by kernel_rfl) (by kernel_rfl) (by kernel_rfl) (fun _ _ _ h => h) (by rfl) ?y4_96 (by assumption) ?r4_96
                      case y4_96 => (intro w hSw; (try dsimp only at hSw); first | (go_simp; done) | (go_simp; with_reducible rfl))
                      try simp only [Act.put, List.setIfInBounds_toArray, List.set_cons_zero, List.set_cons_succ]
                      refine wpAnyH_takeD (i := 5) (some 82) (v := ?v5_97) rfl rfl (by kernel_rfl) (by kernel_rfl) (by kernel_rfl) (fun _ _ _ h => h) (by rfl) ?y5_97 (by assumption) ?r5_97
                      case y5_97 => (intro w hSw; (try dsimp only at hSw); first | (go_simp; done) | (go_simp; with_reducible rfl))
                      try simp only [Act.put, List.setIfInBounds_toArray, List.set_cons_zero, List.set_cons_succ]
                      refine wpAnyH_takeD (i := 6) (some 83) (v := ?v6_98) rfl rfl (by kernel_rfl) (by kernel_rfl) (by kernel_rfl) (fun _ _ _ h => h) (by rfl) ?y6_98 (by assumption) ?r6_98
                      case y6_98 => (intro w hSw; (try dsimp only at hSw); first | (go_simp; done) | (go_simp; with_reducible rfl))
                      try simp only [Act.put, List.setIfInBounds_toArray, List.set_cons_zero, List.set_cons_succ]
                      refine wpAnyH_takeD (i := 7) (some 84) (v := ?v7_99) rfl rfl (by kernel_rfl) (by kernel_rfl) (by kernel_rfl) (fun _ _ _ h => h) (by rfl) ?y7_99 (by assumption) ?r7_99
                      case y7_99 => (intro w hSw; (try dsimp only at hSw); first | (go_simp; done) | (go_simp; with_reducible rfl))
                      try simp only [Act.put, List.setIfInBounds_toArray, List.set_cons_zero, List.set_cons_succ]
                      refine wpAnyH_takeD (i := 8) (some 85) (v := ?v8_100) rfl rfl (by kernel_rfl) (by kernel_rfl) (by kernel_rfl) (fun _ _ _ h => h) (by rfl) ?y8_100 (by assumption) ?r8_100
                      case y8_100 => (intro w hSw; (try dsimp only at hSw); first | (go_simp; done) | (go_simp; with_reducible rfl))
                      try simp only [Act.put, List.setIfInBounds_toArray, List.set_cons_zero, List.set_cons_succ]
                      refine wpAnyH_ready (rs := [9]) (by kernel_rfl) (by simp) ?_
                      refine AllReadyH.cons rfl (fun K hK => ?_) ?_
                      · go_simp
                        go_at_call 17
                        refine (in_calls HDD.out (Reads.of_sl mem0) x1).mono ?_
                        rintro z w31 ⟨rfl, hw31⟩
                        subst hw31
                        rw [decide_eq_false Q1.out]
                        refine hK.out _ _ ?_ (fun hHeld => ?_)
                        · exact HS1.out
                        clear hK K
                        try simp only [Act.put, List.setIfInBounds_toArray, List.set_cons_zero, List.set_cons_succ]
                        refine wpAnyH_takeD (i := 10) (some 87) (v := ?v10_101) rfl rfl (by kernel_rfl) (by kernel_rfl) (by kernel_rfl) (fun _ _ _ h => h) (by rfl) ?y10_101 (by assumption) ?r10_101
                        case y10_101 => (intro w hSw; (try dsimp only at hSw); first | (go_simp; done) | (go_simp; with_reducible rfl))
                        try simp only [Act.put, List.setIfInBounds_toArray, List.set_cons_zero, List.set_cons_succ]
                        refine wpAnyH_skipD (i := 11) (some 88) rfl rfl (by kernel_rfl) (by kernel_rfl) (by kernel_rfl) (fun _ _ _ h => h) (by rfl) (by assumption) ?r11_102
                        try simp only [Act.put, List.setIfInBounds_toArray, List.set_cons_zero, List.set_cons_succ]
                        refine wpAnyH_skipD (i := 12) (some 89) rfl rfl (by kernel_rfl) (by kernel_rfl) (by kernel_rfl) (fun _ _ _ h => h) (by rfl) (by assumption) ?r12_103
                        try simp only [Act.put, List.setIfInBounds_toArray, List.set_cons_zero, List.set_cons_succ]
                        refine wpAnyH_skipD (i := 13) (some 90) rfl rfl (by kernel_rfl) (by kernel_rfl) (by kernel_rfl) (fun _ _ _ h => h) (by rfl) (by assumption) ?r13_104
                        try simp only [Act.put, List.setIfInBounds_toArray, List.set_cons_zero, List.set_cons_succ]
                        refine wpAnyH_skipD (i := 14) (some 91) rfl rfl (by kernel_rfl) (by kernel_rfl) (by kernel_rfl) (fun _ _ _ h => h) (by rfl) (by assumption) ?r14_105
                        try simp only [Act.put, List.setIfInBounds_toArray, List.set_cons_zero, List.set_cons_succ]
                        refine wpAnyH_skipD (i := 15) (some 92) rfl rfl (by kernel_rfl) (by kernel_rfl) (by kernel_rfl) (fun _ _ _ h => h) (by rfl) (by assumption) ?r15_106
                        try simp only [Act.put, List.setIfInBounds_toArray, List.set_cons_zero, List.set_cons_succ]
                        refine wpAnyH_skipD (i := 16) (some 93) rfl rfl (by kernel_rfl) (by kernel_rfl) (by kernel_rfl) (fun _ _ _ h => h) (by rfl) (by assumption) ?r16_107
                        try simp only [Act.put, List.setIfInBounds_toArray, List.set_cons_zero, List.set_cons_succ]
                        refine wpAnyH_skipD (i := 17) (some 94) rfl rfl (by kernel_rfl) (by kernel_rfl) (by kernel_rfl) (fun _ _ _ h => h) (by rfl) (by assumption) ?r17_108
                        try simp only [Act.put, List.setIfInBounds_toArray, List.set_cons_zero, List.set_cons_succ]
                        refine wpAnyH_skipD (i := 18) (some 95) rfl rfl (by kernel_rfl) (by kernel_rfl) (by kernel_rfl) (fun _ _ _ h => h) (by rfl) (by assumption) ?r18_109
                        try simp only [Act.put, List.setIfInBounds_toArray, List.set_cons_zero, List.set_cons_succ]
                        refine wpAnyH_skipD (i := 19) (some 96) rfl rfl (by kernel_rfl) (by kernel_rfl) (by kernel_rfl) (fun _ _ _ h => h) (by rfl) (by assumption) ?r19_110
                        try simp only [Act.put, List.setIfInBounds_toArray, List.set_cons_zero, List.set_cons_succ]
                        refine wpAnyH_skipD (i := 20) (some 97) rfl rfl (by kernel_rfl) (by kernel_rfl) (by kernel_rfl) (fun _ _ _ h => h) (by rfl) (by assumption) ?r20_111
                        try simp only [Act.put, List.setIfInBounds_toArray, List.set_cons_zero, List.set_cons_succ]
                        refine wpAnyH_skipD (i := 21) (some 98) rfl rfl (by kernel_rfl) (by kernel_rfl) (by kernel_rfl) (fun _ _ _ h => h) (by rfl) (by assumption) ?r21_112
                        try simp only [Act.put, List.setIfInBounds_toArray, List.set_cons_zero, List.set_cons_succ]
                        refine wpAnyH_takeD (i := 22) (some 99) (v := ?v22_113) rfl rfl (by kernel_rfl) (by kernel_rfl) (by kernel_rfl) (fun _ _ _ h => h) (by rfl) ?y22_113 (by assumption) ?r22_113
                        case y22_113 => (intro w hSw; (try dsimp only at hSw); first | (go_simp; done) | (go_simp; with_reducible rfl))
                        try simp only [Act.put, List.setIfInBounds_toArray, List.set_cons_zero, List.set_cons_succ]
                        refine wpAnyH_takeD (i := 23) (some 100) (v := ?v23_114) rfl rfl (by kernel_rfl) (by kernel_rfl) (by kernel_rfl) (fun _ _ _ h => h) (by rfl) ?y23_114 (by assumption) ?r23_114
                        case y23_114 => (intro w hSw; (try dsimp only at hSw); first | (go_simp; done) | (go_simp; with_reducible rfl))
                        try simp only [Act.put, List.setIfInBounds_toArray, List.set_cons_zero, List.set_cons_succ]
                        refine wpAnyH_skipD (i := 24) (some 101) rfl rfl (by kernel_rfl) (by kernel_rfl) (by kernel_rfl) (fun _ _ _ h => h) (by rfl) (by assumption) ?r24_115
                        try simp only [Act.put, List.setIfInBounds_toArray, List.set_cons_zero, List.set_cons_succ]
                        refine wpAnyH_skipD (i := 25) (some 102) rfl rfl (by kernel_rfl) (by kernel_rfl) (by kernel_rfl) (fun _ _ _ h => h) (by rfl) (by assumption) ?r25_116
                        try simp only [Act.put, List.setIfInBounds_toArray, List.set_cons_zero, List.set_cons_succ]
                        refine wpAnyH_skipD (i := 26) (some 103) rfl rfl (by kernel_rfl) (by kernel_rfl) (by kernel_rfl) (fun _ _ _ h => h) (by rfl) (by assumption) ?r26_117
                        try simp only [Act.put, List.setIfInBounds_toArray, List.set_cons_zero, List.set_cons_succ]
                        refine wpAnyH_skipD (i := 27) (some 104) rfl rfl (by kernel_rfl) (by kernel_rfl) (by kernel_rfl) (fun _ _ _ h => h) (by rfl) (by assumption) ?r27_118
                        try simp only [Act.put, List.setIfInBounds_toArray, List.set_cons_zero, List.set_cons_succ]
                        refine wpAnyH_skipD (i := 28) (some 105) rfl rfl (by kernel_rfl) (by kernel_rfl) (by kernel_rfl) (fun _ _ _ h => h) (by rfl) (by assumption) ?r28_119
                        try simp only [Act.put, List.setIfInBounds_toArray, List.set_cons_zero, List.set_cons_succ]
                        refine wpAnyH_skipD (i := 29) (some 106) rfl rfl (by kernel_rfl) (by kernel_rfl) (by kernel_rfl) (fun _ _ _ h => h) (by rfl) (by assumption) ?r29_120
                        try simp only [Act.put, List.setIfInBounds_toArray, List.set_cons_zero, List.set_cons_succ]
                        refine wpAnyH_skipD (i := 30) (some 107) rfl rfl (by kernel_rfl) (by kernel_rfl) (by kernel_rfl) (fun _ _ _ h => h) (by rfl) (by assumption) ?r30_121
                        try simp only [Act.put, List.setIfInBounds_toArray, List.set_cons_zero, List.set_cons_succ]
                        refine wpAnyH_skipD (i := 31) (some 108) rfl rfl (by kernel_rfl) (by kernel_rfl) (by kernel_rfl) (fun _ _ _ h => h) (by rfl) (by assumption) ?r31_122
                        try simp only [Act.put, List.setIfInBounds_toArray, List.set_cons_zero, List.set_cons_succ]
                        refine wpAnyH_takeD (i := 32) (some 109) (v := ?v32_123) rfl rfl (by kernel_rfl) (by kernel_rfl) (by kernel_rfl) (fun _ _ _ h => h) (by rfl) ?y32_123 (by assumption) ?r32_123
                        case y32_123 => (intro w hSw; (try dsimp only at hSw); first | (go_simp; done) | (go_simp; with_reducible rfl))
                        try simp only [Act.put, List.setIfInBounds_toArray, List.set_cons_zero, List.set_cons_succ]
                        refine wpAnyH_done (by kernel_rfl) ?_ _
                        go_wp2_with fail
                        go_roundw
                        case rel => exact ⟨k2 + 1, r, by omega, by go_num, rfl, by rw [HRT.out, HB.out, HR.out]; simp, HDD.out⟩
                        case measure => exact meas_step hlte
                      exact AllReadyH.nil
                  · have hrr : rdyD es done P = r := by have := HR.out; rw [List.take_of_length_le (by omega)] at this; exact this
                    have HRR := hide hrr
                    have c3 : wr.cell? ⟨g9, o9 + i, none⟩ = some (.slice (some ⟨gP, oP, none⟩) P.length cP) := H25.out.in_cell mem1
                    clear hrr HR
                    cases r with
                    | false =>
                      have HN := hide (now_skip (es := es) (done := done) hlti HPi.out HSK.out (by unfold nowD; rw [HRR.out]; simp))
                      go_wp2_with fail
                      go_roundw
                      case rel => exact ⟨i + 1, by omega, by go_num, rfl, rfl, HN.out, H25.out.drop.drop⟩
                      case measure => exact meas_step hlti
                    | true =>
                      have hPP : P1 = P := now_first hlti HPi.out HSK.out (by unfold nowD; rw [HHD.out, HRR.out, decide_eq_false HIN.out]; rfl) HFD.out
                      subst hPP
                      go_wp2_with (first
                        | (refine wpList_build1_st (E := strE.in) rfl (.tmp 115) slStrs rfl P1 rfl H25.out ?_ ?_; exact (fun e hl hs => ⟨_, rfl, hs.sl_mem mem0⟩); intro g26 w26 h26; have c4 : w26.cell? ⟨g9, o9 + i, none⟩ = some (.slice (some ⟨gP, oP, none⟩) P1.length cP) := h26.in_cell mem2; have H26 := hide h26.f3; clear h26 H25)
                        | (at_builtin; refine wpList_append_st rfl (.tmp 111) (.tmp 116) slStrs rfl H26.out (Src.of_rows mem1) rfl rfl ?_ ?_ ?_; (unfold maxLen; simp; omega); (simp; omega); intro vb27 n27 vc27 w27 hn27 h27; have c5 : w27.cell? ⟨g9, o9 + i, none⟩ = some (.slice (some ⟨gP, oP, none⟩) P1.length cP) := h27.in_cell mem3; have H27 := hide h27.d1.f3; have HN27 := hide hn27; clear h27 H26 hn27)
                        | (at_builtin; refine wpList_append_st rfl (.tmp 118) (.tmp 122) slStr rfl H27.out (Src.of_sl mem2) rfl rfl ?_ ?_ ?_; (unfold maxLen; omega); (omega); intro vb28 n28 vc28 w28 hn28 h28; have H28 := hide h28.f1.d2.d2; have HN28 := hide hn28; clear h28 H27 hn28))
                      go_roundg (gk - 1)
                      case measure => omega
                      case rel => exact ⟨_, _, _, HNX1.out, by simp; omega, vb27, vc27, vb28, vc28, by rw [HN27.out]; simp, by rw [HN28.out]; simp, H28.out⟩
            · exfalso
              have := HSK.out P1 (by rw [List.take_of_length_le (by omega)]; exact HPM.out)
              rw [HPN.out] at this; cases this
        · have hTO := HO.out.fin hol
          have hol' : ¬ (O.length : Int) < ps0.length := by omega
          have H31 := hide H21.out.persist.d1.d1.d1
          clear H21
          go_wp2_with fail
          go_ret
          refine ⟨_, rfl, S, HNI.out, fun y => (HNM.out y).trans List.mem_map, ?_⟩
          rw [HPS.out, HES.out, HT.out, hTO]
          exact H31.out
end Go.Proofs.Ytmebmgbjpbapjaa
