/-
  package graph: Reach; deadboltref8: Find.
-/
import Derived.Test.YtmebmgbjpbapjaaP7
import Derived.Test.YtmebmgbjpbapjaaG6
import Derived.Test.YtmebmgbjpbapjaaG7
namespace Go.Proofs.Ytmebmgbjpbapjaa
open Go.RowKit Go.Maps Go.MapKept
variable {b : Env} {L : List HP} {w : World}

/-- Whom a function calls. -/
def nxF (F : List FRec) (q : Str) : List Str := setS (namesP 5 F q)
theorem mem_nxF {F : List FRec} {q y : Str} : y ∈ nxF F q ↔ y ∈ namesP 5 F q := mem_setS

set_option maxRecDepth 100000 in
theorem reach1_calls (h : St b L w) {g : Nat} {vv vl vf : Value} {F : List FRec} (hb : HP.blk g (.cells [vv, vl, vf].toArray 43) ∈ L) (hm : HP.sl funcE vf F ∈ L) (q : Str) (hl : (namesP 5 F q).length ≤ 1000000) :
    Calls Try.prog 45 #[sv q, .pointer (some ⟨g, 0, none⟩)] w fun x w' => ∃ v, x = .returned v ∧ St b (HP.sl strE v (nxF F q) :: L) w' := by
  have H := hide h
  have HB := hide hb
  have HM := hide hm
  have HL := hide hl
  clear h hb hm hl
  go_enter Try.func45, Try.ntmps45
  go_wp2_with (first
    | (refine wpList_loadB_st (cs := [vv, vl, vf]) rfl agProg (.tmp 1) rfl rfl rfl H.out HB.out ?_)
    | (go_at_call 22; refine (gcalls_calls H.out HM.out q HL.out).mono ?_; rintro z w2 ⟨v, rfl, h2⟩; have H2 := hide h2; clear h2 H))
  go_ret
  exact ⟨v, rfl, H2.out⟩

set_option maxRecDepth 100000 in
set_option maxHeartbeats 2000000 in
theorem led2_calls (h : St b L w) {g : Nat} {vv vl vf : Value} {F : List FRec} (hb : HP.blk g (.cells [vv, vl, vf].toArray 43) ∈ L) (hm : HP.sl funcE vf F ∈ L) (hnl : ∀ q, (namesP 5 F q).length ≤ 1000000) (s : Str) (hs : okStr s) (U : List Str) (hU0 : s ∈ U) (hU : ∀ a ∈ U, ∀ z ∈ nxF F a, z ∈ U) (hUl : U.length ≤ 1000) :
    Calls Try.prog 36 #[sv s, .func (.func 45) #[] #[.pointer (some ⟨g, 0, none⟩)]] w fun x w' => ∃ ms kvs, x = .returned (.map (some ms)) ∧ (∀ p ∈ kvs, p.2 = true) ∧ (∀ y, y ∈ keysOf kvs ↔ Rch (nxF F) s y) ∧ (keysOf kvs).Nodup ∧ kvs.length ≤ U.length ∧ St b (HP.set ms kvs :: L) w' := by
  have HNL := hide hnl
  clear hnl
  have H := hide h
  have HS := hide hs
  have HU0 := hide hU0
  have HU := hide hU
  have HB := hide hb
  have HM := hide hm
  clear hb hm
  clear h hs hU0 hU
  go_enter Try.func36, Try.ntmps36
  go_wp2_with (first
    | ((with_reducible refine wpList_makeMap_st rfl 66 rfl sv okStr Value.bool H.out ?_); intro ms w1 h1; have H1 := hide h1; clear h1 H)
    | (refine wpList_insert_st rfl 66 (.tmp 10) (.tmp 11) (.const (.bool true)) rfl keyStr mapSet s true rfl rfl HS.out rfl H1.out ?_; intro w2 h2; have H2 := hide h2; clear h2 H1)
    | (refine wpList_build1_st (E := strE) rfl (.tmp 13) slStr rfl s rfl H2.out ?_ ?_; exact (fun _ _ _ => ⟨rfl, HS.out⟩); intro g3 w3 h3; have H3 := hide h3.f1; clear h3 H2))
  go_loopg [6] (2 * U.length + 1) (fun g v6 wr => led1O b L (nxF F) U s ms g v6 wr)
  case atStart => exact ⟨_, _, (led_start HU0.out).1, (led_start HU0.out).2, by simp [kput]; omega, _, _, rfl, H3.out⟩
  case round =>
    obtain ⟨kvs, todo, hp, hsh, hg, base, cap, rfl, hs⟩ := hrel
    have H4 := hide hs
    have HP4 := hide hp
    have HSH := hide hsh
    clear hs hp hsh H3
    obtain ⟨_, _, hv, hc1, _⟩ := H4.out.rows_form mem1
    simp only [Value.slice.injEq, true_and] at hv
    obtain ⟨rfl, rfl⟩ := hv
    by_cases hnil : todo = []
    · subst hnil
      go_wp2_with fail
      go_ret
      exact ⟨ms, kvs, rfl, HP4.out.tru, led_done HP4.out HSH.out, by obtain ⟨e, _, hq⟩ := H4.out; exact hq.map_nodup, led_len (by obtain ⟨e, _, hq⟩ := H4.out; exact hq.map_nodup) HP4.out, H4.out.d1⟩
    · obtain ⟨m, hm⟩ : ∃ m, todo.length = m + 1 := ⟨todo.length - 1, by have := List.length_pos_iff.2 hnil; omega⟩
      obtain ⟨g6, rfl⟩ := H4.out.rows_base mem1 (by omega)
      obtain ⟨hc, hok⟩ := H4.out.sc_row_at mem1 (i := m) (by omega)
      have hlen := HP4.out.len
      have hlen2 := led_len (by obtain ⟨e, _, hq⟩ := H4.out; exact hq.map_nodup) HP4.out
      obtain ⟨n, hn⟩ : ∃ n, todo[m] = n := ⟨_, rfl⟩
      rw [hn] at hc hok
      have hpop := led_pop HP4.out HSH.out hm hn
      have htl : (todo.take m).length = m := by rw [List.length_take]; omega
      have h5 : St b (HP.set ms kvs :: HP.rows 9 strE (.slice (some ⟨g6, 0, none⟩) m cap) (todo.take m) :: L) wr := (H4.out.f1.rows_take m (by omega)).f1
      have hsl := run_slice_top (E := strE) slStr (some ⟨g6, 0, none⟩) (Or.inr ⟨g6, 0, rfl⟩) (m + 1) cap m (by omega) .i64
      have HPP := hide hpop
      have HOK := hide hok
      have H5 := hide h5
      have HTL := hide htl
      have hmb : m ≤ 1000 := by omega
      rw [hm] at hg ⊢
      generalize hT : todo.take m = T at HPP H5 HTL
      clear hlen hlen2 hn hpop hok h5 htl H4 HP4 HSH hm hnil hT
      go_wp2_with (go_at_call 45; refine (reach1_calls H5.out (up2 HB.out) (up2 HM.out) n (HNL.out n)).mono ?_; rintro x w6 ⟨v, rfl, h6⟩; generalize hZ : nxF F n = Z at h6; have HZ : Hid (nxF F n = Z) := hide hZ; clear hZ; obtain ⟨vb, vc, hv, hv1, hv2⟩ := h6.sl_form mem0; have hzl : Z.length ≤ 9223372036854775807 := (by unfold maxLen at hv2; omega); clear hv1 hv2; subst hv; have H6 := hide h6.b2; clear h6 H5)
      go_loopw [6, 33] (fun v6 i wr => led1I b L (nxF F) U s n Z (HP.sl strE (.slice vb Z.length vc) Z) ms (gk - 1) v6 i wr) (fun _ i _ => Z.length - (intOf i).toNat)
      case atStart => exact ⟨kvs, T, 0, HPP.out.1, HPP.out.2.1, HPP.out.2.2, by simp, by rw [HTL.out]; omega, by omega, rfl, _, _, by rw [HTL.out], H6.out⟩
      case round =>
        obtain ⟨kvs', todo', k, hp, hsh, hnk, hzk, hg', hk, rfl, base', cap', rfl, hs⟩ := hrel
        have H7 := hide hs
        have HP7 := hide hp
        have HSH := hide hsh
        have HNK := hide hnk
        have HZK := hide hzk
        clear hs hp hsh H6 hnk hzk HPP
        have hlen := HP7.out.len
        have hlen2 := led_len (by obtain ⟨e, _, hq⟩ := H7.out; exact hq.map_nodup) HP7.out
        by_cases hlt : k < Z.length
        · obtain ⟨gz, oz, hgz⟩ := H7.out.sl_base mem2 (by omega) Nat.one_pos
          subst hgz
          obtain ⟨hc2, hok2⟩ := H7.out.sc_at mem2 hlt
          have HOK2 := hide hok2
          clear hok2
          have hlk := H7.out.set_lookup mem0 Z[k] HOK2.out
          by_cases hin : Z[k] ∈ keysOf kvs'
          · rw [(has_iff HP7.out.tru Z[k]).2 hin] at hlk
            have HIN := hide hin
            clear hin
            go_wp2_with fail
            go_roundw
            case rel => exact ⟨kvs', todo', k + 1, HP7.out, HSH.out, HNK.out, led1_in hlt HZK.out HIN.out, hg', by omega, by go_num, _, _, rfl, H7.out⟩
            case measure => simp [intOf]; omega
          · rw [has_false hin] at hlk
            have HPU := hide (led_push HP7.out HSH.out HNK.out hin (by rw [HZ.out]; exact List.getElem_mem hlt) HU.out)
            clear hin
            go_wp2_with (first
              | (at_mapUpdate; refine wpList_mapUpdate_st rfl 66 (.tmp 41) (.tmp 42) (.const (.bool true)) rfl keyStr mapSet Z[k] true rfl rfl HOK2.out rfl H7.out ?_; intro w8 h8; have H8 := hide h8; clear h8 H7)
              | (refine wpList_build1_st (E := strE) rfl (.tmp 44) slStr rfl Z[k] rfl H8.out ?_ ?_; exact (fun _ _ _ => ⟨rfl, HOK2.out⟩); intro g9 w9 h9; have H9 := hide h9.f2; clear h9 H8)
              | (at_builtin; refine wpList_append_st rfl (.tmp 43) (.tmp 45) slStr rfl H9.out (Src.of_rows mem1) rfl rfl ?_ ?_ ?_; (simp; unfold maxLen; omega); (simp; omega); intro vb3 n3 vc3 w10 hn3 h10; have H10 := hide h10.d1.f1; have HN3 := hide hn3; clear h10 H9 hn3))
            have hl3 := led_len (by obtain ⟨e, _, hq⟩ := H10.out; exact hq.map_nodup) HPU.out.1
            rw [HPU.out.2.2.2.2.1] at hl3
            go_roundw
            case rel => exact ⟨_, _, k + 1, HPU.out.1, HPU.out.2.1, HPU.out.2.2.1, led1_in hlt (fun z hz => HPU.out.2.2.2.2.2 z (HZK.out z hz)) HPU.out.2.2.2.1, by rw [HPU.out.2.2.2.2.1]; simp; omega, by omega, by go_num, vb3, vc3, by rw [HN3.out]; simp, H10.out⟩
            case measure => simp [intOf]; omega
        · have hzz := HZK.out
          rw [List.take_of_length_le (by omega)] at hzz
          have HF := hide (led_shut HSH.out (by rw [HZ.out]; exact hzz))
          clear hzz
          go_wp2_with fail
          go_roundg (gk - 1)
          case measure => omega
          case rel => exact ⟨kvs', todo', HP7.out, HF.out, hg', _, _, rfl, H7.out.d2⟩

set_option maxRecDepth 100000 in
theorem greach_calls (h : St b L w) {vv vl vf : Value} {F : List FRec} (hm : HP.sl funcE vf F ∈ L) (hnl : ∀ q, (namesP 5 F q).length ≤ 1000000) (f : Str) (hf : okStr f) (U : List Str) (hU0 : f ∈ U) (hU : ∀ a ∈ U, ∀ z ∈ nxF F a, z ∈ U) (hUl : U.length ≤ 1000) :
    Calls Try.prog 26 #[.agg #[vv, vl, vf], sv f] w fun x w' => ∃ v R, x = .returned v ∧ Inc R ∧ (∀ y, y ∈ R ↔ Rch (nxF F) f y) ∧ R.length ≤ 1000 ∧ St b (HP.sl strE v R :: L) w' := by
  have H := hide h
  have HM := hide hm
  have HNL := hide hnl
  have HOK := hide hf
  have HU0 := hide hU0
  have HU := hide hU
  clear h hm hnl hf hU0 hU
  go_enter Try.func26, Try.ntmps26
  go_wp2_with (first
    | ((with_reducible refine wpList_box_st (cs := [vv, vl, vf]) rfl (.tmp 0) rfl rfl H.out ?_); intro g2 w1 h1; have H1 := hide h1; clear h1 H)
    | (go_at_call 36; refine (led2_calls H1.out mem0 (up1 HM.out) HNL.out f HOK.out U HU0.out HU.out hUl).mono ?_; rintro z w2 ⟨ms, kvs, rfl, ht, hr, hn, hk, h2⟩; have H2 := hide h2; have HR := hide hr; have HN := hide hn; have HK := hide hk; clear h2 H1 hr hn hk ht)
    | (go_at_call 37; refine (sorted_calls H2.out (Nat.le_trans HK.out (Nat.le_trans hUl (by decide)))).mono ?_; rintro z w3 ⟨bb, n, cc, rfl, h3⟩; have H3 := hide h3.persist.d1.d1; clear h3 H2))
  go_ret
  refine ⟨_, _, rfl, inc_sortS HN.out, fun y => by rw [mem_sortS]; exact HR.out y, ?_, H3.out⟩
  have e : (sortS (keysOf kvs)).length = (keysOf kvs).length := (List.mergeSort_perm _ _).length_eq
  rw [e, List.length_map]
  exact Nat.le_trans HK.out hUl

/-- A function's place. -/
def findR (F : List FRec) (f : Str) : Int := match F.findIdx? (fun x => x.name == f) with | some i => (i : Int) | none => -1
def FindAt (w : World) (F : List FRec) (f : Str) (i : Value) (wr : World) : Prop := ∃ k : Nat, k ≤ F.length ∧ i = .int .i64 k ∧ w = wr ∧ ∀ x ∈ F.take k, (x.name == f) = false
theorem find_take {F : List FRec} {f : Str} {k : Nat} (hk : k < F.length) {x : FRec} (hx : F[k] = x) (hn : ∀ x ∈ F.take k, (x.name == f) = false) (he : (x.name == f) = false) : ∀ x ∈ F.take (k + 1), (x.name == f) = false := by
  intro y hy
  rw [List.take_succ_eq_append_getElem hk, List.mem_append] at hy
  rcases hy with h | h
  · exact hn y h
  · simp at h; subst h; rw [hx]; exact he
theorem find_some {F : List FRec} {f : Str} {k : Nat} (hk : k < F.length) {x : FRec} (hx : F[k] = x) (hn : ∀ x ∈ F.take k, (x.name == f) = false) (he : (x.name == f) = true) : findR F f = (k : Int) := by
  unfold findR
  have : F.findIdx? (fun x => x.name == f) = some k := by
    rw [List.findIdx?_eq_some_iff_getElem]
    refine ⟨hk, by rw [hx]; exact he, fun j hj => ?_⟩
    have := hn F[j] (List.mem_take_iff_getElem.2 ⟨j, by omega, rfl⟩)
    rw [this]; simp
  rw [this]
theorem find_none {F : List FRec} {f : Str} (hn : ∀ x ∈ F, (x.name == f) = false) : findR F f = -1 := by
  unfold findR
  rw [List.findIdx?_eq_none_iff.2 hn]

set_option maxRecDepth 100000 in
set_option maxHeartbeats 1000000 in
theorem find_calls (h : St b L w) {vv vl vf : Value} {F : List FRec} (hm : HP.sl funcE vf F ∈ L) (f : Str) :
    Calls Try.prog 25 #[.agg #[vv, vl, vf], sv f] w fun x w' => x = .returned (.int .i64 (findR F f)) ∧ St b L w' := by
  obtain ⟨bf, cf, rfl, hc1, hc2⟩ := h.sl_form hm
  have hm2 : (F.length : Int) ≤ 9223372036854775807 := by unfold maxLen at hc2; omega
  have H := hide h
  have HM := hide hm
  clear h hm hc1 hc2
  go_enter Try.func25, Try.ntmps25
  go_wp2_with (first
    | ((with_reducible refine wpList_box_st (cs := [vv, vl, .slice bf F.length cf]) rfl (.tmp 0) rfl rfl H.out ?_); intro g2 w1 h1; have c2 : w1.cell? ⟨g2, 2, none⟩ = some (.slice bf F.length cf) := h1.blk_cell mem0 2; have H1 := hide h1; clear h1 H))
  go_loopw [5] (fun i wr => FindAt w1 F f i wr) (fun i _ => F.length - (intOf i).toNat)
  case atStart => exact ⟨0, by omega, rfl, rfl, by simp⟩
  case round =>
    obtain ⟨k, hk, rfl, rfl, hn⟩ := hrel
    have HN := hide hn
    clear hn
    by_cases hlt : k < F.length
    · have hlt' : (k : Int) < F.length := by omega
      obtain ⟨g, o, rfl⟩ := H1.out.sl_base (up1 HM.out) (by omega) (by decide)
      obtain ⟨cs, h4⟩ := H1.out.elem (up1 HM.out) (List.getElem?_eq_getElem hlt) (by decide)
      obtain ⟨x, hx⟩ : ∃ x, F[k] = x := ⟨_, rfl⟩
      rw [hx] at h4
      obtain ⟨v, hok, rfl, h5⟩ := h4.func
      have c3 : w1.cell? ⟨g, o + k * 3, none⟩ = some (.string ⟨x.name.toArray⟩) := h5.elem_cell mem1 0 rfl
      have HX := hide hx
      clear h4 h5 hok hx
      cases he : (x.name == f) with
      | true =>
        have HF := hide (find_some hlt HX.out HN.out he)
        go_wp2_with fail
        go_ret
        exact ⟨by rw [HF.out]; rfl, H1.out.drop⟩
      | false =>
        have HF := hide (find_take hlt HX.out HN.out he)
        go_wp2_with fail
        go_roundw
        case rel => exact ⟨k + 1, by omega, by go_num, rfl, HF.out⟩
        case measure => exact meas_step hlt
    · have HF : Hid (findR F f = -1) := hide (find_none (by have := HN.out; rw [List.take_of_length_le (by omega)] at this; exact this))
      go_wp2_with fail
      go_ret
      exact ⟨by rw [HF.out]; rfl, H1.out.drop⟩
end Go.Proofs.Ytmebmgbjpbapjaa
