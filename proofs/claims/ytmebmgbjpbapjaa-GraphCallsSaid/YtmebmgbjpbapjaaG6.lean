/-
  package graph: led, by the closure of Parts.
-/
import Derived.Test.YtmebmgbjpbapjaaG5
namespace Go.Proofs.Ytmebmgbjpbapjaa
open Go.RowKit Go.Maps Go.MapKept
variable {b : Env} {L : List HP} {w : World}

def led1O (b : Env) (L : List HP) (nxt : Str → List Str) (U : List Str) (s : Str) (ms : Nat) (g : Nat) (v6 : Value) (wr : World) : Prop :=
  ∃ (kvs : List (Str × Bool)) (todo : List Str), LedP nxt U s kvs todo ∧ Shut nxt kvs todo ∧ 2 * (U.length - kvs.length) + todo.length ≤ g ∧ ∃ base cap, v6 = .slice base todo.length cap ∧ St b (HP.set ms kvs :: HP.rows 9 strE v6 todo :: L) wr
def led1I (b : Env) (L : List HP) (nxt : Str → List Str) (U : List Str) (s n : Str) (zs : List Str) (R : HP) (ms : Nat) (g : Nat) (v6 i : Value) (wr : World) : Prop :=
  ∃ (kvs : List (Str × Bool)) (todo : List Str) (k : Nat), LedP nxt U s kvs todo ∧ ShutBut nxt kvs todo n ∧ n ∈ keysOf kvs ∧ (∀ z ∈ zs.take k, z ∈ keysOf kvs) ∧ 2 * (U.length - kvs.length) + todo.length ≤ g ∧ k ≤ zs.length ∧ i = .int .i64 k ∧ ∃ base cap, v6 = .slice base todo.length cap ∧ St b (HP.set ms kvs :: HP.rows 9 strE v6 todo :: R :: L) wr

theorem led1_in {zs : List Str} {k : Nat} {ks : List Str} (hk : k < zs.length) (h : ∀ z ∈ zs.take k, z ∈ ks) (h2 : zs[k] ∈ ks) : ∀ z ∈ zs.take (k + 1), z ∈ ks := by
  intro z hz
  rw [List.take_succ_eq_append_getElem hk, List.mem_append] at hz
  rcases hz with hz | hz
  · exact h z hz
  · simp at hz; subst hz; exact h2

set_option maxRecDepth 100000 in
set_option maxHeartbeats 2000000 in
theorem led1_calls (h : St b L w) {g mt : Nat} {tos : List (Str × List Str)} (hb : HP.blk g (.cells #[.map (some mt)] 67) ∈ L) (hm : HP.pmulti strE mt tos ∈ L) (s : Str) (hs : okStr s) (U : List Str) (hU0 : s ∈ U) (hU : ∀ a ∈ U, ∀ z ∈ (fun q => (kget tos q).getD []) a, z ∈ U) (hUl : U.length ≤ 1000) :
    Calls Try.prog 36 #[sv s, .func (.func 35) #[] #[.pointer (some ⟨g, 0, none⟩)]] w fun x w' => ∃ ms kvs, x = .returned (.map (some ms)) ∧ (∀ p ∈ kvs, p.2 = true) ∧ (∀ y, y ∈ keysOf kvs ↔ Rch (fun q => (kget tos q).getD []) s y) ∧ St b (HP.set ms kvs :: L) w' := by
  have H := hide h
  have HS := hide hs
  have HU0 := hide hU0
  have HU := hide hU
  have HB := hide hb
  have HM := hide hm
  clear hb hm
  clear h hs hU0 hU
  go_enter Try.func36, Try.ntmps36
  go_wp2_with (first
    | ((with_reducible refine wpList_makeMap_st rfl 66 rfl sv okStr Value.bool H.out ?_); intro ms w1 h1; have H1 := hide h1; clear h1 H)
    | (refine wpList_insert_st rfl 66 (.tmp 10) (.tmp 11) (.const (.bool true)) rfl keyStr mapSet s true rfl rfl HS.out rfl H1.out ?_; intro w2 h2; have H2 := hide h2; clear h2 H1)
    | (refine wpList_build1_st (E := strE) rfl (.tmp 13) slStr rfl s rfl H2.out ?_ ?_; exact (fun _ _ _ => ⟨rfl, HS.out⟩); intro g3 w3 h3; have H3 := hide h3.f1; clear h3 H2))
  go_loopg [6] (2 * U.length + 1) (fun g v6 wr => led1O b L (fun q => (kget tos q).getD []) U s ms g v6 wr)
  case atStart => exact ⟨_, _, (led_start HU0.out).1, (led_start HU0.out).2, by simp [kput]; omega, _, _, rfl, H3.out⟩
  case round =>
    obtain ⟨kvs, todo, hp, hsh, hg, base, cap, rfl, hs⟩ := hrel
    have H4 := hide hs
    have HP4 := hide hp
    have HSH := hide hsh
    clear hs hp hsh H3
    obtain ⟨_, _, hv, hc1, _⟩ := H4.out.rows_form mem1
    simp only [Value.slice.injEq, true_and] at hv
    obtain ⟨rfl, rfl⟩ := hv
    by_cases hnil : todo = []
    · subst hnil
      go_wp2_with fail
      go_ret
      exact ⟨ms, kvs, rfl, HP4.out.tru, led_done HP4.out HSH.out, H4.out.d1⟩
    · obtain ⟨m, hm⟩ : ∃ m, todo.length = m + 1 := ⟨todo.length - 1, by have := List.length_pos_iff.2 hnil; omega⟩
      obtain ⟨g6, rfl⟩ := H4.out.rows_base mem1 (by omega)
      obtain ⟨hc, hok⟩ := H4.out.sc_row_at mem1 (i := m) (by omega)
      have hlen := HP4.out.len
      have hlen2 := led_len (by obtain ⟨e, _, hq⟩ := H4.out; exact hq.map_nodup) HP4.out
      obtain ⟨n, hn⟩ : ∃ n, todo[m] = n := ⟨_, rfl⟩
      rw [hn] at hc hok
      have hpop := led_pop HP4.out HSH.out hm hn
      have htl : (todo.take m).length = m := by rw [List.length_take]; omega
      have h5 : St b (HP.set ms kvs :: HP.rows 9 strE (.slice (some ⟨g6, 0, none⟩) m cap) (todo.take m) :: L) wr := (H4.out.f1.rows_take m (by omega)).f1
      have hsl := run_slice_top (E := strE) slStr (some ⟨g6, 0, none⟩) (Or.inr ⟨g6, 0, rfl⟩) (m + 1) cap m (by omega) .i64
      have HPP := hide hpop
      have HOK := hide hok
      have H5 := hide h5
      have HTL := hide htl
      have hmb : m ≤ 1000 := by omega
      rw [hm] at hg ⊢
      generalize hT : todo.take m = T at HPP H5 HTL
      clear hlen hlen2 hn hpop hok h5 htl H4 HP4 HSH hm hnil hT
      go_wp2_with (go_at_call 35; refine (next_calls H5.out (up2 HB.out) (up2 HM.out) n HOK.out).mono ?_; rintro x w6 ⟨v, rfl, rfl, h6⟩; generalize hZ : (kget tos n).getD [] = Z at h6; have HZ : Hid (((fun q => (kget tos q).getD []) n) = Z) := hide hZ; clear hZ; obtain ⟨vb, vc, hv, hv1, hv2⟩ := h6.sl_form mem0; have hzl : Z.length ≤ 9223372036854775807 := (by unfold maxLen at hv2; omega); clear hv1 hv2; subst hv; have H6 := hide h6.b2; clear h6 H5)
      go_loopw [6, 33] (fun v6 i wr => led1I b L (fun q => (kget tos q).getD []) U s n Z (HP.sl strE (.slice vb Z.length vc) Z) ms (gk - 1) v6 i wr) (fun _ i _ => Z.length - (intOf i).toNat)
      case atStart => exact ⟨kvs, T, 0, HPP.out.1, HPP.out.2.1, HPP.out.2.2, by simp, by rw [HTL.out]; omega, by omega, rfl, _, _, by rw [HTL.out], H6.out⟩
      case round =>
        obtain ⟨kvs', todo', k, hp, hsh, hnk, hzk, hg', hk, rfl, base', cap', rfl, hs⟩ := hrel
        have H7 := hide hs
        have HP7 := hide hp
        have HSH := hide hsh
        have HNK := hide hnk
        have HZK := hide hzk
        clear hs hp hsh H6 hnk hzk HPP
        have hlen := HP7.out.len
        have hlen2 := led_len (by obtain ⟨e, _, hq⟩ := H7.out; exact hq.map_nodup) HP7.out
        by_cases hlt : k < Z.length
        · obtain ⟨gz, oz, hgz⟩ := H7.out.sl_base mem2 (by omega) Nat.one_pos
          subst hgz
          obtain ⟨hc2, hok2⟩ := H7.out.sc_at mem2 hlt
          have HOK2 := hide hok2
          clear hok2
          have hlk := H7.out.set_lookup mem0 Z[k] HOK2.out
          by_cases hin : Z[k] ∈ keysOf kvs'
          · rw [(has_iff HP7.out.tru Z[k]).2 hin] at hlk
            have HIN := hide hin
            clear hin
            go_wp2_with fail
            go_roundw
            case rel => exact ⟨kvs', todo', k + 1, HP7.out, HSH.out, HNK.out, led1_in hlt HZK.out HIN.out, hg', by omega, by go_num, _, _, rfl, H7.out⟩
            case measure => simp [intOf]; omega
          · rw [has_false hin] at hlk
            have HPU := hide (led_push HP7.out HSH.out HNK.out hin (by rw [HZ.out]; exact List.getElem_mem hlt) HU.out)
            clear hin
            go_wp2_with (first
              | (at_mapUpdate; refine wpList_mapUpdate_st rfl 66 (.tmp 41) (.tmp 42) (.const (.bool true)) rfl keyStr mapSet Z[k] true rfl rfl HOK2.out rfl H7.out ?_; intro w8 h8; have H8 := hide h8; clear h8 H7)
              | (refine wpList_build1_st (E := strE) rfl (.tmp 44) slStr rfl Z[k] rfl H8.out ?_ ?_; exact (fun _ _ _ => ⟨rfl, HOK2.out⟩); intro g9 w9 h9; have H9 := hide h9.f2; clear h9 H8)
              | (at_builtin; refine wpList_append_st rfl (.tmp 43) (.tmp 45) slStr rfl H9.out (Src.of_rows mem1) rfl rfl ?_ ?_ ?_; (simp; unfold maxLen; omega); (simp; omega); intro vb3 n3 vc3 w10 hn3 h10; have H10 := hide h10.d1.f1; have HN3 := hide hn3; clear h10 H9 hn3))
            have hl3 := led_len (by obtain ⟨e, _, hq⟩ := H10.out; exact hq.map_nodup) HPU.out.1
            rw [HPU.out.2.2.2.2.1] at hl3
            go_roundw
            case rel => exact ⟨_, _, k + 1, HPU.out.1, HPU.out.2.1, HPU.out.2.2.1, led1_in hlt (fun z hz => HPU.out.2.2.2.2.2 z (HZK.out z hz)) HPU.out.2.2.2.1, by rw [HPU.out.2.2.2.2.1]; simp; omega, by omega, by go_num, vb3, vc3, by rw [HN3.out]; simp, H10.out⟩
            case measure => simp [intOf]; omega
        · have hzz := HZK.out
          rw [List.take_of_length_le (by omega)] at hzz
          have HF := hide (led_shut HSH.out (by rw [HZ.out]; exact hzz))
          clear hzz
          go_wp2_with fail
          go_roundg (gk - 1)
          case measure => omega
          case rel => exact ⟨kvs', todo', HP7.out, HF.out, hg', _, _, rfl, H7.out.d2⟩
end Go.Proofs.Ytmebmgbjpbapjaa
