/-
  package store: replay, Files. package store: Open. package store: Commit.
-/
import Derived.Test.YtcgnkloljfgiaaaGreatDoorZd
import Derived.Test.YtcgnkloljfgiaaaGreatDoorWo
import Derived.Test.YtcgnkloljfgiaaaGreatDoorWu
namespace Go.Proofs.YtcgnkloljfgiaaaGreatDoor
open Go.RowKit Go.Maps Go.MapKept
variable {b : Env} {L : List HP} {w : World}
def ChainF (rows : List Byt) (f : Nat → List (Str × Str)) : Prop := ∀ k (h : k < rows.length), OkF (f k) ∧ rows[k] = if k = 0 then setB (f 0) else changesB (f (k - 1)) (f k)
theorem tells_chain {rows : List Byt} {F : List (Str × Str)} (h : TellsF rows F) : ∃ f, ChainF rows f ∧ 0 < rows.length ∧ f (rows.length - 1) = F := by
  induction h with
  | @whole F hF => exact ⟨fun _ => F, fun k hk => by
      simp only [List.length_cons, List.length_nil] at hk
      obtain rfl : k = 0 := by omega
      exact ⟨hF, rfl⟩, by simp, rfl⟩
  | @change rows F G _ hG ih =>
    obtain ⟨f, h1, h2, h3⟩ := ih
    refine ⟨fun k => if k = rows.length then G else f k, fun k hk => ?_, by simp, by simp⟩
    rw [List.length_append] at hk
    simp only [List.length_cons, List.length_nil] at hk
    by_cases hkl : k = rows.length
    · subst hkl
      have e1 : ¬ rows.length = 0 := by omega
      have e2 : ¬ rows.length - 1 = rows.length := by omega
      simp only [if_true, e1, if_false, e2, h3]
      exact ⟨hG, by simp⟩
    · have hk2 : k < rows.length := by omega
      obtain ⟨a1, a2⟩ := h1 k hk2
      have e2 : ¬ k - 1 = rows.length := by omega
      have e3 : ¬ 0 = rows.length := by omega
      simp only [hkl, if_false, e2, e3]
      exact ⟨a1, by rw [List.getElem_append_left hk2]; exact a2⟩
theorem St.in_elem {α : Type} {E : El α} {g o n cap i : Nat} {xss : List (List α)} (h : St b L w) (hm : HP.sl E.in (.slice (some ⟨g, o, none⟩) n cap) xss ∈ L) (hi : i < xss.length) : ∃ v, St b (HP.sl E v xss[i] :: HP.elem E.in g (o + i) xss[i] [v] :: L) w := by
  obtain ⟨cs, h'⟩ := h.elem hm (List.getElem?_eq_getElem hi) Nat.one_pos
  obtain ⟨e, hl, hs, v, hc, hv⟩ := h'.elem_rd List.mem_cons_self
  subst hc
  rw [show o + i * E.in.sz = o + i by show o + i * 1 = o + i; omega] at hs
  exact ⟨v, e, hl, hs.lay (fun _ => hv)⟩
theorem St.in_cell {α : Type} {E : El α} {g off : Nat} {xs : List α} {v : Value} (h : St b L w) (hm : HP.elem E.in g off xs [v] ∈ L) : w.cell? ⟨g, off, none⟩ = some v := h.elem_cell hm 0 rfl
def RepAt (b : Env) (L : List HP) (rows : List Byt) (f : Nat → List (Str × Str)) (v3 i : Value) (wr : World) : Prop :=
  ∃ k : Nat, k ≤ rows.length ∧ i = .int .i64 k ∧ ∃ m kv, v3 = .map (some m) ∧ (k = 0 → kv = []) ∧ (0 < k → canon kv = f (k - 1)) ∧ St b (HP.fmap m kv :: L) wr
def ReplayOf (rows : List Byt) (F : List (Str × Str)) : Prop := (rows = [] ∧ F = []) ∨ TellsF rows F
set_option linter.unusedSimpArgs false in
set_option maxRecDepth 100000 in
set_option maxHeartbeats 4000000 in
theorem replay_calls {v : Value} {rows : List Byt} {F : List (Str × Str)} (h : St b L w) (hm : HP.sl byteE.in v rows ∈ L) (hT : ReplayOf rows F) (hsp : HP.spaces ∈ L) :
    Calls Tryz.prog 38 #[v] w fun x w' => ∃ m, x = .returned (.map (some m)) ∧ ∃ kv, canon kv = F ∧ St b (HP.fmap m kv :: L) w' := by
  obtain ⟨b0, c0, rfl, u1, u2⟩ := h.sl_form hm
  obtain ⟨f, hf, hend⟩ : ∃ f, ChainF rows f ∧ (F = if rows.length = 0 then [] else f (rows.length - 1)) := by
    rcases hT with ⟨rfl, rfl⟩ | hT
    · exact ⟨fun _ => [], fun k hk => absurd hk (by simp), rfl⟩
    · obtain ⟨f, h1, h2, h3⟩ := tells_chain hT
      exact ⟨f, h1, by rw [if_neg (by omega), h3]⟩
  obtain ⟨n, hn⟩ : ∃ n, rows.length = n := ⟨_, rfl⟩
  rw [hn] at hm hend ⊢
  have hnI : (n : Int) ≤ 9223372036854775807 := by unfold maxLen at u2; omega
  have H := hide h
  have HM := hide hm
  have HF := hide hf
  have HE := hide hend
  have HN := hide hn
  have HSP := hide hsp
  clear h hm hf hend hn hsp hT u1 u2
  go_enter Tryz.func38, Tryz.ntmps38
  go_wp2_with (first
    | ((with_reducible refine wpList_makeMap_st rfl 72 rfl sv okStr sv H.out ?_); intro m1 w1 h1; have H1 := hide h1; clear h1 H))
  go_loopw [3, 12] (fun v3 i wr => RepAt b L rows f v3 i wr) (fun _ i _ => n - (intOf i).toNat)
  case atStart => exact ⟨0, by omega, rfl, m1, [], rfl, fun _ => rfl, fun h => absurd h (by decide), H1.out⟩
  case round =>
    obtain ⟨k, hk, rfl, m, kv, rfl, hk0, hk1, hs⟩ := hrel
    rw [HN.out] at hk
    clear H1
    by_cases hlt : k < n
    · have hlt' : (k : Int) < n := by omega
      have hkr : k < rows.length := by rw [HN.out]; exact hlt
      obtain ⟨gr, or, rfl⟩ := hs.sl_base (up1 HM.out) (by omega) Nat.one_pos
      obtain ⟨vr, h2⟩ := hs.in_elem (up1 HM.out) hkr
      obtain ⟨hok, hrow⟩ := HF.out k hkr
      have hc := h2.in_cell mem1
      rw [hrow] at h2
      have HOKF := hide hok
      have HK1 := hide hk1
      have HK0 := hide hk0
      have HNK := hide (show k + 1 ≤ rows.length from hkr)
      by_cases hz : k = 0
      · subst hz
        have hc0 : wr.cell? ⟨gr, or, none⟩ = some vr := hc
        rw [if_pos rfl] at h2
        have H3 := hide (show St b (HP.sl byteE vr (setB (f 0)) :: L) wr from h2.pick [0] 3 (by decide) (by decide) (by simp))
        clear hs h2 hok hrow hk1 hk0 hkr
        go_wp2_with (first
          | (go_at_call 68; refine (toldF_calls H3.out mem0 HOKF.out (up1 HSP.out)).mono ?_; rintro x w4 ⟨m4, rfl, h4⟩; have H4 := hide h4.f1.drop; clear h4 H3))
        go_roundw
        case rel => exact ⟨1, HNK.out, rfl, m4, f 0, rfl, fun h => absurd h (by decide), fun _ => canon_self HOKF.out.inc, H4.out⟩
        case measure => exact meas_step hlt
      · have hkb : ((k : Int) == 0) = false := by rw [beq_eq_false_iff_ne]; omega
        have hcn := HK1.out (by omega)
        have hokp := (HF.out (k - 1) (by omega)).1
        rw [if_neg hz, ← hcn] at h2
        rw [← hcn] at hokp
        have H3 := hide (show St b (HP.fmap m kv :: HP.sl byteE vr (changesB (canon kv) (f k)) :: L) wr from h2.pick [2, 0] 3 (by decide) (by decide) (by simp))
        have HOKP := hide hokp
        clear hs h2 hok hrow hk1 hk0 hkr hcn hokp
        go_wp2_with (first
          | (go_at_call 67; refine (changed_calls H3.out mem0 HOKP.out HOKF.out (up1 HSP.out)).mono ?_; rintro x w4 ⟨m4, rfl, kv4, hcan, h4⟩; have H4 := hide (show St b (HP.fmap m4 kv4 :: L) w4 from h4.pick [0] 3 (by decide) (by decide) (by simp)); have HCAN := hide hcan; clear h4 hcan H3))
        go_roundw
        case rel => exact ⟨k + 1, HNK.out, by go_num, m4, kv4, rfl, fun h => absurd h (by omega), fun _ => HCAN.out, H4.out⟩
        case measure => exact meas_step hlt
    · have hke : k = n := by omega
      subst hke
      have H4 := hide hs
      have HC : Hid (canon kv = F) := hide (by
        rw [HE.out]
        by_cases hz : k = 0
        · rw [if_pos hz, hk0 hz]; exact canon_self List.Pairwise.nil
        · rw [if_neg hz]; exact hk1 (by omega))
      clear hs hk0 hk1
      go_wp2_with fail
      go_ret
      exact ⟨m, rfl, kv, HC.out, H4.out⟩
theorem files_calls {gs m : Nat} {lv : Value} {kvs : List (Str × Str)} (h : St b (HP.fmap m kvs :: L) w) (hb : HP.blk gs (.cells ([lv, .map (some m)] : List Value).toArray 75) ∈ L) (hF : OkF (canon kvs)) :
    Calls Tryz.prog 20 #[.pointer (some ⟨gs, 0, none⟩)] w fun x w' => ∃ base n cap, x = .returned (.slice base n cap) ∧ n = (canon kvs).length ∧ St b (HP.rows 48 pairE (.slice base n cap) (canon kvs) :: HP.fmap m kvs :: L) w' := by
  have hnd : (keysOf kvs).Nodup := by obtain ⟨e, _, hs⟩ := h; exact hs.map_nodup
  have hpm := canon_mem hnd
  have c1 : w.cell? ⟨gs, 1, none⟩ = some (.map (some m)) := h.blk_cell (List.mem_cons_of_mem _ hb) 1
  have HT := hide (show ∀ p ∈ kvs, p.2.length ≤ 1000000 from fun p hp => Nat.le_trans (hF.tx p (hpm.mem_iff.2 hp)) (by decide))
  have HLN := hide (show kvs.length ≤ 1000 by rw [← hpm.length_eq]; exact Nat.le_trans hF.len (by decide))
  have H := hide h
  clear h hb hpm hnd
  go_enter Tryz.func20, Tryz.ntmps20
  go_wp2_with (first
    | (go_at_call 47; refine (list_calls H.out HT.out HLN.out).mono ?_; rintro x w2 ⟨bf, nf, cf, rfl, hnf, h2⟩; have H2 := hide h2; have HNF := hide hnf; clear h2 hnf H))
  go_ret
  exact ⟨bf, nf, cf, rfl, HNF.out, H2.out⟩
end Go.Proofs.YtcgnkloljfgiaaaGreatDoor

namespace Go.Proofs.YtcgnkloljfgiaaaGreatDoor
open Go.RowKit Go.Maps Go.MapKept
variable {b : Env} {L : List HP} {w : World} {gd : Nat} {d : Dk}
abbrev HP.store (gs gl m : Nat) : HP := HP.blk gs (.cells ([.pointer (some ⟨gl, 0, none⟩), .map (some m)] : List Value).toArray 75)
theorem leaves_puto {n : Nat} (hn : n ≠ 2 ∧ n ≠ 3) {R : Ending → World → Prop} {a : Act} {v : Value} {u : FrameMode} {w : World} (h : Leaves Tryz.prog Tryz.f15 (a.put (some n) v).tmps R (a.put (some n) v).defers u w) : Leaves Tryz.prog Tryz.f15 a.tmps R a.defers u w := by
  refine leaves_tmps ?_ _ _ _ h
  intro w
  have e2 : (a.tmps.setIfInBounds n v)[2]? = a.tmps[2]? := by rw [Array.getElem?_setIfInBounds, if_neg hn.1]
  have e3 : (a.tmps.setIfInBounds n v)[3]? = a.tmps[3]? := by rw [Array.getElem?_setIfInBounds, if_neg hn.2]
  have hr : Tryz.f15.results = #[.cell 2 30, .cell 3 31] := rfl
  simp only [results, hr, Act.put]
  simp [e2, e3]
theorem open1_d {g2 g3 : Nat} (u : FrameMode) (hc : w.cell? ⟨g3, 0, none⟩ = some (.int .i64 0)) : CallsD Tryz.prog 36 #[.pointer (some ⟨g3, 0, none⟩), .pointer (some ⟨g2, 0, none⟩)] u w fun e u' w' => u' = u ∧ (e = .returned (.tuple #[]) ∧ w' = w) := by
  go_enter_d Tryz.func36, Tryz.ntmps36
  go_wp2
  go_end0
  exact ⟨rfl, rfl⟩
theorem szPtrS : (Tryz.prog.info? 30).map (·.size) = some 1 := by kernel_rfl
set_option linter.unusedSimpArgs false in
set_option maxRecDepth 100000 in
set_option maxHeartbeats 4000000 in
theorem sopen_calls {N : Nat} {k : Int} {l0 l' : LogR} {rows : List Byt} {F : List (Str × Str)} {d' : Dk} (h : St b (HP.disk gd d :: L) w) (ha : Alive d N k) (hops : d.ops ≤ 100000000) (ho : openR d = (l0, rows)) (hT : ReplayOf rows F) (hok : OkF F)
    (hfr : freshD d l0 (setB F) = (0, d', l')) (hp : partsOf (setB F).length ≤ 255) (hmo : l0.most + 1 ≤ 4294967295) (hh : l0.half ≤ 1) (hsp : HP.spaces ∈ L) :
    Calls Tryz.prog 15 #[.pointer (some ⟨gd, 0, none⟩)] w fun x w' => ∃ gs, x = .returned (.tuple #[.pointer (some ⟨gs, 0, none⟩), .int .i64 0]) ∧ ∃ gl m kv, canon kv = F ∧ St b (HP.store gs gl m :: HP.fmap m kv :: HP.log gl gd l' :: HP.disk gd d' :: L) w' := by
  have hmf : ∀ (fn : Fn) (first cap : Array Value) (w : World), (Instr.makeFunc fn first cap).run Tryz.prog w = .ok (.func fn first cap) w := fun _ _ _ _ => rfl
  have H := hide h
  have HA := hide ha
  have HO := hide ho
  have HT := hide hT
  have HOK := hide hok
  have HFR := hide hfr
  have HP' := hide (And.intro ha.good (And.intro hops (And.intro hp (And.intro hmo hh))))
  have HSP := hide hsp
  clear h ha hops ho hT hok hfr hp hmo hh hsp
  go_enter_defers Tryz.func15, Tryz.ntmps15
  go_wp2_with (first
    | (refine wpList_alloc1_st rfl 30 rfl (Tryz.zeroValue30 _) rfl H.out ?_; intro g2 w2 h2; have H2 := hide h2; clear h2 H)
    | (refine wpList_alloc1_st rfl 31 rfl (Tryz.zeroValue31 _) rfl H2.out ?_; intro g3 w3 h3; have H3 := hide h3.f2; clear h3 H2)
    | (go_at_call 37; refine (wopen_calls H3.out HA.out).mono ?_; rintro x w4 ⟨gl, b0, c0, rfl, h4⟩; rw [HO.out] at h4; rw [HO.out]; have H4 := hide (show St b (HP.blk g3 (.cells #[.int .i64 0] 31) :: HP.blk g2 (.cells #[.pointer none] 30) :: HP.log gl gd l0 :: HP.disk gd d :: HP.sl byteE.in (.slice b0 rows.length c0) rows :: L) w4 from ((h4.f2.persist.pick [3, 4, 1, 2, 0] 5 (by decide) (by decide) (by simp)))); clear h4 H3)
    | ((with_reducible refine wpList_store1_st rfl 31 (.tmp 3) (.tmp 12) rfl szErrno rfl rfl rfl rfl H4.out ?_); intro w5 h5; have q3 : w5.cell? ⟨g3, 0, none⟩ = some (.int .i64 0) := h5.blk_cell mem0 0; have H5 := hide h5; clear h5 H4)
    | (go_at_call 38; refine (replay_calls H5.out mem4 HT.out (up5 HSP.out)).mono ?_; rintro x w6 ⟨m, rfl, kv, hcan, h6⟩; have H6 := hide h6; have HCAN := hide hcan; clear h6 hcan H5)
    | ((with_reducible refine wpList_box_st (cs := [.pointer (some ⟨gl, 0, none⟩), .map (some m)]) rfl (.tmp 19) rfl rfl H6.out ?_); intro gs w7 h7; have H7 := hide (show St b (HP.blk g2 (.cells #[.pointer none] 30) :: HP.blk g3 (.cells #[.int .i64 0] 31) :: HP.store gs gl m :: HP.fmap m kv :: HP.log gl gd l0 :: HP.disk gd d :: L) w7 from h7.pick [3, 2, 0, 1, 4, 5] 7 (by decide) (by decide) (by simp)); clear h7 H6)
    | ((with_reducible refine wpList_store1_st rfl 30 (.tmp 2) (.tmp 20) rfl szPtrS rfl rfl rfl rfl H7.out ?_); intro w8 h8; have H8 := hide (show St b (HP.fmap m kv :: HP.blk g2 (.cells #[.pointer (some ⟨gs, 0, none⟩)] 30) :: HP.blk g3 (.cells #[.int .i64 0] 31) :: HP.store gs gl m :: HP.log gl gd l0 :: HP.disk gd d :: L) w8 from h8.pick [3, 0, 1, 2] 4 (by decide) (by decide) (by simp)); clear h8 H7))
  have hokc : OkF (canon kv) := by rw [HCAN.out]; exact HOK.out
  have HOKC := hide hokc
  clear hokc
  refine wp_region_held_drew (S := fun w' => w'.cell? ⟨g2, 0, none⟩ = some (.pointer (some ⟨gs, 0, none⟩)) ∧ w'.cell? ⟨gs, 1, none⟩ = some (.map (some m))) (by kernel_rfl) ?_ (fun hHeld => ?_)
  · exact ⟨H8.out.drew.blk_cell mem1 0, H8.out.drew.blk_cell mem3 1⟩
  refine wpAnyH_takeD (i := 0) (some 21) (v := ?v0_1) rfl rfl (by kernel_rfl) (by kernel_rfl) (by kernel_rfl) (fun _ _ _ h => leaves_puto (by decide) h) (by rfl) ?y0_1 (by assumption) ?r0_1
  case y0_1 => (intro w hSw; (try dsimp only at hSw); first | (go_simp; done) | (go_simp; with_reducible rfl))
  try simp only [Act.put, List.setIfInBounds_toArray, List.set_cons_zero, List.set_cons_succ]
  refine wpAnyH_takeD (i := 1) (some 22) (v := ?v1_2) rfl rfl (by kernel_rfl) (by kernel_rfl) (by kernel_rfl) (fun _ _ _ h => leaves_puto (by decide) h) (by rfl) ?y1_2 (by assumption) ?r1_2
  case y1_2 => (intro w hSw; (try dsimp only at hSw); first | (go_simp; done) | (go_simp; with_reducible rfl))
  try simp only [Act.put, List.setIfInBounds_toArray, List.set_cons_zero, List.set_cons_succ]
  refine wpAnyH_takeD (i := 2) (some 23) (v := ?v2_3) rfl rfl (by kernel_rfl) (by kernel_rfl) (by kernel_rfl) (fun _ _ _ h => leaves_puto (by decide) h) (by rfl) ?y2_3 (by assumption) ?r2_3
  case y2_3 => (intro w hSw; (try dsimp only at hSw); first | (go_simp; done) | (go_simp; with_reducible rfl))
  try simp only [Act.put, List.setIfInBounds_toArray, List.set_cons_zero, List.set_cons_succ]
  refine wpAnyH_takeD (i := 3) (some 24) (v := ?v3_4) rfl rfl (by kernel_rfl) (by kernel_rfl) (by kernel_rfl) (fun _ _ _ h => leaves_puto (by decide) h) (by rfl) ?y3_4 (by assumption) ?r3_4
  case y3_4 => (intro w hSw; (try dsimp only at hSw); first | (go_simp; done) | (go_simp; with_reducible rfl))
  try simp only [Act.put, List.setIfInBounds_toArray, List.set_cons_zero, List.set_cons_succ]
  refine wpAnyH_takeD (i := 4) (some 25) (v := ?v4_5) rfl rfl (by kernel_rfl) (by kernel_rfl) (by kernel_rfl) (fun _ _ _ h => leaves_puto (by decide) h) (by rfl) ?y4_5 (by assumption) ?r4_5
  case y4_5 => (intro w hSw; (try dsimp only at hSw); first | (go_simp; done) | (go_simp; with_reducible rfl))
  try simp only [Act.put, List.setIfInBounds_toArray, List.set_cons_zero, List.set_cons_succ]
  refine wpAnyH_takeD (i := 5) (some 26) (v := ?v5_6) rfl rfl (by kernel_rfl) (by kernel_rfl) (by kernel_rfl) (fun _ _ _ h => leaves_puto (by decide) h) (by rfl) ?y5_6 (by assumption) ?r5_6
  case y5_6 => (intro w hSw; (try dsimp only at hSw); first | (go_simp; done) | (go_simp; with_reducible rfl))
  try simp only [Act.put, List.setIfInBounds_toArray, List.set_cons_zero, List.set_cons_succ]
  refine wpAnyH_ready (rs := [6]) (by kernel_rfl) (by simp) ?_
  refine AllReadyH.cons rfl (fun K hK => ?_) ?_
  · go_simp
    go_at_call 40
    refine (whole_calls H8.out.drew HOKC.out).mono ?_
    rintro z w9 ⟨b9, n9, c9, rfl, hn9, h9⟩
    rw [HCAN.out] at h9 hn9
    subst hn9
    have H9 := hide (show St b (HP.log gl gd l0 :: HP.disk gd d :: HP.sl byteE (.slice b9 (setB F).length c9) (setB F) :: HP.blk g2 (.cells #[.pointer (some ⟨gs, 0, none⟩)] 30) :: HP.blk g3 (.cells #[.int .i64 0] 31) :: HP.store gs gl m :: HP.fmap m kv :: L) w9 from h9.persist.pick [5, 6, 0, 2, 3, 4, 1] 7 (by decide) (by decide) (by simp))
    clear h9 H8
    refine hK.out _ _ ?_ (fun hHeld => ?_)
    · exact ⟨H9.out.blk_cell mem3 0, H9.out.blk_cell mem5 1⟩
    clear hK K
    try simp only [Act.put, List.setIfInBounds_toArray, List.set_cons_zero, List.set_cons_succ]
    refine wpAnyH_ready (rs := [7]) (by kernel_rfl) (by simp) ?_
    refine AllReadyH.cons rfl (fun K hK => ?_) ?_
    · go_simp
      go_at_call 39
      refine (fresh_calls (l := l0) (t := setB F) H9.out mem0 HP'.out.1 HP'.out.2.1 HP'.out.2.2.1 HP'.out.2.2.2.1 HP'.out.2.2.2.2).mono ?_
      rintro z w10 ⟨rfl, h10⟩
      rw [HFR.out] at h10
      rw [HFR.out]
      have H10 := hide (show St b (HP.blk g2 (.cells #[.pointer (some ⟨gs, 0, none⟩)] 30) :: HP.blk g3 (.cells #[.int .i64 0] 31) :: HP.store gs gl m :: HP.fmap m kv :: HP.log gl gd l' :: HP.disk gd d' :: L) w10 from h10.pick [3, 4, 5, 6, 0, 1] 7 (by decide) (by decide) (by simp))
      clear h10 H9
      refine hK.out _ _ ?_ (fun hHeld => ?_)
      · exact ⟨H10.out.blk_cell mem0 0, H10.out.blk_cell mem2 1⟩
      clear hK K
      try simp only [Act.put, List.setIfInBounds_toArray, List.set_cons_zero, List.set_cons_succ]
      refine wpAnyH_ready (rs := [8]) (by kernel_rfl) (by simp) ?_
      refine AllReadyH.cons rfl (fun K hK => ?_) ?_
      · refine step_storeF_st (cs := [.pointer (some ⟨gs, 0, none⟩)]) (ds := [.pointer (some ⟨gs, 0, none⟩)]) rfl 30 (.tmp 2) (.tmp 21) rfl szPtrS rfl rfl rfl rfl H10.out (by simp) rfl ?_
        intro w11 h11
        have H11 := hide (show St b (HP.blk g3 (.cells #[.int .i64 0] 31) :: HP.blk g2 (.cells #[.pointer (some ⟨gs, 0, none⟩)] 30) :: HP.store gs gl m :: HP.fmap m kv :: HP.log gl gd l' :: HP.disk gd d' :: L) w11 from h11.f1)
        clear h11 H10
        refine hK.out _ _ ?_ (fun hHeld => ?_)
        · exact ⟨H11.out.blk_cell mem1 0, H11.out.blk_cell mem2 1⟩
        clear hK K
        try simp only [Act.put, List.setIfInBounds_toArray, List.set_cons_zero, List.set_cons_succ]
        refine wpAnyH_ready (rs := [9]) (by kernel_rfl) (by simp) ?_
        refine AllReadyH.cons rfl (fun K hK => ?_) ?_
        · refine step_storeF_st (cs := [.int .i64 0]) (ds := [.int .i64 0]) rfl 31 (.tmp 3) (.tmp 28) rfl szErrno rfl rfl rfl rfl H11.out (by simp) rfl ?_
          intro w12 h12
          have q2 : w12.cell? ⟨g2, 0, none⟩ = some (.pointer (some ⟨gs, 0, none⟩)) := h12.blk_cell mem1 0
          have q3b : w12.cell? ⟨g3, 0, none⟩ = some (.int .i64 0) := h12.blk_cell mem0 0
          have H12 := hide (h12.drop.drop)
          clear h12 H11
          refine hK.out _ _ ?_ (fun hHeld => ?_)
          · exact ⟨q2, H12.out.blk_cell mem0 1⟩
          clear hK K
          try simp only [Act.put, List.setIfInBounds_toArray, List.set_cons_zero, List.set_cons_succ]
          refine wpAnyH_done (by kernel_rfl) ?_ _
          clear hHeld
          go_wp2_with fail
          refine leaves_cons (f := 36) (args := #[.pointer (some ⟨g3, 0, none⟩), .pointer (some ⟨g2, 0, none⟩)]) (by simp) (by simp [go_sem]) ?_
          refine (open1_d .returning q3b).mono ?_
          rintro e u' w'' ⟨rfl, rfl, rfl⟩
          exact ⟨_, results_cells2 (p := 2) (q := 3) rfl szPtrS szErrno _ _ rfl rfl (by simp [go_sem, q2]) (by simp [go_sem, q3b]), gs, rfl, gl, m, kv, HCAN.out, H12.out⟩
        exact AllReadyH.nil
      exact AllReadyH.nil
    exact AllReadyH.nil
  exact AllReadyH.nil
end Go.Proofs.YtcgnkloljfgiaaaGreatDoor

namespace Go.Proofs.YtcgnkloljfgiaaaGreatDoor
open Go.RowKit Go.Maps Go.MapKept
variable {b : Env} {L : List HP} {w : World} {gd : Nat} {d : Dk}
theorem szFiles : (Tryz.prog.info? 72).map (·.size) = some 1 := by kernel_rfl
theorem same_iff {kv fl : List (Str × Str)} (h1 : (keysOf kv).Nodup) (h2 : (keysOf fl).Nodup) : SameM kv fl ↔ canon kv = canon fl := by
  constructor
  · intro h
    exact canon_ext (inc_canon h2) h1 fun s => by rw [kget_canon]; exact h s
  · intro h s
    rw [← kget_canon kv, ← kget_canon fl, h]
set_option linter.unusedSimpArgs false in
set_option maxRecDepth 100000 in
set_option maxHeartbeats 8000000 in
theorem scommit_calls {gs gl m N : Nat} {k : Int} {l : LogR} {kv fl : List (Str × Str)} {v : Value} (h : St b (HP.store gs gl m :: HP.fmap m kv :: HP.log gl gd l :: HP.disk gd d :: L) w) (hr : Reads pairE L v fl) (hl : OkL fl)
    (hS : StoreI d N k l (canon kv)) (hk : 0 ≤ k ∧ k ≤ 10000000) (hN : N ≤ 256) (hg : l.gen ≤ 1000000) (hp : partsOf (setB (canon fl)).length ≤ 255) (hsp : HP.spaces ∈ L) :
    Calls Tryz.prog 17 #[.pointer (some ⟨gs, 0, none⟩), v] w fun x w' => x = .returned (.int .i64 (commitD d l (canon kv) (canon fl)).1) ∧ ∃ m2 kv2, canon kv2 = (commitD d l (canon kv) (canon fl)).2.2.2 ∧
      St b (HP.store gs gl m2 :: HP.fmap m2 kv2 :: HP.log gl gd (commitD d l (canon kv) (canon fl)).2.2.1 :: HP.disk gd (commitD d l (canon kv) (canon fl)).2.1 :: L) w' := by
  have hnd : (keysOf kv).Nodup := by obtain ⟨e, _, hs⟩ := h.drop; exact hs.map_nodup
  have hF := hS.ok
  have hG := hl.okF
  have hsame := same_iff hnd hl.nd
  have hl8 : kv.length ≤ 8 := by rw [← (canon_mem hnd).length_eq]; exact hF.len
  have hfl8 := hl.len
  have hlen : d.last.length = N := hS.al.len
  have hgood := hS.al.good
  have hops : d.ops ≤ 100000000 := by rw [hS.al.ops]; omega
  have hmost : d.last.length ≤ 256 := by omega
  obtain ⟨rows, hI, hT⟩ := hS.rows
  have hrc := hI.rc_le
  have hfit := hI.fit
  have hmo := hI.mo
  have hhf := hI.hf
  have hln : l.next ≤ d.last.length / 2 := by rw [hlen]; exact hfit
  obtain ⟨G, hGe⟩ : ∃ G, canon fl = G := ⟨_, rfl⟩
  obtain ⟨F, hFe⟩ : ∃ F, canon kv = F := ⟨_, rfl⟩
  rw [hGe] at hG hp hsame ⊢
  rw [hFe] at hF hsame hT ⊢
  have c0 : w.cell? ⟨gs, 0, none⟩ = some (.pointer (some ⟨gl, 0, none⟩)) := h.blk_cell mem0 0
  have H := hide h
  have HR := hide (show Reads pairE (HP.store gs gl m :: HP.fmap m kv :: HP.log gl gd l :: HP.disk gd d :: L) v fl from hr.up.up.up.up)
  have HL := hide hl
  have HGE := hide hGe
  have HFE := hide hFe
  have HFO := hide hF
  have HGO := hide hG
  have HSP := hide hsp
  have HPP := hide hp
  have HMO := hide hmost
  have HGD := hide (And.intro hgood hops)
  have HLL := hide (And.intro hl8 hfl8)
  by_cases hfi : partsOf (setB G).length ≤ d.last.length / 2
  · have HFI := hide (decide_eq_true hfi)
    have hp128 : partsOf (setB G).length ≤ 128 := by omega
    have hc5 := changes_parts hF hG hp128
    by_cases hfg : F = G
    · have hcm : commitD d l F G = (0, d, l, F) := by unfold commitD; rw [if_neg (by omega), if_pos hfg]
      have HCM := hide hcm
      have HSAME := hide (hsame.2 hfg)
      clear h hr hl hS hsp hnd hF hG hsame hl8 hfl8 hlen hgood hops hmost hI hT hrc hfit hmo hhf hln hGe hFe hp hfi hp128 hc5 hcm hfg
      go_enter Tryz.func17, Tryz.ntmps17
      go_wp2_with (first
        | (go_at_call 42; refine (of_calls H.out HR.out (up4 HSP.out) HL.out).mono ?_; rintro x w1 ⟨m2, rfl, h1⟩; have H1 := hide h1; clear h1 H)
        | (go_at_call 40; refine (whole_calls H1.out (by rw [HGE.out]; exact HGO.out)).mono ?_; rintro x w2 ⟨bw, nw, cw, rfl, hnw, h2⟩; rw [HGE.out] at h2 hnw; subst hnw; have c0b : w2.cell? ⟨gs, 0, none⟩ = some (.pointer (some ⟨gl, 0, none⟩)) := h2.blk_cell mem2 0; have H2 := hide (show St b (HP.log gl gd l :: HP.disk gd d :: HP.sl byteE (.slice bw (setB G).length cw) (setB G) :: HP.fmap m2 fl :: HP.store gs gl m :: HP.fmap m kv :: L) w2 from h2.persist.pick [4, 5, 0, 1, 2, 3] 6 (by decide) (by decide) (by simp)); clear h2 H1)
        | (go_at_call 43; refine (fits_calls H2.out mem0 HMO.out HPP.out).mono ?_; rintro x w3 ⟨rfl, h3⟩; rw [HFI.out]; have c1b : w3.cell? ⟨gs, 1, none⟩ = some (.map (some m)) := h3.blk_cell mem4 1; have H3 := hide (show St b (HP.fmap m kv :: HP.fmap m2 fl :: HP.log gl gd l :: HP.disk gd d :: HP.sl byteE (.slice bw (setB G).length cw) (setB G) :: HP.store gs gl m :: L) w3 from h3.pick [5, 3, 0, 1, 2, 4] 6 (by decide) (by decide) (by simp)); clear h3 H2)
        | (go_at_call 44; refine (equal_calls H3.out (by have := HLL.out.1; omega) (by have := HLL.out.2; omega)).mono ?_; rintro x w4 (⟨rfl, hs, h4⟩ | ⟨rfl, hs, h4⟩); exact absurd HSAME.out hs; have H4 := hide h4; clear h4 hs H3))
      go_ret
      rw [HCM.out]
      exact ⟨rfl, m, kv, HFE.out, H4.out.pick [5, 0, 2, 3] 6 (by decide) (by decide) (by simp)⟩
    · have HNS := hide (fun hs => hfg (hsame.1 hs))
      obtain ⟨a1, a2⟩ := append_alive (t := changesB F G) hS.al (by omega) hN hI (by omega) (by omega) hc5
      have HAG := hide (And.intro hgood (And.intro hops (And.intro hc5 (And.intro (show l.gen ≤ 4294967295 by omega) (And.intro hhf (And.intro (show l.rc ≤ 65535 by omega) hln))))))
      have HFG := hide (And.intro hgood (And.intro hops (And.intro hp (And.intro (show l.most + 1 ≤ 4294967295 by omega) hhf))))
      by_cases hap : l.next + partsOf (changesB F G).length ≤ N / 2
      · obtain ⟨d', e1, -, -⟩ := a1 hap
        have hcm : commitD d l F G = (0, d', ⟨l.gen, l.half, l.next + partsOf (changesB F G).length, l.rc + 1, l.most⟩, G) := by unfold commitD; rw [if_neg (by omega), if_neg hfg, e1]; rfl
        have HCM := hide hcm
        have HA := hide e1
        clear h hr hl hS hsp hnd hF hG hsame hl8 hfl8 hlen hgood hops hmost hI hT hrc hfit hmo hhf hln hGe hFe hp hfi hp128 hc5 hcm hfg a1 a2 e1 hap
        go_enter Tryz.func17, Tryz.ntmps17
        go_wp2_with (first
          | (go_at_call 42; refine (of_calls H.out HR.out (up4 HSP.out) HL.out).mono ?_; rintro x w1 ⟨m2, rfl, h1⟩; have H1 := hide h1; clear h1 H)
          | (go_at_call 40; refine (whole_calls H1.out (by rw [HGE.out]; exact HGO.out)).mono ?_; rintro x w2 ⟨bw, nw, cw, rfl, hnw, h2⟩; rw [HGE.out] at h2 hnw; subst hnw; have c0b : w2.cell? ⟨gs, 0, none⟩ = some (.pointer (some ⟨gl, 0, none⟩)) := h2.blk_cell mem2 0; have H2 := hide (show St b (HP.log gl gd l :: HP.disk gd d :: HP.sl byteE (.slice bw (setB G).length cw) (setB G) :: HP.fmap m2 fl :: HP.store gs gl m :: HP.fmap m kv :: L) w2 from h2.persist.pick [4, 5, 0, 1, 2, 3] 6 (by decide) (by decide) (by simp)); clear h2 H1)
          | (go_at_call 43; refine (fits_calls H2.out mem0 HMO.out HPP.out).mono ?_; rintro x w3 ⟨rfl, h3⟩; rw [HFI.out]; have c1b : w3.cell? ⟨gs, 1, none⟩ = some (.map (some m)) := h3.blk_cell mem4 1; have H3 := hide (show St b (HP.fmap m kv :: HP.fmap m2 fl :: HP.log gl gd l :: HP.disk gd d :: HP.sl byteE (.slice bw (setB G).length cw) (setB G) :: HP.store gs gl m :: L) w3 from h3.pick [5, 3, 0, 1, 2, 4] 6 (by decide) (by decide) (by simp)); clear h3 H2)
          | (go_at_call 44; refine (equal_calls H3.out (by have := HLL.out.1; omega) (by have := HLL.out.2; omega)).mono ?_; rintro x w4 (⟨rfl, hs, h4⟩ | ⟨rfl, hs, h4⟩); rotate_left; exact absurd hs HNS.out; have H4 := hide h4; clear h4 hs H3))
        refine wp_region_held_drew (S := fun w' => w'.cell? ⟨gs, 0, none⟩ = some (.pointer (some ⟨gl, 0, none⟩)) ∧ w'.cell? ⟨gs, 1, none⟩ = some (.map (some m))) (by kernel_rfl) ?_ (fun hHeld => ?_)
        · exact ⟨H4.out.drew.blk_cell mem5 0, H4.out.drew.blk_cell mem5 1⟩
        refine wpAnyH_takeD (i := 0) (some 34) (v := ?v0_1) rfl rfl (by kernel_rfl) (by kernel_rfl) (by kernel_rfl) (fun _ _ _ h => h) (by rfl) ?y0_1 (by assumption) ?r0_1
        case y0_1 => (intro w hSw; (try dsimp only at hSw); first | (go_simp; done) | (go_simp; with_reducible rfl))
        try simp only [Act.put, List.setIfInBounds_toArray, List.set_cons_zero, List.set_cons_succ]
        refine wpAnyH_takeD (i := 1) (some 35) (v := ?v1_2) rfl rfl (by kernel_rfl) (by kernel_rfl) (by kernel_rfl) (fun _ _ _ h => h) (by rfl) ?y1_2 (by assumption) ?r1_2
        case y1_2 => (intro w hSw; (try dsimp only at hSw); first | (go_simp; done) | (go_simp; with_reducible rfl))
        try simp only [Act.put, List.setIfInBounds_toArray, List.set_cons_zero, List.set_cons_succ]
        refine wpAnyH_takeD (i := 2) (some 36) (v := ?v2_3) rfl rfl (by kernel_rfl) (by kernel_rfl) (by kernel_rfl) (fun _ _ _ h => h) (by rfl) ?y2_3 (by assumption) ?r2_3
        case y2_3 => (intro w hSw; (try dsimp only at hSw); first | (go_simp; done) | (go_simp; with_reducible rfl))
        try simp only [Act.put, List.setIfInBounds_toArray, List.set_cons_zero, List.set_cons_succ]
        refine wpAnyH_takeD (i := 3) (some 37) (v := ?v3_4) rfl rfl (by kernel_rfl) (by kernel_rfl) (by kernel_rfl) (fun _ _ _ h => h) (by rfl) ?y3_4 (by assumption) ?r3_4
        case y3_4 => (intro w hSw; (try dsimp only at hSw); first | (go_simp; done) | (go_simp; with_reducible rfl))
        try simp only [Act.put, List.setIfInBounds_toArray, List.set_cons_zero, List.set_cons_succ]
        refine wpAnyH_takeD (i := 4) (some 38) (v := ?v4_5) rfl rfl (by kernel_rfl) (by kernel_rfl) (by kernel_rfl) (fun _ _ _ h => h) (by rfl) ?y4_5 (by assumption) ?r4_5
        case y4_5 => (intro w hSw; (try dsimp only at hSw); first | (go_simp; done) | (go_simp; with_reducible rfl))
        try simp only [Act.put, List.setIfInBounds_toArray, List.set_cons_zero, List.set_cons_succ]
        refine wpAnyH_takeD (i := 5) (some 39) (v := ?v5_6) rfl rfl (by kernel_rfl) (by kernel_rfl) (by kernel_rfl) (fun _ _ _ h => h) (by rfl) ?y5_6 (by assumption) ?r5_6
        case y5_6 => (intro w hSw; (try dsimp only at hSw); first | (go_simp; done) | (go_simp; with_reducible rfl))
        try simp only [Act.put, List.setIfInBounds_toArray, List.set_cons_zero, List.set_cons_succ]
        refine wpAnyH_takeD (i := 6) (some 40) (v := ?v6_7) rfl rfl (by kernel_rfl) (by kernel_rfl) (by kernel_rfl) (fun _ _ _ h => h) (by rfl) ?y6_7 (by assumption) ?r6_7
        case y6_7 => (intro w hSw; (try dsimp only at hSw); first | (go_simp; done) | (go_simp; with_reducible rfl))
        try simp only [Act.put, List.setIfInBounds_toArray, List.set_cons_zero, List.set_cons_succ]
        refine wpAnyH_takeD (i := 7) (some 41) (v := ?v7_8) rfl rfl (by kernel_rfl) (by kernel_rfl) (by kernel_rfl) (fun _ _ _ h => h) (by rfl) ?y7_8 (by assumption) ?r7_8
        case y7_8 => (intro w hSw; (try dsimp only at hSw); first | (go_simp; done) | (go_simp; with_reducible rfl))
        try simp only [Act.put, List.setIfInBounds_toArray, List.set_cons_zero, List.set_cons_succ]
        refine wpAnyH_takeD (i := 8) (some 42) (v := ?v8_9) rfl rfl (by kernel_rfl) (by kernel_rfl) (by kernel_rfl) (fun _ _ _ h => h) (by rfl) ?y8_9 (by assumption) ?r8_9
        case y8_9 => (intro w hSw; (try dsimp only at hSw); first | (go_simp; done) | (go_simp; with_reducible rfl))
        try simp only [Act.put, List.setIfInBounds_toArray, List.set_cons_zero, List.set_cons_succ]
        refine wpAnyH_ready (rs := [9]) (by kernel_rfl) (by simp) ?_
        refine AllReadyH.cons rfl (fun K hK => ?_) ?_
        · go_simp
          go_at_call 46
          refine (changes_calls H4.out.drew (by rw [HFE.out]; exact HFO.out) (by rw [HGE.out]; exact HGO.out)).mono ?_
          rintro z w5 ⟨b5, n5, c5, rfl, hn5, h5⟩
          rw [HFE.out, HGE.out] at h5 hn5
          subst hn5
          have H5 := hide (show St b (HP.log gl gd l :: HP.disk gd d :: HP.sl byteE (.slice b5 (changesB F G).length c5) (changesB F G) :: HP.sl byteE (.slice bw (setB G).length cw) (setB G) :: HP.store gs gl m :: HP.fmap m kv :: HP.fmap m2 fl :: L) w5 from h5.persist.pick [3, 4, 0, 5, 6, 1, 2] 7 (by decide) (by decide) (by simp))
          clear h5 H4
          refine hK.out _ _ ?_ (fun hHeld => ?_)
          · exact ⟨H5.out.blk_cell mem4 0, H5.out.blk_cell mem4 1⟩
          clear hK K
          try simp only [Act.put, List.setIfInBounds_toArray, List.set_cons_zero, List.set_cons_succ]
          refine wpAnyH_ready (rs := [10]) (by kernel_rfl) (by simp) ?_
          refine AllReadyH.cons rfl (fun K hK => ?_) ?_
          · go_simp
            go_at_call 45
            refine (append_calls (l := l) (t := changesB F G) H5.out mem0 HAG.out.1 HAG.out.2.1 HAG.out.2.2.1 HAG.out.2.2.2.1 HAG.out.2.2.2.2.1 HAG.out.2.2.2.2.2.1 HAG.out.2.2.2.2.2.2).mono ?_
            rintro z w6 ⟨rfl, h6⟩
            rw [HA.out] at h6
            rw [HA.out]
            have c06 : w6.cell? ⟨gs, 0, none⟩ = some (.pointer (some ⟨gl, 0, none⟩)) := h6.blk_cell mem4 0
            have H6 := hide h6
            clear h6 H5
            refine hK.out _ _ ?_ (fun hHeld => ?_)
            · exact ⟨H6.out.blk_cell mem4 0, H6.out.blk_cell mem4 1⟩
            clear hK K
            try simp only [Act.put, List.setIfInBounds_toArray, List.set_cons_zero, List.set_cons_succ]
            refine wpAnyH_takeD (i := 11) (some 33) (v := ?v11_10) rfl rfl (by kernel_rfl) (by kernel_rfl) (by kernel_rfl) (fun _ _ _ h => h) (by rfl) ?y11_10 (by assumption) ?r11_10
            case y11_10 => (intro w hSw; (try dsimp only at hSw); first | (go_simp; done) | (go_simp; with_reducible rfl))
            try simp only [Act.put, List.setIfInBounds_toArray, List.set_cons_zero, List.set_cons_succ]
            refine wpAnyH_takeD (i := 12) (some 45) (v := ?v12_11) rfl rfl (by kernel_rfl) (by kernel_rfl) (by kernel_rfl) (fun _ _ _ h => h) (by rfl) ?y12_11 (by assumption) ?r12_11
            case y12_11 => (intro w hSw; (try dsimp only at hSw); first | (go_simp; done) | (go_simp; with_reducible rfl))
            try simp only [Act.put, List.setIfInBounds_toArray, List.set_cons_zero, List.set_cons_succ]
            refine wpAnyH_takeD (i := 13) (some 46) (v := ?v13_12) rfl rfl (by kernel_rfl) (by kernel_rfl) (by kernel_rfl) (fun _ _ _ h => h) (by rfl) ?y13_12 (by assumption) ?r13_12
            case y13_12 => (intro w hSw; (try dsimp only at hSw); first | (go_simp; done) | (go_simp; with_reducible rfl))
            try simp only [Act.put, List.setIfInBounds_toArray, List.set_cons_zero, List.set_cons_succ]
            refine wpAnyH_takeD (i := 14) (some 6) (v := ?v14_13) rfl rfl (by kernel_rfl) (by kernel_rfl) (by kernel_rfl) (fun _ _ _ h => h) (by rfl) ?y14_13 (by assumption) ?r14_13
            case y14_13 => (intro w hSw; (try dsimp only at hSw); first | (go_simp; done) | (go_simp; with_reducible rfl))
            try simp only [Act.put, List.setIfInBounds_toArray, List.set_cons_zero, List.set_cons_succ]
            refine wpAnyH_takeD (i := 15) (some 8) (v := ?v15_14) rfl rfl (by kernel_rfl) (by kernel_rfl) (by kernel_rfl) (fun _ _ _ h => h) (by rfl) ?y15_14 (by assumption) ?r15_14
            case y15_14 => (intro w hSw; (try dsimp only at hSw); first | (go_simp; done) | (go_simp; with_reducible rfl))
            try simp only [Act.put, List.setIfInBounds_toArray, List.set_cons_zero, List.set_cons_succ]
            refine wpAnyH_done (by kernel_rfl) ?_ _
            clear hHeld
            go_wp2_with (first
              | ((with_reducible refine wpList_storeF_st (cs := [.pointer (some ⟨gl, 0, none⟩), .map (some m)]) (ds := [.pointer (some ⟨gl, 0, none⟩), .map (some m2)]) rfl 72 (.tmp 64) (.tmp 62) rfl szFiles rfl rfl rfl rfl H6.out.f4 (by simp) rfl ?_); intro w8 h8; have H8 := hide h8; clear h8 H6))
            go_ret
            rw [HCM.out]
            exact ⟨rfl, m2, fl, HGE.out, H8.out.pick [0, 6, 1, 2] 7 (by decide) (by decide) (by simp)⟩
          exact AllReadyH.nil
        exact AllReadyH.nil
      · have e1 := a2 (by omega)
        obtain ⟨d', e2, -, -⟩ := fresh_alive (l := l) (t := setB G) hS.al (by omega) hN (fun i p hp => by rw [hmo]; exact (hI.all i p hp).1) hhf (by omega) (by omega)
        obtain ⟨l2, hl2⟩ : ∃ x, (⟨l.most + 1, if 0 < l.gen then 1 - l.half else 0, partsOf (setB G).length, 1, l.most + 1⟩ : LogR) = x := ⟨_, rfl⟩
        rw [hl2] at e2
        have hcm : commitD d l F G = (0, d', l2, G) := by unfold commitD; rw [if_neg (by omega), if_neg hfg, e1]; simp only [if_true, Bool.false_eq_true, if_false, e2]
        have HCM := hide hcm
        have HA := hide e1
        have HFR := hide e2
        clear h hr hl hS hsp hnd hF hG hsame hl8 hfl8 hlen hgood hops hmost hI hT hrc hfit hmo hhf hln hGe hFe hp hfi hp128 hc5 hcm hfg a1 a2 e1 e2 hap hl2
        go_enter Tryz.func17, Tryz.ntmps17
        go_wp2_with (first
          | (go_at_call 42; refine (of_calls H.out HR.out (up4 HSP.out) HL.out).mono ?_; rintro x w1 ⟨m2, rfl, h1⟩; have H1 := hide h1; clear h1 H)
          | (go_at_call 40; refine (whole_calls H1.out (by rw [HGE.out]; exact HGO.out)).mono ?_; rintro x w2 ⟨bw, nw, cw, rfl, hnw, h2⟩; rw [HGE.out] at h2 hnw; subst hnw; have c0b : w2.cell? ⟨gs, 0, none⟩ = some (.pointer (some ⟨gl, 0, none⟩)) := h2.blk_cell mem2 0; have H2 := hide (show St b (HP.log gl gd l :: HP.disk gd d :: HP.sl byteE (.slice bw (setB G).length cw) (setB G) :: HP.fmap m2 fl :: HP.store gs gl m :: HP.fmap m kv :: L) w2 from h2.persist.pick [4, 5, 0, 1, 2, 3] 6 (by decide) (by decide) (by simp)); clear h2 H1)
          | (go_at_call 43; refine (fits_calls H2.out mem0 HMO.out HPP.out).mono ?_; rintro x w3 ⟨rfl, h3⟩; rw [HFI.out]; have c1b : w3.cell? ⟨gs, 1, none⟩ = some (.map (some m)) := h3.blk_cell mem4 1; have H3 := hide (show St b (HP.fmap m kv :: HP.fmap m2 fl :: HP.log gl gd l :: HP.disk gd d :: HP.sl byteE (.slice bw (setB G).length cw) (setB G) :: HP.store gs gl m :: L) w3 from h3.pick [5, 3, 0, 1, 2, 4] 6 (by decide) (by decide) (by simp)); clear h3 H2)
          | (go_at_call 44; refine (equal_calls H3.out (by have := HLL.out.1; omega) (by have := HLL.out.2; omega)).mono ?_; rintro x w4 (⟨rfl, hs, h4⟩ | ⟨rfl, hs, h4⟩); rotate_left; exact absurd hs HNS.out; have H4 := hide h4; clear h4 hs H3))
        refine wp_region_held_drew (S := fun w' => w'.cell? ⟨gs, 0, none⟩ = some (.pointer (some ⟨gl, 0, none⟩)) ∧ w'.cell? ⟨gs, 1, none⟩ = some (.map (some m))) (by kernel_rfl) ?_ (fun hHeld => ?_)
        · exact ⟨H4.out.drew.blk_cell mem5 0, H4.out.drew.blk_cell mem5 1⟩
        refine wpAnyH_takeD (i := 0) (some 34) (v := ?v0_15) rfl rfl (by kernel_rfl) (by kernel_rfl) (by kernel_rfl) (fun _ _ _ h => h) (by rfl) ?y0_15 (by assumption) ?r0_15
        case y0_15 => (intro w hSw; (try dsimp only at hSw); first | (go_simp; done) | (go_simp; with_reducible rfl))
        try simp only [Act.put, List.setIfInBounds_toArray, List.set_cons_zero, List.set_cons_succ]
        refine wpAnyH_takeD (i := 1) (some 35) (v := ?v1_16) rfl rfl (by kernel_rfl) (by kernel_rfl) (by kernel_rfl) (fun _ _ _ h => h) (by rfl) ?y1_16 (by assumption) ?r1_16
        case y1_16 => (intro w hSw; (try dsimp only at hSw); first | (go_simp; done) | (go_simp; with_reducible rfl))
        try simp only [Act.put, List.setIfInBounds_toArray, List.set_cons_zero, List.set_cons_succ]
        refine wpAnyH_takeD (i := 2) (some 36) (v := ?v2_17) rfl rfl (by kernel_rfl) (by kernel_rfl) (by kernel_rfl) (fun _ _ _ h => h) (by rfl) ?y2_17 (by assumption) ?r2_17
        case y2_17 => (intro w hSw; (try dsimp only at hSw); first | (go_simp; done) | (go_simp; with_reducible rfl))
        try simp only [Act.put, List.setIfInBounds_toArray, List.set_cons_zero, List.set_cons_succ]
        refine wpAnyH_takeD (i := 3) (some 37) (v := ?v3_18) rfl rfl (by kernel_rfl) (by kernel_rfl) (by kernel_rfl) (fun _ _ _ h => h) (by rfl) ?y3_18 (by assumption) ?r3_18
        case y3_18 => (intro w hSw; (try dsimp only at hSw); first | (go_simp; done) | (go_simp; with_reducible rfl))
        try simp only [Act.put, List.setIfInBounds_toArray, List.set_cons_zero, List.set_cons_succ]
        refine wpAnyH_takeD (i := 4) (some 38) (v := ?v4_19) rfl rfl (by kernel_rfl) (by kernel_rfl) (by kernel_rfl) (fun _ _ _ h => h) (by rfl) ?y4_19 (by assumption) ?r4_19
        case y4_19 => (intro w hSw; (try dsimp only at hSw); first | (go_simp; done) | (go_simp; with_reducible rfl))
        try simp only [Act.put, List.setIfInBounds_toArray, List.set_cons_zero, List.set_cons_succ]
        refine wpAnyH_takeD (i := 5) (some 39) (v := ?v5_20) rfl rfl (by kernel_rfl) (by kernel_rfl) (by kernel_rfl) (fun _ _ _ h => h) (by rfl) ?y5_20 (by assumption) ?r5_20
        case y5_20 => (intro w hSw; (try dsimp only at hSw); first | (go_simp; done) | (go_simp; with_reducible rfl))
        try simp only [Act.put, List.setIfInBounds_toArray, List.set_cons_zero, List.set_cons_succ]
        refine wpAnyH_takeD (i := 6) (some 40) (v := ?v6_21) rfl rfl (by kernel_rfl) (by kernel_rfl) (by kernel_rfl) (fun _ _ _ h => h) (by rfl) ?y6_21 (by assumption) ?r6_21
        case y6_21 => (intro w hSw; (try dsimp only at hSw); first | (go_simp; done) | (go_simp; with_reducible rfl))
        try simp only [Act.put, List.setIfInBounds_toArray, List.set_cons_zero, List.set_cons_succ]
        refine wpAnyH_takeD (i := 7) (some 41) (v := ?v7_22) rfl rfl (by kernel_rfl) (by kernel_rfl) (by kernel_rfl) (fun _ _ _ h => h) (by rfl) ?y7_22 (by assumption) ?r7_22
        case y7_22 => (intro w hSw; (try dsimp only at hSw); first | (go_simp; done) | (go_simp; with_reducible rfl))
        try simp only [Act.put, List.setIfInBounds_toArray, List.set_cons_zero, List.set_cons_succ]
        refine wpAnyH_takeD (i := 8) (some 42) (v := ?v8_23) rfl rfl (by kernel_rfl) (by kernel_rfl) (by kernel_rfl) (fun _ _ _ h => h) (by rfl) ?y8_23 (by assumption) ?r8_23
        case y8_23 => (intro w hSw; (try dsimp only at hSw); first | (go_simp; done) | (go_simp; with_reducible rfl))
        try simp only [Act.put, List.setIfInBounds_toArray, List.set_cons_zero, List.set_cons_succ]
        refine wpAnyH_ready (rs := [9]) (by kernel_rfl) (by simp) ?_
        refine AllReadyH.cons rfl (fun K hK => ?_) ?_
        · go_simp
          go_at_call 46
          refine (changes_calls H4.out.drew (by rw [HFE.out]; exact HFO.out) (by rw [HGE.out]; exact HGO.out)).mono ?_
          rintro z w5 ⟨b5, n5, c5, rfl, hn5, h5⟩
          rw [HFE.out, HGE.out] at h5 hn5
          subst hn5
          have H5 := hide (show St b (HP.log gl gd l :: HP.disk gd d :: HP.sl byteE (.slice b5 (changesB F G).length c5) (changesB F G) :: HP.sl byteE (.slice bw (setB G).length cw) (setB G) :: HP.store gs gl m :: HP.fmap m kv :: HP.fmap m2 fl :: L) w5 from h5.persist.pick [3, 4, 0, 5, 6, 1, 2] 7 (by decide) (by decide) (by simp))
          clear h5 H4
          refine hK.out _ _ ?_ (fun hHeld => ?_)
          · exact ⟨H5.out.blk_cell mem4 0, H5.out.blk_cell mem4 1⟩
          clear hK K
          try simp only [Act.put, List.setIfInBounds_toArray, List.set_cons_zero, List.set_cons_succ]
          refine wpAnyH_ready (rs := [10]) (by kernel_rfl) (by simp) ?_
          refine AllReadyH.cons rfl (fun K hK => ?_) ?_
          · go_simp
            go_at_call 45
            refine (append_calls (l := l) (t := changesB F G) H5.out mem0 HAG.out.1 HAG.out.2.1 HAG.out.2.2.1 HAG.out.2.2.2.1 HAG.out.2.2.2.2.1 HAG.out.2.2.2.2.2.1 HAG.out.2.2.2.2.2.2).mono ?_
            rintro z w6 ⟨rfl, h6⟩
            rw [HA.out] at h6
            rw [HA.out]
            have c06 : w6.cell? ⟨gs, 0, none⟩ = some (.pointer (some ⟨gl, 0, none⟩)) := h6.blk_cell mem4 0
            have H6 := hide h6
            clear h6 H5
            refine hK.out _ _ ?_ (fun hHeld => ?_)
            · exact ⟨H6.out.blk_cell mem4 0, H6.out.blk_cell mem4 1⟩
            clear hK K
            try simp only [Act.put, List.setIfInBounds_toArray, List.set_cons_zero, List.set_cons_succ]
            refine wpAnyH_takeD (i := 11) (some 33) (v := ?v11_24) rfl rfl (by kernel_rfl) (by kernel_rfl) (by kernel_rfl) (fun _ _ _ h => h) (by rfl) ?y11_24 (by assumption) ?r11_24
            case y11_24 => (intro w hSw; (try dsimp only at hSw); first | (go_simp; done) | (go_simp; with_reducible rfl))
            try simp only [Act.put, List.setIfInBounds_toArray, List.set_cons_zero, List.set_cons_succ]
            refine wpAnyH_takeD (i := 12) (some 45) (v := ?v12_25) rfl rfl (by kernel_rfl) (by kernel_rfl) (by kernel_rfl) (fun _ _ _ h => h) (by rfl) ?y12_25 (by assumption) ?r12_25
            case y12_25 => (intro w hSw; (try dsimp only at hSw); first | (go_simp; done) | (go_simp; with_reducible rfl))
            try simp only [Act.put, List.setIfInBounds_toArray, List.set_cons_zero, List.set_cons_succ]
            refine wpAnyH_takeD (i := 13) (some 46) (v := ?v13_26) rfl rfl (by kernel_rfl) (by kernel_rfl) (by kernel_rfl) (fun _ _ _ h => h) (by rfl) ?y13_26 (by assumption) ?r13_26
            case y13_26 => (intro w hSw; (try dsimp only at hSw); first | (go_simp; done) | (go_simp; with_reducible rfl))
            try simp only [Act.put, List.setIfInBounds_toArray, List.set_cons_zero, List.set_cons_succ]
            refine wpAnyH_takeD (i := 14) (some 6) (v := ?v14_27) rfl rfl (by kernel_rfl) (by kernel_rfl) (by kernel_rfl) (fun _ _ _ h => h) (by rfl) ?y14_27 (by assumption) ?r14_27
            case y14_27 => (intro w hSw; (try dsimp only at hSw); first | (go_simp; done) | (go_simp; with_reducible rfl))
            try simp only [Act.put, List.setIfInBounds_toArray, List.set_cons_zero, List.set_cons_succ]
            refine wpAnyH_takeD (i := 15) (some 8) (v := ?v15_28) rfl rfl (by kernel_rfl) (by kernel_rfl) (by kernel_rfl) (fun _ _ _ h => h) (by rfl) ?y15_28 (by assumption) ?r15_28
            case y15_28 => (intro w hSw; (try dsimp only at hSw); first | (go_simp; done) | (go_simp; with_reducible rfl))
            try simp only [Act.put, List.setIfInBounds_toArray, List.set_cons_zero, List.set_cons_succ]
            refine wpAnyH_done (by kernel_rfl) ?_ _
            clear hHeld
            go_wp2_with (first
              | (go_at_call 39; refine (fresh_calls (l := l) (t := setB G) H6.out mem1 HFG.out.1 HFG.out.2.1 HFG.out.2.2.1 HFG.out.2.2.2.1 HFG.out.2.2.2.2).mono ?_; rintro x w7 ⟨rfl, h7⟩; rw [HFR.out] at h7; rw [HFR.out]; have H7 := hide h7; clear h7 H6)
              | ((with_reducible refine wpList_storeF_st (cs := [.pointer (some ⟨gl, 0, none⟩), .map (some m)]) (ds := [.pointer (some ⟨gl, 0, none⟩), .map (some m2)]) rfl 72 (.tmp 64) (.tmp 62) rfl szFiles rfl rfl rfl rfl H7.out.f4 (by simp) rfl ?_); intro w8 h8; have H8 := hide h8; clear h8 H7))
            go_ret
            rw [HCM.out]
            exact ⟨rfl, m2, fl, HGE.out, H8.out.pick [0, 6, 1, 2] 7 (by decide) (by decide) (by simp)⟩
          exact AllReadyH.nil
        exact AllReadyH.nil
  · have HFI := hide (decide_eq_false hfi)
    have hcm : commitD d l F G = (4, d, l, F) := by unfold commitD; rw [if_pos (by omega)]
    have HCM := hide hcm
    clear h hr hl hS hsp hnd hF hG hsame hl8 hfl8 hlen hgood hops hmost hI hT hrc hfit hmo hhf hln hGe hFe hp hfi hcm
    go_enter Tryz.func17, Tryz.ntmps17
    go_wp2_with (first
      | (go_at_call 42; refine (of_calls H.out HR.out (up4 HSP.out) HL.out).mono ?_; rintro x w1 ⟨m2, rfl, h1⟩; have H1 := hide h1; clear h1 H)
      | (go_at_call 40; refine (whole_calls H1.out (by rw [HGE.out]; exact HGO.out)).mono ?_; rintro x w2 ⟨bw, nw, cw, rfl, hnw, h2⟩; rw [HGE.out] at h2 hnw; subst hnw; have c0b : w2.cell? ⟨gs, 0, none⟩ = some (.pointer (some ⟨gl, 0, none⟩)) := h2.blk_cell mem2 0; have H2 := hide (show St b (HP.log gl gd l :: HP.disk gd d :: HP.sl byteE (.slice bw (setB G).length cw) (setB G) :: HP.fmap m2 fl :: HP.store gs gl m :: HP.fmap m kv :: L) w2 from h2.persist.pick [4, 5, 0, 1, 2, 3] 6 (by decide) (by decide) (by simp)); clear h2 H1)
      | (go_at_call 43; refine (fits_calls H2.out mem0 HMO.out HPP.out).mono ?_; rintro x w3 ⟨rfl, h3⟩; rw [HFI.out]; have c1b : w3.cell? ⟨gs, 1, none⟩ = some (.map (some m)) := h3.blk_cell mem4 1; have H3 := hide (show St b (HP.fmap m kv :: HP.fmap m2 fl :: HP.log gl gd l :: HP.disk gd d :: HP.sl byteE (.slice bw (setB G).length cw) (setB G) :: HP.store gs gl m :: L) w3 from h3.pick [5, 3, 0, 1, 2, 4] 6 (by decide) (by decide) (by simp)); clear h3 H2))
    go_ret
    rw [HCM.out]
    exact ⟨rfl, m, kv, HFE.out, H3.out.pick [5, 0, 2, 3] 6 (by decide) (by decide) (by simp)⟩
end Go.Proofs.YtcgnkloljfgiaaaGreatDoor
