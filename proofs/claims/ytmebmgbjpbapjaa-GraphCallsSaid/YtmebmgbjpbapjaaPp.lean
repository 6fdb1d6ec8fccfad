/-
  package graph: of, Calls, Spawns. deadboltlaw8: turned. No program in sight: a field of an element of an owned slice; what is spawned in what is turned. package graph: Reach; deadboltref8: Find.
-/
import Derived.Test.YtmebmgbjpbapjaaSp
import Derived.Test.YtmebmgbjpbapjaaGf
import Derived.Test.YtmebmgbjpbapjaaGz
import Derived.Test.YtmebmgbjpbapjaaP3
import Derived.Test.YtmebmgbjpbapjaaSr
import Derived.Test.YtmebmgbjpbapjaaP4
import Derived.Test.YtmebmgbjpbapjaaG6
import Derived.Test.YtmebmgbjpbapjaaG7
namespace Go.Proofs.Ytmebmgbjpbapjaa
open Go.RowKit Go.Maps Go.MapKept
variable {b : Env} {L : List HP} {w : World}

/-- The names that a function's statements of a kind have. -/
def namesP (kind : Int) (F : List FRec) (f : Str) : List Str := F.flatMap (fun x => if x.name = f then names kind x.body else [])
theorem namesP_succ {kind : Int} {F : List FRec} {f : Str} {k : Nat} (hk : k < F.length) {x : FRec} (hx : F[k] = x) : namesP kind (F.take (k + 1)) f = namesP kind (F.take k) f ++ (if x.name = f then names kind x.body else []) := by
  rw [List.take_succ_eq_append_getElem hk, hx]; simp [namesP]
/-- In order, each once. -/
def setS (l : List Str) : List Str := sortS (keysOf (putAll [] l))
theorem setS_inc (l : List Str) : Inc (setS l) := inc_sortS (nodup_putAll l (kvs := []) (by simp))
theorem mem_setS {l : List Str} {y : Str} : y ∈ setS l ↔ y ∈ l := by unfold setS; rw [mem_sortS, mem_putAll]
theorem setS_len (l : List Str) : (setS l).length ≤ l.length := by
  unfold setS
  have e : (sortS (keysOf (putAll [] l))).length = (keysOf (putAll [] l)).length := (List.mergeSort_perm _ _).length_eq
  rw [e, List.length_map]
  have := putAll_len l []
  simpa using this
theorem setS_ext {l m : List Str} (h : ∀ y, y ∈ l ↔ y ∈ m) : setS l = setS m := (setS_inc l).ext (setS_inc m) (fun y => by rw [mem_setS, mem_setS, h])

def OfAt (b : Env) (L : List HP) (m : Nat) (B : HP) (kind : Int) (F : List FRec) (f : Str) (i : Value) (wr : World) : Prop := ∃ k : Nat, k ≤ F.length ∧ i = .int .i64 k ∧ St b (HP.set m (putAll [] (namesP kind (F.take k) f)) :: B :: L) wr

set_option maxRecDepth 100000 in
set_option maxHeartbeats 2000000 in
theorem of_calls (h : St b L w) {vv vl vf : Value} {F : List FRec} (hm : HP.sl funcE vf F ∈ L) (f : Str) (kind : Int) :
    Calls Try.prog 44 #[.agg #[vv, vl, vf], sv f, .int .i64 kind] w fun x w' => ∃ m, x = .returned (.map (some m)) ∧ St b (HP.set m (putAll [] (namesP kind F f)) :: L) w' := by
  obtain ⟨bf, cf, rfl, hc1, hc2⟩ := h.sl_form hm
  have hm2 : (F.length : Int) ≤ 9223372036854775807 := by unfold maxLen at hc2; omega
  have H := hide h
  have HM := hide hm
  clear h hm hc1 hc2
  go_enter Try.func44, Try.ntmps44
  go_wp2_with (first
    | ((with_reducible refine wpList_box_st (cs := [vv, vl, .slice bf F.length cf]) rfl (.tmp 0) rfl rfl H.out ?_); intro g3 w1 h1; have H1 := hide h1; clear h1 H)
    | ((with_reducible refine wpList_makeMap_st rfl 66 rfl sv okStr Value.bool H1.out ?_); intro m w2 h2; have cf2 : w2.cell? ⟨g3, 2, none⟩ = some (.slice bf F.length cf) := h2.blk_cell mem1 2; have H2 := hide h2; clear h2 H1))
  go_loopw [14] (fun i wr => OfAt b L m (HP.blk g3 (.cells [vv, vl, .slice bf F.length cf].toArray 43)) kind F f i wr) (fun i _ => F.length - (intOf i).toNat)
  case atStart => exact ⟨0, by omega, rfl, H2.out⟩
  case round =>
    obtain ⟨k, hk, rfl, hs⟩ := hrel
    have H3 := hide hs
    clear hs H2
    by_cases hlt : k < F.length
    · have hlt' : (k : Int) < F.length := by omega
      obtain ⟨g, o, rfl⟩ := H3.out.sl_base (up2 HM.out) (by omega) (by decide)
      obtain ⟨cs, h4⟩ := H3.out.elem (up2 HM.out) (List.getElem?_eq_getElem hlt) (by decide)
      obtain ⟨x, hx⟩ : ∃ x, F[k] = x := ⟨_, rfl⟩
      have HNS := hide (namesP_succ (kind := kind) (f := f) hlt hx)
      rw [hx] at h4
      obtain ⟨e1, _, _, hrd⟩ := h4.elem_rd mem0
      have HONE := hide (funcE.one hrd)
      obtain ⟨v, hok, rfl, h5⟩ := h4.func
      have HCS : Hid (∀ j u, [sv x.name, Value.int .i64 x.pos, v][j]? = some u → wr.cell? ⟨g, o + k * 3 + j, none⟩ = some u) := hide (fun j u hj => h5.elem_cell mem1 j hj)
      have H5 := hide h5
      clear h4 h5 hrd hok H3 hx
      by_cases hn : x.name = f
      · have hnb : (x.name == f) = true := by simp [hn]
        have HN := hide hn
        clear hn
        go_wp2_with (first
          | (with_reducible refine wpList_load_ag (cs := [sv x.name, .int .i64 x.pos, v]) rfl agFunc (.tmp 16) rfl rfl rfl HCS.out ?_)
          | ((with_reducible refine wpList_alloc_ag rfl agFunc rfl H5.out ?_); intro g9 w9 h9; have H9 := hide h9; clear h9 H5)
          | ((with_reducible refine wpList_store_ag (cs := [sv x.name, .int .i64 x.pos, v]) rfl agFunc (.tmp 9) (.tmp 17) rfl rfl rfl rfl rfl HONE.out H9.out ?_); intro w10 h10; have c0 : w10.cell? ⟨g9, 0, none⟩ = some (.string ⟨x.name.toArray⟩) := h10.blk_cell mem0 0; have c2 : w10.cell? ⟨g9, 2, none⟩ = some v := h10.blk_cell mem0 2; have H10 := hide h10.f3; clear h10 H9)
          | (go_at_call 59; refine (gnamed_calls x.body b _ _ v m _ H10.out mem1 kind).mono ?_; rintro z w12 ⟨rfl, h12⟩; have H12 := hide h12.d1.d1.d1; clear h12 H10))
        go_roundw
        case rel => exact ⟨k + 1, by omega, by go_num, by rw [HNS.out, if_pos HN.out, putAll_append]; exact H12.out⟩
        case measure => exact meas_step hlt
      · have hnb : (x.name == f) = false := by simp [hn]
        have HN := hide hn
        clear hn
        go_wp2_with (first
          | (with_reducible refine wpList_load_ag (cs := [sv x.name, .int .i64 x.pos, v]) rfl agFunc (.tmp 16) rfl rfl rfl HCS.out ?_)
          | ((with_reducible refine wpList_alloc_ag rfl agFunc rfl H5.out ?_); intro g9 w9 h9; have H9 := hide h9; clear h9 H5)
          | ((with_reducible refine wpList_store_ag (cs := [sv x.name, .int .i64 x.pos, v]) rfl agFunc (.tmp 9) (.tmp 17) rfl rfl rfl rfl rfl HONE.out H9.out ?_); intro w10 h10; have c0 : w10.cell? ⟨g9, 0, none⟩ = some (.string ⟨x.name.toArray⟩) := h10.blk_cell mem0 0; have H10 := hide h10.f3.d1.d1.d1; clear h10 H9))
        go_roundw
        case rel => exact ⟨k + 1, by omega, by go_num, by rw [HNS.out, if_neg HN.out, List.append_nil]; exact H10.out⟩
        case measure => exact meas_step hlt
    · have hke : F.take k = F := List.take_of_length_le (by omega)
      have hf := H3.out.d1
      rw [hke] at hf
      have HF := hide hf
      clear hf hke H3
      go_wp2_with fail
      go_ret
      exact ⟨m, rfl, HF.out⟩

set_option maxRecDepth 100000 in
theorem gcalls_calls (h : St b L w) {vv vl vf : Value} {F : List FRec} (hm : HP.sl funcE vf F ∈ L) (f : Str) (hl : (namesP 5 F f).length ≤ 1000000) :
    Calls Try.prog 22 #[.agg #[vv, vl, vf], sv f] w fun x w' => ∃ v, x = .returned v ∧ St b (HP.sl strE v (setS (namesP 5 F f)) :: L) w' := by
  have H := hide h
  have HM := hide hm
  have HL := hide hl
  clear h hm hl
  go_enter Try.func22, Try.ntmps22
  go_wp2_with (first
    | ((with_reducible refine wpList_box_st (cs := [vv, vl, vf]) rfl (.tmp 0) rfl rfl H.out ?_); intro g2 w1 h1; have H1 := hide h1; clear h1 H)
    | (refine wpList_loadB_st (cs := [vv, vl, vf]) rfl agProg (.tmp 2) rfl rfl rfl H1.out mem0 ?_)
    | (go_at_call 44; refine (of_calls H1.out (up1 HM.out) f 5).mono ?_; rintro z w2 ⟨m, rfl, h2⟩; have H2 := hide h2; clear h2 H1)
    | (go_at_call 37; refine (sorted_calls H2.out (Nat.le_trans (putAll_len _ _) (by rw [List.length_nil, Nat.zero_add]; exact HL.out))).mono ?_; rintro z w3 ⟨bb, n, cc, rfl, h3⟩; have H3 := hide h3.persist.d1.d1; clear h3 H2))
  go_ret
  exact ⟨_, rfl, H3.out⟩
set_option maxRecDepth 100000 in
theorem gspawns_calls (h : St b L w) {vv vl vf : Value} {F : List FRec} (hm : HP.sl funcE vf F ∈ L) (f : Str) (hl : (namesP 6 F f).length ≤ 1000000) :
    Calls Try.prog 23 #[.agg #[vv, vl, vf], sv f] w fun x w' => ∃ v, x = .returned v ∧ St b (HP.sl strE v (setS (namesP 6 F f)) :: L) w' := by
  have H := hide h
  have HM := hide hm
  have HL := hide hl
  clear h hm hl
  go_enter Try.func23, Try.ntmps23
  go_wp2_with (first
    | ((with_reducible refine wpList_box_st (cs := [vv, vl, vf]) rfl (.tmp 0) rfl rfl H.out ?_); intro g2 w1 h1; have H1 := hide h1; clear h1 H)
    | (refine wpList_loadB_st (cs := [vv, vl, vf]) rfl agProg (.tmp 2) rfl rfl rfl H1.out mem0 ?_)
    | (go_at_call 44; refine (of_calls H1.out (up1 HM.out) f 6).mono ?_; rintro z w2 ⟨m, rfl, h2⟩; have H2 := hide h2; clear h2 H1)
    | (go_at_call 37; refine (sorted_calls H2.out (Nat.le_trans (putAll_len _ _) (by rw [List.length_nil, Nat.zero_add]; exact HL.out))).mono ?_; rintro z w3 ⟨bb, n, cc, rfl, h3⟩; have H3 := hide h3.persist.d1.d1; clear h3 H2))
  go_ret
  exact ⟨_, rfl, H3.out⟩
end Go.Proofs.Ytmebmgbjpbapjaa

namespace Go.Proofs.Ytmebmgbjpbapjaa
open Go.RowKit Go.Maps Go.MapKept
variable {b : Env} {L : List HP} {w : World}

def swapK (k : Int) : Int := if k = 5 then 6 else if k = 6 then 5 else k
/-- Each call a spawn, each spawn a call. -/
def turnS : Stms → Stms
  | .nil => .nil
  | .cons k p n A B r => .cons (swapK k) p n (turnS A) (turnS B) (turnS r)
def turnOf (s : SRec) : SRec := ⟨swapK s.kind, s.pos, s.name, turnS s.A, turnS s.B⟩
theorem turnS_toL : ∀ l : Stms, (turnS l).toL = l.toL.map turnOf
  | .nil => rfl
  | .cons k p n A B r => by simp [turnS, Stms.toL, turnOf, turnS_toL r]
theorem turnS_size : ∀ l : Stms, (turnS l).size = l.size
  | .nil => rfl
  | .cons k p n A B r => by simp [turnS, Stms.size, turnS_size A, turnS_size B, turnS_size r]
theorem Stms.size_len : ∀ l : Stms, l.toL.length ≤ l.size
  | .nil => by simp [Stms.toL]
  | .cons k p n A B r => by have := Stms.size_len r; simp [Stms.toL, Stms.size]; omega
theorem szInt : (Try.prog.info? 3).map (·.size) = some 1 := by kernel_rfl

def GTurned (l : Stms) : Prop := ∀ (b : Env) (L : List HP) (w : World) (v : Value), St b L w → HP.sl stmtE v l.toL ∈ L → l.size ≤ 1000 →
    Calls Try.prog 20 #[v] w fun x w' => ∃ v', x = .returned v' ∧ St b (HP.sl stmtE v' (turnS l).toL :: L) w'
def TurnedAt (b : Env) (L : List HP) (l : List SRec) (v i : Value) (wr : World) : Prop := ∃ k : Nat, k ≤ l.length ∧ i = .int .i64 k ∧ ∃ base cap, v = .slice base k cap ∧ St b (HP.rows 50 stmtE v ((l.take k).map turnOf) :: L) wr

set_option maxRecDepth 100000 in
set_option maxHeartbeats 8000000 in
theorem gturned_all : ∀ (n : Nat) (l : Stms), l.size = n → GTurned l := by
  intro n
  induction n using Nat.strongRecOn with
  | _ n ih =>
    intro l hl b L w v h hm hsz
    obtain ⟨base, cap, rfl, hc1, hc2⟩ := h.sl_form hm
    have hm2 : (l.toL.length : Int) ≤ 9223372036854775807 := by unfold maxLen at hc2; omega
    have hlen : l.toL.length ≤ 1000 := Nat.le_trans (Stms.size_len l) hsz
    have H := hide (h.rows_nil 50 stmtE)
    have HM := hide hm
    have IH := hide ih
    have HL := hide hl
    have HSZ := hide hsz
    clear h hm hc1 hc2 ih hl hsz
    go_enter Try.func20, Try.ntmps20
    go_wp2_with fail
    go_loopw [3, 4] (fun v i wr => TurnedAt b L l.toL v i wr) (fun _ i _ => l.toL.length - (intOf i).toNat)
    case atStart => exact ⟨0, by omega, rfl, none, 0, rfl, H.out⟩
    case round =>
      obtain ⟨k, hk, rfl, vb, vc, rfl, hs⟩ := hrel
      have H1 := hide hs
      clear hs H
      by_cases hlt : k < l.toL.length
      · have hlt' : (k : Int) < l.toL.length := by omega
        obtain ⟨g, o, rfl⟩ := H1.out.sl_base (up1 HM.out) (by omega) (by decide)
        obtain ⟨cs, h2⟩ := H1.out.elem (up1 HM.out) (List.getElem?_eq_getElem hlt) (by decide)
        have hsm := Stms.size_mem (List.getElem_mem hlt)
        have htk := List.take_succ_eq_append_getElem hlt
        have hdl : ((l.toL.take k).map turnOf).length = k := by simp; omega
        obtain ⟨x, hx⟩ : ∃ x, l.toL[k] = x := ⟨_, rfl⟩
        rw [hx] at h2 hsm htk
        obtain ⟨e1, _, _, hrd⟩ := h2.elem_rd mem0
        have HONE := hide (stmtE.one hrd)
        obtain ⟨va, vb2, hok, rfl, h3⟩ := h2.stmt
        have hszA : x.A.size ≤ 1000 := by have := HSZ.out; omega
        have hszB : x.B.size ≤ 1000 := by have := HSZ.out; omega
        have IHA : Hid (GTurned x.A) := hide (IH.out x.A.size (by rw [← HL.out]; exact hsm.1) x.A rfl)
        have IHB : Hid (GTurned x.B) := hide (IH.out x.B.size (by rw [← HL.out]; exact hsm.2) x.B rfl)
        have HTK : Hid ((l.toL.take (k + 1)).map turnOf = (l.toL.take k).map turnOf ++ [turnOf x]) := hide (by rw [htk, List.map_append]; rfl)
        have HCS : Hid (∀ j u, [Value.int .i64 x.kind, .int .i64 x.pos, sv x.name, va, vb2][j]? = some u → wr.cell? ⟨g, o + k * 5 + j, none⟩ = some u) := hide (fun j u hj => h3.elem_cell mem2 j hj)
        have HOK := hide hok
        have hq1 : ((l.toL.take k).map turnOf).length + [turnOf x].length ≤ maxLen := by rw [hdl]; unfold maxLen; simp; omega
        have hq2 : (((l.toL.take k).map turnOf).length + [turnOf x].length) * 80 ≤ 140737488355328 := by rw [hdl]; simp; omega
        generalize hdone : (l.toL.take k).map turnOf = done at h3 HTK hdl hq1 hq2
        have HDL := hide hdl
        have H3 := hide h3
        clear h2 h3 hsm htk hx H1 hdone hdl hrd hok
        have hcase : x.kind = 5 ∨ x.kind = 6 ∨ (x.kind ≠ 5 ∧ x.kind ≠ 6) := by omega
        rcases hcase with hkk | hkk | ⟨hkk, hkk2⟩
        · have hb1 : (x.kind == 5) = true := by rw [hkk]; rfl
          have hb2 : (x.kind == 6) = false := by rw [hkk]; rfl
          have HSO : Hid (turnOf x = ⟨6, x.pos, x.name, turnS x.A, turnS x.B⟩) := hide (by unfold turnOf; rw [show swapK x.kind = 6 by show swapK x.kind = 6; rw [hkk]; rfl])
          clear hkk
          go_wp2_with (first
            | (with_reducible refine wpList_load_ag (cs := [.int .i64 x.kind, .int .i64 x.pos, sv x.name, va, vb2]) rfl agStmt (.tmp 14) rfl rfl rfl HCS.out ?_)
            | ((with_reducible refine wpList_alloc_ag rfl agStmt rfl H3.out ?_); intro g9 w9 h9; have H9 := hide h9; clear h9 H3)
            | ((with_reducible refine wpList_store_ag (cs := [.int .i64 x.kind, .int .i64 x.pos, sv x.name, va, vb2]) rfl agStmt (.tmp 5) (.tmp 15) rfl rfl rfl rfl rfl HONE.out H9.out ?_); intro w10 h10; have k0 : w10.cell? ⟨g9, 0, none⟩ = some (.int .i64 x.kind) := h10.blk_cell mem0 0; have H10 := hide h10; clear h10 H9)
            | ((with_reducible refine wpList_storeF_st (cs := [.int .i64 x.kind, .int .i64 x.pos, sv x.name, va, vb2]) (ds := [.int .i64 6, .int .i64 x.pos, sv x.name, va, vb2]) rfl 3 (.tmp 20) (.const (.int .i64 6)) rfl szInt rfl rfl rfl rfl H10.out (by simp) rfl ?_); intro w11 h11; have a3 : w11.cell? ⟨g9, 3, none⟩ = some va := h11.blk_cell mem0 3; have a4 : w11.cell? ⟨g9, 4, none⟩ = some vb2 := h11.blk_cell mem0 4; have H11 := hide h11; clear h11 H10))
          refine wp_region_held_drew (S := fun _ => True) (by kernel_rfl) ?_ (fun hHeld => ?_)
          · trivial
          refine wpAnyH_takeD (i := 0) (some 24) (v := ?v0_1) rfl rfl (by kernel_rfl) (by kernel_rfl) (by kernel_rfl) (fun _ _ _ h => h) (by rfl) ?y0_1 (by assumption) ?r0_1
          case y0_1 => (intro w hSw; (try dsimp only at hSw); first | (go_simp; done) | (go_simp; with_reducible rfl))
          try simp only [Act.put, List.setIfInBounds_toArray, List.set_cons_zero, List.set_cons_succ]
          refine wpAnyH_takeD (i := 3) (some 27) (v := ?v3_2) rfl rfl (by kernel_rfl) (by kernel_rfl) (by kernel_rfl) (fun _ _ _ h => h) (by rfl) ?y3_2 (by assumption) ?r3_2
          case y3_2 => (intro w hSw; (try dsimp only at hSw); first | (go_simp; done) | (go_simp; with_reducible rfl))
          try simp only [Act.put, List.setIfInBounds_toArray, List.set_cons_zero, List.set_cons_succ]
          refine wpAnyH_ready (rs := [1, 4]) (by kernel_rfl) (by simp) ?_
          refine AllReadyH.cons rfl (fun K hK => ?_) ?_
          · go_simp
            refine hK.out _ _ ?_ (fun hHeld => ?_)
            · trivial
            clear hK K
            try simp only [Act.put, List.setIfInBounds_toArray, List.set_cons_zero, List.set_cons_succ]
            refine wpAnyH_ready (rs := [2, 4]) (by kernel_rfl) (by simp) ?_
            refine AllReadyH.cons rfl (fun K hK => ?_) ?_
            · go_simp
              go_at_call 20
              refine (IHA.out _ _ _ _ H11.out.drew mem1 hszA).mono ?_
              rintro z w12 ⟨vA, rfl, h12⟩
              obtain ⟨bA, cA, hvA, _⟩ := h12.sl_form mem0
              subst hvA
              have a4b : w12.cell? ⟨g9, 4, none⟩ = some vb2 := h12.blk_cell mem1 4
              have H12 := hide h12.f1
              clear h12 H11
              refine hK.out _ _ ?_ (fun hHeld => ?_)
              · trivial
              clear hK K
              try simp only [Act.put, List.setIfInBounds_toArray, List.set_cons_zero, List.set_cons_succ]
              refine wpAnyH_ready (rs := [4]) (by kernel_rfl) (by simp) ?_
              refine AllReadyH.cons rfl (fun K hK => ?_) ?_
              · go_simp
                refine hK.out _ _ ?_ (fun hHeld => ?_)
                · trivial
                clear hK K
                try simp only [Act.put, List.setIfInBounds_toArray, List.set_cons_zero, List.set_cons_succ]
                refine wpAnyH_takeD (i := 6) (some 30) (v := ?v6_3) rfl rfl (by kernel_rfl) (by kernel_rfl) (by kernel_rfl) (fun _ _ _ h => h) (by rfl) ?y6_3 (by assumption) ?r6_3
                case y6_3 => (intro w hSw; (try dsimp only at hSw); first | (go_simp; done) | (go_simp; with_reducible rfl))
                try simp only [Act.put, List.setIfInBounds_toArray, List.set_cons_zero, List.set_cons_succ]
                refine wpAnyH_ready (rs := [5]) (by kernel_rfl) (by simp) ?_
                refine AllReadyH.cons rfl (fun K hK => ?_) ?_
                · go_simp
                  go_at_call 20
                  refine (IHB.out _ _ _ _ H12.out mem3 hszB).mono ?_
                  rintro z w13 ⟨vB, rfl, h13⟩
                  obtain ⟨bB, cB, hvB, _⟩ := h13.sl_form mem0
                  subst hvB
                  have H13 := hide h13.f1
                  clear h13 H12
                  refine hK.out _ _ ?_ (fun hHeld => ?_)
                  · trivial
                  clear hK K
                  try simp only [Act.put, List.setIfInBounds_toArray, List.set_cons_zero, List.set_cons_succ]
                  refine wpAnyH_ready (rs := [7]) (by kernel_rfl) (by simp) ?_
                  refine AllReadyH.cons rfl (fun K hK => ?_) ?_
                  · refine step_storeF_st (cs := [.int .i64 6, .int .i64 x.pos, sv x.name, va, vb2]) (ds := [.int .i64 6, .int .i64 x.pos, sv x.name, .slice bA (turnS x.A).toL.length cA, vb2]) rfl 45 (.tmp 30) (.tmp 26) rfl szStmts rfl rfl rfl rfl H13.out (by simp) rfl ?_
                    intro w15 h15
                    have H15 := hide h15
                    clear h15 H13
                    refine hK.out _ _ ?_ (fun hHeld => ?_)
                    · trivial
                    clear hK K
                    try simp only [Act.put, List.setIfInBounds_toArray, List.set_cons_zero, List.set_cons_succ]
                    refine wpAnyH_takeD (i := 8) (some 31) (v := ?v8_4) rfl rfl (by kernel_rfl) (by kernel_rfl) (by kernel_rfl) (fun _ _ _ h => h) (by rfl) ?y8_4 (by assumption) ?r8_4
                    case y8_4 => (intro w hSw; (try dsimp only at hSw); first | (go_simp; done) | (go_simp; with_reducible rfl))
                    try simp only [Act.put, List.setIfInBounds_toArray, List.set_cons_zero, List.set_cons_succ]
                    refine wpAnyH_ready (rs := [9]) (by kernel_rfl) (by simp) ?_
                    refine AllReadyH.cons rfl (fun K hK => ?_) ?_
                    · refine step_storeF_st (cs := [.int .i64 6, .int .i64 x.pos, sv x.name, .slice bA (turnS x.A).toL.length cA, vb2]) (ds := [.int .i64 6, .int .i64 x.pos, sv x.name, .slice bA (turnS x.A).toL.length cA, .slice bB (turnS x.B).toL.length cB]) rfl 45 (.tmp 31) (.tmp 29) rfl szStmts rfl rfl rfl rfl H15.out (by simp) rfl ?_
                      intro w16 h16
                      have HZ0 := hide h16
                      clear h16 H15
                      refine hK.out _ _ ?_ (fun hHeld => ?_)
                      · trivial
                      clear hK K
                      try simp only [Act.put, List.setIfInBounds_toArray, List.set_cons_zero, List.set_cons_succ]
                      refine wpAnyH_done (by kernel_rfl) ?_ _
                      have HZ := hide HZ0.out.d3.d3.d3
                      clear HZ0
                      go_wp2_with (first
                        | (refine wpList_loadB_st (cs := [.int .i64 6, .int .i64 x.pos, sv x.name, .slice bA (turnS x.A).toL.length cA, .slice bB (turnS x.B).toL.length cB]) rfl agStmt (.tmp 5) rfl rfl rfl HZ.out mem0 ?_)
                        | (refine wpList_build1_st (E := stmtE) rfl (.tmp 33) slStmt rfl (turnOf x) rfl HZ.out ?_ ?_; exact (fun e hl hs => by rw [HSO.out]; exact ⟨_, _, rfl, HOK.out, Stms.sl_iff.2 (hs.sl_mem mem2), Stms.sl_iff.2 (hs.sl_mem mem1)⟩); intro g13 w13 h13; have H13 := hide h13.f4; clear h13 HZ)
                        | (at_builtin; refine wpList_append_st rfl (.tmp 32) (.tmp 34) slStmt rfl H13.out (Src.of_rows mem1) rfl rfl hq1 hq2 ?_; intro vb3 n3 vc3 w14 hn3 h14; have H14 := hide (h14.d1.d1.d1.d1); have HN3 := hide hn3; clear h14 H13 hn3))
                      go_roundw
                      case rel => exact ⟨k + 1, by omega, by go_num, vb3, vc3, by rw [HN3.out, HDL.out]; rfl, by rw [HTK.out]; exact H14.out⟩
                      case measure => exact meas_step hlt
                    exact AllReadyH.nil
                  exact AllReadyH.nil
                exact AllReadyH.nil
              exact AllReadyH.nil
            refine AllReadyH.cons rfl (fun K hK => ?_) ?_
            · go_simp
              refine hK.out _ _ ?_ (fun hHeld => ?_)
              · trivial
              clear hK K
              try simp only [Act.put, List.setIfInBounds_toArray, List.set_cons_zero, List.set_cons_succ]
              refine wpAnyH_ready (rs := [2]) (by kernel_rfl) (by simp) ?_
              refine AllReadyH.cons rfl (fun K hK => ?_) ?_
              · go_simp
                go_at_call 20
                refine (IHA.out _ _ _ _ H11.out.drew mem1 hszA).mono ?_
                rintro z w12 ⟨vA, rfl, h12⟩
                obtain ⟨bA, cA, hvA, _⟩ := h12.sl_form mem0
                subst hvA
                have a4b : w12.cell? ⟨g9, 4, none⟩ = some vb2 := h12.blk_cell mem1 4
                have H12 := hide h12.f1
                clear h12 H11
                refine hK.out _ _ ?_ (fun hHeld => ?_)
                · trivial
                clear hK K
                try simp only [Act.put, List.setIfInBounds_toArray, List.set_cons_zero, List.set_cons_succ]
                refine wpAnyH_takeD (i := 6) (some 30) (v := ?v6_5) rfl rfl (by kernel_rfl) (by kernel_rfl) (by kernel_rfl) (fun _ _ _ h => h) (by rfl) ?y6_5 (by assumption) ?r6_5
                case y6_5 => (intro w hSw; (try dsimp only at hSw); first | (go_simp; done) | (go_simp; with_reducible rfl))
                try simp only [Act.put, List.setIfInBounds_toArray, List.set_cons_zero, List.set_cons_succ]
                refine wpAnyH_ready (rs := [5]) (by kernel_rfl) (by simp) ?_
                refine AllReadyH.cons rfl (fun K hK => ?_) ?_
                · go_simp
                  go_at_call 20
                  refine (IHB.out _ _ _ _ H12.out mem3 hszB).mono ?_
                  rintro z w13 ⟨vB, rfl, h13⟩
                  obtain ⟨bB, cB, hvB, _⟩ := h13.sl_form mem0
                  subst hvB
                  have H13 := hide h13.f1
                  clear h13 H12
                  refine hK.out _ _ ?_ (fun hHeld => ?_)
                  · trivial
                  clear hK K
                  try simp only [Act.put, List.setIfInBounds_toArray, List.set_cons_zero, List.set_cons_succ]
                  refine wpAnyH_ready (rs := [7]) (by kernel_rfl) (by simp) ?_
                  refine AllReadyH.cons rfl (fun K hK => ?_) ?_
                  · refine step_storeF_st (cs := [.int .i64 6, .int .i64 x.pos, sv x.name, va, vb2]) (ds := [.int .i64 6, .int .i64 x.pos, sv x.name, .slice bA (turnS x.A).toL.length cA, vb2]) rfl 45 (.tmp 30) (.tmp 26) rfl szStmts rfl rfl rfl rfl H13.out (by simp) rfl ?_
                    intro w15 h15
                    have H15 := hide h15
                    clear h15 H13
                    refine hK.out _ _ ?_ (fun hHeld => ?_)
                    · trivial
                    clear hK K
                    try simp only [Act.put, List.setIfInBounds_toArray, List.set_cons_zero, List.set_cons_succ]
                    refine wpAnyH_takeD (i := 8) (some 31) (v := ?v8_6) rfl rfl (by kernel_rfl) (by kernel_rfl) (by kernel_rfl) (fun _ _ _ h => h) (by rfl) ?y8_6 (by assumption) ?r8_6
                    case y8_6 => (intro w hSw; (try dsimp only at hSw); first | (go_simp; done) | (go_simp; with_reducible rfl))
                    try simp only [Act.put, List.setIfInBounds_toArray, List.set_cons_zero, List.set_cons_succ]
                    refine wpAnyH_ready (rs := [9]) (by kernel_rfl) (by simp) ?_
                    refine AllReadyH.cons rfl (fun K hK => ?_) ?_
                    · refine step_storeF_st (cs := [.int .i64 6, .int .i64 x.pos, sv x.name, .slice bA (turnS x.A).toL.length cA, vb2]) (ds := [.int .i64 6, .int .i64 x.pos, sv x.name, .slice bA (turnS x.A).toL.length cA, .slice bB (turnS x.B).toL.length cB]) rfl 45 (.tmp 31) (.tmp 29) rfl szStmts rfl rfl rfl rfl H15.out (by simp) rfl ?_
                      intro w16 h16
                      have HZ0 := hide h16
                      clear h16 H15
                      refine hK.out _ _ ?_ (fun hHeld => ?_)
                      · trivial
                      clear hK K
                      try simp only [Act.put, List.setIfInBounds_toArray, List.set_cons_zero, List.set_cons_succ]
                      refine wpAnyH_done (by kernel_rfl) ?_ _
                      have HZ := hide HZ0.out.d3.d3.d3
                      clear HZ0
                      go_wp2_with (first
                        | (refine wpList_loadB_st (cs := [.int .i64 6, .int .i64 x.pos, sv x.name, .slice bA (turnS x.A).toL.length cA, .slice bB (turnS x.B).toL.length cB]) rfl agStmt (.tmp 5) rfl rfl rfl HZ.out mem0 ?_)
                        | (refine wpList_build1_st (E := stmtE) rfl (.tmp 33) slStmt rfl (turnOf x) rfl HZ.out ?_ ?_; exact (fun e hl hs => by rw [HSO.out]; exact ⟨_, _, rfl, HOK.out, Stms.sl_iff.2 (hs.sl_mem mem2), Stms.sl_iff.2 (hs.sl_mem mem1)⟩); intro g13 w13 h13; have H13 := hide h13.f4; clear h13 HZ)
                        | (at_builtin; refine wpList_append_st rfl (.tmp 32) (.tmp 34) slStmt rfl H13.out (Src.of_rows mem1) rfl rfl hq1 hq2 ?_; intro vb3 n3 vc3 w14 hn3 h14; have H14 := hide (h14.d1.d1.d1.d1); have HN3 := hide hn3; clear h14 H13 hn3))
                      go_roundw
                      case rel => exact ⟨k + 1, by omega, by go_num, vb3, vc3, by rw [HN3.out, HDL.out]; rfl, by rw [HTK.out]; exact H14.out⟩
                      case measure => exact meas_step hlt
                    exact AllReadyH.nil
                  exact AllReadyH.nil
                exact AllReadyH.nil
              exact AllReadyH.nil
            exact AllReadyH.nil
          refine AllReadyH.cons rfl (fun K hK => ?_) ?_
          · go_simp
            refine hK.out _ _ ?_ (fun hHeld => ?_)
            · trivial
            clear hK K
            try simp only [Act.put, List.setIfInBounds_toArray, List.set_cons_zero, List.set_cons_succ]
            refine wpAnyH_ready (rs := [1]) (by kernel_rfl) (by simp) ?_
            refine AllReadyH.cons rfl (fun K hK => ?_) ?_
            · go_simp
              refine hK.out _ _ ?_ (fun hHeld => ?_)
              · trivial
              clear hK K
              try simp only [Act.put, List.setIfInBounds_toArray, List.set_cons_zero, List.set_cons_succ]
              refine wpAnyH_ready (rs := [2]) (by kernel_rfl) (by simp) ?_
              refine AllReadyH.cons rfl (fun K hK => ?_) ?_
              · go_simp
                go_at_call 20
                refine (IHA.out _ _ _ _ H11.out.drew mem1 hszA).mono ?_
                rintro z w12 ⟨vA, rfl, h12⟩
                obtain ⟨bA, cA, hvA, _⟩ := h12.sl_form mem0
                subst hvA
                have a4b : w12.cell? ⟨g9, 4, none⟩ = some vb2 := h12.blk_cell mem1 4
                have H12 := hide h12.f1
                clear h12 H11
                refine hK.out _ _ ?_ (fun hHeld => ?_)
                · trivial
                clear hK K
                try simp only [Act.put, List.setIfInBounds_toArray, List.set_cons_zero, List.set_cons_succ]
                refine wpAnyH_takeD (i := 6) (some 30) (v := ?v6_7) rfl rfl (by kernel_rfl) (by kernel_rfl) (by kernel_rfl) (fun _ _ _ h => h) (by rfl) ?y6_7 (by assumption) ?r6_7
                case y6_7 => (intro w hSw; (try dsimp only at hSw); first | (go_simp; done) | (go_simp; with_reducible rfl))
                try simp only [Act.put, List.setIfInBounds_toArray, List.set_cons_zero, List.set_cons_succ]
                refine wpAnyH_ready (rs := [5]) (by kernel_rfl) (by simp) ?_
                refine AllReadyH.cons rfl (fun K hK => ?_) ?_
                · go_simp
                  go_at_call 20
                  refine (IHB.out _ _ _ _ H12.out mem3 hszB).mono ?_
                  rintro z w13 ⟨vB, rfl, h13⟩
                  obtain ⟨bB, cB, hvB, _⟩ := h13.sl_form mem0
                  subst hvB
                  have H13 := hide h13.f1
                  clear h13 H12
                  refine hK.out _ _ ?_ (fun hHeld => ?_)
                  · trivial
                  clear hK K
                  try simp only [Act.put, List.setIfInBounds_toArray, List.set_cons_zero, List.set_cons_succ]
                  refine wpAnyH_ready (rs := [7]) (by kernel_rfl) (by simp) ?_
                  refine AllReadyH.cons rfl (fun K hK => ?_) ?_
                  · refine step_storeF_st (cs := [.int .i64 6, .int .i64 x.pos, sv x.name, va, vb2]) (ds := [.int .i64 6, .int .i64 x.pos, sv x.name, .slice bA (turnS x.A).toL.length cA, vb2]) rfl 45 (.tmp 30) (.tmp 26) rfl szStmts rfl rfl rfl rfl H13.out (by simp) rfl ?_
                    intro w15 h15
                    have H15 := hide h15
                    clear h15 H13
                    refine hK.out _ _ ?_ (fun hHeld => ?_)
                    · trivial
                    clear hK K
                    try simp only [Act.put, List.setIfInBounds_toArray, List.set_cons_zero, List.set_cons_succ]
                    refine wpAnyH_takeD (i := 8) (some 31) (v := ?v8_8) rfl rfl (by kernel_rfl) (by kernel_rfl) (by kernel_rfl) (fun _ _ _ h => h) (by rfl) ?y8_8 (by assumption) ?r8_8
                    case y8_8 => (intro w hSw; (try dsimp only at hSw); first | (go_simp; done) | (go_simp; with_reducible rfl))
                    try simp only [Act.put, List.setIfInBounds_toArray, List.set_cons_zero, List.set_cons_succ]
                    refine wpAnyH_ready (rs := [9]) (by kernel_rfl) (by simp) ?_
                    refine AllReadyH.cons rfl (fun K hK => ?_) ?_
                    · refine step_storeF_st (cs := [.int .i64 6, .int .i64 x.pos, sv x.name, .slice bA (turnS x.A).toL.length cA, vb2]) (ds := [.int .i64 6, .int .i64 x.pos, sv x.name, .slice bA (turnS x.A).toL.length cA, .slice bB (turnS x.B).toL.length cB]) rfl 45 (.tmp 31) (.tmp 29) rfl szStmts rfl rfl rfl rfl H15.out (by simp) rfl ?_
                      intro w16 h16
                      have HZ0 := hide h16
                      clear h16 H15
                      refine hK.out _ _ ?_ (fun hHeld => ?_)
                      · trivial
                      clear hK K
                      try simp only [Act.put, List.setIfInBounds_toArray, List.set_cons_zero, List.set_cons_succ]
                      refine wpAnyH_done (by kernel_rfl) ?_ _
                      have HZ := hide HZ0.out.d3.d3.d3
                      clear HZ0
                      go_wp2_with (first
                        | (refine wpList_loadB_st (cs := [.int .i64 6, .int .i64 x.pos, sv x.name, .slice bA (turnS x.A).toL.length cA, .slice bB (turnS x.B).toL.length cB]) rfl agStmt (.tmp 5) rfl rfl rfl HZ.out mem0 ?_)
                        | (refine wpList_build1_st (E := stmtE) rfl (.tmp 33) slStmt rfl (turnOf x) rfl HZ.out ?_ ?_; exact (fun e hl hs => by rw [HSO.out]; exact ⟨_, _, rfl, HOK.out, Stms.sl_iff.2 (hs.sl_mem mem2), Stms.sl_iff.2 (hs.sl_mem mem1)⟩); intro g13 w13 h13; have H13 := hide h13.f4; clear h13 HZ)
                        | (at_builtin; refine wpList_append_st rfl (.tmp 32) (.tmp 34) slStmt rfl H13.out (Src.of_rows mem1) rfl rfl hq1 hq2 ?_; intro vb3 n3 vc3 w14 hn3 h14; have H14 := hide (h14.d1.d1.d1.d1); have HN3 := hide hn3; clear h14 H13 hn3))
                      go_roundw
                      case rel => exact ⟨k + 1, by omega, by go_num, vb3, vc3, by rw [HN3.out, HDL.out]; rfl, by rw [HTK.out]; exact H14.out⟩
                      case measure => exact meas_step hlt
                    exact AllReadyH.nil
                  exact AllReadyH.nil
                exact AllReadyH.nil
              exact AllReadyH.nil
            exact AllReadyH.nil
          exact AllReadyH.nil
        · have hb1 : (x.kind == 5) = false := by rw [hkk]; rfl
          have hb2 : (x.kind == 6) = true := by rw [hkk]; rfl
          have HSO : Hid (turnOf x = ⟨5, x.pos, x.name, turnS x.A, turnS x.B⟩) := hide (by unfold turnOf; rw [show swapK x.kind = 5 by show swapK x.kind = 5; rw [hkk]; rfl])
          clear hkk
          go_wp2_with (first
            | (with_reducible refine wpList_load_ag (cs := [.int .i64 x.kind, .int .i64 x.pos, sv x.name, va, vb2]) rfl agStmt (.tmp 14) rfl rfl rfl HCS.out ?_)
            | ((with_reducible refine wpList_alloc_ag rfl agStmt rfl H3.out ?_); intro g9 w9 h9; have H9 := hide h9; clear h9 H3)
            | ((with_reducible refine wpList_store_ag (cs := [.int .i64 x.kind, .int .i64 x.pos, sv x.name, va, vb2]) rfl agStmt (.tmp 5) (.tmp 15) rfl rfl rfl rfl rfl HONE.out H9.out ?_); intro w10 h10; have k0 : w10.cell? ⟨g9, 0, none⟩ = some (.int .i64 x.kind) := h10.blk_cell mem0 0; have H10 := hide h10; clear h10 H9)
            | ((with_reducible refine wpList_storeF_st (cs := [.int .i64 x.kind, .int .i64 x.pos, sv x.name, va, vb2]) (ds := [.int .i64 5, .int .i64 x.pos, sv x.name, va, vb2]) rfl 3 (.tmp 23) (.const (.int .i64 5)) rfl szInt rfl rfl rfl rfl H10.out (by simp) rfl ?_); intro w11 h11; have a3 : w11.cell? ⟨g9, 3, none⟩ = some va := h11.blk_cell mem0 3; have a4 : w11.cell? ⟨g9, 4, none⟩ = some vb2 := h11.blk_cell mem0 4; have H11 := hide h11; clear h11 H10))
          refine wp_region_held_drew (S := fun _ => True) (by kernel_rfl) ?_ (fun hHeld => ?_)
          · trivial
          refine wpAnyH_takeD (i := 0) (some 24) (v := ?v0_9) rfl rfl (by kernel_rfl) (by kernel_rfl) (by kernel_rfl) (fun _ _ _ h => h) (by rfl) ?y0_9 (by assumption) ?r0_9
          case y0_9 => (intro w hSw; (try dsimp only at hSw); first | (go_simp; done) | (go_simp; with_reducible rfl))
          try simp only [Act.put, List.setIfInBounds_toArray, List.set_cons_zero, List.set_cons_succ]
          refine wpAnyH_takeD (i := 3) (some 27) (v := ?v3_10) rfl rfl (by kernel_rfl) (by kernel_rfl) (by kernel_rfl) (fun _ _ _ h => h) (by rfl) ?y3_10 (by assumption) ?r3_10
          case y3_10 => (intro w hSw; (try dsimp only at hSw); first | (go_simp; done) | (go_simp; with_reducible rfl))
          try simp only [Act.put, List.setIfInBounds_toArray, List.set_cons_zero, List.set_cons_succ]
          refine wpAnyH_ready (rs := [1, 4]) (by kernel_rfl) (by simp) ?_
          refine AllReadyH.cons rfl (fun K hK => ?_) ?_
          · go_simp
            refine hK.out _ _ ?_ (fun hHeld => ?_)
            · trivial
            clear hK K
            try simp only [Act.put, List.setIfInBounds_toArray, List.set_cons_zero, List.set_cons_succ]
            refine wpAnyH_ready (rs := [2, 4]) (by kernel_rfl) (by simp) ?_
            refine AllReadyH.cons rfl (fun K hK => ?_) ?_
            · go_simp
              go_at_call 20
              refine (IHA.out _ _ _ _ H11.out.drew mem1 hszA).mono ?_
              rintro z w12 ⟨vA, rfl, h12⟩
              obtain ⟨bA, cA, hvA, _⟩ := h12.sl_form mem0
              subst hvA
              have a4b : w12.cell? ⟨g9, 4, none⟩ = some vb2 := h12.blk_cell mem1 4
              have H12 := hide h12.f1
              clear h12 H11
              refine hK.out _ _ ?_ (fun hHeld => ?_)
              · trivial
              clear hK K
              try simp only [Act.put, List.setIfInBounds_toArray, List.set_cons_zero, List.set_cons_succ]
              refine wpAnyH_ready (rs := [4]) (by kernel_rfl) (by simp) ?_
              refine AllReadyH.cons rfl (fun K hK => ?_) ?_
              · go_simp
                refine hK.out _ _ ?_ (fun hHeld => ?_)
                · trivial
                clear hK K
                try simp only [Act.put, List.setIfInBounds_toArray, List.set_cons_zero, List.set_cons_succ]
                refine wpAnyH_takeD (i := 6) (some 30) (v := ?v6_11) rfl rfl (by kernel_rfl) (by kernel_rfl) (by kernel_rfl) (fun _ _ _ h => h) (by rfl) ?y6_11 (by assumption) ?r6_11
                case y6_11 => (intro w hSw; (try dsimp only at hSw); first | (go_simp; done) | (go_simp; with_reducible rfl))
                try simp only [Act.put, List.setIfInBounds_toArray, List.set_cons_zero, List.set_cons_succ]
                refine wpAnyH_ready (rs := [5]) (by kernel_rfl) (by simp) ?_
                refine AllReadyH.cons rfl (fun K hK => ?_) ?_
                · go_simp
                  go_at_call 20
                  refine (IHB.out _ _ _ _ H12.out mem3 hszB).mono ?_
                  rintro z w13 ⟨vB, rfl, h13⟩
                  obtain ⟨bB, cB, hvB, _⟩ := h13.sl_form mem0
                  subst hvB
                  have H13 := hide h13.f1
                  clear h13 H12
                  refine hK.out _ _ ?_ (fun hHeld => ?_)
                  · trivial
                  clear hK K
                  try simp only [Act.put, List.setIfInBounds_toArray, List.set_cons_zero, List.set_cons_succ]
                  refine wpAnyH_ready (rs := [7]) (by kernel_rfl) (by simp) ?_
                  refine AllReadyH.cons rfl (fun K hK => ?_) ?_
                  · refine step_storeF_st (cs := [.int .i64 5, .int .i64 x.pos, sv x.name, va, vb2]) (ds := [.int .i64 5, .int .i64 x.pos, sv x.name, .slice bA (turnS x.A).toL.length cA, vb2]) rfl 45 (.tmp 30) (.tmp 26) rfl szStmts rfl rfl rfl rfl H13.out (by simp) rfl ?_
                    intro w15 h15
                    have H15 := hide h15
                    clear h15 H13
                    refine hK.out _ _ ?_ (fun hHeld => ?_)
                    · trivial
                    clear hK K
                    try simp only [Act.put, List.setIfInBounds_toArray, List.set_cons_zero, List.set_cons_succ]
                    refine wpAnyH_takeD (i := 8) (some 31) (v := ?v8_12) rfl rfl (by kernel_rfl) (by kernel_rfl) (by kernel_rfl) (fun _ _ _ h => h) (by rfl) ?y8_12 (by assumption) ?r8_12
                    case y8_12 => (intro w hSw; (try dsimp only at hSw); first | (go_simp; done) | (go_simp; with_reducible rfl))
                    try simp only [Act.put, List.setIfInBounds_toArray, List.set_cons_zero, List.set_cons_succ]
                    refine wpAnyH_ready (rs := [9]) (by kernel_rfl) (by simp) ?_
                    refine AllReadyH.cons rfl (fun K hK => ?_) ?_
                    · refine step_storeF_st (cs := [.int .i64 5, .int .i64 x.pos, sv x.name, .slice bA (turnS x.A).toL.length cA, vb2]) (ds := [.int .i64 5, .int .i64 x.pos, sv x.name, .slice bA (turnS x.A).toL.length cA, .slice bB (turnS x.B).toL.length cB]) rfl 45 (.tmp 31) (.tmp 29) rfl szStmts rfl rfl rfl rfl H15.out (by simp) rfl ?_
                      intro w16 h16
                      have HZ0 := hide h16
                      clear h16 H15
                      refine hK.out _ _ ?_ (fun hHeld => ?_)
                      · trivial
                      clear hK K
                      try simp only [Act.put, List.setIfInBounds_toArray, List.set_cons_zero, List.set_cons_succ]
                      refine wpAnyH_done (by kernel_rfl) ?_ _
                      have HZ := hide HZ0.out.d3.d3.d3
                      clear HZ0
                      go_wp2_with (first
                        | (refine wpList_loadB_st (cs := [.int .i64 5, .int .i64 x.pos, sv x.name, .slice bA (turnS x.A).toL.length cA, .slice bB (turnS x.B).toL.length cB]) rfl agStmt (.tmp 5) rfl rfl rfl HZ.out mem0 ?_)
                        | (refine wpList_build1_st (E := stmtE) rfl (.tmp 33) slStmt rfl (turnOf x) rfl HZ.out ?_ ?_; exact (fun e hl hs => by rw [HSO.out]; exact ⟨_, _, rfl, HOK.out, Stms.sl_iff.2 (hs.sl_mem mem2), Stms.sl_iff.2 (hs.sl_mem mem1)⟩); intro g13 w13 h13; have H13 := hide h13.f4; clear h13 HZ)
                        | (at_builtin; refine wpList_append_st rfl (.tmp 32) (.tmp 34) slStmt rfl H13.out (Src.of_rows mem1) rfl rfl hq1 hq2 ?_; intro vb3 n3 vc3 w14 hn3 h14; have H14 := hide (h14.d1.d1.d1.d1); have HN3 := hide hn3; clear h14 H13 hn3))
                      go_roundw
                      case rel => exact ⟨k + 1, by omega, by go_num, vb3, vc3, by rw [HN3.out, HDL.out]; rfl, by rw [HTK.out]; exact H14.out⟩
                      case measure => exact meas_step hlt
                    exact AllReadyH.nil
                  exact AllReadyH.nil
                exact AllReadyH.nil
              exact AllReadyH.nil
            refine AllReadyH.cons rfl (fun K hK => ?_) ?_
            · go_simp
              refine hK.out _ _ ?_ (fun hHeld => ?_)
              · trivial
              clear hK K
              try simp only [Act.put, List.setIfInBounds_toArray, List.set_cons_zero, List.set_cons_succ]
              refine wpAnyH_ready (rs := [2]) (by kernel_rfl) (by simp) ?_
              refine AllReadyH.cons rfl (fun K hK => ?_) ?_
              · go_simp
                go_at_call 20
                refine (IHA.out _ _ _ _ H11.out.drew mem1 hszA).mono ?_
                rintro z w12 ⟨vA, rfl, h12⟩
                obtain ⟨bA, cA, hvA, _⟩ := h12.sl_form mem0
                subst hvA
                have a4b : w12.cell? ⟨g9, 4, none⟩ = some vb2 := h12.blk_cell mem1 4
                have H12 := hide h12.f1
                clear h12 H11
                refine hK.out _ _ ?_ (fun hHeld => ?_)
                · trivial
                clear hK K
                try simp only [Act.put, List.setIfInBounds_toArray, List.set_cons_zero, List.set_cons_succ]
                refine wpAnyH_takeD (i := 6) (some 30) (v := ?v6_13) rfl rfl (by kernel_rfl) (by kernel_rfl) (by kernel_rfl) (fun _ _ _ h => h) (by rfl) ?y6_13 (by assumption) ?r6_13
                case y6_13 => (intro w hSw; (try dsimp only at hSw); first | (go_simp; done) | (go_simp; with_reducible rfl))
                try simp only [Act.put, List.setIfInBounds_toArray, List.set_cons_zero, List.set_cons_succ]
                refine wpAnyH_ready (rs := [5]) (by kernel_rfl) (by simp) ?_
                refine AllReadyH.cons rfl (fun K hK => ?_) ?_
                · go_simp
                  go_at_call 20
                  refine (IHB.out _ _ _ _ H12.out mem3 hszB).mono ?_
                  rintro z w13 ⟨vB, rfl, h13⟩
                  obtain ⟨bB, cB, hvB, _⟩ := h13.sl_form mem0
                  subst hvB
                  have H13 := hide h13.f1
                  clear h13 H12
                  refine hK.out _ _ ?_ (fun hHeld => ?_)
                  · trivial
                  clear hK K
                  try simp only [Act.put, List.setIfInBounds_toArray, List.set_cons_zero, List.set_cons_succ]
                  refine wpAnyH_ready (rs := [7]) (by kernel_rfl) (by simp) ?_
                  refine AllReadyH.cons rfl (fun K hK => ?_) ?_
                  · refine step_storeF_st (cs := [.int .i64 5, .int .i64 x.pos, sv x.name, va, vb2]) (ds := [.int .i64 5, .int .i64 x.pos, sv x.name, .slice bA (turnS x.A).toL.length cA, vb2]) rfl 45 (.tmp 30) (.tmp 26) rfl szStmts rfl rfl rfl rfl H13.out (by simp) rfl ?_
                    intro w15 h15
                    have H15 := hide h15
                    clear h15 H13
                    refine hK.out _ _ ?_ (fun hHeld => ?_)
                    · trivial
                    clear hK K
                    try simp only [Act.put, List.setIfInBounds_toArray, List.set_cons_zero, List.set_cons_succ]
                    refine wpAnyH_takeD (i := 8) (some 31) (v := ?v8_14) rfl rfl (by kernel_rfl) (by kernel_rfl) (by kernel_rfl) (fun _ _ _ h => h) (by rfl) ?y8_14 (by assumption) ?r8_14
                    case y8_14 => (intro w hSw; (try dsimp only at hSw); first | (go_simp; done) | (go_simp; with_reducible rfl))
                    try simp only [Act.put, List.setIfInBounds_toArray, List.set_cons_zero, List.set_cons_succ]
                    refine wpAnyH_ready (rs := [9]) (by kernel_rfl) (by simp) ?_
                    refine AllReadyH.cons rfl (fun K hK => ?_) ?_
                    · refine step_storeF_st (cs := [.int .i64 5, .int .i64 x.pos, sv x.name, .slice bA (turnS x.A).toL.length cA, vb2]) (ds := [.int .i64 5, .int .i64 x.pos, sv x.name, .slice bA (turnS x.A).toL.length cA, .slice bB (turnS x.B).toL.length cB]) rfl 45 (.tmp 31) (.tmp 29) rfl szStmts rfl rfl rfl rfl H15.out (by simp) rfl ?_
                      intro w16 h16
                      have HZ0 := hide h16
                      clear h16 H15
                      refine hK.out _ _ ?_ (fun hHeld => ?_)
                      · trivial
                      clear hK K
                      try simp only [Act.put, List.setIfInBounds_toArray, List.set_cons_zero, List.set_cons_succ]
                      refine wpAnyH_done (by kernel_rfl) ?_ _
                      have HZ := hide HZ0.out.d3.d3.d3
                      clear HZ0
                      go_wp2_with (first
                        | (refine wpList_loadB_st (cs := [.int .i64 5, .int .i64 x.pos, sv x.name, .slice bA (turnS x.A).toL.length cA, .slice bB (turnS x.B).toL.length cB]) rfl agStmt (.tmp 5) rfl rfl rfl HZ.out mem0 ?_)
                        | (refine wpList_build1_st (E := stmtE) rfl (.tmp 33) slStmt rfl (turnOf x) rfl HZ.out ?_ ?_; exact (fun e hl hs => by rw [HSO.out]; exact ⟨_, _, rfl, HOK.out, Stms.sl_iff.2 (hs.sl_mem mem2), Stms.sl_iff.2 (hs.sl_mem mem1)⟩); intro g13 w13 h13; have H13 := hide h13.f4; clear h13 HZ)
                        | (at_builtin; refine wpList_append_st rfl (.tmp 32) (.tmp 34) slStmt rfl H13.out (Src.of_rows mem1) rfl rfl hq1 hq2 ?_; intro vb3 n3 vc3 w14 hn3 h14; have H14 := hide (h14.d1.d1.d1.d1); have HN3 := hide hn3; clear h14 H13 hn3))
                      go_roundw
                      case rel => exact ⟨k + 1, by omega, by go_num, vb3, vc3, by rw [HN3.out, HDL.out]; rfl, by rw [HTK.out]; exact H14.out⟩
                      case measure => exact meas_step hlt
                    exact AllReadyH.nil
                  exact AllReadyH.nil
                exact AllReadyH.nil
              exact AllReadyH.nil
            exact AllReadyH.nil
          refine AllReadyH.cons rfl (fun K hK => ?_) ?_
          · go_simp
            refine hK.out _ _ ?_ (fun hHeld => ?_)
            · trivial
            clear hK K
            try simp only [Act.put, List.setIfInBounds_toArray, List.set_cons_zero, List.set_cons_succ]
            refine wpAnyH_ready (rs := [1]) (by kernel_rfl) (by simp) ?_
            refine AllReadyH.cons rfl (fun K hK => ?_) ?_
            · go_simp
              refine hK.out _ _ ?_ (fun hHeld => ?_)
              · trivial
              clear hK K
              try simp only [Act.put, List.setIfInBounds_toArray, List.set_cons_zero, List.set_cons_succ]
              refine wpAnyH_ready (rs := [2]) (by kernel_rfl) (by simp) ?_
              refine AllReadyH.cons rfl (fun K hK => ?_) ?_
              · go_simp
                go_at_call 20
                refine (IHA.out _ _ _ _ H11.out.drew mem1 hszA).mono ?_
                rintro z w12 ⟨vA, rfl, h12⟩
                obtain ⟨bA, cA, hvA, _⟩ := h12.sl_form mem0
                subst hvA
                have a4b : w12.cell? ⟨g9, 4, none⟩ = some vb2 := h12.blk_cell mem1 4
                have H12 := hide h12.f1
                clear h12 H11
                refine hK.out _ _ ?_ (fun hHeld => ?_)
                · trivial
                clear hK K
                try simp only [Act.put, List.setIfInBounds_toArray, List.set_cons_zero, List.set_cons_succ]
                refine wpAnyH_takeD (i := 6) (some 30) (v := ?v6_15) rfl rfl (by kernel_rfl) (by kernel_rfl) (by kernel_rfl) (fun _ _ _ h => h) (by rfl) ?y6_15 (by assumption) ?r6_15
                case y6_15 => (intro w hSw; (try dsimp only at hSw); first | (go_simp; done) | (go_simp; with_reducible rfl))
                try simp only [Act.put, List.setIfInBounds_toArray, List.set_cons_zero, List.set_cons_succ]
                refine wpAnyH_ready (rs := [5]) (by kernel_rfl) (by simp) ?_
                refine AllReadyH.cons rfl (fun K hK => ?_) ?_
                · go_simp
                  go_at_call 20
                  refine (IHB.out _ _ _ _ H12.out mem3 hszB).mono ?_
                  rintro z w13 ⟨vB, rfl, h13⟩
                  obtain ⟨bB, cB, hvB, _⟩ := h13.sl_form mem0
                  subst hvB
                  have H13 := hide h13.f1
                  clear h13 H12
                  refine hK.out _ _ ?_ (fun hHeld => ?_)
                  · trivial
                  clear hK K
                  try simp only [Act.put, List.setIfInBounds_toArray, List.set_cons_zero, List.set_cons_succ]
                  refine wpAnyH_ready (rs := [7]) (by kernel_rfl) (by simp) ?_
                  refine AllReadyH.cons rfl (fun K hK => ?_) ?_
                  · refine step_storeF_st (cs := [.int .i64 5, .int .i64 x.pos, sv x.name, va, vb2]) (ds := [.int .i64 5, .int .i64 x.pos, sv x.name, .slice bA (turnS x.A).toL.length cA, vb2]) rfl 45 (.tmp 30) (.tmp 26) rfl szStmts rfl rfl rfl rfl H13.out (by simp) rfl ?_
                    intro w15 h15
                    have H15 := hide h15
                    clear h15 H13
                    refine hK.out _ _ ?_ (fun hHeld => ?_)
                    · trivial
                    clear hK K
                    try simp only [Act.put, List.setIfInBounds_toArray, List.set_cons_zero, List.set_cons_succ]
                    refine wpAnyH_takeD (i := 8) (some 31) (v := ?v8_16) rfl rfl (by kernel_rfl) (by kernel_rfl) (by kernel_rfl) (fun _ _ _ h => h) (by rfl) ?y8_16 (by assumption) ?r8_16
                    case y8_16 => (intro w hSw; (try dsimp only at hSw); first | (go_simp; done) | (go_simp; with_reducible rfl))
                    try simp only [Act.put, List.setIfInBounds_toArray, List.set_cons_zero, List.set_cons_succ]
                    refine wpAnyH_ready (rs := [9]) (by kernel_rfl) (by simp) ?_
                    refine AllReadyH.cons rfl (fun K hK => ?_) ?_
                    · refine step_storeF_st (cs := [.int .i64 5, .int .i64 x.pos, sv x.name, .slice bA (turnS x.A).toL.length cA, vb2]) (ds := [.int .i64 5, .int .i64 x.pos, sv x.name, .slice bA (turnS x.A).toL.length cA, .slice bB (turnS x.B).toL.length cB]) rfl 45 (.tmp 31) (.tmp 29) rfl szStmts rfl rfl rfl rfl H15.out (by simp) rfl ?_
                      intro w16 h16
                      have HZ0 := hide h16
                      clear h16 H15
                      refine hK.out _ _ ?_ (fun hHeld => ?_)
                      · trivial
                      clear hK K
                      try simp only [Act.put, List.setIfInBounds_toArray, List.set_cons_zero, List.set_cons_succ]
                      refine wpAnyH_done (by kernel_rfl) ?_ _
                      have HZ := hide HZ0.out.d3.d3.d3
                      clear HZ0
                      go_wp2_with (first
                        | (refine wpList_loadB_st (cs := [.int .i64 5, .int .i64 x.pos, sv x.name, .slice bA (turnS x.A).toL.length cA, .slice bB (turnS x.B).toL.length cB]) rfl agStmt (.tmp 5) rfl rfl rfl HZ.out mem0 ?_)
                        | (refine wpList_build1_st (E := stmtE) rfl (.tmp 33) slStmt rfl (turnOf x) rfl HZ.out ?_ ?_; exact (fun e hl hs => by rw [HSO.out]; exact ⟨_, _, rfl, HOK.out, Stms.sl_iff.2 (hs.sl_mem mem2), Stms.sl_iff.2 (hs.sl_mem mem1)⟩); intro g13 w13 h13; have H13 := hide h13.f4; clear h13 HZ)
                        | (at_builtin; refine wpList_append_st rfl (.tmp 32) (.tmp 34) slStmt rfl H13.out (Src.of_rows mem1) rfl rfl hq1 hq2 ?_; intro vb3 n3 vc3 w14 hn3 h14; have H14 := hide (h14.d1.d1.d1.d1); have HN3 := hide hn3; clear h14 H13 hn3))
                      go_roundw
                      case rel => exact ⟨k + 1, by omega, by go_num, vb3, vc3, by rw [HN3.out, HDL.out]; rfl, by rw [HTK.out]; exact H14.out⟩
                      case measure => exact meas_step hlt
                    exact AllReadyH.nil
                  exact AllReadyH.nil
                exact AllReadyH.nil
              exact AllReadyH.nil
            exact AllReadyH.nil
          exact AllReadyH.nil
        · have hb1 : (x.kind == 5) = false := by rw [beq_eq_false_iff_ne]; exact hkk
          have hb2 : (x.kind == 6) = false := by rw [beq_eq_false_iff_ne]; exact hkk2
          have HSO : Hid (turnOf x = ⟨x.kind, x.pos, x.name, turnS x.A, turnS x.B⟩) := hide (by unfold turnOf; rw [show swapK x.kind = x.kind by show swapK x.kind = x.kind; unfold swapK; rw [if_neg hkk, if_neg hkk2]])
          clear hkk hkk2
          go_wp2_with (first
            | (with_reducible refine wpList_load_ag (cs := [.int .i64 x.kind, .int .i64 x.pos, sv x.name, va, vb2]) rfl agStmt (.tmp 14) rfl rfl rfl HCS.out ?_)
            | ((with_reducible refine wpList_alloc_ag rfl agStmt rfl H3.out ?_); intro g9 w9 h9; have H9 := hide h9; clear h9 H3)
            | ((with_reducible refine wpList_store_ag (cs := [.int .i64 x.kind, .int .i64 x.pos, sv x.name, va, vb2]) rfl agStmt (.tmp 5) (.tmp 15) rfl rfl rfl rfl rfl HONE.out H9.out ?_); intro w10 h10; have k0 : w10.cell? ⟨g9, 0, none⟩ = some (.int .i64 x.kind) := h10.blk_cell mem0 0; have a3 : w10.cell? ⟨g9, 3, none⟩ = some va := h10.blk_cell mem0 3; have a4 : w10.cell? ⟨g9, 4, none⟩ = some vb2 := h10.blk_cell mem0 4; have H10 := hide h10; clear h10 H9))
          refine wp_region_held_drew (S := fun _ => True) (by kernel_rfl) ?_ (fun hHeld => ?_)
          · trivial
          refine wpAnyH_takeD (i := 0) (some 24) (v := ?v0_17) rfl rfl (by kernel_rfl) (by kernel_rfl) (by kernel_rfl) (fun _ _ _ h => h) (by rfl) ?y0_17 (by assumption) ?r0_17
          case y0_17 => (intro w hSw; (try dsimp only at hSw); first | (go_simp; done) | (go_simp; with_reducible rfl))
          try simp only [Act.put, List.setIfInBounds_toArray, List.set_cons_zero, List.set_cons_succ]
          refine wpAnyH_takeD (i := 3) (some 27) (v := ?v3_18) rfl rfl (by kernel_rfl) (by kernel_rfl) (by kernel_rfl) (fun _ _ _ h => h) (by rfl) ?y3_18 (by assumption) ?r3_18
          case y3_18 => (intro w hSw; (try dsimp only at hSw); first | (go_simp; done) | (go_simp; with_reducible rfl))
          try simp only [Act.put, List.setIfInBounds_toArray, List.set_cons_zero, List.set_cons_succ]
          refine wpAnyH_ready (rs := [1, 4]) (by kernel_rfl) (by simp) ?_
          refine AllReadyH.cons rfl (fun K hK => ?_) ?_
          · go_simp
            refine hK.out _ _ ?_ (fun hHeld => ?_)
            · trivial
            clear hK K
            try simp only [Act.put, List.setIfInBounds_toArray, List.set_cons_zero, List.set_cons_succ]
            refine wpAnyH_ready (rs := [2, 4]) (by kernel_rfl) (by simp) ?_
            refine AllReadyH.cons rfl (fun K hK => ?_) ?_
            · go_simp
              go_at_call 20
              refine (IHA.out _ _ _ _ H10.out.drew mem1 hszA).mono ?_
              rintro z w12 ⟨vA, rfl, h12⟩
              obtain ⟨bA, cA, hvA, _⟩ := h12.sl_form mem0
              subst hvA
              have a4b : w12.cell? ⟨g9, 4, none⟩ = some vb2 := h12.blk_cell mem1 4
              have H12 := hide h12.f1
              clear h12 H10
              refine hK.out _ _ ?_ (fun hHeld => ?_)
              · trivial
              clear hK K
              try simp only [Act.put, List.setIfInBounds_toArray, List.set_cons_zero, List.set_cons_succ]
              refine wpAnyH_ready (rs := [4]) (by kernel_rfl) (by simp) ?_
              refine AllReadyH.cons rfl (fun K hK => ?_) ?_
              · go_simp
                refine hK.out _ _ ?_ (fun hHeld => ?_)
                · trivial
                clear hK K
                try simp only [Act.put, List.setIfInBounds_toArray, List.set_cons_zero, List.set_cons_succ]
                refine wpAnyH_takeD (i := 6) (some 30) (v := ?v6_19) rfl rfl (by kernel_rfl) (by kernel_rfl) (by kernel_rfl) (fun _ _ _ h => h) (by rfl) ?y6_19 (by assumption) ?r6_19
                case y6_19 => (intro w hSw; (try dsimp only at hSw); first | (go_simp; done) | (go_simp; with_reducible rfl))
                try simp only [Act.put, List.setIfInBounds_toArray, List.set_cons_zero, List.set_cons_succ]
                refine wpAnyH_ready (rs := [5]) (by kernel_rfl) (by simp) ?_
                refine AllReadyH.cons rfl (fun K hK => ?_) ?_
                · go_simp
                  go_at_call 20
                  refine (IHB.out _ _ _ _ H12.out mem3 hszB).mono ?_
                  rintro z w13 ⟨vB, rfl, h13⟩
                  obtain ⟨bB, cB, hvB, _⟩ := h13.sl_form mem0
                  subst hvB
                  have H13 := hide h13.f1
                  clear h13 H12
                  refine hK.out _ _ ?_ (fun hHeld => ?_)
                  · trivial
                  clear hK K
                  try simp only [Act.put, List.setIfInBounds_toArray, List.set_cons_zero, List.set_cons_succ]
                  refine wpAnyH_ready (rs := [7]) (by kernel_rfl) (by simp) ?_
                  refine AllReadyH.cons rfl (fun K hK => ?_) ?_
                  · refine step_storeF_st (cs := [.int .i64 x.kind, .int .i64 x.pos, sv x.name, va, vb2]) (ds := [.int .i64 x.kind, .int .i64 x.pos, sv x.name, .slice bA (turnS x.A).toL.length cA, vb2]) rfl 45 (.tmp 30) (.tmp 26) rfl szStmts rfl rfl rfl rfl H13.out (by simp) rfl ?_
                    intro w15 h15
                    have H15 := hide h15
                    clear h15 H13
                    refine hK.out _ _ ?_ (fun hHeld => ?_)
                    · trivial
                    clear hK K
                    try simp only [Act.put, List.setIfInBounds_toArray, List.set_cons_zero, List.set_cons_succ]
                    refine wpAnyH_takeD (i := 8) (some 31) (v := ?v8_20) rfl rfl (by kernel_rfl) (by kernel_rfl) (by kernel_rfl) (fun _ _ _ h => h) (by rfl) ?y8_20 (by assumption) ?r8_20
                    case y8_20 => (intro w hSw; (try dsimp only at hSw); first | (go_simp; done) | (go_simp; with_reducible rfl))
                    try simp only [Act.put, List.setIfInBounds_toArray, List.set_cons_zero, List.set_cons_succ]
                    refine wpAnyH_ready (rs := [9]) (by kernel_rfl) (by simp) ?_
                    refine AllReadyH.cons rfl (fun K hK => ?_) ?_
                    · refine step_storeF_st (cs := [.int .i64 x.kind, .int .i64 x.pos, sv x.name, .slice bA (turnS x.A).toL.length cA, vb2]) (ds := [.int .i64 x.kind, .int .i64 x.pos, sv x.name, .slice bA (turnS x.A).toL.length cA, .slice bB (turnS x.B).toL.length cB]) rfl 45 (.tmp 31) (.tmp 29) rfl szStmts rfl rfl rfl rfl H15.out (by simp) rfl ?_
                      intro w16 h16
                      have HZ0 := hide h16
                      clear h16 H15
                      refine hK.out _ _ ?_ (fun hHeld => ?_)
                      · trivial
                      clear hK K
                      try simp only [Act.put, List.setIfInBounds_toArray, List.set_cons_zero, List.set_cons_succ]
                      refine wpAnyH_done (by kernel_rfl) ?_ _
                      have HZ := hide HZ0.out.d3.d3.d3
                      clear HZ0
                      go_wp2_with (first
                        | (refine wpList_loadB_st (cs := [.int .i64 x.kind, .int .i64 x.pos, sv x.name, .slice bA (turnS x.A).toL.length cA, .slice bB (turnS x.B).toL.length cB]) rfl agStmt (.tmp 5) rfl rfl rfl HZ.out mem0 ?_)
                        | (refine wpList_build1_st (E := stmtE) rfl (.tmp 33) slStmt rfl (turnOf x) rfl HZ.out ?_ ?_; exact (fun e hl hs => by rw [HSO.out]; exact ⟨_, _, rfl, HOK.out, Stms.sl_iff.2 (hs.sl_mem mem2), Stms.sl_iff.2 (hs.sl_mem mem1)⟩); intro g13 w13 h13; have H13 := hide h13.f4; clear h13 HZ)
                        | (at_builtin; refine wpList_append_st rfl (.tmp 32) (.tmp 34) slStmt rfl H13.out (Src.of_rows mem1) rfl rfl hq1 hq2 ?_; intro vb3 n3 vc3 w14 hn3 h14; have H14 := hide (h14.d1.d1.d1.d1); have HN3 := hide hn3; clear h14 H13 hn3))
                      go_roundw
                      case rel => exact ⟨k + 1, by omega, by go_num, vb3, vc3, by rw [HN3.out, HDL.out]; rfl, by rw [HTK.out]; exact H14.out⟩
                      case measure => exact meas_step hlt
                    exact AllReadyH.nil
                  exact AllReadyH.nil
                exact AllReadyH.nil
              exact AllReadyH.nil
            refine AllReadyH.cons rfl (fun K hK => ?_) ?_
            · go_simp
              refine hK.out _ _ ?_ (fun hHeld => ?_)
              · trivial
              clear hK K
              try simp only [Act.put, List.setIfInBounds_toArray, List.set_cons_zero, List.set_cons_succ]
              refine wpAnyH_ready (rs := [2]) (by kernel_rfl) (by simp) ?_
              refine AllReadyH.cons rfl (fun K hK => ?_) ?_
              · go_simp
                go_at_call 20
                refine (IHA.out _ _ _ _ H10.out.drew mem1 hszA).mono ?_
                rintro z w12 ⟨vA, rfl, h12⟩
                obtain ⟨bA, cA, hvA, _⟩ := h12.sl_form mem0
                subst hvA
                have a4b : w12.cell? ⟨g9, 4, none⟩ = some vb2 := h12.blk_cell mem1 4
                have H12 := hide h12.f1
                clear h12 H10
                refine hK.out _ _ ?_ (fun hHeld => ?_)
                · trivial
                clear hK K
                try simp only [Act.put, List.setIfInBounds_toArray, List.set_cons_zero, List.set_cons_succ]
                refine wpAnyH_takeD (i := 6) (some 30) (v := ?v6_21) rfl rfl (by kernel_rfl) (by kernel_rfl) (by kernel_rfl) (fun _ _ _ h => h) (by rfl) ?y6_21 (by assumption) ?r6_21
                case y6_21 => (intro w hSw; (try dsimp only at hSw); first | (go_simp; done) | (go_simp; with_reducible rfl))
                try simp only [Act.put, List.setIfInBounds_toArray, List.set_cons_zero, List.set_cons_succ]
                refine wpAnyH_ready (rs := [5]) (by kernel_rfl) (by simp) ?_
                refine AllReadyH.cons rfl (fun K hK => ?_) ?_
                · go_simp
                  go_at_call 20
                  refine (IHB.out _ _ _ _ H12.out mem3 hszB).mono ?_
                  rintro z w13 ⟨vB, rfl, h13⟩
                  obtain ⟨bB, cB, hvB, _⟩ := h13.sl_form mem0
                  subst hvB
                  have H13 := hide h13.f1
                  clear h13 H12
                  refine hK.out _ _ ?_ (fun hHeld => ?_)
                  · trivial
                  clear hK K
                  try simp only [Act.put, List.setIfInBounds_toArray, List.set_cons_zero, List.set_cons_succ]
                  refine wpAnyH_ready (rs := [7]) (by kernel_rfl) (by simp) ?_
                  refine AllReadyH.cons rfl (fun K hK => ?_) ?_
                  · refine step_storeF_st (cs := [.int .i64 x.kind, .int .i64 x.pos, sv x.name, va, vb2]) (ds := [.int .i64 x.kind, .int .i64 x.pos, sv x.name, .slice bA (turnS x.A).toL.length cA, vb2]) rfl 45 (.tmp 30) (.tmp 26) rfl szStmts rfl rfl rfl rfl H13.out (by simp) rfl ?_
                    intro w15 h15
                    have H15 := hide h15
                    clear h15 H13
                    refine hK.out _ _ ?_ (fun hHeld => ?_)
                    · trivial
                    clear hK K
                    try simp only [Act.put, List.setIfInBounds_toArray, List.set_cons_zero, List.set_cons_succ]
                    refine wpAnyH_takeD (i := 8) (some 31) (v := ?v8_22) rfl rfl (by kernel_rfl) (by kernel_rfl) (by kernel_rfl) (fun _ _ _ h => h) (by rfl) ?y8_22 (by assumption) ?r8_22
                    case y8_22 => (intro w hSw; (try dsimp only at hSw); first | (go_simp; done) | (go_simp; with_reducible rfl))
                    try simp only [Act.put, List.setIfInBounds_toArray, List.set_cons_zero, List.set_cons_succ]
                    refine wpAnyH_ready (rs := [9]) (by kernel_rfl) (by simp) ?_
                    refine AllReadyH.cons rfl (fun K hK => ?_) ?_
                    · refine step_storeF_st (cs := [.int .i64 x.kind, .int .i64 x.pos, sv x.name, .slice bA (turnS x.A).toL.length cA, vb2]) (ds := [.int .i64 x.kind, .int .i64 x.pos, sv x.name, .slice bA (turnS x.A).toL.length cA, .slice bB (turnS x.B).toL.length cB]) rfl 45 (.tmp 31) (.tmp 29) rfl szStmts rfl rfl rfl rfl H15.out (by simp) rfl ?_
                      intro w16 h16
                      have HZ0 := hide h16
                      clear h16 H15
                      refine hK.out _ _ ?_ (fun hHeld => ?_)
                      · trivial
                      clear hK K
                      try simp only [Act.put, List.setIfInBounds_toArray, List.set_cons_zero, List.set_cons_succ]
                      refine wpAnyH_done (by kernel_rfl) ?_ _
                      have HZ := hide HZ0.out.d3.d3.d3
                      clear HZ0
                      go_wp2_with (first
                        | (refine wpList_loadB_st (cs := [.int .i64 x.kind, .int .i64 x.pos, sv x.name, .slice bA (turnS x.A).toL.length cA, .slice bB (turnS x.B).toL.length cB]) rfl agStmt (.tmp 5) rfl rfl rfl HZ.out mem0 ?_)
                        | (refine wpList_build1_st (E := stmtE) rfl (.tmp 33) slStmt rfl (turnOf x) rfl HZ.out ?_ ?_; exact (fun e hl hs => by rw [HSO.out]; exact ⟨_, _, rfl, HOK.out, Stms.sl_iff.2 (hs.sl_mem mem2), Stms.sl_iff.2 (hs.sl_mem mem1)⟩); intro g13 w13 h13; have H13 := hide h13.f4; clear h13 HZ)
                        | (at_builtin; refine wpList_append_st rfl (.tmp 32) (.tmp 34) slStmt rfl H13.out (Src.of_rows mem1) rfl rfl hq1 hq2 ?_; intro vb3 n3 vc3 w14 hn3 h14; have H14 := hide (h14.d1.d1.d1.d1); have HN3 := hide hn3; clear h14 H13 hn3))
                      go_roundw
                      case rel => exact ⟨k + 1, by omega, by go_num, vb3, vc3, by rw [HN3.out, HDL.out]; rfl, by rw [HTK.out]; exact H14.out⟩
                      case measure => exact meas_step hlt
                    exact AllReadyH.nil
                  exact AllReadyH.nil
                exact AllReadyH.nil
              exact AllReadyH.nil
            exact AllReadyH.nil
          refine AllReadyH.cons rfl (fun K hK => ?_) ?_
          · go_simp
            refine hK.out _ _ ?_ (fun hHeld => ?_)
            · trivial
            clear hK K
            try simp only [Act.put, List.setIfInBounds_toArray, List.set_cons_zero, List.set_cons_succ]
            refine wpAnyH_ready (rs := [1]) (by kernel_rfl) (by simp) ?_
            refine AllReadyH.cons rfl (fun K hK => ?_) ?_
            · go_simp
              refine hK.out _ _ ?_ (fun hHeld => ?_)
              · trivial
              clear hK K
              try simp only [Act.put, List.setIfInBounds_toArray, List.set_cons_zero, List.set_cons_succ]
              refine wpAnyH_ready (rs := [2]) (by kernel_rfl) (by simp) ?_
              refine AllReadyH.cons rfl (fun K hK => ?_) ?_
              · go_simp
                go_at_call 20
                refine (IHA.out _ _ _ _ H10.out.drew mem1 hszA).mono ?_
                rintro z w12 ⟨vA, rfl, h12⟩
                obtain ⟨bA, cA, hvA, _⟩ := h12.sl_form mem0
                subst hvA
                have a4b : w12.cell? ⟨g9, 4, none⟩ = some vb2 := h12.blk_cell mem1 4
                have H12 := hide h12.f1
                clear h12 H10
                refine hK.out _ _ ?_ (fun hHeld => ?_)
                · trivial
                clear hK K
                try simp only [Act.put, List.setIfInBounds_toArray, List.set_cons_zero, List.set_cons_succ]
                refine wpAnyH_takeD (i := 6) (some 30) (v := ?v6_23) rfl rfl (by kernel_rfl) (by kernel_rfl) (by kernel_rfl) (fun _ _ _ h => h) (by rfl) ?y6_23 (by assumption) ?r6_23
                case y6_23 => (intro w hSw; (try dsimp only at hSw); first | (go_simp; done) | (go_simp; with_reducible rfl))
                try simp only [Act.put, List.setIfInBounds_toArray, List.set_cons_zero, List.set_cons_succ]
                refine wpAnyH_ready (rs := [5]) (by kernel_rfl) (by simp) ?_
                refine AllReadyH.cons rfl (fun K hK => ?_) ?_
                · go_simp
                  go_at_call 20
                  refine (IHB.out _ _ _ _ H12.out mem3 hszB).mono ?_
                  rintro z w13 ⟨vB, rfl, h13⟩
                  obtain ⟨bB, cB, hvB, _⟩ := h13.sl_form mem0
                  subst hvB
                  have H13 := hide h13.f1
                  clear h13 H12
                  refine hK.out _ _ ?_ (fun hHeld => ?_)
                  · trivial
                  clear hK K
                  try simp only [Act.put, List.setIfInBounds_toArray, List.set_cons_zero, List.set_cons_succ]
                  refine wpAnyH_ready (rs := [7]) (by kernel_rfl) (by simp) ?_
                  refine AllReadyH.cons rfl (fun K hK => ?_) ?_
                  · refine step_storeF_st (cs := [.int .i64 x.kind, .int .i64 x.pos, sv x.name, va, vb2]) (ds := [.int .i64 x.kind, .int .i64 x.pos, sv x.name, .slice bA (turnS x.A).toL.length cA, vb2]) rfl 45 (.tmp 30) (.tmp 26) rfl szStmts rfl rfl rfl rfl H13.out (by simp) rfl ?_
                    intro w15 h15
                    have H15 := hide h15
                    clear h15 H13
                    refine hK.out _ _ ?_ (fun hHeld => ?_)
                    · trivial
                    clear hK K
                    try simp only [Act.put, List.setIfInBounds_toArray, List.set_cons_zero, List.set_cons_succ]
                    refine wpAnyH_takeD (i := 8) (some 31) (v := ?v8_24) rfl rfl (by kernel_rfl) (by kernel_rfl) (by kernel_rfl) (fun _ _ _ h => h) (by rfl) ?y8_24 (by assumption) ?r8_24
                    case y8_24 => (intro w hSw; (try dsimp only at hSw); first | (go_simp; done) | (go_simp; with_reducible rfl))
                    try simp only [Act.put, List.setIfInBounds_toArray, List.set_cons_zero, List.set_cons_succ]
                    refine wpAnyH_ready (rs := [9]) (by kernel_rfl) (by simp) ?_
                    refine AllReadyH.cons rfl (fun K hK => ?_) ?_
                    · refine step_storeF_st (cs := [.int .i64 x.kind, .int .i64 x.pos, sv x.name, .slice bA (turnS x.A).toL.length cA, vb2]) (ds := [.int .i64 x.kind, .int .i64 x.pos, sv x.name, .slice bA (turnS x.A).toL.length cA, .slice bB (turnS x.B).toL.length cB]) rfl 45 (.tmp 31) (.tmp 29) rfl szStmts rfl rfl rfl rfl H15.out (by simp) rfl ?_
                      intro w16 h16
                      have HZ0 := hide h16
                      clear h16 H15
                      refine hK.out _ _ ?_ (fun hHeld => ?_)
                      · trivial
                      clear hK K
                      try simp only [Act.put, List.setIfInBounds_toArray, List.set_cons_zero, List.set_cons_succ]
                      refine wpAnyH_done (by kernel_rfl) ?_ _
                      have HZ := hide HZ0.out.d3.d3.d3
                      clear HZ0
                      go_wp2_with (first
                        | (refine wpList_loadB_st (cs := [.int .i64 x.kind, .int .i64 x.pos, sv x.name, .slice bA (turnS x.A).toL.length cA, .slice bB (turnS x.B).toL.length cB]) rfl agStmt (.tmp 5) rfl rfl rfl HZ.out mem0 ?_)
                        | (refine wpList_build1_st (E := stmtE) rfl (.tmp 33) slStmt rfl (turnOf x) rfl HZ.out ?_ ?_; exact (fun e hl hs => by rw [HSO.out]; exact ⟨_, _, rfl, HOK.out, Stms.sl_iff.2 (hs.sl_mem mem2), Stms.sl_iff.2 (hs.sl_mem mem1)⟩); intro g13 w13 h13; have H13 := hide h13.f4; clear h13 HZ)
                        | (at_builtin; refine wpList_append_st rfl (.tmp 32) (.tmp 34) slStmt rfl H13.out (Src.of_rows mem1) rfl rfl hq1 hq2 ?_; intro vb3 n3 vc3 w14 hn3 h14; have H14 := hide (h14.d1.d1.d1.d1); have HN3 := hide hn3; clear h14 H13 hn3))
                      go_roundw
                      case rel => exact ⟨k + 1, by omega, by go_num, vb3, vc3, by rw [HN3.out, HDL.out]; rfl, by rw [HTK.out]; exact H14.out⟩
                      case measure => exact meas_step hlt
                    exact AllReadyH.nil
                  exact AllReadyH.nil
                exact AllReadyH.nil
              exact AllReadyH.nil
            exact AllReadyH.nil
          exact AllReadyH.nil
      · have hke : l.toL.take k = l.toL := List.take_of_length_le (by omega)
        have hf := H1.out.persist
        rw [hke, ← turnS_toL] at hf
        have HF := hide hf
        clear hke hf H1
        go_wp2_with fail
        go_ret
        exact ⟨_, rfl, HF.out⟩
theorem gturned_calls (l : Stms) : GTurned l := gturned_all l.size l rfl
end Go.Proofs.Ytmebmgbjpbapjaa

namespace Go.Proofs.Ytmebmgbjpbapjaa
open Go.RowKit Go.Maps Go.MapKept

theorem names_swap : ∀ l : Stms, names 6 (turnS l) = names 5 l ∧ names 5 (turnS l) = names 6 l
  | .nil => ⟨rfl, rfl⟩
  | .cons k p n A B r => by
    obtain ⟨a1, a2⟩ := names_swap A
    obtain ⟨b1, b2⟩ := names_swap B
    obtain ⟨r1, r2⟩ := names_swap r
    simp only [turnS, names, a1, a2, b1, b2, r1, r2]
    have e1 : (swapK k = 6) = (k = 5) := by unfold swapK; split <;> (try split) <;> simp <;> omega
    have e2 : (swapK k = 5) = (k = 6) := by unfold swapK; split <;> (try split) <;> simp <;> omega
    simp only [e1, e2, and_self]
def wrapS (l : Stms) : Stms := .cons 7 0 [] .nil (.cons 8 0 [] (turnS l) .nil .nil) .nil
def wrapF (x : FRec) : FRec := ⟨x.name, x.pos, wrapS x.body⟩
theorem names_wrap (l : Stms) : names 6 (wrapS l) = names 5 l ∧ names 5 (wrapS l) = names 6 l := by
  obtain ⟨a1, a2⟩ := names_swap l
  simp [wrapS, names, a1, a2]
theorem namesP_wrap (F : List FRec) (f : Str) : namesP 6 (F.map wrapF) f = namesP 5 F f ∧ namesP 5 (F.map wrapF) f = namesP 6 F f := by
  simp only [namesP, List.flatMap_map, wrapF, (names_wrap _).1, (names_wrap _).2, and_self]
theorem names_len (kind : Int) : ∀ l : Stms, (names kind l).length ≤ l.size
  | .nil => by simp [names]
  | .cons k p n A B r => by
    have := names_len kind A; have := names_len kind B; have := names_len kind r
    simp only [names, List.length_append, Stms.size]
    split <;> simp <;> omega
theorem blockR_size : ∀ l : Raws, (blockR l).size ≤ l.size
  | .nil => Nat.le_refl _
  | .cons k n A B r => by
    have h1 := blockR_size A; have h2 := blockR_size B; have h3 := blockR_size r
    simp only [blockR, Stms.size, Raws.size]
    have hA : (if 1 + k % 8 = 7 ∨ 1 + k % 8 = 8 then blockR A else Stms.nil).size ≤ A.size := by split; exact h1; exact Nat.zero_le _
    have hB : (if 1 + k % 8 = 7 then blockR B else Stms.nil).size ≤ B.size := by split; exact h2; exact Nat.zero_le _
    exact Nat.add_le_add (Nat.add_le_add (Nat.add_le_add_left hA 1) hB) h3
def totS (F : List FRec) : Nat := (F.map (fun x => x.body.size)).sum
theorem namesP_len (kind : Int) (f : Str) : ∀ F : List FRec, (namesP kind F f).length ≤ totS F
  | [] => by simp [namesP]
  | x :: F => by
    have h1 := namesP_len kind f F
    have h2 := names_len kind x.body
    simp only [namesP, List.flatMap_cons, List.length_append] at h1 ⊢
    simp only [totS, List.map_cons, List.sum_cons] at h1 ⊢
    split
    · omega
    · rw [List.length_nil]; omega
theorem funcsR_tot {a c d e : Raws} (t : Int) (h1 : a.size ≤ 40) (h2 : c.size ≤ 40) (h3 : d.size ≤ 40) (h4 : e.size ≤ 40) : totS (funcsR a c d e t) ≤ 160 := by
  have := blockR_size a; have := blockR_size c; have := blockR_size d; have := blockR_size e
  unfold funcsR totS
  split <;> simp <;> omega
end Go.Proofs.Ytmebmgbjpbapjaa

namespace Go.Proofs.Ytmebmgbjpbapjaa
open Go.RowKit Go.Maps Go.MapKept
variable {b : Env} {L : List HP} {w : World}

/-- Whom a function calls. -/
def nxF (F : List FRec) (q : Str) : List Str := setS (namesP 5 F q)
theorem mem_nxF {F : List FRec} {q y : Str} : y ∈ nxF F q ↔ y ∈ namesP 5 F q := mem_setS

set_option maxRecDepth 100000 in
theorem reach1_calls (h : St b L w) {g : Nat} {vv vl vf : Value} {F : List FRec} (hb : HP.blk g (.cells [vv, vl, vf].toArray 43) ∈ L) (hm : HP.sl funcE vf F ∈ L) (q : Str) (hl : (namesP 5 F q).length ≤ 1000000) :
    Calls Try.prog 45 #[sv q, .pointer (some ⟨g, 0, none⟩)] w fun x w' => ∃ v, x = .returned v ∧ St b (HP.sl strE v (nxF F q) :: L) w' := by
  have H := hide h
  have HB := hide hb
  have HM := hide hm
  have HL := hide hl
  clear h hb hm hl
  go_enter Try.func45, Try.ntmps45
  go_wp2_with (first
    | (refine wpList_loadB_st (cs := [vv, vl, vf]) rfl agProg (.tmp 1) rfl rfl rfl H.out HB.out ?_)
    | (go_at_call 22; refine (gcalls_calls H.out HM.out q HL.out).mono ?_; rintro z w2 ⟨v, rfl, h2⟩; have H2 := hide h2; clear h2 H))
  go_ret
  exact ⟨v, rfl, H2.out⟩

set_option maxRecDepth 100000 in
set_option maxHeartbeats 2000000 in
theorem led2_calls (h : St b L w) {g : Nat} {vv vl vf : Value} {F : List FRec} (hb : HP.blk g (.cells [vv, vl, vf].toArray 43) ∈ L) (hm : HP.sl funcE vf F ∈ L) (hnl : ∀ q, (namesP 5 F q).length ≤ 1000000) (s : Str) (hs : okStr s) (U : List Str) (hU0 : s ∈ U) (hU : ∀ a ∈ U, ∀ z ∈ nxF F a, z ∈ U) (hUl : U.length ≤ 1000) :
    Calls Try.prog 36 #[sv s, .func (.func 45) #[] #[.pointer (some ⟨g, 0, none⟩)]] w fun x w' => ∃ ms kvs, x = .returned (.map (some ms)) ∧ (∀ p ∈ kvs, p.2 = true) ∧ (∀ y, y ∈ keysOf kvs ↔ Rch (nxF F) s y) ∧ (keysOf kvs).Nodup ∧ kvs.length ≤ U.length ∧ St b (HP.set ms kvs :: L) w' := by
  have HNL := hide hnl
  clear hnl
  have H := hide h
  have HS := hide hs
  have HU0 := hide hU0
  have HU := hide hU
  have HB := hide hb
  have HM := hide hm
  clear hb hm
  clear h hs hU0 hU
  go_enter Try.func36, Try.ntmps36
  go_wp2_with (first
    | ((with_reducible refine wpList_makeMap_st rfl 66 rfl sv okStr Value.bool H.out ?_); intro ms w1 h1; have H1 := hide h1; clear h1 H)
    | (refine wpList_insert_st rfl 66 (.tmp 10) (.tmp 11) (.const (.bool true)) rfl keyStr mapSet s true rfl rfl HS.out rfl H1.out ?_; intro w2 h2; have H2 := hide h2; clear h2 H1)
    | (refine wpList_build1_st (E := strE) rfl (.tmp 13) slStr rfl s rfl H2.out ?_ ?_; exact (fun _ _ _ => ⟨rfl, HS.out⟩); intro g3 w3 h3; have H3 := hide h3.f1; clear h3 H2))
  go_loopg [6] (2 * U.length + 1) (fun g v6 wr => led1O b L (nxF F) U s ms g v6 wr)
  case atStart => exact ⟨_, _, (led_start HU0.out).1, (led_start HU0.out).2, by simp [kput]; omega, _, _, rfl, H3.out⟩
  case round =>
    obtain ⟨kvs, todo, hp, hsh, hg, base, cap, rfl, hs⟩ := hrel
    have H4 := hide hs
    have HP4 := hide hp
    have HSH := hide hsh
    clear hs hp hsh H3
    obtain ⟨_, _, hv, hc1, _⟩ := H4.out.rows_form mem1
    simp only [Value.slice.injEq, true_and] at hv
    obtain ⟨rfl, rfl⟩ := hv
    by_cases hnil : todo = []
    · subst hnil
      go_wp2_with fail
      go_ret
      exact ⟨ms, kvs, rfl, HP4.out.tru, led_done HP4.out HSH.out, by obtain ⟨e, _, hq⟩ := H4.out; exact hq.map_nodup, led_len (by obtain ⟨e, _, hq⟩ := H4.out; exact hq.map_nodup) HP4.out, H4.out.d1⟩
    · obtain ⟨m, hm⟩ : ∃ m, todo.length = m + 1 := ⟨todo.length - 1, by have := List.length_pos_iff.2 hnil; omega⟩
      obtain ⟨g6, rfl⟩ := H4.out.rows_base mem1 (by omega)
      obtain ⟨hc, hok⟩ := H4.out.sc_row_at mem1 (i := m) (by omega)
      have hlen := HP4.out.len
      have hlen2 := led_len (by obtain ⟨e, _, hq⟩ := H4.out; exact hq.map_nodup) HP4.out
      obtain ⟨n, hn⟩ : ∃ n, todo[m] = n := ⟨_, rfl⟩
      rw [hn] at hc hok
      have hpop := led_pop HP4.out HSH.out hm hn
      have htl : (todo.take m).length = m := by rw [List.length_take]; omega
      have h5 : St b (HP.set ms kvs :: HP.rows 9 strE (.slice (some ⟨g6, 0, none⟩) m cap) (todo.take m) :: L) wr := (H4.out.f1.rows_take m (by omega)).f1
      have hsl := run_slice_top (E := strE) slStr (some ⟨g6, 0, none⟩) (Or.inr ⟨g6, 0, rfl⟩) (m + 1) cap m (by omega) .i64
      have HPP := hide hpop
      have HOK := hide hok
      have H5 := hide h5
      have HTL := hide htl
      have hmb : m ≤ 1000 := by omega
      rw [hm] at hg ⊢
      generalize hT : todo.take m = T at HPP H5 HTL
      clear hlen hlen2 hn hpop hok h5 htl H4 HP4 HSH hm hnil hT
      go_wp2_with (go_at_call 45; refine (reach1_calls H5.out (up2 HB.out) (up2 HM.out) n (HNL.out n)).mono ?_; rintro x w6 ⟨v, rfl, h6⟩; generalize hZ : nxF F n = Z at h6; have HZ : Hid (nxF F n = Z) := hide hZ; clear hZ; obtain ⟨vb, vc, hv, hv1, hv2⟩ := h6.sl_form mem0; have hzl : Z.length ≤ 9223372036854775807 := (by unfold maxLen at hv2; omega); clear hv1 hv2; subst hv; have H6 := hide h6.b2; clear h6 H5)
      go_loopw [6, 33] (fun v6 i wr => led1I b L (nxF F) U s n Z (HP.sl strE (.slice vb Z.length vc) Z) ms (gk - 1) v6 i wr) (fun _ i _ => Z.length - (intOf i).toNat)
      case atStart => exact ⟨kvs, T, 0, HPP.out.1, HPP.out.2.1, HPP.out.2.2, by simp, by rw [HTL.out]; omega, by omega, rfl, _, _, by rw [HTL.out], H6.out⟩
      case round =>
        obtain ⟨kvs', todo', k, hp, hsh, hnk, hzk, hg', hk, rfl, base', cap', rfl, hs⟩ := hrel
        have H7 := hide hs
        have HP7 := hide hp
        have HSH := hide hsh
        have HNK := hide hnk
        have HZK := hide hzk
        clear hs hp hsh H6 hnk hzk HPP
        have hlen := HP7.out.len
        have hlen2 := led_len (by obtain ⟨e, _, hq⟩ := H7.out; exact hq.map_nodup) HP7.out
        by_cases hlt : k < Z.length
        · obtain ⟨gz, oz, hgz⟩ := H7.out.sl_base mem2 (by omega) Nat.one_pos
          subst hgz
          obtain ⟨hc2, hok2⟩ := H7.out.sc_at mem2 hlt
          have HOK2 := hide hok2
          clear hok2
          have hlk := H7.out.set_lookup mem0 Z[k] HOK2.out
          by_cases hin : Z[k] ∈ keysOf kvs'
          · rw [(has_iff HP7.out.tru Z[k]).2 hin] at hlk
            have HIN := hide hin
            clear hin
            go_wp2_with fail
            go_roundw
            case rel => exact ⟨kvs', todo', k + 1, HP7.out, HSH.out, HNK.out, led1_in hlt HZK.out HIN.out, hg', by omega, by go_num, _, _, rfl, H7.out⟩
            case measure => simp [intOf]; omega
          · rw [has_false hin] at hlk
            have HPU := hide (led_push HP7.out HSH.out HNK.out hin (by rw [HZ.out]; exact List.getElem_mem hlt) HU.out)
            clear hin
            go_wp2_with (first
              | (at_mapUpdate; refine wpList_mapUpdate_st rfl 66 (.tmp 41) (.tmp 42) (.const (.bool true)) rfl keyStr mapSet Z[k] true rfl rfl HOK2.out rfl H7.out ?_; intro w8 h8; have H8 := hide h8; clear h8 H7)
              | (refine wpList_build1_st (E := strE) rfl (.tmp 44) slStr rfl Z[k] rfl H8.out ?_ ?_; exact (fun _ _ _ => ⟨rfl, HOK2.out⟩); intro g9 w9 h9; have H9 := hide h9.f2; clear h9 H8)
              | (at_builtin; refine wpList_append_st rfl (.tmp 43) (.tmp 45) slStr rfl H9.out (Src.of_rows mem1) rfl rfl ?_ ?_ ?_; (simp; unfold maxLen; omega); (simp; omega); intro vb3 n3 vc3 w10 hn3 h10; have H10 := hide h10.d1.f1; have HN3 := hide hn3; clear h10 H9 hn3))
            have hl3 := led_len (by obtain ⟨e, _, hq⟩ := H10.out; exact hq.map_nodup) HPU.out.1
            rw [HPU.out.2.2.2.2.1] at hl3
            go_roundw
            case rel => exact ⟨_, _, k + 1, HPU.out.1, HPU.out.2.1, HPU.out.2.2.1, led1_in hlt (fun z hz => HPU.out.2.2.2.2.2 z (HZK.out z hz)) HPU.out.2.2.2.1, by rw [HPU.out.2.2.2.2.1]; simp; omega, by omega, by go_num, vb3, vc3, by rw [HN3.out]; simp, H10.out⟩
            case measure => simp [intOf]; omega
        · have hzz := HZK.out
          rw [List.take_of_length_le (by omega)] at hzz
          have HF := hide (led_shut HSH.out (by rw [HZ.out]; exact hzz))
          clear hzz
          go_wp2_with fail
          go_roundg (gk - 1)
          case measure => omega
          case rel => exact ⟨kvs', todo', HP7.out, HF.out, hg', _, _, rfl, H7.out.d2⟩

set_option maxRecDepth 100000 in
theorem greach_calls (h : St b L w) {vv vl vf : Value} {F : List FRec} (hm : HP.sl funcE vf F ∈ L) (hnl : ∀ q, (namesP 5 F q).length ≤ 1000000) (f : Str) (hf : okStr f) (U : List Str) (hU0 : f ∈ U) (hU : ∀ a ∈ U, ∀ z ∈ nxF F a, z ∈ U) (hUl : U.length ≤ 1000) :
    Calls Try.prog 26 #[.agg #[vv, vl, vf], sv f] w fun x w' => ∃ v R, x = .returned v ∧ Inc R ∧ (∀ y, y ∈ R ↔ Rch (nxF F) f y) ∧ R.length ≤ 1000 ∧ St b (HP.sl strE v R :: L) w' := by
  have H := hide h
  have HM := hide hm
  have HNL := hide hnl
  have HOK := hide hf
  have HU0 := hide hU0
  have HU := hide hU
  clear h hm hnl hf hU0 hU
  go_enter Try.func26, Try.ntmps26
  go_wp2_with (first
    | ((with_reducible refine wpList_box_st (cs := [vv, vl, vf]) rfl (.tmp 0) rfl rfl H.out ?_); intro g2 w1 h1; have H1 := hide h1; clear h1 H)
    | (go_at_call 36; refine (led2_calls H1.out mem0 (up1 HM.out) HNL.out f HOK.out U HU0.out HU.out hUl).mono ?_; rintro z w2 ⟨ms, kvs, rfl, ht, hr, hn, hk, h2⟩; have H2 := hide h2; have HR := hide hr; have HN := hide hn; have HK := hide hk; clear h2 H1 hr hn hk ht)
    | (go_at_call 37; refine (sorted_calls H2.out (Nat.le_trans HK.out (Nat.le_trans hUl (by decide)))).mono ?_; rintro z w3 ⟨bb, n, cc, rfl, h3⟩; have H3 := hide h3.persist.d1.d1; clear h3 H2))
  go_ret
  refine ⟨_, _, rfl, inc_sortS HN.out, fun y => by rw [mem_sortS]; exact HR.out y, ?_, H3.out⟩
  have e : (sortS (keysOf kvs)).length = (keysOf kvs).length := (List.mergeSort_perm _ _).length_eq
  rw [e, List.length_map]
  exact Nat.le_trans HK.out hUl

/-- A function's place. -/
def findR (F : List FRec) (f : Str) : Int := match F.findIdx? (fun x => x.name == f) with | some i => (i : Int) | none => -1
def FindAt (w : World) (F : List FRec) (f : Str) (i : Value) (wr : World) : Prop := ∃ k : Nat, k ≤ F.length ∧ i = .int .i64 k ∧ w = wr ∧ ∀ x ∈ F.take k, (x.name == f) = false
theorem find_take {F : List FRec} {f : Str} {k : Nat} (hk : k < F.length) {x : FRec} (hx : F[k] = x) (hn : ∀ x ∈ F.take k, (x.name == f) = false) (he : (x.name == f) = false) : ∀ x ∈ F.take (k + 1), (x.name == f) = false := by
  intro y hy
  rw [List.take_succ_eq_append_getElem hk, List.mem_append] at hy
  rcases hy with h | h
  · exact hn y h
  · simp at h; subst h; rw [hx]; exact he
theorem find_some {F : List FRec} {f : Str} {k : Nat} (hk : k < F.length) {x : FRec} (hx : F[k] = x) (hn : ∀ x ∈ F.take k, (x.name == f) = false) (he : (x.name == f) = true) : findR F f = (k : Int) := by
  unfold findR
  have : F.findIdx? (fun x => x.name == f) = some k := by
    rw [List.findIdx?_eq_some_iff_getElem]
    refine ⟨hk, by rw [hx]; exact he, fun j hj => ?_⟩
    have := hn F[j] (List.mem_take_iff_getElem.2 ⟨j, by omega, rfl⟩)
    rw [this]; simp
  rw [this]
theorem find_none {F : List FRec} {f : Str} (hn : ∀ x ∈ F, (x.name == f) = false) : findR F f = -1 := by
  unfold findR
  rw [List.findIdx?_eq_none_iff.2 hn]

set_option maxRecDepth 100000 in
set_option maxHeartbeats 1000000 in
theorem find_calls (h : St b L w) {vv vl vf : Value} {F : List FRec} (hm : HP.sl funcE vf F ∈ L) (f : Str) :
    Calls Try.prog 25 #[.agg #[vv, vl, vf], sv f] w fun x w' => x = .returned (.int .i64 (findR F f)) ∧ St b L w' := by
  obtain ⟨bf, cf, rfl, hc1, hc2⟩ := h.sl_form hm
  have hm2 : (F.length : Int) ≤ 9223372036854775807 := by unfold maxLen at hc2; omega
  have H := hide h
  have HM := hide hm
  clear h hm hc1 hc2
  go_enter Try.func25, Try.ntmps25
  go_wp2_with (first
    | ((with_reducible refine wpList_box_st (cs := [vv, vl, .slice bf F.length cf]) rfl (.tmp 0) rfl rfl H.out ?_); intro g2 w1 h1; have c2 : w1.cell? ⟨g2, 2, none⟩ = some (.slice bf F.length cf) := h1.blk_cell mem0 2; have H1 := hide h1; clear h1 H))
  go_loopw [5] (fun i wr => FindAt w1 F f i wr) (fun i _ => F.length - (intOf i).toNat)
  case atStart => exact ⟨0, by omega, rfl, rfl, by simp⟩
  case round =>
    obtain ⟨k, hk, rfl, rfl, hn⟩ := hrel
    have HN := hide hn
    clear hn
    by_cases hlt : k < F.length
    · have hlt' : (k : Int) < F.length := by omega
      obtain ⟨g, o, rfl⟩ := H1.out.sl_base (up1 HM.out) (by omega) (by decide)
      obtain ⟨cs, h4⟩ := H1.out.elem (up1 HM.out) (List.getElem?_eq_getElem hlt) (by decide)
      obtain ⟨x, hx⟩ : ∃ x, F[k] = x := ⟨_, rfl⟩
      rw [hx] at h4
      obtain ⟨v, hok, rfl, h5⟩ := h4.func
      have c3 : w1.cell? ⟨g, o + k * 3, none⟩ = some (.string ⟨x.name.toArray⟩) := h5.elem_cell mem1 0 rfl
      have HX := hide hx
      clear h4 h5 hok hx
      cases he : (x.name == f) with
      | true =>
        have HF := hide (find_some hlt HX.out HN.out he)
        go_wp2_with fail
        go_ret
        exact ⟨by rw [HF.out]; rfl, H1.out.drop⟩
      | false =>
        have HF := hide (find_take hlt HX.out HN.out he)
        go_wp2_with fail
        go_roundw
        case rel => exact ⟨k + 1, by omega, by go_num, rfl, HF.out⟩
        case measure => exact meas_step hlt
    · have HF : Hid (findR F f = -1) := hide (find_none (by have := HN.out; rw [List.take_of_length_le (by omega)] at this; exact this))
      go_wp2_with fail
      go_ret
      exact ⟨by rw [HF.out]; rfl, H1.out.drop⟩
end Go.Proofs.Ytmebmgbjpbapjaa
