/-
  package graph: of, Calls, Spawns.
-/
import Derived.Test.YtmebmgbjpbapjaaSp
import Derived.Test.YtmebmgbjpbapjaaGf
import Derived.Test.YtmebmgbjpbapjaaGz
namespace Go.Proofs.Ytmebmgbjpbapjaa
open Go.RowKit Go.Maps Go.MapKept
variable {b : Env} {L : List HP} {w : World}

/-- The names that a function's statements of a kind have. -/
def namesP (kind : Int) (F : List FRec) (f : Str) : List Str := F.flatMap (fun x => if x.name = f then names kind x.body else [])
theorem namesP_succ {kind : Int} {F : List FRec} {f : Str} {k : Nat} (hk : k < F.length) {x : FRec} (hx : F[k] = x) : namesP kind (F.take (k + 1)) f = namesP kind (F.take k) f ++ (if x.name = f then names kind x.body else []) := by
  rw [List.take_succ_eq_append_getElem hk, hx]; simp [namesP]
/-- In order, each once. -/
def setS (l : List Str) : List Str := sortS (keysOf (putAll [] l))
theorem setS_inc (l : List Str) : Inc (setS l) := inc_sortS (nodup_putAll l (kvs := []) (by simp))
theorem mem_setS {l : List Str} {y : Str} : y ∈ setS l ↔ y ∈ l := by unfold setS; rw [mem_sortS, mem_putAll]
theorem setS_len (l : List Str) : (setS l).length ≤ l.length := by
  unfold setS
  have e : (sortS (keysOf (putAll [] l))).length = (keysOf (putAll [] l)).length := (List.mergeSort_perm _ _).length_eq
  rw [e, List.length_map]
  have := putAll_len l []
  simpa using this
theorem setS_ext {l m : List Str} (h : ∀ y, y ∈ l ↔ y ∈ m) : setS l = setS m := (setS_inc l).ext (setS_inc m) (fun y => by rw [mem_setS, mem_setS, h])

def OfAt (b : Env) (L : List HP) (m : Nat) (B : HP) (kind : Int) (F : List FRec) (f : Str) (i : Value) (wr : World) : Prop := ∃ k : Nat, k ≤ F.length ∧ i = .int .i64 k ∧ St b (HP.set m (putAll [] (namesP kind (F.take k) f)) :: B :: L) wr

set_option maxRecDepth 100000 in
set_option maxHeartbeats 2000000 in
theorem of_calls (h : St b L w) {vv vl vf : Value} {F : List FRec} (hm : HP.sl funcE vf F ∈ L) (f : Str) (kind : Int) :
    Calls Try.prog 44 #[.agg #[vv, vl, vf], sv f, .int .i64 kind] w fun x w' => ∃ m, x = .returned (.map (some m)) ∧ St b (HP.set m (putAll [] (namesP kind F f)) :: L) w' := by
  obtain ⟨bf, cf, rfl, hc1, hc2⟩ := h.sl_form hm
  have hm2 : (F.length : Int) ≤ 9223372036854775807 := by unfold maxLen at hc2; omega
  have H := hide h
  have HM := hide hm
  clear h hm hc1 hc2
  go_enter Try.func44, Try.ntmps44
  go_wp2_with (first
    | ((with_reducible refine wpList_box_st (cs := [vv, vl, .slice bf F.length cf]) rfl (.tmp 0) rfl rfl H.out ?_); intro g3 w1 h1; have H1 := hide h1; clear h1 H)
    | ((with_reducible refine wpList_makeMap_st rfl 66 rfl sv okStr Value.bool H1.out ?_); intro m w2 h2; have cf2 : w2.cell? ⟨g3, 2, none⟩ = some (.slice bf F.length cf) := h2.blk_cell mem1 2; have H2 := hide h2; clear h2 H1))
  go_loopw [14] (fun i wr => OfAt b L m (HP.blk g3 (.cells [vv, vl, .slice bf F.length cf].toArray 43)) kind F f i wr) (fun i _ => F.length - (intOf i).toNat)
  case atStart => exact ⟨0, by omega, rfl, H2.out⟩
  case round =>
    obtain ⟨k, hk, rfl, hs⟩ := hrel
    have H3 := hide hs
    clear hs H2
    by_cases hlt : k < F.length
    · have hlt' : (k : Int) < F.length := by omega
      obtain ⟨g, o, rfl⟩ := H3.out.sl_base (up2 HM.out) (by omega) (by decide)
      obtain ⟨cs, h4⟩ := H3.out.elem (up2 HM.out) (List.getElem?_eq_getElem hlt) (by decide)
      obtain ⟨x, hx⟩ : ∃ x, F[k] = x := ⟨_, rfl⟩
      have HNS := hide (namesP_succ (kind := kind) (f := f) hlt hx)
      rw [hx] at h4
      obtain ⟨e1, _, _, hrd⟩ := h4.elem_rd mem0
      have HONE := hide (funcE.one hrd)
      obtain ⟨v, hok, rfl, h5⟩ := h4.func
      have HCS : Hid (∀ j u, [sv x.name, Value.int .i64 x.pos, v][j]? = some u → wr.cell? ⟨g, o + k * 3 + j, none⟩ = some u) := hide (fun j u hj => h5.elem_cell mem1 j hj)
      have H5 := hide h5
      clear h4 h5 hrd hok H3 hx
      by_cases hn : x.name = f
      · have hnb : (x.name == f) = true := by simp [hn]
        have HN := hide hn
        clear hn
        go_wp2_with (first
          | (with_reducible refine wpList_load_ag (cs := [sv x.name, .int .i64 x.pos, v]) rfl agFunc (.tmp 16) rfl rfl rfl HCS.out ?_)
          | ((with_reducible refine wpList_alloc_ag rfl agFunc rfl H5.out ?_); intro g9 w9 h9; have H9 := hide h9; clear h9 H5)
          | ((with_reducible refine wpList_store_ag (cs := [sv x.name, .int .i64 x.pos, v]) rfl agFunc (.tmp 9) (.tmp 17) rfl rfl rfl rfl rfl HONE.out H9.out ?_); intro w10 h10; have c0 : w10.cell? ⟨g9, 0, none⟩ = some (.string ⟨x.name.toArray⟩) := h10.blk_cell mem0 0; have c2 : w10.cell? ⟨g9, 2, none⟩ = some v := h10.blk_cell mem0 2; have H10 := hide h10.f3; clear h10 H9)
          | (go_at_call 59; refine (gnamed_calls x.body b _ _ v m _ H10.out mem1 kind).mono ?_; rintro z w12 ⟨rfl, h12⟩; have H12 := hide h12.d1.d1.d1; clear h12 H10))
        go_roundw
        case rel => exact ⟨k + 1, by omega, by go_num, by rw [HNS.out, if_pos HN.out, putAll_append]; exact H12.out⟩
        case measure => exact meas_step hlt
      · have hnb : (x.name == f) = false := by simp [hn]
        have HN := hide hn
        clear hn
        go_wp2_with (first
          | (with_reducible refine wpList_load_ag (cs := [sv x.name, .int .i64 x.pos, v]) rfl agFunc (.tmp 16) rfl rfl rfl HCS.out ?_)
          | ((with_reducible refine wpList_alloc_ag rfl agFunc rfl H5.out ?_); intro g9 w9 h9; have H9 := hide h9; clear h9 H5)
          | ((with_reducible refine wpList_store_ag (cs := [sv x.name, .int .i64 x.pos, v]) rfl agFunc (.tmp 9) (.tmp 17) rfl rfl rfl rfl rfl HONE.out H9.out ?_); intro w10 h10; have c0 : w10.cell? ⟨g9, 0, none⟩ = some (.string ⟨x.name.toArray⟩) := h10.blk_cell mem0 0; have H10 := hide h10.f3.d1.d1.d1; clear h10 H9))
        go_roundw
        case rel => exact ⟨k + 1, by omega, by go_num, by rw [HNS.out, if_neg HN.out, List.append_nil]; exact H10.out⟩
        case measure => exact meas_step hlt
    · have hke : F.take k = F := List.take_of_length_le (by omega)
      have hf := H3.out.d1
      rw [hke] at hf
      have HF := hide hf
      clear hf hke H3
      go_wp2_with fail
      go_ret
      exact ⟨m, rfl, HF.out⟩

set_option maxRecDepth 100000 in
theorem gcalls_calls (h : St b L w) {vv vl vf : Value} {F : List FRec} (hm : HP.sl funcE vf F ∈ L) (f : Str) (hl : (namesP 5 F f).length ≤ 1000000) :
    Calls Try.prog 22 #[.agg #[vv, vl, vf], sv f] w fun x w' => ∃ v, x = .returned v ∧ St b (HP.sl strE v (setS (namesP 5 F f)) :: L) w' := by
  have H := hide h
  have HM := hide hm
  have HL := hide hl
  clear h hm hl
  go_enter Try.func22, Try.ntmps22
  go_wp2_with (first
    | ((with_reducible refine wpList_box_st (cs := [vv, vl, vf]) rfl (.tmp 0) rfl rfl H.out ?_); intro g2 w1 h1; have H1 := hide h1; clear h1 H)
    | (refine wpList_loadB_st (cs := [vv, vl, vf]) rfl agProg (.tmp 2) rfl rfl rfl H1.out mem0 ?_)
    | (go_at_call 44; refine (of_calls H1.out (up1 HM.out) f 5).mono ?_; rintro z w2 ⟨m, rfl, h2⟩; have H2 := hide h2; clear h2 H1)
    | (go_at_call 37; refine (sorted_calls H2.out (Nat.le_trans (putAll_len _ _) (by rw [List.length_nil, Nat.zero_add]; exact HL.out))).mono ?_; rintro z w3 ⟨bb, n, cc, rfl, h3⟩; have H3 := hide h3.persist.d1.d1; clear h3 H2))
  go_ret
  exact ⟨_, rfl, H3.out⟩
set_option maxRecDepth 100000 in
theorem gspawns_calls (h : St b L w) {vv vl vf : Value} {F : List FRec} (hm : HP.sl funcE vf F ∈ L) (f : Str) (hl : (namesP 6 F f).length ≤ 1000000) :
    Calls Try.prog 23 #[.agg #[vv, vl, vf], sv f] w fun x w' => ∃ v, x = .returned v ∧ St b (HP.sl strE v (setS (namesP 6 F f)) :: L) w' := by
  have H := hide h
  have HM := hide hm
  have HL := hide hl
  clear h hm hl
  go_enter Try.func23, Try.ntmps23
  go_wp2_with (first
    | ((with_reducible refine wpList_box_st (cs := [vv, vl, vf]) rfl (.tmp 0) rfl rfl H.out ?_); intro g2 w1 h1; have H1 := hide h1; clear h1 H)
    | (refine wpList_loadB_st (cs := [vv, vl, vf]) rfl agProg (.tmp 2) rfl rfl rfl H1.out mem0 ?_)
    | (go_at_call 44; refine (of_calls H1.out (up1 HM.out) f 6).mono ?_; rintro z w2 ⟨m, rfl, h2⟩; have H2 := hide h2; clear h2 H1)
    | (go_at_call 37; refine (sorted_calls H2.out (Nat.le_trans (putAll_len _ _) (by rw [List.length_nil, Nat.zero_add]; exact HL.out))).mono ?_; rintro z w3 ⟨bb, n, cc, rfl, h3⟩; have H3 := hide h3.persist.d1.d1; clear h3 H2))
  go_ret
  exact ⟨_, rfl, H3.out⟩
end Go.Proofs.Ytmebmgbjpbapjaa
