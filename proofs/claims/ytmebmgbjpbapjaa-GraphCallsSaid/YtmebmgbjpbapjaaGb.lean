/-
  package graph: Parts.
-/
import Derived.Test.YtmebmgbjpbapjaaGf
import Derived.Test.YtmebmgbjpbapjaaSo
import Derived.Test.YtmebmgbjpbapjaaG6
import Derived.Test.YtmebmgbjpbapjaaGa
namespace Go.Proofs.Ytmebmgbjpbapjaa
open Go.RowKit Go.Maps Go.MapKept
variable {b : Env} {L : List HP} {w : World}

abbrev mv (m : Nat) : Value := .map (some m)
/-- Maps that never turn, one a name: whom it leads to. -/
def HP.psets (F : Str → Str → Bool) (rs : List (Str × Nat)) : HP :=
  ⟨fun e _ => ∀ p ∈ rs, ∃ kvs, (HP.map sv okStr Value.bool p.2 kvs).p e e.h ∧ ∀ y, has kvs y = F p.1 y, fun k h p hp => let ⟨kvs, ⟨es, clock, h1, h2⟩, h3⟩ := h p hp; ⟨kvs, ⟨es, clock, k.h _ _ h1, h2⟩, h3⟩⟩
theorem St.psets_nil (h : St b L w) (F : Str → Str → Bool) : St b (HP.psets F [] :: L) w := h.lay (fun _ _ _ _ p hp => by cases hp)
theorem St.psets_add {F : Str → Str → Bool} {ms : Nat} {kvs : List (Str × Bool)} {rs : List (Str × Nat)} {x : Str} (h : St b (HP.set ms kvs :: HP.psets F rs :: L) w) (hx : ∀ y, has kvs y = F x y) : St b (HP.psets F (kput rs x ms) :: L) w := by
  refine St.d1 (St.d1 (h.map_persist.lay (P := HP.psets F (kput rs x ms)) (fun e hl hs m p hp => ?_)))
  obtain ⟨_, q1⟩ := hs.mem_p mem0
  obtain ⟨_, q2⟩ := hs.mem_p mem1
  rcases kput_mem hp with hp | rfl
  · exact q2 p hp
  · exact ⟨kvs, q1, hx⟩
theorem St.reach_at {F : Str → Str → Bool} {mr : Nat} {rs : List (Str × Nat)} (h : St b L w) (hr : HP.map sv okStr mv mr rs ∈ L) (hp : HP.psets F rs ∈ L) {x : Str} (hx : x ∈ keysOf rs) (hok : okStr x) :
    ∃ m, (Instr.lookup 69 (.map (some mr)) (.string ⟨x.toArray⟩) false).run Try.prog w = .ok (.map (some m)) w ∧ ∀ y, okStr y → (Instr.lookup 66 (.map (some m)) (.string ⟨y.toArray⟩) false).run Try.prog w = .ok (.bool (F x y)) w := by
  obtain ⟨m, hm⟩ : ∃ m, kget rs x = some m := Option.isSome_iff_exists.1 (kget_isSome.2 hx)
  refine ⟨m, ?_, fun y hy => ?_⟩
  · have := h.lookup keyStr hr Try.underlying69 (Try.zeroValue66 w) x hok false
    rw [hm] at this
    exact this
  · obtain ⟨e, hl, hs⟩ := h
    obtain ⟨_, q⟩ := hs.mem_p hp
    obtain ⟨kvs, h1, h2⟩ := q (x, m) (kget_mem hm)
    have h3 : St b (HP.pmap sv okStr Value.bool m kvs :: L) w := ⟨e, hl, hs.lay (fun _ => h1)⟩
    have := h3.plookup keyStr mem0 mapSet (Try.zeroValue4 w) y hy false
    rw [show (Value.string ⟨y.toArray⟩) = sv y from rfl, this, ← h2 y]
    unfold has
    cases kget kvs y <;> rfl

theorem lf_step {q : Str → Str → Bool} (hr : ∀ x, q x x = true) {lf : List Str} (h : 0 < lf.length) : partsR q lf.length lf = lf.filter (q lf[0]) :: partsR q (lf.filter (fun y => !q lf[0] y)).length (lf.filter (fun y => !q lf[0] y)) ∧ (lf.filter (fun y => !q lf[0] y)).length < lf.length := by
  cases lf with
  | nil => simp at h
  | cons x l => exact ⟨partsR_step hr x l, Nat.lt_succ_of_le (filter_lt hr x l)⟩
theorem filter_has {lf : List Str} {p : Str → Bool} : lf.filter (fun y => !has (putAll [] (lf.filter p)) y) = lf.filter (fun y => !p y) := by
  refine List.filter_congr (fun y hy => ?_)
  rw [has_putAll]
  congr 1
  rw [Bool.eq_iff_iff]; simp [hy]

theorem keys_erase {β : Type} : ∀ {l : List (Str × β)} {i : Nat} {p : Str × β} {x : Str}, l[i]? = some p → x ∈ keysOf l → x ∈ keysOf (l.eraseIdx i) ∨ x = p.1
  | [], _, _, _, h, _ => by simp at h
  | y :: l, 0, p, x, h, hx => by
    simp at h; subst h
    simp only [List.map_cons, List.mem_cons] at hx
    rcases hx with hx | hx
    · exact Or.inr hx
    · exact Or.inl hx
  | y :: l, i + 1, p, x, h, hx => by
    simp only [List.map_cons, List.mem_cons] at hx
    rcases hx with hx | hx
    · left; simp [hx]
    · rcases keys_erase (show l[i]? = some p by simpa using h) hx with h | h
      · left; simp only [List.eraseIdx_cons_succ, List.map_cons, List.mem_cons]; exact Or.inr h
      · exact Or.inr h
theorem szMulti : (Try.prog.info? 67).map (·.size) = some 1 := by kernel_rfl
theorem szSet : (Try.prog.info? 66).map (·.size) = some 1 := by kernel_rfl

def PE1 (b : Env) (L : List HP) (N : List Str) (ma : Nat) (i : Value) (wr : World) : Prop := ∃ k : Nat, k ≤ N.length ∧ i = .int .i64 k ∧ St b (HP.set ma (putAll [] (N.take k)) :: L) wr
def PE2 (b : Env) (L : List HP) (N : List Str) (es : List (Str × Str)) (ma ms gt : Nat) (i : Value) (wr : World) : Prop :=
  ∃ k : Nat, k ≤ es.length ∧ i = .int .i64 k ∧ St b (HP.mrows 9 strE ms (adjL (inEdges N (es.take k))) :: HP.blk gt (.cells #[.map (some ms)] 67) :: HP.set ma (putAll [] N) :: L) wr
def PE3 (b : Env) (L : List HP) (F : Str → Str → Bool) (N : List Str) (ma mr r ms gt : Nat) (tos : List (Str × List Str)) (g : Nat) (_ : Value) (wr : World) : Prop :=
  ∃ left last rs, (∀ x ∈ N, x ∈ keysOf left ∨ x ∈ keysOf rs) ∧ (∀ p ∈ left, p.1 ∈ N) ∧ left.length ≤ g ∧
    St b (HP.rng sv okStr Value.bool ma r (putAll [] N) left last :: HP.psets F rs :: HP.map sv okStr mv mr rs :: HP.pmulti strE ms tos :: HP.blk gt (.cells #[.map (some ms)] 67) :: L) wr
def PE4 (b : Env) (L : List HP) (F q : Str → Str → Bool) (N : List Str) (P : List (List Str)) (rs : List (Str × Nat)) (mr mp gp : Nat) (g : Nat) (v14 v15 : Value) (wr : World) : Prop :=
  ∃ out lf pk, (∃ base n cap, v14 = .slice base n cap) ∧ (∃ base cap, v15 = .slice base lf.length cap) ∧ Inc lf ∧ (∀ x ∈ lf, x ∈ N) ∧ out ++ partsR q lf.length lf = P ∧ lf.length ≤ g ∧ out.length + lf.length ≤ 1000 ∧
    St b (HP.rows 24 strE.in v14 out :: HP.rows 9 strE v15 lf :: HP.set mp pk :: HP.blk gp (.cells #[.map (some mp)] 66) :: HP.psets F rs :: HP.map sv okStr mv mr rs :: L) wr
def PE5 (b : Env) (L : List HP) (p : Str → Bool) (lf : List Str) (O R B X M : HP) (mp : Nat) (i : Value) (wr : World) : Prop :=
  ∃ k : Nat, k ≤ lf.length ∧ i = .int .i64 k ∧ St b (HP.set mp (putAll [] ((lf.take k).filter p)) :: O :: R :: B :: X :: M :: L) wr

set_option maxRecDepth 100000 in
set_option maxHeartbeats 4000000 in
theorem gparts_calls (h : St b L w) {vn ve : Value} {N : List Str} {es : List (Str × Str)} (hn : HP.sl strE vn N ∈ L) (he : HP.sl pairE ve es ∈ L) (hNl : N.length ≤ 1000) (hel : es.length ≤ 50000) :
    Calls Try.prog 15 #[vn, ve] w fun x w' => ∃ v S, x = .returned v ∧ Inc S ∧ (∀ y, y ∈ S ↔ y ∈ N) ∧ St b (HP.sl strE.in v (partsR (eqv (edgesN (inEdges N es))) S.length S) :: L) w' := by
  obtain ⟨bn, cn, rfl, _, _⟩ := h.sl_form hn
  obtain ⟨be, ce, rfl, _, _⟩ := h.sl_form he
  have H := hide h
  have HN := hide hn
  have HE := hide he
  clear h hn he
  go_enter Try.func15, Try.ntmps15
  go_wp2_with ((with_reducible refine wpList_makeMap_st rfl 66 rfl sv okStr Value.bool H.out ?_); intro ma w1 h1; have H1 := hide h1; clear h1 H)
  go_loopw [23] (fun i wr => PE1 b L N ma i wr) (fun i _ => N.length - (intOf i).toNat)
  case atStart => exact ⟨0, by omega, rfl, H1.out⟩
  case round =>
    obtain ⟨k, hk, rfl, hs⟩ := hrel
    have H2 := hide hs
    clear hs H1
    by_cases hlt : k < N.length
    · obtain ⟨g, o, hg⟩ := H2.out.sl_base (up1 HN.out) (by omega) Nat.one_pos
      subst hg
      obtain ⟨hc, hok⟩ := H2.out.sc_at (up1 HN.out) hlt
      have HOK := hide hok
      clear hok
      go_wp2_with (at_mapUpdate; refine wpList_mapUpdate_st rfl 66 (.tmp 27) (.tmp 28) (.const (.bool true)) rfl keyStr mapSet N[k] true rfl rfl HOK.out rfl H2.out ?_; intro w3 h3; have H3 := hide h3; clear h3 H2)
      go_roundw
      case rel => exact ⟨k + 1, by omega, by go_num, by rw [List.take_succ_eq_append_getElem hlt, putAll_snoc]; exact H3.out⟩
      case measure => simp [intOf]; omega
    · have h3 := H2.out
      rw [List.take_of_length_le (by omega)] at h3
      have H3 := hide h3
      clear h3 H2
      go_wp2_with (first
        | ((with_reducible refine wpList_makeMap_st rfl 67 rfl sv okStr (fun v : Value => v) H3.out ?_); intro ms w4 h4; have H4 := hide (h4.mrows_new (T := 9) (E := strE)); clear h4 H3)
        | ((with_reducible refine wpList_alloc1_st rfl 67 rfl (Try.zeroValue67 _) rfl H4.out ?_); intro gt w5 h5; have H5 := hide h5; clear h5 H4)
        | ((with_reducible refine wpList_store1_st rfl 67 (.tmp 8) (.tmp 30) rfl szMulti rfl rfl rfl rfl H5.out ?_); intro w6 h6; have H6 := hide h6.f1; clear h6 H5))
      go_loopw [33] (fun i wr => PE2 b L N es ma ms gt i wr) (fun i _ => es.length - (intOf i).toNat)
      case atStart => exact ⟨0, by omega, rfl, H6.out⟩
      case round =>
        obtain ⟨k2, hk2, rfl, hs⟩ := hrel
        have H7 := hide hs
        clear hs H6
        by_cases hlt2 : k2 < es.length
        · obtain ⟨ge, oe, hge⟩ := H7.out.sl_base (up3 HE.out) (by omega) (by decide)
          subst hge
          obtain ⟨hc0, hc01, hok1, hok2⟩ := H7.out.pair_at (up3 HE.out) hlt2
          obtain ⟨x, hx⟩ : ∃ x, es[k2] = x := ⟨_, rfl⟩
          have HX := hide (inEdges_succ (N := N) hlt2 hx)
          rw [hx] at hc0 hc01 hok1 hok2
          have HO1 := hide hok1
          have HO2 := hide hok2
          obtain ⟨x1, x2⟩ := x
          dsimp only at hc0 hc01 HO1 HO2 HX
          have HCS : Hid (∀ j u, [sv x1, sv x2][j]? = some u → wr.cell? ⟨ge, oe + k2 * 2 + j, none⟩ = some u) := hide (fun j u hj => by
            match j, hj with
            | 0, hj => cases hj; exact hc0
            | 1, hj => cases hj; exact hc01)
          have HONE : Hid (∀ v ∈ [sv x1, sv x2], v.oneCell' = true) := hide (by simp [Value.oneCell'])
          have hil : (inEdges N (es.take k2)).length ≤ k2 := by
            have := List.length_filter_le (fun e : Str × Str => decide (e.1 ∈ N) && decide (e.2 ∈ N)) (es.take k2)
            rw [List.length_take] at this; unfold inEdges; omega
          have hzl := edgesN_len (inEdges N (es.take k2)) x1
          rw [← adjL_get] at hzl
          generalize hT : adjL (inEdges N (es.take k2)) = tos at hzl
          have HT := hide hT
          rw [hT] at H7
          clear hok1 hok2 hx hT hc0 hc01
          by_cases h1 : x1 ∈ N
          · by_cases h2 : x2 ∈ N
            · have D1 := hide (decide_eq_true h1)
              have D2 := hide (decide_eq_true h2)
              clear h1 h2
              go_wp2_with (first
                | (with_reducible refine wpList_load_ag (cs := [sv x1, sv x2]) rfl agPair (.tmp 35) rfl rfl rfl HCS.out ?_)
                | ((with_reducible refine wpList_alloc_ag rfl agPair rfl H7.out ?_); intro g9 w9 h9; have H9 := hide h9; clear h9 H7)
                | ((with_reducible refine wpList_store_ag (cs := [sv x1, sv x2]) rfl agPair (.tmp 10) (.tmp 36) rfl rfl rfl rfl rfl HONE.out H9.out ?_); intro w10 h10; have e0 : w10.cell? ⟨g9, 0, none⟩ = some (.string ⟨x1.toArray⟩) := h10.blk_cell mem0 0; have e1 : w10.cell? ⟨g9, 1, none⟩ = some (.string ⟨x2.toArray⟩) := h10.blk_cell mem0 1; have l1 := h10.set_lookup mem3 x1 HO1.out; have l2 := h10.set_lookup mem3 x2 HO2.out; rw [has_putAll, D1.out] at l1; rw [has_putAll, D2.out] at l2; have H10 := hide h10; clear h10 H9))
              obtain ⟨l, v, R, h11, hv, hback⟩ := H10.out.f1.mrows_take x1
              obtain ⟨vb, vc, hv', hz1, hz2⟩ := h11.rows_form mem0
              generalize hZ : (kget tos x1).getD [] = zs at h11 hv' hz1 hz2 hzl
              subst hv'
              have l11 := h11.drew.lookup keyStr mem1 Try.underlying67 (Try.zeroValue24 _) x1 HO1.out false
              have h12 := ((h11.alloc (.cells #[.string ⟨x2.toArray⟩] 9)).rows1 (cs := [sv x2]) (E := strE) x2 (fun _ _ _ => ⟨rfl, HO2.out⟩)).drew
              have l12 := h12.lookup keyStr mem2 Try.underlying67 (Try.zeroValue24 _) x1 HO1.out false
              have hv2 : ((kget l x1).map (fun v : Value => v)).getD (.slice none 0 0) = .slice vb zs.length vc := by rw [← hv]; cases kget l x1 <;> rfl
              simp only [Bool.false_eq_true, if_false, hv2] at l11 l12
              have d0 : w10.drew.cell? ⟨gt, 0, none⟩ = some (.map (some ms)) ∧ w10.drew.cell? ⟨g9, 0, none⟩ = some (.string ⟨x1.toArray⟩) ∧ w10.drew.cell? ⟨g9, 1, none⟩ = some (.string ⟨x2.toArray⟩) := ⟨h11.drew.blk_cell mem4 0, h11.drew.blk_cell mem3 0, h11.drew.blk_cell mem3 1⟩
              have d1 := And.intro (h12.blk_cell mem5 0) (And.intro (h12.blk_cell mem4 0) (h12.blk_cell mem4 1))
              have H12 := hide h12.f1
              have HB := hide hback
              have HZ := hide hZ
              clear h11 h12 hv hv2 hback hZ H10 l1 l2 e0 e1
              go_region_held3 (fun w' => w'.cell? ⟨gt, 0, none⟩ = some (.map (some ms)) ∧ w'.cell? ⟨g9, 0, none⟩ = some (.string ⟨x1.toArray⟩) ∧ w'.cell? ⟨g9, 1, none⟩ = some (.string ⟨x2.toArray⟩))
                (first | exact d0 | exact d1 | exact d2 | exact d3)
                (first
                  | (refine step_append_st rfl (.tmp 53) (.tmp 56) slStr rfl H12.out (Src.of_rows mem1) rfl rfl ?_ ?_ ?_; (simp; unfold maxLen; omega); (simp; omega); intro vb2 n2 vc2 w13 hn2 h13; obtain ⟨w14, hmu, h14⟩ := h13.f2.map_put keyStr Try.underlying67 x1 HO1.out (.slice vb2 n2 vc2); have d2 := And.intro (h13.blk_cell mem5 0) (And.intro (h13.blk_cell mem4 0) (h13.blk_cell mem4 1)); have d3 := And.intro (h14.blk_cell mem5 0) (And.intro (h14.blk_cell mem4 0) (h14.blk_cell mem4 1)); have H14 := hide (HB.out _ _ _ h14.f1.d2); clear h13 h14 H12 hn2))
              all_goals
                clear d0 d1 l11 l12
                go_wp2_with fail
                go_roundw
                case rel => exact ⟨k2 + 1, by omega, by go_num, by rw [HX.out, if_pos (by rw [D1.out, D2.out]; rfl), adjL_snoc, HT.out, HZ.out]; exact H14.out.d1⟩
                case measure => simp [intOf]; omega
            · have D1 := hide (decide_eq_true h1)
              have D2 := hide (decide_eq_false h2)
              clear h1 h2
              go_wp2_with (first
                | (with_reducible refine wpList_load_ag (cs := [sv x1, sv x2]) rfl agPair (.tmp 35) rfl rfl rfl HCS.out ?_)
                | ((with_reducible refine wpList_alloc_ag rfl agPair rfl H7.out ?_); intro g9 w9 h9; have H9 := hide h9; clear h9 H7)
                | ((with_reducible refine wpList_store_ag (cs := [sv x1, sv x2]) rfl agPair (.tmp 10) (.tmp 36) rfl rfl rfl rfl rfl HONE.out H9.out ?_); intro w10 h10; have e0 : w10.cell? ⟨g9, 0, none⟩ = some (.string ⟨x1.toArray⟩) := h10.blk_cell mem0 0; have e1 : w10.cell? ⟨g9, 1, none⟩ = some (.string ⟨x2.toArray⟩) := h10.blk_cell mem0 1; have l1 := h10.set_lookup mem3 x1 HO1.out; have l2 := h10.set_lookup mem3 x2 HO2.out; rw [has_putAll, D1.out] at l1; rw [has_putAll, D2.out] at l2; have H10 := hide h10.drop; clear h10 H9))
              go_roundw
              case rel => exact ⟨k2 + 1, by omega, by go_num, by rw [HX.out, if_neg (by rw [D1.out, D2.out]; decide), List.append_nil, HT.out]; exact H10.out⟩
              case measure => simp [intOf]; omega
          · have D1 := hide (decide_eq_false h1)
            clear h1
            go_wp2_with (first
              | (with_reducible refine wpList_load_ag (cs := [sv x1, sv x2]) rfl agPair (.tmp 35) rfl rfl rfl HCS.out ?_)
              | ((with_reducible refine wpList_alloc_ag rfl agPair rfl H7.out ?_); intro g9 w9 h9; have H9 := hide h9; clear h9 H7)
              | ((with_reducible refine wpList_store_ag (cs := [sv x1, sv x2]) rfl agPair (.tmp 10) (.tmp 36) rfl rfl rfl rfl rfl HONE.out H9.out ?_); intro w10 h10; have e0 : w10.cell? ⟨g9, 0, none⟩ = some (.string ⟨x1.toArray⟩) := h10.blk_cell mem0 0; have l1 := h10.set_lookup mem3 x1 HO1.out; rw [has_putAll, D1.out] at l1; have H10 := hide h10.drop; clear h10 H9))
            go_roundw
            case rel => exact ⟨k2 + 1, by omega, by go_num, by rw [HX.out, if_neg (by rw [D1.out]; simp), List.append_nil, HT.out]; exact H10.out⟩
            case measure => simp [intOf]; omega
        · have h8 := H7.out
          rw [List.take_of_length_le (by omega)] at h8
          have h9 := h8.mrows_persist.f2
          have hSl : (inEdges N es).length ≤ 50000 := by
            have := List.length_filter_le (fun e : Str × Str => decide (e.1 ∈ N) && decide (e.2 ∈ N)) es
            unfold inEdges; omega
          have hcl : ∀ a ∈ N, ∀ z ∈ (fun q => (kget (adjL (inEdges N es)) q).getD []) a, z ∈ N := fun a _ z hz => by
            simp only [adjL_get] at hz
            have := edgesN_mem.1 hz
            have := (List.mem_filter.1 this).2
            simp at this; exact this.2
          have HNX := hide (funext (adjL_get (inEdges N es)))
          generalize hT : adjL (inEdges N es) = tos at h9 hcl HNX
          generalize hSS : inEdges N es = S0 at HNX hSl
          have HSS := hide hSS
          have HCL := hide hcl
          have H9 := hide h9
          clear h8 h9 H7 hT hcl hSS
          go_wp2_with (first
            | ((with_reducible refine wpList_makeMap_st rfl 69 rfl sv okStr mv H9.out ?_); intro mr w10 h10; have H10 := hide h10.f1; clear h10 H9)
            | (refine wpList_range_st rfl (.tmp 61) 66 rfl mapSet rfl H10.out ?_; intro r w11 h11; have H11 := hide (h11.psets_nil (rB (edgesN S0))).f1; clear h11 H10))
          go_loopg [13] (putAll [] N).length (fun g v13 wr => PE3 b L (rB (edgesN S0)) N ma mr r ms gt tos g v13 wr)
          case atStart => exact ⟨_, _, [], fun x hx => Or.inl (mem_putAll.2 hx), fun p hp => mem_putAll.1 (List.mem_map_of_mem hp), Nat.le_refl _, H11.out⟩
          case round =>
            obtain ⟨left, last, rs, hk, hlN, hg, hs⟩ := hrel
            have H12 := hide hs
            have HK := hide hk
            have HLN := hide hlN
            clear hs hk hlN H11
            by_cases hne : left = []
            · subst hne
              have HKR : Hid (∀ x ∈ N, x ∈ keysOf rs) := hide (fun x hx => by rcases HK.out x hx with h | h; (cases h); exact h)
              have h13 := H12.out.rng_done
              have hkl := putAll_len N []
              have HIS := hide (inc_sortS (nodup_putAll N (kvs := []) (by simp)))
              have HMS : Hid (∀ y, y ∈ sortS (keysOf (putAll [] N)) ↔ y ∈ N) := hide (fun y => by rw [mem_sortS, mem_putAll])
              have hSl2 : (sortS (keysOf (putAll [] N))).length ≤ 1000 := by
                have : (sortS (keysOf (putAll [] N))).length = (keysOf (putAll [] N)).length := (List.mergeSort_perm _ _).length_eq
                rw [this, List.length_map]; simp at hkl; omega
              clear HK HLN
              go_wp2_with (first
                | (refine wpList_next_st rfl (.tmp 62) rfl rfl H12.out (fun _ => ?_) (fun i p w' hi => absurd hi (by simp)); have H13 := hide h13; clear h13 H12)
                | (go_at_call 37; refine (sorted_calls H13.out (by simp at hkl; omega)).mono ?_; rintro x w14 ⟨sb, sn, sc, rfl, h14⟩; have H14 := hide h14.d1.d3.d3; clear h14 H13)
                | ((with_reducible refine wpList_makeMap_st rfl 66 rfl sv okStr Value.bool H14.out ?_); intro mp w15 h15; have H15 := hide h15; clear h15 H14)
                | ((with_reducible refine wpList_alloc1_st rfl 66 rfl (Try.zeroValue66 _) rfl H15.out ?_); intro gp w16 h16; have H16 := hide h16; clear h16 H15)
                | ((with_reducible refine wpList_store1_st rfl 66 (.tmp 16) (.tmp 74) rfl szSet rfl rfl rfl rfl H16.out ?_); intro w17 h17; have H17 := hide (h17.f1.f2.rows_nil 24 strE.in); clear h17 H16))
              generalize hS : sortS (keysOf (putAll [] N)) = S at H17 HIS HMS hSl2
              clear hS
              obtain ⟨lb, lc, hlv, _⟩ := H17.out.rows_form mem1
              simp only [Value.slice.injEq] at hlv
              obtain ⟨-, rfl, -⟩ := hlv
              go_loopg [14, 15] S.length (fun g v14 v15 wr => PE4 b L (rB (edgesN S0)) (eqv (edgesN S0)) N (partsR (eqv (edgesN S0)) S.length S) rs mr mp gp g v14 v15 wr)
              case atStart => exact ⟨[], S, _, ⟨_, _, _, rfl⟩, ⟨_, _, rfl⟩, HIS.out, fun x hx => (HMS.out x).1 hx, rfl, Nat.le_refl _, by simpa using hSl2, H17.out⟩
              case round =>
                obtain ⟨out, lf, pk, ⟨ob, on', oc, rfl⟩, ⟨lb2, lc2, rfl⟩, hinc, hlN, heq, hg, hol, hs⟩ := hrel
                have H18 := hide hs
                have HINC := hide hinc
                have HLN := hide hlN
                have HEQ := hide heq
                clear hs hinc hlN heq H17
                by_cases hnil : lf = []
                · subst hnil
                  have hf := H18.out.persist.d1.d1.d1.d1.d1
                  rw [show out = partsR (eqv (edgesN S0)) S.length S by simpa [partsR_nil] using HEQ.out] at hf
                  have HF := hide hf
                  clear H18 hf
                  go_wp2_with fail
                  go_ret
                  exact ⟨.slice ob on' oc, S, rfl, HIS.out, HMS.out, by rw [HSS.out]; exact HF.out⟩
                · have hpos : 0 < lf.length := List.length_pos_iff.2 hnil
                  have hpos' : (0 : Int) < lf.length := by omega
                  obtain ⟨gl, rfl⟩ := H18.out.rows_base mem1 hpos
                  obtain ⟨hc0, hok0⟩ := H18.out.sc_row_at mem1 (i := 0) hpos
                  have cp : wr.cell? ⟨gp, 0, none⟩ = some (.map (some mp)) := H18.out.blk_cell mem3 0
                  obtain ⟨hst1, hst2⟩ := lf_step (eqv_refl (edgesN S0)) hpos
                  have h0N := HLN.out _ (List.getElem_mem hpos)
                  obtain ⟨x0, hx0⟩ : ∃ x, lf[0] = x := ⟨_, rfl⟩
                  rw [hx0] at hc0 hok0 hst1 hst2 h0N
                  have HOK0 := hide hok0
                  have HST := hide hst1
                  have H0N := hide h0N
                  have H19 := hide H18.out.f2
                  clear hok0 hst1 h0N hx0 H18 hnil
                  go_wp2_with (first
                    | (refine wpList_clear_st rfl 66 (.tmp 81) rfl mapSet rfl H19.out ?_; intro w20 h20; have H20 := hide h20; clear h20 H19))
                  go_loopw [84] (fun i wr => PE5 b L (eqv (edgesN S0) x0) lf (HP.rows 24 strE.in (.slice ob on' oc) out) (HP.rows 9 strE (.slice (some ⟨gl, 0, none⟩) lf.length lc2) lf) (HP.blk gp (.cells #[.map (some mp)] 66)) (HP.psets (rB (edgesN S0)) rs) (HP.map sv okStr mv mr rs) mp i wr) (fun i _ => lf.length - (intOf i).toNat)
                  case atStart => exact ⟨0, by omega, rfl, H20.out⟩
                  case round =>
                    obtain ⟨k5, hk5, rfl, hs⟩ := hrel
                    have H21 := hide hs
                    clear hs H20
                    have cp : wr.cell? ⟨gp, 0, none⟩ = some (.map (some mp)) := H21.out.blk_cell mem3 0
                    by_cases hlt5 : k5 < lf.length
                    · obtain ⟨hck, hokk⟩ := H21.out.sc_row_at mem2 (i := k5) hlt5
                      have hlt5' : (k5 : Int) < lf.length := by omega
                      have HFS := hide (filter_take_succ (eqv (edgesN S0) x0) hlt5)
                      have hyN := HLN.out _ (List.getElem_mem hlt5)
                      obtain ⟨y, hy⟩ : ∃ x, lf[k5] = x := ⟨_, rfl⟩
                      rw [hy] at hck hokk HFS hyN
                      obtain ⟨m1, r1, s1⟩ := H21.out.reach_at mem5 mem4 (HKR.out x0 H0N.out) HOK0.out
                      obtain ⟨m2, r2, s2⟩ := H21.out.reach_at mem5 mem4 (HKR.out y hyN) hokk
                      have t1 := s1 y hokk
                      have t2 := s2 x0 HOK0.out
                      have HOKY := hide hokk
                      clear s1 s2 hokk hyN hy
                      cases q1 : rB (edgesN S0) x0 y with
                      | true =>
                        cases q2 : rB (edgesN S0) y x0 with
                        | true =>
                          have HQ : Hid (eqv (edgesN S0) x0 y = true) := hide (by simp [eqv, q1, q2])
                          rw [q1] at t1; rw [q2] at t2
                          clear q1 q2
                          go_wp2_with (at_mapUpdate; refine wpList_mapUpdate_st rfl 66 (.tmp 100) (.tmp 101) (.const (.bool true)) rfl keyStr mapSet y true rfl rfl HOKY.out rfl H21.out ?_; intro w22 h22; have H22 := hide h22; clear h22 H21)
                          go_roundw
                          case rel => exact ⟨k5 + 1, by omega, by go_num, by rw [HFS.out, if_pos HQ.out, putAll_snoc]; exact H22.out⟩
                          case measure => simp [intOf]; omega
                        | false =>
                          have HQ : Hid (eqv (edgesN S0) x0 y = false) := hide (by simp [eqv, q1, q2])
                          rw [q1] at t1; rw [q2] at t2
                          clear q1 q2
                          go_wp2_with fail
                          go_roundw
                          case rel => exact ⟨k5 + 1, by omega, by go_num, by rw [HFS.out, if_neg (by rw [HQ.out]; decide), List.append_nil]; exact H21.out⟩
                          case measure => simp [intOf]; omega
                      | false =>
                        have HQ : Hid (eqv (edgesN S0) x0 y = false) := hide (by simp [eqv, q1])
                        rw [q1] at t1
                        clear q1
                        go_wp2_with fail
                        go_roundw
                        case rel => exact ⟨k5 + 1, by omega, by go_num, by rw [HFS.out, if_neg (by rw [HQ.out]; decide), List.append_nil]; exact H21.out⟩
                        case measure => simp [intOf]; omega
                    · have h22 := H21.out
                      rw [List.take_of_length_le (by omega)] at h22
                      have hFl := putAll_len (lf.filter (eqv (edgesN S0) x0)) []
                      have hFl2 : (lf.filter (eqv (edgesN S0) x0)).length ≤ lf.length := List.length_filter_le _ _
                      have HSF : Hid (sortS (keysOf (putAll [] (lf.filter (eqv (edgesN S0) x0)))) = lf.filter (eqv (edgesN S0) x0)) := hide (by rw [putAll_inc (HINC.out.filter _).nodup, sortS_inc (HINC.out.filter _)])
                      have H22 := hide h22
                      clear h22 H21
                      go_wp2_with (first
                        | (go_at_call 37; refine (sorted_calls H22.out (by simp at hFl; omega)).mono ?_; rintro x w23 ⟨sb, sn, sc, rfl, h23⟩; rw [HSF.out] at h23; have H23 := hide h23.persist; clear h23 H22)
                        | (refine wpList_build1_st (E := strE.in) rfl (.tmp 105) slStrs rfl (lf.filter (eqv (edgesN S0) x0)) rfl H23.out ?_ ?_; exact (fun _ _ hs => ⟨_, rfl, hs.sl_mem mem0⟩); intro g24 w24 h24; have H24 := hide h24.f3; clear h24 H23)
                        | (at_builtin; refine wpList_append_st rfl (.tmp 103) (.tmp 106) slStrs rfl H24.out (Src.of_rows mem1) rfl rfl ?_ ?_ ?_; (simp; unfold maxLen; omega); (simp; omega); intro vb3 n3 vc3 w25 hn3 h25; have H25 := hide h25.d1.d1.f2.f1.b3; clear h25 H24 hn3)
                        | (go_at_call 38; refine (deletef_calls H25.out).mono ?_; rintro x w26 ⟨n26, rfl, h26⟩; rw [filter_has] at h26; have H26 := hide h26.f3; clear h26 H25))
                      obtain ⟨lb3, lc3, hlv3, _⟩ := H26.out.rows_form mem1
                      simp only [Value.slice.injEq] at hlv3
                      obtain ⟨-, rfl, -⟩ := hlv3
                      go_roundg (gk - 1)
                      case measure => omega
                      case rel => exact ⟨_, _, _, ⟨_, _, _, rfl⟩, ⟨_, _, rfl⟩, HINC.out.filter _, fun x hx => HLN.out x (List.mem_filter.1 hx).1, by rw [← HEQ.out, HST.out, List.append_assoc]; rfl, by omega, by simp; omega, H26.out⟩
            · have hrok := H12.out.rng_ok
              have HRK := hide hrok
              clear hrok
              go_wp2_with (first
                | (refine wpList_next_st rfl (.tmp 62) rfl rfl H12.out (fun h0 => absurd h0 hne) (fun i p w13 hi h13 => ?_); have hpl := List.mem_of_getElem? hi; have hpN := HLN.out p hpl; have HOKP : Hid (okStr p.1) := hide (by
                      obtain ⟨p', hp', hpe⟩ := List.mem_map.1 (mem_putAll.2 hpN)
                      rw [← hpe]; exact HRK.out p' hp'); have HPN := hide hpN; have HI := hide hi; have lk := h13.rng_entry (P := Try.prog); have H13 := hide h13; clear h13 H12 hi hpl hpN)
                | (go_at_call 36; refine (led1_calls H13.out mem4 mem3 p.1 HOKP.out N HPN.out HCL.out hNl).mono ?_; rintro x w14 ⟨m14, kvs14, rfl, htru, hrch, h14⟩; rw [HNX.out] at hrch; have HRC := hide hrch; have HTR := hide htru; have H14 := hide h14; clear htru hrch h14 H13)
                | (at_mapUpdate; refine wpList_mapUpdate_st rfl 69 (.tmp 67) (.tmp 68) (.tmp 71) rfl keyStr Try.underlying69 p.1 m14 rfl rfl HOKP.out rfl H14.out.f3 ?_; intro w15 h15; have H15 := hide h15; clear h15 H14))
              have h16 := (H15.out.f1.f3.f1.psets_add (F := rB (edgesN S0)) (x := p.1) (fun y => by rw [Bool.eq_iff_iff, has_iff HTR.out, HRC.out, rB_iff])).f2
              have H16 := hide h16
              have hil := (List.getElem?_eq_some_iff.1 HI.out).1
              have hel3 : (left.eraseIdx i).length = left.length - 1 := List.length_eraseIdx_of_lt hil
              clear h16 H15
              go_roundg (gk - 1)
              case measure => omega
              case rel => exact ⟨_, _, _, fun x hx => by
                rcases HK.out x hx with h | h
                · rcases keys_erase HI.out h with h | h
                  · exact Or.inl h
                  · exact Or.inr (keysOf_kput.2 (Or.inr h))
                · exact Or.inr (keysOf_kput.2 (Or.inl h)), fun p' hp' => HLN.out p' (List.mem_of_mem_eraseIdx hp'), by omega, H16.out⟩
end Go.Proofs.Ytmebmgbjpbapjaa
