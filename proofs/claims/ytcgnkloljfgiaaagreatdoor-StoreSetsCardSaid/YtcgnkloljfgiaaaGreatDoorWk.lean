/-
  package wal: the table of all sectors; record.
-/
import Derived.Test.YtcgnkloljfgiaaaGreatDoorWi
import Derived.OwnWalk
namespace Go.Proofs.YtcgnkloljfgiaaaGreatDoor
open Go.RowKit Go.Maps Go.MapKept
variable {b : Env} {L : List HP} {w : World}
abbrev ag5 (x : Value × PartR) : Value := .agg #[.int .i64 (x.2.gen : Nat), .int .i64 (x.2.rc : Nat), .int .i64 (x.2.n : Nat), .int .i64 (x.2.of : Nat), x.1]
def HP.tabD (kvs : List (Int × Value × PartR)) : HP := ⟨fun e _ => ∀ x ∈ kvs, byteE.sl e.h x.2.1 x.2.2.data, fun k H x hx => El.sl_up k.h (H x hx)⟩
abbrev HP.tabM (gm : Nat) (kvs : List (Int × Value × PartR)) : HP := HP.map eInt okInt ag5 gm kvs
def tget (kvs : List (Int × Value × PartR)) (k : Int) : Option PartR := (kget kvs k).map (·.2)
theorem kget_in {κ α : Type} [DecidableEq κ] : ∀ {kvs : List (κ × α)} {k : κ} {x : α}, kget kvs k = some x → (k, x) ∈ kvs := by
  intro kvs
  induction kvs with
  | nil => intro k x h; simp [kget] at h
  | cons a l ih =>
    intro k x h
    obtain ⟨k', y⟩ := a
    unfold kget at h
    by_cases he : k' = k
    · simp [he] at h; subst he; subst h; exact List.mem_cons_self
    · simp [he] at h; exact List.mem_cons_of_mem _ (ih h)
theorem mapTab : Tryz.prog.underlying 120 = some (.map 3 127) := Tryz.underlying120
theorem St.tab_sl {kvs : List (Int × Value × PartR)} {k : Int} {vd : Value} {p : PartR} (h : St b L w) (hm : HP.tabD kvs ∈ L) (hk : kget kvs k = some (vd, p)) : St b (HP.sl byteE vd p.data :: L) w := by
  obtain ⟨e, hl, hs⟩ := h
  obtain ⟨m, hp⟩ := hs.mem_p hm
  exact ⟨e, hl, hs.lay (fun _ => hp _ (kget_in hk))⟩
theorem St.tab_get {gm : Nat} {kvs : List (Int × Value × PartR)} {k : Int} {vd : Value} {p : PartR} (h : St b L w) (hm : HP.tabM gm kvs ∈ L) (hok : okInt k) (hk : kget kvs k = some (vd, p)) :
    (Instr.lookup 120 (.map (some gm)) (.int .i64 k) true).run Tryz.prog w = .ok (.tuple #[ag5 (vd, p), .bool true]) w ∧ (Instr.lookup 120 (.map (some gm)) (.int .i64 k) false).run Tryz.prog w = .ok (ag5 (vd, p)) w := by
  have h1 := h.lookup intKey hm mapTab (agPart.zero w) k hok true
  have h2 := h.lookup intKey hm mapTab (agPart.zero w) k hok false
  rw [hk] at h1 h2
  exact ⟨h1, h2⟩
theorem St.tab_none {gm : Nat} {kvs : List (Int × Value × PartR)} {k : Int} (h : St b L w) (hm : HP.tabM gm kvs ∈ L) (hok : okInt k) (hk : kget kvs k = none) :
    (Instr.lookup 120 (.map (some gm)) (.int .i64 k) true).run Tryz.prog w = .ok (.tuple #[.agg #[.int .i64 0, .int .i64 0, .int .i64 0, .int .i64 0, .slice none 0 0], .bool false]) w := by
  have h1 := h.lookup intKey hm mapTab (agPart.zero w) k hok true
  rw [hk] at h1
  exact h1
def allS {α : Type} (f : Nat → Option α) : Nat → Option (List α)
  | 0 => some []
  | n + 1 => match allS f n, f n with
    | some l, some x => some (l ++ [x])
    | _, _ => none
theorem allS_none {α : Type} {f : Nat → Option α} {k : Nat} (h : f k = none) : ∀ n, k < n → allS f n = none
  | 0, hn => by omega
  | n + 1, hn => by
    by_cases e : n = k
    · subst e; simp [allS, h]
    · simp [allS, allS_none h n (by omega)]
theorem allS_len {α : Type} {f : Nat → Option α} : ∀ {n : Nat} {l : List α}, allS f n = some l → l.length = n
  | 0, l, h => by simp [allS] at h; subst h; rfl
  | n + 1, l, h => by
    unfold allS at h
    split at h
    · rename_i l1 x h1 h2
      simp only [Option.some.injEq] at h
      subst h
      simp [allS_len h1]
    · cases h
theorem allS_mem {α : Type} {f : Nat → Option α} : ∀ {n : Nat} {l : List α}, allS f n = some l → ∀ x ∈ l, ∃ k, k < n ∧ f k = some x
  | 0, l, h, x, hx => by simp [allS] at h; subst h; simp at hx
  | n + 1, l, h, x, hx => by
    unfold allS at h
    split at h
    · rename_i l1 y h1 h2
      simp only [Option.some.injEq] at h
      subst h
      rcases List.mem_append.1 hx with hx | hx
      · obtain ⟨k, hk, hf⟩ := allS_mem h1 x hx; exact ⟨k, by omega, hf⟩
      · simp only [List.mem_singleton] at hx; subst hx; exact ⟨n, by omega, h2⟩
    · cases h
/-- The record at a place: its bytes, its sectors. -/
def recR (T : Int → Option PartR) (at' en : Int) : Option (Byt × Nat) :=
  match T at' with
  | none => none
  | some p => if p.n ≠ 0 ∨ en < at' + p.of then none else
    match allS (fun i => T (at' + i)) p.of with
    | none => none
    | some ps => (joinB ps).map (fun d => (d, p.of))
def RecAt (b : Env) (L : List HP) (T : Int → Option PartR) (at' : Int) (of : Nat) (v i : Value) (wr : World) : Prop :=
  ∃ (k : Nat) (xs : List PartR), k ≤ of ∧ i = .int .i64 k ∧ allS (fun i => T (at' + i)) k = some xs ∧ ∃ b4 n4 c4, n4 = xs.length ∧ v = .slice b4 n4 c4 ∧ St b (HP.rows 127 partE (.slice b4 n4 c4) xs :: L) wr
theorem ONEP {vd : Value} {p : PartR} (h : St b (HP.sl byteE vd p.data :: L) w) : Hid (∀ v ∈ ([.int .i64 (p.gen : Nat), .int .i64 (p.rc : Nat), .int .i64 (p.n : Nat), .int .i64 (p.of : Nat), vd] : List Value), v.oneCell' = true) := by
  obtain ⟨bd, cd, rfl, _⟩ := h.sl_form mem0
  exact hide (by intro v hv; simp only [List.mem_cons, List.not_mem_nil, or_false] at hv; rcases hv with rfl | rfl | rfl | rfl | rfl <;> rfl)
theorem ONE0 : Hid (∀ v ∈ ([.int .i64 0, .int .i64 0, .int .i64 0, .int .i64 0, .slice none 0 0] : List Value), v.oneCell' = true) := hide (by intro v hv; simp only [List.mem_cons, List.not_mem_nil, or_false] at hv; rcases hv with rfl | rfl | rfl | rfl | rfl <;> rfl)
set_option linter.unusedSimpArgs false in
set_option maxRecDepth 100000 in
set_option maxHeartbeats 4000000 in
theorem record_calls {gm : Nat} {kvs : List (Int × Value × PartR)} {at' en : Int} (h : St b L w) (hm : HP.tabM gm kvs ∈ L) (hd : HP.tabD kvs ∈ L) (hok : ∀ x ∈ kvs, x.2.2.ok) (ha0 : 0 ≤ at') (ha1 : at' ≤ 1000) :
    Calls Tryz.prog 66 #[.map (some gm), .int .i64 at', .int .i64 en] w fun x w' =>
      (∃ d n v, recR (tget kvs) at' en = some (d, n) ∧ x = .returned (.tuple #[v, .int .i64 (n : Nat), .bool true]) ∧ St b (HP.sl byteE v d :: L) w') ∨
      (recR (tget kvs) at' en = none ∧ (∃ n, x = .returned (.tuple #[.slice none 0 0, .int .i64 n, .bool false])) ∧ St b L w') := by
  have okA : okInt at' := by unfold okInt; exact WalkArith.wf_i64 (by omega)
  have H := hide h
  have HM := hide hm
  have HD := hide hd
  have HOK := hide hok
  rcases hk0 : kget kvs at' with _ | ⟨vd, p⟩
  · have hrec : recR (tget kvs) at' en = none := by unfold recR tget; rw [hk0]; rfl
    have HREC := hide hrec
    have lk := h.tab_none hm okA hk0
    clear h hm hd hok hk0 hrec
    go_enter Tryz.func66, Tryz.ntmps66
    go_wp2_with (first
      | ((with_reducible refine wpList_alloc_ag rfl agPart rfl H.out ?_); intro g8 w8 h8; have H8 := hide h8; clear h8 H)
      | ((with_reducible refine wpList_store_ag (cs := [.int .i64 0, .int .i64 0, .int .i64 0, .int .i64 0, .slice none 0 0]) rfl agPart (.tmp 9) (.tmp 18) rfl rfl rfl rfl rfl ONE0.out H8.out ?_); intro w9 h9; have H9 := hide h9.drop; clear h9 H8))
    go_ret3
    exact Or.inr ⟨HREC.out, ⟨0, rfl⟩, H9.out⟩
  · obtain ⟨lk, -⟩ := h.tab_get hm okA hk0
    have hokp : p.ok := hok _ (kget_in hk0)
    have hof : p.of ≤ 255 := hokp.2.2.2.2.1
    have hof1 : 1 ≤ p.of := hokp.2.2.2.1
    have hofI : (p.of : Int) ≤ 255 := by omega
    have hT : tget kvs at' = some p := by unfold tget; rw [hk0]; rfl
    have ONE5 : Hid (∀ v ∈ ([.int .i64 (p.gen : Nat), .int .i64 (p.rc : Nat), .int .i64 (p.n : Nat), .int .i64 (p.of : Nat), vd] : List Value), v.oneCell' = true) := ONEP (h.tab_sl hd hk0)
    have HVD := hide (h.tab_sl hd hk0)
    clear h hm hd hok
    by_cases hbad : p.n ≠ 0 ∨ en < at' + p.of
    · have hrec : recR (tget kvs) at' en = none := by unfold recR; rw [hT]; simp only [if_pos hbad]
      have HREC := hide hrec
      clear hrec hT hk0 HVD hokp
      rcases Nat.eq_zero_or_pos p.n with hn0 | hn0
      · have hgt : en < at' + p.of := by rcases hbad with h | h; exact absurd hn0 h; exact h
        have hnI : (p.n : Int) = 0 := by omega
        have c2 : ((p.n : Int) == 0) = true := by rw [hnI]; rfl
        have c2n : ((p.n : Int) != 0) = false := by rw [hnI]; rfl
        clear hbad
        go_enter Tryz.func66, Tryz.ntmps66
        go_wp2_with (first
          | ((with_reducible refine wpList_alloc_ag rfl agPart rfl H.out ?_); intro g8 w8 h8; have H8 := hide h8; clear h8 H)
          | ((with_reducible refine wpList_store_ag (cs := [.int .i64 (p.gen : Nat), .int .i64 (p.rc : Nat), .int .i64 (p.n : Nat), .int .i64 (p.of : Nat), vd]) rfl agPart (.tmp 9) (.tmp 18) rfl rfl rfl rfl rfl ONE5.out H8.out ?_); intro w9 h9; have y2 : w9.cell? ⟨g8, 2, none⟩ = some (.int .i64 (p.n : Nat)) := h9.blk_cell mem0 2; have y3 : w9.cell? ⟨g8, 3, none⟩ = some (.int .i64 (p.of : Nat)) := h9.blk_cell mem0 3; have H9 := hide h9.drop; clear h9 H8))
        go_ret3
        exact Or.inr ⟨HREC.out, ⟨0, rfl⟩, H9.out⟩
      · have hnI : ¬ (p.n : Int) = 0 := by omega
        have c2 : ((p.n : Int) == 0) = false := by rw [beq_eq_false_iff_ne]; exact hnI
        have c2n : ((p.n : Int) != 0) = true := by rw [bne, c2]; rfl
        clear hbad
        go_enter Tryz.func66, Tryz.ntmps66
        go_wp2_with (first
          | ((with_reducible refine wpList_alloc_ag rfl agPart rfl H.out ?_); intro g8 w8 h8; have H8 := hide h8; clear h8 H)
          | ((with_reducible refine wpList_store_ag (cs := [.int .i64 (p.gen : Nat), .int .i64 (p.rc : Nat), .int .i64 (p.n : Nat), .int .i64 (p.of : Nat), vd]) rfl agPart (.tmp 9) (.tmp 18) rfl rfl rfl rfl rfl ONE5.out H8.out ?_); intro w9 h9; have y2 : w9.cell? ⟨g8, 2, none⟩ = some (.int .i64 (p.n : Nat)) := h9.blk_cell mem0 2; have y3 : w9.cell? ⟨g8, 3, none⟩ = some (.int .i64 (p.of : Nat)) := h9.blk_cell mem0 3; have H9 := hide h9.drop; clear h9 H8))
        go_ret3
        exact Or.inr ⟨HREC.out, ⟨0, rfl⟩, H9.out⟩
    · have hrec : recR (tget kvs) at' en = (match allS (fun i => tget kvs (at' + i)) p.of with | none => none | some ps => (joinB ps).map (fun d => (d, p.of))) := by unfold recR; rw [hT]; simp only [if_neg hbad]
      have HREC := hide hrec
      have hn0 : p.n = 0 := by rcases Nat.eq_zero_or_pos p.n with h | h; exact h; exact absurd (Or.inl (by omega)) hbad
      have hngt : ¬ (en < at' + p.of) := fun h => hbad (Or.inr h)
      have hnI : (p.n : Int) = 0 := by omega
      have c2 : ((p.n : Int) == 0) = true := by rw [hnI]; rfl
      have c2n : ((p.n : Int) != 0) = false := by rw [hnI]; rfl
      clear hrec hbad hT hk0 HVD hn0 hokp
      go_enter Tryz.func66, Tryz.ntmps66
      go_wp2_with (first
        | ((with_reducible refine wpList_alloc_ag rfl agPart rfl H.out ?_); intro g8 w8 h8; have H8 := hide h8; clear h8 H)
        | ((with_reducible refine wpList_store_ag (cs := [.int .i64 (p.gen : Nat), .int .i64 (p.rc : Nat), .int .i64 (p.n : Nat), .int .i64 (p.of : Nat), vd]) rfl agPart (.tmp 9) (.tmp 18) rfl rfl rfl rfl rfl ONE5.out H8.out ?_); intro w9 h9; have y2 : w9.cell? ⟨g8, 2, none⟩ = some (.int .i64 (p.n : Nat)) := h9.blk_cell mem0 2; have y3 : w9.cell? ⟨g8, 3, none⟩ = some (.int .i64 (p.of : Nat)) := h9.blk_cell mem0 3; have H9 := hide h9; clear h9 H8))
      go_loopw [10, 37] (fun v i wr => RecAt b (HP.blk g8 (.cells ([.int .i64 (p.gen : Nat), .int .i64 (p.rc : Nat), .int .i64 (p.n : Nat), .int .i64 (p.of : Nat), vd] : List Value).toArray 127) :: L) (tget kvs) at' p.of v i wr) (fun _ i _ => p.of - (intOf i).toNat)
      case atStart => exact ⟨0, [], by omega, rfl, rfl, none, 0, 0, rfl, rfl, H9.out.rows_nil _ _⟩
      case round =>
        obtain ⟨k, xs, hk, rfl, hall, b4, n4, c4, hn4, rfl, hs⟩ := hrel
        have hxs := allS_len hall
        have H1 := hide hs
        have HALL := hide hall
        have HN4 := hide hn4
        clear hall hn4 H9
        by_cases hlt : k < p.of
        · have hlt' : (k : Int) < p.of := by omega
          have okK : okInt (at' + k) := by unfold okInt; exact WalkArith.wf_i64 (by omega)
          rcases hkk : kget kvs (at' + k) with _ | ⟨vd2, p2⟩
          · have lkk := hs.tab_none (up2 HM.out) okK hkk
            have hno := allS_none (f := fun i => tget kvs (at' + i)) (k := k) (show tget kvs (at' + k) = none by unfold tget; rw [hkk]; rfl) p.of hlt
            have HNO := hide hno
            clear hs hkk hno okK hxs
            go_wp2_with (first
              | ((with_reducible refine wpList_alloc_ag rfl agPart rfl H1.out ?_); intro g12 w12 h12; have H12 := hide h12; clear h12 H1)
              | ((with_reducible refine wpList_store_ag (cs := [.int .i64 0, .int .i64 0, .int .i64 0, .int .i64 0, .slice none 0 0]) rfl agPart (.tmp 12) (.tmp 46) rfl rfl rfl rfl rfl ONE0.out H12.out ?_); intro w13 h13; have H13 := hide h13.drop.drop.drop; clear h13 H12))
            go_ret3
            exact Or.inr ⟨by rw [HREC.out, HNO.out], ⟨0, rfl⟩, H13.out⟩
          · obtain ⟨lkk, -⟩ := hs.tab_get (up2 HM.out) okK hkk
            have h2 := hs.tab_sl (up2 HD.out) hkk
            have ONE6 : Hid (∀ v ∈ ([.int .i64 (p2.gen : Nat), .int .i64 (p2.rc : Nat), .int .i64 (p2.n : Nat), .int .i64 (p2.of : Nat), vd2] : List Value), v.oneCell' = true) := ONEP h2
            have hsu : allS (fun i => tget kvs (at' + i)) (k + 1) = some (xs ++ [p2]) := by
              have : tget kvs (at' + (k : Nat)) = some p2 := by unfold tget; rw [hkk]; rfl
              simp only [allS, HALL.out, this]
            have HSU := hide hsu
            have Q1 := hide (show xs.length + ([p2] : List PartR).length ≤ maxLen ∧ (xs.length + ([p2] : List PartR).length) * 56 ≤ 140737488355328 from ⟨by simp only [List.length_cons, List.length_nil]; unfold maxLen; omega, by simp only [List.length_cons, List.length_nil]; omega⟩)
            have H2 := hide h2
            have HXL := hide hxs
            clear hs hkk hsu h2 okK H1 hxs HALL
            go_wp2_with (first
              | ((with_reducible refine wpList_alloc_ag rfl agPart rfl H2.out ?_); intro g12 w12 h12; have H12 := hide h12; clear h12 H2)
              | ((with_reducible refine wpList_store_ag (cs := [.int .i64 (p2.gen : Nat), .int .i64 (p2.rc : Nat), .int .i64 (p2.n : Nat), .int .i64 (p2.of : Nat), vd2]) rfl agPart (.tmp 12) (.tmp 46) rfl rfl rfl rfl rfl ONE6.out H12.out ?_); intro w13 h13; have H13 := hide h13; clear h13 H12)
              | (refine wpList_loadB_st (cs := [.int .i64 (p2.gen : Nat), .int .i64 (p2.rc : Nat), .int .i64 (p2.n : Nat), .int .i64 (p2.of : Nat), vd2]) rfl agPart (.tmp 12) rfl rfl rfl H13.out mem0 ?_)
              | (refine wpList_build1_st (E := partE) rfl (.tmp 51) slPart rfl p2 rfl H13.out ?_ ?_; exact (fun _ _ hs => ⟨vd2, rfl, hs.sl_mem mem1⟩); intro g14 w14 h14; have H14 := hide h14.f3; clear h14 H13)
              | (at_builtin; refine wpList_append_st (E := partE) rfl (.tmp 50) (.tmp 52) slPart rfl H14.out (Src.of_rows mem1) rfl rfl Q1.out.1 Q1.out.2 ?_; intro vb8 n8 vc8 w15 hn8 h15; have H15 := hide h15.d1.d1.d1; have HN8 := hide hn8; clear h15 H14 hn8))
            go_roundw
            case rel => exact ⟨k + 1, _, by omega, by go_num, HSU.out, vb8, n8, vc8, by rw [HN8.out, List.length_append], rfl, H15.out⟩
            case measure => exact meas_step hlt
        · have hke : k = p.of := by omega
          subst hke
          have h3 := hs.persist
          have hx : ∀ q ∈ xs, q.ok := fun q hq => by
            obtain ⟨j, _, hj⟩ := allS_mem HALL.out q hq
            unfold tget at hj
            obtain ⟨y, hy, rfl⟩ := Option.map_eq_some_iff.1 hj
            exact HOK.out _ (kget_in hy)
          have HX := hide hx
          have c3 : wr.cell? ⟨g8, 3, none⟩ = some (.int .i64 (p.of : Nat)) := h3.blk_cell mem1 3
          have H3 := hide h3
          have HXL := hide hxs
          have hnlt : ¬ ((p.of : Nat) : Int) < ((p.of : Nat) : Int) := by omega
          clear hs h3 hx H1 hxs
          refine Or.elim (Classical.em (∃ d, joinB xs = some d)) ?_ ?_ <;> intro hj
          · obtain ⟨d, hj⟩ := hj
            have HJ := hide hj
            clear hj
            go_wp2_with (go_at_call 93; refine (join_calls H3.out mem0 (by rw [HXL.out]; exact hof1) (by rw [HXL.out]; exact hof) (fun q hq => (HX.out q hq).2.2.2.2.2.2) HX.out).mono ?_; rintro z w4 (⟨d', v', hj', rfl, h4⟩ | ⟨hj', rfl, h4⟩) ; rotate_left; (rw [HJ.out] at hj'; cases hj'); rw [HJ.out] at hj'; cases hj'; have c33 : w4.cell? ⟨g8, 3, none⟩ = some (.int .i64 (p.of : Nat)) := h4.blk_cell mem2 3; have H4 := hide h4.d1.d1; clear h4 H3)
            go_quiet (fail)
            go_wp2_with fail
            go_ret3
            exact Or.inl ⟨d, p.of, _, by rw [HREC.out, HALL.out]; simp only [HJ.out, Option.map_some], rfl, by first | exact H4.out | exact H4.out.drew | exact H4.out.drewN _⟩
          · have hj2 : joinB xs = none := by
              rcases h : joinB xs with _ | d
              · rfl
              · exact absurd ⟨d, h⟩ hj
            have HJ := hide hj2
            clear hj hj2
            go_wp2_with (go_at_call 93; refine (join_calls H3.out mem0 (by rw [HXL.out]; exact hof1) (by rw [HXL.out]; exact hof) (fun q hq => (HX.out q hq).2.2.2.2.2.2) HX.out).mono ?_; rintro z w4 (⟨d', v', hj', rfl, h4⟩ | ⟨hj', rfl, h4⟩) ; (rw [HJ.out] at hj'; cases hj'); have c33 : w4.cell? ⟨g8, 3, none⟩ = some (.int .i64 (p.of : Nat)) := h4.blk_cell mem1 3; have H4 := hide h4.drop.drop; clear h4 H3)
            go_quiet (fail)
            go_wp2_with fail
            go_ret3
            exact Or.inr ⟨by rw [HREC.out, HALL.out]; simp only [HJ.out, Option.map_none], ⟨_, rfl⟩, by first | exact H4.out | exact H4.out.drew | exact H4.out.drewN _⟩
end Go.Proofs.YtcgnkloljfgiaaaGreatDoor
