/-
  package wal: scan.
-/
import Derived.Test.YtcgnkloljfgiaaaGreatDoorWj
import Derived.Test.YtcgnkloljfgiaaaGreatDoorWl
import Derived.Test.YtcgnkloljfgiaaaGreatDoorSo
import Derived.Defers
namespace Go.Proofs.YtcgnkloljfgiaaaGreatDoor
open Go.RowKit Go.Maps Go.MapKept
variable {b : Env} {L : List HP} {w : World} {gd : Nat} {d : Dk}
theorem results_cells2 {P : Program} {fn : Func} {p q : Tmp} {t u : TypeId} (h : fn.results = #[.cell p t, .cell q u]) (_ : (P.info? t).map (·.size) = some 1) (_ : (P.info? u).map (·.size) = some 1) (tmps : Array Value) (w : World) {g2 g3 : Nat} {x y : Value}
    (h2 : tmps.getD p undef = .pointer (some ⟨g2, 0, none⟩)) (h3 : tmps.getD q undef = .pointer (some ⟨g3, 0, none⟩)) (c2 : (loadVar t ⟨g2, 0, none⟩).run P w = .ok x w) (c3 : (loadVar u ⟨g3, 0, none⟩).run P w = .ok y w) :
    (results fn tmps).run P w = .ok (.tuple #[x, y]) w := by
  simp only [results, h]
  have h2' : tmps[p]?.getD undef = .pointer (some ⟨g2, 0, none⟩) := by simpa using h2
  have h3' : tmps[q]?.getD undef = .pointer (some ⟨g3, 0, none⟩) := by simpa using h3
  simp [Sem.run_bind, h2', h3', asAddr, c2, c3]
theorem parse_ok {l : Byt} {p : PartR} (h : parseB l = some p) : p.ok := by
  unfold parseB at h
  split at h
  · rename_i hh; simp only [Option.some.injEq] at h; subst h; exact (okP_iff _).1 hh.1
  · cases h
/-- All sectors that tell what they are. -/
def tabR (d : Dk) (n : Nat) (i : Int) : Option PartR := if 0 ≤ i ∧ i < n then parseB (d.cur i) else none
def mostK (d : Dk) (m : Nat) : Nat → Nat
  | 0 => m
  | k + 1 => match parseB (d.cur k) with
    | some p => max (mostK d m k) p.gen
    | none => mostK d m k
theorem tab_same {kvs : List (Int × Value × PartR)} {k : Nat} (h : ∀ i, tget kvs i = tabR d k i) (hp : parseB (d.cur k) = none) : ∀ i, tget kvs i = tabR d (k + 1) i := by
  intro i
  rw [h i]
  unfold tabR
  by_cases e : i = (k : Int)
  · subst e
    rw [if_neg (by omega), if_pos (by omega), hp]
  · by_cases hc : 0 ≤ i ∧ i < (k : Int)
    · rw [if_pos hc, if_pos (by omega)]
    · rw [if_neg hc, if_neg (by omega)]
theorem tab_more {kvs : List (Int × Value × PartR)} {k : Nat} {vd : Value} {p : PartR} (h : ∀ i, tget kvs i = tabR d k i) (hp : parseB (d.cur k) = some p) : ∀ i, tget (kput kvs (k : Int) (vd, p)) i = tabR d (k + 1) i := by
  intro i
  unfold tget
  rw [kget_kput]
  by_cases e : (k : Int) = i
  · rw [if_pos e]; subst e
    unfold tabR
    rw [if_pos (by omega), hp]; rfl
  · rw [if_neg e]
    have := h i
    unfold tget at this
    rw [this]
    unfold tabR
    by_cases hc : 0 ≤ i ∧ i < (k : Int)
    · rw [if_pos hc, if_pos (by omega)]
    · rw [if_neg hc, if_neg (by omega)]
theorem kput_in {κ α : Type} [DecidableEq κ] : ∀ {kvs : List (κ × α)} {k : κ} {x : α} {y : κ × α}, y ∈ kput kvs k x → y ∈ kvs ∨ y = (k, x) := by
  intro kvs
  induction kvs with
  | nil => intro k x y h; simp [kput] at h; exact Or.inr h
  | cons a l ih =>
    intro k x y h
    unfold kput at h
    split at h
    · rcases List.mem_cons.1 h with h | h
      · exact Or.inr h
      · exact Or.inl (List.mem_cons_of_mem _ h)
    · rcases List.mem_cons.1 h with h | h
      · exact Or.inl (by rw [h]; exact List.mem_cons_self)
      · rcases ih h with h | h
        · exact Or.inl (List.mem_cons_of_mem _ h)
        · exact Or.inr h
theorem tab_oks {kvs : List (Int × Value × PartR)} {k : Int} {vd : Value} {p : PartR} (h : ∀ x ∈ kvs, x.2.2.ok) (hp : p.ok) : ∀ x ∈ kput kvs k (vd, p), x.2.2.ok := by
  intro x hx
  rcases kput_in hx with hx | rfl
  · exact h x hx
  · exact hp
/-- The table with one more sector: it lies where the elder table's word lay. -/
theorem St.tab_put {kvs : List (Int × Value × PartR)} {k : Int} {vd : Value} {p : PartR} (h : St b L w) (hm : HP.tabD kvs ∈ L) (hs : HP.sl byteE vd p.data ∈ L) : St b (HP.tabD (kput kvs k (vd, p)) :: L) w := by
  obtain ⟨e, hl, h⟩ := h
  obtain ⟨m, hp⟩ := h.mem_p hm
  obtain ⟨m2, hp2⟩ := h.mem_p hs
  refine ⟨e, hl, h.lay (fun _ => ?_)⟩
  intro x hx
  rcases kput_in hx with hx | rfl
  · exact hp x hx
  · exact hp2
theorem leaves_tmps {P : Program} {fn : Func} {t t' : Array Value} {R : Ending → World → Prop} (he : ∀ w, (results fn t).run P w = (results fn t').run P w) : ∀ (ds : List Deferred) (u : FrameMode) (w : World), Leaves P fn t R ds u w → Leaves P fn t' R ds u w
  | [], .returning, w, h => by
    obtain ⟨v, h1, h2⟩ := h
    exact ⟨v, (he w).symm.trans h1, h2⟩
  | [], .panicking _, w, h => h
  | [], .run, w, h => h
  | d :: ds, u, w, h => by
    obtain ⟨h1, fv, cap, f, args, h2, h3, h4⟩ := h
    refine ⟨h1, fv, cap, f, args, h2, h3, ?_⟩
    intro c cs hc
    obtain ⟨e, u', w', fr, hR, h5, h6⟩ := h4 c cs hc
    refine ⟨e, u', w', fr, ?_, h5, h6⟩
    cases e with
    | returned v => exact leaves_tmps he ds _ _ hR
    | panicked ch => exact leaves_tmps he ds _ _ hR
    | outgrown => exact hR
theorem leaves_put {n : Nat} (hn : n ≠ 2 ∧ n ≠ 3) {R : Ending → World → Prop} {a : Act} {v : Value} {u : FrameMode} {w : World} (h : Leaves Tryz.prog Tryz.f63 (a.put (some n) v).tmps R (a.put (some n) v).defers u w) : Leaves Tryz.prog Tryz.f63 a.tmps R a.defers u w := by
  refine leaves_tmps ?_ _ _ _ h
  intro w
  have e2 : (a.tmps.setIfInBounds n v)[2]? = a.tmps[2]? := by rw [Array.getElem?_setIfInBounds, if_neg hn.1]
  have e3 : (a.tmps.setIfInBounds n v)[3]? = a.tmps[3]? := by rw [Array.getElem?_setIfInBounds, if_neg hn.2]
  have hr : Tryz.f63.results = #[.cell 2 120, .cell 3 31] := rfl
  simp only [results, hr, Act.put]
  simp [e2, e3]
set_option linter.unusedSimpArgs false in
set_option maxRecDepth 100000 in
set_option maxHeartbeats 4000000 in
theorem scan1_d {g2 g3 : Nat} (u : FrameMode) (hc : w.cell? ⟨g3, 0, none⟩ = some (.int .i64 0)) : CallsD Tryz.prog 91 #[.pointer (some ⟨g3, 0, none⟩), .pointer (some ⟨g2, 0, none⟩)] u w fun e u' w' => u' = u ∧ (e = .returned (.tuple #[]) ∧ w' = w) := by
  go_enter_d Tryz.func91, Tryz.ntmps91
  go_wp2
  go_end0
  exact ⟨rfl, rfl⟩
theorem szTab : (Tryz.prog.info? 120).map (·.size) = some 1 := by kernel_rfl
theorem szErrno : (Tryz.prog.info? 31).map (·.size) = some 1 := by kernel_rfl
def ScanAt (b : Env) (L : List HP) (gl gd g2 g3 gm : Nat) (d : Dk) (gen half next rc m0 : Nat) (i : Value) (wr : World) : Prop :=
  ∃ (k : Nat) (kvs : List (Int × Value × PartR)), k ≤ d.last.length ∧ i = .int .i64 k ∧ (∀ i, tget kvs i = tabR d k i) ∧ (∀ x ∈ kvs, x.2.2.ok) ∧
    St b (HP.log gl gd ⟨gen, half, next, rc, mostK d m0 k⟩ :: HP.disk gd d :: HP.blk g2 (.cells #[.map (some gm)] 120) :: HP.blk g3 (.cells #[.int .i64 0] 31) :: HP.tabM gm kvs :: HP.tabD kvs :: L) wr
theorem mostK_le {m : Nat} (hm : m ≤ 4294967295) : ∀ k, mostK d m k ≤ 4294967295
  | 0 => hm
  | k + 1 => by
    unfold mostK
    split
    · rename_i p hp
      have := (parse_ok hp).2.1
      have := mostK_le hm k
      omega
    · exact mostK_le hm k
set_option linter.unusedSimpArgs false in
set_option maxRecDepth 100000 in
set_option maxHeartbeats 4000000 in
theorem scan_calls {gl : Nat} {l : LogR} (h : St b (HP.log gl gd l :: HP.disk gd d :: L) w) (hg : d.Good) (hdead : d.dead = false) (hmo : l.most ≤ 4294967295) :
    Calls Tryz.prog 63 #[.pointer (some ⟨gl, 0, none⟩)] w fun x w' => ∃ gm kvs, x = .returned (.tuple #[.map (some gm), .int .i64 0]) ∧ (∀ i, tget kvs i = tabR d d.last.length i) ∧ (∀ x ∈ kvs, x.2.2.ok) ∧
      St b (HP.log gl gd ⟨l.gen, l.half, l.next, l.rc, mostK d l.most d.last.length⟩ :: HP.disk gd d :: HP.tabM gm kvs :: HP.tabD kvs :: L) w' := by
  have hmf : ∀ (fn : Fn) (first cap : Array Value) (w : World), (Instr.makeFunc fn first cap).run Tryz.prog w = .ok (.func fn first cap) w := fun _ _ _ _ => rfl
  have hmost := hg.fine.ok.most
  obtain ⟨gen, half, next, rc, m0⟩ := l
  simp only at hmo
  have hNI : (d.last.length : Int) ≤ 256 := by omega
  have H := hide h
  have HDO := hide hg.fine.ok
  have HRB : Hid (∀ k : Nat, k < d.last.length → d.readB k = d.cur k ∧ d.readR k = 0 ∧ (d.cur k).length = 64) := hide (fun k hk => by
    have hh : d.has k = true := by simp [Dk.has]; omega
    have hc := cur_len hg.fine.ok (n := (k : Int)) (by omega) (by omega)
    exact ⟨by unfold Dk.readB; rw [hdead, hh]; rfl, by unfold Dk.readR; rw [hdead, hh]; rfl, hc⟩)
  have HMLE := hide (mostK_le (d := d) hmo)
  clear h hg hmost hmo
  go_enter_defers Tryz.func63, Tryz.ntmps63
  go_wp2_with (first
    | (refine wpList_alloc1_st rfl 120 rfl (Tryz.zeroValue120 _) rfl H.out ?_; intro g2 w2 h2; have H2 := hide h2; clear h2 H)
    | (refine wpList_alloc1_st rfl 31 rfl (Tryz.zeroValue31 _) rfl H2.out ?_; intro g3 w3 h3; have H3 := hide h3; clear h3 H2)
    | (refine wpList_makeMap_st rfl 120 rfl eInt okInt ag5 H3.out ?_; intro gm w4 h4; have H4 := hide h4.f2; clear h4 H3)
    | ((with_reducible refine wpList_store1_st rfl 120 (.tmp 2) (.tmp 9) rfl szTab rfl rfl rfl rfl H4.out ?_); intro w5 h5; have h6 := h5.lay (P := HP.tabD []) (fun _ _ _ _ x hx => by cases hx); have x0 : w5.cell? ⟨gl, 0, none⟩ = some (.pointer (some ⟨gd, 0, none⟩)) := h6.blk_cell mem4 0; have H6 := hide (h6.pick [4, 5, 1, 3, 2, 0] 6 (by decide) (by decide) (by simp)); clear h5 h6 H4)
    | (go_at_call 62; refine (dsize_calls H6.out.f1).mono ?_; rintro x w7 ⟨rfl, hw7⟩; subst hw7))
  go_loopw [16] (fun i wr => ScanAt b L gl gd g2 g3 gm d gen half next rc m0 i wr) (fun i _ => d.last.length - (intOf i).toNat)
  case atStart => exact ⟨0, [], by omega, rfl, fun i => by unfold tabR; rw [if_neg (by omega)]; rfl, by simp, H6.out⟩
  case round =>
    obtain ⟨k, kvs, hk, rfl, htg, hok2, hs⟩ := hrel
    have x0 : wr.cell? ⟨gl, 0, none⟩ = some (.pointer (some ⟨gd, 0, none⟩)) := hs.blk_cell mem0 0
    have HOK2 := hide hok2
    obtain ⟨M, hM⟩ : ∃ M, mostK d m0 k = M := ⟨_, rfl⟩
    have hml := HMLE.out k
    rw [hM] at hs hml
    have hMI : (M : Int) ≤ 4294967295 := by omega
    have HMM := hide hM
    have H1 := hide hs
    have HOKK : Hid (okInt (k : Int)) := hide (by unfold okInt; exact WalkArith.wf_i64 (by omega))
    clear hs hok2 hM hml H6
    by_cases hlt : k < d.last.length
    · have hlt' : (k : Int) < d.last.length := by omega
      have hrb := HRB.out k hlt
      replace HRB := hide hrb
      have HL64 := hide hrb.2.2
      clear hrb
      rcases hpa : parseB (d.cur k) with _ | p
      · have HPA := hide hpa
        have HMK : Hid (mostK d m0 (k + 1) = M) := hide (by rw [mostK, HMM.out, hpa])
        have HTG := hide (tab_same htg hpa)
        clear hpa htg
        go_wp2_with (first
          | (go_at_call 60; refine (dread_calls H1.out.f1 HDO.out k).mono ?_; rintro z w2 ⟨bs, cp, rfl, h2⟩; rw [HRB.out.1, HL64.out] at h2; rw [HRB.out.1, HRB.out.2.1, HL64.out]; obtain ⟨ga, hga⟩ := h2.rows_base mem0 (by rw [HL64.out]; decide); subst hga; have H2 := hide h2.persist.f2; clear h2 H1)
          | (go_at_call 92; refine (parse_calls H2.out mem1).mono ?_; rintro z w3 (⟨p', vd, hp', rfl, h3⟩ | ⟨hp', rfl, h3⟩) ; (rw [HPA.out] at hp'; cases hp'); clear hp'; have H3 := hide h3.d1; clear h3 H2))
        go_roundw
        case rel => exact ⟨k + 1, _, by omega, by go_num, HTG.out, HOK2.out, by rw [HMK.out]; exact H3.out.alloc_ _⟩
        case measure => exact meas_step hlt
      · have HPA := hide hpa
        have hok2 := parse_ok hpa
        have hgI : (p.gen : Int) ≤ 4294967295 := by have := hok2.2.1; omega
        have HTG := fun vd => hide (tab_more (vd := vd) htg hpa)
        have HOK3 := fun vd => hide (tab_oks (k := (k : Int)) (vd := vd) HOK2.out hok2)
        clear htg hok2
        by_cases hgm : M < p.gen
        · have hgt : (M : Int) < (p.gen : Int) := by omega
          have HMK : Hid (mostK d m0 (k + 1) = p.gen) := hide (by rw [mostK, HMM.out, hpa]; simp only; omega)
          clear hgm hpa
          go_wp2_with (first
            | (go_at_call 60; refine (dread_calls H1.out.f1 HDO.out k).mono ?_; rintro z w2 ⟨bs, cp, rfl, h2⟩; rw [HRB.out.1, HL64.out] at h2; rw [HRB.out.1, HRB.out.2.1, HL64.out]; obtain ⟨ga, hga⟩ := h2.rows_base mem0 (by rw [HL64.out]; decide); subst hga; have H2 := hide h2.persist.f2; clear h2 H1)
            | (go_at_call 92; refine (parse_calls H2.out mem1).mono ?_; rintro z w3 (⟨p', vd, hp', rfl, h3⟩ | ⟨hp', rfl, h3⟩) ; rotate_left; (rw [HPA.out] at hp'; cases hp'); rw [HPA.out] at hp'; obtain rfl := Option.some.inj hp'; clear hp'; obtain ⟨bD, cD, hvD, _⟩ := h3.sl_form mem0; subst hvD; have ONE5 : Hid (∀ v ∈ ([.int .i64 (p.gen : Nat), .int .i64 (p.rc : Nat), .int .i64 (p.n : Nat), .int .i64 (p.of : Nat), .slice bD p.data.length cD] : List Value), v.oneCell' = true) := ONEP h3; have H3 := hide h3.d2; clear h3 H2)
            | ((with_reducible refine wpList_alloc_ag rfl agPart rfl H3.out ?_); intro g7 w7 h7; have H7 := hide h7; clear h7 H3)
            | ((with_reducible refine wpList_store_ag (cs := [.int .i64 (p.gen : Nat), .int .i64 (p.rc : Nat), .int .i64 (p.n : Nat), .int .i64 (p.of : Nat), .slice bD p.data.length cD]) rfl agPart (.tmp 7) (.tmp 35) rfl rfl rfl rfl rfl ONE5.out H7.out ?_); intro w8 h8; have z2 : w8.cell? ⟨g2, 0, none⟩ = some (.map (some gm)) := h8.blk_cell mem4 0; have H8 := hide h8; clear h8 H7)
            | (refine wpList_loadB_st (cs := [.int .i64 (p.gen : Nat), .int .i64 (p.rc : Nat), .int .i64 (p.n : Nat), .int .i64 (p.of : Nat), .slice bD p.data.length cD]) rfl agPart (.tmp 7) rfl rfl rfl H8.out mem0 ?_)
            | (at_mapUpdate; refine wpList_mapUpdate_st (ek := eInt) (ok := okInt) (ev := ag5) (m := gm) (kvs := kvs) (b := b) rfl 120 (.tmp 38) (.tmp 39) (.tmp 40) rfl intKey mapTab (k : Int) (.slice bD p.data.length cD, p) ?_ ?_ HOKK.out ?_ H8.out.f6 ?_; exact rfl; exact rfl; exact rfl; intro w10 h10; have h11 := (St.tab_put (k := (k : Int)) (p := p) h10 (up1 mem6) mem2).f4; have x5 : w10.drew.cell? ⟨gl, 5, none⟩ = some (.int .i64 (M : Nat)) := h11.drew.blk_cell mem0 5; have H11 := hide h11; clear h10 h11 H8))
          refine wp_region_held_drew (S := fun w' => w'.cell? ⟨g7, 0, none⟩ = some (.int .i64 (p.gen : Nat))) (by kernel_rfl) ?_ (fun hHeld => ?_)
          · exact H11.out.drew.blk_cell mem3 0
          refine wpAnyH_takeD (i := 0) (some 41) (v := ?v0_1) rfl rfl (by kernel_rfl) (by kernel_rfl) (by kernel_rfl) (fun _ _ _ h => leaves_put (by decide) h) (by rfl) ?y0_1 (by assumption) ?r0_1
          case y0_1 => (intro w hSw; (try dsimp only at hSw); first | (go_simp; done) | (go_simp; with_reducible rfl))
          try simp only [Act.put, List.setIfInBounds_toArray, List.set_cons_zero, List.set_cons_succ]
          refine wpAnyH_takeD (i := 1) (some 42) (v := ?v1_2) rfl rfl (by kernel_rfl) (by kernel_rfl) (by kernel_rfl) (fun _ _ _ h => leaves_put (by decide) h) (by rfl) ?y1_2 (by assumption) ?r1_2
          case y1_2 => (intro w hSw; (try dsimp only at hSw); first | (go_simp; done) | (go_simp; with_reducible rfl))
          try simp only [Act.put, List.setIfInBounds_toArray, List.set_cons_zero, List.set_cons_succ]
          refine wpAnyH_takeD (i := 2) (some 43) (v := ?v2_3) rfl rfl (by kernel_rfl) (by kernel_rfl) (by kernel_rfl) (fun _ _ _ h => leaves_put (by decide) h) (by rfl) ?y2_3 (by assumption) ?r2_3
          case y2_3 => (intro w hSw; (try dsimp only at hSw); first | (go_simp; done) | (go_simp; with_reducible rfl))
          try simp only [Act.put, List.setIfInBounds_toArray, List.set_cons_zero, List.set_cons_succ]
          refine wpAnyH_takeD (i := 3) (some 44) (v := ?v3_4) rfl rfl (by kernel_rfl) (by kernel_rfl) (by kernel_rfl) (fun _ _ _ h => leaves_put (by decide) h) (by rfl) ?y3_4 (by assumption) ?r3_4
          case y3_4 => (intro w hSw; (try dsimp only at hSw); first | (go_simp; done) | (go_simp; with_reducible rfl))
          try simp only [Act.put, List.setIfInBounds_toArray, List.set_cons_zero, List.set_cons_succ]
          refine wpAnyH_takeD (i := 5) (some 46) (v := ?v5_5) rfl rfl (by kernel_rfl) (by kernel_rfl) (by kernel_rfl) (fun _ _ _ h => leaves_put (by decide) h) (by rfl) ?y5_5 (by assumption) ?r5_5
          case y5_5 => (intro w hSw; (try dsimp only at hSw); first | (go_simp; done) | (go_simp; with_reducible rfl))
          try simp only [Act.put, List.setIfInBounds_toArray, List.set_cons_zero, List.set_cons_succ]
          refine wpAnyH_takeD (i := 6) (some 47) (v := ?v6_6) rfl rfl (by kernel_rfl) (by kernel_rfl) (by kernel_rfl) (fun _ _ _ h => leaves_put (by decide) h) (by rfl) ?y6_6 (by assumption) ?r6_6
          case y6_6 => (intro w hSw; (try dsimp only at hSw); first | (go_simp; done) | (go_simp; with_reducible rfl))
          try simp only [Act.put, List.setIfInBounds_toArray, List.set_cons_zero, List.set_cons_succ]
          refine wpAnyH_ready (rs := [4]) (by kernel_rfl) (by simp) ?_
          refine AllReadyH.cons rfl (fun K hK => ?_) ?_
          · go_simp
            refine hK.out _ _ ?_ (fun hHeld => ?_)
            · first | exact H11.out.drew.blk_cell mem3 0 | exact H12.out.blk_cell mem3 0
            clear hK K
            try simp only [Act.put, List.setIfInBounds_toArray, List.set_cons_zero, List.set_cons_succ]
            refine wpAnyH_ready (rs := [7]) (by kernel_rfl) (by simp) ?_
            refine AllReadyH.cons rfl (fun K hK => ?_) ?_
            · go_simp
              refine hK.out _ _ ?_ (fun hHeld => ?_)
              · first | exact H11.out.drew.blk_cell mem3 0 | exact H12.out.blk_cell mem3 0
              clear hK K
              try simp only [Act.put, List.setIfInBounds_toArray, List.set_cons_zero, List.set_cons_succ]
              refine wpAnyH_takeD (i := 8) (some 49) (v := ?v8_7) rfl rfl (by kernel_rfl) (by kernel_rfl) (by kernel_rfl) (fun _ _ _ h => leaves_put (by decide) h) (by rfl) ?y8_7 (by assumption) ?r8_7
              case y8_7 => (intro w hSw; (try dsimp only at hSw); first | (go_simp; done) | (go_simp; with_reducible rfl))
              try simp only [Act.put, List.setIfInBounds_toArray, List.set_cons_zero, List.set_cons_succ]
              refine wpAnyH_takeD (i := 9) (some 50) (v := ?v9_8) rfl rfl (by kernel_rfl) (by kernel_rfl) (by kernel_rfl) (fun _ _ _ h => leaves_put (by decide) h) (by rfl) ?y9_8 (by assumption) ?r9_8
              case y9_8 => (intro w hSw; (try dsimp only at hSw); first | (go_simp; done) | (go_simp; with_reducible rfl))
              try simp only [Act.put, List.setIfInBounds_toArray, List.set_cons_zero, List.set_cons_succ]
              refine wpAnyH_ready (rs := [10]) (by kernel_rfl) (by simp) ?_
              refine AllReadyH.cons rfl (fun K hK => ?_) ?_
              · refine step_storeF_st (cs := [.pointer (some ⟨gd, 0, none⟩), .int .i64 (gen : Nat), .int .i64 (half : Nat), .int .i64 (next : Nat), .int .i64 (rc : Nat), .int .i64 (M : Nat)]) (ds := [.pointer (some ⟨gd, 0, none⟩), .int .i64 (gen : Nat), .int .i64 (half : Nat), .int .i64 (next : Nat), .int .i64 (rc : Nat), .int .i64 (max (M : Int) (p.gen : Int))]) rfl 3 (.tmp 50) (.tmp 48) rfl szInt rfl rfl rfl rfl H11.out.drew (by simp) rfl ?_
                intro w12 h12
                rw [show max (M : Int) (p.gen : Int) = ((p.gen : Nat) : Int) from by omega] at h12
                have H12 := hide h12
                clear h12 H11
                refine hK.out _ _ ?_ (fun hHeld => ?_)
                · first | exact H11.out.drew.blk_cell mem3 0 | exact H12.out.blk_cell mem3 0
                clear hK K
                try simp only [Act.put, List.setIfInBounds_toArray, List.set_cons_zero, List.set_cons_succ]
                refine wpAnyH_done (by kernel_rfl) ?_ _
                go_wp2_with fail
                go_roundw
                case rel => exact ⟨k + 1, kput kvs (k : Int) (.slice bD p.data.length cD, p), by omega, by go_num, (HTG _).out, (HOK3 _).out, by rw [HMK.out]; exact H12.out.pick [0, 5, 6, 7, 2, 1] 9 (by decide) (by decide) (by simp)⟩
                case measure => exact meas_step hlt
              exact AllReadyH.nil
            exact AllReadyH.nil
          exact AllReadyH.nil
        · have hgt : ¬ (M : Int) < (p.gen : Int) := by omega
          have HMK : Hid (mostK d m0 (k + 1) = M) := hide (by rw [mostK, HMM.out, hpa]; simp only; omega)
          clear hgm hpa
          go_wp2_with (first
            | (go_at_call 60; refine (dread_calls H1.out.f1 HDO.out k).mono ?_; rintro z w2 ⟨bs, cp, rfl, h2⟩; rw [HRB.out.1, HL64.out] at h2; rw [HRB.out.1, HRB.out.2.1, HL64.out]; obtain ⟨ga, hga⟩ := h2.rows_base mem0 (by rw [HL64.out]; decide); subst hga; have H2 := hide h2.persist.f2; clear h2 H1)
            | (go_at_call 92; refine (parse_calls H2.out mem1).mono ?_; rintro z w3 (⟨p', vd, hp', rfl, h3⟩ | ⟨hp', rfl, h3⟩) ; rotate_left; (rw [HPA.out] at hp'; cases hp'); rw [HPA.out] at hp'; obtain rfl := Option.some.inj hp'; clear hp'; obtain ⟨bD, cD, hvD, _⟩ := h3.sl_form mem0; subst hvD; have ONE5 : Hid (∀ v ∈ ([.int .i64 (p.gen : Nat), .int .i64 (p.rc : Nat), .int .i64 (p.n : Nat), .int .i64 (p.of : Nat), .slice bD p.data.length cD] : List Value), v.oneCell' = true) := ONEP h3; have H3 := hide h3.d2; clear h3 H2)
            | ((with_reducible refine wpList_alloc_ag rfl agPart rfl H3.out ?_); intro g7 w7 h7; have H7 := hide h7; clear h7 H3)
            | ((with_reducible refine wpList_store_ag (cs := [.int .i64 (p.gen : Nat), .int .i64 (p.rc : Nat), .int .i64 (p.n : Nat), .int .i64 (p.of : Nat), .slice bD p.data.length cD]) rfl agPart (.tmp 7) (.tmp 35) rfl rfl rfl rfl rfl ONE5.out H7.out ?_); intro w8 h8; have z2 : w8.cell? ⟨g2, 0, none⟩ = some (.map (some gm)) := h8.blk_cell mem4 0; have H8 := hide h8; clear h8 H7)
            | (refine wpList_loadB_st (cs := [.int .i64 (p.gen : Nat), .int .i64 (p.rc : Nat), .int .i64 (p.n : Nat), .int .i64 (p.of : Nat), .slice bD p.data.length cD]) rfl agPart (.tmp 7) rfl rfl rfl H8.out mem0 ?_)
            | (at_mapUpdate; refine wpList_mapUpdate_st (ek := eInt) (ok := okInt) (ev := ag5) (m := gm) (kvs := kvs) (b := b) rfl 120 (.tmp 38) (.tmp 39) (.tmp 40) rfl intKey mapTab (k : Int) (.slice bD p.data.length cD, p) ?_ ?_ HOKK.out ?_ H8.out.f6 ?_; exact rfl; exact rfl; exact rfl; intro w10 h10; have h11 := (St.tab_put (k := (k : Int)) (p := p) h10 (up1 mem6) mem2).f4; have x5 : w10.drew.cell? ⟨gl, 5, none⟩ = some (.int .i64 (M : Nat)) := h11.drew.blk_cell mem0 5; have H11 := hide h11; clear h10 h11 H8))
          refine wp_region_held_drew (S := fun w' => w'.cell? ⟨g7, 0, none⟩ = some (.int .i64 (p.gen : Nat))) (by kernel_rfl) ?_ (fun hHeld => ?_)
          · exact H11.out.drew.blk_cell mem3 0
          refine wpAnyH_takeD (i := 0) (some 41) (v := ?v0_9) rfl rfl (by kernel_rfl) (by kernel_rfl) (by kernel_rfl) (fun _ _ _ h => leaves_put (by decide) h) (by rfl) ?y0_9 (by assumption) ?r0_9
          case y0_9 => (intro w hSw; (try dsimp only at hSw); first | (go_simp; done) | (go_simp; with_reducible rfl))
          try simp only [Act.put, List.setIfInBounds_toArray, List.set_cons_zero, List.set_cons_succ]
          refine wpAnyH_takeD (i := 1) (some 42) (v := ?v1_10) rfl rfl (by kernel_rfl) (by kernel_rfl) (by kernel_rfl) (fun _ _ _ h => leaves_put (by decide) h) (by rfl) ?y1_10 (by assumption) ?r1_10
          case y1_10 => (intro w hSw; (try dsimp only at hSw); first | (go_simp; done) | (go_simp; with_reducible rfl))
          try simp only [Act.put, List.setIfInBounds_toArray, List.set_cons_zero, List.set_cons_succ]
          refine wpAnyH_takeD (i := 2) (some 43) (v := ?v2_11) rfl rfl (by kernel_rfl) (by kernel_rfl) (by kernel_rfl) (fun _ _ _ h => leaves_put (by decide) h) (by rfl) ?y2_11 (by assumption) ?r2_11
          case y2_11 => (intro w hSw; (try dsimp only at hSw); first | (go_simp; done) | (go_simp; with_reducible rfl))
          try simp only [Act.put, List.setIfInBounds_toArray, List.set_cons_zero, List.set_cons_succ]
          refine wpAnyH_takeD (i := 3) (some 44) (v := ?v3_12) rfl rfl (by kernel_rfl) (by kernel_rfl) (by kernel_rfl) (fun _ _ _ h => leaves_put (by decide) h) (by rfl) ?y3_12 (by assumption) ?r3_12
          case y3_12 => (intro w hSw; (try dsimp only at hSw); first | (go_simp; done) | (go_simp; with_reducible rfl))
          try simp only [Act.put, List.setIfInBounds_toArray, List.set_cons_zero, List.set_cons_succ]
          refine wpAnyH_takeD (i := 5) (some 46) (v := ?v5_13) rfl rfl (by kernel_rfl) (by kernel_rfl) (by kernel_rfl) (fun _ _ _ h => leaves_put (by decide) h) (by rfl) ?y5_13 (by assumption) ?r5_13
          case y5_13 => (intro w hSw; (try dsimp only at hSw); first | (go_simp; done) | (go_simp; with_reducible rfl))
          try simp only [Act.put, List.setIfInBounds_toArray, List.set_cons_zero, List.set_cons_succ]
          refine wpAnyH_takeD (i := 6) (some 47) (v := ?v6_14) rfl rfl (by kernel_rfl) (by kernel_rfl) (by kernel_rfl) (fun _ _ _ h => leaves_put (by decide) h) (by rfl) ?y6_14 (by assumption) ?r6_14
          case y6_14 => (intro w hSw; (try dsimp only at hSw); first | (go_simp; done) | (go_simp; with_reducible rfl))
          try simp only [Act.put, List.setIfInBounds_toArray, List.set_cons_zero, List.set_cons_succ]
          refine wpAnyH_ready (rs := [4]) (by kernel_rfl) (by simp) ?_
          refine AllReadyH.cons rfl (fun K hK => ?_) ?_
          · go_simp
            refine hK.out _ _ ?_ (fun hHeld => ?_)
            · first | exact H11.out.drew.blk_cell mem3 0 | exact H12.out.blk_cell mem3 0
            clear hK K
            try simp only [Act.put, List.setIfInBounds_toArray, List.set_cons_zero, List.set_cons_succ]
            refine wpAnyH_ready (rs := [7]) (by kernel_rfl) (by simp) ?_
            refine AllReadyH.cons rfl (fun K hK => ?_) ?_
            · go_simp
              refine hK.out _ _ ?_ (fun hHeld => ?_)
              · first | exact H11.out.drew.blk_cell mem3 0 | exact H12.out.blk_cell mem3 0
              clear hK K
              try simp only [Act.put, List.setIfInBounds_toArray, List.set_cons_zero, List.set_cons_succ]
              refine wpAnyH_takeD (i := 8) (some 49) (v := ?v8_15) rfl rfl (by kernel_rfl) (by kernel_rfl) (by kernel_rfl) (fun _ _ _ h => leaves_put (by decide) h) (by rfl) ?y8_15 (by assumption) ?r8_15
              case y8_15 => (intro w hSw; (try dsimp only at hSw); first | (go_simp; done) | (go_simp; with_reducible rfl))
              try simp only [Act.put, List.setIfInBounds_toArray, List.set_cons_zero, List.set_cons_succ]
              refine wpAnyH_takeD (i := 9) (some 50) (v := ?v9_16) rfl rfl (by kernel_rfl) (by kernel_rfl) (by kernel_rfl) (fun _ _ _ h => leaves_put (by decide) h) (by rfl) ?y9_16 (by assumption) ?r9_16
              case y9_16 => (intro w hSw; (try dsimp only at hSw); first | (go_simp; done) | (go_simp; with_reducible rfl))
              try simp only [Act.put, List.setIfInBounds_toArray, List.set_cons_zero, List.set_cons_succ]
              refine wpAnyH_ready (rs := [10]) (by kernel_rfl) (by simp) ?_
              refine AllReadyH.cons rfl (fun K hK => ?_) ?_
              · refine step_storeF_st (cs := [.pointer (some ⟨gd, 0, none⟩), .int .i64 (gen : Nat), .int .i64 (half : Nat), .int .i64 (next : Nat), .int .i64 (rc : Nat), .int .i64 (M : Nat)]) (ds := [.pointer (some ⟨gd, 0, none⟩), .int .i64 (gen : Nat), .int .i64 (half : Nat), .int .i64 (next : Nat), .int .i64 (rc : Nat), .int .i64 (max (M : Int) (p.gen : Int))]) rfl 3 (.tmp 50) (.tmp 48) rfl szInt rfl rfl rfl rfl H11.out.drew (by simp) rfl ?_
                intro w12 h12
                rw [show max (M : Int) (p.gen : Int) = ((M : Nat) : Int) from by omega] at h12
                have H12 := hide h12
                clear h12 H11
                refine hK.out _ _ ?_ (fun hHeld => ?_)
                · first | exact H11.out.drew.blk_cell mem3 0 | exact H12.out.blk_cell mem3 0
                clear hK K
                try simp only [Act.put, List.setIfInBounds_toArray, List.set_cons_zero, List.set_cons_succ]
                refine wpAnyH_done (by kernel_rfl) ?_ _
                go_wp2_with fail
                go_roundw
                case rel => exact ⟨k + 1, kput kvs (k : Int) (.slice bD p.data.length cD, p), by omega, by go_num, (HTG _).out, (HOK3 _).out, by rw [HMK.out]; exact H12.out.pick [0, 5, 6, 7, 2, 1] 9 (by decide) (by decide) (by simp)⟩
                case measure => exact meas_step hlt
              exact AllReadyH.nil
            exact AllReadyH.nil
          exact AllReadyH.nil
    · have hke : k = d.last.length := by omega
      have hnlt : ¬ (k : Int) < d.last.length := by omega
      subst hke
      have HTG := hide htg
      have z2 : wr.cell? ⟨g2, 0, none⟩ = some (.map (some gm)) := H1.out.blk_cell mem2 0
      clear htg hk
      go_wp2_with (first
        | ((with_reducible refine wpList_store1_st rfl 120 (.tmp 2) (.tmp 52) rfl szTab rfl rfl rfl rfl H1.out.f2 ?_); intro w5 h5; have H5 := hide h5; clear h5 H1)
        | ((with_reducible refine wpList_store1_st rfl 31 (.tmp 3) (.const (.int .i64 0)) rfl szErrno rfl rfl rfl rfl H5.out.f3 ?_); intro w6 h6; have q3 : w6.cell? ⟨g3, 0, none⟩ = some (.int .i64 0) := h6.blk_cell mem0 0; have q2 : w6.cell? ⟨g2, 0, none⟩ = some (.map (some gm)) := h6.blk_cell mem1 0; have H6 := hide h6; clear h6 H5))
      refine leaves_cons (f := 91) (args := #[.pointer (some ⟨g3, 0, none⟩), .pointer (some ⟨g2, 0, none⟩)]) (by simp) (by simp [go_sem]) ?_
      refine (scan1_d .returning q3).mono ?_
      rintro e u' w'' ⟨rfl, rfl, rfl⟩
      refine ⟨_, results_cells2 (p := 2) (q := 3) rfl szTab szErrno _ _ rfl rfl (by simp [go_sem, q2]) (by simp [go_sem, q3]), gm, rfl, kvs, HTG.out, fun a b c h => HOK2.out _ h, by rw [HMM.out]; exact H6.out.drop.drop⟩
end Go.Proofs.YtcgnkloljfgiaaaGreatDoor
