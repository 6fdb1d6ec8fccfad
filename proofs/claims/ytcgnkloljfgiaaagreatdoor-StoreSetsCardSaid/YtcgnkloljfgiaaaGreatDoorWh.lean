/-
  package sect: Join.
-/
import Derived.Test.YtcgnkloljfgiaaaGreatDoorWg
namespace Go.Proofs.YtcgnkloljfgiaaaGreatDoor
open Go.RowKit Go.Maps Go.MapKept
variable {b : Env} {L : List HP} {w : World}
def flatP (ps : List PartR) : Byt := (ps.map (·.data)).flatten
theorem flatP_succ {ps : List PartR} {k : Nat} (hk : k < ps.length) {p : PartR} (hp : ps[k] = p) : flatP (ps.take (k + 1)) = flatP (ps.take k) ++ p.data := by
  rw [List.take_succ_eq_append_getElem hk, hp]; simp [flatP]
theorem flatP_len : ∀ {ps : List PartR}, (∀ p ∈ ps, p.data.length = 52) → (flatP ps).length = ps.length * 52
  | [], _ => rfl
  | p :: ps, h => by
    have h1 := h p (by simp)
    have h2 := flatP_len (ps := ps) (fun q hq => h q (by simp [hq]))
    simp only [flatP, List.map_cons, List.flatten_cons, List.length_append, List.length_cons] at h2 ⊢
    omega
/-- What Parts carry, if they are just what is cut of it. -/
def joinB (ps : List PartR) : Option Byt :=
  let all := flatP ps
  let n := numB (all.take 4)
  let d := (all.drop 4).take n
  if n ≤ all.length - 4 ∧ cutB (ps.headD ⟨0, 0, 0, 0, []⟩).gen (ps.headD ⟨0, 0, 0, 0, []⟩).rc d = ps then some d else none
theorem join_cut {gen rc : Nat} {l : Byt} (hl : l.length < 4294967296) : joinB (cutB gen rc l) = some l := by
  have hf : flatP (cutB gen rc l) = wholeB l := cut_flat gen rc l
  obtain ⟨h1, h2⟩ := whole_num l hl
  have hp := partsOf_pos l.length
  have hh : (cutB gen rc l).headD ⟨0, 0, 0, 0, []⟩ = partAt gen rc l 0 := by
    unfold cutB
    obtain ⟨m, hm⟩ : ∃ m, partsOf l.length = m + 1 := ⟨partsOf l.length - 1, by omega⟩
    rw [hm, List.range_succ_eq_map]
    simp
  unfold joinB
  simp only [hf, h1, h2, hh]
  rw [if_pos]
  refine ⟨?_, rfl⟩
  rw [wholeB_len]; unfold partsOf; omega
theorem St.part_elem {g o n cap i : Nat} {ps : List PartR} (h : St b L w) (hm : HP.sl partE (.slice (some ⟨g, o, none⟩) n cap) ps ∈ L) (hi : i < ps.length) :
    ∃ bd cd, (∀ j u, ([.int .i64 (ps[i].gen : Nat), .int .i64 (ps[i].rc : Nat), .int .i64 (ps[i].n : Nat), .int .i64 (ps[i].of : Nat), .slice bd ps[i].data.length cd] : List Value)[j]? = some u → w.cell? ⟨g, o + i * 5 + j, none⟩ = some u) ∧ St b (HP.sl byteE (.slice bd ps[i].data.length cd) ps[i].data :: HP.elem partE g (o + i * 5) ps[i] [.int .i64 (ps[i].gen : Nat), .int .i64 (ps[i].rc : Nat), .int .i64 (ps[i].n : Nat), .int .i64 (ps[i].of : Nat), (.slice bd ps[i].data.length cd)] :: L) w := by
  obtain ⟨cs, h1⟩ := h.elem hm (List.getElem?_eq_getElem hi) (by decide)
  obtain ⟨e, hl, hs, vd, hc, hv⟩ := h1.elem_rd mem0
  obtain ⟨_, _, _, bd, cd, rfl, _⟩ := id hv
  subst hc
  exact ⟨bd, cd, fun j u hj => h1.elem_cell mem0 j hj, e, hl, hs.lay (fun _ => hv)⟩
theorem told_n {g off n cap : Nat} {l : Byt} (hn : l.length = n) (hc : ∀ j (h : j < l.length), w.cell? ⟨g, off + j, none⟩ = some (B8 l[j])) (hl : n ≤ 4) :
    Calls Tryz.prog 115 #[.slice (some ⟨g, off, none⟩) n cap] w fun x w' => x = .returned (.int .i64 (numB l : Nat)) ∧ w = w' := by
  subst hn; exact told_calls hc hl
def JoA (b : Env) (L : List HP) (ps : List PartR) (v i : Value) (wr : World) : Prop := ∃ k : Nat, k ≤ ps.length ∧ i = .int .i64 k ∧ ∃ base n cap, n = (flatP (ps.take k)).length ∧ v = .slice base n cap ∧ St b (HP.rows 5 byteE v (flatP (ps.take k)) :: L) wr
def JoB (b : Env) (L : List HP) (ps qs : List PartR) (i : Value) (wr : World) : Prop := ∃ k : Nat, k ≤ ps.length ∧ i = .int .i64 k ∧ ps.take k = qs.take k ∧ St b L wr
theorem eq_of_takes {ps qs : List PartR} (hl : ps.length = qs.length) (h : ps.take ps.length = qs.take ps.length) : ps = qs := by
  rw [List.take_of_length_le (Nat.le_refl _), hl, List.take_of_length_le (Nat.le_refl _)] at h; exact h
set_option linter.unusedSimpArgs false in
set_option maxRecDepth 100000 in
set_option maxHeartbeats 8000000 in
theorem join_calls {v : Value} {ps : List PartR} (h : St b L w) (hm : HP.sl partE v ps ∈ L) (hne : 0 < ps.length) (hlen : ps.length ≤ 255) (h52 : ∀ p ∈ ps, p.data.length = 52) (hok : ∀ p ∈ ps, p.ok) :
    Calls Tryz.prog 93 #[v] w fun x w' => (∃ d v', joinB ps = some d ∧ x = .returned (.tuple #[v', .bool true]) ∧ St b (HP.sl byteE v' d :: L) w') ∨ (joinB ps = none ∧ x = .returned (.tuple #[.slice none 0 0, .bool false]) ∧ St b L w') := by
  obtain ⟨bp, cp, rfl, _, _⟩ := h.sl_form hm
  obtain ⟨gp, op, rfl⟩ := h.sl_base (E := partE) hm hne (by decide)
  have hfl := flatP_len h52
  have H := hide h
  have HM := hide hm
  have H52 := hide h52
  have HOK := hide hok
  have hpI : (ps.length : Int) ≤ 255 := by omega
  have hpI0 : (0 : Int) < ps.length := by omega
  have hpne : ((ps.length : Int) == 0) = false := by rw [beq_eq_false_iff_ne]; omega
  obtain ⟨bd0, cd0, hc0, hq0⟩ := h.part_elem hm hne
  clear hq0
  have hd0 := h52 ps[0] (List.getElem_mem hne)
  have hd0I : (4 : Int) ≤ ps[0].data.length := by omega
  have z4 : w.cell? ⟨gp, op + 4, none⟩ = some (.slice bd0 ps[0].data.length cd0) := by
    have := hc0 4 (.slice bd0 ps[0].data.length cd0) rfl
    simpa using this
  obtain ⟨dl, hdl⟩ : ∃ d, ps[0].data.length = d := ⟨_, rfl⟩
  rw [hdl] at hd0I z4
  obtain ⟨p0, hp0⟩ : ∃ p, ps[0] = p := ⟨_, rfl⟩
  have hhead : ps.headD ⟨0, 0, 0, 0, []⟩ = p0 := by
    cases ps with
    | nil => simp at hne
    | cons a l => simpa using hp0
  have HHD := hide hhead
  have HP0 := hide (show ps[0]? = some p0 by rw [List.getElem?_eq_getElem hne, hp0])
  have HNE := hide hne
  have hjb : ∀ q, joinB ps = q ↔ (if numB ((flatP ps).take 4) ≤ (flatP ps).length - 4 ∧ cutB p0.gen p0.rc (((flatP ps).drop 4).take (numB ((flatP ps).take 4))) = ps then some (((flatP ps).drop 4).take (numB ((flatP ps).take 4))) else none) = q := fun q => by
    unfold joinB; rw [hhead]
  have hok0 : p0.ok := by rw [← hp0]; exact hok _ (List.getElem_mem hne)
  have HOK0 := hide hok0
  have HJB := hide hjb
  have HFL := hide hfl
  have hlenI : ps.length ≤ 255 := hlen
  clear h hm hne h52 hok hc0 hd0 hdl hp0 hhead hjb hok0 hfl hlen
  go_enter Tryz.func93, Tryz.ntmps93
  go_wp2_with fail
  go_loopw [4, 25] (fun v i wr => JoA b L ps v i wr) (fun _ i _ => ps.length - (intOf i).toNat)
  case atStart => exact ⟨0, by omega, rfl, none, 0, 0, rfl, rfl, H.out.rows_nil _ _⟩
  case round =>
    obtain ⟨k, hk, rfl, b4, n4, c4, hn4, rfl, hs⟩ := hrel
    have H1 := hide hs
    have HN4 := hide hn4
    clear hs hn4 H
    by_cases hlt : k < ps.length
    · have hlt' : (k : Int) < ps.length := by omega
      obtain ⟨bd, cd, hcs, h2⟩ := H1.out.part_elem (up1 HM.out) hlt
      have h52 := H52.out ps[k] (List.getElem_mem hlt)
      have hfk := flatP_len (ps := ps.take k) (fun q hq => H52.out q (List.mem_of_mem_take hq))
      rw [List.length_take, Nat.min_eq_left hk] at hfk
      obtain ⟨p, hp⟩ : ∃ p, ps[k] = p := ⟨_, rfl⟩
      have HSU := hide (flatP_succ hlt hp)
      rw [hp] at hcs h2 h52
      have HCS := hide hcs
      generalize hA : flatP (ps.take k) = A at h2 HSU HN4 hfk H1
      have hAl : A.length ≤ 255 * 52 := by rw [hfk]; exact Nat.mul_le_mul_right _ (by omega)
      have HH52 := hide h52
      have q1 : A.length + p.data.length ≤ maxLen := by rw [h52]; unfold maxLen; omega
      have q2 : (A.length + p.data.length) * 1 ≤ 140737488355328 := by rw [h52]; omega
      have Q1 := hide (And.intro q1 q2)
      have H2 := hide h2.f2
      have ONE5 : Hid (∀ v ∈ ([.int .i64 (p.gen : Nat), .int .i64 (p.rc : Nat), .int .i64 (p.n : Nat), .int .i64 (p.of : Nat), .slice bd p.data.length cd] : List Value), v.oneCell' = true) := hide (by intro v hv; simp only [List.mem_cons, List.not_mem_nil, or_false] at hv; rcases hv with rfl | rfl | rfl | rfl | rfl <;> rfl)
      clear hcs h2 h52 hfk hp hA hAl q1 q2 H1
      go_wp2_with (first
        | (with_reducible refine wpList_load_ag (cs := [.int .i64 (p.gen : Nat), .int .i64 (p.rc : Nat), .int .i64 (p.n : Nat), .int .i64 (p.of : Nat), .slice bd p.data.length cd]) rfl agPart (.tmp 27) rfl rfl rfl HCS.out ?_)
        | ((with_reducible refine wpList_alloc_ag rfl agPart rfl H2.out ?_); intro g6 w6 h6; have H6 := hide h6; clear h6 H2)
        | ((with_reducible refine wpList_store_ag (cs := [.int .i64 (p.gen : Nat), .int .i64 (p.rc : Nat), .int .i64 (p.n : Nat), .int .i64 (p.of : Nat), .slice bd p.data.length cd]) rfl agPart (.tmp 6) (.tmp 28) rfl rfl rfl rfl rfl ONE5.out H6.out ?_); intro w7 h7; have x4 : w7.cell? ⟨g6, 4, none⟩ = some (.slice bd p.data.length cd) := h7.blk_cell mem0 4; have H7 := hide h7.f1; clear h7 H6)
        | (at_builtin; refine wpList_append_st (E := byteE) rfl (.tmp 29) (.tmp 31) slByte rfl H7.out (Src.of_sl mem2) rfl rfl Q1.out.1 Q1.out.2 ?_; intro vb8 n8 vc8 w8 hn8 h8; rw [← HSU.out] at h8; have H8 := hide h8.d1.d1.d1; have HN8 := hide hn8; clear h8 H7 hn8))
      go_roundw
      case rel => exact ⟨k + 1, by omega, by go_num, vb8, n8, vc8, by rw [HSU.out, HN8.out, List.length_append], rfl, H8.out⟩
      case measure => exact meas_step hlt
    · have hke : ps.take k = ps := List.take_of_length_le (by omega)
      have hn4 := HN4.out
      rw [hke] at H1 hn4
      have hAl := HFL.out
      have hA52 : 52 ≤ (flatP ps).length := by rw [hAl]; have := HNE.out; omega
      have hA255 : (flatP ps).length ≤ 255 * 52 := by rw [hAl]; exact Nat.mul_le_mul_right _ hlenI
      obtain ⟨ga, hga⟩ := H1.out.rows_base mem0 (by omega)
      subst hga
      obtain ⟨_, ca, hv4, hca1, hca2⟩ := H1.out.rows_form mem0
      simp only [Value.slice.injEq] at hv4
      obtain ⟨-, -, rfl⟩ := hv4
      have h3 := H1.out.persist
      have hm32 := numB_lt ((flatP ps).take 4)
      rw [List.length_take, Nat.min_eq_left (by omega)] at hm32
      have hjb := HJB.out
      have ht4 : ((flatP ps).take 4).length = 4 := by rw [List.length_take]; omega
      subst hn4
      generalize hm0 : numB ((flatP ps).take 4) = m at hm32 hjb
      have HM0 := hide hm0
      generalize hAA : flatP ps = A at *
      have hc4 : (4 : Int) ≤ c4 := by omega
      have hA4 : (4 : Int) ≤ A.length := by omega
      have nc4 : ¬ c4 = 4 := by omega
      have hmI : (m : Int) ≤ 4294967296 := by omega
      have HT4 := hide ht4
      have H3 := hide h3
      have hAI : (A.length : Int) ≤ 13260 := by omega
      have hwA : wrap64 ((A.length : Int) - 4) = (A.length : Int) - 4 := by unfold wrap64; omega
      by_cases hmA : m ≤ A.length - 4
      · have hmA1 : 4 + (m : Int) ≤ c4 := by omega
        have hmA2 : ¬ ((A.length : Int) - 4 < (m : Int)) := by omega
        have hdl : ((A.drop 4).take m).length = m := by rw [List.length_take, List.length_drop]; omega
        have hpo : partsOf m ≤ ps.length := by unfold partsOf; omega
        have h4 := H3.out.sl_sub mem0 4 m (c4 - 4) (by omega) (by omega) (by omega)
        obtain ⟨d, hd⟩ : ∃ d, (A.drop 4).take m = d := ⟨_, rfl⟩
        rw [hd] at h4 hjb hdl
        rw [show (0 : Nat) + 4 = 4 from rfl] at h4
        have HDL := hide hdl
        have hpd : partsOf d.length ≤ 255 := by rw [hdl]; omega
        have HPD := hide hpd
        have hok0 := HOK0.out
        have HG1 := hide hok0.1
        have HG2 := hide hok0.2.1
        have HG3 := hide hok0.2.2.1
        have HTD : Hid (∀ j (h : j < (A.take 4).length), wr.cell? ⟨ga, 0 + j, none⟩ = some (B8 (A.take 4)[j])) := hide (fun j hj => by
          have hj2 : j < A.length := by rw [HT4.out] at hj; omega
          rw [(H3.out.sc_at mem0 hj2).1]; simp)
        have H4 := hide h4
        have hJ := hide hjb
        clear h4 hd hjb hdl hpd hok0 H3 H1
        go_wp2_with (first
          | (go_at_call 115; refine (told_n HT4.out HTD.out (by decide)).mono ?_; rintro z w9 ⟨rfl, hw9⟩; subst hw9; rw [HM0.out])
          | (go_at_call 98; refine (bclone_n HDL.out H4.out mem0 (by omega)).mono ?_; rintro z w10 ⟨vd, rfl, h10⟩; obtain ⟨bD, cD, hvD, _⟩ := h10.rows_form mem0; subst hvD; have H10 := hide h10.persist; clear h10))
        obtain ⟨bz, cz, hcz, hqz⟩ := H10.out.part_elem (up3 HM.out) HNE.out
        clear hqz
        have hp00 := (List.getElem?_eq_some_iff.1 HP0.out).2
        rw [hp00] at hcz
        have HK0 : Hid (World.cell? _ ⟨gp, op, none⟩ = some (.int .i64 (p0.gen : Nat)) ∧ World.cell? _ ⟨gp, op + 1, none⟩ = some (.int .i64 (p0.rc : Nat))) := hide ⟨by have := hcz 0 _ rfl; simpa using this, by have := hcz 1 _ rfl; simpa using this⟩
        clear hcz hp00
        have hne0 := HNE.out
        refine wp_region_held_drew (S := fun w' => w'.cell? ⟨gp, op, none⟩ = some (.int .i64 (p0.gen : Nat)) ∧ w'.cell? ⟨gp, op + 1, none⟩ = some (.int .i64 (p0.rc : Nat))) (by kernel_rfl) ?_ (fun hHeld => ?_)
        · exact HK0.out
        refine wpAnyH_takeD (i := 0) (some 48) (v := ?v0_19) rfl rfl (by kernel_rfl) (by kernel_rfl) (by kernel_rfl) (fun _ _ _ h => h) (by rfl) ?y0_19 (by assumption) ?r0_19
        case y0_19 => (intro w hSw; (try dsimp only at hSw); first | (go_simp; done) | (go_simp; with_reducible rfl))
        try simp only [Act.put, List.setIfInBounds_toArray, List.set_cons_zero, List.set_cons_succ]
        refine wpAnyH_takeD (i := 1) (some 49) (v := ?v1_20) rfl rfl (by kernel_rfl) (by kernel_rfl) (by kernel_rfl) (fun _ _ _ h => h) (by rfl) ?y1_20 (by assumption) ?r1_20
        case y1_20 => (intro w hSw; (try dsimp only at hSw); first | (go_simp; done) | (go_simp; with_reducible rfl))
        try simp only [Act.put, List.setIfInBounds_toArray, List.set_cons_zero, List.set_cons_succ]
        refine wpAnyH_takeD (i := 2) (some 50) (v := ?v2_21) rfl rfl (by kernel_rfl) (by kernel_rfl) (by kernel_rfl) (fun _ _ _ h => h) (by rfl) ?y2_21 (by assumption) ?r2_21
        case y2_21 => (intro w hSw; (try dsimp only at hSw); first | (go_simp; done) | (go_simp; with_reducible rfl))
        try simp only [Act.put, List.setIfInBounds_toArray, List.set_cons_zero, List.set_cons_succ]
        refine wpAnyH_takeD (i := 3) (some 51) (v := ?v3_22) rfl rfl (by kernel_rfl) (by kernel_rfl) (by kernel_rfl) (fun _ _ _ h => h) (by rfl) ?y3_22 (by assumption) ?r3_22
        case y3_22 => (intro w hSw; (try dsimp only at hSw); first | (go_simp; done) | (go_simp; with_reducible rfl))
        try simp only [Act.put, List.setIfInBounds_toArray, List.set_cons_zero, List.set_cons_succ]
        refine wpAnyH_takeD (i := 4) (some 52) (v := ?v4_23) rfl rfl (by kernel_rfl) (by kernel_rfl) (by kernel_rfl) (fun _ _ _ h => h) (by rfl) ?y4_23 (by assumption) ?r4_23
        case y4_23 => (intro w hSw; (try dsimp only at hSw); first | (go_simp; done) | (go_simp; with_reducible rfl))
        try simp only [Act.put, List.setIfInBounds_toArray, List.set_cons_zero, List.set_cons_succ]
        refine wpAnyH_takeD (i := 5) (some 53) (v := ?v5_24) rfl rfl (by kernel_rfl) (by kernel_rfl) (by kernel_rfl) (fun _ _ _ h => h) (by rfl) ?y5_24 (by assumption) ?r5_24
        case y5_24 => (intro w hSw; (try dsimp only at hSw); first | (go_simp; done) | (go_simp; with_reducible rfl))
        try simp only [Act.put, List.setIfInBounds_toArray, List.set_cons_zero, List.set_cons_succ]
        refine wpAnyH_takeD (i := 6) (some 54) (v := ?v6_25) rfl rfl (by kernel_rfl) (by kernel_rfl) (by kernel_rfl) (fun _ _ _ h => h) (by rfl) ?y6_25 (by assumption) ?r6_25
        case y6_25 => (intro w hSw; (try dsimp only at hSw); first | (go_simp; done) | (go_simp; with_reducible rfl))
        try simp only [Act.put, List.setIfInBounds_toArray, List.set_cons_zero, List.set_cons_succ]
        refine wpAnyH_takeD (i := 7) (some 55) (v := ?v7_26) rfl rfl (by kernel_rfl) (by kernel_rfl) (by kernel_rfl) (fun _ _ _ h => h) (by rfl) ?y7_26 (by assumption) ?r7_26
        case y7_26 => (intro w hSw; (try dsimp only at hSw); first | (go_simp; done) | (go_simp; with_reducible rfl))
        try simp only [Act.put, List.setIfInBounds_toArray, List.set_cons_zero, List.set_cons_succ]
        refine wpAnyH_takeD (i := 8) (some 56) (v := ?v8_27) rfl rfl (by kernel_rfl) (by kernel_rfl) (by kernel_rfl) (fun _ _ _ h => h) (by rfl) ?y8_27 (by assumption) ?r8_27
        case y8_27 => (intro w hSw; (try dsimp only at hSw); first | (go_simp; done) | (go_simp; with_reducible rfl))
        try simp only [Act.put, List.setIfInBounds_toArray, List.set_cons_zero, List.set_cons_succ]
        refine wpAnyH_ready (rs := [9]) (by kernel_rfl) (by simp) ?_
        refine AllReadyH.cons rfl (fun K hK => ?_) ?_
        · go_simp
          go_at_call 69
          refine (cut_calls H10.out.drew mem0 HG1.out HG2.out HG3.out HPD.out).mono ?_
          rintro z w11 ⟨vq, rfl, h11⟩
          obtain ⟨qs, hqs⟩ : ∃ q, cutB p0.gen p0.rc d = q := ⟨_, rfl⟩
          have hql := cutB_len p0.gen p0.rc d
          rw [hqs] at h11 hql
          have HQS := hide hqs
          obtain ⟨bq, cq, hvq, _⟩ := h11.sl_form mem0
          subst hvq
          have hqI : (qs.length : Int) ≤ 255 := by have := HPD.out; omega
          have hq0 : 0 < qs.length := by rw [hql]; exact partsOf_pos _
          obtain ⟨gq, oq, hgq⟩ := h11.sl_base (E := partE) mem0 hq0 (by decide)
          subst hgq
          have H11 := hide h11
          clear h11 H10 hql hqs hq0
          refine hK.out _ _ ?_ (fun hHeld => ?_)
          · exact (by
            obtain ⟨bz, cz, hcz, hqz⟩ := H11.out.part_elem (up4 HM.out) HNE.out
            have hp00 := (List.getElem?_eq_some_iff.1 HP0.out).2
            rw [hp00] at hcz
            exact ⟨by have := hcz 0 _ rfl; simpa using this, by have := hcz 1 _ rfl; simpa using this⟩)
          clear hK K
          try simp only [Act.put, List.setIfInBounds_toArray, List.set_cons_zero, List.set_cons_succ]
          refine wpAnyH_takeD (i := 10) (some 47) (v := ?v10_28) rfl rfl (by kernel_rfl) (by kernel_rfl) (by kernel_rfl) (fun _ _ _ h => h) (by rfl) ?y10_28 (by assumption) ?r10_28
          case y10_28 => (intro w hSw; (try dsimp only at hSw); first | (go_simp; done) | (go_simp; with_reducible rfl))
          try simp only [Act.put, List.setIfInBounds_toArray, List.set_cons_zero, List.set_cons_succ]
          refine wpAnyH_takeD (i := 11) (some 58) (v := ?v11_29) rfl rfl (by kernel_rfl) (by kernel_rfl) (by kernel_rfl) (fun _ _ _ h => h) (by rfl) ?y11_29 (by assumption) ?r11_29
          case y11_29 => (intro w hSw; (try dsimp only at hSw); first | (go_simp; done) | (go_simp; with_reducible rfl))
          try simp only [Act.put, List.setIfInBounds_toArray, List.set_cons_zero, List.set_cons_succ]
          refine wpAnyH_takeD (i := 12) (some 59) (v := ?v12_30) rfl rfl (by kernel_rfl) (by kernel_rfl) (by kernel_rfl) (fun _ _ _ h => h) (by rfl) ?y12_30 (by assumption) ?r12_30
          case y12_30 => (intro w hSw; (try dsimp only at hSw); first | (go_simp; done) | (go_simp; with_reducible rfl))
          try simp only [Act.put, List.setIfInBounds_toArray, List.set_cons_zero, List.set_cons_succ]
          refine wpAnyH_takeD (i := 13) (some 9) (v := ?v13_31) rfl rfl (by kernel_rfl) (by kernel_rfl) (by kernel_rfl) (fun _ _ _ h => h) (by rfl) ?y13_31 (by assumption) ?r13_31
          case y13_31 => (intro w hSw; (try dsimp only at hSw); first | (go_simp; done) | (go_simp; with_reducible rfl))
          try simp only [Act.put, List.setIfInBounds_toArray, List.set_cons_zero, List.set_cons_succ]
          refine wpAnyH_takeD (i := 14) (some 10) (v := ?v14_32) rfl rfl (by kernel_rfl) (by kernel_rfl) (by kernel_rfl) (fun _ _ _ h => h) (by rfl) ?y14_32 (by assumption) ?r14_32
          case y14_32 => (intro w hSw; (try dsimp only at hSw); first | (go_simp; done) | (go_simp; with_reducible rfl))
          try simp only [Act.put, List.setIfInBounds_toArray, List.set_cons_zero, List.set_cons_succ]
          refine wpAnyH_done (by kernel_rfl) ?_ _
          by_cases hqe : qs.length = ps.length
          · have hqb : ((qs.length : Int) == (ps.length : Int)) = true := by rw [hqe]; simp
            have hqb2 : ((qs.length : Int) != (ps.length : Int)) = false := by rw [hqe]; simp
            have HQE := hide hqe
            clear hqe
            go_wp2_with fail
            go_loopw [71] (fun i wr => JoB b (HP.sl partE (.slice (some ⟨gq, oq, none⟩) qs.length cq) qs :: HP.sl byteE (.slice bD d.length cD) d :: L) ps qs i wr) (fun i _ => ps.length - (intOf i).toNat)
            case atStart => exact ⟨0, by omega, rfl, by simp, H11.out.d2.d2⟩
            case round =>
              obtain ⟨k, hk, rfl, htk, hs⟩ := hrel
              have H12 := hide hs
              have HTK := hide htk
              clear hs htk H11 HK0
              by_cases hlt : k < ps.length
              · have hlt' : (k : Int) < ps.length := by omega
                have hltq : k < qs.length := by rw [HQE.out]; exact hlt
                have hltq' : (k : Int) < qs.length := by omega
                obtain ⟨bd, cd, hcs, h13⟩ := H12.out.part_elem (up2 HM.out) hlt
                obtain ⟨be, ce, hct, h14⟩ := h13.part_elem mem2 hltq
                obtain ⟨p, hp⟩ : ∃ p, ps[k] = p := ⟨_, rfl⟩
                obtain ⟨q, hq⟩ : ∃ q, qs[k] = q := ⟨_, rfl⟩
                rw [hp] at hcs h14
                rw [hq] at hct h14
                have HPQ := hide (And.intro hp hq)
                have HCS := hide (And.intro hcs hct)
                have H14 := hide h14
                clear hcs hct h13 h14 hp hq
                by_cases hpq : p = q
                · have HS := hide ((sameR_iff p q).2 hpq)
                  have HQ := hide hpq
                  clear hpq
                  go_wp2_with fail
                  refine wp_region_held_drew (S := fun w' => (∀ j u, ([.int .i64 (p.gen : Nat), .int .i64 (p.rc : Nat), .int .i64 (p.n : Nat), .int .i64 (p.of : Nat), .slice bd p.data.length cd] : List Value)[j]? = some u → w'.cell? ⟨gp, op + k * 5 + j, none⟩ = some u) ∧ (∀ j u, ([.int .i64 (q.gen : Nat), .int .i64 (q.rc : Nat), .int .i64 (q.n : Nat), .int .i64 (q.of : Nat), .slice be q.data.length ce] : List Value)[j]? = some u → w'.cell? ⟨gq, oq + k * 5 + j, none⟩ = some u)) (by kernel_rfl) ?_ (fun hHeld => ?_)
                  · exact HCS.out
                  refine wpAnyH_takeD (i := 0) (some 74) (v := ?v0_1) rfl rfl (by kernel_rfl) (by kernel_rfl) (by kernel_rfl) (fun _ _ _ h => h) (by rfl) ?y0_1 (by assumption) ?r0_1
                  case y0_1 => (intro w hSw; (try dsimp only at hSw); first | (go_simp; done) | (go_simp; with_reducible rfl))
                  try simp only [Act.put, List.setIfInBounds_toArray, List.set_cons_zero, List.set_cons_succ]
                  refine wpAnyH_takeD (i := 1) (some 75) (v := ?v1_2) rfl rfl (by kernel_rfl) (by kernel_rfl) (by kernel_rfl) (fun _ _ _ h => h) (by rfl) ?y1_2 (by assumption) ?r1_2
                  case y1_2 => (intro w hSw; (try dsimp only at hSw); first | (go_simp; done) | (go_simp; with_reducible rfl))
                  try simp only [Act.put, List.setIfInBounds_toArray, List.set_cons_zero, List.set_cons_succ]
                  refine wpAnyH_takeD (i := 2) (some 76) (v := ?v2_3) rfl rfl (by kernel_rfl) (by kernel_rfl) (by kernel_rfl) (fun _ _ _ h => h) (by rfl) ?y2_3 (by assumption) ?r2_3
                  case y2_3 => (intro w hSw; (try dsimp only at hSw); first | (go_simp; done) | (go_simp; with_reducible rfl))
                  try simp only [Act.put, List.setIfInBounds_toArray, List.set_cons_zero, List.set_cons_succ]
                  refine wpAnyH_takeD (i := 3) (some 77) (v := .agg ([.int .i64 (p.gen : Nat), .int .i64 (p.rc : Nat), .int .i64 (p.n : Nat), .int .i64 (p.of : Nat), .slice bd p.data.length cd] : List Value).toArray) rfl rfl (by kernel_rfl) (by kernel_rfl) (by kernel_rfl) (fun _ _ _ h => h) (by rfl) ?y3_4 (by assumption) ?r3_4
                  case y3_4 => (intro w hSw; exact run_loadO agPart (.tmp 76) rfl rfl rfl hSw.1)
                  try simp only [Act.put, List.setIfInBounds_toArray, List.set_cons_zero, List.set_cons_succ]
                  refine wpAnyH_takeD (i := 4) (some 78) (v := ?v4_5) rfl rfl (by kernel_rfl) (by kernel_rfl) (by kernel_rfl) (fun _ _ _ h => h) (by rfl) ?y4_5 (by assumption) ?r4_5
                  case y4_5 => (intro w hSw; (try dsimp only at hSw); first | (go_simp; done) | (go_simp; with_reducible rfl))
                  try simp only [Act.put, List.setIfInBounds_toArray, List.set_cons_zero, List.set_cons_succ]
                  refine wpAnyH_takeD (i := 5) (some 79) (v := ?v5_6) rfl rfl (by kernel_rfl) (by kernel_rfl) (by kernel_rfl) (fun _ _ _ h => h) (by rfl) ?y5_6 (by assumption) ?r5_6
                  case y5_6 => (intro w hSw; (try dsimp only at hSw); first | (go_simp; done) | (go_simp; with_reducible rfl))
                  try simp only [Act.put, List.setIfInBounds_toArray, List.set_cons_zero, List.set_cons_succ]
                  refine wpAnyH_takeD (i := 6) (some 80) (v := ?v6_7) rfl rfl (by kernel_rfl) (by kernel_rfl) (by kernel_rfl) (fun _ _ _ h => h) (by rfl) ?y6_7 (by assumption) ?r6_7
                  case y6_7 => (intro w hSw; (try dsimp only at hSw); first | (go_simp; done) | (go_simp; with_reducible rfl))
                  try simp only [Act.put, List.setIfInBounds_toArray, List.set_cons_zero, List.set_cons_succ]
                  refine wpAnyH_takeD (i := 7) (some 81) (v := .agg ([.int .i64 (q.gen : Nat), .int .i64 (q.rc : Nat), .int .i64 (q.n : Nat), .int .i64 (q.of : Nat), .slice be q.data.length ce] : List Value).toArray) rfl rfl (by kernel_rfl) (by kernel_rfl) (by kernel_rfl) (fun _ _ _ h => h) (by rfl) ?y7_8 (by assumption) ?r7_8
                  case y7_8 => (intro w hSw; exact run_loadO agPart (.tmp 80) rfl rfl rfl hSw.2)
                  try simp only [Act.put, List.setIfInBounds_toArray, List.set_cons_zero, List.set_cons_succ]
                  refine wpAnyH_ready (rs := [8]) (by kernel_rfl) (by simp) ?_
                  refine AllReadyH.cons rfl (fun K hK => ?_) ?_
                  · go_simp
                    go_at_call 117
                    refine (same_calls (p := p) (q := q) H14.out.drew mem2 mem0).mono ?_
                    rintro z w15 ⟨rfl, h15⟩
                    rw [HS.out]
                    have H15 := hide h15
                    clear h15 H14
                    refine hK.out _ _ ?_ (fun hHeld => ?_)
                    · exact (by
                      obtain ⟨hp, hq⟩ := HPQ.out
                      refine ⟨fun j u hj => ?_, fun j u hj => ?_⟩
                      · exact H15.out.elem_cell mem3 j hj
                      · exact H15.out.elem_cell mem1 j hj)
                    clear hK K
                    try simp only [Act.put, List.setIfInBounds_toArray, List.set_cons_zero, List.set_cons_succ]
                    refine wpAnyH_takeD (i := 9) (some 83) (v := ?v9_9) rfl rfl (by kernel_rfl) (by kernel_rfl) (by kernel_rfl) (fun _ _ _ h => h) (by rfl) ?y9_9 (by assumption) ?r9_9
                    case y9_9 => (intro w hSw; (try dsimp only at hSw); first | (go_simp; done) | (go_simp; with_reducible rfl))
                    try simp only [Act.put, List.setIfInBounds_toArray, List.set_cons_zero, List.set_cons_succ]
                    refine wpAnyH_done (by kernel_rfl) ?_ _
                    go_wp2_with fail
                    go_roundw
                    case rel => exact ⟨k + 1, by omega, by go_num, by rw [List.take_succ_eq_append_getElem hlt, List.take_succ_eq_append_getElem hltq, HTK.out, HPQ.out.1, HPQ.out.2, HQ.out], H15.out.drop.drop.drop.drop⟩
                    case measure => exact meas_step hlt
                  exact AllReadyH.nil
                · have HS : Hid (sameR p q = false) := hide (by cases h : sameR p q with | false => rfl | true => exact absurd ((sameR_iff p q).1 h) hpq)
                  have HQ := hide hpq
                  clear hpq
                  go_wp2_with fail
                  refine wp_region_held_drew (S := fun w' => (∀ j u, ([.int .i64 (p.gen : Nat), .int .i64 (p.rc : Nat), .int .i64 (p.n : Nat), .int .i64 (p.of : Nat), .slice bd p.data.length cd] : List Value)[j]? = some u → w'.cell? ⟨gp, op + k * 5 + j, none⟩ = some u) ∧ (∀ j u, ([.int .i64 (q.gen : Nat), .int .i64 (q.rc : Nat), .int .i64 (q.n : Nat), .int .i64 (q.of : Nat), .slice be q.data.length ce] : List Value)[j]? = some u → w'.cell? ⟨gq, oq + k * 5 + j, none⟩ = some u)) (by kernel_rfl) ?_ (fun hHeld => ?_)
                  · exact HCS.out
                  refine wpAnyH_takeD (i := 0) (some 74) (v := ?v0_10) rfl rfl (by kernel_rfl) (by kernel_rfl) (by kernel_rfl) (fun _ _ _ h => h) (by rfl) ?y0_10 (by assumption) ?r0_10
                  case y0_10 => (intro w hSw; (try dsimp only at hSw); first | (go_simp; done) | (go_simp; with_reducible rfl))
                  try simp only [Act.put, List.setIfInBounds_toArray, List.set_cons_zero, List.set_cons_succ]
                  refine wpAnyH_takeD (i := 1) (some 75) (v := ?v1_11) rfl rfl (by kernel_rfl) (by kernel_rfl) (by kernel_rfl) (fun _ _ _ h => h) (by rfl) ?y1_11 (by assumption) ?r1_11
                  case y1_11 => (intro w hSw; (try dsimp only at hSw); first | (go_simp; done) | (go_simp; with_reducible rfl))
                  try simp only [Act.put, List.setIfInBounds_toArray, List.set_cons_zero, List.set_cons_succ]
                  refine wpAnyH_takeD (i := 2) (some 76) (v := ?v2_12) rfl rfl (by kernel_rfl) (by kernel_rfl) (by kernel_rfl) (fun _ _ _ h => h) (by rfl) ?y2_12 (by assumption) ?r2_12
                  case y2_12 => (intro w hSw; (try dsimp only at hSw); first | (go_simp; done) | (go_simp; with_reducible rfl))
                  try simp only [Act.put, List.setIfInBounds_toArray, List.set_cons_zero, List.set_cons_succ]
                  refine wpAnyH_takeD (i := 3) (some 77) (v := .agg ([.int .i64 (p.gen : Nat), .int .i64 (p.rc : Nat), .int .i64 (p.n : Nat), .int .i64 (p.of : Nat), .slice bd p.data.length cd] : List Value).toArray) rfl rfl (by kernel_rfl) (by kernel_rfl) (by kernel_rfl) (fun _ _ _ h => h) (by rfl) ?y3_13 (by assumption) ?r3_13
                  case y3_13 => (intro w hSw; exact run_loadO agPart (.tmp 76) rfl rfl rfl hSw.1)
                  try simp only [Act.put, List.setIfInBounds_toArray, List.set_cons_zero, List.set_cons_succ]
                  refine wpAnyH_takeD (i := 4) (some 78) (v := ?v4_14) rfl rfl (by kernel_rfl) (by kernel_rfl) (by kernel_rfl) (fun _ _ _ h => h) (by rfl) ?y4_14 (by assumption) ?r4_14
                  case y4_14 => (intro w hSw; (try dsimp only at hSw); first | (go_simp; done) | (go_simp; with_reducible rfl))
                  try simp only [Act.put, List.setIfInBounds_toArray, List.set_cons_zero, List.set_cons_succ]
                  refine wpAnyH_takeD (i := 5) (some 79) (v := ?v5_15) rfl rfl (by kernel_rfl) (by kernel_rfl) (by kernel_rfl) (fun _ _ _ h => h) (by rfl) ?y5_15 (by assumption) ?r5_15
                  case y5_15 => (intro w hSw; (try dsimp only at hSw); first | (go_simp; done) | (go_simp; with_reducible rfl))
                  try simp only [Act.put, List.setIfInBounds_toArray, List.set_cons_zero, List.set_cons_succ]
                  refine wpAnyH_takeD (i := 6) (some 80) (v := ?v6_16) rfl rfl (by kernel_rfl) (by kernel_rfl) (by kernel_rfl) (fun _ _ _ h => h) (by rfl) ?y6_16 (by assumption) ?r6_16
                  case y6_16 => (intro w hSw; (try dsimp only at hSw); first | (go_simp; done) | (go_simp; with_reducible rfl))
                  try simp only [Act.put, List.setIfInBounds_toArray, List.set_cons_zero, List.set_cons_succ]
                  refine wpAnyH_takeD (i := 7) (some 81) (v := .agg ([.int .i64 (q.gen : Nat), .int .i64 (q.rc : Nat), .int .i64 (q.n : Nat), .int .i64 (q.of : Nat), .slice be q.data.length ce] : List Value).toArray) rfl rfl (by kernel_rfl) (by kernel_rfl) (by kernel_rfl) (fun _ _ _ h => h) (by rfl) ?y7_17 (by assumption) ?r7_17
                  case y7_17 => (intro w hSw; exact run_loadO agPart (.tmp 80) rfl rfl rfl hSw.2)
                  try simp only [Act.put, List.setIfInBounds_toArray, List.set_cons_zero, List.set_cons_succ]
                  refine wpAnyH_ready (rs := [8]) (by kernel_rfl) (by simp) ?_
                  refine AllReadyH.cons rfl (fun K hK => ?_) ?_
                  · go_simp
                    go_at_call 117
                    refine (same_calls (p := p) (q := q) H14.out.drew mem2 mem0).mono ?_
                    rintro z w15 ⟨rfl, h15⟩
                    rw [HS.out]
                    have H15 := hide h15
                    clear h15 H14
                    refine hK.out _ _ ?_ (fun hHeld => ?_)
                    · exact (by
                      obtain ⟨hp, hq⟩ := HPQ.out
                      refine ⟨fun j u hj => ?_, fun j u hj => ?_⟩
                      · exact H15.out.elem_cell mem3 j hj
                      · exact H15.out.elem_cell mem1 j hj)
                    clear hK K
                    try simp only [Act.put, List.setIfInBounds_toArray, List.set_cons_zero, List.set_cons_succ]
                    refine wpAnyH_takeD (i := 9) (some 83) (v := ?v9_18) rfl rfl (by kernel_rfl) (by kernel_rfl) (by kernel_rfl) (fun _ _ _ h => h) (by rfl) ?y9_18 (by assumption) ?r9_18
                    case y9_18 => (intro w hSw; (try dsimp only at hSw); first | (go_simp; done) | (go_simp; with_reducible rfl))
                    try simp only [Act.put, List.setIfInBounds_toArray, List.set_cons_zero, List.set_cons_succ]
                    refine wpAnyH_done (by kernel_rfl) ?_ _
                    have hnone := (hJ.out none).2 (if_neg (fun q2 => HQ.out (by rw [← HPQ.out.1, ← HPQ.out.2]; have e := HQS.out.symm.trans q2.2; subst e; rfl)))
                    have HNO := hide hnone
                    clear hnone
                    go_wp2_with fail
                    go_ret2
                    exact Or.inr ⟨HNO.out, rfl, H15.out.drop.drop.drop.drop.drop.drop⟩
                  exact AllReadyH.nil
              · have hkl : k = ps.length := by omega
                have hall := HTK.out
                rw [hkl] at hall
                have hpq : ps = qs := eq_of_takes HQE.out.symm hall
                have hsome := (hJ.out (some d)).2 (if_pos ⟨hmA, by rw [HQS.out, ← hpq]⟩)
                have HSO := hide hsome
                have hnlt : ¬ (k : Int) < ps.length := by omega
                clear hpq hsome hall hkl
                go_wp2_with fail
                go_ret2
                exact Or.inl ⟨d, HSO.out, _, rfl, H12.out.drop⟩
          · have hqb : ((qs.length : Int) == (ps.length : Int)) = false := by rw [beq_eq_false_iff_ne]; omega
            have hnone := (hJ.out none).2 (if_neg (fun q => hqe (by rw [← HQS.out, q.2])))
            have HNO := hide hnone
            clear hnone hqe
            go_wp2_with fail
            go_ret2
            exact Or.inr ⟨HNO.out, rfl, H11.out.drop.drop.drop.drop⟩
        exact AllReadyH.nil
      · have hmA2 : (A.length : Int) - 4 < (m : Int) := by omega
        have hnone := (hjb none).2 (if_neg (fun q => hmA q.1))
        have HNO := hide hnone
        have HTD : Hid (∀ j (h : j < (A.take 4).length), wr.cell? ⟨ga, 0 + j, none⟩ = some (B8 (A.take 4)[j])) := hide (fun j hj => by
          have hj2 : j < A.length := by rw [HT4.out] at hj; omega
          rw [(H3.out.sc_at mem0 hj2).1]; simp)
        clear hjb hnone hmA H1
        go_wp2_with (first
          | (go_at_call 115; refine (told_n HT4.out HTD.out (by decide)).mono ?_; rintro z w9 ⟨rfl, hw9⟩; subst hw9; rw [HM0.out]))
        go_ret2
        exact Or.inr ⟨HNO.out, rfl, H3.out.drop⟩
end Go.Proofs.YtcgnkloljfgiaaaGreatDoor
