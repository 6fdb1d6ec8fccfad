/-
  deadboltref8: led, All.
-/
import Derived.Test.YtmebmgbjpbapjaaG2
import Derived.Test.YtmebmgbjpbapjaaGd
namespace Go.Proofs.Ytmebmgbjpbapjaa
open Go.RowKit Go.Maps Go.MapKept
variable {b : Env} {L : List HP} {w : World}

def edgesN (es : List (Str × Str)) (x : Str) : List Str := (es.filter (fun e => e.1 == x)).map (·.2)
theorem edgesN_mem {es : List (Str × Str)} {x y : Str} : y ∈ edgesN es x ↔ (x, y) ∈ es := by
  simp only [edgesN, List.mem_map, List.mem_filter, beq_iff_eq]
  constructor
  · rintro ⟨⟨a, c⟩, ⟨h1, h2⟩, h3⟩; simp only at h2 h3; rw [← h2, ← h3]; exact h1
  · intro h; exact ⟨(x, y), ⟨h, rfl⟩, rfl⟩

theorem St.pair_at {g o n cap k : Nat} {es : List (Str × Str)} (h : St b L w) (hm : HP.sl pairE (.slice (some ⟨g, o, none⟩) n cap) es ∈ L) (hk : k < es.length) :
    w.cell? ⟨g, o + k * 2, none⟩ = some (.string ⟨es[k].1.toArray⟩) ∧ w.cell? ⟨g, o + k * 2 + 1, none⟩ = some (.string ⟨es[k].2.toArray⟩) ∧ okStr es[k].1 ∧ okStr es[k].2 := by
  obtain ⟨cs, h1⟩ := h.elem hm (List.getElem?_eq_getElem hk) (by decide)
  obtain ⟨_, _, _, hr⟩ := h1.elem_rd mem0
  have hcs : cs = [sv es[k].1, sv es[k].2] ∧ okStr es[k].1 ∧ okStr es[k].2 := hr
  obtain ⟨rfl, h2, h3⟩ := hcs
  exact ⟨h1.elem_cell mem0 0 rfl, h1.elem_cell mem0 1 rfl, h2, h3⟩

structure LP (es : List (Str × Str)) (s : Str) (out : List Str) : Prop where
  frm : s ∈ out
  rch : ∀ x ∈ out, Rch (edgesN es) s x
  nd : out.Nodup
  sub : ∀ x ∈ out, x = s ∨ x ∈ es.map (·.2)
theorem LP.len {es : List (Str × Str)} {s : Str} {out : List Str} (h : LP es s out) : out.length ≤ es.length + 1 := by
  have key : ∀ (l m : List Str), l.Nodup → (∀ x ∈ l, x ∈ m) → l.length ≤ m.length := by
    intro l
    induction l with
    | nil => intros; simp
    | cons a l ih =>
      intro m hnd hsub
      rw [List.nodup_cons] at hnd
      have ha : a ∈ m := hsub a (by simp)
      have := ih (m.erase a) hnd.2 (fun x hx => by
        have hxa : x ≠ a := fun e => hnd.1 (by rw [← e]; exact hx)
        exact (List.mem_erase_of_ne hxa).2 (hsub x (by simp [hx])))
      rw [List.length_erase_of_mem ha] at this
      have : 0 < m.length := List.length_pos_of_mem ha
      simp; omega
  have := key out (s :: es.map (·.2)) h.nd (fun x hx => by rcases h.sub x hx with rfl | hx <;> simp_all)
  simpa using this
theorem LP.start (es : List (Str × Str)) (s : Str) : LP es s [s] := ⟨by simp, by simp [Rch.refl], by simp, by simp⟩
theorem LP.push {es : List (Str × Str)} {s : Str} {out : List Str} (h : LP es s out) {k : Nat} (hk : k < es.length) (h1 : es[k].1 ∈ out) (h2 : es[k].2 ∉ out) : LP es s (out ++ [es[k].2]) := by
  refine ⟨List.mem_append_left _ h.frm, fun x hx => ?_, ?_, fun x hx => ?_⟩
  · rcases List.mem_append.1 hx with hx | hx
    · exact h.rch x hx
    · simp at hx; subst hx; exact (h.rch _ h1).step (edgesN_mem.2 (List.getElem_mem hk))
  · rw [List.nodup_append]; refine ⟨h.nd, by simp, fun a ha c hc => ?_⟩
    simp at hc; subst hc; rintro rfl; exact h2 ha
  · rcases List.mem_append.1 hx with hx | hx
    · exact h.sub x hx
    · simp at hx; subst hx; exact Or.inr (List.mem_map.2 ⟨es[k], List.getElem_mem hk, rfl⟩)
theorem LP.done {es : List (Str × Str)} {s : Str} {out : List Str} (h : LP es s out) (hc : ∀ e ∈ es, e.1 ∈ out → e.2 ∈ out) (x : Str) : x ∈ out ↔ Rch (edgesN es) s x :=
  ⟨h.rch x, fun hx => hx (fun y => y ∈ out) h.frm (fun y hy z hz => hc (y, z) (edgesN_mem.1 hz) hy)⟩

def RLedO (b : Env) (L : List HP) (es : List (Str × Str)) (s : Str) (g : Nat) (v5 v6 : Value) (wr : World) : Prop :=
  ∃ (out : List Str) (ag : Bool), LP es s out ∧ (ag = false → ∀ e ∈ es, e.1 ∈ out → e.2 ∈ out) ∧ (ag = true → es.length + 2 - out.length ≤ g) ∧ v6 = .bool ag ∧ ∃ base cap, v5 = .slice base out.length cap ∧ St b (HP.rows 9 strE v5 out :: L) wr
def RLedI (b : Env) (L : List HP) (es : List (Str × Str)) (s : Str) (n0 : Nat) (v5 v6 v7 : Value) (wr : World) : Prop :=
  ∃ (out : List Str) (ag : Bool) (k : Nat), LP es s out ∧ (ag = false → ∀ e ∈ es.take k, e.1 ∈ out → e.2 ∈ out) ∧ n0 ≤ out.length ∧ (ag = true → n0 < out.length) ∧ k ≤ es.length ∧ v7 = .int .i64 k ∧ v6 = .bool ag ∧ ∃ base cap, v5 = .slice base out.length cap ∧ St b (HP.rows 9 strE v5 out :: L) wr

theorem rled_take {es : List (Str × Str)} {out : List Str} {k : Nat} (hk : k < es.length) (h : ∀ e ∈ es.take k, e.1 ∈ out → e.2 ∈ out) (h2 : es[k].1 ∈ out → es[k].2 ∈ out) : ∀ e ∈ es.take (k + 1), e.1 ∈ out → e.2 ∈ out := by
  intro e he
  rw [List.take_succ_eq_append_getElem hk, List.mem_append] at he
  rcases he with he | he
  · exact h e he
  · simp at he; subst he; exact h2

set_option maxRecDepth 100000 in
set_option maxHeartbeats 2000000 in
theorem rled_calls (h : St b L w) {v : Value} {es : List (Str × Str)} (hm : HP.sl pairE v es ∈ L) (s : Str) (hs : okStr s) (hl : es.length ≤ 100000) : Calls Try.prog 40 #[sv s, v] w fun x w' => ∃ v' out, x = .returned v' ∧ (∀ y, y ∈ out ↔ Rch (edgesN es) s y) ∧ out.length ≤ es.length + 1 ∧ St b (HP.sl strE v' out :: L) w' := by
  obtain ⟨base, cap, rfl, hc1, hc2⟩ := h.sl_form hm
  have H := hide h
  have HM := hide hm
  have HS := hide hs
  clear h hm hc2 hs
  go_enter Try.func40, Try.ntmps40
  go_wp2_with (refine wpList_build1_st (E := strE) rfl (.tmp 8) slStr rfl s rfl H.out ?_ ?_; exact (fun _ _ _ => ⟨rfl, HS.out⟩); intro g3 w3 h3; have H3 := hide h3; clear h3 H)
  go_loopg [5, 6] (es.length + 1) (fun g v5 v6 wr => RLedO b L es s g v5 v6 wr)
  case atStart => exact ⟨[s], true, LP.start es s, by simp, by simp, rfl, _, _, rfl, H3.out⟩
  case round =>
    obtain ⟨out, ag, hp, hcl, hg, rfl, b5, c5, rfl, hs⟩ := hrel
    have H4 := hide hs
    have HP4 := hide hp
    have HCL := hide hcl
    clear hs hp hcl H3
    cases ag with
    | false =>
      have HF := hide H4.out.persist
      have HD := hide (HP4.out.done (HCL.out rfl))
      have hle := HP4.out.len
      clear H4
      go_wp2_with fail
      go_ret
      first | exact ⟨_, out, rfl, HD.out, hle, HF.out⟩ | exact ⟨_, rfl, out, HD.out, hle, HF.out⟩
    | true =>
      have hg2 := hg rfl
      have hle := HP4.out.len
      clear hg
      go_wp2_with fail
      go_loopw [5, 6, 7] (fun v5 v6 v7 wr => RLedI b L es s out.length v5 v6 v7 wr) (fun _ _ i _ => es.length - (intOf i).toNat)
      case atStart => exact ⟨out, false, 0, HP4.out, by simp, by omega, by simp, by omega, rfl, rfl, _, _, rfl, H4.out⟩
      case round =>
        obtain ⟨out', ag', k, hp', hcl', hn0, hn1, hk, rfl, rfl, b6, c6, rfl, hs⟩ := hrel
        have H5 := hide hs
        have HP5 := hide hp'
        have HCL5 := hide hcl'
        have HN1 := hide hn1
        have hle' := hp'.len
        clear hs hp' hcl' hn1 H4 HP4 HCL
        by_cases hlt : k < es.length
        · obtain ⟨ge, oe, hge⟩ := H5.out.sl_base (up1 HM.out) (by omega) (by decide)
          subst hge
          obtain ⟨hc0, hc01, hok1, hok2⟩ := H5.out.pair_at (up1 HM.out) hlt
          have HOK2 := hide hok2
          have HPU := hide (fun h1 h2 => HP5.out.push hlt h1 h2)
          have HTK := hide (fun (h : ∀ e ∈ es.take k, e.1 ∈ out' → e.2 ∈ out') h2 => rled_take hlt h h2)
          generalize es[k] = x at hc0 hc01 HOK2 HPU HTK
          obtain ⟨x1, x2⟩ := x
          dsimp only at hc0 hc01 HOK2 HPU HTK
          clear hok1 hok2
          by_cases h1 : x1 ∈ out'
          · by_cases h2 : x2 ∈ out'
            · have D1 := hide (decide_eq_true h1)
              have D2 := hide (decide_eq_true h2)
              have HI2 := hide h2
              clear h1 h2
              go_wp2_with (go_at_call 17; refine (in_calls H5.out (Reads.of_rows mem0) _).mono ?_; rintro x w1 ⟨rfl, rfl⟩; (first | rw [D1.out] | rw [D2.out]))
              go_roundw
              case rel => exact ⟨out', ag', k + 1, HP5.out, fun ha => HTK.out (HCL5.out ha) (fun _ => HI2.out), hn0, HN1.out, by omega, by go_num, rfl, _, _, rfl, H5.out⟩
              case measure => simp [intOf]; omega
            · have D1 := hide (decide_eq_true h1)
              have D2 := hide (decide_eq_false h2)
              have HI := hide (HPU.out h1 h2)
              clear h1 h2
              go_wp2_with (first
                | (go_at_call 17; refine (in_calls H5.out (Reads.of_rows mem0) _).mono ?_; rintro x w1 ⟨rfl, rfl⟩; (first | rw [D1.out] | rw [D2.out]))
                | (refine wpList_build1_st (E := strE) rfl (.tmp 39) slStr rfl x2 rfl H5.out ?_ ?_; exact (fun _ _ _ => ⟨rfl, HOK2.out⟩); intro g9 w9 h9; have H9 := hide h9.f1; clear h9 H5)
                | (at_builtin; refine wpList_append_st rfl (.tmp 34) (.tmp 40) slStr rfl H9.out (Src.of_rows mem1) rfl rfl ?_ ?_ ?_; (simp; unfold maxLen; omega); (simp; omega); intro vb3 n3 vc3 w10 hn3 h10; have H10 := hide h10.d1; have HN3 := hide hn3; clear h10 H9 hn3))
              go_roundw
              case rel => exact ⟨out' ++ [x2], true, k + 1, HI.out, by simp, by simp; omega, by simp; omega, by omega, by go_num, rfl, vb3, vc3, by rw [HN3.out]; simp, H10.out⟩
              case measure => simp [intOf]; omega
          · have D1 := hide (decide_eq_false h1)
            have HI1 := hide h1
            clear h1
            go_wp2_with (go_at_call 17; refine (in_calls H5.out (Reads.of_rows mem0) _).mono ?_; rintro x w1 ⟨rfl, rfl⟩; rw [D1.out])
            go_roundw
            case rel => exact ⟨out', ag', k + 1, HP5.out, fun ha => HTK.out (HCL5.out ha) (fun hh => absurd hh HI1.out), hn0, HN1.out, by omega, by go_num, rfl, _, _, rfl, H5.out⟩
            case measure => simp [intOf]; omega
        · have hall : ag' = false → ∀ e ∈ es, e.1 ∈ out' → e.2 ∈ out' := fun ha => by
            have := HCL5.out ha
            rw [List.take_of_length_le (by omega)] at this
            exact this
          have HALL := hide hall
          clear hall
          go_wp2_with fail
          go_roundg (if ag' = true then es.length + 2 - out'.length else 0)
          case measure =>
            by_cases ha : ag' = true
            · have := HN1.out ha; rw [if_pos ha]; omega
            · rw [if_neg ha]; omega
          case rel => exact ⟨out', ag', HP5.out, HALL.out, fun ha => by rw [if_pos ha]; omega, rfl, _, _, rfl, H5.out⟩
end Go.Proofs.Ytmebmgbjpbapjaa
