/-
  package graph: the closure of Order. No program in sight: parts in an order, each behind all that it leads to. No program in sight: 'append(s[:i], s[j:]...)' of an owned slice; 'clear' of what is behind it. slices.Delete, Clone, IndexFunc, as package graph's Order uses them. package graph: Parts, what it returns owned. package graph: Order. deadboltref8: named, Calls, Spawns. No program in sight: what is asked of an order of parts.
-/
import Derived.Test.YtmebmgbjpbapjaaPp
import Derived.Test.YtmebmgbjpbapjaaGb
import Derived.Test.YtmebmgbjpbapjaaGe2
import Derived.Test.YtmebmgbjpbapjaaGy
import Derived.Test.YtmebmgbjpbapjaaP9
import Derived.Lib.SliceRun
import Derived.Test.YtmebmgbjpbapjaaGqd
import Derived.Lib.LazyBuf
namespace Go.Proofs.Ytmebmgbjpbapjaa
open Go.RowKit Go.Maps Go.MapKept
variable {b : Env} {L : List HP} {w : World}

/-- An edge does not bar a part. -/
def okE (dn : List (Str × Bool)) (P : List Str) (e : Str × Str) : Bool := !(decide (e.1 ∈ P) && !has dn e.2 && !decide (e.2 ∈ P))
def readyR (es : List (Str × Str)) (dn : List (Str × Bool)) (P : List Str) : Bool := es.all (okE dn P)
theorem ready_take {es : List (Str × Str)} {dn : List (Str × Bool)} {P : List Str} {k : Nat} (hk : k < es.length) {e : Str × Str} (he : es[k] = e) (h : (es.take k).all (okE dn P) = true) (ho : okE dn P e = true) : (es.take (k + 1)).all (okE dn P) = true := by
  rw [List.take_succ_eq_append_getElem hk, he, List.all_append, h]; simp [ho]
theorem ready_not {es : List (Str × Str)} {dn : List (Str × Bool)} {P : List Str} {k : Nat} (hk : k < es.length) {e : Str × Str} (he : es[k] = e) (ho : okE dn P e = false) : readyR es dn P = false := by
  unfold readyR
  rw [← Bool.not_eq_true, List.all_eq_true]
  intro h
  have := h e (by rw [← he]; exact List.getElem_mem hk)
  rw [ho] at this; cases this

def RdyAt (b : Env) (L : List HP) (es : List (Str × Str)) (dn : List (Str × Bool)) (P : List Str) (i : Value) (wr : World) : Prop := ∃ k : Nat, k ≤ es.length ∧ i = .int .i64 k ∧ (es.take k).all (okE dn P) = true ∧ St b L wr

set_option maxRecDepth 100000 in
set_option maxHeartbeats 4000000 in
theorem order1_calls (h : St b L w) {vP ve : Value} {P : List Str} {es : List (Str × Str)} {g4 g10 md : Nat} {dn : List (Str × Bool)} (hP : Reads strE L vP P) (h4 : HP.blk g4 (.cells #[ve] 25) ∈ L) (he : HP.sl pairE ve es ∈ L) (h10 : HP.blk g10 (.cells #[.map (some md)] 66) ∈ L) (hd : HP.set md dn ∈ L) :
    Calls Try.prog 46 #[vP, .pointer (some ⟨g4, 0, none⟩), .pointer (some ⟨g10, 0, none⟩)] w fun x w' => x = .returned (.bool (readyR es dn P)) ∧ St b L w' := by
  obtain ⟨be, ce, rfl, _, hce⟩ := h.sl_form he
  have hel : (es.length : Int) ≤ 9223372036854775807 := by unfold maxLen at hce; omega
  have c4 : w.cell? ⟨g4, 0, none⟩ = some (.slice be es.length ce) := h.blk_cell h4 0
  have H := hide h
  have HP' := hide hP
  have H10' := hide h10
  have HE := hide he
  have HD := hide hd
  clear h hP h4 h10 he hd hce
  go_enter Try.func46, Try.ntmps46
  go_wp2_with fail
  go_loopw [9] (fun i wr => RdyAt b L es dn P i wr) (fun i _ => es.length - (intOf i).toNat)
  case atStart => exact ⟨0, by omega, rfl, rfl, H.out⟩
  case round =>
    obtain ⟨k, hk, rfl, hall, hs⟩ := hrel
    have H1 := hide hs
    have HAL := hide hall
    clear hs hall H c4
    by_cases hlt : k < es.length
    · have hlt' : (k : Int) < es.length := by omega
      obtain ⟨ge, oe, hge⟩ := H1.out.sl_base HE.out (by omega) (by decide)
      subst hge
      obtain ⟨p1, p2, ok1, ok2⟩ := H1.out.pair_at HE.out hlt
      obtain ⟨x, hx⟩ : ∃ x, es[k] = x := ⟨_, rfl⟩
      rw [hx] at p1 p2 ok1 ok2
      have HX := hide hx
      obtain ⟨x1, x2⟩ := x
      dsimp only at p1 p2 ok1 ok2
      have HCS : Hid (∀ j u, [sv x1, sv x2][j]? = some u → wr.cell? ⟨ge, oe + k * 2 + j, none⟩ = some u) := hide (fun j u hj => by
        match j, hj with
        | 0, hj => cases hj; exact p1
        | 1, hj => cases hj; exact p2)
      have HONE : Hid (∀ v ∈ [sv x1, sv x2], v.oneCell' = true) := hide (by simp [Value.oneCell'])
      have HO2 := hide ok2
      clear hx p1 p2 ok1 ok2
      cases d1 : decide (x1 ∈ P) with
      | false =>
        have HK : Hid (okE dn P (x1, x2) = true) := hide (by unfold okE; rw [d1]; rfl)
        have D1 := hide d1
        clear d1
        go_wp2_with (first
          | (with_reducible refine wpList_load_ag (cs := [sv x1, sv x2]) rfl agPair (.tmp 11) rfl rfl rfl HCS.out ?_)
          | ((with_reducible refine wpList_alloc_ag rfl agPair rfl H1.out ?_); intro g9 w9 h9; have H9 := hide h9; clear h9 H1)
          | ((with_reducible refine wpList_store_ag (cs := [sv x1, sv x2]) rfl agPair (.tmp 6) (.tmp 12) rfl rfl rfl rfl rfl HONE.out H9.out ?_); intro w10 h11; have e0 : w10.cell? ⟨g9, 0, none⟩ = some (.string ⟨x1.toArray⟩) := h11.blk_cell mem0 0; have H11 := hide h11.drop; clear h11 H9)
          | (go_at_call 47; refine (contains_calls H11.out HP'.out x1).mono ?_; rintro z w12 ⟨rfl, rfl⟩; rw [D1.out]))
        go_roundw
        case rel => exact ⟨k + 1, by omega, by go_num, ready_take hlt HX.out HAL.out HK.out, H11.out⟩
        case measure => exact meas_step hlt
      | true =>
        cases d2 : has dn x2 with
        | true =>
          have HK : Hid (okE dn P (x1, x2) = true) := hide (by unfold okE; rw [d1, d2]; rfl)
          have D1 := hide d1
          have D2 := hide d2
          clear d1 d2
          go_wp2_with (first
            | (with_reducible refine wpList_load_ag (cs := [sv x1, sv x2]) rfl agPair (.tmp 11) rfl rfl rfl HCS.out ?_)
            | ((with_reducible refine wpList_alloc_ag rfl agPair rfl H1.out ?_); intro g9 w9 h9; have H9 := hide h9; clear h9 H1)
            | ((with_reducible refine wpList_store_ag (cs := [sv x1, sv x2]) rfl agPair (.tmp 6) (.tmp 12) rfl rfl rfl rfl rfl HONE.out H9.out ?_); intro w10 h11; have e0 : w10.cell? ⟨g9, 0, none⟩ = some (.string ⟨x1.toArray⟩) := h11.blk_cell mem0 0; have e1 : w10.cell? ⟨g9, 1, none⟩ = some (.string ⟨x2.toArray⟩) := h11.blk_cell mem0 1; have l2 := h11.set_lookup (up1 HD.out) x2 HO2.out; rw [D2.out] at l2; have cm : w10.cell? ⟨g10, 0, none⟩ = some (.map (some md)) := h11.blk_cell (up1 H10'.out) 0; have H11 := hide h11.drop; clear h11 H9)
            | (go_at_call 47; refine (contains_calls H11.out HP'.out x1).mono ?_; rintro z w12 ⟨rfl, rfl⟩; rw [D1.out]))
          go_roundw
          case rel => exact ⟨k + 1, by omega, by go_num, ready_take hlt HX.out HAL.out HK.out, H11.out⟩
          case measure => exact meas_step hlt
        | false =>
          cases d3 : decide (x2 ∈ P) with
          | true =>
            have HK : Hid (okE dn P (x1, x2) = true) := hide (by unfold okE; rw [d1, d2, d3]; rfl)
            have D1 := hide d1
            have D2 := hide d2
            have D3 := hide d3
            clear d1 d2 d3
            go_wp2_with (first
              | (with_reducible refine wpList_load_ag (cs := [sv x1, sv x2]) rfl agPair (.tmp 11) rfl rfl rfl HCS.out ?_)
              | ((with_reducible refine wpList_alloc_ag rfl agPair rfl H1.out ?_); intro g9 w9 h9; have H9 := hide h9; clear h9 H1)
              | ((with_reducible refine wpList_store_ag (cs := [sv x1, sv x2]) rfl agPair (.tmp 6) (.tmp 12) rfl rfl rfl rfl rfl HONE.out H9.out ?_); intro w10 h11; have e0 : w10.cell? ⟨g9, 0, none⟩ = some (.string ⟨x1.toArray⟩) := h11.blk_cell mem0 0; have e1 : w10.cell? ⟨g9, 1, none⟩ = some (.string ⟨x2.toArray⟩) := h11.blk_cell mem0 1; have l2 := h11.set_lookup (up1 HD.out) x2 HO2.out; rw [D2.out] at l2; have cm : w10.cell? ⟨g10, 0, none⟩ = some (.map (some md)) := h11.blk_cell (up1 H10'.out) 0; have H11 := hide h11.drop; have U1 := hide True.intro; clear h11 H9)
              | (go_at_call 47; clear U1; refine (contains_calls H11.out HP'.out x1).mono ?_; rintro z w12 ⟨rfl, rfl⟩; rw [D1.out])
              | (go_at_call 47; refine (contains_calls H11.out HP'.out x2).mono ?_; rintro z w12 ⟨rfl, rfl⟩; rw [D3.out]))
            go_roundw
            case rel => exact ⟨k + 1, by omega, by go_num, ready_take hlt HX.out HAL.out HK.out, H11.out⟩
            case measure => exact meas_step hlt
          | false =>
            have HK : Hid (readyR es dn P = false) := hide (ready_not hlt HX.out (by unfold okE; rw [d1, d2, d3]; rfl))
            have D1 := hide d1
            have D2 := hide d2
            have D3 := hide d3
            clear d1 d2 d3
            go_wp2_with (first
              | (with_reducible refine wpList_load_ag (cs := [sv x1, sv x2]) rfl agPair (.tmp 11) rfl rfl rfl HCS.out ?_)
              | ((with_reducible refine wpList_alloc_ag rfl agPair rfl H1.out ?_); intro g9 w9 h9; have H9 := hide h9; clear h9 H1)
              | ((with_reducible refine wpList_store_ag (cs := [sv x1, sv x2]) rfl agPair (.tmp 6) (.tmp 12) rfl rfl rfl rfl rfl HONE.out H9.out ?_); intro w10 h11; have e0 : w10.cell? ⟨g9, 0, none⟩ = some (.string ⟨x1.toArray⟩) := h11.blk_cell mem0 0; have e1 : w10.cell? ⟨g9, 1, none⟩ = some (.string ⟨x2.toArray⟩) := h11.blk_cell mem0 1; have l2 := h11.set_lookup (up1 HD.out) x2 HO2.out; rw [D2.out] at l2; have cm : w10.cell? ⟨g10, 0, none⟩ = some (.map (some md)) := h11.blk_cell (up1 H10'.out) 0; have H11 := hide h11.drop; have U1 := hide True.intro; clear h11 H9)
              | (go_at_call 47; clear U1; refine (contains_calls H11.out HP'.out x1).mono ?_; rintro z w12 ⟨rfl, rfl⟩; rw [D1.out])
              | (go_at_call 47; refine (contains_calls H11.out HP'.out x2).mono ?_; rintro z w12 ⟨rfl, rfl⟩; rw [D3.out]))
            go_ret
            exact ⟨by rw [HK.out]; rfl, H11.out⟩
    · have HK : Hid (readyR es dn P = true) := hide (by have := HAL.out; rw [List.take_of_length_le (by omega)] at this; exact this)
      go_wp2_with fail
      go_ret
      exact ⟨by rw [HK.out]; rfl, H1.out⟩
end Go.Proofs.Ytmebmgbjpbapjaa

namespace Go.Proofs.Ytmebmgbjpbapjaa
open Go.RowKit Go.Maps Go.MapKept

/-- The first part that is ready, and so on. -/
def orderG (es : List (Str × Str)) : Nat → List (Str × Bool) → List (List Str) → List (List Str)
  | 0, _, _ => []
  | n + 1, dn, ps => match ps.findIdx? (readyR es dn) with
    | none => []
    | some i => (ps[i]?.getD []) :: orderG es n (putAll dn (ps[i]?.getD [])) (ps.eraseIdx i)

section
variable {nxt : Str → List Str} {es : List (Str × Str)} {S : List Str}
/-- What is said of the parts that are left, and of the names that are done. -/
structure OrdP (nxt : Str → List Str) (es : List (Str × Str)) (S : List Str) (dn : List (Str × Bool)) (ps : List (List Str)) : Prop where
  tru : ∀ p ∈ dn, p.2 = true
  cls : ∀ P ∈ ps, 0 < P.length ∧ (∀ x ∈ P, x ∈ S) ∧ ∀ x ∈ P, ∀ y ∈ S, y ∈ P ↔ eqv nxt x y = true
  cov : ∀ y ∈ S, y ∈ keysOf dn ∨ ∃ P ∈ ps, y ∈ P
  edg : ∀ e ∈ es, e.1 ∈ S ∧ e.2 ∈ S ∧ e.2 ∈ nxt e.1
theorem filter_lt_len {l : List Str} {p q : Str → Bool} (h : ∀ x ∈ l, p x = true → q x = true) {z : Str} (hz : z ∈ l) (h1 : q z = true) (h2 : p z = false) : (l.filter p).length < (l.filter q).length := by
  induction l with
  | nil => cases hz
  | cons a l ih =>
    have hle : (l.filter p).length ≤ (l.filter q).length := by
      clear ih hz
      induction l with
      | nil => simp
      | cons c l ih2 =>
        have := ih2 (fun x hx => h x (by rcases List.mem_cons.1 hx with rfl | hx; exact List.mem_cons_self; exact List.mem_cons_of_mem _ (List.mem_cons_of_mem _ hx)))
        cases hp : p c with
        | true => rw [List.filter_cons_of_pos hp, List.filter_cons_of_pos (h c (by simp) hp)]; simpa using this
        | false =>
          rw [List.filter_cons_of_neg (by simp [hp])]
          rw [List.filter_cons]; split <;> simp <;> omega
    rcases List.mem_cons.1 hz with rfl | hz
    · rw [List.filter_cons_of_neg (by simp [h2]), List.filter_cons_of_pos h1]; simp; omega
    · have := ih (fun x hx => h x (List.mem_cons_of_mem _ hx)) hz
      cases hp : p a with
      | true => rw [List.filter_cons_of_pos hp, List.filter_cons_of_pos (h a (by simp) hp)]; simpa using this
      | false =>
        rw [List.filter_cons_of_neg (by simp [hp])]
        rw [List.filter_cons]; split <;> simp <;> omega
theorem OrdP.some_ready {dn : List (Str × Bool)} {ps : List (List Str)} (h : OrdP nxt es S dn ps) : ∀ (n : Nat) (P : List Str) (x : Str), P ∈ ps → x ∈ P → (S.filter (fun z => rB nxt x z)).length = n → ∃ Q ∈ ps, readyR es dn Q = true := by
  intro n
  induction n using Nat.strongRecOn with
  | _ n ih =>
    intro P x hP hx hn
    cases hr : readyR es dn P with
    | true => exact ⟨P, hP, hr⟩
    | false =>
      unfold readyR at hr
      rw [List.all_eq_false] at hr
      obtain ⟨e, he, hne⟩ := hr
      have h3 : e.1 ∈ P ∧ has dn e.2 = false ∧ e.2 ∉ P := by
        unfold okE at hne
        simp at hne
        exact ⟨hne.1.1, hne.1.2, hne.2⟩
      obtain ⟨h1, h2, h4⟩ := h3
      obtain ⟨s1, s2, s3⟩ := h.edg e he
      have hnd : e.2 ∉ keysOf dn := fun hk => by rw [(has_iff h.tru e.2).2 hk] at h2; cases h2
      obtain ⟨Q, hQ, hyQ⟩ := (h.cov e.2 s2).resolve_left hnd
      obtain ⟨_, _, hc⟩ := h.cls P hP
      have hxe : eqv nxt x e.1 = true := (hc x hx e.1 s1).1 h1
      have hxy : Rch nxt x e.2 := (eqv_iff.1 hxe).1.step s3
      refine ih _ ?_ Q e.2 hQ hyQ rfl
      rw [← hn]
      refine filter_lt_len (z := x) (fun z _ hz => rB_iff.2 (hxy.trans (rB_iff.1 hz))) ((h.cls P hP).2.1 x hx) (rB_iff.2 (Rch.refl _ _)) ?_
      rw [← Bool.not_eq_true]
      intro hyx
      exact h4 ((hc x hx e.2 s2).2 (eqv_iff.2 ⟨hxy, rB_iff.1 hyx⟩))
theorem OrdP.find {dn : List (Str × Bool)} {ps : List (List Str)} (h : OrdP nxt es S dn ps) (hne : ps ≠ []) : ∃ (i : Nat) (P : List Str), ps.findIdx? (readyR es dn) = some i ∧ ps[i]? = some P ∧ readyR es dn P = true ∧ ∀ Q ∈ ps.take i, readyR es dn Q = false := by
  obtain ⟨P, hP⟩ := List.exists_mem_of_ne_nil ps hne
  obtain ⟨hp, _, _⟩ := h.cls P hP
  obtain ⟨Q, hQ, hr⟩ := h.some_ready _ P P[0] hP (List.getElem_mem hp) rfl
  cases hf : ps.findIdx? (readyR es dn) with
  | none =>
    rw [List.findIdx?_eq_none_iff] at hf
    rw [hf Q hQ] at hr; cases hr
  | some i =>
    obtain ⟨hi, h1, h2⟩ := List.findIdx?_eq_some_iff_getElem.1 hf
    refine ⟨i, ps[i], rfl, List.getElem?_eq_getElem hi, h1, fun R hR => ?_⟩
    obtain ⟨j, hj, rfl⟩ := List.mem_iff_getElem.1 hR
    rw [List.getElem_take]
    have := h2 j (by rw [List.length_take] at hj; omega)
    simpa using this
theorem mem_erase_or {ps : List (List Str)} {i : Nat} {P Q : List Str} (hi : ps[i]? = some P) (hQ : Q ∈ ps) : Q = P ∨ Q ∈ ps.eraseIdx i := by
  obtain ⟨j, hj⟩ := List.getElem?_of_mem hQ
  by_cases hji : j = i
  · subst hji; rw [hi] at hj; cases hj; exact Or.inl rfl
  · right
    rcases Nat.lt_or_ge j i with h | h
    · exact List.mem_of_getElem? (i := j) (by rw [List.getElem?_eraseIdx, if_pos h]; exact hj)
    · exact List.mem_of_getElem? (i := j - 1) (by rw [List.getElem?_eraseIdx, if_neg (by omega), show j - 1 + 1 = j by omega]; exact hj)
theorem OrdP.next {dn : List (Str × Bool)} {ps : List (List Str)} (h : OrdP nxt es S dn ps) {i : Nat} {P : List Str} (hi : ps[i]? = some P) : OrdP nxt es S (putAll dn P) (ps.eraseIdx i) := by
  refine ⟨putAll_true P h.tru, fun Q hQ => h.cls Q (List.mem_of_mem_eraseIdx hQ), fun y hy => ?_, h.edg⟩
  rcases h.cov y hy with hk | ⟨Q, hQ, hyQ⟩
  · exact Or.inl (keysOf_putAll P |>.2 (Or.inl hk))
  · rcases mem_erase_or hi hQ with rfl | hQ'
    · exact Or.inl (keysOf_putAll Q |>.2 (Or.inr hyQ))
    · exact Or.inr ⟨Q, hQ', hyQ⟩
theorem erase_perm {α : Type} {ps : List α} {i : Nat} (h : i < ps.length) : (ps[i] :: ps.eraseIdx i).Perm ps := by
  rw [List.eraseIdx_eq_take_drop_succ]
  have := (List.perm_middle (a := ps[i]) (l₁ := ps.take i) (l₂ := ps.drop (i + 1))).symm
  rw [← List.drop_eq_getElem_cons h, List.take_append_drop] at this
  exact this
/-- What an order shows: each part is ready behind those ahead of it; all parts are in it. -/
theorem OrdP.all {dn : List (Str × Bool)} : ∀ {ps : List (List Str)} {dn : List (Str × Bool)}, OrdP nxt es S dn ps → ∀ n, n = ps.length → (orderG es n dn ps).Perm ps ∧ ∀ (i : Nat) (P : List Str), (orderG es n dn ps)[i]? = some P → readyR es (putAll dn ((orderG es n dn ps).take i).flatten) P = true := by
  intro ps dn h n hn
  induction n generalizing ps dn with
  | zero =>
    have : ps = [] := List.eq_nil_of_length_eq_zero hn.symm
    subst this
    exact ⟨by simp [orderG], fun i P hP => by simp [orderG] at hP⟩
  | succ n ih =>
    have hne : ps ≠ [] := fun e => by rw [e] at hn; simp at hn
    obtain ⟨i, P, hf, hi, hr, _⟩ := h.find hne
    have hlt := (List.getElem?_eq_some_iff.1 hi).1
    have hlen : n = (ps.eraseIdx i).length := by rw [List.length_eraseIdx]; rw [if_pos hlt]; omega
    obtain ⟨p1, p2⟩ := ih (h.next hi) hlen
    have he : orderG es (n + 1) dn ps = P :: orderG es n (putAll dn P) (ps.eraseIdx i) := by
      simp only [orderG, hf, hi, Option.getD_some]
    rw [he]
    refine ⟨?_, fun j Q hQ => ?_⟩
    · have hp := erase_perm hlt
      rw [(List.getElem?_eq_some_iff.1 hi).2] at hp
      exact (List.Perm.cons P p1).trans hp
    · cases j with
      | zero => simp at hQ; subst hQ; simpa [putAll] using hr
      | succ j =>
        have := p2 j Q (by simpa using hQ)
        rw [List.take_succ_cons, List.flatten_cons, putAll_append]
        exact this
end
end Go.Proofs.Ytmebmgbjpbapjaa

namespace Go.Proofs.Ytmebmgbjpbapjaa
open Go.RowKit Go.Maps Go.MapKept

section
variable {P : Program} {b e : Env} {L : List HP} {w : World} {α : Type} {E : El α} {t T : TypeId} {bytes : Nat} {z : Value} {xs : List α}
theorem Sat.setCells {g : Nat} {U : TypeId} {fz : Nat × Nat} : ∀ (vs : List Value) (o : Nat) {c : Array Value} {w : World}, Sat e (HP.blk g (.cells c U fz) :: L) w → ∃ c' : Array Value, c'.size = c.size ∧ (∀ k, k ≤ o → c'.toList.take k = c.toList.take k) ∧ Sat e (HP.blk g (.cells c' U fz) :: L) (w.setCells g o vs)
  | [], o, c, w, h => ⟨c, rfl, fun _ _ => rfl, h⟩
  | v :: r, o, c, w, h => by
    obtain ⟨c', h1, h2, h3⟩ := Sat.setCells r (o + 1) (h.setCell (i := o) v)
    refine ⟨c', by rw [h1]; simp, fun k hk => ?_, h3⟩
    rw [h2 k (by omega), Array.toList_setIfInBounds, List.take_set_of_le (by omega)]

theorem St.run_cut (S : SlT P t T E.sz bytes z) {g n cap : Nat} (hs : St b (HP.rows T E (.slice (some ⟨g, 0, none⟩) n cap) xs :: L) w) (i j : Nat) (hij : i ≤ j) (hj : j ≤ n) (ty : TypeId) :
    ∃ w', (Builtin.append_ #[t, t] ty #[.slice (some ⟨g, 0, none⟩) i cap, .slice (fromBase (some ⟨g, 0, none⟩) cap j E.sz) (n - j) (cap - j)]).run P w = .ok (.slice (some ⟨g, 0, none⟩) (i + (n - j)) cap) w' ∧
      St b (HP.rows T E (.slice (some ⟨g, 0, none⟩) (i + (n - j)) cap) (xs.take i ++ xs.drop j) :: L) w' := by
  obtain ⟨i0, hi0, hz, hsize, hby⟩ := info_parts S.info
  obtain ⟨e, hl, hs⟩ := hs
  have hn : n = xs.length := by obtain ⟨_, _, hv, _⟩ := hs.rows_form; simp only [Value.slice.injEq] at hv; exact hv.2.1
  subst hn
  obtain ⟨cs, hr, hs⟩ := hs.rows_open
  obtain ⟨hcl, ⟨hv, _⟩ | ⟨g', cap', cur, hv, h1, h2, h3, h4, hs1⟩⟩ := hs.row_open
  · cases hv
  simp only [Value.slice.injEq, Option.some.injEq, Addr.mk.injEq, and_true] at hv
  obtain ⟨rfl, -, rfl⟩ := hv
  have hnl : (cs.drop (j * E.sz)).length = (xs.length - j) * E.sz := by rw [List.length_drop, hcl, Nat.sub_mul]
  obtain ⟨a, ha, hnews⟩ : ∃ a : Addr, fromBase (some ⟨g, 0, none⟩) cap j E.sz = some a ∧ ∀ k u, (cs.drop (j * E.sz))[k]? = some u → w.cell? (a.add k) = some u := by
    unfold fromBase
    by_cases hc : cap = j
    · refine ⟨⟨g, 0, none⟩, by rw [if_pos hc], fun k u hu => ?_⟩
      have h0 : (cs.drop (j * E.sz)).length = 0 := by rw [hnl, show xs.length - j = 0 by omega, Nat.zero_mul]
      rw [List.eq_nil_of_length_eq_zero h0] at hu; simp at hu
    · refine ⟨(⟨g, 0, none⟩ : Addr).add (j * E.sz), by rw [if_neg hc]; rfl, fun k u hu => ?_⟩
      rw [List.getElem?_drop, ← h4, List.getElem?_take] at hu
      split at hu
      · rw [Addr.add_add, Addr.add_lit, cell_of hs1.at, Nat.zero_add]; simpa using hu
      · cases hu
  rw [ha]
  have hlij : i * E.sz + (cs.drop (j * E.sz)).length ≤ cur.size := by
    rw [hnl, h3, ← Nat.add_mul]; exact Nat.mul_le_mul_right _ (by omega)
  have h1c : ∀ u ∈ cs.drop (j * E.sz), u.oneCell' = true := fun u hu => El.rds_one hr u (List.mem_of_mem_drop hu)
  have hrun := run_append_room (P := P) w t ty T i0 S.ht hi0 g i cap cur hs1.at a (xs.length - j) (cap - j) (cs.drop (j * E.sz)) (by rw [hnl, hsize]) hnews h1c (by omega) (by rw [hsize]; exact hlij)
  rw [hsize] at hrun
  obtain ⟨_, hs2⟩ := hs1.storeCells (P := P) (off := i * E.sz) (cs := cs.drop (j * E.sz)) hlij h1c
  refine ⟨_, hrun, e, hl, ?_⟩
  have hlen : (xs.take i ++ xs.drop j).length = i + (xs.length - j) := by simp; omega
  refine Sat.rows_shut (cs := cs.take (i * E.sz) ++ cs.drop (j * E.sz)) ?_ (El.rds_append (El.rds_part i (by omega) hr).1 (El.rds_part j hj hr).2)
  rw [hlen]
  refine hs2.row_shut (by omega) h2 (by rw [laid_size hlij]; exact h3) ?_
  have hct : cur.toList.take (i * E.sz) = cs.take (i * E.sz) := by
    rw [← h4, List.take_take, Nat.min_eq_left (Nat.mul_le_mul_right _ (by omega))]
  show List.take ((i + (xs.length - j)) * E.sz) (cur.toList.take (i * E.sz) ++ cs.drop (j * E.sz) ++ cur.toList.drop (i * E.sz + (cs.drop (j * E.sz)).length)) = _
  rw [hct]
  have hcl2 : (cs.take (i * E.sz) ++ cs.drop (j * E.sz)).length = (i + (xs.length - j)) * E.sz := by
    rw [List.length_append, hnl, List.length_take, hcl, Nat.min_eq_left (Nat.mul_le_mul_right _ (by omega)), Nat.add_mul]
  exact List.take_left' hcl2
/-- What is behind an owned slice's end is cleared. -/
theorem St.run_clear (S : SlT P t T E.sz bytes z) (h1 : E.sz = 1) (hz1 : z.cells = #[z]) (hzo : z.oneCell' = true) {g n cap : Nat} (hs : St b (HP.rows T E (.slice (some ⟨g, 0, none⟩) n cap) xs :: L) w) (m c : Nat) (hm : 0 < m) (hc : n + m ≤ cap) (ty : TypeId) :
    ∃ w', (Builtin.clear_ #[t] ty #[.slice (some ⟨g, 0 + n, none⟩) m c]).run P w = .ok (.tuple #[]) w' ∧ St b (HP.rows T E (.slice (some ⟨g, 0, none⟩) n cap) xs :: L) w' := by
  obtain ⟨i0, hi0, hz, hsize, hby⟩ := info_parts S.info
  obtain ⟨e, hl, hs⟩ := hs
  have hn : n = xs.length := by obtain ⟨_, _, hv, _⟩ := hs.rows_form; simp only [Value.slice.injEq] at hv; exact hv.2.1
  subst hn
  obtain ⟨cs, hr, hs⟩ := hs.rows_open
  obtain ⟨hcl, ⟨hv, _⟩ | ⟨g', cap', cur, hv, h1', h2, h3, h4, hs1⟩⟩ := hs.row_open
  · cases hv
  simp only [Value.slice.injEq, Option.some.injEq, Addr.mk.injEq, and_true] at hv
  obtain ⟨rfl, -, rfl⟩ := hv
  rw [h1, Nat.mul_one] at h3 h4
  have hrun := Lib.run_clear_slice (P := P) w t T ty z S.ht (fun w => by simp [zeroValue, typeInfo, hi0, hz]) hz1 hzo g (0 + xs.length) m c hm
    (fun j hj => by rw [cell_of hs1.at, Array.getElem?_eq_getElem (by omega)]; rfl) (fun j hj => unfrozen_of hs1.at _)
  obtain ⟨c', k1, k2, k3⟩ := Sat.setCells (List.replicate m z) (0 + xs.length) hs1
  refine ⟨_, hrun, e, hl, Sat.rows_shut (cs := cs) ?_ hr⟩
  refine k3.row_shut h1' h2 (by rw [k1, h3, h1, Nat.mul_one]) ?_
  rw [h1, Nat.mul_one, k2 _ (by omega)]
  exact h4
end
section
variable {P : Program} {ops : Array Oper} {rest : List Oper} {o : Oper} {a : Act} {b : Env} {L : List HP} {w : World} {α : Type} {E : El α} {t T : TypeId} {bytes : Nat} {z : Value} {xs : List α} {Q : Exit → Act → World → Prop}
theorem step_cut_st {K : Act → World → Prop} {X : Prop} (hg : o.guard = none) (s x : Operand) (S : SlT P t T E.sz bytes z) (ho : o.op = .call { callee := .builtin .append, args := #[s, x], argTypes := #[t, t] }) {g n cap : Nat} (hs : St b (HP.rows T E (.slice (some ⟨g, 0, none⟩) n cap) xs :: L) w) (i j : Nat) (hij : i ≤ j) (hj : j ≤ n)
    (hv : a.eval s = .slice (some ⟨g, 0, none⟩) i cap) (hx : a.eval x = .slice (fromBase (some ⟨g, 0, none⟩) cap j E.sz) (n - j) (cap - j))
    (h : ∀ w', St b (HP.rows T E (.slice (some ⟨g, 0, none⟩) (i + (n - j)) cap) (xs.take i ++ xs.drop j) :: L) w' → K (a.put o.dst (.slice (some ⟨g, 0, none⟩) (i + (n - j)) cap)) w') : if Region.wanted o (yielded ops a.tmps) = true then Oper.wp P o a w K Q else X := by
  have hw : Region.wanted o (yielded ops a.tmps) = true := by simp [Region.wanted, hg]
  rw [if_pos hw]
  obtain ⟨w', hrun, hs'⟩ := hs.run_cut S i j hij hj o.type
  unfold Oper.wp
  have hr : (execOp a.eval o).run P w = .ok (.value (.slice (some ⟨g, 0, none⟩) (i + (n - j)) cap)) w' := by simp [execOp, ho, resolve, invoke, builtin, hv, hx, hrun]
  rw [hr, Oper.upon_value]
  exact h w' hs'
theorem wpList_clearS_st (hg : o.guard = none) (x : Operand) (S : SlT P t T E.sz bytes z) (h1 : E.sz = 1) (hz1 : z.cells = #[z]) (hzo : z.oneCell' = true) (ho : o.op = .call { callee := .builtin .clear, args := #[x], argTypes := #[t] }) {g n cap : Nat} (hs : St b (HP.rows T E (.slice (some ⟨g, 0, none⟩) n cap) xs :: L) w) (m c : Nat) (hm : 0 < m) (hc : n + m ≤ cap)
    (hx : a.eval x = .slice (some ⟨g, n, none⟩) m c) (h : ∀ w', St b (HP.rows T E (.slice (some ⟨g, 0, none⟩) n cap) xs :: L) w' → wpList P ops Q rest (a.put o.dst (.tuple #[])) w') : wpList P ops Q (o :: rest) a w := by
  obtain ⟨w', hrun, hs'⟩ := hs.run_clear S h1 hz1 hzo m c hm hc o.type
  rw [Nat.zero_add] at hrun
  exact wpList_val hg (by simp [execOp, ho, resolve, invoke, builtin, hx, hrun]) (h w' hs')
/-- 's[l:h:m]', 's[l:h]' of a slice in its capacity. -/
theorem run_slice3 (S : SlT P t T E.sz bytes z) (g n cap l h m : Nat) (h1 : l ≤ h) (h2 : h ≤ m) (h3 : m ≤ cap) (k k' k'' : IntKind) : ∃ V, ∀ w, (Instr.sliceAt t (.slice (some ⟨g, 0, none⟩) n cap) (some (.int k (l : Int))) (some (.int k' (h : Int))) (some (.int k'' (m : Int)))).run P w = .ok V w := by
  obtain ⟨i, hi', hz, hsize, hby⟩ := info_parts S.info
  refine ⟨.slice (fromBase (some ⟨g, 0, none⟩) m l E.sz) (h - l) (m - l), fun w => ?_⟩
  have hszr : (sizeOf T).run P w = .ok E.sz w := by simp [sizeOf, typeInfo, hi', hsize]
  have e1 : (l : Int) ≤ (h : Int) := by omega
  have e2 : (h : Int) ≤ (m : Int) := by omega
  have e3 : (m : Int) ≤ (cap : Int) := by omega
  simp [Instr.sliceAt, Instr.slice, run_underlying S.ht, Instr.sliceBounds, run_sliceBound w k'' (m : Int) cap _ (Int.natCast_nonneg m) e3, run_sliceBound w k' (h : Int) m _ (Int.natCast_nonneg h) e2, run_sliceBound w k (l : Int) h _ (Int.natCast_nonneg l) e1, hszr, fromBase]
theorem run_slice_mid (S : SlT P t T E.sz bytes z) (g n cap l h : Nat) (h1 : l ≤ h) (h2 : h ≤ cap) (hl : l < cap) (k k' : IntKind) (w : World) : (Instr.sliceAt t (.slice (some ⟨g, 0, none⟩) n cap) (some (.int k (l : Int))) (some (.int k' (h : Int))) none).run P w = .ok (.slice (some ⟨g, 0 + l * E.sz, none⟩) (h - l) (cap - l)) w := by
  obtain ⟨i, hi', hz, hsize, hby⟩ := info_parts S.info
  have hszr : (sizeOf T).run P w = .ok E.sz w := by simp [sizeOf, typeInfo, hi', hsize]
  have e1 : (l : Int) ≤ (h : Int) := by omega
  have e2 : (h : Int) ≤ (cap : Int) := by omega
  have e3 : ¬ cap = l := by omega
  simp [Instr.sliceAt, Instr.slice, run_underlying S.ht, Instr.sliceBounds, run_sliceBound w k' (h : Int) cap _ (Int.natCast_nonneg h) e2, run_sliceBound w k (l : Int) h _ (Int.natCast_nonneg l) e1, hszr, e3, Addr.add]
  intro hh
  exact hh.symm
/-- One of an owned slice's slices. -/
theorem St.rows_in_at {g n cap i : Nat} {E : El α} {xss : List (List α)} (h : St b (HP.rows T E.in (.slice (some ⟨g, 0, none⟩) n cap) xss :: L) w) (hi : i < xss.length) : ∃ v, w.cell? ⟨g, i, none⟩ = some v ∧ St b (HP.sl E v xss[i] :: HP.rows T E.in (.slice (some ⟨g, 0, none⟩) n cap) xss :: L) w := by
  obtain ⟨e, cs, hl, hs, ⟨v, rfl, hv⟩, hc⟩ := h.rows_cells mem0 (List.getElem?_eq_getElem hi)
  refine ⟨v, ?_, e, hl, hs.lay (fun _ => hv)⟩
  have := hc 0 v rfl
  have e1 : i * E.in.sz + 0 = i := by show i * 1 + 0 = i; omega
  rw [e1] at this
  exact this
end
end Go.Proofs.Ytmebmgbjpbapjaa

namespace Go.Proofs.Ytmebmgbjpbapjaa
open Go.RowKit Go.Maps Go.MapKept
variable {b : Env} {L : List HP} {w : World}

set_option linter.unusedSimpArgs false in
set_option maxRecDepth 100000 in
set_option maxHeartbeats 2000000 in
theorem delete_calls {g n cap i : Nat} {xs : List (List Str)} (h : St b (HP.rows 24 strE.in (.slice (some ⟨g, 0, none⟩) n cap) xs :: L) w) (hi : i < n) :
    Calls Try.prog 50 #[.slice (some ⟨g, 0, none⟩) n cap, .int .i64 (i : Int), .int .i64 ((i : Int) + 1)] w fun x w' => x = .returned (.slice (some ⟨g, 0, none⟩) (n - 1) cap) ∧ St b (HP.rows 24 strE.in (.slice (some ⟨g, 0, none⟩) (n - 1) cap) (xs.eraseIdx i) :: L) w' := by
  obtain ⟨b', c', hv, hc1, hc2⟩ := h.rows_form mem0
  simp only [Value.slice.injEq] at hv
  obtain ⟨-, hnx, rfl⟩ := hv
  have hcn : n ≤ cap := by omega
  have hni : (n : Int) ≤ 9223372036854775807 := by unfold maxLen at hc2; omega
  obtain ⟨V, r1⟩ := run_slice3 (E := strE.in) slStrs g n cap i (i + 1) n (by omega) (by omega) hcn .i64 .i64 .i64
  replace r1 : ∀ w, (Instr.sliceAt 30 (.slice (some ⟨g, 0, none⟩) n cap) (some (.int .i64 (i : Int))) (some (.int .i64 ((i : Int) + 1))) (some (.int .i64 (n : Int)))).run Try.prog w = .ok V w := r1
  have r2 : ∀ w, (Instr.sliceAt 30 (.slice (some ⟨g, 0, none⟩) n cap) none (some (.int .i64 (i : Int))) none).run Try.prog w = .ok (.slice (some ⟨g, 0, none⟩) i cap) w := fun w => run_slice_top (E := strE.in) slStrs (some ⟨g, 0, none⟩) (Or.inr ⟨g, 0, rfl⟩) n cap i (by omega) .i64 w
  have r3 : ∀ w, (Instr.sliceAt 30 (.slice (some ⟨g, 0, none⟩) n cap) (some (.int .i64 ((i : Int) + 1))) none none).run Try.prog w = .ok (.slice (fromBase (some ⟨g, 0, none⟩) cap (i + 1) 1) (n - (i + 1)) (cap - (i + 1))) w := fun w => run_slice_low (E := strE.in) slStrs (some ⟨g, 0, none⟩) n cap (i + 1) (by omega) .i64 w
  have hlen2 : i + (n - (i + 1)) = n - 1 := by omega
  have r4 : ∀ w, (Instr.sliceAt 30 (.slice (some ⟨g, 0, none⟩) (n - 1) cap) (some (.int .i64 ((n - 1 : Nat) : Int))) (some (.int .i64 (n : Int))) none).run Try.prog w = .ok (.slice (some ⟨g, 0 + (n - 1), none⟩) 1 (cap - (n - 1))) w := fun w => by
    have := run_slice_mid (P := Try.prog) (E := strE.in) slStrs g (n - 1) cap (n - 1) n (by omega) hcn (by omega) .i64 .i64 w
    rw [show n - (n - 1) = 1 by omega, show (n - 1) * strE.in.sz = n - 1 from Nat.mul_one _] at this
    exact this
  have hne : ((i : Int) == (i : Int) + 1) = false := by rw [beq_eq_false_iff_ne]; omega
  have HE : Hid (xs.take i ++ xs.drop (i + 1) = xs.eraseIdx i) := hide (List.eraseIdx_eq_take_drop_succ xs i).symm
  have H := hide h
  have q1 : n - 1 + 1 ≤ cap := by omega
  have q2 : i ≤ i + 1 := by omega
  have q3 : i + 1 ≤ n := by omega
  have HL2 := hide hlen2
  clear h hc1 hc2 hlen2 hnx
  generalize hfb : fromBase (some ⟨g, 0, none⟩) cap (i + 1) 1 = fb at r3
  have HFB := hide hfb
  clear hfb
  go_enter Try.func50, Try.ntmps50
  go_wp2_with fail
  refine wp_region_held_drew (S := fun _ => True) (by kernel_rfl) ?_ (fun hHeld => ?_)
  · trivial
  refine wpAnyH_takeD (i := 0) (some 20) (v := ?v0_1) rfl rfl (by kernel_rfl) (by kernel_rfl) (by kernel_rfl) (fun _ _ _ h => h) (by rfl) ?y0_1 (by assumption) ?r0_1
  case y0_1 => (intro w hSw; (try dsimp only at hSw); first | (go_simp; done) | (go_simp; with_reducible rfl))
  try simp only [Act.put, List.setIfInBounds_toArray, List.set_cons_zero, List.set_cons_succ]
  refine wpAnyH_takeD (i := 1) (some 21) (v := ?v1_2) rfl rfl (by kernel_rfl) (by kernel_rfl) (by kernel_rfl) (fun _ _ _ h => h) (by rfl) ?y1_2 (by assumption) ?r1_2
  case y1_2 => (intro w hSw; (try dsimp only at hSw); first | (go_simp; done) | (go_simp; with_reducible rfl))
  try simp only [Act.put, List.setIfInBounds_toArray, List.set_cons_zero, List.set_cons_succ]
  refine wpAnyH_takeD (i := 2) (some 22) (v := ?v2_3) rfl rfl (by kernel_rfl) (by kernel_rfl) (by kernel_rfl) (fun _ _ _ h => h) (by rfl) ?y2_3 (by assumption) ?r2_3
  case y2_3 => (intro w hSw; (try dsimp only at hSw); first | (go_simp; done) | (go_simp; with_reducible rfl))
  try simp only [Act.put, List.setIfInBounds_toArray, List.set_cons_zero, List.set_cons_succ]
  refine wpAnyH_takeD (i := 3) (some 23) (v := ?v3_4) rfl rfl (by kernel_rfl) (by kernel_rfl) (by kernel_rfl) (fun _ _ _ h => h) (by rfl) ?y3_4 (by assumption) ?r3_4
  case y3_4 => (intro w hSw; (try dsimp only at hSw); first | (go_simp; done) | (go_simp; with_reducible rfl))
  try simp only [Act.put, List.setIfInBounds_toArray, List.set_cons_zero, List.set_cons_succ]
  refine wpAnyH_takeD (i := 4) (some 24) (v := ?v4_5) rfl rfl (by kernel_rfl) (by kernel_rfl) (by kernel_rfl) (fun _ _ _ h => h) (by rfl) ?y4_5 (by assumption) ?r4_5
  case y4_5 => (intro w hSw; (try dsimp only at hSw); first | (go_simp; done) | (go_simp; with_reducible rfl))
  try simp only [Act.put, List.setIfInBounds_toArray, List.set_cons_zero, List.set_cons_succ]
  refine wpAnyH_takeD (i := 5) (some 25) (v := ?v5_6) rfl rfl (by kernel_rfl) (by kernel_rfl) (by kernel_rfl) (fun _ _ _ h => h) (by rfl) ?y5_6 (by assumption) ?r5_6
  case y5_6 => (intro w hSw; (try dsimp only at hSw); first | (go_simp; done) | (go_simp; with_reducible rfl))
  try simp only [Act.put, List.setIfInBounds_toArray, List.set_cons_zero, List.set_cons_succ]
  refine wpAnyH_ready (rs := [6]) (by kernel_rfl) (by simp) ?_
  refine AllReadyH.cons rfl (fun K hK => ?_) ?_
  · refine step_cut_st (E := strE.in) rfl (.tmp 22) (.tmp 25) slStrs rfl H.out.drew i (i + 1) q2 q3 rfl (by rw [show fromBase (some ⟨g, 0, none⟩) cap (i + 1) strE.in.sz = fb from HFB.out]; rfl) ?_
    intro w5 h5
    rw [HL2.out, HE.out] at h5
    rw [HL2.out]
    have H5 := hide h5
    clear h5 H
    refine hK.out _ _ ?_ (fun hHeld => ?_)
    · trivial
    clear hK K
    try simp only [Act.put, List.setIfInBounds_toArray, List.set_cons_zero, List.set_cons_succ]
    refine wpAnyH_takeD (i := 7) (some 0) (v := ?v7_7) rfl rfl (by kernel_rfl) (by kernel_rfl) (by kernel_rfl) (fun _ _ _ h => h) (by rfl) ?y7_7 (by assumption) ?r7_7
    case y7_7 => (intro w hSw; (try dsimp only at hSw); first | (go_simp; done) | (go_simp; with_reducible rfl))
    try simp only [Act.put, List.setIfInBounds_toArray, List.set_cons_zero, List.set_cons_succ]
    refine wpAnyH_done (by kernel_rfl) ?_ _
    go_wp2_with (refine wpList_clearS_st (E := strE.in) rfl (.tmp 31) slStrs rfl rfl rfl rfl H5.out 1 (cap - (n - 1)) Nat.one_pos q1 rfl ?_; intro w6 h6; have H6 := hide h6; clear h6 H5)
    go_ret
    exact ⟨rfl, H6.out⟩
  exact AllReadyH.nil

set_option maxRecDepth 100000 in
theorem clone_calls {bP cP : _} {P : List Str} (h : St b L w) (hm : HP.sl strE (.slice bP P.length cP) P ∈ L) (hpos : 0 < P.length) (hl : P.length ≤ 1000000) :
    Calls Try.prog 49 #[.slice bP P.length cP] w fun x w' => ∃ v, x = .returned v ∧ St b (HP.sl strE v P :: L) w' := by
  obtain ⟨g, o, rfl⟩ := h.sl_base hm hpos Nat.one_pos
  have H := hide h
  have HM := hide hm
  have hnl : ∀ w, (binOp .eql 24 (.slice (some ⟨g, o, none⟩) P.length cP) (.slice none 0 0)).run Try.prog w = .ok (.bool false) w := fun w => Lib.run_eql_slice_nil (h := Try.underlying24) ..
  have q1 : ([] : List Str).length + P.length ≤ maxLen := by simp; unfold maxLen; omega
  have q2 : (([] : List Str).length + P.length) * 16 ≤ 140737488355328 := by simp; omega
  clear h hm hl hpos
  go_enter Try.func49, Try.ntmps49
  go_wp2_with (first
    | (refine wpList_build0_st (E := strE) rfl slStr rfl H.out ?_; intro g9 w9 h9; have H9 := hide h9; clear h9 H)
    | (at_builtin; refine wpList_append_st rfl (.tmp 5) (.tmp 6) slStr rfl H9.out (Src.of_sl (up1 HM.out)) rfl rfl q1 q2 ?_; intro vb3 n3 vc3 w10 hn3 h10; rw [List.nil_append] at h10; have H10 := hide h10.persist; clear h10 H9 hn3))
  go_ret
  exact ⟨_, rfl, H10.out⟩

def idxR (xs : List (List Str)) (p : List Str → Bool) : Int := match xs.findIdx? p with | some i => (i : Int) | none => -1
def IdxOAt (b : Env) (L : List HP) (xs : List (List Str)) (p : List Str → Bool) (i : Value) (wr : World) : Prop := ∃ k : Nat, k ≤ xs.length ∧ i = .int .i64 k ∧ (∀ y ∈ xs.take k, p y = false) ∧ St b L wr
set_option maxRecDepth 100000 in
set_option maxHeartbeats 1000000 in
theorem indexo_calls {gx n cap : Nat} {ve : Value} {xs : List (List Str)} {es : List (Str × Str)} {g4 g10 md : Nat} {dn : List (Str × Bool)} (h : St b (HP.rows 24 strE.in (.slice (some ⟨gx, 0, none⟩) n cap) xs :: L) w) (h4 : HP.blk g4 (.cells #[ve] 25) ∈ L) (he : HP.sl pairE ve es ∈ L) (h10 : HP.blk g10 (.cells #[.map (some md)] 66) ∈ L) (hd : HP.set md dn ∈ L) :
    Calls Try.prog 48 #[.slice (some ⟨gx, 0, none⟩) n cap, .func (.func 46) #[] #[.pointer (some ⟨g4, 0, none⟩), .pointer (some ⟨g10, 0, none⟩)]] w fun x w' => St b (HP.rows 24 strE.in (.slice (some ⟨gx, 0, none⟩) n cap) xs :: L) w' ∧
      x = .returned (.int .i64 (idxR xs (readyR es dn))) := by
  obtain ⟨b', c', hv, hc1, hc2⟩ := h.rows_form mem0
  simp only [Value.slice.injEq] at hv
  obtain ⟨-, rfl, rfl⟩ := hv
  have hm2 : (xs.length : Int) ≤ 9223372036854775807 := by unfold maxLen at hc2; omega
  have H := hide h
  have H4 := hide h4
  have HE := hide he
  have H10 := hide h10
  have HD := hide hd
  clear h h4 he h10 hd hc2
  go_enter Try.func48, Try.ntmps48
  go_wp2_with fail
  go_loopw [8] (fun i wr => IdxOAt b (HP.rows 24 strE.in (.slice (some ⟨gx, 0, none⟩) xs.length cap) xs :: L) xs (readyR es dn) i wr) (fun i _ => xs.length - (intOf i).toNat)
  case atStart => exact ⟨0, by omega, rfl, by simp, H.out⟩
  case round =>
    obtain ⟨k, hk, rfl, hn, hs⟩ := hrel
    have HN := hide hn
    have H1 := hide hs
    clear hn hs H
    by_cases hlt : k < xs.length
    · obtain ⟨vP, hcP, h2⟩ := H1.out.rows_in_at hlt
      have H2 := hide h2
      clear h2 H1
      cases hp : readyR es dn xs[k] with
      | true =>
        have HP2 := hide hp
        have HF : Hid (idxR xs (readyR es dn) = (k : Int)) := hide (by
          have h0 : xs.findIdx? (readyR es dn) = some k := by
            rw [List.findIdx?_eq_some_iff_getElem]
            refine ⟨hlt, hp, fun j hj => ?_⟩
            have := HN.out xs[j] (List.mem_take_iff_getElem.2 ⟨j, by omega, rfl⟩)
            rw [this]; simp
          unfold idxR; rw [h0])
        clear hp
        go_wp2_with (go_at_call 46; refine (order1_calls H2.out (Reads.of_sl mem0) (up2 H4.out) (up2 HE.out) (up2 H10.out) (up2 HD.out)).mono ?_; rintro x w1 ⟨rfl, h3⟩; rw [HP2.out]; have H3 := hide h3.drop; clear h3 H2)
        go_ret
        exact ⟨H3.out, by rw [HF.out]; rfl⟩
      | false =>
        have HP2 := hide hp
        have HT : Hid (∀ y ∈ xs.take (k + 1), readyR es dn y = false) := hide (by
          intro y hy
          rw [List.take_succ_eq_append_getElem hlt, List.mem_append] at hy
          rcases hy with h | h
          · exact HN.out y h
          · simp at h; subst h; exact hp)
        clear hp
        go_wp2_with (go_at_call 46; refine (order1_calls H2.out (Reads.of_sl mem0) (up2 H4.out) (up2 HE.out) (up2 H10.out) (up2 HD.out)).mono ?_; rintro x w1 ⟨rfl, h3⟩; rw [HP2.out]; have H3 := hide h3.drop; clear h3 H2)
        go_roundw
        case rel => exact ⟨k + 1, by omega, by go_num, HT.out, H3.out⟩
        case measure => exact meas_step hlt
    · have HF : Hid (idxR xs (readyR es dn) = -1) := hide (by
        have h0 : xs.findIdx? (readyR es dn) = none := by
          rw [List.findIdx?_eq_none_iff]
          have := HN.out
          rw [List.take_of_length_le (by omega)] at this
          exact this
        unfold idxR; rw [h0])
      go_wp2_with fail
      go_ret
      exact ⟨H1.out, by rw [HF.out]; rfl⟩
end Go.Proofs.Ytmebmgbjpbapjaa

namespace Go.Proofs.Ytmebmgbjpbapjaa
open Go.RowKit Go.Maps Go.MapKept
variable {b : Env} {L : List HP} {w : World}

set_option maxRecDepth 100000 in
set_option maxHeartbeats 4000000 in
theorem gpartsO_calls (h : St b L w) {vn ve : Value} {N : List Str} {es : List (Str × Str)} (hn : HP.sl strE vn N ∈ L) (he : HP.sl pairE ve es ∈ L) (hNl : N.length ≤ 1000) (hel : es.length ≤ 50000) :
    Calls Try.prog 15 #[vn, ve] w fun x w' => ∃ v S, x = .returned v ∧ Inc S ∧ (∀ y, y ∈ S ↔ y ∈ N) ∧ St b (HP.rows 24 strE.in v (partsR (eqv (edgesN (inEdges N es))) S.length S) :: L) w' := by
  obtain ⟨bn, cn, rfl, _, _⟩ := h.sl_form hn
  obtain ⟨be, ce, rfl, _, _⟩ := h.sl_form he
  have H := hide h
  have HN := hide hn
  have HE := hide he
  clear h hn he
  go_enter Try.func15, Try.ntmps15
  go_wp2_with ((with_reducible refine wpList_makeMap_st rfl 66 rfl sv okStr Value.bool H.out ?_); intro ma w1 h1; have H1 := hide h1; clear h1 H)
  go_loopw [23] (fun i wr => PE1 b L N ma i wr) (fun i _ => N.length - (intOf i).toNat)
  case atStart => exact ⟨0, by omega, rfl, H1.out⟩
  case round =>
    obtain ⟨k, hk, rfl, hs⟩ := hrel
    have H2 := hide hs
    clear hs H1
    by_cases hlt : k < N.length
    · obtain ⟨g, o, hg⟩ := H2.out.sl_base (up1 HN.out) (by omega) Nat.one_pos
      subst hg
      obtain ⟨hc, hok⟩ := H2.out.sc_at (up1 HN.out) hlt
      have HOK := hide hok
      clear hok
      go_wp2_with (at_mapUpdate; refine wpList_mapUpdate_st rfl 66 (.tmp 27) (.tmp 28) (.const (.bool true)) rfl keyStr mapSet N[k] true rfl rfl HOK.out rfl H2.out ?_; intro w3 h3; have H3 := hide h3; clear h3 H2)
      go_roundw
      case rel => exact ⟨k + 1, by omega, by go_num, by rw [List.take_succ_eq_append_getElem hlt, putAll_snoc]; exact H3.out⟩
      case measure => simp [intOf]; omega
    · have h3 := H2.out
      rw [List.take_of_length_le (by omega)] at h3
      have H3 := hide h3
      clear h3 H2
      go_wp2_with (first
        | ((with_reducible refine wpList_makeMap_st rfl 67 rfl sv okStr (fun v : Value => v) H3.out ?_); intro ms w4 h4; have H4 := hide (h4.mrows_new (T := 9) (E := strE)); clear h4 H3)
        | ((with_reducible refine wpList_alloc1_st rfl 67 rfl (Try.zeroValue67 _) rfl H4.out ?_); intro gt w5 h5; have H5 := hide h5; clear h5 H4)
        | ((with_reducible refine wpList_store1_st rfl 67 (.tmp 8) (.tmp 30) rfl szMulti rfl rfl rfl rfl H5.out ?_); intro w6 h6; have H6 := hide h6.f1; clear h6 H5))
      go_loopw [33] (fun i wr => PE2 b L N es ma ms gt i wr) (fun i _ => es.length - (intOf i).toNat)
      case atStart => exact ⟨0, by omega, rfl, H6.out⟩
      case round =>
        obtain ⟨k2, hk2, rfl, hs⟩ := hrel
        have H7 := hide hs
        clear hs H6
        by_cases hlt2 : k2 < es.length
        · obtain ⟨ge, oe, hge⟩ := H7.out.sl_base (up3 HE.out) (by omega) (by decide)
          subst hge
          obtain ⟨hc0, hc01, hok1, hok2⟩ := H7.out.pair_at (up3 HE.out) hlt2
          obtain ⟨x, hx⟩ : ∃ x, es[k2] = x := ⟨_, rfl⟩
          have HX := hide (inEdges_succ (N := N) hlt2 hx)
          rw [hx] at hc0 hc01 hok1 hok2
          have HO1 := hide hok1
          have HO2 := hide hok2
          obtain ⟨x1, x2⟩ := x
          dsimp only at hc0 hc01 HO1 HO2 HX
          have HCS : Hid (∀ j u, [sv x1, sv x2][j]? = some u → wr.cell? ⟨ge, oe + k2 * 2 + j, none⟩ = some u) := hide (fun j u hj => by
            match j, hj with
            | 0, hj => cases hj; exact hc0
            | 1, hj => cases hj; exact hc01)
          have HONE : Hid (∀ v ∈ [sv x1, sv x2], v.oneCell' = true) := hide (by simp [Value.oneCell'])
          have hil : (inEdges N (es.take k2)).length ≤ k2 := by
            have := List.length_filter_le (fun e : Str × Str => decide (e.1 ∈ N) && decide (e.2 ∈ N)) (es.take k2)
            rw [List.length_take] at this; unfold inEdges; omega
          have hzl := edgesN_len (inEdges N (es.take k2)) x1
          rw [← adjL_get] at hzl
          generalize hT : adjL (inEdges N (es.take k2)) = tos at hzl
          have HT := hide hT
          rw [hT] at H7
          clear hok1 hok2 hx hT hc0 hc01
          by_cases h1 : x1 ∈ N
          · by_cases h2 : x2 ∈ N
            · have D1 := hide (decide_eq_true h1)
              have D2 := hide (decide_eq_true h2)
              clear h1 h2
              go_wp2_with (first
                | (with_reducible refine wpList_load_ag (cs := [sv x1, sv x2]) rfl agPair (.tmp 35) rfl rfl rfl HCS.out ?_)
                | ((with_reducible refine wpList_alloc_ag rfl agPair rfl H7.out ?_); intro g9 w9 h9; have H9 := hide h9; clear h9 H7)
                | ((with_reducible refine wpList_store_ag (cs := [sv x1, sv x2]) rfl agPair (.tmp 10) (.tmp 36) rfl rfl rfl rfl rfl HONE.out H9.out ?_); intro w10 h10; have e0 : w10.cell? ⟨g9, 0, none⟩ = some (.string ⟨x1.toArray⟩) := h10.blk_cell mem0 0; have e1 : w10.cell? ⟨g9, 1, none⟩ = some (.string ⟨x2.toArray⟩) := h10.blk_cell mem0 1; have l1 := h10.set_lookup mem3 x1 HO1.out; have l2 := h10.set_lookup mem3 x2 HO2.out; rw [has_putAll, D1.out] at l1; rw [has_putAll, D2.out] at l2; have H10 := hide h10; clear h10 H9))
              obtain ⟨l, v, R, h11, hv, hback⟩ := H10.out.f1.mrows_take x1
              obtain ⟨vb, vc, hv', hz1, hz2⟩ := h11.rows_form mem0
              generalize hZ : (kget tos x1).getD [] = zs at h11 hv' hz1 hz2 hzl
              subst hv'
              have l11 := h11.drew.lookup keyStr mem1 Try.underlying67 (Try.zeroValue24 _) x1 HO1.out false
              have h12 := ((h11.alloc (.cells #[.string ⟨x2.toArray⟩] 9)).rows1 (cs := [sv x2]) (E := strE) x2 (fun _ _ _ => ⟨rfl, HO2.out⟩)).drew
              have l12 := h12.lookup keyStr mem2 Try.underlying67 (Try.zeroValue24 _) x1 HO1.out false
              have hv2 : ((kget l x1).map (fun v : Value => v)).getD (.slice none 0 0) = .slice vb zs.length vc := by rw [← hv]; cases kget l x1 <;> rfl
              simp only [Bool.false_eq_true, if_false, hv2] at l11 l12
              have d0 : w10.drew.cell? ⟨gt, 0, none⟩ = some (.map (some ms)) ∧ w10.drew.cell? ⟨g9, 0, none⟩ = some (.string ⟨x1.toArray⟩) ∧ w10.drew.cell? ⟨g9, 1, none⟩ = some (.string ⟨x2.toArray⟩) := ⟨h11.drew.blk_cell mem4 0, h11.drew.blk_cell mem3 0, h11.drew.blk_cell mem3 1⟩
              have d1 := And.intro (h12.blk_cell mem5 0) (And.intro (h12.blk_cell mem4 0) (h12.blk_cell mem4 1))
              have H12 := hide h12.f1
              have HB := hide hback
              have HZ := hide hZ
              clear h11 h12 hv hv2 hback hZ H10 l1 l2 e0 e1
              go_region_held3 (fun w' => w'.cell? ⟨gt, 0, none⟩ = some (.map (some ms)) ∧ w'.cell? ⟨g9, 0, none⟩ = some (.string ⟨x1.toArray⟩) ∧ w'.cell? ⟨g9, 1, none⟩ = some (.string ⟨x2.toArray⟩))
                (first | exact d0 | exact d1 | exact d2 | exact d3)
                (first
                  | (refine step_append_st rfl (.tmp 53) (.tmp 56) slStr rfl H12.out (Src.of_rows mem1) rfl rfl ?_ ?_ ?_; (simp; unfold maxLen; omega); (simp; omega); intro vb2 n2 vc2 w13 hn2 h13; obtain ⟨w14, hmu, h14⟩ := h13.f2.map_put keyStr Try.underlying67 x1 HO1.out (.slice vb2 n2 vc2); have d2 := And.intro (h13.blk_cell mem5 0) (And.intro (h13.blk_cell mem4 0) (h13.blk_cell mem4 1)); have d3 := And.intro (h14.blk_cell mem5 0) (And.intro (h14.blk_cell mem4 0) (h14.blk_cell mem4 1)); have H14 := hide (HB.out _ _ _ h14.f1.d2); clear h13 h14 H12 hn2))
              all_goals
                clear d0 d1 l11 l12
                go_wp2_with fail
                go_roundw
                case rel => exact ⟨k2 + 1, by omega, by go_num, by rw [HX.out, if_pos (by rw [D1.out, D2.out]; rfl), adjL_snoc, HT.out, HZ.out]; exact H14.out.d1⟩
                case measure => simp [intOf]; omega
            · have D1 := hide (decide_eq_true h1)
              have D2 := hide (decide_eq_false h2)
              clear h1 h2
              go_wp2_with (first
                | (with_reducible refine wpList_load_ag (cs := [sv x1, sv x2]) rfl agPair (.tmp 35) rfl rfl rfl HCS.out ?_)
                | ((with_reducible refine wpList_alloc_ag rfl agPair rfl H7.out ?_); intro g9 w9 h9; have H9 := hide h9; clear h9 H7)
                | ((with_reducible refine wpList_store_ag (cs := [sv x1, sv x2]) rfl agPair (.tmp 10) (.tmp 36) rfl rfl rfl rfl rfl HONE.out H9.out ?_); intro w10 h10; have e0 : w10.cell? ⟨g9, 0, none⟩ = some (.string ⟨x1.toArray⟩) := h10.blk_cell mem0 0; have e1 : w10.cell? ⟨g9, 1, none⟩ = some (.string ⟨x2.toArray⟩) := h10.blk_cell mem0 1; have l1 := h10.set_lookup mem3 x1 HO1.out; have l2 := h10.set_lookup mem3 x2 HO2.out; rw [has_putAll, D1.out] at l1; rw [has_putAll, D2.out] at l2; have H10 := hide h10.drop; clear h10 H9))
              go_roundw
              case rel => exact ⟨k2 + 1, by omega, by go_num, by rw [HX.out, if_neg (by rw [D1.out, D2.out]; decide), List.append_nil, HT.out]; exact H10.out⟩
              case measure => simp [intOf]; omega
          · have D1 := hide (decide_eq_false h1)
            clear h1
            go_wp2_with (first
              | (with_reducible refine wpList_load_ag (cs := [sv x1, sv x2]) rfl agPair (.tmp 35) rfl rfl rfl HCS.out ?_)
              | ((with_reducible refine wpList_alloc_ag rfl agPair rfl H7.out ?_); intro g9 w9 h9; have H9 := hide h9; clear h9 H7)
              | ((with_reducible refine wpList_store_ag (cs := [sv x1, sv x2]) rfl agPair (.tmp 10) (.tmp 36) rfl rfl rfl rfl rfl HONE.out H9.out ?_); intro w10 h10; have e0 : w10.cell? ⟨g9, 0, none⟩ = some (.string ⟨x1.toArray⟩) := h10.blk_cell mem0 0; have l1 := h10.set_lookup mem3 x1 HO1.out; rw [has_putAll, D1.out] at l1; have H10 := hide h10.drop; clear h10 H9))
            go_roundw
            case rel => exact ⟨k2 + 1, by omega, by go_num, by rw [HX.out, if_neg (by rw [D1.out]; simp), List.append_nil, HT.out]; exact H10.out⟩
            case measure => simp [intOf]; omega
        · have h8 := H7.out
          rw [List.take_of_length_le (by omega)] at h8
          have h9 := h8.mrows_persist.f2
          have hSl : (inEdges N es).length ≤ 50000 := by
            have := List.length_filter_le (fun e : Str × Str => decide (e.1 ∈ N) && decide (e.2 ∈ N)) es
            unfold inEdges; omega
          have hcl : ∀ a ∈ N, ∀ z ∈ (fun q => (kget (adjL (inEdges N es)) q).getD []) a, z ∈ N := fun a _ z hz => by
            simp only [adjL_get] at hz
            have := edgesN_mem.1 hz
            have := (List.mem_filter.1 this).2
            simp at this; exact this.2
          have HNX := hide (funext (adjL_get (inEdges N es)))
          generalize hT : adjL (inEdges N es) = tos at h9 hcl HNX
          generalize hSS : inEdges N es = S0 at HNX hSl
          have HSS := hide hSS
          have HCL := hide hcl
          have H9 := hide h9
          clear h8 h9 H7 hT hcl hSS
          go_wp2_with (first
            | ((with_reducible refine wpList_makeMap_st rfl 69 rfl sv okStr mv H9.out ?_); intro mr w10 h10; have H10 := hide h10.f1; clear h10 H9)
            | (refine wpList_range_st rfl (.tmp 61) 66 rfl mapSet rfl H10.out ?_; intro r w11 h11; have H11 := hide (h11.psets_nil (rB (edgesN S0))).f1; clear h11 H10))
          go_loopg [13] (putAll [] N).length (fun g v13 wr => PE3 b L (rB (edgesN S0)) N ma mr r ms gt tos g v13 wr)
          case atStart => exact ⟨_, _, [], fun x hx => Or.inl (mem_putAll.2 hx), fun p hp => mem_putAll.1 (List.mem_map_of_mem hp), Nat.le_refl _, H11.out⟩
          case round =>
            obtain ⟨left, last, rs, hk, hlN, hg, hs⟩ := hrel
            have H12 := hide hs
            have HK := hide hk
            have HLN := hide hlN
            clear hs hk hlN H11
            by_cases hne : left = []
            · subst hne
              have HKR : Hid (∀ x ∈ N, x ∈ keysOf rs) := hide (fun x hx => by rcases HK.out x hx with h | h; (cases h); exact h)
              have h13 := H12.out.rng_done
              have hkl := putAll_len N []
              have HIS := hide (inc_sortS (nodup_putAll N (kvs := []) (by simp)))
              have HMS : Hid (∀ y, y ∈ sortS (keysOf (putAll [] N)) ↔ y ∈ N) := hide (fun y => by rw [mem_sortS, mem_putAll])
              have hSl2 : (sortS (keysOf (putAll [] N))).length ≤ 1000 := by
                have : (sortS (keysOf (putAll [] N))).length = (keysOf (putAll [] N)).length := (List.mergeSort_perm _ _).length_eq
                rw [this, List.length_map]; simp at hkl; omega
              clear HK HLN
              go_wp2_with (first
                | (refine wpList_next_st rfl (.tmp 62) rfl rfl H12.out (fun _ => ?_) (fun i p w' hi => absurd hi (by simp)); have H13 := hide h13; clear h13 H12)
                | (go_at_call 37; refine (sorted_calls H13.out (by simp at hkl; omega)).mono ?_; rintro x w14 ⟨sb, sn, sc, rfl, h14⟩; have H14 := hide h14.d1.d3.d3; clear h14 H13)
                | ((with_reducible refine wpList_makeMap_st rfl 66 rfl sv okStr Value.bool H14.out ?_); intro mp w15 h15; have H15 := hide h15; clear h15 H14)
                | ((with_reducible refine wpList_alloc1_st rfl 66 rfl (Try.zeroValue66 _) rfl H15.out ?_); intro gp w16 h16; have H16 := hide h16; clear h16 H15)
                | ((with_reducible refine wpList_store1_st rfl 66 (.tmp 16) (.tmp 74) rfl szSet rfl rfl rfl rfl H16.out ?_); intro w17 h17; have H17 := hide (h17.f1.f2.rows_nil 24 strE.in); clear h17 H16))
              generalize hS : sortS (keysOf (putAll [] N)) = S at H17 HIS HMS hSl2
              clear hS
              obtain ⟨lb, lc, hlv, _⟩ := H17.out.rows_form mem1
              simp only [Value.slice.injEq] at hlv
              obtain ⟨-, rfl, -⟩ := hlv
              go_loopg [14, 15] S.length (fun g v14 v15 wr => PE4 b L (rB (edgesN S0)) (eqv (edgesN S0)) N (partsR (eqv (edgesN S0)) S.length S) rs mr mp gp g v14 v15 wr)
              case atStart => exact ⟨[], S, _, ⟨_, _, _, rfl⟩, ⟨_, _, rfl⟩, HIS.out, fun x hx => (HMS.out x).1 hx, rfl, Nat.le_refl _, by simpa using hSl2, H17.out⟩
              case round =>
                obtain ⟨out, lf, pk, ⟨ob, on', oc, rfl⟩, ⟨lb2, lc2, rfl⟩, hinc, hlN, heq, hg, hol, hs⟩ := hrel
                have H18 := hide hs
                have HINC := hide hinc
                have HLN := hide hlN
                have HEQ := hide heq
                clear hs hinc hlN heq H17
                by_cases hnil : lf = []
                · subst hnil
                  have hf := H18.out.d1.d1.d1.d1.d1
                  rw [show out = partsR (eqv (edgesN S0)) S.length S by simpa [partsR_nil] using HEQ.out] at hf
                  have HF := hide hf
                  clear H18 hf
                  go_wp2_with fail
                  go_ret
                  exact ⟨.slice ob on' oc, S, rfl, HIS.out, HMS.out, by rw [HSS.out]; exact HF.out⟩
                · have hpos : 0 < lf.length := List.length_pos_iff.2 hnil
                  have hpos' : (0 : Int) < lf.length := by omega
                  obtain ⟨gl, rfl⟩ := H18.out.rows_base mem1 hpos
                  obtain ⟨hc0, hok0⟩ := H18.out.sc_row_at mem1 (i := 0) hpos
                  have cp : wr.cell? ⟨gp, 0, none⟩ = some (.map (some mp)) := H18.out.blk_cell mem3 0
                  obtain ⟨hst1, hst2⟩ := lf_step (eqv_refl (edgesN S0)) hpos
                  have h0N := HLN.out _ (List.getElem_mem hpos)
                  obtain ⟨x0, hx0⟩ : ∃ x, lf[0] = x := ⟨_, rfl⟩
                  rw [hx0] at hc0 hok0 hst1 hst2 h0N
                  have HOK0 := hide hok0
                  have HST := hide hst1
                  have H0N := hide h0N
                  have H19 := hide H18.out.f2
                  clear hok0 hst1 h0N hx0 H18 hnil
                  go_wp2_with (first
                    | (refine wpList_clear_st rfl 66 (.tmp 81) rfl mapSet rfl H19.out ?_; intro w20 h20; have H20 := hide h20; clear h20 H19))
                  go_loopw [84] (fun i wr => PE5 b L (eqv (edgesN S0) x0) lf (HP.rows 24 strE.in (.slice ob on' oc) out) (HP.rows 9 strE (.slice (some ⟨gl, 0, none⟩) lf.length lc2) lf) (HP.blk gp (.cells #[.map (some mp)] 66)) (HP.psets (rB (edgesN S0)) rs) (HP.map sv okStr mv mr rs) mp i wr) (fun i _ => lf.length - (intOf i).toNat)
                  case atStart => exact ⟨0, by omega, rfl, H20.out⟩
                  case round =>
                    obtain ⟨k5, hk5, rfl, hs⟩ := hrel
                    have H21 := hide hs
                    clear hs H20
                    have cp : wr.cell? ⟨gp, 0, none⟩ = some (.map (some mp)) := H21.out.blk_cell mem3 0
                    by_cases hlt5 : k5 < lf.length
                    · obtain ⟨hck, hokk⟩ := H21.out.sc_row_at mem2 (i := k5) hlt5
                      have hlt5' : (k5 : Int) < lf.length := by omega
                      have HFS := hide (filter_take_succ (eqv (edgesN S0) x0) hlt5)
                      have hyN := HLN.out _ (List.getElem_mem hlt5)
                      obtain ⟨y, hy⟩ : ∃ x, lf[k5] = x := ⟨_, rfl⟩
                      rw [hy] at hck hokk HFS hyN
                      obtain ⟨m1, r1, s1⟩ := H21.out.reach_at mem5 mem4 (HKR.out x0 H0N.out) HOK0.out
                      obtain ⟨m2, r2, s2⟩ := H21.out.reach_at mem5 mem4 (HKR.out y hyN) hokk
                      have t1 := s1 y hokk
                      have t2 := s2 x0 HOK0.out
                      have HOKY := hide hokk
                      clear s1 s2 hokk hyN hy
                      cases q1 : rB (edgesN S0) x0 y with
                      | true =>
                        cases q2 : rB (edgesN S0) y x0 with
                        | true =>
                          have HQ : Hid (eqv (edgesN S0) x0 y = true) := hide (by simp [eqv, q1, q2])
                          rw [q1] at t1; rw [q2] at t2
                          clear q1 q2
                          go_wp2_with (at_mapUpdate; refine wpList_mapUpdate_st rfl 66 (.tmp 100) (.tmp 101) (.const (.bool true)) rfl keyStr mapSet y true rfl rfl HOKY.out rfl H21.out ?_; intro w22 h22; have H22 := hide h22; clear h22 H21)
                          go_roundw
                          case rel => exact ⟨k5 + 1, by omega, by go_num, by rw [HFS.out, if_pos HQ.out, putAll_snoc]; exact H22.out⟩
                          case measure => simp [intOf]; omega
                        | false =>
                          have HQ : Hid (eqv (edgesN S0) x0 y = false) := hide (by simp [eqv, q1, q2])
                          rw [q1] at t1; rw [q2] at t2
                          clear q1 q2
                          go_wp2_with fail
                          go_roundw
                          case rel => exact ⟨k5 + 1, by omega, by go_num, by rw [HFS.out, if_neg (by rw [HQ.out]; decide), List.append_nil]; exact H21.out⟩
                          case measure => simp [intOf]; omega
                      | false =>
                        have HQ : Hid (eqv (edgesN S0) x0 y = false) := hide (by simp [eqv, q1])
                        rw [q1] at t1
                        clear q1
                        go_wp2_with fail
                        go_roundw
                        case rel => exact ⟨k5 + 1, by omega, by go_num, by rw [HFS.out, if_neg (by rw [HQ.out]; decide), List.append_nil]; exact H21.out⟩
                        case measure => simp [intOf]; omega
                    · have h22 := H21.out
                      rw [List.take_of_length_le (by omega)] at h22
                      have hFl := putAll_len (lf.filter (eqv (edgesN S0) x0)) []
                      have hFl2 : (lf.filter (eqv (edgesN S0) x0)).length ≤ lf.length := List.length_filter_le _ _
                      have HSF : Hid (sortS (keysOf (putAll [] (lf.filter (eqv (edgesN S0) x0)))) = lf.filter (eqv (edgesN S0) x0)) := hide (by rw [putAll_inc (HINC.out.filter _).nodup, sortS_inc (HINC.out.filter _)])
                      have H22 := hide h22
                      clear h22 H21
                      go_wp2_with (first
                        | (go_at_call 37; refine (sorted_calls H22.out (by simp at hFl; omega)).mono ?_; rintro x w23 ⟨sb, sn, sc, rfl, h23⟩; rw [HSF.out] at h23; have H23 := hide h23.persist; clear h23 H22)
                        | (refine wpList_build1_st (E := strE.in) rfl (.tmp 105) slStrs rfl (lf.filter (eqv (edgesN S0) x0)) rfl H23.out ?_ ?_; exact (fun _ _ hs => ⟨_, rfl, hs.sl_mem mem0⟩); intro g24 w24 h24; have H24 := hide h24.f3; clear h24 H23)
                        | (at_builtin; refine wpList_append_st rfl (.tmp 103) (.tmp 106) slStrs rfl H24.out (Src.of_rows mem1) rfl rfl ?_ ?_ ?_; (simp; unfold maxLen; omega); (simp; omega); intro vb3 n3 vc3 w25 hn3 h25; have H25 := hide h25.d1.d1.f2.f1.b3; clear h25 H24 hn3)
                        | (go_at_call 38; refine (deletef_calls H25.out).mono ?_; rintro x w26 ⟨n26, rfl, h26⟩; rw [filter_has] at h26; have H26 := hide h26.f3; clear h26 H25))
                      obtain ⟨lb3, lc3, hlv3, _⟩ := H26.out.rows_form mem1
                      simp only [Value.slice.injEq] at hlv3
                      obtain ⟨-, rfl, -⟩ := hlv3
                      go_roundg (gk - 1)
                      case measure => omega
                      case rel => exact ⟨_, _, _, ⟨_, _, _, rfl⟩, ⟨_, _, rfl⟩, HINC.out.filter _, fun x hx => HLN.out x (List.mem_filter.1 hx).1, by rw [← HEQ.out, HST.out, List.append_assoc]; rfl, by omega, by simp; omega, H26.out⟩
            · have hrok := H12.out.rng_ok
              have HRK := hide hrok
              clear hrok
              go_wp2_with (first
                | (refine wpList_next_st rfl (.tmp 62) rfl rfl H12.out (fun h0 => absurd h0 hne) (fun i p w13 hi h13 => ?_); have hpl := List.mem_of_getElem? hi; have hpN := HLN.out p hpl; have HOKP : Hid (okStr p.1) := hide (by
                      obtain ⟨p', hp', hpe⟩ := List.mem_map.1 (mem_putAll.2 hpN)
                      rw [← hpe]; exact HRK.out p' hp'); have HPN := hide hpN; have HI := hide hi; have lk := h13.rng_entry (P := Try.prog); have H13 := hide h13; clear h13 H12 hi hpl hpN)
                | (go_at_call 36; refine (led1_calls H13.out mem4 mem3 p.1 HOKP.out N HPN.out HCL.out hNl).mono ?_; rintro x w14 ⟨m14, kvs14, rfl, htru, hrch, h14⟩; rw [HNX.out] at hrch; have HRC := hide hrch; have HTR := hide htru; have H14 := hide h14; clear htru hrch h14 H13)
                | (at_mapUpdate; refine wpList_mapUpdate_st rfl 69 (.tmp 67) (.tmp 68) (.tmp 71) rfl keyStr Try.underlying69 p.1 m14 rfl rfl HOKP.out rfl H14.out.f3 ?_; intro w15 h15; have H15 := hide h15; clear h15 H14))
              have h16 := (H15.out.f1.f3.f1.psets_add (F := rB (edgesN S0)) (x := p.1) (fun y => by rw [Bool.eq_iff_iff, has_iff HTR.out, HRC.out, rB_iff])).f2
              have H16 := hide h16
              have hil := (List.getElem?_eq_some_iff.1 HI.out).1
              have hel3 : (left.eraseIdx i).length = left.length - 1 := List.length_eraseIdx_of_lt hil
              clear h16 H15
              go_roundg (gk - 1)
              case measure => omega
              case rel => exact ⟨_, _, _, fun x hx => by
                rcases HK.out x hx with h | h
                · rcases keys_erase HI.out h with h | h
                  · exact Or.inl h
                  · exact Or.inr (keysOf_kput.2 (Or.inr h))
                · exact Or.inr (keysOf_kput.2 (Or.inl h)), fun p' hp' => HLN.out p' (List.mem_of_mem_eraseIdx hp'), by omega, H16.out⟩
end Go.Proofs.Ytmebmgbjpbapjaa

namespace Go.Proofs.Ytmebmgbjpbapjaa
open Go.RowKit Go.Maps Go.MapKept
variable {b : Env} {L : List HP} {w : World}

/-- Who calls whom. -/
def callE (F : List FRec) (G : List FRec) : List (Str × Str) := G.flatMap (fun x => (nxF F x.name).map (fun y => (x.name, y)))
theorem callE_succ {F G : List FRec} {k : Nat} (hk : k < G.length) {x : FRec} (hx : G[k] = x) : callE F (G.take (k + 1)) = callE F (G.take k) ++ (nxF F x.name).map (fun y => (x.name, y)) := by
  rw [List.take_succ_eq_append_getElem hk, hx]; simp [callE]
theorem callE_len {F : List FRec} (h : ∀ f, (nxF F f).length ≤ 100) : ∀ G : List FRec, (callE F G).length ≤ G.length * 100
  | [] => by simp [callE]
  | x :: G => by
    have h1 := callE_len h G
    have h2 := h x.name
    simp only [callE, List.flatMap_cons, List.length_append, List.length_map, List.length_cons] at h1 ⊢
    omega
theorem partsR_len {q : Str → Str → Bool} : ∀ (n : Nat) (l : List Str), (partsR q n l).length ≤ n
  | 0, _ => by simp [partsR]
  | _ + 1, [] => by simp [partsR]
  | n + 1, x :: l => by
    simp only [partsR, List.length_cons]
    have := partsR_len (q := q) n ((x :: l).filter (fun y => !q x y))
    omega
theorem parts_facts {nxt : Str → List Str} {S N : List Str} (hinc : Inc S) (hmem : ∀ y, y ∈ S ↔ y ∈ N) (hN : N.length ≤ 100) : (∀ P ∈ partsR (eqv nxt) S.length S, 0 < P.length ∧ P.length ≤ 1000) ∧ (partsR (eqv nxt) S.length S).length ≤ 1000 := by
  have h2 := nodup_len S N hinc.nodup (fun y hy => (hmem y).1 hy)
  refine ⟨fun P hP => ⟨(parts_ne (eqv_refl _) (fun _ _ h => eqv_symm h) (fun _ _ _ h k => eqv_trans h k) hP).1, ?_⟩, ?_⟩
  · obtain ⟨zz, _, hz⟩ := parts_mem (q := eqv nxt) (fun _ _ h => eqv_symm h) (fun _ _ _ h k => eqv_trans h k) _ _ P hP
    have h1 : P.length ≤ S.length := by rw [hz]; exact List.length_filter_le _ _
    omega
  · have h1 := partsR_len (q := eqv nxt) S.length S
    omega
theorem szPairs : (Try.prog.info? 25).map (·.size) = some 1 := by kernel_rfl
def EO1 (b : Env) (L : List HP) (F : List FRec) (B : HP) (g4 : Nat) (v3 i : Value) (wr : World) : Prop := ∃ k : Nat, k ≤ F.length ∧ i = .int .i64 k ∧ ∃ base cap be ce, v3 = .slice base k cap ∧
  St b (HP.blk g4 (.cells [.slice be (callE F (F.take k)).length ce].toArray 25) :: HP.rows 35 pairE (.slice be (callE F (F.take k)).length ce) (callE F (F.take k)) :: HP.rows 9 strE v3 ((F.take k).map (·.name)) :: B :: L) wr
def EO2 (b : Env) (L : List HP) (es0 : List (Str × Str)) (C : List Str) (x : Str) (g4 : Nat) (j : Value) (wr : World) : Prop := ∃ k : Nat, k ≤ C.length ∧ j = .int .i64 k ∧ ∃ be ce n,
  n = (es0 ++ (C.take k).map (fun y => (x, y))).length ∧ St b (HP.blk g4 (.cells [.slice be n ce].toArray 25) :: HP.rows 35 pairE (.slice be n ce) (es0 ++ (C.take k).map (fun y => (x, y))) :: L) wr
def EO3 (b : Env) (L : List HP) (es : List (Str × Str)) (RES : List (List Str)) (D E G : HP) (md : Nat) (g : Nat) (v9 v12 : Value) (wr : World) : Prop := ∃ (ps out : List (List Str)) (dn : List (Str × Bool)), (∃ base cap, v9 = .slice base ps.length cap) ∧ (∃ base n cap, v12 = .slice base n cap) ∧
  out ++ orderG es ps.length dn ps = RES ∧ (∀ P ∈ ps, 0 < P.length ∧ P.length ≤ 1000) ∧ ps.length ≤ g ∧ out.length + ps.length ≤ 1000 ∧
  St b (HP.rows 24 strE.in v9 ps :: HP.rows 24 strE.in v12 out :: HP.set md dn :: D :: E :: G :: L) wr
def EO4 (b : Env) (L : List HP) (P : List Str) (dn : List (Str × Bool)) (md : Nat) (i : Value) (wr : World) : Prop := ∃ k : Nat, k ≤ P.length ∧ i = .int .i64 k ∧ St b (HP.set md (putAll dn (P.take k)) :: L) wr

set_option linter.unusedSimpArgs false in
set_option maxRecDepth 100000 in
set_option maxHeartbeats 16000000 in
theorem order_calls (h : St b L w) {vv vl vf : Value} {F : List FRec} (hm : HP.sl funcE vf F ∈ L) (hFl : F.length ≤ 100) (hnl : ∀ f, (namesP 5 F f).length ≤ 100000) (hnx : ∀ f, (nxF F f).length ≤ 100) :
    Calls Try.prog 28 #[.agg #[vv, vl, vf]] w fun x w' => ∃ v S, x = .returned v ∧ Inc S ∧ (∀ y, y ∈ S ↔ y ∈ F.map (·.name)) ∧
      St b (HP.sl strE.in v (orderG (callE F F) (partsR (eqv (edgesN (inEdges (F.map (·.name)) (callE F F)))) S.length S).length [] (partsR (eqv (edgesN (inEdges (F.map (·.name)) (callE F F)))) S.length S)) :: L) w' := by
  obtain ⟨bf, cf, rfl, hc1, hc2⟩ := h.sl_form hm
  have hFi : (F.length : Int) ≤ 9223372036854775807 := by omega

  have H := hide h
  have HM := hide hm
  have HNL : Hid (∀ f, (namesP 5 F f).length ≤ 1000000) := hide (fun f => Nat.le_trans (hnl f) (by decide))
  have HNX := hide hnx
  have HEL := hide (callE_len (F := F) hnx)
  have HFL := hide hFl
  clear h hm hc1 hc2 hnx hnl
  go_enter Try.func28, Try.ntmps28
  go_wp2_with (first
    | ((with_reducible refine wpList_box_st (cs := [vv, vl, .slice bf F.length cf]) rfl (.tmp 0) rfl rfl H.out ?_); intro g1 w1 h1; have H1 := hide h1; clear h1 H)
    | ((with_reducible refine wpList_alloc1_st rfl 25 rfl (Try.zeroValue25 _) rfl H1.out ?_); intro g4 w2 h2; have c1 : w2.cell? ⟨g1, 2, none⟩ = some (.slice bf F.length cf) := h2.blk_cell mem1 2; have H2 := hide (((h2.rows_nil 9 strE).rows_nil 35 pairE).f2); clear h2 H1))
  go_loopw [3, 19] (fun v3 i wr => EO1 b L F (HP.blk g1 (.cells [vv, vl, .slice bf F.length cf].toArray 43)) g4 v3 i wr) (fun _ i _ => F.length - (intOf i).toNat)
  case atStart => exact ⟨0, by omega, rfl, none, 0, none, 0, rfl, H2.out⟩
  case round =>
    obtain ⟨k, hk, rfl, b3, c3, be, ce, rfl, hs⟩ := hrel
    have H3 := hide hs
    clear hs H2
    by_cases hlt : k < F.length
    · have hlt' : (k : Int) < F.length := by omega
      obtain ⟨g, o, rfl⟩ := H3.out.sl_base (up4 HM.out) (by omega) (by decide)
      obtain ⟨cs, h4⟩ := H3.out.elem (up4 HM.out) (List.getElem?_eq_getElem hlt) (by decide)
      obtain ⟨x, hx⟩ : ∃ x, F[k] = x := ⟨_, rfl⟩
      rw [hx] at h4
      obtain ⟨e1, _, _, hrd⟩ := h4.elem_rd mem0
      have HONE := hide (funcE.one hrd)
      obtain ⟨vx, hok, rfl, h5⟩ := h4.func
      have HCS2 : Hid (∀ j u, [sv x.name, Value.int .i64 x.pos, vx][j]? = some u → wr.cell? ⟨g, o + k * 3 + j, none⟩ = some u) := hide (fun j u hj => h5.elem_cell mem1 j hj)
      have HOK := hide hok
      have HES := hide (callE_succ (F := F) hlt hx)
      have HNM : Hid ((F.take (k + 1)).map (·.name) = (F.take k).map (·.name) ++ [x.name]) := hide (by rw [List.take_succ_eq_append_getElem hlt, hx]; simp)
      have hel := HEL.out (F.take k)
      have hnx := HNX.out x.name
      have hel2 : (callE F (F.take k)).length ≤ 10000 := by rw [List.length_take] at hel; omega
      have hnl : ((F.take k).map (·.name)).length = k := by simp; omega
      have q1 : ((F.take k).map (·.name)).length + [x.name].length ≤ maxLen := by rw [hnl]; unfold maxLen; simp; omega
      have q2 : (((F.take k).map (·.name)).length + [x.name].length) * 16 ≤ 140737488355328 := by rw [hnl]; simp; omega
      have HNMl := hide hnl
      generalize callE F (F.take k) = es0 at H3 h5 HES hel2
      generalize (F.take k).map (·.name) = ns0 at H3 h5 HNM q1 q2 HNMl
      have H5 := hide h5.drop.drop
      clear h4 h5 hrd hok hx H3 hel hnl
      go_wp2_with (first
        | (with_reducible refine wpList_load_ag (cs := [sv x.name, .int .i64 x.pos, vx]) rfl agFunc (.tmp 21) rfl rfl rfl HCS2.out ?_)
        | ((with_reducible refine wpList_alloc_ag rfl agFunc rfl H5.out ?_); intro g6 w6 h6; have H6 := hide h6; clear h6 H5)
        | ((with_reducible refine wpList_store_ag (cs := [sv x.name, .int .i64 x.pos, vx]) rfl agFunc (.tmp 6) (.tmp 22) rfl rfl rfl rfl rfl HONE.out H6.out ?_); intro w7 h7; have n0 : w7.cell? ⟨g6, 0, none⟩ = some (.string ⟨x.name.toArray⟩) := h7.blk_cell mem0 0; have H7 := hide h7; clear h7 H6)
        | (refine wpList_build1_st (E := strE) rfl (.tmp 25) slStr rfl x.name rfl H7.out ?_ ?_; exact (fun _ _ _ => ⟨rfl, HOK.out⟩); intro g8 w8 h8; have H8 := hide h8.f4; clear h8 H7)
        | (at_builtin; refine wpList_append_st rfl (.tmp 23) (.tmp 26) slStr rfl H8.out (Src.of_rows mem1) rfl rfl q1 q2 ?_; intro vb3 n3 vc3 w9 hn3 h9; have n1 : w9.cell? ⟨g6, 0, none⟩ = some (.string ⟨x.name.toArray⟩) := h9.blk_cell mem2 0; have H9 := hide h9.d1; have HN3 := hide hn3; clear h9 H8 hn3)
        | (refine wpList_loadB_st (cs := [vv, vl, .slice (some ⟨g, o, none⟩) F.length cf]) rfl agProg (.tmp 1) rfl rfl rfl H9.out mem4 ?_)
        | (go_at_call 22; refine (gcalls_calls H9.out (up5 HM.out) x.name (HNL.out _)).mono ?_; rintro z w10 ⟨vC, rfl, h10⟩; obtain ⟨bC, cC, hvC, _, hcC⟩ := h10.sl_form mem0; have hCI : ((setS (namesP 5 F x.name)).length : Int) ≤ 9223372036854775807 := (by unfold maxLen at hcC; omega); subst hvC; generalize hC : setS (namesP 5 F x.name) = C at h10 hCI ⊢; have HC : Hid (nxF F x.name = C) := hide hC; have H10 := hide h10.f3.f4.f1; clear h10 H9 hcC hC))
      have hCl : C.length ≤ 100 := by rw [← HC.out]; exact hnx
      rw [HC.out] at HES
      clear hnx
      go_loopw [33] (fun j wr => EO2 b (HP.sl strE (.slice bC C.length cC) C :: HP.rows 9 strE (.slice vb3 n3 vc3) (ns0 ++ [x.name]) :: HP.blk g6 (.cells [sv x.name, .int .i64 x.pos, vx].toArray 48) :: HP.blk g1 (.cells [vv, vl, .slice (some ⟨g, o, none⟩) F.length cf].toArray 43) :: L) es0 C x.name g4 j wr) (fun j _ => C.length - (intOf j).toNat)
      case atStart => exact ⟨0, by omega, rfl, be, ce, es0.length, by simp, by simpa using H10.out⟩
      case round =>
        obtain ⟨j, hj, rfl, be2, ce2, n2, hn2, hs⟩ := hrel
        have H11 := hide hs
        have HN2 := hide hn2
        clear hs hn2 H10
        have e0 : wr.cell? ⟨g4, 0, none⟩ = some (.slice be2 n2 ce2) := H11.out.blk_cell mem0 0
        have e1 : wr.cell? ⟨g6, 0, none⟩ = some (.string ⟨x.name.toArray⟩) := H11.out.blk_cell mem4 0
        by_cases hltj : j < C.length
        · have hltj' : (j : Int) < C.length := by omega
          obtain ⟨gC, oC, hgC⟩ := H11.out.sl_base mem2 (by omega) Nat.one_pos
          subst hgC
          obtain ⟨hcy, hoky⟩ := H11.out.sc_at mem2 hltj
          have htk : (C.take (j + 1)).map (fun y => (x.name, y)) = (C.take j).map (fun y => (x.name, y)) ++ [(x.name, C[j])] := by rw [List.take_succ_eq_append_getElem hltj, List.map_append, List.map_singleton]
          obtain ⟨y, hy⟩ : ∃ y, C[j] = y := ⟨_, rfl⟩
          rw [hy] at hcy hoky htk
          have HAP : Hid (es0 ++ (C.take (j + 1)).map (fun y => (x.name, y)) = (es0 ++ (C.take j).map (fun y => (x.name, y))) ++ [(x.name, y)]) := hide (by rw [htk, ← List.append_assoc])
          have HOKY := hide hoky
          have hpl : (es0 ++ (C.take j).map (fun y => (x.name, y))).length ≤ 20000 := by simp; omega
          generalize es0 ++ (C.take j).map (fun y => (x.name, y)) = es1 at H11 HN2 HAP hpl
          have q3 : es1.length + [(x.name, y)].length ≤ maxLen := by unfold maxLen; simp; omega
          have q4 : (es1.length + [(x.name, y)].length) * 32 ≤ 140737488355328 := by simp; omega
          clear hy hoky htk hpl
          go_wp2_with (first
            | (refine wpList_build1_st (E := pairE) rfl (.tmp 41) slPair rfl (x.name, y) rfl H11.out ?_ ?_; exact (fun _ _ _ => ⟨rfl, HOK.out, HOKY.out⟩); intro g12 w12 h12; have H12 := hide h12.f2; clear h12 H11)
            | (at_builtin; refine wpList_append_st rfl (.tmp 37) (.tmp 42) slPair rfl H12.out (Src.of_rows mem1) rfl rfl q3 q4 ?_; intro vb4 n4 vc4 w13 hn4 h13; have H13 := hide h13.d1.f1; have HN4 := hide hn4; clear h13 H12 hn4)
            | ((with_reducible refine wpList_storeF_st (cs := [.slice be2 n2 ce2]) (ds := [.slice vb4 n4 vc4]) rfl 25 (.tmp 4) (.tmp 43) rfl szPairs rfl rfl rfl rfl H13.out (by simp) rfl ?_); intro w14 h14; have H14 := hide h14; clear h14 H13))
          go_roundw
          case rel => exact ⟨j + 1, by omega, by go_num, vb4, vc4, n4, by rw [HAP.out, HN4.out]; simp, by rw [HAP.out]; exact H14.out⟩
          case measure => exact meas_step hltj
        · have hn2 := HN2.out
          have h12 := H11.out.d2.d3
          rw [List.take_of_length_le (show C.length ≤ j by omega), ← HES.out] at h12 hn2
          subst hn2
          rw [← HNM.out] at h12
          have H12 := hide h12
          clear h12 H11
          go_wp2_with fail
          go_roundw
          case rel => exact ⟨k + 1, by omega, by go_num, vb3, vc3, be2, ce2, by rw [HN3.out, HNMl.out]; rfl, H12.out⟩
          case measure => exact meas_step hlt
    · have hke : F.take k = F := List.take_of_length_le (by omega)
      have hkF : k = F.length := by omega
      rw [hke] at H3
      have hel := HEL.out F
      have hel2 : (callE F F).length ≤ 50000 := by omega
      have hNl : (F.map (·.name)).length ≤ 1000 := by rw [List.length_map]; omega
      have hkl : k = (F.map (·.name)).length := by rw [List.length_map]; exact hkF
      have hnlt : ¬ (k : Int) < F.length := by omega
      clear hkF hlt hk
      generalize hES : callE F F = es at H3 hel2
      have hNF := HFL.out
      have hNl2 : (F.map (·.name)).length ≤ 100 := by rw [List.length_map]; exact hNF
      generalize hNN : F.map (·.name) = N at H3 hNl hkl hNl2
      subst hkl
      have h4 := H3.out.f2.persist.f2.persist
      have e0 : wr.cell? ⟨g4, 0, none⟩ = some (.slice be es.length ce) := h4.blk_cell mem2 0
      have H4 := hide h4
      have HESe := hide hES
      have HNNe := hide hNN
      clear hke hel h4 H3 hES hNN hNF
      go_wp2_with (first
        | (go_at_call 15; refine (gpartsO_calls H4.out (N := N) (es := es) mem1 mem0 hNl hel2).mono ?_; rintro z w13 ⟨v9, S, rfl, hinc, hmem, h13⟩; have hPF := parts_facts (nxt := edgesN (inEdges N es)) hinc hmem hNl2; have HINC := hide hinc; have HMEM := hide hmem; generalize hps : partsR (eqv (edgesN (inEdges N es))) S.length S = ps0 at h13 hPF; have HPS := hide hps; obtain ⟨hPP, hpl⟩ := hPF; obtain ⟨b9, c9, hv9, _⟩ := h13.rows_form mem0; subst hv9; have HPP := hide hPP; have H13 := hide h13.d2.d3.f2.f1; clear h13 H4 hinc hmem hps hPP)
        | ((with_reducible refine wpList_makeMap_st rfl 66 rfl sv okStr Value.bool H13.out ?_); intro md w14 h14; have H14 := hide h14; clear h14 H13)
        | ((with_reducible refine wpList_alloc1_st rfl 66 rfl (Try.zeroValue66 _) rfl H14.out ?_); intro g10 w15 h15; have H15 := hide h15; clear h15 H14)
        | ((with_reducible refine wpList_store1_st rfl 66 (.tmp 10) (.tmp 49) rfl szSet rfl rfl rfl rfl H15.out ?_); intro w16 h16; have H16 := hide ((h16.f1.f2.rows_nil 24 strE.in).f1); clear h16 H15))
      go_loopg [9, 12] ps0.length (fun gg v9 v12 wr => EO3 b L es (orderG es ps0.length [] ps0) (HP.blk g10 (.cells #[.map (some md)] 66)) (HP.blk g4 (.cells [.slice be es.length ce].toArray 25)) (HP.sl pairE (.slice be es.length ce) es) md gg v9 v12 wr)
      case atStart => exact ⟨ps0, [], [], ⟨_, _, rfl⟩, ⟨_, _, _, rfl⟩, by simp, HPP.out, Nat.le_refl _, by simpa using hpl, H16.out⟩
      case round =>
        obtain ⟨ps, out, dn, ⟨b9', c9', rfl⟩, ⟨bo, no, co, rfl⟩, heq, hPs, hgg, hol, hs⟩ := hrel
        have H17 := hide hs
        have HEQ := hide heq
        have HPs := hide hPs
        clear hs heq hPs H16
        by_cases hnil : ps = []
        · subst hnil
          have hf := H17.out.f1.persist.d1.d1.d1.d1.d1
          rw [show out = orderG es ps0.length [] ps0 by have := HEQ.out; simpa [orderG] using this, ← HPS.out] at hf
          have HF := hide hf
          clear H17 hf
          go_wp2_with fail
          go_ret
          exact ⟨.slice bo no co, S, rfl, HINC.out, by rw [HNNe.out]; exact HMEM.out, by rw [HESe.out, HNNe.out]; exact HF.out⟩
        · have hpos : 0 < ps.length := List.length_pos_iff.2 hnil
          have hpos' : (0 : Int) < ps.length := by omega
          have hpsI : (ps.length : Int) ≤ 9223372036854775807 := by omega
          obtain ⟨gx, hgx⟩ := H17.out.rows_base mem0 hpos
          subst hgx
          obtain ⟨m, hm⟩ : ∃ m, ps.length = m + 1 := ⟨ps.length - 1, by omega⟩
          cases hfi : ps.findIdx? (readyR es dn) with
          | none =>
            have HFI : Hid (idxR ps (readyR es dn) = -1) := hide (by unfold idxR; rw [hfi])
            have hrs : out = orderG es ps0.length [] ps0 := by
              have := HEQ.out
              rw [hm] at this
              simpa [orderG, hfi] using this
            have HRS := hide hrs
            clear hfi hrs hnil hm
            go_wp2_with (go_at_call 48; refine (indexo_calls H17.out mem3 mem4 mem2 mem1).mono ?_; rintro z w18 ⟨h18, rfl⟩; rw [HFI.out]; have H18 := hide h18; clear h18 H17)
            have hf := H18.out.f1.persist.d1.d1.d1.d1.d1
            rw [HRS.out, ← HPS.out] at hf
            have HF := hide hf
            clear H18 hf
            go_ret
            exact ⟨.slice bo no co, S, rfl, HINC.out, by rw [HNNe.out]; exact HMEM.out, by rw [HESe.out, HNNe.out]; exact HF.out⟩
          | some i =>
            obtain ⟨hil, _, _⟩ := List.findIdx?_eq_some_iff_getElem.1 hfi
            have HFI : Hid (idxR ps (readyR es dn) = (i : Int)) := hide (by unfold idxR; rw [hfi])
            have hil' : (i : Int) < ps.length := by omega
            have hi0 : ¬ (i : Int) < 0 := by omega
            have hi00 : (0 : Int) ≤ i := by omega
            have hres : out ++ (ps[i] :: orderG es m (putAll dn ps[i]) (ps.eraseIdx i)) = orderG es ps0.length [] ps0 := by
              have := HEQ.out
              rw [hm] at this
              simpa [orderG, hfi, List.getElem?_eq_getElem hil] using this
            have hPi := HPs.out ps[i] (List.getElem_mem hil)
            have hel : (ps.eraseIdx i).length = m := by rw [List.length_eraseIdx, if_pos hil]; omega
            have HPs2 : Hid (∀ P ∈ ps.eraseIdx i, 0 < P.length ∧ P.length ≤ 1000) := hide (fun P hP => HPs.out P (List.mem_of_mem_eraseIdx hP))
            obtain ⟨P, hP⟩ : ∃ P, ps[i] = P := ⟨_, rfl⟩
            rw [hP] at hres hPi
            have HP' := hide hP
            have HRS := hide hres
            have HEL2 := hide hel
            have HMM := hide hm
            clear hfi hres hnil hP hel hm
            obtain ⟨hPpos, hPl⟩ := hPi
            have hPI : (P.length : Int) ≤ 9223372036854775807 := by omega
            go_wp2_with (go_at_call 48; refine (indexo_calls H17.out mem3 mem4 mem2 mem1).mono ?_; rintro z w18 ⟨h18, rfl⟩; rw [HFI.out]; obtain ⟨vP, hcP, h19⟩ := h18.rows_in_at hil; rw [HP'.out] at h19; obtain ⟨bP, cP, hvP, _⟩ := h19.sl_form mem0; subst hvP; have H19 := hide h19.f3; clear h18 h19 H17)
            go_loopw [64] (fun i wr => EO4 b (HP.sl strE (.slice bP P.length cP) P :: HP.rows 24 strE.in (.slice (some ⟨gx, 0, none⟩) ps.length c9') ps :: HP.rows 24 strE.in (.slice bo no co) out :: HP.blk g10 (.cells #[.map (some md)] 66) :: HP.blk g4 (.cells [.slice be es.length ce].toArray 25) :: HP.sl pairE (.slice be es.length ce) es :: L) P dn md i wr) (fun i _ => P.length - (intOf i).toNat)
            case atStart => exact ⟨0, by omega, rfl, H19.out⟩
            case round =>
              obtain ⟨q, hq, rfl, hs⟩ := hrel
              have H20 := hide hs
              clear hs H19
              have cm : wr.cell? ⟨g10, 0, none⟩ = some (.map (some md)) := H20.out.blk_cell mem4 0
              by_cases hltq : q < P.length
              · have hltq' : (q : Int) < P.length := by omega
                obtain ⟨gP, oP, hgP⟩ := H20.out.sl_base mem1 (by omega) Nat.one_pos
                subst hgP
                obtain ⟨hcq, hokq⟩ := H20.out.sc_at mem1 hltq
                have HOKQ := hide hokq
                have HTQ := hide (List.take_succ_eq_append_getElem hltq)
                clear hokq
                go_wp2_with (at_mapUpdate; refine wpList_mapUpdate_st rfl 66 (.tmp 68) (.tmp 69) (.const (.bool true)) rfl keyStr mapSet P[q] true rfl rfl HOKQ.out rfl H20.out ?_; intro w21 h21; have H21 := hide h21; clear h21 H20)
                go_roundw
                case rel => exact ⟨q + 1, by omega, by go_num, by rw [HTQ.out, putAll_snoc]; exact H21.out⟩
                case measure => exact meas_step hltq
              · have h21 := H20.out
                rw [List.take_of_length_le (show P.length ≤ q by omega)] at h21
                obtain ⟨vP2, hcP2, h22⟩ := h21.f2.rows_in_at hil
                rw [HP'.out] at h22
                obtain ⟨bP2, cP2, hvP2, _⟩ := h22.sl_form mem0
                subst hvP2
                have H22 := hide h22
                have q5 : out.length + [P].length ≤ maxLen := by unfold maxLen; simp; omega
                have q6 : (out.length + [P].length) * 24 ≤ 140737488355328 := by simp; omega
                have q7 : P.length ≤ 1000000 := by omega
                have u1 : IntKind.i64.wrap ((i : Int) + 1) = (i : Int) + 1 := wrap_small (by omega) (by omega)
                clear h21 h22 H20
                go_wp2_with (first
                  | (go_at_call 49; refine (clone_calls H22.out mem0 hPpos q7).mono ?_; rintro z w23 ⟨vC, rfl, h23⟩; obtain ⟨bC, cC, hvC, _⟩ := h23.sl_form mem0; subst hvC; have H23 := hide h23; clear h23 H22)
                  | (refine wpList_build1_st (E := strE.in) rfl (.tmp 76) slStrs rfl P rfl H23.out ?_ ?_; exact (fun _ _ hs => ⟨_, rfl, hs.sl_mem mem0⟩); intro g24 w24 h24; have H24 := hide h24.f6; clear h24 H23)
                  | (at_builtin; refine wpList_append_st rfl (.tmp 71) (.tmp 77) slStrs rfl H24.out (Src.of_rows mem1) rfl rfl q5 q6 ?_; intro vb25 n25 vc25 w25 hn25 h25; have H25 := hide h25.d1.d1.d1.d3.f1; clear h25 H24 hn25)
                  | (go_at_call 50; refine (delete_calls H25.out hil).mono ?_; rintro z w26 ⟨rfl, h26⟩; have H26 := hide h26; clear h26 H25))
                go_roundg (gk - 1)
                case measure => omega
                case rel => exact ⟨ps.eraseIdx i, out ++ [P], putAll dn P, ⟨_, _, by rw [HEL2.out, HMM.out]; rfl⟩, ⟨_, _, _, rfl⟩, by rw [HEL2.out, List.append_assoc]; exact HRS.out, HPs2.out, by have := HMM.out; rw [HEL2.out]; omega, by have := HMM.out; rw [HEL2.out, List.length_append]; simp; omega, H26.out⟩
end Go.Proofs.Ytmebmgbjpbapjaa

namespace Go.Proofs.Ytmebmgbjpbapjaa
open Go.RowKit Go.Maps Go.MapKept
variable {b : Env} {L : List HP} {w : World}

def withAll (os ns : List Str) : List Str := ns.foldl insS os
theorem withAll_append (os l m : List Str) : withAll os (l ++ m) = withAll (withAll os l) m := by simp [withAll]
theorem insS_len (l : List Str) (s : Str) : (insS l s).length ≤ l.length + 1 := by
  unfold insS
  split
  · omega
  · rw [List.length_append, List.length_cons, ← Nat.add_assoc, ← List.length_append, List.takeWhile_append_dropWhile]
    exact Nat.le_refl _
theorem withAll_len : ∀ (ns os : List Str), (withAll os ns).length ≤ os.length + ns.length
  | [], os => by simp [withAll]
  | n :: ns, os => by
    have h1 := withAll_len ns (insS os n)
    have h2 := insS_len os n
    simp only [withAll, List.foldl_cons, List.length_cons] at h1 ⊢
    omega
theorem withAll_inc : ∀ (ns os : List Str), Inc os → Inc (withAll os ns)
  | [], _, h => h
  | n :: ns, os, h => withAll_inc ns _ (insS_inc h n)
theorem mem_withAll : ∀ (ns os : List Str) (y : Str), y ∈ withAll os ns ↔ y ∈ os ∨ y ∈ ns
  | [], os, y => by simp [withAll]
  | n :: ns, os, y => by
    have := mem_withAll ns (insS os n) y
    simp only [withAll, List.foldl_cons] at this ⊢
    rw [this, mem_insS, List.mem_cons, or_assoc]
theorem withAll_set (ns : List Str) : withAll [] ns = setS ns :=
  (withAll_inc ns [] List.Pairwise.nil).ext (setS_inc ns) (fun y => by rw [mem_withAll, mem_setS]; simp)
theorem withAll_succ (os : List Str) (kind : Int) {xs : List SRec} {k : Nat} (h : k < xs.length) {x : SRec} (hx : xs[k] = x) : withAll os (namesR kind (xs.take (k + 1))) = withAll (withAll (withAll (withAll os (namesR kind (xs.take k))) (if x.kind = kind then [x.name] else [])) (names kind x.A)) (names kind x.B) := by
  rw [namesR_succ h, hx, withAll_append, withAll_append, withAll_append]
theorem namesR_len (kind : Int) (l : Stms) (k : Nat) : (namesR kind (l.toL.take k)).length ≤ l.size := by
  have h1 : (namesR kind (l.toL.take k)).length ≤ (namesR kind l.toL).length := by
    have : namesR kind l.toL = namesR kind (l.toL.take k) ++ namesR kind (l.toL.drop k) := by
      unfold namesR; rw [← List.flatMap_append, List.take_append_drop]
    rw [this, List.length_append]; omega
  rw [← names_toL] at h1
  exact Nat.le_trans h1 (names_len kind l)

theorem namesR_room (kind : Int) (l : Stms) (k : Nat) (hk : k < l.toL.length) {x : SRec} (hx : l.toL[k] = x) : (namesR kind (l.toL.take k)).length + 1 + x.A.size + x.B.size ≤ l.size := by
  have key : ∀ (l : Stms) (k : Nat) (hk : k < l.toL.length) (x : SRec), l.toL[k] = x → (namesR kind (l.toL.take k)).length + 1 + x.A.size + x.B.size ≤ l.size := by
    intro l
    induction l with
    | nil => intro k hk; simp [Stms.toL] at hk
    | cons kd p n A B r _ _ ihr =>
      intro k hk x hx
      cases k with
      | zero => simp [Stms.toL] at hx; subst hx; simp [namesR, Stms.size]
      | succ k =>
        have h1 := ihr k (by simpa [Stms.toL] using hk) x (by simpa [Stms.toL] using hx)
        have hA := names_len kind A
        have hB := names_len kind B
        simp only [Stms.toL, List.take_succ_cons, namesR, List.flatMap_cons, List.length_append, Stms.size] at h1 ⊢
        split <;> simp only [List.length_cons, List.length_nil] <;> omega
  exact key l k hk x hx

def RNamed (l : Stms) : Prop := ∀ (b : Env) (L : List HP) (w : World) (vo v : Value) (os : List Str), St b L w → HP.sl strE vo os ∈ L → HP.sl stmtE v l.toL ∈ L → ∀ kind : Int, os.length + l.size ≤ 10000 →
    Calls Try.prog 51 #[vo, v, .int .i64 kind] w fun x w' => ∃ v', x = .returned v' ∧ St b (HP.sl strE v' (withAll os (names kind l)) :: L) w'
def RNamedAt (b : Env) (L : List HP) (os : List Str) (kind : Int) (xs : List SRec) (v0 i : Value) (wr : World) : Prop := ∃ k : Nat, k ≤ xs.length ∧ i = .int .i64 k ∧ St b (HP.sl strE v0 (withAll os (namesR kind (xs.take k))) :: L) wr

set_option linter.unusedSimpArgs false in
set_option maxRecDepth 100000 in
set_option maxHeartbeats 4000000 in
theorem rnamed_all : ∀ (n : Nat) (l : Stms), l.size = n → RNamed l := by
  intro n
  induction n using Nat.strongRecOn with
  | _ n ih =>
    intro l hl b L w vo v os h hmo hm kind hsz
    obtain ⟨base, cap, rfl, hc1, hc2⟩ := h.sl_form hm
    have hm2 : (l.toL.length : Int) ≤ 9223372036854775807 := by unfold maxLen at hc2; omega
    have H := hide (h.sl_copy hmo)
    have HM := hide hm
    have IH := hide ih
    have HL := hide hl
    have HSZ := hide hsz
    clear h hm hc1 hc2 ih hl hmo hsz
    go_enter Try.func51, Try.ntmps51
    go_wp2_with fail
    go_loopw [0, 7] (fun v0 i wr => RNamedAt b L os kind l.toL v0 i wr) (fun _ i _ => l.toL.length - (intOf i).toNat)
    case atStart => exact ⟨0, by omega, rfl, H.out⟩
    case round =>
      obtain ⟨k, hk, rfl, hs⟩ := hrel
      have H1 := hide hs
      clear hs H
      by_cases hlt : k < l.toL.length
      · have hlt' : (k : Int) < l.toL.length := by omega
        obtain ⟨g, o, rfl⟩ := H1.out.sl_base (up1 HM.out) (by omega) (by decide)
        obtain ⟨cs, h2⟩ := H1.out.elem (up1 HM.out) (List.getElem?_eq_getElem hlt) (by decide)
        have hsm := Stms.size_mem (List.getElem_mem hlt)
        have hnl := namesR_len kind l k
        have hnl2 := namesR_len kind l (k + 1)
        have hwl := withAll_len (namesR kind (l.toL.take k)) os
        obtain ⟨x, hx⟩ : ∃ x, l.toL[k] = x := ⟨_, rfl⟩
        have HWS := hide (withAll_succ os kind hlt hx)
        rw [namesR_succ hlt, hx] at hnl2
        rw [hx] at h2 hsm
        obtain ⟨va, vb, hok, rfl, h3⟩ := h2.stmt
        have hszz := HSZ.out
        have hA := names_len kind x.A
        have hB := names_len kind x.B
        have HZ := hide (show os.length + (l.size + 1) ≤ 10001 by omega)
        have x0 : wr.cell? ⟨g, o + k * 5, none⟩ = some (.int .i64 x.kind) := h3.elem_cell mem2 0 rfl
        have x2 : wr.cell? ⟨g, o + k * 5 + 2, none⟩ = some (.string ⟨x.name.toArray⟩) := h3.elem_cell mem2 2 rfl
        have IHA : Hid (RNamed x.A) := hide (IH.out x.A.size (by rw [← HL.out]; exact hsm.1) x.A rfl)
        have IHB : Hid (RNamed x.B) := hide (IH.out x.B.size (by rw [← HL.out]; exact hsm.2) x.B rfl)
        have HOK := hide hok
        -- how much there is so far
        have hsum : k < l.toL.length ∧ (namesR kind (l.toL.take k)).length + 1 + x.A.size + x.B.size ≤ l.size := ⟨hlt, namesR_room kind l k hlt hx⟩
        have b1 : (withAll os (namesR kind (l.toL.take k))).length ≤ 1000000 := by omega
        generalize hW : withAll os (namesR kind (l.toL.take k)) = W at h3 HWS b1 hwl
        have bA : (insS W x.name).length + x.A.size ≤ 10000 := by have := insS_len W x.name; omega
        have bA' : W.length + x.A.size ≤ 10000 := by omega
        have bB : (withAll (insS W x.name) (names kind x.A)).length + x.B.size ≤ 10000 := by have := withAll_len (names kind x.A) (insS W x.name); have := insS_len W x.name; omega
        have bB' : (withAll W (names kind x.A)).length + x.B.size ≤ 10000 := by have := withAll_len (names kind x.A) W; omega
        have BS := hide (And.intro (And.intro bA bA') (And.intro bB bB'))
        have B1 := hide b1
        have H3 := hide h3
        clear h2 h3 hsm hnl hnl2 hwl hx hok hszz hA hB hsum hW bA bA' bB bB' b1
        by_cases hkk : x.kind = kind
        · have hkb : (x.kind == kind) = true := by simp [hkk]
          have HKK := hide hkk
          clear hkk
          go_wp2_with (go_at_call 27; refine (with_calls H3.out mem3 x.name HOK.out B1.out).mono ?_; rintro z w5 ⟨vW, rfl, h5⟩; have c3 : w5.cell? ⟨g, o + k * 5 + 3, none⟩ = some va := h5.elem_cell mem3 3 rfl; have c4 : w5.cell? ⟨g, o + k * 5 + 4, none⟩ = some vb := h5.elem_cell mem3 4 rfl; have H5 := hide h5; clear h5 H3)
          refine wp_region_held_drew (S := fun w' => w'.cell? ⟨g, o + k * 5 + 3, none⟩ = some va ∧ w'.cell? ⟨g, o + k * 5 + 4, none⟩ = some vb) (by kernel_rfl) ?_ (fun hHeld => ?_)
          · exact ⟨c3, c4⟩
          refine wpAnyH_takeD (i := 0) (some 28) (v := ?v0_1) rfl rfl (by kernel_rfl) (by kernel_rfl) (by kernel_rfl) (fun _ _ _ h => h) (by rfl) ?y0_1 (by assumption) ?r0_1
          case y0_1 => (intro w hSw; (try dsimp only at hSw); first | (go_simp; done) | (go_simp; with_reducible rfl))
          try simp only [Act.put, List.setIfInBounds_toArray, List.set_cons_zero, List.set_cons_succ]
          refine wpAnyH_takeD (i := 1) (some 29) (v := ?v1_2) rfl rfl (by kernel_rfl) (by kernel_rfl) (by kernel_rfl) (fun _ _ _ h => h) (by rfl) ?y1_2 (by assumption) ?r1_2
          case y1_2 => (intro w hSw; (try dsimp only at hSw); first | (go_simp; done) | (go_simp; with_reducible rfl))
          try simp only [Act.put, List.setIfInBounds_toArray, List.set_cons_zero, List.set_cons_succ]
          refine wpAnyH_takeD (i := 2) (some 30) (v := ?v2_3) rfl rfl (by kernel_rfl) (by kernel_rfl) (by kernel_rfl) (fun _ _ _ h => h) (by rfl) ?y2_3 (by assumption) ?r2_3
          case y2_3 => (intro w hSw; (try dsimp only at hSw); first | (go_simp; done) | (go_simp; with_reducible rfl))
          try simp only [Act.put, List.setIfInBounds_toArray, List.set_cons_zero, List.set_cons_succ]
          refine wpAnyH_takeD (i := 3) (some 31) (v := ?v3_4) rfl rfl (by kernel_rfl) (by kernel_rfl) (by kernel_rfl) (fun _ _ _ h => h) (by rfl) ?y3_4 (by assumption) ?r3_4
          case y3_4 => (intro w hSw; (try dsimp only at hSw); first | (go_simp; done) | (go_simp; with_reducible rfl))
          try simp only [Act.put, List.setIfInBounds_toArray, List.set_cons_zero, List.set_cons_succ]
          refine wpAnyH_takeD (i := 4) (some 32) (v := ?v4_5) rfl rfl (by kernel_rfl) (by kernel_rfl) (by kernel_rfl) (fun _ _ _ h => h) (by rfl) ?y4_5 (by assumption) ?r4_5
          case y4_5 => (intro w hSw; (try dsimp only at hSw); first | (go_simp; done) | (go_simp; with_reducible rfl))
          try simp only [Act.put, List.setIfInBounds_toArray, List.set_cons_zero, List.set_cons_succ]
          refine wpAnyH_takeD (i := 5) (some 33) (v := ?v5_6) rfl rfl (by kernel_rfl) (by kernel_rfl) (by kernel_rfl) (fun _ _ _ h => h) (by rfl) ?y5_6 (by assumption) ?r5_6
          case y5_6 => (intro w hSw; (try dsimp only at hSw); first | (go_simp; done) | (go_simp; with_reducible rfl))
          try simp only [Act.put, List.setIfInBounds_toArray, List.set_cons_zero, List.set_cons_succ]
          refine wpAnyH_takeD (i := 6) (some 34) (v := ?v6_7) rfl rfl (by kernel_rfl) (by kernel_rfl) (by kernel_rfl) (fun _ _ _ h => h) (by rfl) ?y6_7 (by assumption) ?r6_7
          case y6_7 => (intro w hSw; (try dsimp only at hSw); first | (go_simp; done) | (go_simp; with_reducible rfl))
          try simp only [Act.put, List.setIfInBounds_toArray, List.set_cons_zero, List.set_cons_succ]
          refine wpAnyH_takeD (i := 8) (some 36) (v := ?v8_8) rfl rfl (by kernel_rfl) (by kernel_rfl) (by kernel_rfl) (fun _ _ _ h => h) (by rfl) ?y8_8 (by assumption) ?r8_8
          case y8_8 => (intro w hSw; (try dsimp only at hSw); first | (go_simp; done) | (go_simp; with_reducible rfl))
          try simp only [Act.put, List.setIfInBounds_toArray, List.set_cons_zero, List.set_cons_succ]
          refine wpAnyH_takeD (i := 9) (some 37) (v := ?v9_9) rfl rfl (by kernel_rfl) (by kernel_rfl) (by kernel_rfl) (fun _ _ _ h => h) (by rfl) ?y9_9 (by assumption) ?r9_9
          case y9_9 => (intro w hSw; (try dsimp only at hSw); first | (go_simp; done) | (go_simp; with_reducible rfl))
          try simp only [Act.put, List.setIfInBounds_toArray, List.set_cons_zero, List.set_cons_succ]
          refine wpAnyH_takeD (i := 10) (some 38) (v := ?v10_10) rfl rfl (by kernel_rfl) (by kernel_rfl) (by kernel_rfl) (fun _ _ _ h => h) (by rfl) ?y10_10 (by assumption) ?r10_10
          case y10_10 => (intro w hSw; (try dsimp only at hSw); first | (go_simp; done) | (go_simp; with_reducible rfl))
          try simp only [Act.put, List.setIfInBounds_toArray, List.set_cons_zero, List.set_cons_succ]
          refine wpAnyH_takeD (i := 11) (some 39) (v := ?v11_11) rfl rfl (by kernel_rfl) (by kernel_rfl) (by kernel_rfl) (fun _ _ _ h => h) (by rfl) ?y11_11 (by assumption) ?r11_11
          case y11_11 => (intro w hSw; (try dsimp only at hSw); first | (go_simp; done) | (go_simp; with_reducible rfl))
          try simp only [Act.put, List.setIfInBounds_toArray, List.set_cons_zero, List.set_cons_succ]
          refine wpAnyH_takeD (i := 12) (some 40) (v := ?v12_12) rfl rfl (by kernel_rfl) (by kernel_rfl) (by kernel_rfl) (fun _ _ _ h => h) (by rfl) ?y12_12 (by assumption) ?r12_12
          case y12_12 => (intro w hSw; (try dsimp only at hSw); first | (go_simp; done) | (go_simp; with_reducible rfl))
          try simp only [Act.put, List.setIfInBounds_toArray, List.set_cons_zero, List.set_cons_succ]
          refine wpAnyH_takeD (i := 13) (some 41) (v := ?v13_13) rfl rfl (by kernel_rfl) (by kernel_rfl) (by kernel_rfl) (fun _ _ _ h => h) (by rfl) ?y13_13 (by assumption) ?r13_13
          case y13_13 => (intro w hSw; (try dsimp only at hSw); first | (go_simp; done) | (go_simp; with_reducible rfl))
          try simp only [Act.put, List.setIfInBounds_toArray, List.set_cons_zero, List.set_cons_succ]
          refine wpAnyH_ready (rs := [7]) (by kernel_rfl) (by simp) ?_
          refine AllReadyH.cons rfl (fun K hK => ?_) ?_
          · go_simp
            go_at_call 51
            refine (IHA.out b _ _ _ va _ H5.out.drew mem0 mem1 kind BS.out.1.1).mono ?_
            rintro z w7 ⟨vA, rfl, h7⟩
            have H7 := hide h7
            clear h7 H5
            refine hK.out _ _ ?_ (fun hHeld => ?_)
            · exact ⟨H7.out.elem_cell mem4 3 rfl, H7.out.elem_cell mem4 4 rfl⟩
            clear hK K
            try simp only [Act.put, List.setIfInBounds_toArray, List.set_cons_zero, List.set_cons_succ]
            refine wpAnyH_ready (rs := [14]) (by kernel_rfl) (by simp) ?_
            refine AllReadyH.cons rfl (fun K hK => ?_) ?_
            · go_simp
              go_at_call 51
              refine (IHB.out b _ _ _ vb _ H7.out mem0 mem3 kind BS.out.2.1).mono ?_
              rintro z w8 ⟨vB, rfl, h8⟩
              have H8 := hide h8
              clear h8 H7
              refine hK.out _ _ ?_ (fun hHeld => ?_)
              · exact ⟨H8.out.elem_cell mem5 3 rfl, H8.out.elem_cell mem5 4 rfl⟩
              clear hK K
              try simp only [Act.put, List.setIfInBounds_toArray, List.set_cons_zero, List.set_cons_succ]
              refine wpAnyH_takeD (i := 15) (some 0) (v := ?v15_14) rfl rfl (by kernel_rfl) (by kernel_rfl) (by kernel_rfl) (fun _ _ _ h => h) (by rfl) ?y15_14 (by assumption) ?r15_14
              case y15_14 => (intro w hSw; (try dsimp only at hSw); first | (go_simp; done) | (go_simp; with_reducible rfl))
              try simp only [Act.put, List.setIfInBounds_toArray, List.set_cons_zero, List.set_cons_succ]
              refine wpAnyH_done (by kernel_rfl) ?_ _
              go_wp2_with fail
              go_roundw
              case rel => exact ⟨k + 1, by omega, by go_num, by rw [HWS.out, if_pos HKK.out]; exact H8.out.d1.d1.d1.d1.d1.d1⟩
              case measure => exact meas_step hlt
            exact AllReadyH.nil
          exact AllReadyH.nil
        · have hkb : (x.kind == kind) = false := by simp [hkk]
          have HKK := hide hkk
          have c3 : wr.cell? ⟨g, o + k * 5 + 3, none⟩ = some va := H3.out.elem_cell mem2 3 rfl
          have c4 : wr.cell? ⟨g, o + k * 5 + 4, none⟩ = some vb := H3.out.elem_cell mem2 4 rfl
          clear hkk
          go_wp2_with fail
          refine wp_region_held_drew (S := fun w' => w'.cell? ⟨g, o + k * 5 + 3, none⟩ = some va ∧ w'.cell? ⟨g, o + k * 5 + 4, none⟩ = some vb) (by kernel_rfl) ?_ (fun hHeld => ?_)
          · exact ⟨c3, c4⟩
          refine wpAnyH_takeD (i := 0) (some 28) (v := ?v0_15) rfl rfl (by kernel_rfl) (by kernel_rfl) (by kernel_rfl) (fun _ _ _ h => h) (by rfl) ?y0_15 (by assumption) ?r0_15
          case y0_15 => (intro w hSw; (try dsimp only at hSw); first | (go_simp; done) | (go_simp; with_reducible rfl))
          try simp only [Act.put, List.setIfInBounds_toArray, List.set_cons_zero, List.set_cons_succ]
          refine wpAnyH_takeD (i := 1) (some 29) (v := ?v1_16) rfl rfl (by kernel_rfl) (by kernel_rfl) (by kernel_rfl) (fun _ _ _ h => h) (by rfl) ?y1_16 (by assumption) ?r1_16
          case y1_16 => (intro w hSw; (try dsimp only at hSw); first | (go_simp; done) | (go_simp; with_reducible rfl))
          try simp only [Act.put, List.setIfInBounds_toArray, List.set_cons_zero, List.set_cons_succ]
          refine wpAnyH_takeD (i := 2) (some 30) (v := ?v2_17) rfl rfl (by kernel_rfl) (by kernel_rfl) (by kernel_rfl) (fun _ _ _ h => h) (by rfl) ?y2_17 (by assumption) ?r2_17
          case y2_17 => (intro w hSw; (try dsimp only at hSw); first | (go_simp; done) | (go_simp; with_reducible rfl))
          try simp only [Act.put, List.setIfInBounds_toArray, List.set_cons_zero, List.set_cons_succ]
          refine wpAnyH_takeD (i := 3) (some 31) (v := ?v3_18) rfl rfl (by kernel_rfl) (by kernel_rfl) (by kernel_rfl) (fun _ _ _ h => h) (by rfl) ?y3_18 (by assumption) ?r3_18
          case y3_18 => (intro w hSw; (try dsimp only at hSw); first | (go_simp; done) | (go_simp; with_reducible rfl))
          try simp only [Act.put, List.setIfInBounds_toArray, List.set_cons_zero, List.set_cons_succ]
          refine wpAnyH_takeD (i := 4) (some 32) (v := ?v4_19) rfl rfl (by kernel_rfl) (by kernel_rfl) (by kernel_rfl) (fun _ _ _ h => h) (by rfl) ?y4_19 (by assumption) ?r4_19
          case y4_19 => (intro w hSw; (try dsimp only at hSw); first | (go_simp; done) | (go_simp; with_reducible rfl))
          try simp only [Act.put, List.setIfInBounds_toArray, List.set_cons_zero, List.set_cons_succ]
          refine wpAnyH_takeD (i := 5) (some 33) (v := ?v5_20) rfl rfl (by kernel_rfl) (by kernel_rfl) (by kernel_rfl) (fun _ _ _ h => h) (by rfl) ?y5_20 (by assumption) ?r5_20
          case y5_20 => (intro w hSw; (try dsimp only at hSw); first | (go_simp; done) | (go_simp; with_reducible rfl))
          try simp only [Act.put, List.setIfInBounds_toArray, List.set_cons_zero, List.set_cons_succ]
          refine wpAnyH_takeD (i := 6) (some 34) (v := ?v6_21) rfl rfl (by kernel_rfl) (by kernel_rfl) (by kernel_rfl) (fun _ _ _ h => h) (by rfl) ?y6_21 (by assumption) ?r6_21
          case y6_21 => (intro w hSw; (try dsimp only at hSw); first | (go_simp; done) | (go_simp; with_reducible rfl))
          try simp only [Act.put, List.setIfInBounds_toArray, List.set_cons_zero, List.set_cons_succ]
          refine wpAnyH_takeD (i := 8) (some 36) (v := ?v8_22) rfl rfl (by kernel_rfl) (by kernel_rfl) (by kernel_rfl) (fun _ _ _ h => h) (by rfl) ?y8_22 (by assumption) ?r8_22
          case y8_22 => (intro w hSw; (try dsimp only at hSw); first | (go_simp; done) | (go_simp; with_reducible rfl))
          try simp only [Act.put, List.setIfInBounds_toArray, List.set_cons_zero, List.set_cons_succ]
          refine wpAnyH_takeD (i := 9) (some 37) (v := ?v9_23) rfl rfl (by kernel_rfl) (by kernel_rfl) (by kernel_rfl) (fun _ _ _ h => h) (by rfl) ?y9_23 (by assumption) ?r9_23
          case y9_23 => (intro w hSw; (try dsimp only at hSw); first | (go_simp; done) | (go_simp; with_reducible rfl))
          try simp only [Act.put, List.setIfInBounds_toArray, List.set_cons_zero, List.set_cons_succ]
          refine wpAnyH_takeD (i := 10) (some 38) (v := ?v10_24) rfl rfl (by kernel_rfl) (by kernel_rfl) (by kernel_rfl) (fun _ _ _ h => h) (by rfl) ?y10_24 (by assumption) ?r10_24
          case y10_24 => (intro w hSw; (try dsimp only at hSw); first | (go_simp; done) | (go_simp; with_reducible rfl))
          try simp only [Act.put, List.setIfInBounds_toArray, List.set_cons_zero, List.set_cons_succ]
          refine wpAnyH_takeD (i := 11) (some 39) (v := ?v11_25) rfl rfl (by kernel_rfl) (by kernel_rfl) (by kernel_rfl) (fun _ _ _ h => h) (by rfl) ?y11_25 (by assumption) ?r11_25
          case y11_25 => (intro w hSw; (try dsimp only at hSw); first | (go_simp; done) | (go_simp; with_reducible rfl))
          try simp only [Act.put, List.setIfInBounds_toArray, List.set_cons_zero, List.set_cons_succ]
          refine wpAnyH_takeD (i := 12) (some 40) (v := ?v12_26) rfl rfl (by kernel_rfl) (by kernel_rfl) (by kernel_rfl) (fun _ _ _ h => h) (by rfl) ?y12_26 (by assumption) ?r12_26
          case y12_26 => (intro w hSw; (try dsimp only at hSw); first | (go_simp; done) | (go_simp; with_reducible rfl))
          try simp only [Act.put, List.setIfInBounds_toArray, List.set_cons_zero, List.set_cons_succ]
          refine wpAnyH_takeD (i := 13) (some 41) (v := ?v13_27) rfl rfl (by kernel_rfl) (by kernel_rfl) (by kernel_rfl) (fun _ _ _ h => h) (by rfl) ?y13_27 (by assumption) ?r13_27
          case y13_27 => (intro w hSw; (try dsimp only at hSw); first | (go_simp; done) | (go_simp; with_reducible rfl))
          try simp only [Act.put, List.setIfInBounds_toArray, List.set_cons_zero, List.set_cons_succ]
          refine wpAnyH_ready (rs := [7]) (by kernel_rfl) (by simp) ?_
          refine AllReadyH.cons rfl (fun K hK => ?_) ?_
          · go_simp
            go_at_call 51
            refine (IHA.out b _ _ _ va _ H3.out.drew mem3 mem0 kind BS.out.1.2).mono ?_
            rintro z w7 ⟨vA, rfl, h7⟩
            have H7 := hide h7
            clear h7 H3
            refine hK.out _ _ ?_ (fun hHeld => ?_)
            · exact ⟨H7.out.elem_cell mem3 3 rfl, H7.out.elem_cell mem3 4 rfl⟩
            clear hK K
            try simp only [Act.put, List.setIfInBounds_toArray, List.set_cons_zero, List.set_cons_succ]
            refine wpAnyH_ready (rs := [14]) (by kernel_rfl) (by simp) ?_
            refine AllReadyH.cons rfl (fun K hK => ?_) ?_
            · go_simp
              go_at_call 51
              refine (IHB.out b _ _ _ vb _ H7.out mem0 mem2 kind BS.out.2.2).mono ?_
              rintro z w8 ⟨vB, rfl, h8⟩
              have H8 := hide h8
              clear h8 H7
              refine hK.out _ _ ?_ (fun hHeld => ?_)
              · exact ⟨H8.out.elem_cell mem4 3 rfl, H8.out.elem_cell mem4 4 rfl⟩
              clear hK K
              try simp only [Act.put, List.setIfInBounds_toArray, List.set_cons_zero, List.set_cons_succ]
              refine wpAnyH_takeD (i := 15) (some 0) (v := ?v15_28) rfl rfl (by kernel_rfl) (by kernel_rfl) (by kernel_rfl) (fun _ _ _ h => h) (by rfl) ?y15_28 (by assumption) ?r15_28
              case y15_28 => (intro w hSw; (try dsimp only at hSw); first | (go_simp; done) | (go_simp; with_reducible rfl))
              try simp only [Act.put, List.setIfInBounds_toArray, List.set_cons_zero, List.set_cons_succ]
              refine wpAnyH_done (by kernel_rfl) ?_ _
              go_wp2_with fail
              go_roundw
              case rel => exact ⟨k + 1, by omega, by go_num, by rw [HWS.out, if_neg HKK.out]; exact H8.out.d1.d1.d1.d1.d1⟩
              case measure => exact meas_step hlt
            exact AllReadyH.nil
          exact AllReadyH.nil
      · have hke : l.toL.take k = l.toL := List.take_of_length_le (by omega)
        have hf := H1.out
        rw [hke, ← names_toL] at hf
        have HF := hide hf
        clear hke hf H1
        go_wp2_with fail
        go_ret
        exact ⟨_, rfl, HF.out⟩
theorem rnamed_calls (l : Stms) : RNamed l := rnamed_all l.size l rfl

set_option linter.unusedSimpArgs false in
set_option maxRecDepth 100000 in
set_option maxHeartbeats 2000000 in
theorem rcalls_calls (h : St b L w) {vv vl vf : Value} {F : List FRec} (hm : HP.sl funcE vf F ∈ L) (f : Str) {i : Nat} {x : FRec} (hi : F[i]? = some x) (hfi : findR F f = (i : Int)) (hsz : x.body.size ≤ 10000) :
    Calls Try.prog 29 #[.agg #[vv, vl, vf], sv f] w fun e w' => ∃ v, e = .returned v ∧ St b (HP.sl strE v (setS (names 5 x.body)) :: L) w' := by
  obtain ⟨bf, cf, rfl, hc1, hc2⟩ := h.sl_form hm
  obtain ⟨hil, hix⟩ := List.getElem?_eq_some_iff.1 hi
  obtain ⟨g, o, rfl⟩ := h.sl_base hm (by omega) (by decide)
  obtain ⟨cs, h2⟩ := h.elem hm hi (by decide)
  obtain ⟨vb, hok, rfl, h3⟩ := h2.func
  have H := hide (h3.sl_nil strE)
  have HM := hide hm
  have HFI := hide hfi
  have HSZ := hide hsz
  have hil' : (i : Int) < F.length := by omega
  have hi0 : (0 : Int) ≤ i := by omega
  clear h hm hc1 hc2 h2 h3 hok hi hix hfi hsz
  have hsz2 : ([] : List Str).length + x.body.size ≤ 10000 := by have := HSZ.out; simpa using this
  have HSZ2 := hide hsz2
  clear hsz2
  go_enter Try.func29, Try.ntmps29
  go_wp2_with ((with_reducible refine wpList_box_st (cs := [vv, vl, .slice (some ⟨g, o, none⟩) F.length cf]) rfl (.tmp 0) rfl rfl H.out ?_); intro g2 w1 h1; have e1 : Hid (∀ j u, [vv, vl, Value.slice (some ⟨g, o, none⟩) F.length cf][j]? = some u → w1.cell? ⟨g2, 0 + j, none⟩ = some u) := hide (fun j u hj => by rw [Nat.zero_add]; exact (h1.blk_cell mem0 j).trans (by simpa using hj)); have c2 : w1.cell? ⟨g, o + i * 3 + 2, none⟩ = some vb := h1.elem_cell mem3 2 rfl; have c3 : w1.cell? ⟨g2, 2, none⟩ = some (.slice (some ⟨g, o, none⟩) F.length cf) := h1.blk_cell mem0 2; have H1 := hide h1; clear h1 H)
  refine wp_region_held_drew (S := fun w' => (∀ j u, [vv, vl, Value.slice (some ⟨g, o, none⟩) F.length cf][j]? = some u → w'.cell? ⟨g2, 0 + j, none⟩ = some u) ∧ w'.cell? ⟨g, o + i * 3 + 2, none⟩ = some vb ∧ w'.cell? ⟨g2, 2, none⟩ = some (.slice (some ⟨g, o, none⟩) F.length cf)) (by kernel_rfl) ?_ (fun hHeld => ?_)
  · exact ⟨e1.out, c2, c3⟩
  refine wpAnyH_takeD (i := 0) (some 5) (v := ?v0_29) rfl rfl (by kernel_rfl) (by kernel_rfl) (by kernel_rfl) (fun _ _ _ h => h) (by rfl) ?y0_29 (by assumption) ?r0_29
  case y0_29 => (intro w hSw; (try dsimp only at hSw); first | (go_simp; done) | (go_simp; with_reducible rfl))
  try simp only [Act.put, List.setIfInBounds_toArray, List.set_cons_zero, List.set_cons_succ]
  refine wpAnyH_takeD (i := 1) (some 6) (v := ?v1_30) rfl rfl (by kernel_rfl) (by kernel_rfl) (by kernel_rfl) (fun _ _ _ h => h) (by rfl) ?y1_30 (by assumption) ?r1_30
  case y1_30 => (intro w hSw; (try dsimp only at hSw); first | (go_simp; done) | (go_simp; with_reducible rfl))
  try simp only [Act.put, List.setIfInBounds_toArray, List.set_cons_zero, List.set_cons_succ]
  refine wpAnyH_takeD (i := 2) (some 7) (v := .agg [vv, vl, Value.slice (some ⟨g, o, none⟩) F.length cf].toArray) rfl rfl (by kernel_rfl) (by kernel_rfl) (by kernel_rfl) (fun _ _ _ h => h) (by rfl) ?y2_31 (by assumption) ?r2_31
  case y2_31 => (intro w hSw; exact run_loadB agProg (.tmp 2) rfl rfl rfl hSw.1)
  try simp only [Act.put, List.setIfInBounds_toArray, List.set_cons_zero, List.set_cons_succ]
  refine wpAnyH_takeD (i := 3) (some 8) (v := ?v3_32) rfl rfl (by kernel_rfl) (by kernel_rfl) (by kernel_rfl) (fun _ _ _ h => h) (by rfl) ?y3_32 (by assumption) ?r3_32
  case y3_32 => (intro w hSw; (try dsimp only at hSw); first | (go_simp; done) | (go_simp; with_reducible rfl))
  try simp only [Act.put, List.setIfInBounds_toArray, List.set_cons_zero, List.set_cons_succ]
  refine wpAnyH_ready (rs := [4]) (by kernel_rfl) (by simp) ?_
  refine AllReadyH.cons rfl (fun K hK => ?_) ?_
  · go_simp
    go_at_call 25
    refine (find_calls H1.out.drew (up4 HM.out) f).mono ?_
    rintro z w4 ⟨rfl, h4⟩
    rw [HFI.out]
    have H4 := hide h4
    clear h4 H1
    refine hK.out _ _ ?_ (fun hHeld => ?_)
    · exact ⟨fun j u hj => by rw [Nat.zero_add]; exact (H4.out.blk_cell mem0 j).trans (by simpa using hj), H4.out.elem_cell mem3 2 rfl, H4.out.blk_cell mem0 2⟩
    clear hK K
    try simp only [Act.put, List.setIfInBounds_toArray, List.set_cons_zero, List.set_cons_succ]
    refine wpAnyH_takeD (i := 5) (some 10) (v := ?v5_33) rfl rfl (by kernel_rfl) (by kernel_rfl) (by kernel_rfl) (fun _ _ _ h => h) (by rfl) ?y5_33 (by assumption) ?r5_33
    case y5_33 => (intro w hSw; (try dsimp only at hSw); first | (go_simp; done) | (go_simp; with_reducible rfl))
    try simp only [Act.put, List.setIfInBounds_toArray, List.set_cons_zero, List.set_cons_succ]
    refine wpAnyH_takeD (i := 6) (some 11) (v := ?v6_34) rfl rfl (by kernel_rfl) (by kernel_rfl) (by kernel_rfl) (fun _ _ _ h => h) (by rfl) ?y6_34 (by assumption) ?r6_34
    case y6_34 => (intro w hSw; (try dsimp only at hSw); first | (go_simp; done) | (go_simp; with_reducible rfl))
    try simp only [Act.put, List.setIfInBounds_toArray, List.set_cons_zero, List.set_cons_succ]
    refine wpAnyH_takeD (i := 7) (some 12) (v := ?v7_35) rfl rfl (by kernel_rfl) (by kernel_rfl) (by kernel_rfl) (fun _ _ _ h => h) (by rfl) ?y7_35 (by assumption) ?r7_35
    case y7_35 => (intro w hSw; (try dsimp only at hSw); first | (go_simp; done) | (go_simp; with_reducible rfl))
    try simp only [Act.put, List.setIfInBounds_toArray, List.set_cons_zero, List.set_cons_succ]
    refine wpAnyH_ready (rs := [8]) (by kernel_rfl) (by simp) ?_
    refine AllReadyH.cons rfl (fun K hK => ?_) ?_
    · go_simp
      go_at_call 51
      refine (rnamed_calls x.body b _ _ _ vb [] H4.out mem1 mem2 5 HSZ2.out).mono ?_
      rintro z w5 ⟨vN, rfl, h5⟩
      rw [withAll_set] at h5
      have H5 := hide h5
      clear h5 H4
      refine hK.out _ _ ?_ (fun hHeld => ?_)
      · exact ⟨fun j u hj => by rw [Nat.zero_add]; exact (H5.out.blk_cell mem1 j).trans (by simpa using hj), H5.out.elem_cell mem4 2 rfl, H5.out.blk_cell mem1 2⟩
      clear hK K
      try simp only [Act.put, List.setIfInBounds_toArray, List.set_cons_zero, List.set_cons_succ]
      refine wpAnyH_takeD (i := 9) (some 4) (v := ?v9_36) rfl rfl (by kernel_rfl) (by kernel_rfl) (by kernel_rfl) (fun _ _ _ h => h) (by rfl) ?y9_36 (by assumption) ?r9_36
      case y9_36 => (intro w hSw; (try dsimp only at hSw); first | (go_simp; done) | (go_simp; with_reducible rfl))
      try simp only [Act.put, List.setIfInBounds_toArray, List.set_cons_zero, List.set_cons_succ]
      refine wpAnyH_done (by kernel_rfl) ?_ _
      go_wp2_with fail
      go_ret
      exact ⟨_, rfl, H5.out.d1.d1.d1.d1⟩
    exact AllReadyH.nil
  exact AllReadyH.nil

set_option linter.unusedSimpArgs false in
set_option maxRecDepth 100000 in
set_option maxHeartbeats 2000000 in
theorem rspawns_calls (h : St b L w) {vv vl vf : Value} {F : List FRec} (hm : HP.sl funcE vf F ∈ L) (f : Str) {i : Nat} {x : FRec} (hi : F[i]? = some x) (hfi : findR F f = (i : Int)) (hsz : x.body.size ≤ 10000) :
    Calls Try.prog 30 #[.agg #[vv, vl, vf], sv f] w fun e w' => ∃ v, e = .returned v ∧ St b (HP.sl strE v (setS (names 6 x.body)) :: L) w' := by
  obtain ⟨bf, cf, rfl, hc1, hc2⟩ := h.sl_form hm
  obtain ⟨hil, hix⟩ := List.getElem?_eq_some_iff.1 hi
  obtain ⟨g, o, rfl⟩ := h.sl_base hm (by omega) (by decide)
  obtain ⟨cs, h2⟩ := h.elem hm hi (by decide)
  obtain ⟨vb, hok, rfl, h3⟩ := h2.func
  have H := hide (h3.sl_nil strE)
  have HM := hide hm
  have HFI := hide hfi
  have HSZ := hide hsz
  have hil' : (i : Int) < F.length := by omega
  have hi0 : (0 : Int) ≤ i := by omega
  clear h hm hc1 hc2 h2 h3 hok hi hix hfi hsz
  have hsz2 : ([] : List Str).length + x.body.size ≤ 10000 := by have := HSZ.out; simpa using this
  have HSZ2 := hide hsz2
  clear hsz2
  go_enter Try.func30, Try.ntmps30
  go_wp2_with ((with_reducible refine wpList_box_st (cs := [vv, vl, .slice (some ⟨g, o, none⟩) F.length cf]) rfl (.tmp 0) rfl rfl H.out ?_); intro g2 w1 h1; have e1 : Hid (∀ j u, [vv, vl, Value.slice (some ⟨g, o, none⟩) F.length cf][j]? = some u → w1.cell? ⟨g2, 0 + j, none⟩ = some u) := hide (fun j u hj => by rw [Nat.zero_add]; exact (h1.blk_cell mem0 j).trans (by simpa using hj)); have c2 : w1.cell? ⟨g, o + i * 3 + 2, none⟩ = some vb := h1.elem_cell mem3 2 rfl; have c3 : w1.cell? ⟨g2, 2, none⟩ = some (.slice (some ⟨g, o, none⟩) F.length cf) := h1.blk_cell mem0 2; have H1 := hide h1; clear h1 H)
  refine wp_region_held_drew (S := fun w' => (∀ j u, [vv, vl, Value.slice (some ⟨g, o, none⟩) F.length cf][j]? = some u → w'.cell? ⟨g2, 0 + j, none⟩ = some u) ∧ w'.cell? ⟨g, o + i * 3 + 2, none⟩ = some vb ∧ w'.cell? ⟨g2, 2, none⟩ = some (.slice (some ⟨g, o, none⟩) F.length cf)) (by kernel_rfl) ?_ (fun hHeld => ?_)
  · exact ⟨e1.out, c2, c3⟩
  refine wpAnyH_takeD (i := 0) (some 5) (v := ?v0_37) rfl rfl (by kernel_rfl) (by kernel_rfl) (by kernel_rfl) (fun _ _ _ h => h) (by rfl) ?y0_37 (by assumption) ?r0_37
  case y0_37 => (intro w hSw; (try dsimp only at hSw); first | (go_simp; done) | (go_simp; with_reducible rfl))
  try simp only [Act.put, List.setIfInBounds_toArray, List.set_cons_zero, List.set_cons_succ]
  refine wpAnyH_takeD (i := 1) (some 6) (v := ?v1_38) rfl rfl (by kernel_rfl) (by kernel_rfl) (by kernel_rfl) (fun _ _ _ h => h) (by rfl) ?y1_38 (by assumption) ?r1_38
  case y1_38 => (intro w hSw; (try dsimp only at hSw); first | (go_simp; done) | (go_simp; with_reducible rfl))
  try simp only [Act.put, List.setIfInBounds_toArray, List.set_cons_zero, List.set_cons_succ]
  refine wpAnyH_takeD (i := 2) (some 7) (v := .agg [vv, vl, Value.slice (some ⟨g, o, none⟩) F.length cf].toArray) rfl rfl (by kernel_rfl) (by kernel_rfl) (by kernel_rfl) (fun _ _ _ h => h) (by rfl) ?y2_39 (by assumption) ?r2_39
  case y2_39 => (intro w hSw; exact run_loadB agProg (.tmp 2) rfl rfl rfl hSw.1)
  try simp only [Act.put, List.setIfInBounds_toArray, List.set_cons_zero, List.set_cons_succ]
  refine wpAnyH_takeD (i := 3) (some 8) (v := ?v3_40) rfl rfl (by kernel_rfl) (by kernel_rfl) (by kernel_rfl) (fun _ _ _ h => h) (by rfl) ?y3_40 (by assumption) ?r3_40
  case y3_40 => (intro w hSw; (try dsimp only at hSw); first | (go_simp; done) | (go_simp; with_reducible rfl))
  try simp only [Act.put, List.setIfInBounds_toArray, List.set_cons_zero, List.set_cons_succ]
  refine wpAnyH_ready (rs := [4]) (by kernel_rfl) (by simp) ?_
  refine AllReadyH.cons rfl (fun K hK => ?_) ?_
  · go_simp
    go_at_call 25
    refine (find_calls H1.out.drew (up4 HM.out) f).mono ?_
    rintro z w4 ⟨rfl, h4⟩
    rw [HFI.out]
    have H4 := hide h4
    clear h4 H1
    refine hK.out _ _ ?_ (fun hHeld => ?_)
    · exact ⟨fun j u hj => by rw [Nat.zero_add]; exact (H4.out.blk_cell mem0 j).trans (by simpa using hj), H4.out.elem_cell mem3 2 rfl, H4.out.blk_cell mem0 2⟩
    clear hK K
    try simp only [Act.put, List.setIfInBounds_toArray, List.set_cons_zero, List.set_cons_succ]
    refine wpAnyH_takeD (i := 5) (some 10) (v := ?v5_41) rfl rfl (by kernel_rfl) (by kernel_rfl) (by kernel_rfl) (fun _ _ _ h => h) (by rfl) ?y5_41 (by assumption) ?r5_41
    case y5_41 => (intro w hSw; (try dsimp only at hSw); first | (go_simp; done) | (go_simp; with_reducible rfl))
    try simp only [Act.put, List.setIfInBounds_toArray, List.set_cons_zero, List.set_cons_succ]
    refine wpAnyH_takeD (i := 6) (some 11) (v := ?v6_42) rfl rfl (by kernel_rfl) (by kernel_rfl) (by kernel_rfl) (fun _ _ _ h => h) (by rfl) ?y6_42 (by assumption) ?r6_42
    case y6_42 => (intro w hSw; (try dsimp only at hSw); first | (go_simp; done) | (go_simp; with_reducible rfl))
    try simp only [Act.put, List.setIfInBounds_toArray, List.set_cons_zero, List.set_cons_succ]
    refine wpAnyH_takeD (i := 7) (some 12) (v := ?v7_43) rfl rfl (by kernel_rfl) (by kernel_rfl) (by kernel_rfl) (fun _ _ _ h => h) (by rfl) ?y7_43 (by assumption) ?r7_43
    case y7_43 => (intro w hSw; (try dsimp only at hSw); first | (go_simp; done) | (go_simp; with_reducible rfl))
    try simp only [Act.put, List.setIfInBounds_toArray, List.set_cons_zero, List.set_cons_succ]
    refine wpAnyH_ready (rs := [8]) (by kernel_rfl) (by simp) ?_
    refine AllReadyH.cons rfl (fun K hK => ?_) ?_
    · go_simp
      go_at_call 51
      refine (rnamed_calls x.body b _ _ _ vb [] H4.out mem1 mem2 6 HSZ2.out).mono ?_
      rintro z w5 ⟨vN, rfl, h5⟩
      rw [withAll_set] at h5
      have H5 := hide h5
      clear h5 H4
      refine hK.out _ _ ?_ (fun hHeld => ?_)
      · exact ⟨fun j u hj => by rw [Nat.zero_add]; exact (H5.out.blk_cell mem1 j).trans (by simpa using hj), H5.out.elem_cell mem4 2 rfl, H5.out.blk_cell mem1 2⟩
      clear hK K
      try simp only [Act.put, List.setIfInBounds_toArray, List.set_cons_zero, List.set_cons_succ]
      refine wpAnyH_takeD (i := 9) (some 4) (v := ?v9_44) rfl rfl (by kernel_rfl) (by kernel_rfl) (by kernel_rfl) (fun _ _ _ h => h) (by rfl) ?y9_44 (by assumption) ?r9_44
      case y9_44 => (intro w hSw; (try dsimp only at hSw); first | (go_simp; done) | (go_simp; with_reducible rfl))
      try simp only [Act.put, List.setIfInBounds_toArray, List.set_cons_zero, List.set_cons_succ]
      refine wpAnyH_done (by kernel_rfl) ?_ _
      go_wp2_with fail
      go_ret
      exact ⟨_, rfl, H5.out.d1.d1.d1.d1⟩
    exact AllReadyH.nil
  exact AllReadyH.nil
end Go.Proofs.Ytmebmgbjpbapjaa

namespace Go.Proofs.Ytmebmgbjpbapjaa
open Go.RowKit Go.Maps Go.MapKept

theorem partsR_perm {q : Str → Str → Bool} (hr : ∀ x, q x x = true) : ∀ (n : Nat) (l : List Str), l.length ≤ n → (partsR q n l).flatten.Perm l
  | _, [], _ => by rw [partsR_nil]; exact List.Perm.refl _
  | 0, _ :: _, h => by simp at h
  | n + 1, x :: l, h => by
    simp only [partsR, List.flatten_cons]
    have h1 := filter_lt hr x l
    have h2 := partsR_perm hr n ((x :: l).filter (fun y => !q x y)) (by simp at h; omega)
    exact (List.Perm.append_left _ h2).trans (List.filter_append_perm (q x) (x :: l))
theorem mem_callE {F G : List FRec} {x y : Str} : (x, y) ∈ callE F G ↔ x ∈ G.map (·.name) ∧ y ∈ nxF F x := by
  unfold callE
  simp only [List.mem_flatMap, List.mem_map, Prod.mk.injEq]
  constructor
  · rintro ⟨r, hr, z, hz, rfl, rfl⟩; exact ⟨⟨r, hr, rfl⟩, hz⟩
  · rintro ⟨⟨r, hr, rfl⟩, hy⟩; exact ⟨r, hr, y, hy, rfl, rfl⟩

structure GOrd (F : List FRec) (l : List (List Str)) : Prop where
  uniq : l.flatten.Nodup
  inU : ∀ x ∈ l.flatten, x ∈ namesU
  nxt : ∀ (i : Nat) (P : List Str), l[i]? = some P → ∀ x ∈ P, ∀ y ∈ nxF F x, y ∈ (l.take (i + 1)).flatten
  len : l.flatten.length = 4
theorem gord {F : List FRec} (hU : ∀ y, y ∈ F.map (·.name) ↔ y ∈ namesU) (hcl : ∀ a, ∀ z ∈ nxF F a, z ∈ namesU) {S : List Str} (hinc : Inc S) (hmem : ∀ y, y ∈ S ↔ y ∈ F.map (·.name)) :
    GOrd F (orderG (callE F F) (partsR (eqv (edgesN (inEdges (F.map (·.name)) (callE F F)))) S.length S).length [] (partsR (eqv (edgesN (inEdges (F.map (·.name)) (callE F F)))) S.length S)) := by
  have hr := eqv_refl (edgesN (inEdges (F.map (·.name)) (callE F F)))
  have hsy : ∀ x y, eqv (edgesN (inEdges (F.map (·.name)) (callE F F))) x y = true → eqv (edgesN (inEdges (F.map (·.name)) (callE F F))) y x = true := fun x y h => eqv_symm h
  have htr : ∀ x y z, eqv (edgesN (inEdges (F.map (·.name)) (callE F F))) x y = true → eqv (edgesN (inEdges (F.map (·.name)) (callE F F))) y z = true → eqv (edgesN (inEdges (F.map (·.name)) (callE F F))) x z = true := fun x y z h k => eqv_trans h k
  have hperm := partsR_perm hr S.length S (Nat.le_refl _)
  have hO : OrdP (edgesN (inEdges (F.map (·.name)) (callE F F))) (callE F F) S [] (partsR (eqv (edgesN (inEdges (F.map (·.name)) (callE F F)))) S.length S) := by
    refine ⟨by simp, fun P hP => ⟨(parts_ne hr hsy htr hP).1, fun x hx => parts_sub hr hsy htr hP hx, fun x hx y hy => ?_⟩, fun y hy => Or.inr (parts_cover hr _ _ (Nat.le_refl _) y hy), fun e he => ?_⟩
    · obtain ⟨z, _, rfl⟩ := parts_mem hsy htr _ _ P hP
      have hzx := (List.mem_filter.1 hx).2
      rw [List.mem_filter]
      exact ⟨fun h => htr _ _ _ (hsy _ _ hzx) h.2, fun h => ⟨hy, htr _ _ _ hzx h⟩⟩
    · obtain ⟨x, y⟩ := e
      obtain ⟨h1, h2⟩ := mem_callE.1 he
      have h3 : y ∈ F.map (·.name) := (hU y).2 (hcl x y h2)
      exact ⟨(hmem x).2 h1, (hmem y).2 h3, mem_inEdges.2 ⟨he, h1, h3⟩⟩
  obtain ⟨p1, p2⟩ := OrdP.all (dn := []) hO _ rfl
  generalize orderG (callE F F) (partsR (eqv (edgesN (inEdges (F.map (·.name)) (callE F F)))) S.length S).length [] (partsR (eqv (edgesN (inEdges (F.map (·.name)) (callE F F)))) S.length S) = l at p1 p2
  have hfl : l.flatten.Perm S := p1.flatten.trans hperm
  refine ⟨hfl.nodup_iff.2 hinc.nodup, fun x hx => (hU x).1 ((hmem x).1 (hfl.mem_iff.1 hx)), fun i P hi x hx y hy => ?_, ?_⟩
  · have hxl : x ∈ l.flatten := List.mem_flatten.2 ⟨P, List.mem_of_getElem? hi, hx⟩
    have hxn := (hmem x).1 (hfl.mem_iff.1 hxl)
    have hrd := p2 i P hi
    unfold readyR at hrd
    rw [List.all_eq_true] at hrd
    have := hrd (x, y) (mem_callE.2 ⟨hxn, hy⟩)
    unfold okE at this
    rw [has_putAll] at this
    have hil := (List.getElem?_eq_some_iff.1 hi).1
    rw [List.take_succ_eq_append_getElem hil, List.flatten_append, List.mem_append]
    rw [(List.getElem?_eq_some_iff.1 hi).2]
    simp [hx] at this ⊢
    rcases this with h | h
    · exact Or.inl h
    · exact Or.inr h
  · rw [hfl.length_eq]
    have h1 := nodup_len S namesU hinc.nodup (fun x hx => (hU x).1 ((hmem x).1 hx))
    have h2 := nodup_len namesU S (by decide) (fun x hx => (hmem x).2 ((hU x).2 hx))
    have h3 : namesU.length = 4 := rfl
    omega
theorem funcsR_names {a c d e : Raws} {t : Int} (y : Str) : y ∈ (funcsR a c d e t).map (·.name) ↔ y ∈ namesU := by
  unfold funcsR namesU
  split
  · simp only [List.map_cons, List.map_nil, List.mem_cons, List.not_mem_nil, or_false]
    constructor
    · rintro (h | h | h | h) <;> simp [h]
    · rintro (h | h | h | h) <;> simp [h]
  · simp
theorem find_at {F : List FRec} {y : Str} (h : y ∈ F.map (·.name)) : ∃ (i : Nat) (x : FRec), F[i]? = some x ∧ findR F y = (i : Int) ∧ x.name = y := by
  obtain ⟨r, hr, hry⟩ := List.mem_map.1 h
  unfold findR
  cases hf : F.findIdx? (fun x => x.name == y) with
  | none =>
    rw [List.findIdx?_eq_none_iff] at hf
    have := hf r hr
    simp [hry] at this
  | some i =>
    obtain ⟨hi, h1, _⟩ := List.findIdx?_eq_some_iff_getElem.1 hf
    exact ⟨i, F[i], List.getElem?_eq_getElem hi, rfl, by simpa using h1⟩
theorem mem_tot {F : List FRec} {x : FRec} (h : x ∈ F) : x.body.size ≤ totS F := by
  unfold totS
  induction F with
  | nil => cases h
  | cons a F ih =>
    simp only [List.map_cons, List.sum_cons]
    rcases List.mem_cons.1 h with rfl | h
    · omega
    · have := ih h; omega
theorem nx_of_body {F : List FRec} {x : FRec} (h : x ∈ F) {y : Str} (hy : y ∈ names 5 x.body) : y ∈ nxF F x.name := by
  rw [mem_nxF]
  unfold namesP
  exact List.mem_flatMap.2 ⟨x, h, by rw [if_pos rfl]; exact hy⟩
theorem uniq_at {l : List (List Str)} (h : l.flatten.Nodup) {i : Nat} {P : List Str} (hi : l[i]? = some P) {x : Str} (hx : x ∈ P) : x ∉ (l.take i).flatten := by
  intro hm
  obtain ⟨hil, he⟩ := List.getElem?_eq_some_iff.1 hi
  have e : l.flatten = (l.take i).flatten ++ (P ++ (l.drop (i + 1)).flatten) := by
    rw [← he, ← List.flatten_cons, ← List.drop_eq_getElem_cons hil, ← List.flatten_append, List.take_append_drop]
  rw [e] at h
  exact (List.nodup_append.1 h).2.2 x hm x (List.mem_append_left _ hx) rfl
end Go.Proofs.Ytmebmgbjpbapjaa
