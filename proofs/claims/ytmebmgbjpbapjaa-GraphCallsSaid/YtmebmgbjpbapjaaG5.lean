/-
  package graph: the closures of Parts; package slices: IndexFunc, DeleteFunc with one of them.
-/
import Derived.Test.YtmebmgbjpbapjaaGd
import Derived.Test.YtmebmgbjpbapjaaG4
namespace Go.Proofs.Ytmebmgbjpbapjaa
open Go.RowKit Go.Maps Go.MapKept
variable {b : Env} {L : List HP} {w : World}

theorem St.set_lookup {m : Nat} {kvs : List (Str × Bool)} (hs : St b L w) (hm : HP.set m kvs ∈ L) (q : Str) (hq : okStr q) : (Instr.lookup 66 (.map (some m)) (.string ⟨q.toArray⟩) false).run Try.prog w = .ok (.bool (has kvs q)) w := by
  have := hs.lookup keyStr hm mapSet (Try.zeroValue4 w) q hq false
  rw [show (Value.string ⟨q.toArray⟩) = sv q from rfl, this]
  unfold has
  cases kget kvs q <;> rfl

theorem inpart_calls (h : St b L w) {g mp : Nat} {kvs : List (Str × Bool)} (hb : HP.blk g (.cells #[.map (some mp)] 66) ∈ L) (hm : HP.set mp kvs ∈ L) (q : Str) (hq : okStr q) :
    Calls Try.prog 39 #[sv q, .pointer (some ⟨g, 0, none⟩)] w fun x w' => x = .returned (.bool (has kvs q)) ∧ w = w' := by
  have c0 : w.cell? ⟨g, 0, none⟩ = some (.map (some mp)) := h.blk_cell hb 0
  have hl := h.set_lookup hm q hq
  clear h hb hm hq
  go_enter Try.func39, Try.ntmps39
  go_wp2_with fail
  go_ret
  exact ⟨rfl, rfl⟩

theorem next_calls (h : St b L w) {g mt : Nat} {kvs : List (Str × List Str)} (hb : HP.blk g (.cells #[.map (some mt)] 67) ∈ L) (hm : HP.pmulti strE mt kvs ∈ L) (q : Str) (hq : okStr q) :
    Calls Try.prog 35 #[sv q, .pointer (some ⟨g, 0, none⟩)] w fun x w' => ∃ v, x = .returned v ∧ w = w' ∧ St b (HP.sl strE v ((kget kvs q).getD []) :: L) w := by
  have c0 : w.cell? ⟨g, 0, none⟩ = some (.map (some mt)) := h.blk_cell hb 0
  obtain ⟨v, hl, h2⟩ := h.multi_lookup keyStr hm Try.underlying67 (Try.zeroValue24 w) q hq
  have hl' : (Instr.lookup 67 (.map (some mt)) (.string ⟨q.toArray⟩) false).run Try.prog w = .ok v w := hl
  have H2 := hide h2
  clear h hb hm hq hl h2
  go_enter Try.func35, Try.ntmps35
  go_wp2_with fail
  go_ret
  exact ⟨v, rfl, rfl, H2.out⟩

def IdxFAt (xs : List Str) (p : Str → Bool) (w : World) (i : Value) (wr : World) : Prop := ∃ k : Nat, k ≤ xs.length ∧ i = .int .i64 k ∧ w = wr ∧ ∀ y ∈ xs.take k, p y = false

theorem all_take_succ {l : List Str} {p : Str → Bool} {k : Nat} (hk : k < l.length) (hn : ∀ y ∈ l.take k, p y = false) (he : p l[k] = false) : ∀ y ∈ l.take (k + 1), p y = false := by
  intro x hx
  rw [List.take_succ_eq_append_getElem hk, List.mem_append] at hx
  rcases hx with h | h
  · exact hn x h
  · simp at h; subst h; exact he

set_option maxRecDepth 100000 in
theorem indexf_calls (h : St b L w) {v : Value} {xs : List Str} (hv : Reads strE L v xs) {g mp : Nat} {kvs : List (Str × Bool)} (hb : HP.blk g (.cells #[.map (some mp)] 66) ∈ L) (hm : HP.set mp kvs ∈ L) :
    Calls Try.prog 58 #[v, .func (.func 39) #[] #[.pointer (some ⟨g, 0, none⟩)]] w fun x w' => w = w' ∧
      ((x = .returned (.int .i64 (-1)) ∧ ∀ y ∈ xs, has kvs y = false) ∨ ∃ k : Nat, ∃ hk : k < xs.length, x = .returned (.int .i64 k) ∧ has kvs xs[k] = true ∧ ∀ y ∈ xs.take k, has kvs y = false) := by
  obtain ⟨base, cap, rfl, hc1, hc2⟩ := hv.form h
  have hm2 : (xs.length : Int) ≤ 9223372036854775807 := by unfold maxLen at hc2; omega
  have H := hide h
  have HV := hide hv
  have HB := hide hb
  have HM := hide hm
  clear h hv hb hm hc2
  go_enter Try.func58, Try.ntmps58
  go_wp2_with fail
  go_loopw [8] (fun i wr => IdxFAt xs (has kvs) w i wr) (fun i _ => xs.length - (intOf i).toNat)
  case atStart => exact ⟨0, by omega, rfl, rfl, by simp⟩
  case round =>
    obtain ⟨k, hk, rfl, rfl, hn⟩ := hrel
    have HN := hide hn
    clear hn
    by_cases hlt : k < xs.length
    · obtain ⟨g', o, rfl⟩ := HV.out.base H.out (by omega) Nat.one_pos
      obtain ⟨hc, hok⟩ := HV.out.sc_at H.out hlt
      have HOK := hide hok
      clear hok
      cases hp : has kvs xs[k] with
      | true =>
        have HP2 := hide hp
        clear hp
        go_wp2_with (go_at_call 39; refine (inpart_calls H.out HB.out HM.out xs[k] HOK.out).mono ?_; rintro x w1 ⟨rfl, rfl⟩; rw [HP2.out])
        go_ret
        exact ⟨rfl, Or.inr ⟨k, hlt, rfl, HP2.out, HN.out⟩⟩
      | false =>
        have HP2 := hide hp
        clear hp
        go_wp2_with (go_at_call 39; refine (inpart_calls H.out HB.out HM.out xs[k] HOK.out).mono ?_; rintro x w1 ⟨rfl, rfl⟩; rw [HP2.out])
        go_roundw
        case rel => exact ⟨k + 1, by omega, by go_num, rfl, all_take_succ hlt HN.out HP2.out⟩
        case measure => simp [intOf]; omega
    · have hnm := HN.out
      rw [List.take_of_length_le (by omega)] at hnm
      have HNM := hide hnm
      clear hnm
      go_wp2_with fail
      go_ret
      exact ⟨rfl, Or.inl ⟨rfl, HNM.out⟩⟩

/-- On the way: the first i of ys are those of the first j that stay; what is behind j is as it was. -/
structure DelP (xs ys : List Str) (p : Str → Bool) (i j : Nat) : Prop where
  len : ys.length = xs.length
  ij : i < j
  jn : j ≤ xs.length
  fst : ys.take i = (xs.take j).filter (fun y => !p y)
  snd : ys.drop j = xs.drop j
theorem DelP.at {xs ys : List Str} {p : Str → Bool} {i j : Nat} (h : DelP xs ys p i j) (hj : j < xs.length) : ys[j]'(by rw [h.len]; exact hj) = xs[j] := by
  have := congrArg (·[0]?) h.snd
  simp only [List.getElem?_drop, Nat.add_zero] at this
  rw [List.getElem?_eq_getElem (by rw [h.len]; exact hj), List.getElem?_eq_getElem hj] at this
  exact Option.some.inj this
theorem DelP.skip {xs ys : List Str} {p : Str → Bool} {i j : Nat} (h : DelP xs ys p i j) (hj : j < xs.length) (hp : p xs[j] = true) : DelP xs ys p i (j + 1) := by
  refine ⟨h.len, by have := h.ij; omega, by omega, ?_, ?_⟩
  · rw [List.take_succ_eq_append_getElem hj, List.filter_append, h.fst]; simp [hp]
  · have := congrArg (List.drop 1) h.snd
    simpa [List.drop_drop] using this
theorem DelP.move {xs ys : List Str} {p : Str → Bool} {i j : Nat} (h : DelP xs ys p i j) (hj : j < xs.length) (hp : p xs[j] = false) : DelP xs (ys.set i xs[j]) p (i + 1) (j + 1) := by
  have hij := h.ij
  have hil : i < ys.length := by rw [h.len]; omega
  refine ⟨by rw [List.length_set, h.len], by omega, by omega, ?_, ?_⟩
  · rw [List.take_succ_eq_append_getElem hj, List.filter_append, ← h.fst, List.take_succ_eq_append_getElem (by rw [List.length_set]; exact hil)]
    simp [hp, List.take_set]
    rw [List.set_eq_of_length_le (by rw [List.length_take]; omega)]
  · have := congrArg (List.drop 1) h.snd
    rw [List.drop_set_of_lt (show i < j + 1 by omega)]
    simpa [List.drop_drop] using this
theorem DelP.start {xs : List Str} {p : Str → Bool} {k : Nat} (hk : k < xs.length) (h1 : p xs[k] = true) (h2 : ∀ y ∈ xs.take k, p y = false) : DelP xs xs p k (k + 1) := by
  refine ⟨rfl, by omega, by omega, ?_, rfl⟩
  rw [List.take_succ_eq_append_getElem hk, List.filter_append]
  simp only [List.filter_cons, h1, Bool.not_true, Bool.false_eq_true, if_false, List.filter_nil, List.append_nil]
  exact (List.filter_eq_self.2 (fun y hy => by simp [h2 y hy])).symm

def DelAt (b : Env) (L : List HP) (base : Option Addr) (cap : Nat) (xs : List Str) (p : Str → Bool) (S B : HP) (i j : Value) (wr : World) : Prop :=
  ∃ (i' j' : Nat) (ys : List Str), i = .int .i64 i' ∧ j = .int .i64 j' ∧ DelP xs ys p i' j' ∧ St b (HP.rows 9 strE (.slice base xs.length cap) ys :: S :: B :: L) wr

set_option maxRecDepth 100000 in
set_option maxHeartbeats 1000000 in
theorem deletef_calls {base : Option Addr} {n cap : Nat} {xs : List Str} {g mp : Nat} {kvs : List (Str × Bool)} (h : St b (HP.rows 9 strE (.slice base n cap) xs :: HP.set mp kvs :: HP.blk g (.cells #[.map (some mp)] 66) :: L) w) :
    Calls Try.prog 38 #[.slice base n cap, .func (.func 39) #[] #[.pointer (some ⟨g, 0, none⟩)]] w fun x w' => ∃ n', x = .returned (.slice base n' cap) ∧
      St b (HP.rows 9 strE (.slice base n' cap) (xs.filter (fun y => !has kvs y)) :: HP.set mp kvs :: HP.blk g (.cells #[.map (some mp)] 66) :: L) w' := by
  obtain ⟨base', cap', hv, hc1, hc2⟩ := h.rows_form mem0
  simp only [Value.slice.injEq] at hv
  obtain ⟨rfl, rfl, rfl⟩ := hv
  have hm2 : (xs.length : Int) ≤ 9223372036854775807 := by unfold maxLen at hc2; omega
  have H := hide h
  clear h hc2
  go_enter Try.func38, Try.ntmps38
  go_wp2_with (go_at_call 58; refine (indexf_calls H.out (Reads.of_rows mem0) mem2 mem1).mono ?_; rintro x w1 ⟨rfl, hx⟩; (rcases hx with ⟨rfl, hx⟩ | ⟨k, hk, rfl, hx1, hx2⟩); all_goals (try (have hkb : ((k : Int) == -1) = false := by (rw [beq_eq_false_iff_ne]; omega))))
  · have HX := hide hx
    clear hx
    have HQ : Hid (xs.filter (fun y => !has kvs y) = xs) := hide (List.filter_eq_self.2 (fun y hy => by simp [HX.out y hy]))
    go_ret
    exact ⟨_, rfl, by rw [HQ.out]; exact H.out⟩
  · have HST := hide (DelP.start hk hx1 hx2)
    clear hx1 hx2
    obtain ⟨g', rfl⟩ := H.out.rows_base mem0 (by omega)
    go_loopw [5, 6] (fun i j wr => DelAt b L (some ⟨g', 0, none⟩) cap xs (has kvs) (HP.set mp kvs) (HP.blk g (.cells #[.map (some mp)] 66)) i j wr) (fun _ j _ => xs.length - (intOf j).toNat)
    case atStart => exact ⟨k, k + 1, xs, rfl, by go_num, HST.out, H.out⟩
    case round =>
      obtain ⟨i', j', ys, rfl, rfl, hd, hs⟩ := hrel
      have hjn := hd.jn
      have hij := hd.ij
      have HD := hide hd
      have H1 := hide hs
      clear hd hs H HST
      by_cases hlt : j' < xs.length
      · have hyl := HD.out.len
        obtain ⟨hc, hok⟩ := H1.out.sc_row_at mem0 (i := j') (by rw [hyl]; exact hlt)
        obtain ⟨hi, _⟩ := H1.out.sc_row_at mem0 (i := i') (by rw [hyl]; omega)
        obtain ⟨hf, hset⟩ := H1.out.sc_row_set (i := i') (by rw [hyl]; omega)
        rw [HD.out.at hlt] at hc hok
        have HOK := hide hok
        have HSET := hide (hset xs[j'] hok)
        have hlt' : (j' : Int) < xs.length := by omega
        have hi' : (i' : Int) < xs.length := by omega
        clear hok hset
        cases hp : has kvs xs[j'] with
        | true =>
          have HP2 := hide hp
          clear hp
          go_wp2_with (go_at_call 39; refine (inpart_calls H1.out mem2 mem1 xs[j'] HOK.out).mono ?_; rintro x w1 ⟨rfl, rfl⟩; rw [HP2.out])
          go_roundw
          case rel => exact ⟨i', j' + 1, ys, rfl, by go_num, HD.out.skip hlt HP2.out, H1.out⟩
          case measure => simp [intOf]; omega
        | false =>
          have HP2 := hide hp
          clear hp
          go_wp2_with (go_at_call 39; refine (inpart_calls H1.out mem2 mem1 xs[j'] HOK.out).mono ?_; rintro x w1 ⟨rfl, rfl⟩; rw [HP2.out])
          go_roundw
          case rel => exact ⟨i' + 1, j' + 1, _, by go_num, by go_num, HD.out.move hlt HP2.out, HSET.out⟩
          case measure => simp [intOf]; omega
      · have hje : j' = xs.length := by omega
        have HQ : Hid (xs.filter (fun y => !has kvs y) = ys.take i') := hide (by
          rw [HD.out.fst, hje, List.take_of_length_le (Nat.le_refl _)])
        have hyl := HD.out.len
        have hi1 : i' ≤ ys.length := by omega
        have hsl1 := run_slice_low (E := strE) slStr (some ⟨g', 0, none⟩) xs.length cap i' (by omega) .i64
        have hsl2 := run_slice_top (E := strE) slStr (some ⟨g', 0, none⟩) (Or.inr ⟨g', 0, rfl⟩) xs.length cap i' (by omega) .i64
        have hji : (xs.length : Int) ≤ j' := by omega
        clear hje hyl
        go_wp2_with ((with_reducible refine wpList_clear_sl_st rfl (.tmp 38) slStr rfl H1.out i' hi1 ?_ rfl ?_); (intro u hu; simp [Value.cells] at hu; subst hu; rfl); intro w5 h5; have H5 := hide h5; clear h5 H1)
        go_ret
        exact ⟨i', rfl, by rw [HQ.out]; exact H5.out⟩
end Go.Proofs.Ytmebmgbjpbapjaa
