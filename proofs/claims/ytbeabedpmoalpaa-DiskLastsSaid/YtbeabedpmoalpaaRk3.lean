/-
  deadboltref1: New.
-/
import Derived.Test.YtbeabedpmoalpaaRk2
import Derived.Test.YtbeabedpmoalpaaDk10
import Derived.Deep.RegionLaw
namespace Go.Proofs.Ytbeabedpmoalpaa
open Go.RowKit Go.Maps Go.MapKept
variable {e : Env} {b : Nat} {r : Rk} {L : List HP} {w : World}

def Rk.fresh0 (n : Nat) : Rk := ⟨List.replicate n zs, List.replicate n zs, List.replicate n false, false, -1, 0⟩

theorem MatOk.push {vs : List Value} {xss : List (List UInt8)} {u : Value} {x : List UInt8} (h : MatOk e vs xss) (hu : View e.h u x.length (x.map B8)) : MatOk e (vs ++ [u]) (xss ++ [x]) := by
  refine ⟨by simp [h.len], fun i a c ha hc => ?_⟩
  rcases Nat.lt_or_ge i vs.length with hi | hi
  · rw [List.getElem?_append_left hi] at ha
    rw [List.getElem?_append_left (by rw [← h.len]; exact hi)] at hc
    exact h.each i a c ha hc
  · rw [List.getElem?_append_right hi] at ha
    rw [List.getElem?_append_right (by rw [← h.len]; exact hi), ← h.len] at hc
    have h0 : i - vs.length = 0 := by
      have := (List.getElem?_eq_some_iff.1 ha).1; simp at this; omega
    rw [h0] at ha hc
    simp at ha hc
    subst ha; subst hc; exact hu

theorem fresh0_step (k : Nat) : Rk.fresh0 (k + 1) = { Rk.fresh0 k with now := (Rk.fresh0 k).now ++ [zs], last := (Rk.fresh0 k).last ++ [zs], fresh := (Rk.fresh0 k).fresh ++ [false] } := by
  simp [Rk.fresh0, List.replicate_succ']

theorem ref_push_now {nv nv' lv wv : Value} {ns ls : List Value} {g : Nat} {o : Obj} {u : Value} {x : List UInt8} (m1 : MatOk e ns r.now) (m2 : MatOk e ls r.last) (hu : View e.h u x.length (x.map B8))
    (h : Sat e (HP.row 32 1 nv' (ns.length + 1) (ns ++ [u]) :: HP.blk g o :: HP.blk b (rkCells nv lv wv r) :: HP.row 32 1 lv ls.length ls :: HP.row 4 1 wv r.fresh.length (r.fresh.map Value.bool) :: L) w) :
    Sat e (HP.ref b { r with now := r.now ++ [x] } :: L) (w.setCell ⟨b, 0, none⟩ nv') := by
  have h1 := (h.pick [2, 0, 3, 4] 5 (by decide) (by decide) (by simp)).setCell (i := 0) nv'
  refine Sat.ref_shut (nv := nv') (lv := lv) (wv := wv) (ns := ns ++ [u]) (ls := ls) (m1.push hu) m2 ?_
  have e1 : (ns ++ [u]).length = ns.length + 1 := by simp
  rw [e1]; exact h1

theorem ref_push_last {nv lv lv' wv : Value} {ns ls : List Value} {g : Nat} {o : Obj} {u : Value} {x : List UInt8} (m1 : MatOk e ns r.now) (m2 : MatOk e ls r.last) (hu : View e.h u x.length (x.map B8))
    (h : Sat e (HP.row 32 1 lv' (ls.length + 1) (ls ++ [u]) :: HP.blk g o :: HP.blk b (rkCells nv lv wv r) :: HP.row 32 1 nv ns.length ns :: HP.row 4 1 wv r.fresh.length (r.fresh.map Value.bool) :: L) w) :
    Sat e (HP.ref b { r with last := r.last ++ [x] } :: L) (w.setCell ⟨b, 1, none⟩ lv') := by
  have h1 := (h.pick [2, 3, 0, 4] 5 (by decide) (by decide) (by simp)).setCell (i := 1) lv'
  refine Sat.ref_shut (nv := nv) (lv := lv') (wv := wv) (ns := ns) (ls := ls ++ [u]) m1 (m2.push hu) ?_
  have e1 : (ls ++ [u]).length = ls.length + 1 := by simp
  rw [e1]; exact h1

theorem ref_push_fresh {nv lv wv wv' : Value} {ns ls : List Value} {g : Nat} {o : Obj} {x : Bool} (m1 : MatOk e ns r.now) (m2 : MatOk e ls r.last)
    (h : Sat e (HP.row 4 1 wv' (r.fresh.length + 1) (r.fresh.map Value.bool ++ [.bool x]) :: HP.blk g o :: HP.blk b (rkCells nv lv wv r) :: HP.row 32 1 nv ns.length ns :: HP.row 32 1 lv ls.length ls :: L) w) :
    Sat e (HP.ref b { r with fresh := r.fresh ++ [x] } :: L) (w.setCell ⟨b, 2, none⟩ wv') := by
  have h1 := (h.pick [2, 3, 4, 0] 5 (by decide) (by decide) (by simp)).setCell (i := 2) wv'
  refine Sat.ref_shut (nv := nv) (lv := lv) (wv := wv') (ns := ns) (ls := ls) m1 m2 ?_
  have e1 : (r.fresh ++ [x]).length = r.fresh.length + 1 := by simp
  show Sat e (_ :: _ :: _ :: HP.row _ _ _ (r.fresh ++ [x]).length ((r.fresh ++ [x]).map Value.bool) :: L) _
  rw [e1, List.map_append]; exact h1

def RNewAt (e : Env) (b : Nat) (L : List HP) (n : Nat) (i : Value) (w : World) : Prop := ∃ k : Nat, k ≤ n ∧ i = .int .i64 k ∧ ∃ e', e.le e' ∧ Sat e' (HP.ref b (Rk.fresh0 k) :: L) w

theorem info_sl : (Try.prog.info? 32).map (fun i => (i.zero, i.size, i.bytes)) = some (some (.slice none 0 0), 1, 24) := by kernel_rfl
theorem info_bool : (Try.prog.info? 4).map (fun i => (i.zero, i.size, i.bytes)) = some (some (.bool false), 1, 1) := by kernel_rfl

set_option maxRecDepth 100000 in
set_option maxHeartbeats 2000000 in
theorem rnew_good (h : Sat e L w) (n : Nat) (h8 : 8 ≤ n) (h256 : n ≤ 256) (heven : n % 2 = 0) : Calls Try.prog 15 #[.int .i64 n] w
    fun x w' => ∃ e' b, e.le e' ∧ x = .returned (.tuple #[.pointer (some ⟨b, 0, none⟩), .int .i64 0]) ∧ Sat e' (HP.ref b (Rk.fresh0 n) :: L) w' := by
  obtain ⟨i0, hi, hz0, hz1, hz2⟩ := info_parts info_u8
  obtain ⟨i1, hi1, hx0, hx1, hx2⟩ := info_parts info_sl
  obtain ⟨i2, hi2, hy0, hy1, hy2⟩ := info_parts info_bool
  have HI := hide hi
  have HI1 := hide hi1
  have HI2 := hide hi2
  have H := hide h
  have hev : (n : Int) % 2 = 0 := by omega
  have hev' : ((n : Int) % 2 != 0) = false := by simp [hev]
  have a8 : (8 : Int) ≤ n := by omega
  have a9 : (n : Int) ≤ 256 := by omega
  clear h hi hi1 hi2 heven
  go_enter Try.func15, Try.ntmps15
  go_wp2_with fail
  have h0 : Sat e (HP.ref w.heap.size (Rk.fresh0 0) :: L) (w.alloc (.cells #[.slice none 0 0, .slice none 0 0, .slice none 0 0, .bool false, .int .i64 (-1), .int .i64 0] 63)) := by
    have h1 := (((H.out.alloc (.cells #[.slice none 0 0, .slice none 0 0, .slice none 0 0, .bool false, .int .i64 (-1), .int .i64 0] 63)).row_nil 4 1).row_nil 32 1).row_nil 32 1
    exact Sat.ref_shut (ns := []) (ls := []) (nv := .slice none 0 0) (lv := .slice none 0 0) (wv := .slice none 0 0) ⟨rfl, by simp⟩ ⟨rfl, by simp⟩ (h1.pick [3, 0, 1, 2] 4 (by decide) (by decide) (by simp))
  have H0 := hide h0
  clear h0
  generalize w.heap.size = b at H0 ⊢
  go_loopw [5] (fun i wr => RNewAt e b L n i wr) (fun i _ => n - (intOf i).toNat)
  case atStart => exact ⟨0, by omega, rfl, e, Env.le_refl e, H0.out⟩
  case round =>
    obtain ⟨k, hk, rfl, e0, hle, hs⟩ := hrel
    have HR := hide hs
    have HE := hide hle
    clear hs hle
    by_cases hlt : (k : Int) < n
    · go_wp2_with fail
      obtain ⟨nv, lv, wv, ns, ls, m1, m2, h⟩ := HR.out.drew.ref_open
      have c0 := h.ref_at.c0
      obtain ⟨g6, w1, hmk, h1⟩ : ∃ g w', (Instr.makeSlice 32 (.int .i64 64) (.int .i64 64)).run Try.prog _ = .ok (.slice (some ⟨g, 0, none⟩) 64 64) w' ∧ _ := h.make_ex Try.underlying32 HI.out hz0 hz1 hz2 .i64 .i64 64 (by omega) (by unfold maxLen; omega)
      rw [made_u8] at h1
      obtain ⟨e1, hle1, V1, h2⟩ := (zs_row h1).row_persist
      have c1 := h2.ref_at.c0
      have h3 := h2.alloc (.cells #[.slice (some ⟨g6, 0, none⟩) 64 64] 32)
      have c2 := h3.drop.ref_at.c0
      have H3 := hide h3
      have HV1 := hide V1
      have HLE := hide (HE.out.trans hle1)
      have HM1 := hide (m1.le hle1)
      have HM2 := hide (m2.le hle1)
      have HN := hide m1.len
      have HN2 := hide m2.len
      clear h h1 h2 h3 V1 m1 m2 hle1 HR HE
      go_region_law (first | (refine step_append_sl rfl (.tmp 28) (.tmp 30) 45 rfl Try.underlying45 HI1.out hx0 hx1 hx2 rfl (by omega) (H3.out.front 2 rfl) (view_of_toArray H3.out.at 1 1) rfl rfl rfl (by simp [Value.oneCell']) ?_ ?_ ?_; (rw [HN.out]; simp [Rk.fresh0]; unfold maxLen; omega); (rw [HN.out]; simp [Rk.fresh0]; omega); intro v4 w4 h4 _; obtain ⟨vb, vc, hv4, _⟩ := h4.row_view; subst hv4; have c4 := (h4.front 2 rfl).ref_at.c0; have f4 := unfrozen_of (h4.nth_at 2 rfl) 0; have H4 := hide h4; clear h4 H3))
      all_goals
        have HR := hide (ref_push_now HM1.out HM2.out HV1.out H4.out)
        have HE := HLE
        clear H4 HM1 HM2 HV1 HLE hmk c0 c1 c2 c4 f4 HN HN2
        generalize w4.setCell _ _ = W5 at HR ⊢
        go_wp2_with fail
        obtain ⟨nv, lv, wv, ns, ls, m1, m2, h⟩ := HR.out.drew.ref_open
        have c0 := h.ref_at.c1
        obtain ⟨g6, w1, hmk, h1⟩ : ∃ g w', (Instr.makeSlice 32 (.int .i64 64) (.int .i64 64)).run Try.prog _ = .ok (.slice (some ⟨g, 0, none⟩) 64 64) w' ∧ _ := h.make_ex Try.underlying32 HI.out hz0 hz1 hz2 .i64 .i64 64 (by omega) (by unfold maxLen; omega)
        rw [made_u8] at h1
        obtain ⟨e1, hle1, V1, h2⟩ := (zs_row h1).row_persist
        have c1 := h2.ref_at.c1
        have h3 := h2.alloc (.cells #[.slice (some ⟨g6, 0, none⟩) 64 64] 32)
        have c2 := h3.drop.ref_at.c1
        have H3 := hide h3
        have HV1 := hide V1
        have HLE := hide (HE.out.trans hle1)
        have HM1 := hide (m1.le hle1)
        have HM2 := hide (m2.le hle1)
        have HN := hide m1.len
        have HN2 := hide m2.len
        clear h h1 h2 h3 V1 m1 m2 hle1 HR HE
        go_region_law (first | (refine step_append_sl rfl (.tmp 38) (.tmp 40) 45 rfl Try.underlying45 HI1.out hx0 hx1 hx2 rfl (by omega) (H3.out.front 3 rfl) (view_of_toArray H3.out.at 1 1) rfl rfl rfl (by simp [Value.oneCell']) ?_ ?_ ?_; (rw [HN2.out]; simp [Rk.fresh0]; unfold maxLen; omega); (rw [HN2.out]; simp [Rk.fresh0]; omega); intro v4 w4 h4 _; obtain ⟨vb, vc, hv4, _⟩ := h4.row_view; subst hv4; have c4 := (h4.front 2 rfl).ref_at.c1; have f4 := unfrozen_of (h4.nth_at 2 rfl) 1; have H4 := hide h4; clear h4 H3))
        all_goals
          have HR := hide (ref_push_last HM1.out HM2.out HV1.out H4.out)
          have HE := HLE
          clear H4 HM1 HM2 HV1 HLE hmk c0 c1 c2 c4 f4 HN HN2
          generalize w4.setCell _ _ = W6 at HR ⊢
          obtain ⟨nv, lv, wv, ns, ls, m1, m2, h⟩ := HR.out.ref_open
          have c0 := h.ref_at.c2
          have h3 := h.alloc (.cells #[.bool false] 4)
          have H3 := hide h3
          have HM1 := hide m1
          have HM2 := hide m2
          clear h h3 m1 m2 HR
          go_wp2_with (first | ((refine wpList_append_sl rfl (.tmp 48) (.tmp 49) 46 rfl Try.underlying46 HI2.out hy0 hy1 hy2 rfl (by omega) (H3.out.front 4 rfl) (view_of_toArray H3.out.at 1 1) rfl rfl rfl (by simp [Value.oneCell']) ?_ ?_ ?_); (simp [Rk.fresh0]; unfold maxLen; omega); (simp [Rk.fresh0]; omega); intro v4 w7 h4 _; obtain ⟨vb, vc, hv4, _⟩ := h4.row_view; subst hv4; have c4 := (h4.front 2 rfl).ref_at.c2; have f4 := unfrozen_of (h4.nth_at 2 rfl) 2; have H4 := hide h4; clear h4 H3))
          have h9 := ref_push_fresh HM1.out HM2.out H4.out
          go_roundw
          case rel => exact ⟨k + 1, by omega, by go_num, _, HE.out, by rw [fresh0_step]; exact h9⟩
          case measure => simp [intOf]; omega
    · have hkn : n = k := by omega
      subst hkn
      go_wp2_with fail
      go_ret2
      exact ⟨e0, HE.out, b, rfl, HR.out⟩
end Go.Proofs.Ytbeabedpmoalpaa
