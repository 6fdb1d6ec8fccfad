/-
  deadboltref1: Write, Flush.
-/
import Derived.Test.YtbeabedpmoalpaaRk3
import Derived.Deep.RegionHeld
namespace Go.Proofs.Ytbeabedpmoalpaa
open Go.RowKit Go.Maps Go.MapKept
variable {e : Env} {b : Nat} {r : Rk} {L : List HP} {w : World}

theorem MatOk.set {vs : List Value} {xss : List (List UInt8)} {u : Value} {x : List UInt8} (h : MatOk e vs xss) (k : Nat) (hu : View e.h u x.length (x.map B8)) : MatOk e (vs.set k u) (xss.set k x) := by
  refine ⟨by simp [h.len], fun i a c ha hc => ?_⟩
  by_cases hik : k = i
  · subst hik
    have h1 : k < vs.length := by have := (List.getElem?_eq_some_iff.1 ha).1; simpa using this
    rw [List.getElem?_set_self h1] at ha
    rw [List.getElem?_set_self (by rw [← h.len]; exact h1)] at hc
    cases ha; cases hc; exact hu
  · rw [List.getElem?_set_ne hik] at ha hc
    exact h.each i a c ha hc

abbrev RowN (v : Value) (ns : List Value) : HP := HP.row 32 1 v ns.length ns
abbrev RowB (v : Value) (fs : List Bool) : HP := HP.row 4 1 v fs.length (fs.map Value.bool)

theorem ref_set_now {g cap : Nat} {lv wv u : Value} {ns ls : List Value} {x : List UInt8} (m1 : MatOk e ns r.now) (m2 : MatOk e ls r.last) (hu : View e.h u x.length (x.map B8)) (k : Nat) (hk : k < ns.length)
    (h : Sat e (HP.blk b (rkCells (.slice (some ⟨g, 0, none⟩) ns.length cap) lv wv r) :: RowN (.slice (some ⟨g, 0, none⟩) ns.length cap) ns :: RowN lv ls :: RowB wv r.fresh :: L) w) :
    Sat e (HP.ref b { r with now := r.now.set k x } :: L) (w.setCell ⟨g, k, none⟩ u) := by
  have h1 := ((h.swap.row_cell hk).2.2 u).swap
  refine Sat.ref_shut (nv := .slice (some ⟨g, 0, none⟩) ns.length cap) (lv := lv) (wv := wv) (ns := ns.set k u) (ls := ls) (m1.set k hu) m2 ?_
  have e1 : (ns.set k u).length = ns.length := by simp
  rw [e1]; exact h1

theorem ref_set_last {g cap : Nat} {nv wv u : Value} {ns ls : List Value} {x : List UInt8} (m1 : MatOk e ns r.now) (m2 : MatOk e ls r.last) (hu : View e.h u x.length (x.map B8)) (k : Nat) (hk : k < ls.length)
    (h : Sat e (HP.blk b (rkCells nv (.slice (some ⟨g, 0, none⟩) ls.length cap) wv r) :: RowN nv ns :: RowN (.slice (some ⟨g, 0, none⟩) ls.length cap) ls :: RowB wv r.fresh :: L) w) :
    Sat e (HP.ref b { r with last := r.last.set k x } :: L) (w.setCell ⟨g, k, none⟩ u) := by
  have h1 := (h.bring3.row_cell hk).2.2 u
  refine Sat.ref_shut (nv := nv) (lv := .slice (some ⟨g, 0, none⟩) ls.length cap) (wv := wv) (ns := ns) (ls := ls.set k u) m1 (m2.set k hu) ?_
  have e1 : (ls.set k u).length = ls.length := by simp
  rw [e1]; exact h1.rot3

theorem ref_set_fresh {g cap : Nat} {nv lv : Value} {ns ls : List Value} (x : Bool) (m1 : MatOk e ns r.now) (m2 : MatOk e ls r.last) (k : Nat) (hk : k < r.fresh.length)
    (h : Sat e (HP.blk b (rkCells nv lv (.slice (some ⟨g, 0, none⟩) r.fresh.length cap) r) :: RowN nv ns :: RowN lv ls :: RowB (.slice (some ⟨g, 0, none⟩) r.fresh.length cap) r.fresh :: L) w) :
    Sat e (HP.ref b { r with fresh := r.fresh.set k x } :: L) (w.setCell ⟨g, k, none⟩ (.bool x)) := by
  have h1 := (h.bring4.row_cell (i := k) (by simpa using hk)).2.2 (.bool x)
  refine Sat.ref_shut (nv := nv) (lv := lv) (wv := .slice (some ⟨g, 0, none⟩) r.fresh.length cap) (ns := ns) (ls := ls) m1 m2 ?_
  have e1 : (r.fresh.set k x).length = r.fresh.length := by simp
  show Sat e (_ :: _ :: _ :: HP.row _ _ _ (r.fresh.set k x).length ((r.fresh.set k x).map Value.bool) :: L) _
  rw [e1, List.map_set]
  exact h1.pick [1, 2, 3, 0] 4 (by decide) (by decide) (by simp)

/-- What 'x.New[k] = c' wants of memory. -/
theorem ref_fresh_facts (h : Sat e (HP.ref b r :: L) w) (k : Nat) (hk : k < r.fresh.length) : ∃ g cap, w.cell? ⟨b, 2, none⟩ = some (.slice (some ⟨g, 0, none⟩) r.fresh.length cap) ∧ w.cell? ⟨g, k, none⟩ = some (.bool (r.fresh.getD k false)) ∧ w.frozen? ⟨g, k, none⟩ = false ∧
    ∀ x, Sat e (HP.ref b { r with fresh := r.fresh.set k x } :: L) (w.setCell ⟨g, k, none⟩ (.bool x)) := by
  obtain ⟨nv, lv, wv, ns, ls, m1, m2, h⟩ := h.ref_open
  have c2 := h.ref_at.c2
  obtain ⟨base, cap, hv, _⟩ := h.bring4.row_view
  subst hv
  obtain ⟨g, rfl⟩ := h.bring4.row_base (by omega)
  have hc := h.bring4.row_cell (i := k) (by simpa using hk)
  refine ⟨g, cap, c2, ?_, hc.2.1, fun x => ref_set_fresh x m1 m2 k hk h⟩
  rw [hc.1, List.getElem?_map, List.getElem?_eq_getElem hk]
  simp [List.getD, hk]

def Rk.wrote (r : Rk) (n : Int) (l : List UInt8) : Rk := { r.spend with now := r.now.set n.toNat l, fresh := r.fresh.set n.toNat true }
def Rk.writeR (r : Rk) (n : Int) (l : List UInt8) : Int := if r.dead then 3 else if !(r.has n) || decide (l.length ≠ 64) then 1 else if r.left = 0 then 3 else 0
def Rk.writeD (r : Rk) (n : Int) (l : List UInt8) : Rk := if r.dead then r else if !(r.has n) || decide (l.length ≠ 64) then r else if r.left = 0 then { r with dead := true } else r.wrote n l

theorem spend_rest (r : Rk) : r.spend.now = r.now ∧ r.spend.last = r.last ∧ r.spend.fresh = r.fresh := by unfold Rk.spend; split <;> exact ⟨rfl, rfl, rfl⟩

set_option maxRecDepth 100000 in
set_option maxHeartbeats 2000000 in
theorem rwrite_ok (h : Sat e (HP.ref b r :: L) w) (hOk : r.Ok) (k : Nat) (v : Value) (l : List UInt8) (V : View e.h v l.length (l.map B8)) (hd : r.dead = false) (hk : k < r.now.length) (hl : l.length = 64) (hf : r.left ≠ 0) :
    Calls Try.prog 35 #[.pointer (some ⟨b, 0, none⟩), .int .i64 k, v] w fun x w' => ∃ e', e.le e' ∧ x = .returned (.int .i64 0) ∧ Sat e' (HP.ref b (r.wrote k l) :: L) w' := by
  obtain ⟨i0, hi, hz0, hz1, hz2⟩ := info_parts info_u8
  obtain ⟨s1, s2, s3⟩ := spend_rest r
  rw [hl] at V
  have H := hide h
  have HOK := hide hOk
  have HV := hide V
  have HI := hide hi
  have HL := hide hl
  obtain ⟨nv, lv, wv, ns, ls, m1, m2, h⟩ := h.ref_open
  have c0 := h.ref_at.c0
  have c3 := h.ref_at.c3
  rw [hd] at c3
  obtain ⟨nb, nc, hnv, _⟩ := h.drop.row_view
  subst hnv
  rw [m1.len] at c0
  obtain ⟨vb, vc, hvv, _⟩ := V
  subst hvv
  have hk' : (k : Int) < r.now.length := by omega
  have hdec : decide (r.left ≠ 0) = true := by simpa using hf
  have HSP : Hid (r.spend.now = r.now ∧ r.spend.last = r.last ∧ r.spend.fresh = r.fresh) := hide ⟨s1, s2, s3⟩
  have HFL : Hid (k < r.fresh.length) := hide (by rw [hOk.fresh]; exact hk)
  clear h m1 m2 hOk hi hl s1 s2 s3 hd hf
  go_enter Try.func35, Try.ntmps35
  go_wp2_with (go_at_call 42; refine (rspend_calls H.out HOK.out.n0 HOK.out.n1 HOK.out.left).mono ?_; rintro x w2 ⟨rfl, h2⟩; rw [hdec]; have H2 := hide h2; clear h2)
  clear c0 c3
  obtain ⟨nv, lv, wv, ns, ls, m1, m2, h⟩ := H2.out.drew.ref_open
  rw [HSP.out.1] at m1
  obtain ⟨nb, nc, hnv, _⟩ := h.drop.row_view
  subst hnv
  obtain ⟨g, rfl⟩ := h.swap.row_base (by rw [m1.len]; omega)
  have hkn : k < ns.length := by rw [m1.len]; exact hk
  have hkn' : (k : Int) < ns.length := by omega
  have hne : ¬ g = b := h.row_ne
  have d0 := h.ref_at.c0
  have h3 := h.build0 (E := 5) 1
  have d1 := h3.drop.ref_at.c0
  have H3 := hide h3
  have HM1 := hide m1
  have HM2 := hide m2
  clear h h3 m1 m2 H2
  go_region_held3 (fun w' => w'.cell? ⟨b, 0, none⟩ = some (.slice (some ⟨g, 0, none⟩) ns.length nc))
    (first | exact d0 | exact d1 | exact d4 | go_keep)
    (first
      | (refine step_append_sl rfl (.tmp 38) (.tmp 39) 32 rfl Try.underlying32 HI.out hz0 hz1 hz2 rfl (by omega) H3.out (HV.out.sat H3.out) rfl rfl ?_ (map_B8_one l) (by unfold maxLen; omega) (by omega) ?_; (simp [HL.out]); intro v4 w4 h4 _; rw [List.nil_append] at h4; obtain ⟨wb, wc, hv4, _⟩ := h4.row_view; subst hv4; obtain ⟨e1, hle1, V1, h5⟩ := h4.row_persist; have d4 := h5.ref_at.c0; have hc4 := h5.swap.row_cell hkn; have c4 := hc4.1; have f4 := hc4.2.1; clear hc4; rw [List.getElem?_eq_getElem hkn] at c4; have H5 := hide h5; have HV1 := hide V1; have HLE := hide hle1; clear h4 h5 V1 hle1 H3))
  have HR : Hid (Sat e1 (HP.ref b { r.spend with now := r.now.set k l } :: L) (w4.setCell ⟨g, k, none⟩ (.slice wb 64 wc))) := hide (by
    have hx := ref_set_now (r := r.spend) (x := l) (by rw [HSP.out.1]; exact HM1.out.le HLE.out) (HM2.out.le HLE.out) (by rw [HL.out]; exact HV1.out) k hkn H5.out
    rw [HSP.out.1] at hx; exact hx)
  clear H5 HM1 HM2 HV1 c4 f4 d0 d1 d4
  generalize w4.setCell _ _ = W5 at HR ⊢
  obtain ⟨g2, c2, q0, q1, q2, q3⟩ := ref_fresh_facts HR.out k (by show k < r.spend.fresh.length; rw [HSP.out.2.2]; exact HFL.out)
  have HQ := hide q3
  have hkf : (k : Int) < ({ r.spend with now := r.now.set k l } : Rk).fresh.length := by show (k : Int) < r.spend.fresh.length; rw [HSP.out.2.2]; have := HFL.out; omega
  clear q3 HR
  go_wp2_with fail
  go_ret
  refine ⟨e1, HLE.out, rfl, ?_⟩
  have hx := HQ.out true
  have e2 : r.wrote k l = { r.spend with now := r.now.set k l, fresh := r.spend.fresh.set k true } := by unfold Rk.wrote; rw [HSP.out.2.2]; rfl
  rw [e2]; exact hx
end Go.Proofs.Ytbeabedpmoalpaa
