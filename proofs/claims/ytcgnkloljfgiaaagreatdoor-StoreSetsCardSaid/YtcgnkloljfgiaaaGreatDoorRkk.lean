/-
  deadboltref1: the document's disk in memory, said of a plain value (Rk). Rows of bytes that are laid in it never turn again. deadboltref1: Read, Write. deadboltref1: New.
-/
import Derived.Test.YtcgnkloljfgiaaaGreatDoorOp3
import Derived.Test.YtcgnkloljfgiaaaGreatDoorDkk
import Derived.Deep.RegionLaw
namespace Go.Proofs.YtcgnkloljfgiaaaGreatDoor
open Go.RowKit Go.Maps Go.MapKept

structure Rk where
  now : List (List UInt8)
  last : List (List UInt8)
  fresh : List Bool
  dead : Bool
  left : Int
  n : Int

structure MatOk (e : Env) (vs : List Value) (xss : List (List UInt8)) : Prop where
  len : vs.length = xss.length
  each : ∀ (i : Nat) u x, vs[i]? = some u → xss[i]? = some x → View e.h u x.length (x.map B8)

theorem MatOk.le {e e' : Env} {vs : List Value} {xss : List (List UInt8)} (h : MatOk e vs xss) (hle : e.le e') : MatOk e' vs xss := ⟨h.len, fun i u x h1 h2 => (h.each i u x h1 h2).le hle⟩

def rkCells (nv lv wv : Value) (r : Rk) : Obj := .cells #[nv, lv, wv, .bool r.dead, .int .i64 r.left, .int .i64 r.n] 106

def HP.ref (b : Nat) (r : Rk) : HP := HP.ex fun nv => HP.ex fun lv => HP.ex fun wv => HP.ex fun ns => HP.ex fun ls =>
  HP.star (HP.env (fun e => MatOk e ns r.now ∧ MatOk e ls r.last) (fun hle h => ⟨h.1.le hle, h.2.le hle⟩))
    (HP.star (HP.blk b (rkCells nv lv wv r)) (HP.star (HP.row 37 1 nv ns.length ns) (HP.star (HP.row 37 1 lv ls.length ls) (HP.row 4 1 wv r.fresh.length (r.fresh.map Value.bool)))))

variable {e : Env} {b : Nat} {r : Rk} {L : List HP} {w : World}

theorem Sat.ref_open (h : Sat e (HP.ref b r :: L) w) : ∃ nv lv wv ns ls, MatOk e ns r.now ∧ MatOk e ls r.last ∧
    Sat e (HP.blk b (rkCells nv lv wv r) :: HP.row 37 1 nv ns.length ns :: HP.row 37 1 lv ls.length ls :: HP.row 4 1 wv r.fresh.length (r.fresh.map Value.bool) :: L) w := by
  obtain ⟨nv, h⟩ := h.ex_elim
  obtain ⟨lv, h⟩ := h.ex_elim
  obtain ⟨wv, h⟩ := h.ex_elim
  obtain ⟨ns, h⟩ := h.ex_elim
  obtain ⟨ls, h⟩ := h.ex_elim
  obtain ⟨⟨h1, h2⟩, h⟩ := h.star_elim.env_elim
  have h3 := h.star_elim.swap.star_elim.swap.star_elim
  exact ⟨nv, lv, wv, ns, ls, h1, h2, h3.pick [3, 2, 0, 1] 4 (by decide) (by decide) (by simp)⟩

theorem Sat.ref_shut {nv lv wv : Value} {ns ls : List Value} (h1 : MatOk e ns r.now) (h2 : MatOk e ls r.last)
    (h : Sat e (HP.blk b (rkCells nv lv wv r) :: HP.row 37 1 nv ns.length ns :: HP.row 37 1 lv ls.length ls :: HP.row 4 1 wv r.fresh.length (r.fresh.map Value.bool) :: L) w) : Sat e (HP.ref b r :: L) w := by
  have h3 := h.pick [2, 3, 1, 0] 4 (by decide) (by decide) (by simp)
  have h4 := Sat.star_intro (Sat.swap (Sat.star_intro (Sat.swap (Sat.star_intro h3))))
  exact Sat.ex_intro nv (Sat.ex_intro lv (Sat.ex_intro wv (Sat.ex_intro ns (Sat.ex_intro ls (Sat.star_intro (Sat.env_intro ⟨h1, h2⟩ h4))))))

structure RkAt (w : World) (b : Nat) (nv lv wv : Value) (r : Rk) : Prop where
  c0 : w.cell? ⟨b, 0, none⟩ = some nv
  c1 : w.cell? ⟨b, 1, none⟩ = some lv
  c2 : w.cell? ⟨b, 2, none⟩ = some wv
  c3 : w.cell? ⟨b, 3, none⟩ = some (.bool r.dead)
  c4 : w.cell? ⟨b, 4, none⟩ = some (.int .i64 r.left)
  c5 : w.cell? ⟨b, 5, none⟩ = some (.int .i64 r.n)
  f3 : w.frozen? ⟨b, 3, none⟩ = false
  f4 : w.frozen? ⟨b, 4, none⟩ = false
  f5 : w.frozen? ⟨b, 5, none⟩ = false

theorem Sat.ref_at {nv lv wv : Value} (h : Sat e (HP.blk b (rkCells nv lv wv r) :: L) w) : RkAt w b nv lv wv r := by
  have hb := h.at
  unfold rkCells at hb
  exact ⟨by rw [cell_of hb]; rfl, by rw [cell_of hb]; rfl, by rw [cell_of hb]; rfl, by rw [cell_of hb]; rfl, by rw [cell_of hb]; rfl, by rw [cell_of hb]; rfl, unfrozen_of hb _, unfrozen_of hb _, unfrozen_of hb _⟩

theorem rsize_calls (h : Sat e (HP.ref b r :: L) w) : Calls Tryz.prog 59 #[.pointer (some ⟨b, 0, none⟩)] w fun x w' => x = .returned (.int .i64 r.now.length) ∧ w = w' := by
  obtain ⟨nv, lv, wv, ns, ls, h1, h2, h⟩ := h.ref_open
  have c0 := h.ref_at.c0
  obtain ⟨base, cap, hv, _⟩ := h.drop.row_view
  subst hv
  have hl := h1.len
  rw [← hl]
  clear h h1 h2 hl
  go_enter Tryz.func59, Tryz.ntmps59
  go_wp2
  go_ret
  exact ⟨rfl, rfl⟩



def Rk.fused (r : Rk) (n : Int) : Rk := if n < 0 then { r with left := -1, dead := false } else { r with left := n }
def Rk.spend (r : Rk) : Rk := if r.left = 0 then { r with dead := true } else { r with left := if 0 < r.left then r.left - 1 else r.left, n := r.n + 1 }

set_option linter.unusedSimpArgs false in
set_option maxRecDepth 100000 in
theorem rspend_calls (h : Sat e (HP.ref b r :: L) w) (h1 : 0 ≤ r.n) (h2 : r.n < 1000000000) (h4 : r.left < 9223372036854775808) :
    Calls Tryz.prog 130 #[.pointer (some ⟨b, 0, none⟩)] w fun x w' => x = .returned (.bool (decide (r.left ≠ 0))) ∧ Sat e (HP.ref b r.spend :: L) w' := by
  obtain ⟨nv, lv, wv, ns, ls, m1, m2, h⟩ := h.ref_open
  have D := h.ref_at
  have c4 := D.c4
  have c5 := D.c5
  have f4 := D.f4
  have f5 := D.f5
  have HS := hide h
  have H1 := hide m1
  have H2 := hide m2
  clear m1 m2
  by_cases hz : r.left = 0
  · have c3 := D.c3
    have f3 := D.f3
    rw [hz] at c4
    have hfin : Sat e (HP.ref b r.spend :: L) (w.setCell ⟨b, 3, none⟩ (.bool true)) := by
      have e1 : r.spend = { r with dead := true } := by rw [Rk.spend, if_pos hz]
      rw [e1]
      exact Sat.ref_shut (nv := nv) (lv := lv) (wv := wv) H1.out H2.out (h.setCell (i := 3) (.bool true))
    have HF := hide hfin
    have HZ := hide hz
    clear hfin h D f4 f5 c5 hz h1 h2 h4
    go_enter Tryz.func130, Tryz.ntmps130
    go_wp2
    go_ret
    exact ⟨by simp [HZ.out], HF.out⟩
  · by_cases hp : 0 < r.left
    · have hfin : Sat e (HP.ref b r.spend :: L) ((w.setCell ⟨b, 4, none⟩ (.int .i64 (r.left - 1))).setCell ⟨b, 5, none⟩ (.int .i64 (r.n + 1))) := by
        have e1 : r.spend = { r with left := r.left - 1, n := r.n + 1 } := by rw [Rk.spend, if_neg hz, if_pos hp]
        rw [e1]
        exact Sat.ref_shut (nv := nv) (lv := lv) (wv := wv) H1.out H2.out ((h.setCell (i := 4) (.int .i64 (r.left - 1))).setCell (i := 5) (.int .i64 (r.n + 1)))
      have HF := hide hfin
      have hb : (r.left == 0) = false := by simpa using hz
      clear hfin h D
      go_enter Tryz.func130, Tryz.ntmps130
      go_wp2
      go_ret
      exact ⟨by simp [hz], HF.out⟩
    · have hfin : Sat e (HP.ref b r.spend :: L) (w.setCell ⟨b, 5, none⟩ (.int .i64 (r.n + 1))) := by
        have e1 : r.spend = { r with n := r.n + 1 } := by rw [Rk.spend, if_neg hz, if_neg hp]
        rw [e1]
        exact Sat.ref_shut (nv := nv) (lv := lv) (wv := wv) H1.out H2.out (h.setCell (i := 5) (.int .i64 (r.n + 1)))
      have HF := hide hfin
      have hb : (r.left == 0) = false := by simpa using hz
      clear hfin h D h4
      go_enter Tryz.func130, Tryz.ntmps130
      go_wp2
      go_ret
      exact ⟨by simp [hz], HF.out⟩
end Go.Proofs.YtcgnkloljfgiaaaGreatDoor

namespace Go.Proofs.YtcgnkloljfgiaaaGreatDoor
open Go.RowKit Go.Maps Go.MapKept
variable {e : Env} {b : Nat} {r : Rk} {L : List HP} {w : World}

structure Rk.Ok (r : Rk) : Prop where
  last : r.last.length = r.now.length
  fresh : r.fresh.length = r.now.length
  most : r.now.length ≤ 256
  nows : ∀ s ∈ r.now, s.length = 64
  lasts : ∀ s ∈ r.last, s.length = 64
  n0 : 0 ≤ r.n
  n1 : r.n < 1000000000
  left : r.left < 9223372036854775808

def Rk.has (r : Rk) (n : Int) : Bool := decide (0 ≤ n) && decide (n < r.now.length)
def Rk.readR (r : Rk) (n : Int) : Int := if r.dead then 3 else if r.has n then 0 else 1
def Rk.readB (r : Rk) (n : Int) : List UInt8 := if r.dead then [] else if r.has n then r.now.getD n.toNat [] else []

theorem Sat.ref_shut1 {nv lv wv : Value} {ns ls : List Value} {P : HP} (h : Sat e (P :: HP.blk b (rkCells nv lv wv r) :: HP.row 37 1 nv ns.length ns :: HP.row 37 1 lv ls.length ls :: HP.row 4 1 wv r.fresh.length (r.fresh.map Value.bool) :: L) w) (h1 : MatOk e ns r.now) (h2 : MatOk e ls r.last) : Sat e (P :: HP.ref b r :: L) w :=
  (Sat.ref_shut h1 h2 (h.pick [1, 2, 3, 4, 0] 5 (by decide) (by decide) (by simp))).swap

theorem mat_at {ns : List Value} {xss : List (List UInt8)} (h : MatOk e ns xss) {k : Nat} (hk : k < xss.length) : ∃ base cap, ns[k]? = some (.slice base (xss.getD k []).length cap) ∧ View e.h (.slice base (xss.getD k []).length cap) (xss.getD k []).length ((xss.getD k []).map B8) := by
  have hn : k < ns.length := by rw [h.len]; exact hk
  have hx : xss[k]? = some (xss.getD k []) := by simp [List.getD, hk]
  have := h.each k _ _ (List.getElem?_eq_getElem hn) hx
  obtain ⟨base, cap, hv, _⟩ := id this
  exact ⟨base, cap, by rw [List.getElem?_eq_getElem hn, hv], by rw [← hv]; exact this⟩

set_option maxRecDepth 100000 in
set_option maxHeartbeats 1000000 in
theorem rread_calls (h : Sat e (HP.ref b r :: L) w) (hOk : r.Ok) (n : Int) : Calls Tryz.prog 61 #[.pointer (some ⟨b, 0, none⟩), .int .i64 n] w fun x w' => ∃ base cap, x = .returned (.tuple #[.slice base (r.readB n).length cap, .int .i64 (r.readR n)]) ∧
      Sat e (HP.row 5 1 (.slice base (r.readB n).length cap) (r.readB n).length ((r.readB n).map B8) :: HP.ref b r :: L) w' := by
  have HS := hide h
  obtain ⟨nv, lv, wv, ns, ls, m1, m2, h⟩ := h.ref_open
  have D := h.ref_at
  have c0 := D.c0
  have c3 := D.c3
  obtain ⟨base, cap, hv, _⟩ := h.drop.row_view
  subst hv
  have hl := m1.len
  rw [hl] at c0
  by_cases hd : r.dead = true
  · rw [hd] at c3
    have HD := hide hd
    clear D hd m1 m2 h hl c0
    go_enter Tryz.func61, Tryz.ntmps61
    go_wp2
    go_ret2
    exact ⟨none, 0, by simp [Rk.readB, Rk.readR, HD.out], by simpa [Rk.readB, HD.out] using HS.out.row_nil 5 1⟩
  · have hd' : r.dead = false := by simpa using hd
    rw [hd'] at c3
    by_cases hn : 0 ≤ n ∧ n < r.now.length
    · obtain ⟨hn0, hn1⟩ := hn
      obtain ⟨k, rfl⟩ : ∃ k : Nat, n = k := ⟨n.toNat, by omega⟩
      have hk : k < r.now.length := by omega
      obtain ⟨g, rfl⟩ := h.swap.row_base (by omega)
      obtain ⟨ub, uc, hu, huv⟩ := mat_at m1 hk
      obtain ⟨i0, hi, hz0, hz1, hz2⟩ := info_parts info_u8
      have hlen : (r.now.getD k []).length = 64 := hOk.nows _ (by simp [List.getD, hk])
      have hRB : r.readB k = r.now.getD k [] := by simp [Rk.readB, Rk.has, hd', hn1]
      have hRR : r.readR k = 0 := by simp [Rk.readR, Rk.has, hd', hn1]
      rw [hRB, hRR]
      generalize r.now.getD k [] = X at *
      rw [hlen] at hu huv ⊢
      have H := hide h
      have HI := hide hi
      have HU := hide huv
      have HUC := hide hu
      have HM1 := hide m1
      have HM2 := hide m2
      have HL := hide hl
      have HXL := hide hlen
      clear D hd m1 m2 h hl hu huv hOk hRB hRR hi hd' hlen
      go_enter Tryz.func61, Tryz.ntmps61
      go_wp2_with (first
        | ((with_reducible refine wpList_build0_sl rfl 37 rfl Tryz.underlying37 HI.out 1 H.out ?_); intro g3 w3 h3; have d0 : w3.cell? ⟨b, 0, none⟩ = some (.slice (some ⟨g, 0, none⟩) r.now.length cap) := (by rw [← HL.out]; exact h3.nth_cell 1 rfl 0); have d1 := (h3.front 2 rfl).row_cell (i := k) (by rw [HL.out]; exact hk); have d1' := d1.1.trans HUC.out; clear d1; have H3 := hide h3; clear h3 H)
        | ((with_reducible refine wpList_append_sl rfl (.tmp 21) (.tmp 28) 37 rfl Tryz.underlying37 HI.out hz0 hz1 hz2 rfl (by omega) H3.out (HU.out.sat H3.out) rfl rfl (by simp [HXL.out]) (map_B8_one X) (by unfold maxLen; omega) (by omega) ?_); intro v' w4 h4 hv'; obtain ⟨rb, rc, hrv, _⟩ := h4.row_view; subst hrv; simp only [Nat.zero_add, List.nil_append] at h4 ⊢; have H4 := hide h4; clear h4 hv'))
      go_ret2
      exact ⟨rb, rc, rfl, H4.out.ref_shut1 HM1.out HM2.out⟩
    · have hhas : r.has n = false := by simp [Rk.has]; omega
      have hRB : r.readB n = [] := by simp [Rk.readB, hhas]
      have hRR : r.readR n = 1 := by simp [Rk.readR, hhas, hd']
      rw [hRB, hRR]
      have H2 := hide (HS.out.row_nil 5 1)
      clear D hd m1 m2 h hl hOk hRB hRR hd' hhas HS
      by_cases hn0 : n < 0
      · clear hn
        go_enter Tryz.func61, Tryz.ntmps61
        go_wp2
        go_ret2
        exact ⟨none, 0, rfl, H2.out⟩
      · have hn1 : (r.now.length : Int) ≤ n := by omega
        clear hn
        go_enter Tryz.func61, Tryz.ntmps61
        go_wp2
        go_ret2
        exact ⟨none, 0, rfl, H2.out⟩
end Go.Proofs.YtcgnkloljfgiaaaGreatDoor

namespace Go.Proofs.YtcgnkloljfgiaaaGreatDoor
open Go.RowKit Go.Maps Go.MapKept
variable {e : Env} {b : Nat} {r : Rk} {L : List HP} {w : World}

def Rk.fresh0 (n : Nat) : Rk := ⟨List.replicate n zs, List.replicate n zs, List.replicate n false, false, -1, 0⟩

theorem MatOk.push {vs : List Value} {xss : List (List UInt8)} {u : Value} {x : List UInt8} (h : MatOk e vs xss) (hu : View e.h u x.length (x.map B8)) : MatOk e (vs ++ [u]) (xss ++ [x]) := by
  refine ⟨by simp [h.len], fun i a c ha hc => ?_⟩
  rcases Nat.lt_or_ge i vs.length with hi | hi
  · rw [List.getElem?_append_left hi] at ha
    rw [List.getElem?_append_left (by rw [← h.len]; exact hi)] at hc
    exact h.each i a c ha hc
  · rw [List.getElem?_append_right hi] at ha
    rw [List.getElem?_append_right (by rw [← h.len]; exact hi), ← h.len] at hc
    have h0 : i - vs.length = 0 := by
      have := (List.getElem?_eq_some_iff.1 ha).1; simp at this; omega
    rw [h0] at ha hc
    simp at ha hc
    subst ha; subst hc; exact hu

theorem fresh0_step (k : Nat) : Rk.fresh0 (k + 1) = { Rk.fresh0 k with now := (Rk.fresh0 k).now ++ [zs], last := (Rk.fresh0 k).last ++ [zs], fresh := (Rk.fresh0 k).fresh ++ [false] } := by
  simp [Rk.fresh0, List.replicate_succ']

theorem ref_push_now {nv nv' lv wv : Value} {ns ls : List Value} {g : Nat} {o : Obj} {u : Value} {x : List UInt8} (m1 : MatOk e ns r.now) (m2 : MatOk e ls r.last) (hu : View e.h u x.length (x.map B8))
    (h : Sat e (HP.row 37 1 nv' (ns.length + 1) (ns ++ [u]) :: HP.blk g o :: HP.blk b (rkCells nv lv wv r) :: HP.row 37 1 lv ls.length ls :: HP.row 4 1 wv r.fresh.length (r.fresh.map Value.bool) :: L) w) :
    Sat e (HP.ref b { r with now := r.now ++ [x] } :: L) (w.setCell ⟨b, 0, none⟩ nv') := by
  have h1 := (h.pick [2, 0, 3, 4] 5 (by decide) (by decide) (by simp)).setCell (i := 0) nv'
  refine Sat.ref_shut (nv := nv') (lv := lv) (wv := wv) (ns := ns ++ [u]) (ls := ls) (m1.push hu) m2 ?_
  have e1 : (ns ++ [u]).length = ns.length + 1 := by simp
  rw [e1]; exact h1

theorem ref_push_last {nv lv lv' wv : Value} {ns ls : List Value} {g : Nat} {o : Obj} {u : Value} {x : List UInt8} (m1 : MatOk e ns r.now) (m2 : MatOk e ls r.last) (hu : View e.h u x.length (x.map B8))
    (h : Sat e (HP.row 37 1 lv' (ls.length + 1) (ls ++ [u]) :: HP.blk g o :: HP.blk b (rkCells nv lv wv r) :: HP.row 37 1 nv ns.length ns :: HP.row 4 1 wv r.fresh.length (r.fresh.map Value.bool) :: L) w) :
    Sat e (HP.ref b { r with last := r.last ++ [x] } :: L) (w.setCell ⟨b, 1, none⟩ lv') := by
  have h1 := (h.pick [2, 3, 0, 4] 5 (by decide) (by decide) (by simp)).setCell (i := 1) lv'
  refine Sat.ref_shut (nv := nv) (lv := lv') (wv := wv) (ns := ns) (ls := ls ++ [u]) m1 (m2.push hu) ?_
  have e1 : (ls ++ [u]).length = ls.length + 1 := by simp
  rw [e1]; exact h1

theorem ref_push_fresh {nv lv wv wv' : Value} {ns ls : List Value} {g : Nat} {o : Obj} {x : Bool} (m1 : MatOk e ns r.now) (m2 : MatOk e ls r.last)
    (h : Sat e (HP.row 4 1 wv' (r.fresh.length + 1) (r.fresh.map Value.bool ++ [.bool x]) :: HP.blk g o :: HP.blk b (rkCells nv lv wv r) :: HP.row 37 1 nv ns.length ns :: HP.row 37 1 lv ls.length ls :: L) w) :
    Sat e (HP.ref b { r with fresh := r.fresh ++ [x] } :: L) (w.setCell ⟨b, 2, none⟩ wv') := by
  have h1 := (h.pick [2, 3, 4, 0] 5 (by decide) (by decide) (by simp)).setCell (i := 2) wv'
  refine Sat.ref_shut (nv := nv) (lv := lv) (wv := wv') (ns := ns) (ls := ls) m1 m2 ?_
  have e1 : (r.fresh ++ [x]).length = r.fresh.length + 1 := by simp
  show Sat e (_ :: _ :: _ :: HP.row _ _ _ (r.fresh ++ [x]).length ((r.fresh ++ [x]).map Value.bool) :: L) _
  rw [e1, List.map_append]; exact h1

def RNewAt (e : Env) (b : Nat) (L : List HP) (n : Nat) (i : Value) (w : World) : Prop := ∃ k : Nat, k ≤ n ∧ i = .int .i64 k ∧ ∃ e', e.le e' ∧ Sat e' (HP.ref b (Rk.fresh0 k) :: L) w

theorem info_sl : (Tryz.prog.info? 37).map (fun i => (i.zero, i.size, i.bytes)) = some (some (.slice none 0 0), 1, 24) := by kernel_rfl
theorem info_bool : (Tryz.prog.info? 4).map (fun i => (i.zero, i.size, i.bytes)) = some (some (.bool false), 1, 1) := by kernel_rfl

set_option maxRecDepth 100000 in
set_option maxHeartbeats 2000000 in
theorem rnew_good (h : Sat e L w) (n : Nat) (h8 : 8 ≤ n) (h256 : n ≤ 256) (heven : n % 2 = 0) : Calls Tryz.prog 35 #[.int .i64 n] w
    fun x w' => ∃ e' b, e.le e' ∧ x = .returned (.tuple #[.pointer (some ⟨b, 0, none⟩), .int .i64 0]) ∧ Sat e' (HP.ref b (Rk.fresh0 n) :: L) w' := by
  obtain ⟨i0, hi, hz0, hz1, hz2⟩ := info_parts info_u8
  obtain ⟨i1, hi1, hx0, hx1, hx2⟩ := info_parts info_sl
  obtain ⟨i2, hi2, hy0, hy1, hy2⟩ := info_parts info_bool
  have HI := hide hi
  have HI1 := hide hi1
  have HI2 := hide hi2
  have H := hide h
  have hev : (n : Int) % 2 = 0 := by omega
  have hev' : ((n : Int) % 2 != 0) = false := by simp [hev]
  have a8 : (8 : Int) ≤ n := by omega
  have a9 : (n : Int) ≤ 256 := by omega
  clear h hi hi1 hi2 heven
  go_enter Tryz.func35, Tryz.ntmps35
  go_wp2_with fail
  have h0 : Sat e (HP.ref w.heap.size (Rk.fresh0 0) :: L) (w.alloc (.cells #[.slice none 0 0, .slice none 0 0, .slice none 0 0, .bool false, .int .i64 (-1), .int .i64 0] 106)) := by
    have h1 := (((H.out.alloc (.cells #[.slice none 0 0, .slice none 0 0, .slice none 0 0, .bool false, .int .i64 (-1), .int .i64 0] 106)).row_nil 4 1).row_nil 37 1).row_nil 37 1
    exact Sat.ref_shut (ns := []) (ls := []) (nv := .slice none 0 0) (lv := .slice none 0 0) (wv := .slice none 0 0) ⟨rfl, by simp⟩ ⟨rfl, by simp⟩ (h1.pick [3, 0, 1, 2] 4 (by decide) (by decide) (by simp))
  have H0 := hide h0
  clear h0
  generalize w.heap.size = b at H0 ⊢
  go_loopw [5] (fun i wr => RNewAt e b L n i wr) (fun i _ => n - (intOf i).toNat)
  case atStart => exact ⟨0, by omega, rfl, e, Env.le_refl e, H0.out⟩
  case round =>
    obtain ⟨k, hk, rfl, e0, hle, hs⟩ := hrel
    have HR := hide hs
    have HE := hide hle
    clear hs hle
    by_cases hlt : (k : Int) < n
    · go_wp2_with fail
      obtain ⟨nv, lv, wv, ns, ls, m1, m2, h⟩ := HR.out.drew.ref_open
      have c0 := h.ref_at.c0
      obtain ⟨g6, w1, hmk, h1⟩ : ∃ g w', (Instr.makeSlice 37 (.int .i64 64) (.int .i64 64)).run Tryz.prog _ = .ok (.slice (some ⟨g, 0, none⟩) 64 64) w' ∧ _ := h.make_ex Tryz.underlying37 HI.out hz0 hz1 hz2 .i64 .i64 64 (by omega) (by unfold maxLen; omega)
      rw [made_u8] at h1
      obtain ⟨e1, hle1, V1, h2⟩ := (zs_row h1).row_persist
      have c1 := h2.ref_at.c0
      have h3 := h2.alloc (.cells #[.slice (some ⟨g6, 0, none⟩) 64 64] 37)
      have c2 := h3.drop.ref_at.c0
      have H3 := hide h3
      have HV1 := hide V1
      have HLE := hide (HE.out.trans hle1)
      have HM1 := hide (m1.le hle1)
      have HM2 := hide (m2.le hle1)
      have HN := hide m1.len
      have HN2 := hide m2.len
      clear h h1 h2 h3 V1 m1 m2 hle1 HR HE
      go_region_law (first | (refine step_append_sl rfl (.tmp 28) (.tmp 30) 68 rfl Tryz.underlying68 HI1.out hx0 hx1 hx2 rfl (by omega) (H3.out.front 2 rfl) (view_of_toArray H3.out.at 1 1) rfl rfl rfl (by simp [Value.oneCell']) ?_ ?_ ?_; (rw [HN.out]; simp [Rk.fresh0]; unfold maxLen; omega); (rw [HN.out]; simp [Rk.fresh0]; omega); intro v4 w4 h4 _; obtain ⟨vb, vc, hv4, _⟩ := h4.row_view; subst hv4; have c4 := (h4.front 2 rfl).ref_at.c0; have f4 := unfrozen_of (h4.nth_at 2 rfl) 0; have H4 := hide h4; clear h4 H3))
      all_goals
        have HR := hide (ref_push_now HM1.out HM2.out HV1.out H4.out)
        have HE := HLE
        clear H4 HM1 HM2 HV1 HLE hmk c0 c1 c2 c4 f4 HN HN2
        generalize w4.setCell _ _ = W5 at HR ⊢
        go_wp2_with fail
        obtain ⟨nv, lv, wv, ns, ls, m1, m2, h⟩ := HR.out.drew.ref_open
        have c0 := h.ref_at.c1
        obtain ⟨g6, w1, hmk, h1⟩ : ∃ g w', (Instr.makeSlice 37 (.int .i64 64) (.int .i64 64)).run Tryz.prog _ = .ok (.slice (some ⟨g, 0, none⟩) 64 64) w' ∧ _ := h.make_ex Tryz.underlying37 HI.out hz0 hz1 hz2 .i64 .i64 64 (by omega) (by unfold maxLen; omega)
        rw [made_u8] at h1
        obtain ⟨e1, hle1, V1, h2⟩ := (zs_row h1).row_persist
        have c1 := h2.ref_at.c1
        have h3 := h2.alloc (.cells #[.slice (some ⟨g6, 0, none⟩) 64 64] 37)
        have c2 := h3.drop.ref_at.c1
        have H3 := hide h3
        have HV1 := hide V1
        have HLE := hide (HE.out.trans hle1)
        have HM1 := hide (m1.le hle1)
        have HM2 := hide (m2.le hle1)
        have HN := hide m1.len
        have HN2 := hide m2.len
        clear h h1 h2 h3 V1 m1 m2 hle1 HR HE
        go_region_law (first | (refine step_append_sl rfl (.tmp 38) (.tmp 40) 68 rfl Tryz.underlying68 HI1.out hx0 hx1 hx2 rfl (by omega) (H3.out.front 3 rfl) (view_of_toArray H3.out.at 1 1) rfl rfl rfl (by simp [Value.oneCell']) ?_ ?_ ?_; (rw [HN2.out]; simp [Rk.fresh0]; unfold maxLen; omega); (rw [HN2.out]; simp [Rk.fresh0]; omega); intro v4 w4 h4 _; obtain ⟨vb, vc, hv4, _⟩ := h4.row_view; subst hv4; have c4 := (h4.front 2 rfl).ref_at.c1; have f4 := unfrozen_of (h4.nth_at 2 rfl) 1; have H4 := hide h4; clear h4 H3))
        all_goals
          have HR := hide (ref_push_last HM1.out HM2.out HV1.out H4.out)
          have HE := HLE
          clear H4 HM1 HM2 HV1 HLE hmk c0 c1 c2 c4 f4 HN HN2
          generalize w4.setCell _ _ = W6 at HR ⊢
          obtain ⟨nv, lv, wv, ns, ls, m1, m2, h⟩ := HR.out.ref_open
          have c0 := h.ref_at.c2
          have h3 := h.alloc (.cells #[.bool false] 4)
          have H3 := hide h3
          have HM1 := hide m1
          have HM2 := hide m2
          clear h h3 m1 m2 HR
          go_wp2_with (first | ((refine wpList_append_sl rfl (.tmp 48) (.tmp 49) 104 rfl Tryz.underlying104 HI2.out hy0 hy1 hy2 rfl (by omega) (H3.out.front 4 rfl) (view_of_toArray H3.out.at 1 1) rfl rfl rfl (by simp [Value.oneCell']) ?_ ?_ ?_); (simp [Rk.fresh0]; unfold maxLen; omega); (simp [Rk.fresh0]; omega); intro v4 w7 h4 _; obtain ⟨vb, vc, hv4, _⟩ := h4.row_view; subst hv4; have c4 := (h4.front 2 rfl).ref_at.c2; have f4 := unfrozen_of (h4.nth_at 2 rfl) 2; have H4 := hide h4; clear h4 H3))
          have h9 := ref_push_fresh HM1.out HM2.out H4.out
          go_roundw
          case rel => exact ⟨k + 1, by omega, by go_num, _, HE.out, by rw [fresh0_step]; exact h9⟩
          case measure => simp [intOf]; omega
    · have hkn : n = k := by omega
      subst hkn
      go_wp2_with fail
      go_ret2
      exact ⟨e0, HE.out, b, rfl, HR.out⟩
end Go.Proofs.YtcgnkloljfgiaaaGreatDoor
