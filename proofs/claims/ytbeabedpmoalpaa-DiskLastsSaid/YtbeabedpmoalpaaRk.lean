/-
  deadboltref1: the document's disk in memory, said of a plain value (Rk). Rows of bytes that are laid in it never turn again.
-/
import Derived.Test.YtbeabedpmoalpaaOp3
import Derived.Test.YtbeabedpmoalpaaDk3
namespace Go.Proofs.Ytbeabedpmoalpaa
open Go.RowKit Go.Maps Go.MapKept

structure Rk where
  now : List (List UInt8)
  last : List (List UInt8)
  fresh : List Bool
  dead : Bool
  left : Int
  n : Int

structure MatOk (e : Env) (vs : List Value) (xss : List (List UInt8)) : Prop where
  len : vs.length = xss.length
  each : ∀ (i : Nat) u x, vs[i]? = some u → xss[i]? = some x → View e.h u x.length (x.map B8)

theorem MatOk.le {e e' : Env} {vs : List Value} {xss : List (List UInt8)} (h : MatOk e vs xss) (hle : e.le e') : MatOk e' vs xss := ⟨h.len, fun i u x h1 h2 => (h.each i u x h1 h2).le hle⟩

def rkCells (nv lv wv : Value) (r : Rk) : Obj := .cells #[nv, lv, wv, .bool r.dead, .int .i64 r.left, .int .i64 r.n] 63

def HP.ref (b : Nat) (r : Rk) : HP := HP.ex fun nv => HP.ex fun lv => HP.ex fun wv => HP.ex fun ns => HP.ex fun ls =>
  HP.star (HP.env (fun e => MatOk e ns r.now ∧ MatOk e ls r.last) (fun hle h => ⟨h.1.le hle, h.2.le hle⟩))
    (HP.star (HP.blk b (rkCells nv lv wv r)) (HP.star (HP.row 32 1 nv ns.length ns) (HP.star (HP.row 32 1 lv ls.length ls) (HP.row 4 1 wv r.fresh.length (r.fresh.map Value.bool)))))

variable {e : Env} {b : Nat} {r : Rk} {L : List HP} {w : World}

theorem Sat.ref_open (h : Sat e (HP.ref b r :: L) w) : ∃ nv lv wv ns ls, MatOk e ns r.now ∧ MatOk e ls r.last ∧
    Sat e (HP.blk b (rkCells nv lv wv r) :: HP.row 32 1 nv ns.length ns :: HP.row 32 1 lv ls.length ls :: HP.row 4 1 wv r.fresh.length (r.fresh.map Value.bool) :: L) w := by
  obtain ⟨nv, h⟩ := h.ex_elim
  obtain ⟨lv, h⟩ := h.ex_elim
  obtain ⟨wv, h⟩ := h.ex_elim
  obtain ⟨ns, h⟩ := h.ex_elim
  obtain ⟨ls, h⟩ := h.ex_elim
  obtain ⟨⟨h1, h2⟩, h⟩ := h.star_elim.env_elim
  have h3 := h.star_elim.swap.star_elim.swap.star_elim
  exact ⟨nv, lv, wv, ns, ls, h1, h2, h3.pick [3, 2, 0, 1] 4 (by decide) (by decide) (by simp)⟩

theorem Sat.ref_shut {nv lv wv : Value} {ns ls : List Value} (h1 : MatOk e ns r.now) (h2 : MatOk e ls r.last)
    (h : Sat e (HP.blk b (rkCells nv lv wv r) :: HP.row 32 1 nv ns.length ns :: HP.row 32 1 lv ls.length ls :: HP.row 4 1 wv r.fresh.length (r.fresh.map Value.bool) :: L) w) : Sat e (HP.ref b r :: L) w := by
  have h3 := h.pick [2, 3, 1, 0] 4 (by decide) (by decide) (by simp)
  have h4 := Sat.star_intro (Sat.swap (Sat.star_intro (Sat.swap (Sat.star_intro h3))))
  exact Sat.ex_intro nv (Sat.ex_intro lv (Sat.ex_intro wv (Sat.ex_intro ns (Sat.ex_intro ls (Sat.star_intro (Sat.env_intro ⟨h1, h2⟩ h4))))))

structure RkAt (w : World) (b : Nat) (nv lv wv : Value) (r : Rk) : Prop where
  c0 : w.cell? ⟨b, 0, none⟩ = some nv
  c1 : w.cell? ⟨b, 1, none⟩ = some lv
  c2 : w.cell? ⟨b, 2, none⟩ = some wv
  c3 : w.cell? ⟨b, 3, none⟩ = some (.bool r.dead)
  c4 : w.cell? ⟨b, 4, none⟩ = some (.int .i64 r.left)
  c5 : w.cell? ⟨b, 5, none⟩ = some (.int .i64 r.n)
  f3 : w.frozen? ⟨b, 3, none⟩ = false
  f4 : w.frozen? ⟨b, 4, none⟩ = false
  f5 : w.frozen? ⟨b, 5, none⟩ = false

theorem Sat.ref_at {nv lv wv : Value} (h : Sat e (HP.blk b (rkCells nv lv wv r) :: L) w) : RkAt w b nv lv wv r := by
  have hb := h.at
  unfold rkCells at hb
  exact ⟨by rw [cell_of hb]; rfl, by rw [cell_of hb]; rfl, by rw [cell_of hb]; rfl, by rw [cell_of hb]; rfl, by rw [cell_of hb]; rfl, by rw [cell_of hb]; rfl, unfrozen_of hb _, unfrozen_of hb _, unfrozen_of hb _⟩

theorem rsize_calls (h : Sat e (HP.ref b r :: L) w) : Calls Try.prog 34 #[.pointer (some ⟨b, 0, none⟩)] w fun x w' => x = .returned (.int .i64 r.now.length) ∧ w = w' := by
  obtain ⟨nv, lv, wv, ns, ls, h1, h2, h⟩ := h.ref_open
  have c0 := h.ref_at.c0
  obtain ⟨base, cap, hv, _⟩ := h.drop.row_view
  subst hv
  have hl := h1.len
  rw [← hl]
  clear h h1 h2 hl
  go_enter Try.func34, Try.ntmps34
  go_wp2
  go_ret
  exact ⟨rfl, rfl⟩

theorem rops_calls (h : Sat e (HP.ref b r :: L) w) : Calls Try.prog 39 #[.pointer (some ⟨b, 0, none⟩)] w fun x w' => x = .returned (.int .i64 r.n) ∧ w = w' := by
  obtain ⟨nv, lv, wv, ns, ls, h1, h2, h⟩ := h.ref_open
  have c5 := h.ref_at.c5
  clear h h1 h2
  go_enter Try.func39, Try.ntmps39
  go_wp2
  go_ret
  exact ⟨rfl, rfl⟩

def Rk.fused (r : Rk) (n : Int) : Rk := if n < 0 then { r with left := -1, dead := false } else { r with left := n }
def Rk.spend (r : Rk) : Rk := if r.left = 0 then { r with dead := true } else { r with left := if 0 < r.left then r.left - 1 else r.left, n := r.n + 1 }

set_option maxRecDepth 100000 in
theorem rfuse_calls (h : Sat e (HP.ref b r :: L) w) (n : Int) : Calls Try.prog 38 #[.pointer (some ⟨b, 0, none⟩), .int .i64 n] w fun x w' => x = .returned (.tuple #[]) ∧ Sat e (HP.ref b (r.fused n) :: L) w' := by
  obtain ⟨nv, lv, wv, ns, ls, h1, h2, h⟩ := h.ref_open
  have f3 := h.ref_at.f3
  have f4 := h.ref_at.f4
  have c3 := h.ref_at.c3
  have c4 := h.ref_at.c4
  have HS := hide h
  have H1 := hide h1
  have H2 := hide h2
  clear h h1 h2
  by_cases hn : n < 0
  · go_enter Try.func38, Try.ntmps38
    go_wp2
    go_end0
    have e1 : r.fused n = { r with left := -1, dead := false } := by simp [Rk.fused, hn]
    rw [e1]
    refine ⟨rfl, Sat.ref_shut (nv := nv) (lv := lv) (wv := wv) H1.out H2.out ?_⟩
    have := ((HS.out.setCell (i := 4) (.int .i64 n)).setCell (i := 4) (.int .i64 (-1))).setCell (i := 3) (.bool false)
    exact this
  · go_enter Try.func38, Try.ntmps38
    go_wp2
    go_end0
    have e1 : r.fused n = { r with left := n } := by simp [Rk.fused]; omega
    rw [e1]
    refine ⟨rfl, Sat.ref_shut (nv := nv) (lv := lv) (wv := wv) H1.out H2.out ?_⟩
    have := HS.out.setCell (i := 4) (.int .i64 n)
    exact this
set_option maxRecDepth 100000 in
theorem rspend_calls (h : Sat e (HP.ref b r :: L) w) (h1 : 0 ≤ r.n) (h2 : r.n < 1000000000) (h4 : r.left < 9223372036854775808) :
    Calls Try.prog 42 #[.pointer (some ⟨b, 0, none⟩)] w fun x w' => x = .returned (.bool (decide (r.left ≠ 0))) ∧ Sat e (HP.ref b r.spend :: L) w' := by
  obtain ⟨nv, lv, wv, ns, ls, m1, m2, h⟩ := h.ref_open
  have D := h.ref_at
  have c4 := D.c4
  have c5 := D.c5
  have f4 := D.f4
  have f5 := D.f5
  have HS := hide h
  have H1 := hide m1
  have H2 := hide m2
  clear m1 m2
  by_cases hz : r.left = 0
  · have c3 := D.c3
    have f3 := D.f3
    rw [hz] at c4
    have hfin : Sat e (HP.ref b r.spend :: L) (w.setCell ⟨b, 3, none⟩ (.bool true)) := by
      have e1 : r.spend = { r with dead := true } := by rw [Rk.spend, if_pos hz]
      rw [e1]
      exact Sat.ref_shut (nv := nv) (lv := lv) (wv := wv) H1.out H2.out (h.setCell (i := 3) (.bool true))
    have HF := hide hfin
    have HZ := hide hz
    clear hfin h D f4 f5 c5 hz h1 h2 h4
    go_enter Try.func42, Try.ntmps42
    go_wp2
    go_ret
    exact ⟨by simp [HZ.out], HF.out⟩
  · by_cases hp : 0 < r.left
    · have hfin : Sat e (HP.ref b r.spend :: L) ((w.setCell ⟨b, 4, none⟩ (.int .i64 (r.left - 1))).setCell ⟨b, 5, none⟩ (.int .i64 (r.n + 1))) := by
        have e1 : r.spend = { r with left := r.left - 1, n := r.n + 1 } := by rw [Rk.spend, if_neg hz, if_pos hp]
        rw [e1]
        exact Sat.ref_shut (nv := nv) (lv := lv) (wv := wv) H1.out H2.out ((h.setCell (i := 4) (.int .i64 (r.left - 1))).setCell (i := 5) (.int .i64 (r.n + 1)))
      have HF := hide hfin
      have hb : (r.left == 0) = false := by simpa using hz
      clear hfin h D
      go_enter Try.func42, Try.ntmps42
      go_wp2
      go_ret
      exact ⟨by simp [hz], HF.out⟩
    · have hfin : Sat e (HP.ref b r.spend :: L) (w.setCell ⟨b, 5, none⟩ (.int .i64 (r.n + 1))) := by
        have e1 : r.spend = { r with n := r.n + 1 } := by rw [Rk.spend, if_neg hz, if_neg hp]
        rw [e1]
        exact Sat.ref_shut (nv := nv) (lv := lv) (wv := wv) H1.out H2.out (h.setCell (i := 5) (.int .i64 (r.n + 1)))
      have HF := hide hfin
      have hb : (r.left == 0) = false := by simpa using hz
      clear hfin h D h4
      go_enter Try.func42, Try.ntmps42
      go_wp2
      go_ret
      exact ⟨by simp [hz], HF.out⟩
end Go.Proofs.Ytbeabedpmoalpaa
