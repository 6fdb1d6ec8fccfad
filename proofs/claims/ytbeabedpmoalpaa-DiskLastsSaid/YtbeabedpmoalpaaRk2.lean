/-
  deadboltref1: Read, Write.
-/
import Derived.Test.YtbeabedpmoalpaaRk
namespace Go.Proofs.Ytbeabedpmoalpaa
open Go.RowKit Go.Maps Go.MapKept
variable {e : Env} {b : Nat} {r : Rk} {L : List HP} {w : World}

structure Rk.Ok (r : Rk) : Prop where
  last : r.last.length = r.now.length
  fresh : r.fresh.length = r.now.length
  most : r.now.length ≤ 256
  nows : ∀ s ∈ r.now, s.length = 64
  lasts : ∀ s ∈ r.last, s.length = 64
  n0 : 0 ≤ r.n
  n1 : r.n < 1000000000
  left : r.left < 9223372036854775808

def Rk.has (r : Rk) (n : Int) : Bool := decide (0 ≤ n) && decide (n < r.now.length)
def Rk.readR (r : Rk) (n : Int) : Int := if r.dead then 3 else if r.has n then 0 else 1
def Rk.readB (r : Rk) (n : Int) : List UInt8 := if r.dead then [] else if r.has n then r.now.getD n.toNat [] else []

theorem Sat.ref_shut1 {nv lv wv : Value} {ns ls : List Value} {P : HP} (h : Sat e (P :: HP.blk b (rkCells nv lv wv r) :: HP.row 32 1 nv ns.length ns :: HP.row 32 1 lv ls.length ls :: HP.row 4 1 wv r.fresh.length (r.fresh.map Value.bool) :: L) w) (h1 : MatOk e ns r.now) (h2 : MatOk e ls r.last) : Sat e (P :: HP.ref b r :: L) w :=
  (Sat.ref_shut h1 h2 (h.pick [1, 2, 3, 4, 0] 5 (by decide) (by decide) (by simp))).swap

theorem mat_at {ns : List Value} {xss : List (List UInt8)} (h : MatOk e ns xss) {k : Nat} (hk : k < xss.length) : ∃ base cap, ns[k]? = some (.slice base (xss.getD k []).length cap) ∧ View e.h (.slice base (xss.getD k []).length cap) (xss.getD k []).length ((xss.getD k []).map B8) := by
  have hn : k < ns.length := by rw [h.len]; exact hk
  have hx : xss[k]? = some (xss.getD k []) := by simp [List.getD, hk]
  have := h.each k _ _ (List.getElem?_eq_getElem hn) hx
  obtain ⟨base, cap, hv, _⟩ := id this
  exact ⟨base, cap, by rw [List.getElem?_eq_getElem hn, hv], by rw [← hv]; exact this⟩

set_option maxRecDepth 100000 in
set_option maxHeartbeats 1000000 in
theorem rread_calls (h : Sat e (HP.ref b r :: L) w) (hOk : r.Ok) (n : Int) : Calls Try.prog 36 #[.pointer (some ⟨b, 0, none⟩), .int .i64 n] w fun x w' => ∃ base cap, x = .returned (.tuple #[.slice base (r.readB n).length cap, .int .i64 (r.readR n)]) ∧
      Sat e (HP.row 5 1 (.slice base (r.readB n).length cap) (r.readB n).length ((r.readB n).map B8) :: HP.ref b r :: L) w' := by
  have HS := hide h
  obtain ⟨nv, lv, wv, ns, ls, m1, m2, h⟩ := h.ref_open
  have D := h.ref_at
  have c0 := D.c0
  have c3 := D.c3
  obtain ⟨base, cap, hv, _⟩ := h.drop.row_view
  subst hv
  have hl := m1.len
  rw [hl] at c0
  by_cases hd : r.dead = true
  · rw [hd] at c3
    have HD := hide hd
    clear D hd m1 m2 h hl c0
    go_enter Try.func36, Try.ntmps36
    go_wp2
    go_ret2
    exact ⟨none, 0, by simp [Rk.readB, Rk.readR, HD.out], by simpa [Rk.readB, HD.out] using HS.out.row_nil 5 1⟩
  · have hd' : r.dead = false := by simpa using hd
    rw [hd'] at c3
    by_cases hn : 0 ≤ n ∧ n < r.now.length
    · obtain ⟨hn0, hn1⟩ := hn
      obtain ⟨k, rfl⟩ : ∃ k : Nat, n = k := ⟨n.toNat, by omega⟩
      have hk : k < r.now.length := by omega
      obtain ⟨g, rfl⟩ := h.swap.row_base (by omega)
      obtain ⟨ub, uc, hu, huv⟩ := mat_at m1 hk
      obtain ⟨i0, hi, hz0, hz1, hz2⟩ := info_parts info_u8
      have hlen : (r.now.getD k []).length = 64 := hOk.nows _ (by simp [List.getD, hk])
      have hRB : r.readB k = r.now.getD k [] := by simp [Rk.readB, Rk.has, hd', hn1]
      have hRR : r.readR k = 0 := by simp [Rk.readR, Rk.has, hd', hn1]
      rw [hRB, hRR]
      generalize r.now.getD k [] = X at *
      rw [hlen] at hu huv ⊢
      have H := hide h
      have HI := hide hi
      have HU := hide huv
      have HUC := hide hu
      have HM1 := hide m1
      have HM2 := hide m2
      have HL := hide hl
      have HXL := hide hlen
      clear D hd m1 m2 h hl hu huv hOk hRB hRR hi hd' hlen
      go_enter Try.func36, Try.ntmps36
      go_wp2_with (first
        | ((with_reducible refine wpList_build0_sl rfl 32 rfl Try.underlying32 HI.out 1 H.out ?_); intro g3 w3 h3; have d0 : w3.cell? ⟨b, 0, none⟩ = some (.slice (some ⟨g, 0, none⟩) r.now.length cap) := (by rw [← HL.out]; exact h3.nth_cell 1 rfl 0); have d1 := (h3.front 2 rfl).row_cell (i := k) (by rw [HL.out]; exact hk); have d1' := d1.1.trans HUC.out; clear d1; have H3 := hide h3; clear h3 H)
        | ((with_reducible refine wpList_append_sl rfl (.tmp 21) (.tmp 28) 32 rfl Try.underlying32 HI.out hz0 hz1 hz2 rfl (by omega) H3.out (HU.out.sat H3.out) rfl rfl (by simp [HXL.out]) (map_B8_one X) (by unfold maxLen; omega) (by omega) ?_); intro v' w4 h4 hv'; obtain ⟨rb, rc, hrv, _⟩ := h4.row_view; subst hrv; simp only [Nat.zero_add, List.nil_append] at h4 ⊢; have H4 := hide h4; clear h4 hv'))
      go_ret2
      exact ⟨rb, rc, rfl, H4.out.ref_shut1 HM1.out HM2.out⟩
    · have hhas : r.has n = false := by simp [Rk.has]; omega
      have hRB : r.readB n = [] := by simp [Rk.readB, hhas]
      have hRR : r.readR n = 1 := by simp [Rk.readR, hhas, hd']
      rw [hRB, hRR]
      have H2 := hide (HS.out.row_nil 5 1)
      clear D hd m1 m2 h hl hOk hRB hRR hd' hhas HS
      by_cases hn0 : n < 0
      · clear hn
        go_enter Try.func36, Try.ntmps36
        go_wp2
        go_ret2
        exact ⟨none, 0, rfl, H2.out⟩
      · have hn1 : (r.now.length : Int) ≤ n := by omega
        clear hn
        go_enter Try.func36, Try.ntmps36
        go_wp2
        go_ret2
        exact ⟨none, 0, rfl, H2.out⟩
end Go.Proofs.Ytbeabedpmoalpaa
