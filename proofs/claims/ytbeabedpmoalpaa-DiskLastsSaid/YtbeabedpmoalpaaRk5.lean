/-
  deadboltref1: Write in one form for every state; Flush.
-/
import Derived.Test.YtbeabedpmoalpaaRk4
namespace Go.Proofs.Ytbeabedpmoalpaa
open Go.RowKit Go.Maps Go.MapKept
variable {e : Env} {b : Nat} {r : Rk} {L : List HP} {w : World}

set_option maxRecDepth 100000 in
theorem rwrite_no (h : Sat e (HP.ref b r :: L) w) (n : Int) (base : Option Addr) (len cap : Nat) (c : Int)
    (hc : (r.dead = true ∧ c = 3) ∨ (r.dead = false ∧ c = 1 ∧ (n < 0 ∨ (r.now.length : Int) ≤ n ∨ len ≠ 64))) :
    Calls Try.prog 35 #[.pointer (some ⟨b, 0, none⟩), .int .i64 n, .slice base len cap] w fun x w' => x = .returned (.int .i64 c) ∧ w = w' := by
  obtain ⟨nv, lv, wv, ns, ls, m1, m2, h⟩ := h.ref_open
  have c0 := h.ref_at.c0
  have c3 := h.ref_at.c3
  obtain ⟨nb, nc, hnv, _⟩ := h.drop.row_view
  subst hnv
  rw [m1.len] at c0
  clear h m1 m2
  rcases hc with ⟨hd, rfl⟩ | ⟨hd, rfl, hc⟩
  · rw [hd] at c3
    clear hd c0
    go_enter Try.func35, Try.ntmps35
    go_wp2
    go_ret
    exact ⟨rfl, rfl⟩
  · rw [hd] at c3
    clear hd
    by_cases h0 : n < 0
    · clear hc
      go_enter Try.func35, Try.ntmps35
      go_wp2
      go_ret
      exact ⟨rfl, rfl⟩
    · by_cases h1 : (r.now.length : Int) ≤ n
      · clear hc
        go_enter Try.func35, Try.ntmps35
        go_wp2
        go_ret
        exact ⟨rfl, rfl⟩
      · have h2 : ((len : Int) != 64) = true := by simp; omega
        clear hc
        go_enter Try.func35, Try.ntmps35
        go_wp2
        go_ret
        exact ⟨rfl, rfl⟩

set_option maxRecDepth 100000 in
theorem rwrite_fuse (h : Sat e (HP.ref b r :: L) w) (hOk : r.Ok) (k : Nat) (base : Option Addr) (cap : Nat) (hd : r.dead = false) (hk : k < r.now.length) (hf : r.left = 0) :
    Calls Try.prog 35 #[.pointer (some ⟨b, 0, none⟩), .int .i64 k, .slice base 64 cap] w fun x w' => x = .returned (.int .i64 3) ∧ Sat e (HP.ref b { r with dead := true } :: L) w' := by
  have H := hide h
  have HOK := hide hOk
  obtain ⟨nv, lv, wv, ns, ls, m1, m2, h⟩ := h.ref_open
  have c0 := h.ref_at.c0
  have c3 := h.ref_at.c3
  obtain ⟨nb, nc, hnv, _⟩ := h.drop.row_view
  subst hnv
  rw [m1.len] at c0
  rw [hd] at c3
  have hk' : (k : Int) < r.now.length := by omega
  have hdec : decide (r.left ≠ 0) = false := by simpa using hf
  have hsp : Hid (r.spend = { r with dead := true }) := hide (by rw [Rk.spend, if_pos hf])
  clear h m1 m2 hOk hd hf
  go_enter Try.func35, Try.ntmps35
  go_wp2_with (go_at_call 42; refine (rspend_calls H.out HOK.out.n0 HOK.out.n1 HOK.out.left).mono ?_; rintro x w2 ⟨rfl, h2⟩; rw [hdec]; rw [hsp.out] at h2; have H2 := hide h2; clear h2)
  go_ret
  exact ⟨rfl, H2.out⟩

theorem rwrite_gen (h : Sat e (HP.ref b r :: L) w) (hOk : r.Ok) (n : Int) (v : Value) (l : List UInt8) (V : View e.h v l.length (l.map B8)) :
    Calls Try.prog 35 #[.pointer (some ⟨b, 0, none⟩), .int .i64 n, v] w fun x w' => ∃ e', e.le e' ∧ x = .returned (.int .i64 (r.writeR n l)) ∧ Sat e' (HP.ref b (r.writeD n l) :: L) w' := by
  obtain ⟨base, cap, hv, hvv⟩ := id V
  by_cases hd : r.dead = true
  · subst hv
    refine (rwrite_no h n base l.length cap 3 (Or.inl ⟨hd, rfl⟩)).mono ?_
    rintro x w' ⟨rfl, rfl⟩
    exact ⟨e, Env.le_refl e, by simp [Rk.writeR, hd], by simpa [Rk.writeD, hd] using h⟩
  · have hd' : r.dead = false := by simpa using hd
    by_cases hn : n < 0 ∨ (r.now.length : Int) ≤ n ∨ l.length ≠ 64
    · have hb : (!(r.has n) || decide (l.length ≠ 64)) = true := by
        rcases hn with h1 | h1 | h1
        · simp [Rk.has]; omega
        · simp [Rk.has]; omega
        · simp [h1]
      subst hv
      refine (rwrite_no h n base l.length cap 1 (Or.inr ⟨hd', rfl, hn⟩)).mono ?_
      rintro x w' ⟨rfl, rfl⟩
      exact ⟨e, Env.le_refl e, by unfold Rk.writeR; rw [if_neg hd, if_pos hb], by unfold Rk.writeD; rw [if_neg hd, if_pos hb]; exact h⟩
    · have h64 : l.length = 64 := by omega
      obtain ⟨k, rfl⟩ : ∃ k : Nat, n = k := ⟨n.toNat, by omega⟩
      have hk : k < r.now.length := by omega
      have hb : (!(r.has k) || decide (l.length ≠ 64)) = false := by simp [Rk.has, h64]; omega
      by_cases hf : r.left = 0
      · subst hv
        rw [h64]
        refine (rwrite_fuse h hOk k base cap hd' hk hf).mono ?_
        rintro x w' ⟨rfl, h1⟩
        exact ⟨e, Env.le_refl e, by unfold Rk.writeR; rw [if_neg hd, hb, if_neg (by simp), if_pos hf], by unfold Rk.writeD; rw [if_neg hd, hb, if_neg (by simp), if_pos hf]; exact h1⟩
      · refine (rwrite_ok h hOk k v l V hd' hk h64 hf).mono ?_
        rintro x w' ⟨e', hle, rfl, h1⟩
        exact ⟨e', hle, by unfold Rk.writeR; rw [if_neg hd, hb, if_neg (by simp), if_neg hf], by unfold Rk.writeD; rw [if_neg hd, hb, if_neg (by simp), if_neg hf]; exact h1⟩

/-! ### Flush -/
def Rk.stepF (r : Rk) (k : Nat) : Rk := { r with last := r.last.set k (r.now.getD k []), fresh := r.fresh.set k false }
def Rk.copyN (r : Rk) : Nat → Rk
  | 0 => r
  | k + 1 => (r.copyN k).stepF k
def Rk.flushed (r : Rk) : Rk := r.spend.copyN r.spend.now.length
def Rk.flushR (r : Rk) : Int := if r.dead then 3 else if r.left = 0 then 3 else 0
def Rk.flushD (r : Rk) : Rk := if r.dead then r else if r.left = 0 then { r with dead := true } else r.flushed

theorem copyN_rest (r : Rk) : ∀ k, (r.copyN k).now = r.now ∧ (r.copyN k).last.length = r.last.length ∧ (r.copyN k).fresh.length = r.fresh.length ∧ (r.copyN k).dead = r.dead ∧ (r.copyN k).left = r.left ∧ (r.copyN k).n = r.n
  | 0 => ⟨rfl, rfl, rfl, rfl, rfl, rfl⟩
  | k + 1 => by
    obtain ⟨h1, h2, h3, h4, h5, h6⟩ := copyN_rest r k
    exact ⟨h1, by simp [Rk.copyN, Rk.stepF, h2], by simp [Rk.copyN, Rk.stepF, h3], h4, h5, h6⟩

/-- What 'x.Last[k] = append([]byte{}, x.Now[k]...)' wants of memory. -/
structure CopyAt (w : World) (b g1 c1 g2 c2 k : Nat) (ub : Option Addr) (uc : Nat) (n : Nat) (f1 f2 : Nat) : Prop where
  d1 : w.cell? ⟨b, f1, none⟩ = some (.slice (some ⟨g1, 0, none⟩) n c1)
  d2 : w.cell? ⟨b, f2, none⟩ = some (.slice (some ⟨g2, 0, none⟩) n c2)
  d3 : w.cell? ⟨g1, k, none⟩ = some (.slice ub 64 uc)

def FlushAt (e : Env) (b : Nat) (L : List HP) (r : Rk) (i : Value) (w : World) : Prop := ∃ k : Nat, k ≤ r.now.length ∧ i = .int .i64 k ∧ ∃ e', e.le e' ∧ Sat e' (HP.ref b (r.copyN k) :: L) w

theorem mat_at64 {ns : List Value} {xss : List (List UInt8)} (h : MatOk e ns xss) (hs : ∀ s ∈ xss, s.length = 64) {k : Nat} (hk : k < xss.length) : ∃ base cap, ns[k]? = some (.slice base 64 cap) ∧ View e.h (.slice base 64 cap) 64 ((xss.getD k []).map B8) ∧ (xss.getD k []).length = 64 := by
  obtain ⟨base, cap, h1, h2⟩ := mat_at h hk
  have hl : (xss.getD k []).length = 64 := hs _ (by simp [List.getD, hk])
  rw [hl] at h1 h2
  exact ⟨base, cap, h1, h2, hl⟩
end Go.Proofs.Ytbeabedpmoalpaa
