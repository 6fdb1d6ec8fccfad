/-
  deadboltref1: Flush in one form; Crash.
-/
import Derived.Test.YtbeabedpmoalpaaRk6
import Derived.Test.YtbeabedpmoalpaaDk9
namespace Go.Proofs.Ytbeabedpmoalpaa
open Go.RowKit Go.Maps Go.MapKept
variable {e : Env} {b : Nat} {r : Rk} {L : List HP} {w : World}

set_option maxRecDepth 100000 in
theorem rflush_gen (h : Sat e (HP.ref b r :: L) w) (hOk : r.Ok) :
    Calls Try.prog 37 #[.pointer (some ⟨b, 0, none⟩)] w fun x w' => ∃ e', e.le e' ∧ x = .returned (.int .i64 r.flushR) ∧ Sat e' (HP.ref b r.flushD :: L) w' := by
  by_cases hd : r.dead = true
  · have hR : r.flushR = 3 := by simp [Rk.flushR, hd]
    have hD : r.flushD = r := by simp [Rk.flushD, hd]
    rw [hR, hD]
    have H := hide h
    obtain ⟨nv, lv, wv, ns, ls, m1, m2, h⟩ := h.ref_open
    have c3 := h.ref_at.c3
    rw [hd] at c3
    clear h m1 m2 hOk hd hR hD
    go_enter Try.func37, Try.ntmps37
    go_wp2_with fail
    go_ret
    exact ⟨e, Env.le_refl e, rfl, H.out⟩
  · have hd' : r.dead = false := by simpa using hd
    by_cases hf : r.left = 0
    · have hR : r.flushR = 3 := by simp [Rk.flushR, hd', hf]
      have hD : r.flushD = { r with dead := true } := by simp [Rk.flushD, hd', hf]
      rw [hR, hD]
      have H := hide h
      have HOK := hide hOk
      obtain ⟨nv, lv, wv, ns, ls, m1, m2, h⟩ := h.ref_open
      have c3 := h.ref_at.c3
      rw [hd'] at c3
      have hdec : decide (r.left ≠ 0) = false := by simpa using hf
      have hsp : Hid (r.spend = { r with dead := true }) := hide (by rw [Rk.spend, if_pos hf])
      clear h m1 m2 hOk hd hd' hR hD hf
      go_enter Try.func37, Try.ntmps37
      go_wp2_with (go_at_call 42; refine (rspend_calls H.out HOK.out.n0 HOK.out.n1 HOK.out.left).mono ?_; rintro x w2 ⟨rfl, h2⟩; rw [hdec]; rw [hsp.out] at h2; have H2 := hide h2; clear h2)
      go_ret
      exact ⟨e, Env.le_refl e, rfl, H2.out⟩
    · refine (rflush_ok h hOk hd' hf).mono ?_
      rintro x w' ⟨e', hle, rfl, h1⟩
      exact ⟨e', hle, by simp [Rk.flushR, hd', hf], by simpa [Rk.flushD, hd', hf] using h1⟩

/-! ### Crash -/
def Rk.keepS (q : Rk) (i : Nat) : Rk := { q with last := q.last.set i (q.now.getD i []) }
def Rk.backS (q : Rk) (i : Nat) : Rk := { q with now := q.now.set i (q.last.getD i []), fresh := q.fresh.set i false }
def Rk.crashStep (q : Rk) (i : Nat) (bit : Bool) : Rk := if bit then (q.keepS i).backS i else q.backS i
def Rk.crashN (r : Rk) (f : Nat → Bool) : Nat → Nat × Rk
  | 0 => (0, r)
  | i + 1 => if (r.crashN f i).2.fresh.getD i false then ((r.crashN f i).1 + 1, (r.crashN f i).2.crashStep i (f (r.crashN f i).1)) else r.crashN f i
def Rk.crashed (r : Rk) (pick : List UInt8) : Rk := { (r.crashN (bitOf pick) r.now.length).2 with dead := false, left := -1 }

structure Rk.Len (q : Rk) (n : Nat) : Prop where
  now : q.now.length = n
  last : q.last.length = n
  fresh : q.fresh.length = n
  nows : ∀ s ∈ q.now, s.length = 64
  lasts : ∀ s ∈ q.last, s.length = 64

theorem set64 {l : List (List UInt8)} (h : ∀ s ∈ l, s.length = 64) (i : Nat) {x : List UInt8} (hx : x.length = 64) : ∀ s ∈ l.set i x, s.length = 64 := by
  intro s hs
  rcases List.mem_or_eq_of_mem_set hs with h1 | h1
  · exact h s h1
  · rw [h1]; exact hx
theorem getD64 {l : List (List UInt8)} (h : ∀ s ∈ l, s.length = 64) {i : Nat} (hi : i < l.length) : (l.getD i []).length = 64 := h _ (by simp [List.getD, hi])

theorem Rk.Len.keep {q : Rk} {n : Nat} (h : q.Len n) {i : Nat} (hi : i < n) : (q.keepS i).Len n :=
  ⟨h.now, by simp [Rk.keepS, h.last], h.fresh, h.nows, set64 h.lasts i (getD64 h.nows (by rw [h.now]; exact hi))⟩
theorem Rk.Len.back {q : Rk} {n : Nat} (h : q.Len n) {i : Nat} (hi : i < n) : (q.backS i).Len n :=
  ⟨by simp [Rk.backS, h.now], h.last, by simp [Rk.backS, h.fresh], set64 h.nows i (getD64 h.lasts (by rw [h.last]; exact hi)), h.lasts⟩
theorem Rk.Len.step {q : Rk} {n : Nat} (h : q.Len n) {i : Nat} (hi : i < n) (bit : Bool) : (q.crashStep i bit).Len n := by
  unfold Rk.crashStep
  split
  · exact (h.keep hi).back hi
  · exact h.back hi
theorem crashN_len {n : Nat} (h : r.Len n) (f : Nat → Bool) : ∀ i, i ≤ n → (r.crashN f i).2.Len n ∧ (r.crashN f i).1 ≤ i
  | 0, _ => ⟨h, Nat.le_refl 0⟩
  | i + 1, hi => by
    obtain ⟨h1, h2⟩ := crashN_len h f i (by omega)
    unfold Rk.crashN
    split
    · exact ⟨h1.step (by omega) _, by simp; omega⟩
    · exact ⟨h1, by omega⟩

def CrashAt (e : Env) (b : Nat) (L : List HP) (r : Rk) (f : Nat → Bool) (c i : Value) (w : World) : Prop := ∃ k : Nat, k ≤ r.now.length ∧ i = .int .i64 k ∧ c = .int .i64 (r.crashN f k).1 ∧ ∃ e', e.le e' ∧ Sat e' (HP.ref b (r.crashN f k).2 :: L) w

set_option maxRecDepth 100000 in
set_option maxHeartbeats 4000000 in
theorem rcrash_calls (h : Sat e (HP.ref b r :: L) w) (hOk : r.Ok) (pv : Value) (pick : List UInt8) (V : View e.h pv pick.length (pick.map B8)) :
    Calls Try.prog 26 #[.pointer (some ⟨b, 0, none⟩), pv] w fun x w' => ∃ e', e.le e' ∧ x = .returned (.tuple #[]) ∧ Sat e' (HP.ref b (r.crashed pick) :: L) w' := by
  obtain ⟨i0, hi, hz0, hz1, hz2⟩ := info_parts info_u8
  have HS := hide h
  have HI := hide hi
  have HVP := hide V
  have HLEN : Hid (r.Len r.now.length) := hide ⟨rfl, hOk.last, hOk.fresh, hOk.nows, hOk.lasts⟩
  have hmost := hOk.most
  have HCR : Hid (r.crashed pick = { (r.crashN (bitOf pick) r.now.length).2 with dead := false, left := -1 }) := hide rfl
  obtain ⟨pbase, pcap, hv, _⟩ := V
  subst hv
  clear h hi hOk
  go_enter Try.func26, Try.ntmps26
  go_wp2_with fail
  go_loopw [4, 5] (fun c i wr => CrashAt e b L r (bitOf pick) c i wr) (fun _ i _ => r.now.length - (intOf i).toNat)
  case atStart => exact ⟨0, by omega, rfl, rfl, e, Env.le_refl e, HS.out⟩
  case round =>
    obtain ⟨k, hk, rfl, rfl, e0, hle, hs⟩ := hrel
    obtain ⟨t1, t2⟩ := crashN_len HLEN.out (bitOf pick) k hk
    have HQL := hide t1
    have hkm : (k : Int) ≤ 256 := by omega
    have hstep1 : (r.crashN (bitOf pick) (k + 1)) = if (r.crashN (bitOf pick) k).2.fresh.getD k false then ((r.crashN (bitOf pick) k).1 + 1, (r.crashN (bitOf pick) k).2.crashStep k (bitOf pick (r.crashN (bitOf pick) k).1)) else r.crashN (bitOf pick) k := rfl
    have HST := hide hstep1
    have hq : (r.crashN (bitOf pick) k) = ((r.crashN (bitOf pick) k).1, (r.crashN (bitOf pick) k).2) := rfl
    have HEND : Hid (k = r.now.length → r.crashed pick = { (r.crashN (bitOf pick) k).2 with dead := false, left := -1 }) := hide (fun hx => by rw [hx]; exact HCR.out)
    generalize (r.crashN (bitOf pick) k).1 = c at *
    generalize (r.crashN (bitOf pick) k).2 = q at *
    have HR := hide hs
    have HE := hide hle
    have HQ0 := hide hq
    clear hs hle hstep1 t1 hq
    have hcm : (c : Int) ≤ 256 := by omega
    obtain ⟨nv, lv, wv, ns, ls, m1, m2, h⟩ := HR.out.ref_open
    have c0 := h.ref_at.c0
    obtain ⟨nb, nc, hnv, _⟩ := h.drop.row_view
    subst hnv
    rw [m1.len, HQL.out.now] at c0
    clear h m1 m2
    by_cases hlt : (k : Int) < r.now.length
    · have HKN : Hid (k < q.now.length) := hide (by rw [HQL.out.now]; omega)
      have HKL : Hid (k < q.last.length) := hide (by rw [HQL.out.last]; omega)
      have HKF : Hid (k < q.fresh.length) := hide (by rw [HQL.out.fresh]; omega)
      have HNOW : Hid (∀ s ∈ q.now, s.length = 64) := hide HQL.out.nows
      have HLAST : Hid (∀ s ∈ q.last, s.length = 64) := hide HQL.out.lasts
      obtain ⟨g0, c0', y0, y1, _, _⟩ := ref_fresh_facts HR.out k HKF.out
      rw [HQL.out.fresh] at y0
      cases hfr : q.fresh.getD k false with
      | false =>
        rw [hfr] at y1
        have HN : Hid (r.crashN (bitOf pick) (k + 1) = (c, q)) := hide (by rw [HST.out, hfr]; exact HQ0.out)
        clear hfr
        go_wp2_with fail
        go_roundw
        case rel => exact ⟨k + 1, by omega, by go_num, by rw [HN.out], e0, HE.out, by rw [HN.out]; exact HR.out⟩
        case measure => simp [intOf]; omega
      | true =>
        rw [hfr] at y1
        have hb : ∀ bit, bitOf pick c = bit → r.crashN (bitOf pick) (k + 1) = (c + 1, q.crashStep k bit) := fun bit hx => by rw [HST.out, hfr, hx]; rfl
        have HB := hide hb
        clear hb hfr
        by_cases hp : c / 8 < pick.length
        · obtain ⟨pb, po, pc, hpv, hpc⟩ := ((HVP.out.le HE.out).sat HR.out).cells (by intro hx; have := congrArg List.length hx; simp at this; rw [this] at hp; simp at hp)
          simp only [Value.slice.injEq] at hpv
          obtain ⟨hpv1, _, hpv3⟩ := hpv
          subst hpv1
          subst hpv3
          have hpx : wr.cell? ⟨pb, po + c / 8, none⟩ = some (.int .u8 (pick.getD (c / 8) 0).toNat) := by
            rw [hpc (c / 8) (B8 (pick.getD (c / 8) 0)) (by simp [List.getD, hp])]; rfl
          clear hpc
          cases hbit : bitOf pick c with
          | false =>
            have hbe := (bit_eq pick c hp).trans hbit
            have HN := hide (HB.out false hbit)
            clear hbit
            go_wp2_with fail
            clear c0 y0 y1
            obtain ⟨nv, lv, wv, ns, ls, m1, m2, h⟩ := HR.out.drew.ref_open
            obtain ⟨nb, nc, hnv, _⟩ := h.drop.row_view
            subst hnv
            obtain ⟨lb, lc, hlv, _⟩ := h.bring3.row_view
            subst hlv
            have hn1 : k < ns.length := by rw [m1.len]; exact HKN.out
            have hn2 : k < ls.length := by rw [m2.len]; exact HKL.out
            obtain ⟨g1, rfl⟩ := h.swap.row_base (by omega)
            obtain ⟨g2, rfl⟩ := h.bring3.row_base (by omega)
            obtain ⟨ub, uc, hu, V, hlx⟩ := mat_at64 m2 HLAST.out (k := k) HKL.out
            have hns1 : (k : Int) < ns.length := by omega
            have hls1 : (k : Int) < ls.length := by omega
            have ne1 : ¬ g1 = b := h.row_ne
            have ne2 : ¬ g2 = b := (h.pick [0, 2] 3 (by decide) (by decide) (by simp)).row_ne
            have ne3 : ¬ g1 = g2 := h.drop.rows_ne
            have ne4 : ¬ g2 = g1 := fun hx => ne3 hx.symm
            have d1 := h.ref_at.c0
            have d2 := h.ref_at.c1
            have d3 := (h.bring3.row_cell hn2).1.trans hu
            have h3 := h.build0 (E := 5) 1
            have d4 := h3.drop.ref_at.c0
            have d5 := h3.drop.ref_at.c1
            have d6 := (h3.drop.bring3.row_cell hn2).1.trans hu
            have H3 := hide h3
            have HM1 := hide m1; have HM2 := hide m2; have HV := hide V; have HLX := hide hlx; have HU := hide hu
            clear h h3 m1 m2 V hlx hu HR
            go_region_held3 (fun w' => w'.cell? ⟨b, 0, none⟩ = some (.slice (some ⟨g1, 0, none⟩) ns.length nc) ∧ w'.cell? ⟨b, 1, none⟩ = some (.slice (some ⟨g2, 0, none⟩) ls.length lc) ∧ w'.cell? ⟨g2, k, none⟩ = some (.slice ub 64 uc))
              (first | exact ⟨d1, d2, d3⟩ | exact ⟨d4, d5, d6⟩ | exact ⟨d7, d8, d9⟩ | go_keep)
              (first
                | (refine step_append_sl rfl (.tmp 61) (.tmp 68) 32 rfl Try.underlying32 HI.out hz0 hz1 hz2 rfl (by omega) H3.out (HV.out.sat H3.out) rfl rfl ?_ (map_B8_one _) (by unfold maxLen; omega) (by omega) ?_; (exact (List.length_map _).trans HLX.out); intro v4 w4 h4 _; rw [List.nil_append] at h4; obtain ⟨wb, wc, hv4, _⟩ := h4.row_view; subst hv4; obtain ⟨e1, hle1, V1, h5⟩ := h4.row_persist; have d7 := h5.ref_at.c0; have d8 := h5.ref_at.c1; have d9 := (h5.bring3.row_cell hn2).1.trans HU.out; have hc4 := h5.swap.row_cell hn1; have c4 := hc4.1; have f4 := hc4.2.1; clear hc4; rw [List.getElem?_eq_getElem hn1] at c4; have H5 := hide h5; have HV1 := hide V1; have HLE1 := hide hle1; clear h4 h5 V1 hle1 H3))
            have HR3 := hide (ref_set_now (HM1.out.le HLE1.out) (HM2.out.le HLE1.out) (by rw [HLX.out]; exact HV1.out) k hn1 H5.out)
            clear H5 HM1 HM2 HV1 HV c4 f4 d1 d2 d3 d4 d5 d6 d7 d8 d9 ne1 ne2 ne3 ne4 hns1 hls1 hn1 hn2 HU HLX
            generalize w4.setCell _ _ = W6 at HR3 ⊢
            obtain ⟨g3, c3', q0, q1, q2, q3⟩ := ref_fresh_facts HR3.out k HKF.out
            have HQ := hide q3
            have hkf : (k : Int) < (q.fresh.length : Nat) := by have := HKF.out; exact Int.ofNat_lt.2 this
            clear q3 HR3
            go_wp2_with fail
            go_roundw
            case rel => exact ⟨k + 1, by omega, by go_num, (by rw [HN.out]; show _ = Value.int .i64 ((c + 1 : Nat) : Int); go_num), _, HE.out.trans HLE1.out, (by rw [HN.out]; exact HQ.out false)⟩
            case measure => simp [intOf]; omega
          | true =>
            have hbe := (bit_eq pick c hp).trans hbit
            have HN := hide (HB.out true hbit)
            clear hbit
            go_wp2_with fail
            clear c0 y0 y1 hpx
            obtain ⟨nv, lv, wv, ns, ls, m1, m2, h⟩ := HR.out.drew.ref_open
            obtain ⟨nb, nc, hnv, _⟩ := h.drop.row_view
            subst hnv
            obtain ⟨lb, lc, hlv, _⟩ := h.bring3.row_view
            subst hlv
            have hn1 : k < ns.length := by rw [m1.len]; exact HKN.out
            have hn2 : k < ls.length := by rw [m2.len]; exact HKL.out
            obtain ⟨g1, rfl⟩ := h.swap.row_base (by omega)
            obtain ⟨g2, rfl⟩ := h.bring3.row_base (by omega)
            obtain ⟨ub, uc, hu, V, hlx⟩ := mat_at64 m1 HNOW.out (k := k) HKN.out
            have hns1 : (k : Int) < ns.length := by omega
            have hls1 : (k : Int) < ls.length := by omega
            have ne1 : ¬ g1 = b := h.row_ne
            have ne2 : ¬ g2 = b := (h.pick [0, 2] 3 (by decide) (by decide) (by simp)).row_ne
            have ne3 : ¬ g1 = g2 := h.drop.rows_ne
            have ne4 : ¬ g2 = g1 := fun hx => ne3 hx.symm
            have d1 := h.ref_at.c0
            have d2 := h.ref_at.c1
            have d3 := (h.swap.row_cell hn1).1.trans hu
            have h3 := h.build0 (E := 5) 1
            have d4 := h3.drop.ref_at.c0
            have d5 := h3.drop.ref_at.c1
            have d6 := (h3.drop.swap.row_cell hn1).1.trans hu
            have H3 := hide h3
            have HM1 := hide m1; have HM2 := hide m2; have HV := hide V; have HLX := hide hlx; have HU := hide hu
            clear h h3 m1 m2 V hlx hu HR
            go_region_held3 (fun w' => w'.cell? ⟨b, 0, none⟩ = some (.slice (some ⟨g1, 0, none⟩) ns.length nc) ∧ w'.cell? ⟨b, 1, none⟩ = some (.slice (some ⟨g2, 0, none⟩) ls.length lc) ∧ w'.cell? ⟨g1, k, none⟩ = some (.slice ub 64 uc))
              (first | exact ⟨d1, d2, d3⟩ | exact ⟨d4, d5, d6⟩ | exact ⟨d7, d8, d9⟩ | go_keep)
              (first
                | (refine step_append_sl rfl (.tmp 46) (.tmp 53) 32 rfl Try.underlying32 HI.out hz0 hz1 hz2 rfl (by omega) H3.out (HV.out.sat H3.out) rfl rfl ?_ (map_B8_one _) (by unfold maxLen; omega) (by omega) ?_; (exact (List.length_map _).trans HLX.out); intro v4 w4 h4 _; rw [List.nil_append] at h4; obtain ⟨wb, wc, hv4, _⟩ := h4.row_view; subst hv4; obtain ⟨e1, hle1, V1, h5⟩ := h4.row_persist; have d7 := h5.ref_at.c0; have d8 := h5.ref_at.c1; have d9 := (h5.swap.row_cell hn1).1.trans HU.out; have hc4 := h5.bring3.row_cell hn2; have c4 := hc4.1; have f4 := hc4.2.1; clear hc4; rw [List.getElem?_eq_getElem hn2] at c4; have H5 := hide h5; have HV1 := hide V1; have HLE1 := hide hle1; clear h4 h5 V1 hle1 H3))
            have HR2 := hide (ref_set_last (HM1.out.le HLE1.out) (HM2.out.le HLE1.out) (by rw [HLX.out]; exact HV1.out) k hn2 H5.out)
            clear H5 HM1 HM2 HV1 HV c4 f4 d1 d2 d3 d4 d5 d6 d7 d8 d9 ne1 ne2 ne3 ne4 hns1 hls1 hn1 hn2 HU HLX
            have HLE0 := HLE1
            clear HLE1
            have HR4 : Hid (Sat e1 (HP.ref b (q.keepS k) :: L) _) := HR2
            clear HR2
            generalize w4.setCell _ _ = W5 at HR4 ⊢
            have HQL2 := hide (HQL.out.keep (i := k) (by omega))
            have HKN : Hid (k < (q.keepS k).now.length) := HKN
            have HKL : Hid (k < (q.keepS k).last.length) := hide (by rw [HQL2.out.last]; omega)
            have HKF : Hid (k < (q.keepS k).fresh.length) := HKF
            have HNOW := hide HQL2.out.nows
            have HLAST := hide HQL2.out.lasts
            go_wp2_with fail
            obtain ⟨nv, lv, wv, ns, ls, m1, m2, h⟩ := HR4.out.drew.ref_open
            obtain ⟨nb, nc, hnv, _⟩ := h.drop.row_view
            subst hnv
            obtain ⟨lb, lc, hlv, _⟩ := h.bring3.row_view
            subst hlv
            have hn1 : k < ns.length := by rw [m1.len]; exact HKN.out
            have hn2 : k < ls.length := by rw [m2.len]; exact HKL.out
            obtain ⟨g1, rfl⟩ := h.swap.row_base (by omega)
            obtain ⟨g2, rfl⟩ := h.bring3.row_base (by omega)
            obtain ⟨ub, uc, hu, V, hlx⟩ := mat_at64 m2 HLAST.out (k := k) HKL.out
            have hns1 : (k : Int) < ns.length := by omega
            have hls1 : (k : Int) < ls.length := by omega
            have ne1 : ¬ g1 = b := h.row_ne
            have ne2 : ¬ g2 = b := (h.pick [0, 2] 3 (by decide) (by decide) (by simp)).row_ne
            have ne3 : ¬ g1 = g2 := h.drop.rows_ne
            have ne4 : ¬ g2 = g1 := fun hx => ne3 hx.symm
            have d1 := h.ref_at.c0
            have d2 := h.ref_at.c1
            have d3 := (h.bring3.row_cell hn2).1.trans hu
            have h3 := h.build0 (E := 5) 1
            have d4 := h3.drop.ref_at.c0
            have d5 := h3.drop.ref_at.c1
            have d6 := (h3.drop.bring3.row_cell hn2).1.trans hu
            have H3 := hide h3
            have HM1 := hide m1; have HM2 := hide m2; have HV := hide V; have HLX := hide hlx; have HU := hide hu
            clear h h3 m1 m2 V hlx hu HR4
            go_region_held3 (fun w' => w'.cell? ⟨b, 0, none⟩ = some (.slice (some ⟨g1, 0, none⟩) ns.length nc) ∧ w'.cell? ⟨b, 1, none⟩ = some (.slice (some ⟨g2, 0, none⟩) ls.length lc) ∧ w'.cell? ⟨g2, k, none⟩ = some (.slice ub 64 uc))
              (first | exact ⟨d1, d2, d3⟩ | exact ⟨d4, d5, d6⟩ | exact ⟨d7, d8, d9⟩ | go_keep)
              (first
                | (refine step_append_sl rfl (.tmp 61) (.tmp 68) 32 rfl Try.underlying32 HI.out hz0 hz1 hz2 rfl (by omega) H3.out (HV.out.sat H3.out) rfl rfl ?_ (map_B8_one _) (by unfold maxLen; omega) (by omega) ?_; (exact (List.length_map _).trans HLX.out); intro v4 w4 h4 _; rw [List.nil_append] at h4; obtain ⟨wb, wc, hv4, _⟩ := h4.row_view; subst hv4; obtain ⟨e1, hle1, V1, h5⟩ := h4.row_persist; have d7 := h5.ref_at.c0; have d8 := h5.ref_at.c1; have d9 := (h5.bring3.row_cell hn2).1.trans HU.out; have hc4 := h5.swap.row_cell hn1; have c4 := hc4.1; have f4 := hc4.2.1; clear hc4; rw [List.getElem?_eq_getElem hn1] at c4; have H5 := hide h5; have HV1 := hide V1; have HLE1 := hide hle1; clear h4 h5 V1 hle1 H3))
            have HR3 := hide (ref_set_now (HM1.out.le HLE1.out) (HM2.out.le HLE1.out) (by rw [HLX.out]; exact HV1.out) k hn1 H5.out)
            clear H5 HM1 HM2 HV1 HV c4 f4 d1 d2 d3 d4 d5 d6 d7 d8 d9 ne1 ne2 ne3 ne4 hns1 hls1 hn1 hn2 HU HLX
            generalize w4.setCell _ _ = W6 at HR3 ⊢
            obtain ⟨g3, c3', q0, q1, q2, q3⟩ := ref_fresh_facts HR3.out k HKF.out
            have HQ := hide q3
            have hkf : (k : Int) < ((q.keepS k).fresh.length : Nat) := by have := HKF.out; exact Int.ofNat_lt.2 this
            clear q3 HR3
            go_wp2_with fail
            go_roundw
            case rel => exact ⟨k + 1, by omega, by go_num, (by rw [HN.out]; show _ = Value.int .i64 ((c + 1 : Nat) : Int); go_num), _, HE.out.trans (HLE0.out.trans HLE1.out), (by rw [HN.out]; exact HQ.out false)⟩
            case measure => simp [intOf]; omega
        · have hbit : bitOf pick c = false := by simp [bitOf, hp]
          have HN := hide (HB.out false hbit)
          clear hbit
          go_wp2_with fail
          clear c0 y0 y1
          obtain ⟨nv, lv, wv, ns, ls, m1, m2, h⟩ := HR.out.drew.ref_open
          obtain ⟨nb, nc, hnv, _⟩ := h.drop.row_view
          subst hnv
          obtain ⟨lb, lc, hlv, _⟩ := h.bring3.row_view
          subst hlv
          have hn1 : k < ns.length := by rw [m1.len]; exact HKN.out
          have hn2 : k < ls.length := by rw [m2.len]; exact HKL.out
          obtain ⟨g1, rfl⟩ := h.swap.row_base (by omega)
          obtain ⟨g2, rfl⟩ := h.bring3.row_base (by omega)
          obtain ⟨ub, uc, hu, V, hlx⟩ := mat_at64 m2 HLAST.out (k := k) HKL.out
          have hns1 : (k : Int) < ns.length := by omega
          have hls1 : (k : Int) < ls.length := by omega
          have ne1 : ¬ g1 = b := h.row_ne
          have ne2 : ¬ g2 = b := (h.pick [0, 2] 3 (by decide) (by decide) (by simp)).row_ne
          have ne3 : ¬ g1 = g2 := h.drop.rows_ne
          have ne4 : ¬ g2 = g1 := fun hx => ne3 hx.symm
          have d1 := h.ref_at.c0
          have d2 := h.ref_at.c1
          have d3 := (h.bring3.row_cell hn2).1.trans hu
          have h3 := h.build0 (E := 5) 1
          have d4 := h3.drop.ref_at.c0
          have d5 := h3.drop.ref_at.c1
          have d6 := (h3.drop.bring3.row_cell hn2).1.trans hu
          have H3 := hide h3
          have HM1 := hide m1; have HM2 := hide m2; have HV := hide V; have HLX := hide hlx; have HU := hide hu
          clear h h3 m1 m2 V hlx hu HR
          go_region_held3 (fun w' => w'.cell? ⟨b, 0, none⟩ = some (.slice (some ⟨g1, 0, none⟩) ns.length nc) ∧ w'.cell? ⟨b, 1, none⟩ = some (.slice (some ⟨g2, 0, none⟩) ls.length lc) ∧ w'.cell? ⟨g2, k, none⟩ = some (.slice ub 64 uc))
            (first | exact ⟨d1, d2, d3⟩ | exact ⟨d4, d5, d6⟩ | exact ⟨d7, d8, d9⟩ | go_keep)
            (first
              | (refine step_append_sl rfl (.tmp 61) (.tmp 68) 32 rfl Try.underlying32 HI.out hz0 hz1 hz2 rfl (by omega) H3.out (HV.out.sat H3.out) rfl rfl ?_ (map_B8_one _) (by unfold maxLen; omega) (by omega) ?_; (exact (List.length_map _).trans HLX.out); intro v4 w4 h4 _; rw [List.nil_append] at h4; obtain ⟨wb, wc, hv4, _⟩ := h4.row_view; subst hv4; obtain ⟨e1, hle1, V1, h5⟩ := h4.row_persist; have d7 := h5.ref_at.c0; have d8 := h5.ref_at.c1; have d9 := (h5.bring3.row_cell hn2).1.trans HU.out; have hc4 := h5.swap.row_cell hn1; have c4 := hc4.1; have f4 := hc4.2.1; clear hc4; rw [List.getElem?_eq_getElem hn1] at c4; have H5 := hide h5; have HV1 := hide V1; have HLE1 := hide hle1; clear h4 h5 V1 hle1 H3))
          have HR3 := hide (ref_set_now (HM1.out.le HLE1.out) (HM2.out.le HLE1.out) (by rw [HLX.out]; exact HV1.out) k hn1 H5.out)
          clear H5 HM1 HM2 HV1 HV c4 f4 d1 d2 d3 d4 d5 d6 d7 d8 d9 ne1 ne2 ne3 ne4 hns1 hls1 hn1 hn2 HU HLX
          generalize w4.setCell _ _ = W6 at HR3 ⊢
          obtain ⟨g3, c3', q0, q1, q2, q3⟩ := ref_fresh_facts HR3.out k HKF.out
          have HQ := hide q3
          have hkf : (k : Int) < (q.fresh.length : Nat) := by have := HKF.out; exact Int.ofNat_lt.2 this
          clear q3 HR3
          go_wp2_with fail
          go_roundw
          case rel => exact ⟨k + 1, by omega, by go_num, (by rw [HN.out]; show _ = Value.int .i64 ((c + 1 : Nat) : Int); go_num), _, HE.out.trans HLE1.out, (by rw [HN.out]; exact HQ.out false)⟩
          case measure => simp [intOf]; omega
    · have hkn : k = r.now.length := by omega
      have hcr := HEND.out hkn
      obtain ⟨nv, lv, wv, ns, ls, m1, m2, h⟩ := HR.out.ref_open
      have c3 := h.ref_at.c3
      have c4 := h.ref_at.c4
      have f3 := h.ref_at.f3
      have f4 := h.ref_at.f4
      have hfin : Sat e0 (HP.ref b (r.crashed pick) :: L) ((wr.setCell ⟨b, 3, none⟩ (.bool false)).setCell ⟨b, 4, none⟩ (.int .i64 (-1))) := by
        rw [hcr]
        exact Sat.ref_shut (nv := nv) (lv := lv) (wv := wv) m1 m2 ((h.setCell (i := 3) (.bool false)).setCell (i := 4) (.int .i64 (-1)))
      have HFN := hide hfin
      clear hfin hcr h m1 m2 hkn
      go_wp2_with fail
      go_end0
      exact ⟨e0, HE.out, rfl, HFN.out⟩
end Go.Proofs.Ytbeabedpmoalpaa
