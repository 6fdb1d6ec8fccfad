/-
  deadboltref1: Flush.
-/
import Derived.Test.YtbeabedpmoalpaaRk5
namespace Go.Proofs.Ytbeabedpmoalpaa
open Go.RowKit Go.Maps Go.MapKept
variable {e : Env} {b : Nat} {r : Rk} {L : List HP} {w : World}

theorem Sat.rows_ne {g1 g2 n1 n2 m1 m2 c1 c2 s1 s2 : Nat} {E1 E2 : TypeId} {xs ys : List Value} (h : Sat e (HP.row E1 s1 (.slice (some ⟨g1, 0, none⟩) m1 c1) n1 xs :: HP.row E2 s2 (.slice (some ⟨g2, 0, none⟩) m2 c2) n2 ys :: L) w) : ¬ g1 = g2 := by
  obtain ⟨hl, ⟨hx, _⟩ | ⟨g', cap', cur, hv, hc1, hc2, hc3, hc4, h3⟩⟩ := h.row_open
  · cases hx
  · simp only [Value.slice.injEq, Option.some.injEq, Addr.mk.injEq, and_true] at hv
    rw [hv.1]; exact fun hx => h3.row_ne hx.symm

theorem copyN_now64 (hOk : r.Ok) (k : Nat) : ∀ s ∈ (r.copyN k).now, s.length = 64 := by rw [(copyN_rest r k).1]; exact hOk.nows

theorem spend_ok (hOk : r.Ok) (h : r.n < 999999999) : r.spend.Ok := by
  obtain ⟨h1, h2, h3⟩ := spend_rest r
  obtain ⟨a1, a2, a3, a4, a5, a6, a7, a8⟩ := hOk
  refine ⟨by rw [h1, h2]; exact a1, by rw [h1, h3]; exact a2, by rw [h1]; exact a3, by rw [h1]; exact a4, by rw [h2]; exact a5, ?_, ?_, ?_⟩ <;> (unfold Rk.spend; (repeat' split) <;> simp only [] <;> omega)

set_option maxRecDepth 100000 in
set_option maxHeartbeats 2000000 in
theorem rflush_ok (h : Sat e (HP.ref b r :: L) w) (hOk : r.Ok) (hd : r.dead = false) (hf : r.left ≠ 0) :
    Calls Try.prog 37 #[.pointer (some ⟨b, 0, none⟩)] w fun x w' => ∃ e', e.le e' ∧ x = .returned (.int .i64 0) ∧ Sat e' (HP.ref b r.flushed :: L) w' := by
  obtain ⟨i0, hi, hz0, hz1, hz2⟩ := info_parts info_u8
  have H := hide h
  have HOK := hide hOk
  have HI := hide hi
  obtain ⟨nv, lv, wv, ns, ls, m1, m2, h⟩ := h.ref_open
  have c3 := h.ref_at.c3
  rw [hd] at c3
  have hdec : decide (r.left ≠ 0) = true := by simpa using hf
  obtain ⟨s1, s2, s3⟩ := spend_rest r
  have HSN : Hid (r.spend.now.length ≤ 256 ∧ r.spend.last.length = r.spend.now.length ∧ r.spend.fresh.length = r.spend.now.length ∧ (∀ s ∈ r.spend.now, s.length = 64)) := hide (by rw [s1, s2, s3]; exact ⟨hOk.most, hOk.last, hOk.fresh, hOk.nows⟩)
  have hfl : r.flushed = r.spend.copyN r.spend.now.length := rfl
  have HFL := hide hfl
  clear h m1 m2 hOk hi hd hf s1 s2 s3 hfl
  go_enter Try.func37, Try.ntmps37
  go_wp2_with (go_at_call 42; refine (rspend_calls H.out HOK.out.n0 HOK.out.n1 HOK.out.left).mono ?_; rintro x w2 ⟨rfl, h2⟩; rw [hdec]; have H2 := hide h2; clear h2)
  generalize r.spend = q at H2 HSN HFL
  go_loopw [3] (fun i wr => FlushAt e b L q i wr) (fun i _ => q.now.length - (intOf i).toNat)
  case atStart => exact ⟨0, by omega, rfl, e, Env.le_refl e, H2.out⟩
  case round =>
    obtain ⟨k, hk, rfl, e0, hle, hs⟩ := hrel
    have hkm : (k : Int) ≤ 256 := by have := HSN.out.1; omega
    have HR := hide hs
    have HE := hide hle
    clear hs hle
    obtain ⟨t1, t2, t3, _⟩ := copyN_rest q k
    have HT : Hid ((q.copyN k).now = q.now) := hide t1
    have HTL : Hid ((q.copyN k).last.length = q.now.length ∧ (q.copyN k).fresh.length = q.now.length) := hide ⟨t2.trans HSN.out.2.1, t3.trans HSN.out.2.2.1⟩
    obtain ⟨nv, lv, wv, ns, ls, m1, m2, h⟩ := HR.out.ref_open
    have c0 := h.ref_at.c0
    obtain ⟨nb, nc, hnv, _⟩ := h.drop.row_view
    subst hnv
    rw [m1.len, t1] at c0
    clear h m1 m2 t1 t2 t3
    by_cases hlt : (k : Int) < q.now.length
    · have HKN : Hid (k < (q.copyN k).now.length) := hide (by rw [HT.out]; omega)
      have HKL : Hid (k < (q.copyN k).last.length) := hide (by rw [HTL.out.1]; omega)
      have HKF : Hid (k < (q.copyN k).fresh.length) := hide (by rw [HTL.out.2]; omega)
      have HNOW : Hid (∀ s ∈ (q.copyN k).now, s.length = 64) := hide (by rw [HT.out]; exact HSN.out.2.2.2)
      go_wp2_with fail
      clear c0
      obtain ⟨nv, lv, wv, ns, ls, m1, m2, h⟩ := HR.out.drew.ref_open
      obtain ⟨nb, nc, hnv, _⟩ := h.drop.row_view
      subst hnv
      obtain ⟨lb, lc, hlv, _⟩ := h.bring3.row_view
      subst hlv
      have hn1 : k < ns.length := by rw [m1.len]; exact HKN.out
      have hn2 : k < ls.length := by rw [m2.len]; exact HKL.out
      obtain ⟨g1, rfl⟩ := h.swap.row_base (by omega)
      obtain ⟨g2, rfl⟩ := h.bring3.row_base (by omega)
      obtain ⟨ub, uc, hu, V, hlx⟩ := mat_at64 m1 HNOW.out (k := k) HKN.out
      have hns1 : (k : Int) < ns.length := by omega
      have hls1 : (k : Int) < ls.length := by omega
      have ne1 : ¬ g1 = b := h.row_ne
      have ne2 : ¬ g2 = b := (h.pick [0, 2] 3 (by decide) (by decide) (by simp)).row_ne
      have ne3 : ¬ g1 = g2 := h.drop.rows_ne
      have ne4 : ¬ g2 = g1 := fun hx => ne3 hx.symm
      have d1 := h.ref_at.c0
      have d2 := h.ref_at.c1
      have d3 := (h.swap.row_cell hn1).1.trans hu
      have h3 := h.build0 (E := 5) 1
      have d4 := h3.drop.ref_at.c0
      have d5 := h3.drop.ref_at.c1
      have d6 := (h3.drop.swap.row_cell hn1).1.trans hu
      have H3 := hide h3
      have HM1 := hide m1; have HM2 := hide m2; have HV := hide V; have HLX := hide hlx; have HU := hide hu
      clear h h3 m1 m2 V hlx hu HR
      go_region_held3 (fun w' => w'.cell? ⟨b, 0, none⟩ = some (.slice (some ⟨g1, 0, none⟩) ns.length nc) ∧ w'.cell? ⟨b, 1, none⟩ = some (.slice (some ⟨g2, 0, none⟩) ls.length lc) ∧ w'.cell? ⟨g1, k, none⟩ = some (.slice ub 64 uc))
        (first | exact ⟨d1, d2, d3⟩ | exact ⟨d4, d5, d6⟩ | exact ⟨d7, d8, d9⟩ | go_keep)
        (first
          | (refine step_append_sl rfl (.tmp 27) (.tmp 34) 32 rfl Try.underlying32 HI.out hz0 hz1 hz2 rfl (by omega) H3.out (HV.out.sat H3.out) rfl rfl ?_ (map_B8_one _) (by unfold maxLen; omega) (by omega) ?_; (exact (List.length_map _).trans HLX.out); intro v4 w4 h4 _; rw [List.nil_append] at h4; obtain ⟨wb, wc, hv4, _⟩ := h4.row_view; subst hv4; obtain ⟨e1, hle1, V1, h5⟩ := h4.row_persist; have d7 := h5.ref_at.c0; have d8 := h5.ref_at.c1; have d9 := (h5.swap.row_cell hn1).1.trans HU.out; have hc4 := h5.bring3.row_cell hn2; have c4 := hc4.1; have f4 := hc4.2.1; clear hc4; rw [List.getElem?_eq_getElem hn2] at c4; have H5 := hide h5; have HV1 := hide V1; have HLE1 := hide hle1; clear h4 h5 V1 hle1 H3))
      have HR2 := hide (ref_set_last (HM1.out.le HLE1.out) (HM2.out.le HLE1.out) (by rw [HLX.out]; exact HV1.out) k hn2 H5.out)
      clear H5 HM1 HM2 HV1 HV c4 f4 d1 d2 d3 d4 d5 d6 d7 d8 d9 ne1 ne2 ne3 ne4 hns1 hls1 hn1 hn2 HU HLX
      generalize w4.setCell _ _ = W5 at HR2 ⊢
      obtain ⟨g3, c3', q0, q1, q2, q3⟩ := ref_fresh_facts HR2.out k HKF.out
      have HQ := hide q3
      have hkf : (k : Int) < ({ q.copyN k with last := (q.copyN k).last.set k ((q.copyN k).now.getD k []) } : Rk).fresh.length := by show (k : Int) < (q.copyN k).fresh.length; have := HKF.out; omega
      clear q3 HR2
      go_wp2_with fail
      go_roundw
      case rel => exact ⟨k + 1, by omega, by go_num, _, HE.out.trans HLE1.out, HQ.out false⟩
      case measure => simp [intOf]; omega
    · have hkn : q.now.length = k := by omega
      rw [hkn] at HFL
      go_wp2_with fail
      go_ret
      exact ⟨e0, HE.out, rfl, by rw [HFL.out]; exact HR.out⟩
end Go.Proofs.Ytbeabedpmoalpaa
