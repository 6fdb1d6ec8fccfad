/-
  package wal: State, begins.
-/
import Derived.Test.YtcgnkloljfgiaaaGreatDoorWk
import Derived.BigQuiet
namespace Go.Proofs.YtcgnkloljfgiaaaGreatDoor
open Go.RowKit Go.Maps Go.MapKept
variable {b : Env} {L : List HP} {w : World} {gd : Nat} {d : Dk}
theorem results_tmp4 {fn : Func} {t u v x : Tmp} (h : fn.results = #[.tmp t, .tmp u, .tmp v, .tmp x]) (tmps : Array Value) (P : Program) (w : World) :
    (results fn tmps).run P w = .ok (.tuple #[tmps.getD t undef, tmps.getD u undef, tmps.getD v undef, tmps.getD x undef]) w := by
  simp [results, h]
/-- A half's generation; 0: it does not begin. -/
def beginR (T : Int → Option PartR) (at' sz : Int) : Nat :=
  if recR T at' (at' + sz) = none then 0 else match T at' with
  | some p => if p.rc = 0 then p.gen else 0
  | none => 0
theorem recR_at {T : Int → Option PartR} {at' en : Int} {x : Byt × Nat} (h : recR T at' en = some x) : ∃ p, T at' = some p ∧ x.2 = p.of := by
  unfold recR at h
  split at h
  · cases h
  · rename_i p hp
    refine ⟨p, hp, ?_⟩
    split at h
    · cases h
    · split at h
      · cases h
      · rename_i ps _
        obtain ⟨d, _, rfl⟩ := Option.map_eq_some_iff.1 h
        rfl
theorem tget_some {kvs : List (Int × Value × PartR)} {k : Int} {p : PartR} (h : tget kvs k = some p) : ∃ vd, kget kvs k = some (vd, p) := by
  unfold tget at h
  obtain ⟨⟨vd, q⟩, hy, rfl⟩ := Option.map_eq_some_iff.1 h
  exact ⟨vd, hy⟩
theorem partF0 {a c d e v : Value} (w : World) : (Instr.field 127 (.agg #[a, c, d, e, v]) 0).run Tryz.prog w = .ok a w := by kernel_rfl
theorem partF1 {a c d e v : Value} (w : World) : (Instr.field 127 (.agg #[a, c, d, e, v]) 1).run Tryz.prog w = .ok c w := by kernel_rfl
set_option linter.unusedSimpArgs false in
set_option maxRecDepth 100000 in
set_option maxHeartbeats 4000000 in
theorem begins0_calls {gl gm : Nat} {l : LogR} {kvs : List (Int × Value × PartR)} (h : St b (HP.log gl gd l :: HP.disk gd d :: L) w) (hm : HP.tabM gm kvs ∈ L) (hd : HP.tabD kvs ∈ L) (hok : ∀ x ∈ kvs, x.2.2.ok) (hmost : d.last.length ≤ 256) :
    Calls Tryz.prog 64 #[.pointer (some ⟨gl, 0, none⟩), .map (some gm), .int .i64 0] w fun x w' => x = .returned (.int .i64 (beginR (tget kvs) 0 ((d.last.length : Int) / 2) : Nat)) ∧ St b (HP.log gl gd l :: HP.disk gd d :: L) w' := by
  have H := hide h
  have HM := hide hm
  have HD := hide hd
  have HOK := hide hok
  have HMO := hide hmost
  have hge2 : (d.last.length : Int) ≤ 256 := by omega
  have hge : (0 : Int) ≤ (d.last.length : Int) / 2 := by omega
  have okA : okInt 0 := by unfold okInt; exact WalkArith.wf_i64 (by omega)
  have hen : 0 + (d.last.length : Int) / 2 = (d.last.length : Int) / 2 := by omega
  clear h hm hd hok hmost
  rcases hr : recR (tget kvs) 0 ((d.last.length : Int) / 2) with _ | ⟨d0, n0⟩
  · have HBE : Hid (beginR (tget kvs) 0 ((d.last.length : Int) / 2) = 0) := hide (by unfold beginR; rw [hen, if_pos hr])
    have HR := hide hr
    clear hr hen okA
    go_enter Tryz.func64, Tryz.ntmps64
    go_wp2_with (first
      | (go_at_call 65; refine (lsize_calls H.out HMO.out).mono ?_; rintro x w1 ⟨rfl, hw1⟩; subst hw1)
      | (go_at_call 66; refine (record_calls (at' := 0) (en := (d.last.length : Int) / 2) H.out (up2 HM.out) (up2 HD.out) HOK.out (by omega) (by omega)).mono ?_; rintro z w4 (⟨d', n', v', hj', rfl, h4⟩ | ⟨hj', ⟨n', rfl⟩, h4⟩) ; (rw [HR.out] at hj'; cases hj'); have H4 := hide h4; clear h4 H))
    go_ret
    exact ⟨by rw [HBE.out]; rfl, H4.out⟩
  · obtain ⟨p, hT, -⟩ := recR_at hr
    obtain ⟨vd, hk⟩ := tget_some hT
    have hb : beginR (tget kvs) 0 ((d.last.length : Int) / 2) = (if p.rc = 0 then p.gen else 0) := by unfold beginR; rw [hen, if_neg (by rw [hr]; exact (nomatch ·)), hT]
    have HK := hide hk
    have HR := hide hr
    clear hr hen hT hk
    rcases Nat.eq_zero_or_pos p.rc with hz | hz
    · have f0 : ∀ (a c d e v : Value) (w : World), (Instr.field 127 (.agg #[a, c, d, e, v]) 0).run Tryz.prog w = .ok a w := fun _ _ _ _ _ _ => partF0 _
      have f1 : ∀ (a c d e v : Value) (w : World), (Instr.field 127 (.agg #[a, c, d, e, v]) 1).run Tryz.prog w = .ok c w := fun _ _ _ _ _ _ => partF1 _
      have HBE := hide (hb.trans (if_pos hz))
      have hzI : (p.rc : Int) = 0 := by omega
      have c2 : ((p.rc : Int) == 0) = true := by rw [hzI]; rfl
      have c2n : ((p.rc : Int) != 0) = false := by rw [hzI]; rfl
      clear hb hz
      go_enter Tryz.func64, Tryz.ntmps64
      go_wp2_with (first
        | (go_at_call 65; refine (lsize_calls H.out HMO.out).mono ?_; rintro x w1 ⟨rfl, hw1⟩; subst hw1)
        | (go_at_call 66; refine (record_calls (at' := 0) (en := (d.last.length : Int) / 2) H.out (up2 HM.out) (up2 HD.out) HOK.out (by omega) (by omega)).mono ?_; rintro z w4 (⟨d', n', v', hj', rfl, h4⟩ | ⟨hj', ⟨n', rfl⟩, h4⟩) ; rotate_left; (rw [HR.out] at hj'; cases hj'); clear hj'; obtain ⟨-, lk⟩ := h4.drop.tab_get (up2 HM.out) okA HK.out; unfold ag5 at lk;  have H4 := hide h4.drop; clear h4 H))
      go_ret
      exact ⟨by rw [HBE.out]; rfl, H4.out⟩
    · have f1 : ∀ (a c d e v : Value) (w : World), (Instr.field 127 (.agg #[a, c, d, e, v]) 1).run Tryz.prog w = .ok c w := fun _ _ _ _ _ _ => partF1 _
      have HBE := hide (hb.trans (if_neg (by omega)))
      have hzI : ¬ (p.rc : Int) = 0 := by omega
      have c2 : ((p.rc : Int) == 0) = false := by rw [beq_eq_false_iff_ne]; exact hzI
      have c2n : ((p.rc : Int) != 0) = true := by rw [bne, c2]; rfl
      clear hb hz
      go_enter Tryz.func64, Tryz.ntmps64
      go_wp2_with (first
        | (go_at_call 65; refine (lsize_calls H.out HMO.out).mono ?_; rintro x w1 ⟨rfl, hw1⟩; subst hw1)
        | (go_at_call 66; refine (record_calls (at' := 0) (en := (d.last.length : Int) / 2) H.out (up2 HM.out) (up2 HD.out) HOK.out (by omega) (by omega)).mono ?_; rintro z w4 (⟨d', n', v', hj', rfl, h4⟩ | ⟨hj', ⟨n', rfl⟩, h4⟩) ; rotate_left; (rw [HR.out] at hj'; cases hj'); clear hj'; obtain ⟨-, lk⟩ := h4.drop.tab_get (up2 HM.out) okA HK.out; unfold ag5 at lk;  have H4 := hide h4.drop; clear h4 H))
      go_ret
      exact ⟨by rw [HBE.out]; rfl, H4.out⟩
set_option linter.unusedSimpArgs false in
set_option maxRecDepth 100000 in
set_option maxHeartbeats 4000000 in
theorem begins1_calls {gl gm : Nat} {l : LogR} {kvs : List (Int × Value × PartR)} (h : St b (HP.log gl gd l :: HP.disk gd d :: L) w) (hm : HP.tabM gm kvs ∈ L) (hd : HP.tabD kvs ∈ L) (hok : ∀ x ∈ kvs, x.2.2.ok) (hmost : d.last.length ≤ 256) :
    Calls Tryz.prog 64 #[.pointer (some ⟨gl, 0, none⟩), .map (some gm), .int .i64 1] w fun x w' => x = .returned (.int .i64 (beginR (tget kvs) ((d.last.length : Int) / 2) ((d.last.length : Int) / 2) : Nat)) ∧ St b (HP.log gl gd l :: HP.disk gd d :: L) w' := by
  have H := hide h
  have HM := hide hm
  have HD := hide hd
  have HOK := hide hok
  have HMO := hide hmost
  have hge2 : (d.last.length : Int) ≤ 256 := by omega
  have hge : (0 : Int) ≤ (d.last.length : Int) / 2 := by omega
  have okA : okInt ((d.last.length : Int) / 2) := by unfold okInt; exact WalkArith.wf_i64 (by omega)
  have hen : ((d.last.length : Int) / 2) + (d.last.length : Int) / 2 = (d.last.length : Int) / 2 + (d.last.length : Int) / 2 := by omega
  clear h hm hd hok hmost
  rcases hr : recR (tget kvs) ((d.last.length : Int) / 2) ((d.last.length : Int) / 2 + (d.last.length : Int) / 2) with _ | ⟨d0, n0⟩
  · have HBE : Hid (beginR (tget kvs) ((d.last.length : Int) / 2) ((d.last.length : Int) / 2) = 0) := hide (by unfold beginR; rw [hen, if_pos hr])
    have HR := hide hr
    clear hr hen okA
    go_enter Tryz.func64, Tryz.ntmps64
    go_wp2_with (first
      | (go_at_call 65; refine (lsize_calls H.out HMO.out).mono ?_; rintro x w1 ⟨rfl, hw1⟩; subst hw1)
      | (go_at_call 66; refine (record_calls (at' := ((d.last.length : Int) / 2)) (en := (d.last.length : Int) / 2 + (d.last.length : Int) / 2) H.out (up2 HM.out) (up2 HD.out) HOK.out (by omega) (by omega)).mono ?_; rintro z w4 (⟨d', n', v', hj', rfl, h4⟩ | ⟨hj', ⟨n', rfl⟩, h4⟩) ; (rw [HR.out] at hj'; cases hj'); have H4 := hide h4; clear h4 H))
    go_ret
    exact ⟨by rw [HBE.out]; rfl, H4.out⟩
  · obtain ⟨p, hT, -⟩ := recR_at hr
    obtain ⟨vd, hk⟩ := tget_some hT
    have hb : beginR (tget kvs) ((d.last.length : Int) / 2) ((d.last.length : Int) / 2) = (if p.rc = 0 then p.gen else 0) := by unfold beginR; rw [hen, if_neg (by rw [hr]; exact (nomatch ·)), hT]
    have HK := hide hk
    have HR := hide hr
    clear hr hen hT hk
    rcases Nat.eq_zero_or_pos p.rc with hz | hz
    · have f0 : ∀ (a c d e v : Value) (w : World), (Instr.field 127 (.agg #[a, c, d, e, v]) 0).run Tryz.prog w = .ok a w := fun _ _ _ _ _ _ => partF0 _
      have f1 : ∀ (a c d e v : Value) (w : World), (Instr.field 127 (.agg #[a, c, d, e, v]) 1).run Tryz.prog w = .ok c w := fun _ _ _ _ _ _ => partF1 _
      have HBE := hide (hb.trans (if_pos hz))
      have hzI : (p.rc : Int) = 0 := by omega
      have c2 : ((p.rc : Int) == 0) = true := by rw [hzI]; rfl
      have c2n : ((p.rc : Int) != 0) = false := by rw [hzI]; rfl
      clear hb hz
      go_enter Tryz.func64, Tryz.ntmps64
      go_wp2_with (first
        | (go_at_call 65; refine (lsize_calls H.out HMO.out).mono ?_; rintro x w1 ⟨rfl, hw1⟩; subst hw1)
        | (go_at_call 66; refine (record_calls (at' := ((d.last.length : Int) / 2)) (en := (d.last.length : Int) / 2 + (d.last.length : Int) / 2) H.out (up2 HM.out) (up2 HD.out) HOK.out (by omega) (by omega)).mono ?_; rintro z w4 (⟨d', n', v', hj', rfl, h4⟩ | ⟨hj', ⟨n', rfl⟩, h4⟩) ; rotate_left; (rw [HR.out] at hj'; cases hj'); clear hj'; obtain ⟨-, lk⟩ := h4.drop.tab_get (up2 HM.out) okA HK.out; unfold ag5 at lk;  have H4 := hide h4.drop; clear h4 H))
      go_ret
      exact ⟨by rw [HBE.out]; rfl, H4.out⟩
    · have f1 : ∀ (a c d e v : Value) (w : World), (Instr.field 127 (.agg #[a, c, d, e, v]) 1).run Tryz.prog w = .ok c w := fun _ _ _ _ _ _ => partF1 _
      have HBE := hide (hb.trans (if_neg (by omega)))
      have hzI : ¬ (p.rc : Int) = 0 := by omega
      have c2 : ((p.rc : Int) == 0) = false := by rw [beq_eq_false_iff_ne]; exact hzI
      have c2n : ((p.rc : Int) != 0) = true := by rw [bne, c2]; rfl
      clear hb hz
      go_enter Tryz.func64, Tryz.ntmps64
      go_wp2_with (first
        | (go_at_call 65; refine (lsize_calls H.out HMO.out).mono ?_; rintro x w1 ⟨rfl, hw1⟩; subst hw1)
        | (go_at_call 66; refine (record_calls (at' := ((d.last.length : Int) / 2)) (en := (d.last.length : Int) / 2 + (d.last.length : Int) / 2) H.out (up2 HM.out) (up2 HD.out) HOK.out (by omega) (by omega)).mono ?_; rintro z w4 (⟨d', n', v', hj', rfl, h4⟩ | ⟨hj', ⟨n', rfl⟩, h4⟩) ; rotate_left; (rw [HR.out] at hj'; cases hj'); clear hj'; obtain ⟨-, lk⟩ := h4.drop.tab_get (up2 HM.out) okA HK.out; unfold ag5 at lk;  have H4 := hide h4.drop; clear h4 H))
      go_ret
      exact ⟨by rw [HBE.out]; rfl, H4.out⟩
end Go.Proofs.YtcgnkloljfgiaaaGreatDoor
