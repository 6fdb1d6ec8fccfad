/-
  package wal: Open.
-/
import Derived.Test.YtcgnkloljfgiaaaGreatDoorWn
import Derived.ScopeJumps
import Derived.WalkMore
import Derived.OwnWalk
namespace Go.Proofs.YtcgnkloljfgiaaaGreatDoor
open Go.RowKit Go.Maps Go.MapKept
variable {b : Env} {L : List HP} {w : World} {gd : Nat} {d : Dk}
theorem slBytes : SlT Tryz.prog 68 37 1 24 (.slice none 0 0) := ⟨Tryz.underlying68, by kernel_rfl, rfl, by decide, by decide⟩
theorem build_log (gd : Nat) (w : World) : (Instr.build 118 #[(0, .pointer (some ⟨gd, 0, none⟩))]).run Tryz.prog w = .ok (.agg #[.pointer (some ⟨gd, 0, none⟩), .int .i64 0, .int .i64 0, .int .i64 0, .int .i64 0, .int .i64 0]) w := by kernel_rfl
theorem run_lookup_op {P : Program} {o : Oper} {a : Act} {t : TypeId} {x i : Operand} {c : Bool} {m k v : Value} (ho : o.op = .lookup t x i c) (hx : a.eval x = m) (hi : a.eval i = k) (h : (Instr.lookup t m k c).run P w = .ok v w) : (execOp a.eval o).run P w = .ok (.value v) w := by simp [execOp, ho, hx, hi, h]
/-- The records of a log from a place on: (their bytes, the next free sector, the next record). -/
def walkL (T : Int → Option PartR) (fr en : Int) (gen : Nat) : Nat → Nat → Nat → List Byt × Nat × Nat
  | 0, next, rc => ([], next, rc)
  | f + 1, next, rc => match recR T (fr + next) en, T (fr + next) with
    | some (t, n), some p => if p.gen = gen ∧ p.rc = rc then (t :: (walkL T fr en gen f (next + n) (rc + 1)).1, (walkL T fr en gen f (next + n) (rc + 1)).2) else ([], next, rc)
    | _, _ => ([], next, rc)
def openR (d : Dk) : LogR × List Byt :=
  let T := tabR d d.last.length; let z := (d.last.length : Int) / 2
  let g0 := beginR T 0 z; let g1 := beginR T z z
  let gen := if g0 < g1 then g1 else g0; let half := if g0 < g1 then 1 else 0
  let M := mostK d 0 d.last.length
  if gen = 0 then (⟨0, 0, 0, 0, M⟩, [])
  else
    let q := walkL T ((half : Nat) * z) (((half : Nat) + 1) * z) gen 300 0 0
    (⟨gen, half, q.2.1, q.2.2, M⟩, q.1)
def lenOf : Value → Nat
  | .slice _ n _ => n
  | _ => 0
theorem recR_fit {T : Int → Option PartR} {at' en : Int} {x : Byt × Nat} (h : recR T at' en = some x) : at' + x.2 ≤ en := by
  obtain ⟨p, hp, hx⟩ := recR_at h
  unfold recR at h
  rw [hp] at h
  simp only [] at h
  by_cases hc : p.n ≠ 0 ∨ en < at' + p.of
  · rw [if_pos hc] at h; cases h
  · rw [hx]; omega
theorem wp_scope_once {P : Program} {a : Act} {w : World} {Q : Exit → Act → World → Prop} {c rest : Code} (l : Nat) (J : Act → World → Prop) (μ : Act → World → Nat) (hf : findLabel c l = some (Code.skip.seq rest))
    (pass : ∀ a w, J a w → rest.wp P (Exit.jump l (fun a' w' => J a' w' ∧ μ a' w' < μ a w) Q) a w)
    (first : (∀ a w, J a w → rest.wp P (Exit.jump l J Q) a w) → c.wp P (Exit.jump l J Q) a w) : (Code.scope c).wp P Q a w := by
  refine wp_scope_jumps l J μ hf (first (fun a w h => wp_mono (pass a w h) ?_)) (fun a w h => wp_seq (wp_skip (pass a w h)))
  intro e a' w' hq
  cases e with
  | goto l' => exact ⟨hq.1, hq.2.1⟩
  | normal => exact hq
  | exit id => exact hq
  | ret => exact hq
  | panic ch => exact hq
  | outgrown => exact hq
def OpAt (b : Env) (L : List HP) (gd : Nat) (d : Dk) (T : Int → Option PartR) (fr en : Int) (G hf M : Nat) (Q : List Byt × Nat × Nat) (a : Act) (wr : World) : Prop :=
  ∃ (f next rc : Nat) (recs : List Byt) (b3 : Option Addr) (n3 c3 gl gm : Nat) (kvs : List (Int × Value × PartR)) (u : Nat → Value),
    a = { tmps := List.toArray (.pointer (some ⟨gd, 0, none⟩) :: undef :: .pointer (some ⟨gl, 0, none⟩) :: .slice b3 n3 c3 :: .int .i64 0 :: .map (some gm) :: u 6 :: .int .i64 fr :: .int .i64 en :: u 9 :: u 10 :: u 11 :: u 12 :: u 13 :: u 14 :: u 15 :: u 16 :: u 17 :: u 18 :: u 19 :: u 20 :: u 21 :: u 22 :: u 23 :: u 24 :: u 25 :: u 26 :: u 27 :: u 28 :: u 29 :: u 30 :: u 31 :: u 32 :: u 33 :: u 34 :: u 35 :: u 36 :: u 37 :: u 38 :: u 39 :: u 40 :: u 41 :: u 42 :: u 43 :: u 44 :: u 45 :: u 46 :: u 47 :: u 48 :: u 49 :: u 50 :: u 51 :: u 52 :: u 53 :: u 54 :: u 55 :: u 56 :: u 57 :: u 58 :: u 59 :: u 60 :: u 61 :: u 62 :: u 63 :: u 64 :: u 65 :: u 66 :: u 67 :: u 68 :: u 69 :: u 70 :: u 71 :: u 72 :: u 73 :: u 74 :: u 75 :: u 76 :: u 77 :: u 78 :: u 79 :: u 80 :: u 81 :: u 82 :: u 83 :: u 84 :: u 85 :: u 86 :: u 87 :: u 88 :: u 89 :: u 90 :: u 91 :: u 92 :: u 93 :: u 94 :: u 95 :: u 96 :: u 97 :: u 98 :: u 99 :: u 100 :: u 101 :: u 102 :: u 103 :: u 104 :: u 105 :: u 106 :: u 107 :: u 108 :: u 109 :: u 110 :: u 111 :: u 112 :: u 113 :: u 114 :: u 115 :: u 116 :: u 117 :: u 118 :: u 119 :: u 120 :: u 121 :: u 122 :: u 123 :: u 124 :: []), defers := [] } ∧
    (G ≠ 0 ∧ tget kvs = T ∧ (∀ x ∈ kvs, x.2.2.ok) ∧ n3 = recs.length ∧ recs.length = rc ∧ rc ≤ next ∧ (0 ≤ fr ∧ fr + next ≤ en ∧ en ≤ 256) ∧ en - (fr + next) < f ∧ Q = (recs ++ (walkL T fr en G f next rc).1, (walkL T fr en G f next rc).2)) ∧
    St b (HP.log gl gd ⟨G, hf, next, rc, M⟩ :: HP.disk gd d :: HP.tabM gm kvs :: HP.tabD kvs :: HP.rows 37 byteE.in (.slice b3 n3 c3) recs :: L) wr
theorem OpAt.put {b : Env} {L : List HP} {gd : Nat} {d : Dk} {T : Int → Option PartR} {fr en : Int} {G hf M : Nat} {Q : List Byt × Nat × Nat} {a : Act} {wr : World}
    (f next rc : Nat) (recs : List Byt) (b3 : Option Addr) (n3 c3 gl gm : Nat) (kvs : List (Int × Value × PartR))
    (ha : a = { tmps := List.toArray (.pointer (some ⟨gd, 0, none⟩) :: undef :: .pointer (some ⟨gl, 0, none⟩) :: .slice b3 n3 c3 :: .int .i64 0 :: .map (some gm) :: a.tmps.getD 6 undef :: .int .i64 fr :: .int .i64 en :: a.tmps.getD 9 undef :: a.tmps.getD 10 undef :: a.tmps.getD 11 undef :: a.tmps.getD 12 undef :: a.tmps.getD 13 undef :: a.tmps.getD 14 undef :: a.tmps.getD 15 undef :: a.tmps.getD 16 undef :: a.tmps.getD 17 undef :: a.tmps.getD 18 undef :: a.tmps.getD 19 undef :: a.tmps.getD 20 undef :: a.tmps.getD 21 undef :: a.tmps.getD 22 undef :: a.tmps.getD 23 undef :: a.tmps.getD 24 undef :: a.tmps.getD 25 undef :: a.tmps.getD 26 undef :: a.tmps.getD 27 undef :: a.tmps.getD 28 undef :: a.tmps.getD 29 undef :: a.tmps.getD 30 undef :: a.tmps.getD 31 undef :: a.tmps.getD 32 undef :: a.tmps.getD 33 undef :: a.tmps.getD 34 undef :: a.tmps.getD 35 undef :: a.tmps.getD 36 undef :: a.tmps.getD 37 undef :: a.tmps.getD 38 undef :: a.tmps.getD 39 undef :: a.tmps.getD 40 undef :: a.tmps.getD 41 undef :: a.tmps.getD 42 undef :: a.tmps.getD 43 undef :: a.tmps.getD 44 undef :: a.tmps.getD 45 undef :: a.tmps.getD 46 undef :: a.tmps.getD 47 undef :: a.tmps.getD 48 undef :: a.tmps.getD 49 undef :: a.tmps.getD 50 undef :: a.tmps.getD 51 undef :: a.tmps.getD 52 undef :: a.tmps.getD 53 undef :: a.tmps.getD 54 undef :: a.tmps.getD 55 undef :: a.tmps.getD 56 undef :: a.tmps.getD 57 undef :: a.tmps.getD 58 undef :: a.tmps.getD 59 undef :: a.tmps.getD 60 undef :: a.tmps.getD 61 undef :: a.tmps.getD 62 undef :: a.tmps.getD 63 undef :: a.tmps.getD 64 undef :: a.tmps.getD 65 undef :: a.tmps.getD 66 undef :: a.tmps.getD 67 undef :: a.tmps.getD 68 undef :: a.tmps.getD 69 undef :: a.tmps.getD 70 undef :: a.tmps.getD 71 undef :: a.tmps.getD 72 undef :: a.tmps.getD 73 undef :: a.tmps.getD 74 undef :: a.tmps.getD 75 undef :: a.tmps.getD 76 undef :: a.tmps.getD 77 undef :: a.tmps.getD 78 undef :: a.tmps.getD 79 undef :: a.tmps.getD 80 undef :: a.tmps.getD 81 undef :: a.tmps.getD 82 undef :: a.tmps.getD 83 undef :: a.tmps.getD 84 undef :: a.tmps.getD 85 undef :: a.tmps.getD 86 undef :: a.tmps.getD 87 undef :: a.tmps.getD 88 undef :: a.tmps.getD 89 undef :: a.tmps.getD 90 undef :: a.tmps.getD 91 undef :: a.tmps.getD 92 undef :: a.tmps.getD 93 undef :: a.tmps.getD 94 undef :: a.tmps.getD 95 undef :: a.tmps.getD 96 undef :: a.tmps.getD 97 undef :: a.tmps.getD 98 undef :: a.tmps.getD 99 undef :: a.tmps.getD 100 undef :: a.tmps.getD 101 undef :: a.tmps.getD 102 undef :: a.tmps.getD 103 undef :: a.tmps.getD 104 undef :: a.tmps.getD 105 undef :: a.tmps.getD 106 undef :: a.tmps.getD 107 undef :: a.tmps.getD 108 undef :: a.tmps.getD 109 undef :: a.tmps.getD 110 undef :: a.tmps.getD 111 undef :: a.tmps.getD 112 undef :: a.tmps.getD 113 undef :: a.tmps.getD 114 undef :: a.tmps.getD 115 undef :: a.tmps.getD 116 undef :: a.tmps.getD 117 undef :: a.tmps.getD 118 undef :: a.tmps.getD 119 undef :: a.tmps.getD 120 undef :: a.tmps.getD 121 undef :: a.tmps.getD 122 undef :: a.tmps.getD 123 undef :: a.tmps.getD 124 undef :: []), defers := [] })
    (hfc : (G ≠ 0 ∧ tget kvs = T ∧ (∀ x ∈ kvs, x.2.2.ok) ∧ n3 = recs.length ∧ recs.length = rc ∧ rc ≤ next ∧ (0 ≤ fr ∧ fr + next ≤ en ∧ en ≤ 256) ∧ en - (fr + next) < f ∧ Q = (recs ++ (walkL T fr en G f next rc).1, (walkL T fr en G f next rc).2)))
    (hs : St b (HP.log gl gd ⟨G, hf, next, rc, M⟩ :: HP.disk gd d :: HP.tabM gm kvs :: HP.tabD kvs :: HP.rows 37 byteE.in (.slice b3 n3 c3) recs :: L) wr) : OpAt b L gd d T fr en G hf M Q a wr :=
  ⟨f, next, rc, recs, b3, n3, c3, gl, gm, kvs, fun i => a.tmps.getD i undef, ha, hfc, hs⟩
set_option linter.unusedSimpArgs false in
set_option maxRecDepth 100000 in
set_option maxHeartbeats 4000000 in
theorem open_calls (h : St b (HP.disk gd d :: L) w) (hg : d.Good) (hdead : d.dead = false) :
    Calls Tryz.prog 37 #[.pointer (some ⟨gd, 0, none⟩)] w fun x w' => ∃ gl v, x = .returned (.tuple #[.pointer (some ⟨gl, 0, none⟩), v, .int .i64 0]) ∧
      St b (HP.log gl gd (openR d).1 :: HP.disk gd d :: HP.rows 37 byteE.in v (openR d).2 :: L) w' := by
  have hmost := hg.fine.ok.most
  have hNI : (d.last.length : Int) ≤ 256 := by omega
  have hbl : ∀ (w : World), (Instr.build 118 #[(0, .pointer (some ⟨gd, 0, none⟩))]).run Tryz.prog w = .ok (.agg #[.pointer (some ⟨gd, 0, none⟩), .int .i64 0, .int .i64 0, .int .i64 0, .int .i64 0, .int .i64 0]) w := build_log gd
  have H := hide h
  have HG := hide hg
  have HDE := hide hdead
  have HMO := hide hmost
  obtain ⟨M, hM⟩ : ∃ M, mostK d 0 d.last.length = M := ⟨_, rfl⟩
  obtain ⟨g0, hg0⟩ : ∃ g, beginR (tabR d d.last.length) 0 ((d.last.length : Int) / 2) = g := ⟨_, rfl⟩
  obtain ⟨g1, hg1⟩ : ∃ g, beginR (tabR d d.last.length) ((d.last.length : Int) / 2) ((d.last.length : Int) / 2) = g := ⟨_, rfl⟩
  have hml := mostK_le (d := d) (m := 0) (by omega) d.last.length
  rw [hM] at hml
  have hMI : (M : Int) ≤ 4294967295 := by omega
  have HM := hide hM
  have HG0 := hide hg0
  have HG1 := hide hg1
  have hop : openR d = (if (if g0 < g1 then g1 else g0) = 0 then (⟨0, 0, 0, 0, M⟩, []) else (⟨(if g0 < g1 then g1 else g0), (if g0 < g1 then 1 else 0), (walkL (tabR d d.last.length) (((if g0 < g1 then 1 else 0 : Nat) : Int) * ((d.last.length : Int) / 2)) ((((if g0 < g1 then 1 else 0 : Nat) : Int) + 1) * ((d.last.length : Int) / 2)) (if g0 < g1 then g1 else g0) 300 0 0).2.1, (walkL (tabR d d.last.length) (((if g0 < g1 then 1 else 0 : Nat) : Int) * ((d.last.length : Int) / 2)) ((((if g0 < g1 then 1 else 0 : Nat) : Int) + 1) * ((d.last.length : Int) / 2)) (if g0 < g1 then g1 else g0) 300 0 0).2.2, M⟩, (walkL (tabR d d.last.length) (((if g0 < g1 then 1 else 0 : Nat) : Int) * ((d.last.length : Int) / 2)) ((((if g0 < g1 then 1 else 0 : Nat) : Int) + 1) * ((d.last.length : Int) / 2)) (if g0 < g1 then g1 else g0) 300 0 0).1)) := by
    unfold openR; simp only [hg0, hg1, hM]
  clear h hg hdead hmost hml hM hg0 hg1
  obtain ⟨G, hG⟩ : ∃ G, (if g0 < g1 then g1 else g0) = G := ⟨_, rfl⟩
  obtain ⟨hf, hhf⟩ : ∃ G : Nat, (if g0 < g1 then 1 else 0 : Nat) = G := ⟨_, rfl⟩
  obtain ⟨q, hq⟩ : ∃ q, walkL (tabR d d.last.length) ((hf : Nat) * ((d.last.length : Int) / 2)) (((hf : Nat) + 1) * ((d.last.length : Int) / 2)) G 300 0 0 = q := ⟨_, rfl⟩
  rw [hG, hhf, hq] at hop
  obtain ⟨fr, hfr⟩ : ∃ x, ((hf : Nat) : Int) * ((d.last.length : Int) / 2) = x := ⟨_, rfl⟩
  obtain ⟨en, hen⟩ : ∃ x, (((hf : Nat) : Int) + 1) * ((d.last.length : Int) / 2) = x := ⟨_, rfl⟩
  rw [hfr, hen] at hq
  have HOP := hide hop
  have HQ0 := hide hq
  clear hop hq
  have HFE := hide (And.intro hfr hen)
  clear hfr hen
  go_enter Tryz.func37, Tryz.ntmps37
  go_wp2_with fail
  refine wp_scope_once 0 (OpAt b L gd d (tabR d d.last.length) fr en G hf M q) (fun a _ => 300 - lenOf (a.tmps.getD 3 undef)) rfl ?_ ?_
  · rintro a w ⟨f, next, rc, recs, b3, n3, c3, gl, gm, kvs, u, rfl, ⟨hgz, htf, hok, hn3, hrc, hrn, ⟨hfr, hfe, hen⟩, hfu, hq⟩, h1⟩
    change Code.wp _ _ (Exit.jump 0 (fun a' w' => OpAt b L gd d (tabR d d.last.length) fr en G hf M q a' w' ∧ 300 - lenOf (a'.tmps.getD 3 undef) < 300 - n3) _) _ _
    have HGZ := hide hgz
    have HTF := hide htf
    have HOK := hide hok
    have HQ := hide hq
    have HN3 := hide hn3
    have x3 : w.cell? ⟨gl, 3, none⟩ = some (.int .i64 (next : Nat)) := h1.blk_cell mem0 3
    have H1 := hide h1
    clear h1 htf hok hq hn3 hgz
    rcases hr : recR (tabR d d.last.length) (fr + next) en with _ | ⟨t, n⟩
    · have HR := hide hr
      have HW : Hid (walkL (tabR d d.last.length) fr en G f next rc = ([], next, rc)) := hide (by cases f with | zero => rfl | succ f => simp only [walkL, hr])
      clear hr
      go_wp2_with (first
        | (go_at_call 66; refine (record_calls (at' := fr + next) (en := en) H1.out mem2 mem3 HOK.out (by omega) (by omega)).mono ?_; rintro z w2 (⟨d2, n2, v2, hj, rfl, h2⟩ | ⟨hj, ⟨n2, rfl⟩, h2⟩); (rw [HTF.out, HR.out] at hj; cases hj); clear hj; have H2 := hide h2; clear h2 H1))
      refine wp_region_held_drew (S := fun w' => w'.cell? ⟨gl, 1, none⟩ = some (.int .i64 (G : Nat)) ∧ w'.cell? ⟨gl, 4, none⟩ = some (.int .i64 (rc : Nat)) ∧ St b (HP.log gl gd ⟨G, hf, next, rc, M⟩ :: HP.disk gd d :: HP.tabM gm kvs :: HP.tabD kvs :: HP.rows 37 byteE.in (.slice b3 n3 c3) recs :: L) w') (by kernel_rfl) ?_ (fun hHeld => ?_)
      · exact ⟨H2.out.drew.blk_cell mem0 1, H2.out.drew.blk_cell mem0 4, H2.out.drew⟩
      refine wpAnyH_takeD (i := 0) (some 81) (v := ?v0_35) rfl rfl (by kernel_rfl) (by kernel_rfl) (by kernel_rfl) (fun _ _ _ h => h) (by rfl) ?y0_35 (by assumption) ?r0_35
      case y0_35 => (intro w hSw; (try dsimp only at hSw); first | (go_simp; done) | (go_simp; with_reducible rfl))
      try simp only [Act.put, List.setIfInBounds_toArray, List.set_cons_zero, List.set_cons_succ]
      refine wpAnyH_takeD (i := 1) (some 82) (v := ?v1_36) rfl rfl (by kernel_rfl) (by kernel_rfl) (by kernel_rfl) (fun _ _ _ h => h) (by rfl) ?y1_36 (by assumption) ?r1_36
      case y1_36 => (intro w hSw; (try dsimp only at hSw); first | (go_simp; done) | (go_simp; with_reducible rfl))
      try simp only [Act.put, List.setIfInBounds_toArray, List.set_cons_zero, List.set_cons_succ]
      refine wpAnyH_skipD (i := 2) (some 83) rfl rfl (by kernel_rfl) (by kernel_rfl) (by kernel_rfl) (fun _ _ _ h => h) (by rfl) (by assumption) ?r2_37
      try simp only [Act.put, List.setIfInBounds_toArray, List.set_cons_zero, List.set_cons_succ]
      refine wpAnyH_skipD (i := 3) (some 84) rfl rfl (by kernel_rfl) (by kernel_rfl) (by kernel_rfl) (fun _ _ _ h => h) (by rfl) (by assumption) ?r3_38
      try simp only [Act.put, List.setIfInBounds_toArray, List.set_cons_zero, List.set_cons_succ]
      refine wpAnyH_skipD (i := 4) (some 85) rfl rfl (by kernel_rfl) (by kernel_rfl) (by kernel_rfl) (fun _ _ _ h => h) (by rfl) (by assumption) ?r4_39
      try simp only [Act.put, List.setIfInBounds_toArray, List.set_cons_zero, List.set_cons_succ]
      refine wpAnyH_skipD (i := 5) (some 86) rfl rfl (by kernel_rfl) (by kernel_rfl) (by kernel_rfl) (fun _ _ _ h => h) (by rfl) (by assumption) ?r5_40
      try simp only [Act.put, List.setIfInBounds_toArray, List.set_cons_zero, List.set_cons_succ]
      refine wpAnyH_skipD (i := 6) (some 87) rfl rfl (by kernel_rfl) (by kernel_rfl) (by kernel_rfl) (fun _ _ _ h => h) (by rfl) (by assumption) ?r6_41
      try simp only [Act.put, List.setIfInBounds_toArray, List.set_cons_zero, List.set_cons_succ]
      refine wpAnyH_skipD (i := 7) (some 88) rfl rfl (by kernel_rfl) (by kernel_rfl) (by kernel_rfl) (fun _ _ _ h => h) (by rfl) (by assumption) ?r7_42
      try simp only [Act.put, List.setIfInBounds_toArray, List.set_cons_zero, List.set_cons_succ]
      refine wpAnyH_skipD (i := 8) (some 89) rfl rfl (by kernel_rfl) (by kernel_rfl) (by kernel_rfl) (fun _ _ _ h => h) (by rfl) (by assumption) ?r8_43
      try simp only [Act.put, List.setIfInBounds_toArray, List.set_cons_zero, List.set_cons_succ]
      refine wpAnyH_skipD (i := 9) (some 90) rfl rfl (by kernel_rfl) (by kernel_rfl) (by kernel_rfl) (fun _ _ _ h => h) (by rfl) (by assumption) ?r9_44
      try simp only [Act.put, List.setIfInBounds_toArray, List.set_cons_zero, List.set_cons_succ]
      refine wpAnyH_skipD (i := 10) (some 91) rfl rfl (by kernel_rfl) (by kernel_rfl) (by kernel_rfl) (fun _ _ _ h => h) (by rfl) (by assumption) ?r10_45
      try simp only [Act.put, List.setIfInBounds_toArray, List.set_cons_zero, List.set_cons_succ]
      refine wpAnyH_takeD (i := 11) (some 92) (v := ?v11_46) rfl rfl (by kernel_rfl) (by kernel_rfl) (by kernel_rfl) (fun _ _ _ h => h) (by rfl) ?y11_46 (by assumption) ?r11_46
      case y11_46 => (intro w hSw; (try dsimp only at hSw); first | (go_simp; done) | (go_simp; with_reducible rfl))
      try simp only [Act.put, List.setIfInBounds_toArray, List.set_cons_zero, List.set_cons_succ]
      refine wpAnyH_takeD (i := 12) (some 93) (v := ?v12_47) rfl rfl (by kernel_rfl) (by kernel_rfl) (by kernel_rfl) (fun _ _ _ h => h) (by rfl) ?y12_47 (by assumption) ?r12_47
      case y12_47 => (intro w hSw; (try dsimp only at hSw); first | (go_simp; done) | (go_simp; with_reducible rfl))
      try simp only [Act.put, List.setIfInBounds_toArray, List.set_cons_zero, List.set_cons_succ]
      refine wpAnyH_skipD (i := 13) (some 94) rfl rfl (by kernel_rfl) (by kernel_rfl) (by kernel_rfl) (fun _ _ _ h => h) (by rfl) (by assumption) ?r13_48
      try simp only [Act.put, List.setIfInBounds_toArray, List.set_cons_zero, List.set_cons_succ]
      refine wpAnyH_skipD (i := 14) (some 95) rfl rfl (by kernel_rfl) (by kernel_rfl) (by kernel_rfl) (fun _ _ _ h => h) (by rfl) (by assumption) ?r14_49
      try simp only [Act.put, List.setIfInBounds_toArray, List.set_cons_zero, List.set_cons_succ]
      refine wpAnyH_skipD (i := 15) (some 96) rfl rfl (by kernel_rfl) (by kernel_rfl) (by kernel_rfl) (fun _ _ _ h => h) (by rfl) (by assumption) ?r15_50
      try simp only [Act.put, List.setIfInBounds_toArray, List.set_cons_zero, List.set_cons_succ]
      refine wpAnyH_skipD (i := 16) (some 97) rfl rfl (by kernel_rfl) (by kernel_rfl) (by kernel_rfl) (fun _ _ _ h => h) (by rfl) (by assumption) ?r16_51
      try simp only [Act.put, List.setIfInBounds_toArray, List.set_cons_zero, List.set_cons_succ]
      refine wpAnyH_skipD (i := 17) (some 98) rfl rfl (by kernel_rfl) (by kernel_rfl) (by kernel_rfl) (fun _ _ _ h => h) (by rfl) (by assumption) ?r17_52
      try simp only [Act.put, List.setIfInBounds_toArray, List.set_cons_zero, List.set_cons_succ]
      refine wpAnyH_skipD (i := 18) (some 99) rfl rfl (by kernel_rfl) (by kernel_rfl) (by kernel_rfl) (fun _ _ _ h => h) (by rfl) (by assumption) ?r18_53
      try simp only [Act.put, List.setIfInBounds_toArray, List.set_cons_zero, List.set_cons_succ]
      refine wpAnyH_skipD (i := 19) (some 100) rfl rfl (by kernel_rfl) (by kernel_rfl) (by kernel_rfl) (fun _ _ _ h => h) (by rfl) (by assumption) ?r19_54
      try simp only [Act.put, List.setIfInBounds_toArray, List.set_cons_zero, List.set_cons_succ]
      refine wpAnyH_skipD (i := 20) (some 101) rfl rfl (by kernel_rfl) (by kernel_rfl) (by kernel_rfl) (fun _ _ _ h => h) (by rfl) (by assumption) ?r20_55
      try simp only [Act.put, List.setIfInBounds_toArray, List.set_cons_zero, List.set_cons_succ]
      refine wpAnyH_skipD (i := 21) (some 102) rfl rfl (by kernel_rfl) (by kernel_rfl) (by kernel_rfl) (fun _ _ _ h => h) (by rfl) (by assumption) ?r21_56
      try simp only [Act.put, List.setIfInBounds_toArray, List.set_cons_zero, List.set_cons_succ]
      refine wpAnyH_takeD (i := 22) (some 103) (v := ?v22_57) rfl rfl (by kernel_rfl) (by kernel_rfl) (by kernel_rfl) (fun _ _ _ h => h) (by rfl) ?y22_57 (by assumption) ?r22_57
      case y22_57 => (intro w hSw; (try dsimp only at hSw); first | (go_simp; done) | (go_simp; with_reducible rfl))
      try simp only [Act.put, List.setIfInBounds_toArray, List.set_cons_zero, List.set_cons_succ]
      refine wpAnyH_done (by kernel_rfl) ?_ _
      go_wp2_with fail
      simp only [Exit.jump]
      go_ret3
      exact ⟨gl, _, rfl, by rw [HOP.out, if_neg HGZ.out, HQ.out, HW.out, List.append_nil]; exact (hHeld.2.2.pick [0, 1, 4] 5 (by decide) (by decide) (by simp))⟩
    · have HR := hide hr
      obtain ⟨p, hT, hpn⟩ := recR_at hr
      obtain ⟨vd, hk⟩ := tget_some (kvs := kvs) (by rw [HTF.out]; exact hT)
      have hnn : n = p.of := hpn
      have hnf : fr + next + (n : Int) ≤ en := recR_fit hr
      have hp1 : 1 ≤ p.of ∧ p.of ≤ 255 := ⟨(HOK.out _ (kget_in hk)).2.2.2.1, (HOK.out _ (kget_in hk)).2.2.2.2.1⟩
      subst hnn
      clear hpn
      have HK := hide hk
      have OKA := hide (show okInt (fr + next) by unfold okInt; exact WalkArith.wf_i64 (by omega))
      have f0 : ∀ (a c d e v : Value) (w : World), (Instr.field 127 (.agg #[a, c, d, e, v]) 0).run Tryz.prog w = .ok a w := fun _ _ _ _ _ _ => partF0 _
      have f1 : ∀ (a c d e v : Value) (w : World), (Instr.field 127 (.agg #[a, c, d, e, v]) 1).run Tryz.prog w = .ok c w := fun _ _ _ _ _ _ => partF1 _
      rcases hE1 : decide (p.gen = G) with _ | _
      · have hne := of_decide_eq_false hE1
        have hb1 : ((p.gen : Int) == (G : Int)) = false := by rw [beq_eq_false_iff_ne]; omega
        have HW : Hid (walkL (tabR d d.last.length) fr en G f next rc = ([], next, rc)) := hide (by cases f with | zero => rfl | succ f => simp only [walkL, hr, hT]; rw [if_neg (fun h => hne h.1)])
        clear hr hT hk hne hE1
        go_wp2_with (first
          | (go_at_call 66; refine (record_calls (at' := fr + next) (en := en) H1.out mem2 mem3 HOK.out (by omega) (by omega)).mono ?_; rintro z w2 (⟨d2, n2, v2, hj, rfl, h2⟩ | ⟨hj, ⟨n2, rfl⟩, h2⟩); rotate_left; (rw [HTF.out, HR.out] at hj; cases hj); rw [HTF.out, HR.out] at hj; cases hj; obtain ⟨b5, c5, rfl, -⟩ := h2.sl_form mem0; have H2 := hide h2; clear h2 H1))
        refine wp_region_held_drew (S := fun w' => w'.cell? ⟨gl, 1, none⟩ = some (.int .i64 (G : Nat)) ∧ w'.cell? ⟨gl, 4, none⟩ = some (.int .i64 (rc : Nat)) ∧ St b (HP.sl byteE (.slice b5 t.length c5) t :: HP.log gl gd ⟨G, hf, next, rc, M⟩ :: HP.disk gd d :: HP.tabM gm kvs :: HP.tabD kvs :: HP.rows 37 byteE.in (.slice b3 n3 c3) recs :: L) w') (by kernel_rfl) ?_ (fun hHeld => ?_)
        · exact ⟨H2.out.drew.blk_cell mem1 1, H2.out.drew.blk_cell mem1 4, H2.out.drew⟩
        refine wpAnyH_takeD (i := 0) (some 81) (v := ?v0_58) rfl rfl (by kernel_rfl) (by kernel_rfl) (by kernel_rfl) (fun _ _ _ h => h) (by rfl) ?y0_58 (by assumption) ?r0_58
        case y0_58 => (intro w hSw; (try dsimp only at hSw); first | (go_simp; done) | (go_simp; with_reducible rfl))
        try simp only [Act.put, List.setIfInBounds_toArray, List.set_cons_zero, List.set_cons_succ]
        refine wpAnyH_takeD (i := 1) (some 82) (v := ?v1_59) rfl rfl (by kernel_rfl) (by kernel_rfl) (by kernel_rfl) (fun _ _ _ h => h) (by rfl) ?y1_59 (by assumption) ?r1_59
        case y1_59 => (intro w hSw; (try dsimp only at hSw); first | (go_simp; done) | (go_simp; with_reducible rfl))
        try simp only [Act.put, List.setIfInBounds_toArray, List.set_cons_zero, List.set_cons_succ]
        refine wpAnyH_takeD (i := 2) (some 83) (v := ?v2_60) rfl rfl (by kernel_rfl) (by kernel_rfl) (by kernel_rfl) (fun _ _ _ h => h) (by rfl) ?y2_60 (by assumption) ?r2_60
        case y2_60 => (intro w hSw; (try dsimp only at hSw); first | (go_simp; done) | (go_simp; with_reducible rfl))
        try simp only [Act.put, List.setIfInBounds_toArray, List.set_cons_zero, List.set_cons_succ]
        refine wpAnyH_takeD (i := 3) (some 84) (v := ?v3_61) rfl rfl (by kernel_rfl) (by kernel_rfl) (by kernel_rfl) (fun _ _ _ h => h) (by rfl) ?y3_61 (by assumption) ?r3_61
        case y3_61 => (intro w hSw; (try dsimp only at hSw); first | (go_simp; done) | (go_simp; with_reducible rfl))
        try simp only [Act.put, List.setIfInBounds_toArray, List.set_cons_zero, List.set_cons_succ]
        refine wpAnyH_takeD (i := 4) (some 85) (v := .agg #[.int .i64 (p.gen : Nat), .int .i64 (p.rc : Nat), .int .i64 (p.n : Nat), .int .i64 (p.of : Nat), vd]) rfl rfl (by kernel_rfl) (by kernel_rfl) (by kernel_rfl) (fun _ _ _ h => h) (by rfl) ?y4_62 (by assumption) ?r4_62
        case y4_62 => (intro w hSw; exact run_lookup_op (x := .tmp 83) (i := .tmp 84) rfl rfl rfl (hSw.2.2.tab_get mem3 OKA.out HK.out).2)
        try simp only [Act.put, List.setIfInBounds_toArray, List.set_cons_zero, List.set_cons_succ]
        refine wpAnyH_takeD (i := 5) (some 86) (v := ?v5_63) rfl rfl (by kernel_rfl) (by kernel_rfl) (by kernel_rfl) (fun _ _ _ h => h) (by rfl) ?y5_63 (by assumption) ?r5_63
        case y5_63 => (intro w hSw; (try dsimp only at hSw); first | (go_simp; done) | (go_simp; with_reducible rfl))
        try simp only [Act.put, List.setIfInBounds_toArray, List.set_cons_zero, List.set_cons_succ]
        refine wpAnyH_takeD (i := 6) (some 87) (v := ?v6_64) rfl rfl (by kernel_rfl) (by kernel_rfl) (by kernel_rfl) (fun _ _ _ h => h) (by rfl) ?y6_64 (by assumption) ?r6_64
        case y6_64 => (intro w hSw; (try dsimp only at hSw); first | (go_simp; done) | (go_simp; with_reducible rfl))
        try simp only [Act.put, List.setIfInBounds_toArray, List.set_cons_zero, List.set_cons_succ]
        refine wpAnyH_takeD (i := 7) (some 88) (v := ?v7_65) rfl rfl (by kernel_rfl) (by kernel_rfl) (by kernel_rfl) (fun _ _ _ h => h) (by rfl) ?y7_65 (by assumption) ?r7_65
        case y7_65 => (intro w hSw; (try dsimp only at hSw); first | (go_simp; done) | (go_simp; with_reducible rfl))
        try simp only [Act.put, List.setIfInBounds_toArray, List.set_cons_zero, List.set_cons_succ]
        refine wpAnyH_takeD (i := 8) (some 89) (v := ?v8_66) rfl rfl (by kernel_rfl) (by kernel_rfl) (by kernel_rfl) (fun _ _ _ h => h) (by rfl) ?y8_66 (by assumption) ?r8_66
        case y8_66 => (intro w hSw; (try dsimp only at hSw); first | (go_simp; done) | (go_simp; with_reducible rfl))
        try simp only [Act.put, List.setIfInBounds_toArray, List.set_cons_zero, List.set_cons_succ]
        refine wpAnyH_takeD (i := 9) (some 90) (v := ?v9_67) rfl rfl (by kernel_rfl) (by kernel_rfl) (by kernel_rfl) (fun _ _ _ h => h) (by rfl) ?y9_67 (by assumption) ?r9_67
        case y9_67 => (intro w hSw; (try dsimp only at hSw); first | (go_simp; done) | (go_simp; with_reducible rfl))
        try simp only [Act.put, List.setIfInBounds_toArray, List.set_cons_zero, List.set_cons_succ]
        refine wpAnyH_takeD (i := 10) (some 91) (v := ?v10_68) rfl rfl (by kernel_rfl) (by kernel_rfl) (by kernel_rfl) (fun _ _ _ h => h) (by rfl) ?y10_68 (by assumption) ?r10_68
        case y10_68 => (intro w hSw; (try dsimp only at hSw); first | (go_simp; done) | (go_simp; with_reducible rfl))
        try simp only [Act.put, List.setIfInBounds_toArray, List.set_cons_zero, List.set_cons_succ]
        refine wpAnyH_takeD (i := 11) (some 92) (v := ?v11_69) rfl rfl (by kernel_rfl) (by kernel_rfl) (by kernel_rfl) (fun _ _ _ h => h) (by rfl) ?y11_69 (by assumption) ?r11_69
        case y11_69 => (intro w hSw; (try dsimp only at hSw); first | (go_simp; done) | (go_simp; with_reducible rfl))
        try simp only [Act.put, List.setIfInBounds_toArray, List.set_cons_zero, List.set_cons_succ]
        refine wpAnyH_takeD (i := 12) (some 93) (v := ?v12_70) rfl rfl (by kernel_rfl) (by kernel_rfl) (by kernel_rfl) (fun _ _ _ h => h) (by rfl) ?y12_70 (by assumption) ?r12_70
        case y12_70 => (intro w hSw; (try dsimp only at hSw); first | (go_simp; done) | (go_simp; with_reducible rfl))
        try simp only [Act.put, List.setIfInBounds_toArray, List.set_cons_zero, List.set_cons_succ]
        refine wpAnyH_skipD (i := 13) (some 94) rfl rfl (by kernel_rfl) (by kernel_rfl) (by kernel_rfl) (fun _ _ _ h => h) (by rfl) (by assumption) ?r13_71
        try simp only [Act.put, List.setIfInBounds_toArray, List.set_cons_zero, List.set_cons_succ]
        refine wpAnyH_skipD (i := 14) (some 95) rfl rfl (by kernel_rfl) (by kernel_rfl) (by kernel_rfl) (fun _ _ _ h => h) (by rfl) (by assumption) ?r14_72
        try simp only [Act.put, List.setIfInBounds_toArray, List.set_cons_zero, List.set_cons_succ]
        refine wpAnyH_skipD (i := 15) (some 96) rfl rfl (by kernel_rfl) (by kernel_rfl) (by kernel_rfl) (fun _ _ _ h => h) (by rfl) (by assumption) ?r15_73
        try simp only [Act.put, List.setIfInBounds_toArray, List.set_cons_zero, List.set_cons_succ]
        refine wpAnyH_skipD (i := 16) (some 97) rfl rfl (by kernel_rfl) (by kernel_rfl) (by kernel_rfl) (fun _ _ _ h => h) (by rfl) (by assumption) ?r16_74
        try simp only [Act.put, List.setIfInBounds_toArray, List.set_cons_zero, List.set_cons_succ]
        refine wpAnyH_skipD (i := 17) (some 98) rfl rfl (by kernel_rfl) (by kernel_rfl) (by kernel_rfl) (fun _ _ _ h => h) (by rfl) (by assumption) ?r17_75
        try simp only [Act.put, List.setIfInBounds_toArray, List.set_cons_zero, List.set_cons_succ]
        refine wpAnyH_skipD (i := 18) (some 99) rfl rfl (by kernel_rfl) (by kernel_rfl) (by kernel_rfl) (fun _ _ _ h => h) (by rfl) (by assumption) ?r18_76
        try simp only [Act.put, List.setIfInBounds_toArray, List.set_cons_zero, List.set_cons_succ]
        refine wpAnyH_skipD (i := 19) (some 100) rfl rfl (by kernel_rfl) (by kernel_rfl) (by kernel_rfl) (fun _ _ _ h => h) (by rfl) (by assumption) ?r19_77
        try simp only [Act.put, List.setIfInBounds_toArray, List.set_cons_zero, List.set_cons_succ]
        refine wpAnyH_skipD (i := 20) (some 101) rfl rfl (by kernel_rfl) (by kernel_rfl) (by kernel_rfl) (fun _ _ _ h => h) (by rfl) (by assumption) ?r20_78
        try simp only [Act.put, List.setIfInBounds_toArray, List.set_cons_zero, List.set_cons_succ]
        refine wpAnyH_skipD (i := 21) (some 102) rfl rfl (by kernel_rfl) (by kernel_rfl) (by kernel_rfl) (fun _ _ _ h => h) (by rfl) (by assumption) ?r21_79
        try simp only [Act.put, List.setIfInBounds_toArray, List.set_cons_zero, List.set_cons_succ]
        refine wpAnyH_takeD (i := 22) (some 103) (v := ?v22_80) rfl rfl (by kernel_rfl) (by kernel_rfl) (by kernel_rfl) (fun _ _ _ h => h) (by rfl) ?y22_80 (by assumption) ?r22_80
        case y22_80 => (intro w hSw; (try dsimp only at hSw); first | (go_simp; done) | (go_simp; with_reducible rfl))
        try simp only [Act.put, List.setIfInBounds_toArray, List.set_cons_zero, List.set_cons_succ]
        refine wpAnyH_done (by kernel_rfl) ?_ _
        go_wp2_with fail
        simp only [Exit.jump]
        go_ret3
        exact ⟨gl, _, rfl, by rw [HOP.out, if_neg HGZ.out, HQ.out, HW.out, List.append_nil]; exact (hHeld.2.2.pick [1, 2, 5] 6 (by decide) (by decide) (by simp))⟩
      · have heq := of_decide_eq_true hE1
        have hb1 : ((p.gen : Int) == (G : Int)) = true := by rw [heq]; exact beq_self_eq_true _
        rcases hE2 : decide (p.rc = rc) with _ | _
        · have hne := of_decide_eq_false hE2
          have hb2 : ((p.rc : Int) == (rc : Int)) = false := by rw [beq_eq_false_iff_ne]; omega
          have HW : Hid (walkL (tabR d d.last.length) fr en G f next rc = ([], next, rc)) := hide (by cases f with | zero => rfl | succ f => simp only [walkL, hr, hT]; rw [if_neg (fun h => hne h.2)])
          clear hr hT hk hne hE1 hE2
          go_wp2_with (first
            | (go_at_call 66; refine (record_calls (at' := fr + next) (en := en) H1.out mem2 mem3 HOK.out (by omega) (by omega)).mono ?_; rintro z w2 (⟨d2, n2, v2, hj, rfl, h2⟩ | ⟨hj, ⟨n2, rfl⟩, h2⟩); rotate_left; (rw [HTF.out, HR.out] at hj; cases hj); rw [HTF.out, HR.out] at hj; cases hj; obtain ⟨b5, c5, rfl, -⟩ := h2.sl_form mem0; have H2 := hide h2; clear h2 H1))
          refine wp_region_held_drew (S := fun w' => w'.cell? ⟨gl, 1, none⟩ = some (.int .i64 (G : Nat)) ∧ w'.cell? ⟨gl, 4, none⟩ = some (.int .i64 (rc : Nat)) ∧ St b (HP.sl byteE (.slice b5 t.length c5) t :: HP.log gl gd ⟨G, hf, next, rc, M⟩ :: HP.disk gd d :: HP.tabM gm kvs :: HP.tabD kvs :: HP.rows 37 byteE.in (.slice b3 n3 c3) recs :: L) w') (by kernel_rfl) ?_ (fun hHeld => ?_)
          · exact ⟨H2.out.drew.blk_cell mem1 1, H2.out.drew.blk_cell mem1 4, H2.out.drew⟩
          refine wpAnyH_takeD (i := 0) (some 81) (v := ?v0_81) rfl rfl (by kernel_rfl) (by kernel_rfl) (by kernel_rfl) (fun _ _ _ h => h) (by rfl) ?y0_81 (by assumption) ?r0_81
          case y0_81 => (intro w hSw; (try dsimp only at hSw); first | (go_simp; done) | (go_simp; with_reducible rfl))
          try simp only [Act.put, List.setIfInBounds_toArray, List.set_cons_zero, List.set_cons_succ]
          refine wpAnyH_takeD (i := 1) (some 82) (v := ?v1_82) rfl rfl (by kernel_rfl) (by kernel_rfl) (by kernel_rfl) (fun _ _ _ h => h) (by rfl) ?y1_82 (by assumption) ?r1_82
          case y1_82 => (intro w hSw; (try dsimp only at hSw); first | (go_simp; done) | (go_simp; with_reducible rfl))
          try simp only [Act.put, List.setIfInBounds_toArray, List.set_cons_zero, List.set_cons_succ]
          refine wpAnyH_takeD (i := 2) (some 83) (v := ?v2_83) rfl rfl (by kernel_rfl) (by kernel_rfl) (by kernel_rfl) (fun _ _ _ h => h) (by rfl) ?y2_83 (by assumption) ?r2_83
          case y2_83 => (intro w hSw; (try dsimp only at hSw); first | (go_simp; done) | (go_simp; with_reducible rfl))
          try simp only [Act.put, List.setIfInBounds_toArray, List.set_cons_zero, List.set_cons_succ]
          refine wpAnyH_takeD (i := 3) (some 84) (v := ?v3_84) rfl rfl (by kernel_rfl) (by kernel_rfl) (by kernel_rfl) (fun _ _ _ h => h) (by rfl) ?y3_84 (by assumption) ?r3_84
          case y3_84 => (intro w hSw; (try dsimp only at hSw); first | (go_simp; done) | (go_simp; with_reducible rfl))
          try simp only [Act.put, List.setIfInBounds_toArray, List.set_cons_zero, List.set_cons_succ]
          refine wpAnyH_takeD (i := 4) (some 85) (v := .agg #[.int .i64 (p.gen : Nat), .int .i64 (p.rc : Nat), .int .i64 (p.n : Nat), .int .i64 (p.of : Nat), vd]) rfl rfl (by kernel_rfl) (by kernel_rfl) (by kernel_rfl) (fun _ _ _ h => h) (by rfl) ?y4_85 (by assumption) ?r4_85
          case y4_85 => (intro w hSw; exact run_lookup_op (x := .tmp 83) (i := .tmp 84) rfl rfl rfl (hSw.2.2.tab_get mem3 OKA.out HK.out).2)
          try simp only [Act.put, List.setIfInBounds_toArray, List.set_cons_zero, List.set_cons_succ]
          refine wpAnyH_takeD (i := 5) (some 86) (v := ?v5_86) rfl rfl (by kernel_rfl) (by kernel_rfl) (by kernel_rfl) (fun _ _ _ h => h) (by rfl) ?y5_86 (by assumption) ?r5_86
          case y5_86 => (intro w hSw; (try dsimp only at hSw); first | (go_simp; done) | (go_simp; with_reducible rfl))
          try simp only [Act.put, List.setIfInBounds_toArray, List.set_cons_zero, List.set_cons_succ]
          refine wpAnyH_takeD (i := 6) (some 87) (v := ?v6_87) rfl rfl (by kernel_rfl) (by kernel_rfl) (by kernel_rfl) (fun _ _ _ h => h) (by rfl) ?y6_87 (by assumption) ?r6_87
          case y6_87 => (intro w hSw; (try dsimp only at hSw); first | (go_simp; done) | (go_simp; with_reducible rfl))
          try simp only [Act.put, List.setIfInBounds_toArray, List.set_cons_zero, List.set_cons_succ]
          refine wpAnyH_takeD (i := 7) (some 88) (v := ?v7_88) rfl rfl (by kernel_rfl) (by kernel_rfl) (by kernel_rfl) (fun _ _ _ h => h) (by rfl) ?y7_88 (by assumption) ?r7_88
          case y7_88 => (intro w hSw; (try dsimp only at hSw); first | (go_simp; done) | (go_simp; with_reducible rfl))
          try simp only [Act.put, List.setIfInBounds_toArray, List.set_cons_zero, List.set_cons_succ]
          refine wpAnyH_takeD (i := 8) (some 89) (v := ?v8_89) rfl rfl (by kernel_rfl) (by kernel_rfl) (by kernel_rfl) (fun _ _ _ h => h) (by rfl) ?y8_89 (by assumption) ?r8_89
          case y8_89 => (intro w hSw; (try dsimp only at hSw); first | (go_simp; done) | (go_simp; with_reducible rfl))
          try simp only [Act.put, List.setIfInBounds_toArray, List.set_cons_zero, List.set_cons_succ]
          refine wpAnyH_takeD (i := 9) (some 90) (v := ?v9_90) rfl rfl (by kernel_rfl) (by kernel_rfl) (by kernel_rfl) (fun _ _ _ h => h) (by rfl) ?y9_90 (by assumption) ?r9_90
          case y9_90 => (intro w hSw; (try dsimp only at hSw); first | (go_simp; done) | (go_simp; with_reducible rfl))
          try simp only [Act.put, List.setIfInBounds_toArray, List.set_cons_zero, List.set_cons_succ]
          refine wpAnyH_takeD (i := 10) (some 91) (v := ?v10_91) rfl rfl (by kernel_rfl) (by kernel_rfl) (by kernel_rfl) (fun _ _ _ h => h) (by rfl) ?y10_91 (by assumption) ?r10_91
          case y10_91 => (intro w hSw; (try dsimp only at hSw); first | (go_simp; done) | (go_simp; with_reducible rfl))
          try simp only [Act.put, List.setIfInBounds_toArray, List.set_cons_zero, List.set_cons_succ]
          refine wpAnyH_takeD (i := 11) (some 92) (v := ?v11_92) rfl rfl (by kernel_rfl) (by kernel_rfl) (by kernel_rfl) (fun _ _ _ h => h) (by rfl) ?y11_92 (by assumption) ?r11_92
          case y11_92 => (intro w hSw; (try dsimp only at hSw); first | (go_simp; done) | (go_simp; with_reducible rfl))
          try simp only [Act.put, List.setIfInBounds_toArray, List.set_cons_zero, List.set_cons_succ]
          refine wpAnyH_takeD (i := 12) (some 93) (v := ?v12_93) rfl rfl (by kernel_rfl) (by kernel_rfl) (by kernel_rfl) (fun _ _ _ h => h) (by rfl) ?y12_93 (by assumption) ?r12_93
          case y12_93 => (intro w hSw; (try dsimp only at hSw); first | (go_simp; done) | (go_simp; with_reducible rfl))
          try simp only [Act.put, List.setIfInBounds_toArray, List.set_cons_zero, List.set_cons_succ]
          refine wpAnyH_takeD (i := 13) (some 94) (v := ?v13_94) rfl rfl (by kernel_rfl) (by kernel_rfl) (by kernel_rfl) (fun _ _ _ h => h) (by rfl) ?y13_94 (by assumption) ?r13_94
          case y13_94 => (intro w hSw; (try dsimp only at hSw); first | (go_simp; done) | (go_simp; with_reducible rfl))
          try simp only [Act.put, List.setIfInBounds_toArray, List.set_cons_zero, List.set_cons_succ]
          refine wpAnyH_takeD (i := 14) (some 95) (v := ?v14_95) rfl rfl (by kernel_rfl) (by kernel_rfl) (by kernel_rfl) (fun _ _ _ h => h) (by rfl) ?y14_95 (by assumption) ?r14_95
          case y14_95 => (intro w hSw; (try dsimp only at hSw); first | (go_simp; done) | (go_simp; with_reducible rfl))
          try simp only [Act.put, List.setIfInBounds_toArray, List.set_cons_zero, List.set_cons_succ]
          refine wpAnyH_takeD (i := 15) (some 96) (v := .agg #[.int .i64 (p.gen : Nat), .int .i64 (p.rc : Nat), .int .i64 (p.n : Nat), .int .i64 (p.of : Nat), vd]) rfl rfl (by kernel_rfl) (by kernel_rfl) (by kernel_rfl) (fun _ _ _ h => h) (by rfl) ?y15_96 (by assumption) ?r15_96
          case y15_96 => (intro w hSw; exact run_lookup_op (x := .tmp 94) (i := .tmp 95) rfl rfl rfl (hSw.2.2.tab_get mem3 OKA.out HK.out).2)
          try simp only [Act.put, List.setIfInBounds_toArray, List.set_cons_zero, List.set_cons_succ]
          refine wpAnyH_takeD (i := 16) (some 97) (v := ?v16_97) rfl rfl (by kernel_rfl) (by kernel_rfl) (by kernel_rfl) (fun _ _ _ h => h) (by rfl) ?y16_97 (by assumption) ?r16_97
          case y16_97 => (intro w hSw; (try dsimp only at hSw); first | (go_simp; done) | (go_simp; with_reducible rfl))
          try simp only [Act.put, List.setIfInBounds_toArray, List.set_cons_zero, List.set_cons_succ]
          refine wpAnyH_takeD (i := 17) (some 98) (v := ?v17_98) rfl rfl (by kernel_rfl) (by kernel_rfl) (by kernel_rfl) (fun _ _ _ h => h) (by rfl) ?y17_98 (by assumption) ?r17_98
          case y17_98 => (intro w hSw; (try dsimp only at hSw); first | (go_simp; done) | (go_simp; with_reducible rfl))
          try simp only [Act.put, List.setIfInBounds_toArray, List.set_cons_zero, List.set_cons_succ]
          refine wpAnyH_takeD (i := 18) (some 99) (v := ?v18_99) rfl rfl (by kernel_rfl) (by kernel_rfl) (by kernel_rfl) (fun _ _ _ h => h) (by rfl) ?y18_99 (by assumption) ?r18_99
          case y18_99 => (intro w hSw; (try dsimp only at hSw); first | (go_simp; done) | (go_simp; with_reducible rfl))
          try simp only [Act.put, List.setIfInBounds_toArray, List.set_cons_zero, List.set_cons_succ]
          refine wpAnyH_takeD (i := 19) (some 100) (v := ?v19_100) rfl rfl (by kernel_rfl) (by kernel_rfl) (by kernel_rfl) (fun _ _ _ h => h) (by rfl) ?y19_100 (by assumption) ?r19_100
          case y19_100 => (intro w hSw; (try dsimp only at hSw); first | (go_simp; done) | (go_simp; with_reducible rfl))
          try simp only [Act.put, List.setIfInBounds_toArray, List.set_cons_zero, List.set_cons_succ]
          refine wpAnyH_takeD (i := 20) (some 101) (v := ?v20_101) rfl rfl (by kernel_rfl) (by kernel_rfl) (by kernel_rfl) (fun _ _ _ h => h) (by rfl) ?y20_101 (by assumption) ?r20_101
          case y20_101 => (intro w hSw; (try dsimp only at hSw); first | (go_simp; done) | (go_simp; with_reducible rfl))
          try simp only [Act.put, List.setIfInBounds_toArray, List.set_cons_zero, List.set_cons_succ]
          refine wpAnyH_takeD (i := 21) (some 102) (v := ?v21_102) rfl rfl (by kernel_rfl) (by kernel_rfl) (by kernel_rfl) (fun _ _ _ h => h) (by rfl) ?y21_102 (by assumption) ?r21_102
          case y21_102 => (intro w hSw; (try dsimp only at hSw); first | (go_simp; done) | (go_simp; with_reducible rfl))
          try simp only [Act.put, List.setIfInBounds_toArray, List.set_cons_zero, List.set_cons_succ]
          refine wpAnyH_takeD (i := 22) (some 103) (v := ?v22_103) rfl rfl (by kernel_rfl) (by kernel_rfl) (by kernel_rfl) (fun _ _ _ h => h) (by rfl) ?y22_103 (by assumption) ?r22_103
          case y22_103 => (intro w hSw; (try dsimp only at hSw); first | (go_simp; done) | (go_simp; with_reducible rfl))
          try simp only [Act.put, List.setIfInBounds_toArray, List.set_cons_zero, List.set_cons_succ]
          refine wpAnyH_done (by kernel_rfl) ?_ _
          go_wp2_with fail
          simp only [Exit.jump]
          go_ret3
          exact ⟨gl, _, rfl, by rw [HOP.out, if_neg HGZ.out, HQ.out, HW.out, List.append_nil]; exact (hHeld.2.2.pick [1, 2, 5] 6 (by decide) (by decide) (by simp))⟩
        · have heq2 := of_decide_eq_true hE2
          have hb2 : ((p.rc : Int) == (rc : Int)) = true := by rw [heq2]; exact beq_self_eq_true _
          have HT := hide hT
          clear hr hT hk hE1 hE2
          go_wp2_with (first
            | (go_at_call 66; refine (record_calls (at' := fr + next) (en := en) H1.out mem2 mem3 HOK.out (by omega) (by omega)).mono ?_; rintro z w2 (⟨d2, n2, v2, hj, rfl, h2⟩ | ⟨hj, ⟨n2, rfl⟩, h2⟩); rotate_left; (rw [HTF.out, HR.out] at hj; cases hj); rw [HTF.out, HR.out] at hj; cases hj; obtain ⟨b5, c5, rfl, -⟩ := h2.sl_form mem0; have H2 := hide h2; clear h2 H1))
          refine wp_region_held_drew (S := fun w' => w'.cell? ⟨gl, 1, none⟩ = some (.int .i64 (G : Nat)) ∧ w'.cell? ⟨gl, 4, none⟩ = some (.int .i64 (rc : Nat)) ∧ St b (HP.sl byteE (.slice b5 t.length c5) t :: HP.log gl gd ⟨G, hf, next, rc, M⟩ :: HP.disk gd d :: HP.tabM gm kvs :: HP.tabD kvs :: HP.rows 37 byteE.in (.slice b3 n3 c3) recs :: L) w') (by kernel_rfl) ?_ (fun hHeld => ?_)
          · exact ⟨H2.out.drew.blk_cell mem1 1, H2.out.drew.blk_cell mem1 4, H2.out.drew⟩
          refine wpAnyH_takeD (i := 0) (some 81) (v := ?v0_104) rfl rfl (by kernel_rfl) (by kernel_rfl) (by kernel_rfl) (fun _ _ _ h => h) (by rfl) ?y0_104 (by assumption) ?r0_104
          case y0_104 => (intro w hSw; (try dsimp only at hSw); first | (go_simp; done) | (go_simp; with_reducible rfl))
          try simp only [Act.put, List.setIfInBounds_toArray, List.set_cons_zero, List.set_cons_succ]
          refine wpAnyH_takeD (i := 1) (some 82) (v := ?v1_105) rfl rfl (by kernel_rfl) (by kernel_rfl) (by kernel_rfl) (fun _ _ _ h => h) (by rfl) ?y1_105 (by assumption) ?r1_105
          case y1_105 => (intro w hSw; (try dsimp only at hSw); first | (go_simp; done) | (go_simp; with_reducible rfl))
          try simp only [Act.put, List.setIfInBounds_toArray, List.set_cons_zero, List.set_cons_succ]
          refine wpAnyH_takeD (i := 2) (some 83) (v := ?v2_106) rfl rfl (by kernel_rfl) (by kernel_rfl) (by kernel_rfl) (fun _ _ _ h => h) (by rfl) ?y2_106 (by assumption) ?r2_106
          case y2_106 => (intro w hSw; (try dsimp only at hSw); first | (go_simp; done) | (go_simp; with_reducible rfl))
          try simp only [Act.put, List.setIfInBounds_toArray, List.set_cons_zero, List.set_cons_succ]
          refine wpAnyH_takeD (i := 3) (some 84) (v := ?v3_107) rfl rfl (by kernel_rfl) (by kernel_rfl) (by kernel_rfl) (fun _ _ _ h => h) (by rfl) ?y3_107 (by assumption) ?r3_107
          case y3_107 => (intro w hSw; (try dsimp only at hSw); first | (go_simp; done) | (go_simp; with_reducible rfl))
          try simp only [Act.put, List.setIfInBounds_toArray, List.set_cons_zero, List.set_cons_succ]
          refine wpAnyH_takeD (i := 4) (some 85) (v := .agg #[.int .i64 (p.gen : Nat), .int .i64 (p.rc : Nat), .int .i64 (p.n : Nat), .int .i64 (p.of : Nat), vd]) rfl rfl (by kernel_rfl) (by kernel_rfl) (by kernel_rfl) (fun _ _ _ h => h) (by rfl) ?y4_108 (by assumption) ?r4_108
          case y4_108 => (intro w hSw; exact run_lookup_op (x := .tmp 83) (i := .tmp 84) rfl rfl rfl (hSw.2.2.tab_get mem3 OKA.out HK.out).2)
          try simp only [Act.put, List.setIfInBounds_toArray, List.set_cons_zero, List.set_cons_succ]
          refine wpAnyH_takeD (i := 5) (some 86) (v := ?v5_109) rfl rfl (by kernel_rfl) (by kernel_rfl) (by kernel_rfl) (fun _ _ _ h => h) (by rfl) ?y5_109 (by assumption) ?r5_109
          case y5_109 => (intro w hSw; (try dsimp only at hSw); first | (go_simp; done) | (go_simp; with_reducible rfl))
          try simp only [Act.put, List.setIfInBounds_toArray, List.set_cons_zero, List.set_cons_succ]
          refine wpAnyH_takeD (i := 6) (some 87) (v := ?v6_110) rfl rfl (by kernel_rfl) (by kernel_rfl) (by kernel_rfl) (fun _ _ _ h => h) (by rfl) ?y6_110 (by assumption) ?r6_110
          case y6_110 => (intro w hSw; (try dsimp only at hSw); first | (go_simp; done) | (go_simp; with_reducible rfl))
          try simp only [Act.put, List.setIfInBounds_toArray, List.set_cons_zero, List.set_cons_succ]
          refine wpAnyH_takeD (i := 7) (some 88) (v := ?v7_111) rfl rfl (by kernel_rfl) (by kernel_rfl) (by kernel_rfl) (fun _ _ _ h => h) (by rfl) ?y7_111 (by assumption) ?r7_111
          case y7_111 => (intro w hSw; (try dsimp only at hSw); first | (go_simp; done) | (go_simp; with_reducible rfl))
          try simp only [Act.put, List.setIfInBounds_toArray, List.set_cons_zero, List.set_cons_succ]
          refine wpAnyH_takeD (i := 8) (some 89) (v := ?v8_112) rfl rfl (by kernel_rfl) (by kernel_rfl) (by kernel_rfl) (fun _ _ _ h => h) (by rfl) ?y8_112 (by assumption) ?r8_112
          case y8_112 => (intro w hSw; (try dsimp only at hSw); first | (go_simp; done) | (go_simp; with_reducible rfl))
          try simp only [Act.put, List.setIfInBounds_toArray, List.set_cons_zero, List.set_cons_succ]
          refine wpAnyH_takeD (i := 9) (some 90) (v := ?v9_113) rfl rfl (by kernel_rfl) (by kernel_rfl) (by kernel_rfl) (fun _ _ _ h => h) (by rfl) ?y9_113 (by assumption) ?r9_113
          case y9_113 => (intro w hSw; (try dsimp only at hSw); first | (go_simp; done) | (go_simp; with_reducible rfl))
          try simp only [Act.put, List.setIfInBounds_toArray, List.set_cons_zero, List.set_cons_succ]
          refine wpAnyH_takeD (i := 10) (some 91) (v := ?v10_114) rfl rfl (by kernel_rfl) (by kernel_rfl) (by kernel_rfl) (fun _ _ _ h => h) (by rfl) ?y10_114 (by assumption) ?r10_114
          case y10_114 => (intro w hSw; (try dsimp only at hSw); first | (go_simp; done) | (go_simp; with_reducible rfl))
          try simp only [Act.put, List.setIfInBounds_toArray, List.set_cons_zero, List.set_cons_succ]
          refine wpAnyH_takeD (i := 11) (some 92) (v := ?v11_115) rfl rfl (by kernel_rfl) (by kernel_rfl) (by kernel_rfl) (fun _ _ _ h => h) (by rfl) ?y11_115 (by assumption) ?r11_115
          case y11_115 => (intro w hSw; (try dsimp only at hSw); first | (go_simp; done) | (go_simp; with_reducible rfl))
          try simp only [Act.put, List.setIfInBounds_toArray, List.set_cons_zero, List.set_cons_succ]
          refine wpAnyH_takeD (i := 12) (some 93) (v := ?v12_116) rfl rfl (by kernel_rfl) (by kernel_rfl) (by kernel_rfl) (fun _ _ _ h => h) (by rfl) ?y12_116 (by assumption) ?r12_116
          case y12_116 => (intro w hSw; (try dsimp only at hSw); first | (go_simp; done) | (go_simp; with_reducible rfl))
          try simp only [Act.put, List.setIfInBounds_toArray, List.set_cons_zero, List.set_cons_succ]
          refine wpAnyH_takeD (i := 13) (some 94) (v := ?v13_117) rfl rfl (by kernel_rfl) (by kernel_rfl) (by kernel_rfl) (fun _ _ _ h => h) (by rfl) ?y13_117 (by assumption) ?r13_117
          case y13_117 => (intro w hSw; (try dsimp only at hSw); first | (go_simp; done) | (go_simp; with_reducible rfl))
          try simp only [Act.put, List.setIfInBounds_toArray, List.set_cons_zero, List.set_cons_succ]
          refine wpAnyH_takeD (i := 14) (some 95) (v := ?v14_118) rfl rfl (by kernel_rfl) (by kernel_rfl) (by kernel_rfl) (fun _ _ _ h => h) (by rfl) ?y14_118 (by assumption) ?r14_118
          case y14_118 => (intro w hSw; (try dsimp only at hSw); first | (go_simp; done) | (go_simp; with_reducible rfl))
          try simp only [Act.put, List.setIfInBounds_toArray, List.set_cons_zero, List.set_cons_succ]
          refine wpAnyH_takeD (i := 15) (some 96) (v := .agg #[.int .i64 (p.gen : Nat), .int .i64 (p.rc : Nat), .int .i64 (p.n : Nat), .int .i64 (p.of : Nat), vd]) rfl rfl (by kernel_rfl) (by kernel_rfl) (by kernel_rfl) (fun _ _ _ h => h) (by rfl) ?y15_119 (by assumption) ?r15_119
          case y15_119 => (intro w hSw; exact run_lookup_op (x := .tmp 94) (i := .tmp 95) rfl rfl rfl (hSw.2.2.tab_get mem3 OKA.out HK.out).2)
          try simp only [Act.put, List.setIfInBounds_toArray, List.set_cons_zero, List.set_cons_succ]
          refine wpAnyH_takeD (i := 16) (some 97) (v := ?v16_120) rfl rfl (by kernel_rfl) (by kernel_rfl) (by kernel_rfl) (fun _ _ _ h => h) (by rfl) ?y16_120 (by assumption) ?r16_120
          case y16_120 => (intro w hSw; (try dsimp only at hSw); first | (go_simp; done) | (go_simp; with_reducible rfl))
          try simp only [Act.put, List.setIfInBounds_toArray, List.set_cons_zero, List.set_cons_succ]
          refine wpAnyH_takeD (i := 17) (some 98) (v := ?v17_121) rfl rfl (by kernel_rfl) (by kernel_rfl) (by kernel_rfl) (fun _ _ _ h => h) (by rfl) ?y17_121 (by assumption) ?r17_121
          case y17_121 => (intro w hSw; (try dsimp only at hSw); first | (go_simp; done) | (go_simp; with_reducible rfl))
          try simp only [Act.put, List.setIfInBounds_toArray, List.set_cons_zero, List.set_cons_succ]
          refine wpAnyH_takeD (i := 18) (some 99) (v := ?v18_122) rfl rfl (by kernel_rfl) (by kernel_rfl) (by kernel_rfl) (fun _ _ _ h => h) (by rfl) ?y18_122 (by assumption) ?r18_122
          case y18_122 => (intro w hSw; (try dsimp only at hSw); first | (go_simp; done) | (go_simp; with_reducible rfl))
          try simp only [Act.put, List.setIfInBounds_toArray, List.set_cons_zero, List.set_cons_succ]
          refine wpAnyH_takeD (i := 19) (some 100) (v := ?v19_123) rfl rfl (by kernel_rfl) (by kernel_rfl) (by kernel_rfl) (fun _ _ _ h => h) (by rfl) ?y19_123 (by assumption) ?r19_123
          case y19_123 => (intro w hSw; (try dsimp only at hSw); first | (go_simp; done) | (go_simp; with_reducible rfl))
          try simp only [Act.put, List.setIfInBounds_toArray, List.set_cons_zero, List.set_cons_succ]
          refine wpAnyH_takeD (i := 20) (some 101) (v := ?v20_124) rfl rfl (by kernel_rfl) (by kernel_rfl) (by kernel_rfl) (fun _ _ _ h => h) (by rfl) ?y20_124 (by assumption) ?r20_124
          case y20_124 => (intro w hSw; (try dsimp only at hSw); first | (go_simp; done) | (go_simp; with_reducible rfl))
          try simp only [Act.put, List.setIfInBounds_toArray, List.set_cons_zero, List.set_cons_succ]
          refine wpAnyH_takeD (i := 21) (some 102) (v := ?v21_125) rfl rfl (by kernel_rfl) (by kernel_rfl) (by kernel_rfl) (fun _ _ _ h => h) (by rfl) ?y21_125 (by assumption) ?r21_125
          case y21_125 => (intro w hSw; (try dsimp only at hSw); first | (go_simp; done) | (go_simp; with_reducible rfl))
          try simp only [Act.put, List.setIfInBounds_toArray, List.set_cons_zero, List.set_cons_succ]
          refine wpAnyH_takeD (i := 22) (some 103) (v := ?v22_126) rfl rfl (by kernel_rfl) (by kernel_rfl) (by kernel_rfl) (fun _ _ _ h => h) (by rfl) ?y22_126 (by assumption) ?r22_126
          case y22_126 => (intro w hSw; (try dsimp only at hSw); first | (go_simp; done) | (go_simp; with_reducible rfl))
          try simp only [Act.put, List.setIfInBounds_toArray, List.set_cons_zero, List.set_cons_succ]
          refine wpAnyH_done (by kernel_rfl) ?_ _
          have H3 := hide hHeld.2.2
          have Q1 := hide (show recs.length + ([t] : List Byt).length ≤ maxLen ∧ (recs.length + ([t] : List Byt).length) * 24 ≤ 140737488355328 from ⟨by simp only [List.length_cons, List.length_nil]; unfold maxLen; omega, by simp only [List.length_cons, List.length_nil]; omega⟩)
          clear hHeld H2 x3
          go_wp2_with (first
            | (refine wpList_build1_st (E := byteE.in) rfl (.tmp 105) slBytes rfl t rfl H3.out ?_ ?_; exact (fun _ _ hs => ⟨_, rfl, hs.sl_mem mem0⟩); intro g14 w14 h14; have H14 := hide h14.f6; clear h14 H3)
            | (at_builtin; refine wpList_append_st (E := byteE.in) rfl (.tmp 104) (.tmp 106) slBytes rfl H14.out (Src.of_rows mem1) rfl rfl Q1.out.1 Q1.out.2 ?_; intro b15 n15 c15 w15 hn15 h15; have H15 := hide (h15.pick [3, 4, 5, 6, 0] 7 (by decide) (by decide) (by simp)); have x3 : w15.cell? ⟨gl, 3, none⟩ = some (.int .i64 (next : Nat)) := h15.blk_cell mem3 3; have HN15 := hide hn15; clear h15 H14 hn15)
            | ((with_reducible refine wpList_storeF_st (cs := [.pointer (some ⟨gd, 0, none⟩), .int .i64 (G : Nat), .int .i64 (hf : Nat), .int .i64 ((next : Nat)), .int .i64 ((rc : Nat)), .int .i64 (M : Nat)]) (ds := [.pointer (some ⟨gd, 0, none⟩), .int .i64 (G : Nat), .int .i64 (hf : Nat), .int .i64 ((next : Int) + (p.of : Nat)), .int .i64 ((rc : Nat)), .int .i64 (M : Nat)]) rfl 3 (.tmp 115) (.tmp 113) rfl szInt rfl rfl rfl rfl H15.out ?_ rfl ?_); (simp); intro w9 h9; have x4 : w9.cell? ⟨gl, 4, none⟩ = some (.int .i64 (rc : Nat)) := h9.blk_cell mem0 4; have H16 := hide h9; clear h9 H15)
            | ((with_reducible refine wpList_storeF_st (cs := [.pointer (some ⟨gd, 0, none⟩), .int .i64 (G : Nat), .int .i64 (hf : Nat), .int .i64 ((next : Int) + (p.of : Nat)), .int .i64 ((rc : Nat)), .int .i64 (M : Nat)]) (ds := [.pointer (some ⟨gd, 0, none⟩), .int .i64 (G : Nat), .int .i64 (hf : Nat), .int .i64 ((next : Int) + (p.of : Nat)), .int .i64 ((rc : Int) + 1), .int .i64 (M : Nat)]) rfl 3 (.tmp 122) (.tmp 120) rfl szInt rfl rfl rfl rfl H16.out ?_ rfl ?_); (simp); intro w9 h9; have H17 := hide h9; clear h9 H16))
          have h18 := H17.out
          rewrite [show (next : Int) + (p.of : Nat) = ((next + p.of : Nat) : Int) from by omega, show (rc : Int) + 1 = ((rc + 1 : Nat) : Int) from by omega] at h18
          obtain ⟨f, rfl⟩ : ∃ f9, f = f9 + 1 := ⟨f - 1, by omega⟩
          have hwk : walkL (tabR d d.last.length) fr en G (f + 1) next rc = (t :: (walkL (tabR d d.last.length) fr en G f (next + p.of) (rc + 1)).1, (walkL (tabR d d.last.length) fr en G f (next + p.of) (rc + 1)).2) := by simp only [walkL, HR.out, HT.out]; rw [if_pos ⟨heq, heq2⟩]
          go_step3
          refine ⟨rfl, OpAt.put f (next + p.of) (rc + 1) (recs ++ [t]) b15 n15 c15 gl gm kvs rfl ⟨HGZ.out, HTF.out, HOK.out, by rw [HN15.out, List.length_append], by rw [List.length_append, hrc]; rfl, by omega, ⟨hfr, by omega, hen⟩, by omega, by rw [HQ.out, hwk, List.append_assoc]; rfl⟩ h18, ?_⟩
          have hn15 : n15 = n3 + 1 := by rw [HN15.out, HN3.out]; rfl
          have hn3 : n3 = rc := by rw [HN3.out, hrc]
          show 300 - n15 < 300 - n3
          omega
  · intro again
    by_cases hlt : g0 < g1
    · rw [if_pos hlt] at hG hhf
      subst hG
      subst hhf
      have hgt : (g0 : Int) < g1 := by omega
      have hgz : ((g1 : Int) == 0) = false := by rw [beq_eq_false_iff_ne]; omega
      clear HOP
      go_wp2_with (first
        | ((with_reducible refine wpList_box_st (cs := [.pointer (some ⟨gd, 0, none⟩), .int .i64 (0), .int .i64 (0), .int .i64 (0), .int .i64 (0), .int .i64 0]) rfl (.tmp 14) rfl rfl H.out ?_); intro gl w1 h1; have H1 := hide h1; clear h1 H)
        | (go_at_call 63; refine (scan_calls (l := ⟨0, 0, 0, 0, 0⟩) H1.out HG.out HDE.out (by decide)).mono ?_; rintro z w2 ⟨gm, kvs, rfl, htg, hok, h2⟩; rw [HM.out] at h2; have HTF := hide (funext htg); have HOK := hide hok; have H2 := hide h2; clear h2 H1 htg hok)
        | (go_at_call 64; refine (begins0_calls H2.out mem0 mem1 HOK.out HMO.out).mono ?_; rintro z w3 ⟨rfl, h3⟩; rw [HTF.out, HG0.out]; have H3 := hide h3; clear h3 H2)
        | ((with_reducible refine wpList_storeF_st (cs := [.pointer (some ⟨gd, 0, none⟩), .int .i64 (0), .int .i64 (0), .int .i64 (0), .int .i64 (0), .int .i64 (M : Nat)]) (ds := [.pointer (some ⟨gd, 0, none⟩), .int .i64 ((g0 : Nat)), .int .i64 (0), .int .i64 (0), .int .i64 (0), .int .i64 (M : Nat)]) rfl 3 (.tmp 29) (.tmp 27) rfl szInt rfl rfl rfl rfl H3.out ?_ rfl ?_); (simp); intro w9 h9; have H4 := hide h9; clear h9 H3)
        | (go_at_call 64; refine (begins1_calls (l := ⟨g0, 0, 0, 0, M⟩) H4.out mem0 mem1 HOK.out HMO.out).mono ?_; rintro z w5 ⟨rfl, h5⟩; rw [HTF.out, HG1.out]; have x1 : w5.cell? ⟨gl, 1, none⟩ = some (.int .i64 (g0 : Nat)) := h5.blk_cell mem0 1; have H5 := hide h5; clear h5 H4)
        | ((with_reducible refine wpList_storeF_st (cs := [.pointer (some ⟨gd, 0, none⟩), .int .i64 ((g0 : Nat)), .int .i64 (0), .int .i64 (0), .int .i64 (0), .int .i64 (M : Nat)]) (ds := [.pointer (some ⟨gd, 0, none⟩), .int .i64 ((g1 : Nat)), .int .i64 (0), .int .i64 (0), .int .i64 (0), .int .i64 (M : Nat)]) rfl 3 (.tmp 43) (.tmp 41) rfl szInt rfl rfl rfl rfl H5.out ?_ rfl ?_); (simp); intro w9 h9; have H6 := hide h9; clear h9 H5)
        | ((with_reducible refine wpList_storeF_st (cs := [.pointer (some ⟨gd, 0, none⟩), .int .i64 ((g1 : Nat)), .int .i64 (0), .int .i64 (0), .int .i64 (0), .int .i64 (M : Nat)]) (ds := [.pointer (some ⟨gd, 0, none⟩), .int .i64 ((g1 : Nat)), .int .i64 (1), .int .i64 (0), .int .i64 (0), .int .i64 (M : Nat)]) rfl 3 (.tmp 45) (.const (.int .i64 1)) rfl szInt rfl rfl rfl rfl H6.out ?_ rfl ?_); (simp); intro w9 h9; have x2 : w9.cell? ⟨gl, 1, none⟩ = some (.int .i64 (g1 : Nat)) := h9.blk_cell mem0 1; have H7 := hide h9; clear h9 H6))
      refine wp_region_held_drew (S := fun w' => w'.cell? ⟨gl, 2, none⟩ = some (.int .i64 1) ∧ St b (HP.log gl gd ⟨g1, 1, 0, 0, M⟩ :: HP.disk gd d :: HP.tabM gm kvs :: HP.tabD kvs :: L) w') (by kernel_rfl) ?_ (fun hHeld => ?_)
      · exact ⟨H7.out.drew.blk_cell mem0 2, H7.out.drew⟩
      refine wpAnyH_takeD (i := 0) (some 52) (v := ?v0_1) rfl rfl (by kernel_rfl) (by kernel_rfl) (by kernel_rfl) (fun _ _ _ h => h) (by rfl) ?y0_1 (by assumption) ?r0_1
      case y0_1 => (intro w hSw; (try dsimp only at hSw); first | (go_simp; done) | (go_simp; with_reducible rfl))
      try simp only [Act.put, List.setIfInBounds_toArray, List.set_cons_zero, List.set_cons_succ]
      refine wpAnyH_takeD (i := 1) (some 53) (v := ?v1_2) rfl rfl (by kernel_rfl) (by kernel_rfl) (by kernel_rfl) (fun _ _ _ h => h) (by rfl) ?y1_2 (by assumption) ?r1_2
      case y1_2 => (intro w hSw; (try dsimp only at hSw); first | (go_simp; done) | (go_simp; with_reducible rfl))
      try simp only [Act.put, List.setIfInBounds_toArray, List.set_cons_zero, List.set_cons_succ]
      refine wpAnyH_takeD (i := 2) (some 54) (v := ?v2_3) rfl rfl (by kernel_rfl) (by kernel_rfl) (by kernel_rfl) (fun _ _ _ h => h) (by rfl) ?y2_3 (by assumption) ?r2_3
      case y2_3 => (intro w hSw; (try dsimp only at hSw); first | (go_simp; done) | (go_simp; with_reducible rfl))
      try simp only [Act.put, List.setIfInBounds_toArray, List.set_cons_zero, List.set_cons_succ]
      refine wpAnyH_takeD (i := 3) (some 55) (v := ?v3_4) rfl rfl (by kernel_rfl) (by kernel_rfl) (by kernel_rfl) (fun _ _ _ h => h) (by rfl) ?y3_4 (by assumption) ?r3_4
      case y3_4 => (intro w hSw; (try dsimp only at hSw); first | (go_simp; done) | (go_simp; with_reducible rfl))
      try simp only [Act.put, List.setIfInBounds_toArray, List.set_cons_zero, List.set_cons_succ]
      refine wpAnyH_takeD (i := 4) (some 56) (v := ?v4_5) rfl rfl (by kernel_rfl) (by kernel_rfl) (by kernel_rfl) (fun _ _ _ h => h) (by rfl) ?y4_5 (by assumption) ?r4_5
      case y4_5 => (intro w hSw; (try dsimp only at hSw); first | (go_simp; done) | (go_simp; with_reducible rfl))
      try simp only [Act.put, List.setIfInBounds_toArray, List.set_cons_zero, List.set_cons_succ]
      refine wpAnyH_tellsD (i := 5) (some 57) (v := .int .i64 ((d.last.length : Int) / 2)) rfl rfl (by kernel_rfl) (by kernel_rfl) (by kernel_rfl) (fun _ _ _ h => h) ⟨by rfl, 65, #[.pointer (some ⟨gl, 0, none⟩)], fun w hSw => ⟨?y5_6, (by have := lsize_calls hSw.2 HMO.out; exact this.mono (fun x w' h => ⟨h.1, h.2.symm⟩))⟩⟩ (by assumption) ?r5_6
      case y5_6 => first | (go_simp; done) | (go_simp; with_reducible rfl)
      try simp only [Act.put, List.setIfInBounds_toArray, List.set_cons_zero, List.set_cons_succ]
      refine wpAnyH_takeD (i := 6) (some 58) (v := ?v6_7) rfl rfl (by kernel_rfl) (by kernel_rfl) (by kernel_rfl) (fun _ _ _ h => h) (by rfl) ?y6_7 (by assumption) ?r6_7
      case y6_7 => (intro w hSw; (try dsimp only at hSw); first | (go_simp; done) | (go_simp; with_reducible rfl))
      try simp only [Act.put, List.setIfInBounds_toArray, List.set_cons_zero, List.set_cons_succ]
      refine wpAnyH_takeD (i := 7) (some 59) (v := ?v7_8) rfl rfl (by kernel_rfl) (by kernel_rfl) (by kernel_rfl) (fun _ _ _ h => h) (by rfl) ?y7_8 (by assumption) ?r7_8
      case y7_8 => (intro w hSw; (try dsimp only at hSw); first | (go_simp; done) | (go_simp; with_reducible rfl))
      try simp only [Act.put, List.setIfInBounds_toArray, List.set_cons_zero, List.set_cons_succ]
      refine wpAnyH_takeD (i := 8) (some 60) (v := ?v8_9) rfl rfl (by kernel_rfl) (by kernel_rfl) (by kernel_rfl) (fun _ _ _ h => h) (by rfl) ?y8_9 (by assumption) ?r8_9
      case y8_9 => (intro w hSw; (try dsimp only at hSw); first | (go_simp; done) | (go_simp; with_reducible rfl))
      try simp only [Act.put, List.setIfInBounds_toArray, List.set_cons_zero, List.set_cons_succ]
      refine wpAnyH_takeD (i := 9) (some 61) (v := ?v9_10) rfl rfl (by kernel_rfl) (by kernel_rfl) (by kernel_rfl) (fun _ _ _ h => h) (by rfl) ?y9_10 (by assumption) ?r9_10
      case y9_10 => (intro w hSw; (try dsimp only at hSw); first | (go_simp; done) | (go_simp; with_reducible rfl))
      try simp only [Act.put, List.setIfInBounds_toArray, List.set_cons_zero, List.set_cons_succ]
      refine wpAnyH_takeD (i := 10) (some 62) (v := ?v10_11) rfl rfl (by kernel_rfl) (by kernel_rfl) (by kernel_rfl) (fun _ _ _ h => h) (by rfl) ?y10_11 (by assumption) ?r10_11
      case y10_11 => (intro w hSw; (try dsimp only at hSw); first | (go_simp; done) | (go_simp; with_reducible rfl))
      try simp only [Act.put, List.setIfInBounds_toArray, List.set_cons_zero, List.set_cons_succ]
      refine wpAnyH_takeD (i := 11) (some 63) (v := ?v11_12) rfl rfl (by kernel_rfl) (by kernel_rfl) (by kernel_rfl) (fun _ _ _ h => h) (by rfl) ?y11_12 (by assumption) ?r11_12
      case y11_12 => (intro w hSw; (try dsimp only at hSw); first | (go_simp; done) | (go_simp; with_reducible rfl))
      try simp only [Act.put, List.setIfInBounds_toArray, List.set_cons_zero, List.set_cons_succ]
      refine wpAnyH_takeD (i := 12) (some 64) (v := ?v12_13) rfl rfl (by kernel_rfl) (by kernel_rfl) (by kernel_rfl) (fun _ _ _ h => h) (by rfl) ?y12_13 (by assumption) ?r12_13
      case y12_13 => (intro w hSw; (try dsimp only at hSw); first | (go_simp; done) | (go_simp; with_reducible rfl))
      try simp only [Act.put, List.setIfInBounds_toArray, List.set_cons_zero, List.set_cons_succ]
      refine wpAnyH_tellsD (i := 13) (some 65) (v := .int .i64 ((d.last.length : Int) / 2)) rfl rfl (by kernel_rfl) (by kernel_rfl) (by kernel_rfl) (fun _ _ _ h => h) ⟨by rfl, 65, #[.pointer (some ⟨gl, 0, none⟩)], fun w hSw => ⟨?y13_14, (by have := lsize_calls hSw.2 HMO.out; exact this.mono (fun x w' h => ⟨h.1, h.2.symm⟩))⟩⟩ (by assumption) ?r13_14
      case y13_14 => first | (go_simp; done) | (go_simp; with_reducible rfl)
      try simp only [Act.put, List.setIfInBounds_toArray, List.set_cons_zero, List.set_cons_succ]
      refine wpAnyH_takeD (i := 14) (some 66) (v := ?v14_15) rfl rfl (by kernel_rfl) (by kernel_rfl) (by kernel_rfl) (fun _ _ _ h => h) (by rfl) ?y14_15 (by assumption) ?r14_15
      case y14_15 => (intro w hSw; (try dsimp only at hSw); first | (go_simp; done) | (go_simp; with_reducible rfl))
      try simp only [Act.put, List.setIfInBounds_toArray, List.set_cons_zero, List.set_cons_succ]
      refine wpAnyH_takeD (i := 15) (some 7) (v := ?v15_16) rfl rfl (by kernel_rfl) (by kernel_rfl) (by kernel_rfl) (fun _ _ _ h => h) (by rfl) ?y15_16 (by assumption) ?r15_16
      case y15_16 => (intro w hSw; (try dsimp only at hSw); first | (go_simp; done) | (go_simp; with_reducible rfl))
      try simp only [Act.put, List.setIfInBounds_toArray, List.set_cons_zero, List.set_cons_succ]
      refine wpAnyH_takeD (i := 16) (some 8) (v := ?v16_17) rfl rfl (by kernel_rfl) (by kernel_rfl) (by kernel_rfl) (fun _ _ _ h => h) (by rfl) ?y16_17 (by assumption) ?r16_17
      case y16_17 => (intro w hSw; (try dsimp only at hSw); first | (go_simp; done) | (go_simp; with_reducible rfl))
      try simp only [Act.put, List.setIfInBounds_toArray, List.set_cons_zero, List.set_cons_succ]
      refine wpAnyH_done (by kernel_rfl) ?_ _
      have hfe := HFE.out
      have w1 : IntKind.i64.wrap 2 = 2 := wrap_small (by omega) (by omega)
      have e7 : IntKind.i64.wrap ((d.last.length : Int) / 2) = fr := by rw [wrap_small (by omega) (by omega)]; omega
      have e8 : IntKind.i64.wrap (IntKind.i64.wrap 2 * ((d.last.length : Int) / 2)) = en := by rw [w1, wrap_small (by omega) (by omega)]; omega
      rewrite [e7, e8]
      have H9 := hide hHeld.2
      clear hHeld e7 e8 w1 H7
      go_wp2_with fail
      go_step3
      rename_i hk
      refine hk _ _ (again _ _ ?_)
      exact (OpAt.put 300 0 0 [] none 0 0 gl gm kvs rfl ⟨by omega, HTF.out, HOK.out, rfl, rfl, by omega, ⟨by omega, by omega, by omega⟩, by omega, by rw [HQ0.out]; rfl⟩ (H9.out.rows_nil _ _).b4)
    · rw [if_neg hlt] at hG hhf
      subst hG
      subst hhf
      have hgt : ¬ (g0 : Int) < g1 := by omega
      by_cases hz : g0 = 0
      · have HGZ := hide hz
        have hgz : ((g0 : Int) == 0) = true := by rw [hz]; rfl
        clear HQ0 hz
        go_wp2_with (first
          | ((with_reducible refine wpList_box_st (cs := [.pointer (some ⟨gd, 0, none⟩), .int .i64 (0), .int .i64 (0), .int .i64 (0), .int .i64 (0), .int .i64 0]) rfl (.tmp 14) rfl rfl H.out ?_); intro gl w1 h1; have H1 := hide h1; clear h1 H)
          | (go_at_call 63; refine (scan_calls (l := ⟨0, 0, 0, 0, 0⟩) H1.out HG.out HDE.out (by decide)).mono ?_; rintro z w2 ⟨gm, kvs, rfl, htg, hok, h2⟩; rw [HM.out] at h2; have HTF := hide (funext htg); have HOK := hide hok; have H2 := hide h2; clear h2 H1 htg hok)
          | (go_at_call 64; refine (begins0_calls H2.out mem0 mem1 HOK.out HMO.out).mono ?_; rintro z w3 ⟨rfl, h3⟩; rw [HTF.out, HG0.out]; have H3 := hide h3; clear h3 H2)
          | ((with_reducible refine wpList_storeF_st (cs := [.pointer (some ⟨gd, 0, none⟩), .int .i64 (0), .int .i64 (0), .int .i64 (0), .int .i64 (0), .int .i64 (M : Nat)]) (ds := [.pointer (some ⟨gd, 0, none⟩), .int .i64 ((g0 : Nat)), .int .i64 (0), .int .i64 (0), .int .i64 (0), .int .i64 (M : Nat)]) rfl 3 (.tmp 29) (.tmp 27) rfl szInt rfl rfl rfl rfl H3.out ?_ rfl ?_); (simp); intro w9 h9; have H4 := hide h9; clear h9 H3)
          | (go_at_call 64; refine (begins1_calls (l := ⟨g0, 0, 0, 0, M⟩) H4.out mem0 mem1 HOK.out HMO.out).mono ?_; rintro z w5 ⟨rfl, h5⟩; rw [HTF.out, HG1.out]; have x1 : w5.cell? ⟨gl, 1, none⟩ = some (.int .i64 (g0 : Nat)) := h5.blk_cell mem0 1; have H5 := hide h5; clear h5 H4))
        simp only [Exit.jump]
        go_ret3
        have h9 := H5.out
        rw [HGZ.out] at h9
        exact ⟨gl, _, rfl, by rw [HOP.out, if_pos HGZ.out]; exact ((h9.pick [0, 1] 4 (by decide) (by decide) (by simp)).rows_nil _ _).b2⟩
      · have hgz : ((g0 : Int) == 0) = false := by rw [beq_eq_false_iff_ne]; omega
        clear HOP
        go_wp2_with (first
          | ((with_reducible refine wpList_box_st (cs := [.pointer (some ⟨gd, 0, none⟩), .int .i64 (0), .int .i64 (0), .int .i64 (0), .int .i64 (0), .int .i64 0]) rfl (.tmp 14) rfl rfl H.out ?_); intro gl w1 h1; have H1 := hide h1; clear h1 H)
          | (go_at_call 63; refine (scan_calls (l := ⟨0, 0, 0, 0, 0⟩) H1.out HG.out HDE.out (by decide)).mono ?_; rintro z w2 ⟨gm, kvs, rfl, htg, hok, h2⟩; rw [HM.out] at h2; have HTF := hide (funext htg); have HOK := hide hok; have H2 := hide h2; clear h2 H1 htg hok)
          | (go_at_call 64; refine (begins0_calls H2.out mem0 mem1 HOK.out HMO.out).mono ?_; rintro z w3 ⟨rfl, h3⟩; rw [HTF.out, HG0.out]; have H3 := hide h3; clear h3 H2)
          | ((with_reducible refine wpList_storeF_st (cs := [.pointer (some ⟨gd, 0, none⟩), .int .i64 (0), .int .i64 (0), .int .i64 (0), .int .i64 (0), .int .i64 (M : Nat)]) (ds := [.pointer (some ⟨gd, 0, none⟩), .int .i64 ((g0 : Nat)), .int .i64 (0), .int .i64 (0), .int .i64 (0), .int .i64 (M : Nat)]) rfl 3 (.tmp 29) (.tmp 27) rfl szInt rfl rfl rfl rfl H3.out ?_ rfl ?_); (simp); intro w9 h9; have H4 := hide h9; clear h9 H3)
          | (go_at_call 64; refine (begins1_calls (l := ⟨g0, 0, 0, 0, M⟩) H4.out mem0 mem1 HOK.out HMO.out).mono ?_; rintro z w5 ⟨rfl, h5⟩; rw [HTF.out, HG1.out]; have x1 : w5.cell? ⟨gl, 1, none⟩ = some (.int .i64 (g0 : Nat)) := h5.blk_cell mem0 1; have H5 := hide h5; clear h5 H4))
        refine wp_region_held_drew (S := fun w' => w'.cell? ⟨gl, 2, none⟩ = some (.int .i64 0) ∧ St b (HP.log gl gd ⟨g0, 0, 0, 0, M⟩ :: HP.disk gd d :: HP.tabM gm kvs :: HP.tabD kvs :: L) w') (by kernel_rfl) ?_ (fun hHeld => ?_)
        · exact ⟨H5.out.drew.blk_cell mem0 2, H5.out.drew⟩
        refine wpAnyH_takeD (i := 0) (some 52) (v := ?v0_18) rfl rfl (by kernel_rfl) (by kernel_rfl) (by kernel_rfl) (fun _ _ _ h => h) (by rfl) ?y0_18 (by assumption) ?r0_18
        case y0_18 => (intro w hSw; (try dsimp only at hSw); first | (go_simp; done) | (go_simp; with_reducible rfl))
        try simp only [Act.put, List.setIfInBounds_toArray, List.set_cons_zero, List.set_cons_succ]
        refine wpAnyH_takeD (i := 1) (some 53) (v := ?v1_19) rfl rfl (by kernel_rfl) (by kernel_rfl) (by kernel_rfl) (fun _ _ _ h => h) (by rfl) ?y1_19 (by assumption) ?r1_19
        case y1_19 => (intro w hSw; (try dsimp only at hSw); first | (go_simp; done) | (go_simp; with_reducible rfl))
        try simp only [Act.put, List.setIfInBounds_toArray, List.set_cons_zero, List.set_cons_succ]
        refine wpAnyH_takeD (i := 2) (some 54) (v := ?v2_20) rfl rfl (by kernel_rfl) (by kernel_rfl) (by kernel_rfl) (fun _ _ _ h => h) (by rfl) ?y2_20 (by assumption) ?r2_20
        case y2_20 => (intro w hSw; (try dsimp only at hSw); first | (go_simp; done) | (go_simp; with_reducible rfl))
        try simp only [Act.put, List.setIfInBounds_toArray, List.set_cons_zero, List.set_cons_succ]
        refine wpAnyH_takeD (i := 3) (some 55) (v := ?v3_21) rfl rfl (by kernel_rfl) (by kernel_rfl) (by kernel_rfl) (fun _ _ _ h => h) (by rfl) ?y3_21 (by assumption) ?r3_21
        case y3_21 => (intro w hSw; (try dsimp only at hSw); first | (go_simp; done) | (go_simp; with_reducible rfl))
        try simp only [Act.put, List.setIfInBounds_toArray, List.set_cons_zero, List.set_cons_succ]
        refine wpAnyH_takeD (i := 4) (some 56) (v := ?v4_22) rfl rfl (by kernel_rfl) (by kernel_rfl) (by kernel_rfl) (fun _ _ _ h => h) (by rfl) ?y4_22 (by assumption) ?r4_22
        case y4_22 => (intro w hSw; (try dsimp only at hSw); first | (go_simp; done) | (go_simp; with_reducible rfl))
        try simp only [Act.put, List.setIfInBounds_toArray, List.set_cons_zero, List.set_cons_succ]
        refine wpAnyH_tellsD (i := 5) (some 57) (v := .int .i64 ((d.last.length : Int) / 2)) rfl rfl (by kernel_rfl) (by kernel_rfl) (by kernel_rfl) (fun _ _ _ h => h) ⟨by rfl, 65, #[.pointer (some ⟨gl, 0, none⟩)], fun w hSw => ⟨?y5_23, (by have := lsize_calls hSw.2 HMO.out; exact this.mono (fun x w' h => ⟨h.1, h.2.symm⟩))⟩⟩ (by assumption) ?r5_23
        case y5_23 => first | (go_simp; done) | (go_simp; with_reducible rfl)
        try simp only [Act.put, List.setIfInBounds_toArray, List.set_cons_zero, List.set_cons_succ]
        refine wpAnyH_takeD (i := 6) (some 58) (v := ?v6_24) rfl rfl (by kernel_rfl) (by kernel_rfl) (by kernel_rfl) (fun _ _ _ h => h) (by rfl) ?y6_24 (by assumption) ?r6_24
        case y6_24 => (intro w hSw; (try dsimp only at hSw); first | (go_simp; done) | (go_simp; with_reducible rfl))
        try simp only [Act.put, List.setIfInBounds_toArray, List.set_cons_zero, List.set_cons_succ]
        refine wpAnyH_takeD (i := 7) (some 59) (v := ?v7_25) rfl rfl (by kernel_rfl) (by kernel_rfl) (by kernel_rfl) (fun _ _ _ h => h) (by rfl) ?y7_25 (by assumption) ?r7_25
        case y7_25 => (intro w hSw; (try dsimp only at hSw); first | (go_simp; done) | (go_simp; with_reducible rfl))
        try simp only [Act.put, List.setIfInBounds_toArray, List.set_cons_zero, List.set_cons_succ]
        refine wpAnyH_takeD (i := 8) (some 60) (v := ?v8_26) rfl rfl (by kernel_rfl) (by kernel_rfl) (by kernel_rfl) (fun _ _ _ h => h) (by rfl) ?y8_26 (by assumption) ?r8_26
        case y8_26 => (intro w hSw; (try dsimp only at hSw); first | (go_simp; done) | (go_simp; with_reducible rfl))
        try simp only [Act.put, List.setIfInBounds_toArray, List.set_cons_zero, List.set_cons_succ]
        refine wpAnyH_takeD (i := 9) (some 61) (v := ?v9_27) rfl rfl (by kernel_rfl) (by kernel_rfl) (by kernel_rfl) (fun _ _ _ h => h) (by rfl) ?y9_27 (by assumption) ?r9_27
        case y9_27 => (intro w hSw; (try dsimp only at hSw); first | (go_simp; done) | (go_simp; with_reducible rfl))
        try simp only [Act.put, List.setIfInBounds_toArray, List.set_cons_zero, List.set_cons_succ]
        refine wpAnyH_takeD (i := 10) (some 62) (v := ?v10_28) rfl rfl (by kernel_rfl) (by kernel_rfl) (by kernel_rfl) (fun _ _ _ h => h) (by rfl) ?y10_28 (by assumption) ?r10_28
        case y10_28 => (intro w hSw; (try dsimp only at hSw); first | (go_simp; done) | (go_simp; with_reducible rfl))
        try simp only [Act.put, List.setIfInBounds_toArray, List.set_cons_zero, List.set_cons_succ]
        refine wpAnyH_takeD (i := 11) (some 63) (v := ?v11_29) rfl rfl (by kernel_rfl) (by kernel_rfl) (by kernel_rfl) (fun _ _ _ h => h) (by rfl) ?y11_29 (by assumption) ?r11_29
        case y11_29 => (intro w hSw; (try dsimp only at hSw); first | (go_simp; done) | (go_simp; with_reducible rfl))
        try simp only [Act.put, List.setIfInBounds_toArray, List.set_cons_zero, List.set_cons_succ]
        refine wpAnyH_takeD (i := 12) (some 64) (v := ?v12_30) rfl rfl (by kernel_rfl) (by kernel_rfl) (by kernel_rfl) (fun _ _ _ h => h) (by rfl) ?y12_30 (by assumption) ?r12_30
        case y12_30 => (intro w hSw; (try dsimp only at hSw); first | (go_simp; done) | (go_simp; with_reducible rfl))
        try simp only [Act.put, List.setIfInBounds_toArray, List.set_cons_zero, List.set_cons_succ]
        refine wpAnyH_tellsD (i := 13) (some 65) (v := .int .i64 ((d.last.length : Int) / 2)) rfl rfl (by kernel_rfl) (by kernel_rfl) (by kernel_rfl) (fun _ _ _ h => h) ⟨by rfl, 65, #[.pointer (some ⟨gl, 0, none⟩)], fun w hSw => ⟨?y13_31, (by have := lsize_calls hSw.2 HMO.out; exact this.mono (fun x w' h => ⟨h.1, h.2.symm⟩))⟩⟩ (by assumption) ?r13_31
        case y13_31 => first | (go_simp; done) | (go_simp; with_reducible rfl)
        try simp only [Act.put, List.setIfInBounds_toArray, List.set_cons_zero, List.set_cons_succ]
        refine wpAnyH_takeD (i := 14) (some 66) (v := ?v14_32) rfl rfl (by kernel_rfl) (by kernel_rfl) (by kernel_rfl) (fun _ _ _ h => h) (by rfl) ?y14_32 (by assumption) ?r14_32
        case y14_32 => (intro w hSw; (try dsimp only at hSw); first | (go_simp; done) | (go_simp; with_reducible rfl))
        try simp only [Act.put, List.setIfInBounds_toArray, List.set_cons_zero, List.set_cons_succ]
        refine wpAnyH_takeD (i := 15) (some 7) (v := ?v15_33) rfl rfl (by kernel_rfl) (by kernel_rfl) (by kernel_rfl) (fun _ _ _ h => h) (by rfl) ?y15_33 (by assumption) ?r15_33
        case y15_33 => (intro w hSw; (try dsimp only at hSw); first | (go_simp; done) | (go_simp; with_reducible rfl))
        try simp only [Act.put, List.setIfInBounds_toArray, List.set_cons_zero, List.set_cons_succ]
        refine wpAnyH_takeD (i := 16) (some 8) (v := ?v16_34) rfl rfl (by kernel_rfl) (by kernel_rfl) (by kernel_rfl) (fun _ _ _ h => h) (by rfl) ?y16_34 (by assumption) ?r16_34
        case y16_34 => (intro w hSw; (try dsimp only at hSw); first | (go_simp; done) | (go_simp; with_reducible rfl))
        try simp only [Act.put, List.setIfInBounds_toArray, List.set_cons_zero, List.set_cons_succ]
        refine wpAnyH_done (by kernel_rfl) ?_ _
        have hfe := HFE.out
        have w1 : IntKind.i64.wrap 1 = 1 := wrap_small (by omega) (by omega)
        have e7 : IntKind.i64.wrap (0) = fr := by rw [wrap_small (by omega) (by omega)]; omega
        have e8 : IntKind.i64.wrap (IntKind.i64.wrap 1 * ((d.last.length : Int) / 2)) = en := by rw [w1, wrap_small (by omega) (by omega)]; omega
        rewrite [e7, e8]
        have H9 := hide hHeld.2
        clear hHeld e7 e8 w1 H5
        go_wp2_with fail
        go_step3
        rename_i hk
        refine hk _ _ (again _ _ ?_)
        exact (OpAt.put 300 0 0 [] none 0 0 gl gm kvs rfl ⟨by omega, HTF.out, HOK.out, rfl, rfl, by omega, ⟨by omega, by omega, by omega⟩, by omega, by rw [HQ0.out]; rfl⟩ (H9.out.rows_nil _ _).b4)
end Go.Proofs.YtcgnkloljfgiaaaGreatDoor
