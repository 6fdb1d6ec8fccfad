/-
  The law DiskLasts (under way).
-/
import Derived.Test.YtbeabedpmoalpaaLPlays
import Derived.Test.YtbeabedpmoalpaaRk7
import Derived.Deep.CutRange
import Derived.Deep.CutBlock
import Derived.Deep.RegionHeld3
namespace Go.Proofs.Ytbeabedpmoalpaa
open Go.RowKit Go.Maps Go.MapKept
variable {e : Env} {L : List HP} {w : World}

theorem made_one (v : Value) (hv : v.cells = #[v]) (n : Nat) : (madeCells v.cells (n * 1)).toList = List.replicate n v := by
  rw [hv]
  apply List.ext_getElem
  · simp [size_madeCells]
  · intro i h1 h2
    simp [madeCells, Nat.mod_one]

/-- Rows of bytes: the k-th is told where p holds. -/
structure SomeOk (e : Env) (p : Nat → Bool) (vs : List Value) (f : Nat → List UInt8) : Prop where
  len : vs.length = 16
  each : ∀ i, i < 16 → p i = true → ∃ u, vs[i]? = some u ∧ View e.h u (f i).length ((f i).map B8) ∧ (f i).length = 64

theorem SomeOk.le {e e' : Env} {p : Nat → Bool} {vs : List Value} {f : Nat → List UInt8} (h : SomeOk e p vs f) (hle : e.le e') : SomeOk e' p vs f :=
  ⟨h.len, fun i hi hp => let ⟨u, h1, h2, h3⟩ := h.each i hi hp; ⟨u, h1, h2.le hle, h3⟩⟩

theorem SomeOk.set {p : Nat → Bool} {vs : List Value} {f : Nat → List UInt8} (h : SomeOk e p vs f) (k : Nat) {u : Value} {x : List UInt8} (hu : View e.h u x.length (x.map B8)) (hx : x.length = 64) :
    SomeOk e (fun i => if k = i then true else p i) (vs.set k u) (fun i => if k = i then x else f i) := by
  refine ⟨by simp [h.len], fun i hi hp => ?_⟩
  by_cases hki : k = i
  · subst hki
    exact ⟨u, List.getElem?_set_self (by rw [h.len]; exact hi), by simpa using hu, by simpa using hx⟩
  · simp only [hki, if_false] at hp ⊢
    obtain ⟨u', h1, h2, h3⟩ := h.each i hi hp
    exact ⟨u', by rw [List.getElem?_set_ne hki]; exact h1, h2, h3⟩

def Nils : List Value := List.replicate 16 (.slice none 0 0)
abbrev R16 (g : Nat) (vs : List Value) : HP := HP.row 32 1 (.slice (some ⟨g, 0, none⟩) 16 16) 16 vs
abbrev B16 (g : Nat) (fs : List Bool) : HP := HP.row 4 1 (.slice (some ⟨g, 0, none⟩) 16 16) 16 (fs.map Value.bool)

/-- The first loop: the first k of was are noughts. -/
def L1At (e : Env) (b g1 g2 g3 : Nat) (L : List HP) (i : Value) (w : World) : Prop :=
  ∃ k : Nat, k ≤ 16 ∧ i = .int .i64 k ∧ ∃ e' vs, e.le e' ∧ SomeOk e' (fun j => decide (j < k)) vs (fun _ => zs) ∧ Sat e' (R16 g1 vs :: R16 g2 Nils :: B16 g3 (List.replicate 16 false) :: HP.disk b (Dk.fresh0 16) :: L) w

def M2At (e : Env) (b g1 g2 g3 : Nat) (L : List HP) (w : World) : Prop :=
  ∃ k : Nat, k ≤ 30 ∧ ∃ e' vs f d, e.le e' ∧ SomeOk e' (fun _ => true) vs f ∧ Alive d 16 k ∧ (∀ j : Nat, j < 16 → d.cur j = f j) ∧ Sat e' (R16 g1 vs :: R16 g2 Nils :: B16 g3 (List.replicate 16 false) :: HP.disk b d :: L) w

/-- The second loop: was is what is read. -/
def L2At (e : Env) (b g1 g2 g3 : Nat) (L : List HP) (len : Nat) (i : Value) (w : World) : Prop :=
  ∃ k : Nat, k ≤ len ∧ k ≤ 30 ∧ i = .int .i64 k ∧ ∃ e' vs f d, e.le e' ∧ SomeOk e' (fun _ => true) vs f ∧ Alive d 16 k ∧ (∀ j : Nat, j < 16 → d.cur j = f j) ∧ Sat e' (R16 g1 vs :: R16 g2 Nils :: B16 g3 (List.replicate 16 false) :: HP.disk b d :: L) w

structure Kept (d : Dk) (f f2 : Nat → List UInt8) (fs : List Bool) : Prop where
  len : fs.length = 16
  lst : ∀ j : Nat, j < 16 → d.lst j = f j
  fr : ∀ j : Nat, j < 16 → kget d.fresh (j : Int) = if fs.getD j false = true then some (f2 j) else none

theorem rep_get (j : Nat) : (List.replicate 16 false).getD j false = false := by
  rw [List.getD_eq_getElem?_getD, List.getElem?_replicate]; split <;> rfl
theorem Sat.rot4 {A B C D : HP} (h : Sat e (A :: B :: C :: D :: L) w) : Sat e (B :: C :: D :: A :: L) w := h.pick [1, 2, 3, 0] 4 (by decide) (by decide) (by simp)
theorem Sat.rev4 {A B C D : HP} (h : Sat e (A :: B :: C :: D :: L) w) : Sat e (D :: C :: B :: A :: L) w := h.pick [3, 2, 1, 0] 4 (by decide) (by decide) (by simp)

theorem Kept.start {d : Dk} {k : Int} (h : Alive d 16 k) (f : Nat → List UInt8) (hf : ∀ j : Nat, j < 16 → d.cur j = f j) : Kept d.flushed f f (List.replicate 16 false) := by
  refine ⟨by simp, fun j hj => ?_, fun j hj => ?_⟩
  · rw [(flushed_cur h.good.fine j (by omega) (by rw [h.len]; omega)).2]; exact hf j hj
  · rw [flushed_fresh h.good.fine, rep_get]; rfl

theorem Kept.write {d : Dk} {f f2 : Nat → List UInt8} {fs : List Bool} (h : Kept d f f2 fs) (N : Nat) (hN : N < 16) (x : List UInt8) : Kept (d.wrote N x) f (fun i => if N = i then x else f2 i) (fs.set N true) := by
  refine ⟨by simp [h.len], fun j hj => by rw [wrote_lst]; exact h.lst j hj, fun j hj => ?_⟩
  rw [wrote_fresh, kget_kput, getD_set]
  by_cases hj2 : N = j
  · subst hj2; simp [h.len, hN]
  · have : ¬ ((N : Int) = (j : Int)) := by omega
    rw [if_neg this, h.fr j hj]; simp [hj2]

theorem Kept.crashed {d : Dk} {f f2 : Nat → List UInt8} {fs : List Bool} {k : Int} (h : Kept d f f2 fs) (ha : Alive d 16 k) (pick : List UInt8) (j : Nat) (hj : j < 16) :
    (d.crashed pick).cur j = if fs.getD j false = true ∧ bitOf pick (rank (fun i => fs.getD i false) j) = true then f2 j else f j := by
  have hl : (j : Int) < d.last.length := by rw [ha.len]; omega
  obtain ⟨i1, i2⟩ := crashed_cur ha.good.fine pick j (by omega) hl
  have hp := picked_iff ha.good.fine (bitOf pick) j (by rw [ha.len]; exact hj)
  have hs : (kget d.fresh (j : Int)).isSome = fs.getD j false := by rw [h.fr j hj]; cases fs.getD j false <;> simp
  have hr : rank (fun i : Nat => (kget d.fresh (i : Int)).isSome) j = rank (fun i => fs.getD i false) j := by
    unfold rank idxs
    congr 1
    refine List.filter_congr (fun i hi => ?_)
    have hi' : i < j := by simpa using hi
    show (kget d.fresh (i : Int)).isSome = _
    rw [h.fr i (by omega)]; cases fs.getD i false <;> simp
  rw [hs, hr] at hp
  by_cases hc : fs.getD j false = true ∧ bitOf pick (rank (fun i => fs.getD i false) j) = true
  · rw [if_pos hc, i1 (hp.2 hc)]
    unfold Dk.cur; rw [h.fr j hj, if_pos hc.1]; rfl
  · rw [if_neg hc, i2 (fun x => hc (hp.1 x))]; exact h.lst j hj

theorem rank_le (p : Nat → Bool) (n : Nat) : rank p n ≤ n := by
  have := List.length_filter_le p (List.range n)
  simpa [rank, idxs] using this

theorem rows_ne {E E' : TypeId} {s s' g g' n n' m m' cap cap' : Nat} {xs xs' : List Value} (h : Sat e (HP.row E s (.slice (some ⟨g, 0, none⟩) m cap) n xs :: HP.row E' s' (.slice (some ⟨g', 0, none⟩) m' cap') n' xs' :: L) w) : ¬ g' = g := by
  obtain ⟨_, ⟨hx, _⟩ | ⟨g1, c1, cur, hv, _, _, _, _, h3⟩⟩ := h.row_open
  · cases hx
  · simp only [Value.slice.injEq, Option.some.injEq, Addr.mk.injEq, and_true] at hv
    rw [hv.1]
    exact h3.row_ne

theorem b16_set (g : Nat) (fs : List Bool) (N : Nat) : B16 g (fs.set N true) = HP.row 4 1 (.slice (some ⟨g, 0, none⟩) 16 16) 16 ((fs.map Value.bool).set N (.bool true)) := by
  unfold B16; rw [List.map_set]

theorem nils_ok (e : Env) (f : Nat → List UInt8) : SomeOk e (fun j => (List.replicate 16 false).getD j false) Nils f :=
  ⟨by simp [Nils], fun i hi hp => by rw [rep_get] at hp; cases hp⟩

def M3At (e : Env) (b g1 g2 g3 : Nat) (L : List HP) (k : Nat) (w : World) : Prop :=
  ∃ e' vs f ns f2 fs d K, e.le e' ∧ SomeOk e' (fun _ => true) vs f ∧ SomeOk e' (fun j => fs.getD j false) ns f2 ∧ Kept d f f2 fs ∧ K ≤ 31 + (k : Int) ∧ Alive d 16 K ∧ Sat e' (R16 g1 vs :: R16 g2 ns :: B16 g3 fs :: HP.disk b d :: L) w
def C3At (e : Env) (b g1 g2 g3 : Nat) (L : List HP) (w : World) : Prop := ∃ k : Nat, k ≤ 30 ∧ M3At e b g1 g2 g3 L k w
/-- The third loop: what is fresh is now. -/
def L3At (e : Env) (b g1 g2 g3 : Nat) (L : List HP) (len : Nat) (i : Value) (w : World) : Prop := ∃ k : Nat, k ≤ len ∧ k ≤ 30 ∧ i = .int .i64 k ∧ M3At e b g1 g2 g3 L k w
/-- The fourth loop. -/
def L4At (e : Env) (b g1 g2 g3 : Nat) (vs ns : List Value) (fs : List Bool) (d : Dk) (L : List HP) (kk i : Value) (w : World) : Prop :=
  ∃ k : Nat, k ≤ 16 ∧ i = .int .i64 k ∧ kk = .int .i64 (rank (fun i => fs.getD i false) k) ∧ Sat e (HP.disk b d :: R16 g1 vs :: R16 g2 ns :: B16 g3 fs :: L) w

set_option maxRecDepth 100000 in
set_option maxHeartbeats 4000000 in
theorem diskLasts_calls (h : Sat e L w) (va : Value) (xs : List CallR) (Ha : CallsV e.h va xs) (vb : Value) (bs : List CallR) (Hb : CallsV e.h vb bs) (vp : Value) (pick : List UInt8) (HP' : View e.h vp pick.length (pick.map B8)) :
    Calls Try.prog 6 #[va, vb, vp] w fun x w' => x = .returned (.bool true) ∧ ∃ e', e.le e' ∧ Sat e' L w' := by
  obtain ⟨i0, hi, hz0, hz1, hz2⟩ := info_parts info_u8
  obtain ⟨i1, hi1, hx0, hx1, hx2⟩ := info_parts info_sl
  obtain ⟨i2, hi2, hy0, hy1, hy2⟩ := info_parts info_bool
  have HI := hide hi
  have HI1 := hide hi1
  have HI2 := hide hi2
  have HS := hide h
  have HVA := hide Ha
  have HVB := hide Hb
  have HVP := hide HP'
  obtain ⟨abase, acap, hav, _⟩ := Ha.view
  subst hav
  obtain ⟨bbase, bcap, hbv, _⟩ := Hb.view
  subst hbv
  obtain ⟨pbase, pcap, hpv, _⟩ := HP'
  subst hpv
  clear h Ha Hb hi hi1 hi2
  cases hfa : fewB xs with
  | false =>
    have M1 := hide hfa
    clear hfa
    go_enter Try.func6, Try.ntmps6
    go_wp2_with (first
      | (go_at_call 12; refine (known_calls HS.out).mono ?_; rintro x w1 ⟨rfl, h1⟩; have H1 := hide h1; clear h1 HS)
      | (go_at_call 23; have hm := M1.out; refine (few_calls _ xs (HVA.out.sat H1.out)).mono ?_; rintro x w2 ⟨rfl, rfl⟩; rw [hm]; clear hm M1))
    go_ret
    exact ⟨rfl, e, Env.le_refl e, H1.out⟩
  | true =>
    cases hfb : fewB bs with
    | false =>
      have M1 := hide hfa
      have M2 := hide hfb
      clear hfa hfb
      go_enter Try.func6, Try.ntmps6
      go_wp2_with (first
        | (go_at_call 12; refine (known_calls HS.out).mono ?_; rintro x w1 ⟨rfl, h1⟩; have H1 := hide h1; clear h1 HS)
        | (go_at_call 23; have hm := M1.out; refine (few_calls _ xs (HVA.out.sat H1.out)).mono ?_; rintro x w2 ⟨rfl, rfl⟩; rw [hm]; clear hm M1)
        | (go_at_call 23; refine (few_calls _ bs (HVB.out.sat H1.out)).mono ?_; rintro x w2 ⟨rfl, rfl⟩; rw [M2.out]))
      go_ret
      exact ⟨rfl, e, Env.le_refl e, H1.out⟩
    | true =>
      have M1 := hide hfa
      have M2 := hide hfb
      clear hfa hfb
      go_enter Try.func6, Try.ntmps6
      go_wp2_with (first
        | (go_at_call 12; refine (known_calls HS.out).mono ?_; rintro x w1 ⟨rfl, h1⟩; have H1 := hide h1; clear h1 HS)
        | (go_at_call 23; have hm := M1.out; refine (few_calls _ xs (HVA.out.sat H1.out)).mono ?_; rintro x w2 ⟨rfl, rfl⟩; rw [hm]; clear hm M1)
        | (go_at_call 23; refine (few_calls _ bs (HVB.out.sat H1.out)).mono ?_; rintro x w2 ⟨rfl, rfl⟩; rw [M2.out])
        | (go_at_call 14; refine (new_good H1.out 16 (by omega) (by omega) (by omega)).mono ?_; rintro x w5 ⟨b4, rfl, h5⟩; have H5 := hide h5; clear h5 H1))
      go_cut [9, 10] from 38 to 39 (fun s9 s10 wx => ∃ g1 g2, s9 = .slice (some ⟨g1, 0, none⟩) 16 16 ∧ s10 = .slice (some ⟨g2, 0, none⟩) 16 16 ∧
        Sat e (HP.row 32 1 (.slice (some ⟨g1, 0, none⟩) 16 16) 16 (List.replicate 16 (.slice none 0 0)) :: HP.row 32 1 (.slice (some ⟨g2, 0, none⟩) 16 16) 16 (List.replicate 16 (.slice none 0 0)) :: HP.disk b4 (Dk.fresh0 16) :: L) wx)
      case first =>
        obtain ⟨g1, w1, hm1, h6⟩ : ∃ g w', (Instr.makeSlice 45 (.int .i64 16) (.int .i64 16)).run Try.prog _ = .ok (.slice (some ⟨g, 0, none⟩) 16 16) w' ∧ _ := H5.out.drew.make_ex Try.underlying45 HI1.out hx0 hx1 hx2 .i64 .i64 16 (by omega) (by unfold maxLen; omega)
        obtain ⟨g2, w2, hm2, h7⟩ : ∃ g w', (Instr.makeSlice 45 (.int .i64 16) (.int .i64 16)).run Try.prog _ = .ok (.slice (some ⟨g, 0, none⟩) 16 16) w' ∧ _ := h6.make_ex Try.underlying45 HI1.out hx0 hx1 hx2 .i64 .i64 16 (by omega) (by unfold maxLen; omega)
        have hml : (madeCells (Value.slice none 0 0).cells (16 * 1)).toList = List.replicate 16 (.slice none 0 0) := by
          exact made_one _ rfl 16
        have h7' : Sat e (HP.row 32 1 (.slice (some ⟨g2, 0, none⟩) 16 16) 16 (List.replicate 16 (.slice none 0 0)) :: HP.row 32 1 (.slice (some ⟨g1, 0, none⟩) 16 16) 16 (List.replicate 16 (.slice none 0 0)) :: HP.disk b4 (Dk.fresh0 16) :: L) w2 := by rw [← hml]; exact h7
        have H7 := hide h7'
        clear h6 h7 h7' hml
        go_region_with fail
        all_goals (go_wp2_with fail; go_meet)
        all_goals (first | exact ⟨g1, g2, rfl, rfl, H7.out.swap⟩ | exact ⟨g2, g1, rfl, rfl, H7.out⟩ | exact ⟨g1, g2, H7.out.swap⟩ | exact ⟨g2, g1, H7.out⟩ | (refine ⟨g1, g2, ?_⟩; simpa using H7.out.swap) | (refine ⟨g2, g1, ?_⟩; simpa using H7.out))
      case rest =>
        obtain ⟨g1, g2, rfl, rfl, h7⟩ := hcut
        have H7 := hide h7
        clear h7 H5
        go_wp2_with (at_make; (with_reducible refine wpList_make_sl rfl (.const (.int .i64 16)) (.const (.int .i64 16)) 46 rfl Try.underlying46 HI2.out hy0 hy1 hy2 16 rfl rfl (by omega) (by omega) H7.out (by omega) (by unfold maxLen; omega) ?_); intro g3 w8 h8; rw [made_one _ rfl] at h8; have H8 := hide h8; clear h8 H7)
        go_loopw [12] (fun i wr => L1At e b4 g1 g2 g3 L i wr) (fun i _ => 16 - (intOf i).toNat)
        case atStart => exact ⟨0, by omega, rfl, e, Nils, Env.le_refl e, ⟨by simp [Nils], fun i _ hp => by simp at hp⟩, H8.out.rot3⟩
        case round =>
          obtain ⟨k, hk, rfl, e0, vs, hle, hok, hs⟩ := hrel
          have HE := hide hle
          have HOK := hide hok
          have H9 := hide hs
          clear hle hok hs H8
          by_cases hlt : (k : Int) < 16
          · have hkv : k < vs.length := by rw [HOK.out.len]; omega
            go_wp2_with (at_make; (with_reducible refine wpList_make_sl rfl (.const (.int .i64 64)) (.const (.int .i64 64)) 32 rfl Try.underlying32 HI.out hz0 hz1 hz2 64 rfl rfl (by omega) (by omega) H9.out (by omega) (by unfold maxLen; omega) ?_); intro g10 w10 h10; rw [made_u8] at h10; obtain ⟨e10, hle10, V10, h10'⟩ := (zs_row h10).row_persist; have hc := h10'.row_cell hkv; have c1 := hc.1; have f1 := hc.2.1; rw [List.getElem?_eq_getElem hkv] at c1; have HQ := hide (hc.2.2 (.slice (some ⟨g10, 0, none⟩) 64 64)); have HE10 := hide hle10; have HV10 := hide V10; clear h10 h10' hle10 V10 hc H9)
            go_roundw
            case rel =>
              refine ⟨k + 1, by omega, by go_num, e10, _, HE.out.trans HE10.out, ?_, HQ.out⟩
              have hx := (HOK.out.le HE10.out).set k HV10.out rfl
              refine ⟨hx.len, fun i hi hp => ?_⟩
              have hp' : i < k + 1 := by simpa using hp
              obtain ⟨u, a1, a2, a3⟩ := hx.each i hi (by by_cases hki : k = i <;> simp [hki]; omega)
              refine ⟨u, a1, ?_, rfl⟩
              by_cases hki : k = i
              · simpa [hki] using a2
              · simpa [hki] using a2
            case measure => simp [intOf]; omega
          · have hk16 : k = 16 := by omega
            subst hk16
            go_upto_block 2 with fail
            go_cut [13, 14] from 49 to 86 (fun _ _ wx => M2At e b4 g1 g2 g3 L wx)
            case first =>
              go_wp2_with fail
              go_loopw [13] (fun i wr => L2At e b4 g1 g2 g3 L xs.length i wr) (fun i _ => 30 - (intOf i).toNat)
              case atStart => exact ⟨0, by omega, by omega, rfl, e0, vs, _, _, HE.out, ⟨HOK.out.len, fun i hi _ => HOK.out.each i hi (by simpa using hi)⟩, alive_fresh 16 (by omega), fun j hj => fresh0_cur _ (by omega) (by omega), H9.out⟩
              case round =>
                obtain ⟨k, hk, hk30, rfl, e1, vs, f, d, hle, hok, hal, hcur, hs⟩ := hrel
                have HE1 := hide hle
                have HOK1 := hide hok
                have HAL := hide hal
                have HCU := hide hcur
                have H11 := hide hs
                clear hle hok hal hcur hs H9 HOK HE
                by_cases hlt : k < xs.length ∧ k < 30
                · obtain ⟨hlt1, hlt2⟩ := hlt
                  obtain ⟨b', o', cap', hv', c0, c1, c2, c3⟩ := ((HVA.out.le HE1.out).sat H11.out).cells hlt1
                  simp only [Value.slice.injEq, true_and] at hv'
                  obtain ⟨rfl, rfl⟩ := hv'
                  have HCC : Hid (∀ e' L' w', e1.le e' → Sat e' L' w' → w'.cell? ⟨b', o' + k * 4 + 2, none⟩ = some (.int .i64 xs[k].n) ∧ w'.cell? ⟨b', o' + k * 4 + 3, none⟩ = some xs[k].dv) := hide (fun e' L' w' hle hs => by
                    obtain ⟨b2', o2', cap2, hv2, _, _, a2, a3⟩ := ((HVA.out.le (HE1.out.trans hle)).sat hs).cells hlt1
                    simp only [Value.slice.injEq, Option.some.injEq, Addr.mk.injEq, true_and, and_true] at hv2
                    obtain ⟨⟨rfl, rfl⟩, _⟩ := hv2
                    exact ⟨a2, a3⟩)
                  have HCK := hide ((HVA.out.le HE1.out).each _ (List.getElem_mem hlt1))
                  generalize xs[k] = c at c0 c1 c2 c3 HCK HCC
                  have hlt1' : (k : Int) < xs.length := by omega
                  have hlt2' : (k : Int) < 30 := by omega
                  have hp := HCK.out.pos
                  obtain ⟨N, hN⟩ : ∃ J : Nat, c.pos % 16 = J := ⟨(c.pos % 16).toNat, by omega⟩
                  have hN16 : (N : Int) < 16 := by omega
                  have hNv : N < vs.length := by rw [HOK1.out.len]; omega
                  go_wp2_with (go_at_call 13; refine (within_calls _ _ (by omega) (by omega) hp.1 hp.2).mono ?_; rintro x w4 ⟨rfl, rfl⟩; rw [hN])
                  have H12 := hide H11.out.drew
                  have q1 := HCC.out _ _ _ (Env.le_refl _) H12.out
                  clear H11
                  go_region_held3 (fun w' => w'.cell? ⟨b', o' + k * 4 + 2, none⟩ = some (.int .i64 c.n) ∧ w'.cell? ⟨b', o' + k * 4 + 3, none⟩ = some c.dv)
                    (first | exact q1 | exact q2 | exact q3)
                    (first
                      | (go_at_call 19; refine (sector_calls H12.out c.n _ c.data HCK.out.view).mono ?_; rintro x w13 ⟨g13, rfl, h13⟩; obtain ⟨e13, hle13, V13, h13'⟩ := (sec_own' h13).row_persist; have q2 := HCC.out _ _ _ hle13 h13'; have hc := h13'.row_cell hNv; have c4 := hc.1; have f4 := hc.2.1; rw [List.getElem?_eq_getElem hNv] at c4; have hq := hc.2.2 (.slice (some ⟨g13, 0, none⟩) 64 64); have q3 := HCC.out _ _ _ hle13 hq; have HQ := hide hq; have HE13 := hide hle13; have HV13 := hide V13; clear h13 h13' hle13 V13 hc hq H12))
                  clear q1 q2 q3 c4 f4
                  generalize w13.setCell _ _ = W13 at HQ ⊢
                  have c5 := (HQ.out.row_cell (i := N) (by rw [List.length_set]; exact hNv)).1
                  rw [List.getElem?_set_self hNv] at c5
                  have H14 := hide HQ.out.bring4
                  clear HQ
                  go_wp2_with (go_at_call 20; refine (write_gen H14.out HAL.out.good _ _ (secOf c.n c.data) (fun d' w' hs => HV13.out.sat hs)).mono ?_; rintro x w15 ⟨rfl, h15⟩; obtain ⟨a1, a2, a3⟩ := alive_write HAL.out (by omega) (N : Int) (by omega) hN16 (secOf c.n c.data) (secOf_len _ _); rw [a1]; rw [a2] at h15; have HA15 := hide a3; have H15 := hide (h15.pick [1, 2, 3, 0] 4 (by decide) (by decide) (by simp)); clear h15 H14 a1 a2 a3)
                  go_roundw
                  case rel =>
                    have hset := (HOK1.out.le HE13.out).set N HV13.out (secOf_len _ _)
                    refine ⟨k + 1, by omega, by omega, by go_num, e13, _, _, _, HE1.out.trans HE13.out, ⟨hset.len, fun i hi _ => hset.each i hi (by by_cases hki : N = i <;> simp [hki])⟩, HA15.out, fun j hj => ?_, H15.out⟩
                    rw [wrote_cur]
                    by_cases hki : N = j
                    · subst hki; simp
                    · rw [if_neg (by omega), if_neg hki]; exact HCU.out j hj
                  case measure => simp [intOf]; omega
                · have hdisj : Hid (¬ (k < xs.length ∧ k < 30)) := hide hlt
                  clear hlt
                  by_cases hkl : (k : Int) < xs.length
                  · have hk8 : ¬ (k : Int) < 30 := fun hx => hdisj.out (by omega)
                    go_wp2_with fail
                    go_meet
                    case rel => exact ⟨k, by omega, e1, vs, f, d, HE1.out, HOK1.out, HAL.out, HCU.out, H11.out⟩
                  · go_wp2_with fail
                    go_meet
                    case rel => exact ⟨k, by omega, e1, vs, f, d, HE1.out, HOK1.out, HAL.out, HCU.out, H11.out⟩
            case rest =>
              obtain ⟨k0, hk0, e1, vs, f, d, hle, hok, hal, hcur, hs⟩ := hcut
              have HE1 := hide hle
              have HOK1 := hide hok
              have HAL := hide hal
              have HKS := hide (Kept.start hal f hcur)
              have H11 := hide hs.bring4
              clear hle hok hal hcur hs H9 HOK HE
              go_upto_block 4 with (go_at_call 22; refine (flush_gen H11.out HAL.out.good).mono ?_; rintro x w16 ⟨rfl, h16⟩; obtain ⟨a1, a2, a3⟩ := alive_flush HAL.out (by omega); rw [a1]; rw [a2] at h16; have HA16 := hide a3; have H16 := hide (h16.pick [1, 2, 3, 0] 4 (by decide) (by decide) (by simp)); clear h16 H11 a1 a2 a3)
              go_cut [15, 16] from 90 to 130 (fun _ _ wx => C3At e b4 g1 g2 g3 L wx)
              case first =>
                go_wp2_with fail
                go_loopw [15] (fun i wr => L3At e b4 g1 g2 g3 L bs.length i wr) (fun i _ => 30 - (intOf i).toNat)
                case atStart => exact ⟨0, by omega, by omega, rfl, e1, vs, f, Nils, f, _, _, _, HE1.out, HOK1.out, nils_ok _ _, HKS.out, by omega, HA16.out, H16.out⟩
                case round =>
                  obtain ⟨k, hk, hk30, rfl, e2, vs2, f', ns, f2, fs, d2, K, hle2, hok2, hokn, hkp, hK, hal2, hs⟩ := hrel
                  have HE2 := hide hle2
                  have HOK2 := hide hok2
                  have HOKN := hide hokn
                  have HKP := hide hkp
                  have HAL2 := hide hal2
                  have H17 := hide hs
                  clear hle2 hok2 hokn hkp hal2 hs HE1 HOK1 HAL HKS H16 HA16
                  by_cases hlt : k < bs.length ∧ k < 30
                  · obtain ⟨hlt1, hlt2⟩ := hlt
                    obtain ⟨b', o', cap', hv', c0, c1, c2, c3⟩ := ((HVB.out.le HE2.out).sat H17.out).cells hlt1
                    simp only [Value.slice.injEq, true_and] at hv'
                    obtain ⟨rfl, rfl⟩ := hv'
                    have HCC : Hid (∀ e' L' w', e2.le e' → Sat e' L' w' → w'.cell? ⟨b', o' + k * 4 + 2, none⟩ = some (.int .i64 bs[k].n) ∧ w'.cell? ⟨b', o' + k * 4 + 3, none⟩ = some bs[k].dv) := hide (fun e' L' w' hle hs => by
                      obtain ⟨b2', o2', cap2, hv2, _, _, a2, a3⟩ := ((HVB.out.le (HE2.out.trans hle)).sat hs).cells hlt1
                      simp only [Value.slice.injEq, Option.some.injEq, Addr.mk.injEq, true_and, and_true] at hv2
                      obtain ⟨⟨rfl, rfl⟩, _⟩ := hv2
                      exact ⟨a2, a3⟩)
                    have HCK := hide ((HVB.out.le HE2.out).each _ (List.getElem_mem hlt1))
                    generalize bs[k] = c at c0 c1 c2 c3 HCK HCC
                    have hlt1' : (k : Int) < bs.length := by omega
                    have hlt2' : (k : Int) < 30 := by omega
                    have hp := HCK.out.pos
                    obtain ⟨N, hN⟩ : ∃ J : Nat, c.pos % 16 = J := ⟨(c.pos % 16).toNat, by omega⟩
                    have hN16 : (N : Int) < 16 := by omega
                    have hNn : N < ns.length := by rw [HOKN.out.len]; omega
                    have hNf : N < (fs.map Value.bool).length := by rw [List.length_map, HKP.out.len]; omega
                    go_wp2_with (go_at_call 13; refine (within_calls _ _ (by omega) (by omega) hp.1 hp.2).mono ?_; rintro x w4 ⟨rfl, rfl⟩; rw [hN])
                    have H18 := hide H17.out.drew
                    have q1 := HCC.out _ _ _ (Env.le_refl _) H18.out
                    clear H17
                    go_region_held3 (fun w' => w'.cell? ⟨b', o' + k * 4 + 2, none⟩ = some (.int .i64 c.n) ∧ w'.cell? ⟨b', o' + k * 4 + 3, none⟩ = some c.dv)
                      (first | exact q1 | exact q2 | exact q3 | exact q4)
                      (first
                        | (go_at_call 19; refine (sector_calls H18.out c.n _ c.data HCK.out.view).mono ?_; rintro x w19 ⟨g19, rfl, h19⟩; obtain ⟨e19, hle19, V19, h19'⟩ := (sec_own' h19).row_persist; have q2 := HCC.out _ _ _ hle19 h19'; have hc := h19'.swap.row_cell hNn; have c4 := hc.1; have f4 := hc.2.1; rw [List.getElem?_eq_getElem hNn] at c4; have hq := hc.2.2 (.slice (some ⟨g19, 0, none⟩) 64 64); have q3 := HCC.out _ _ _ hle19 hq; have hd := h19'.bring3.row_cell hNf; have c5 := hd.1; have f5 := hd.2.1; rw [List.getElem?_eq_getElem hNf] at c5; have hq2 := (hq.bring3.row_cell hNf).2.2 (.bool true); have q4 := HCC.out _ _ _ hle19 hq2; have n1 := rows_ne h19'.drop; have n2 := rows_ne h19'.drop.swap; have HQ := hide hq2; have HE19 := hide hle19; have HV19 := hide V19; clear h19 h19' hle19 V19 hc hq hd hq2 H18))
                    clear q1 q2 q3 q4 c4 f4 c5 f5
                    generalize (w19.setCell _ _).setCell _ _ = W19 at HQ ⊢
                    have c7 := (HQ.out.swap.row_cell (i := N) (by rw [List.length_set]; exact hNn)).1
                    rw [List.getElem?_set_self hNn] at c7
                    have H20 := hide HQ.out.rev4
                    clear HQ
                    go_wp2_with (go_at_call 20; refine (write_gen H20.out HAL2.out.good _ _ (secOf c.n c.data) (fun d' w' hs => HV19.out.sat hs)).mono ?_; rintro x w21 ⟨rfl, h21⟩; obtain ⟨a1, a2, a3⟩ := alive_write HAL2.out (by omega) (N : Int) (by omega) hN16 (secOf c.n c.data) (secOf_len _ _); rw [a1]; rw [a2] at h21; have HA21 := hide a3; have H21 := hide h21.rot4; clear h21 H20 a1 a2 a3)
                    go_roundw
                    case rel =>
                      have hset := (HOKN.out.le HE19.out).set N HV19.out (secOf_len _ _)
                      refine ⟨k + 1, by omega, by omega, by go_num, e19, vs2, f', _, _, fs.set N true, _, _, HE2.out.trans HE19.out, HOK2.out.le HE19.out, ⟨hset.len, fun i hi hpi => hset.each i hi ?_⟩, HKP.out.write N (by omega) _, by omega, HA21.out, ?_⟩
                      · rw [getD_set] at hpi
                        by_cases hki : N = i
                        · simp [hki]
                        · simpa [hki] using hpi
                      · rw [b16_set]; exact H21.out
                    case measure => simp [intOf]; omega
                  · have hdisj : Hid (¬ (k < bs.length ∧ k < 30)) := hide hlt
                    clear hlt
                    by_cases hkl : (k : Int) < bs.length
                    · have hk8 : ¬ (k : Int) < 30 := fun hx => hdisj.out (by omega)
                      go_wp2_with fail
                      go_meet
                      case rel => exact ⟨k, by omega, e2, vs2, f', ns, f2, fs, d2, K, HE2.out, HOK2.out, HOKN.out, HKP.out, hK, HAL2.out, H17.out⟩
                    · go_wp2_with fail
                      go_meet
                      case rel => exact ⟨k, by omega, e2, vs2, f', ns, f2, fs, d2, K, HE2.out, HOK2.out, HOKN.out, HKP.out, hK, HAL2.out, H17.out⟩
              case rest =>
                clear HE1 HOK1 HAL HKS H16 HA16
                obtain ⟨k1, hk1, e3, vs, f, ns, f2, fs, d, K, hle, hok, hokn, hkp, hK, hal, hs⟩ := hcut
                have HE3 := hide hle
                have HOK3 := hide hok
                have HOKN := hide hokn
                have HFL := hide hkp.len
                have HAL := hide hal
                have HC := hide (hkp.crashed hal pick)
                have HAC := hide (alive_crash hal pick)
                have H22 := hide hs.bring4
                clear hle hok hokn hkp hal hs hK
                go_wp2_with (go_at_call 24; refine (crash_calls H22.out HAL.out.good.fine _ pick (HVP.out.le HE3.out)).mono ?_; rintro x w23 ⟨rfl, h23⟩; have H23 := hide h23; clear h23 H22)
                go_loopw [17, 18] (fun kk i wr => L4At e3 b4 g1 g2 g3 vs ns fs (d.crashed pick) L kk i wr) (fun _ i _ => 16 - (intOf i).toNat)
                case atStart => exact ⟨0, by omega, rfl, rfl, H23.out⟩
                case round =>
                  obtain ⟨k, hk, rfl, rfl, hs⟩ := hrel
                  have H24 := hide hs
                  clear hs H23
                  by_cases hlt : k < 16
                  · obtain ⟨u, hu1, hu2, hu3⟩ := HOK3.out.each k hlt rfl
                    clear hu3
                    have cw : wr.cell? ⟨g1, k, none⟩ = some u := by rw [((H24.out.front 1 rfl).row_cell (i := k) (by rw [HOK3.out.len]; exact hlt)).1]; exact hu1
                    have hfl := HFL.out
                    have cf : wr.cell? ⟨g3, k, none⟩ = some (.bool (fs.getD k false)) := by
                      rw [((H24.out.front 3 rfl).row_cell (i := k) (by rw [List.length_map, hfl]; exact hlt)).1]
                      simp [List.getD, hfl, hlt]
                    have HU := hide hu2
                    have HR1 := hide (rank_succ (fun i => fs.getD i false) k)
                    have HCk := hide (HC.out k hlt)
                    have hrk := rank_le (fun i => fs.getD i false) k
                    generalize rank (fun i => fs.getD i false) k = R at hrk HR1 HCk ⊢
                    clear hu1 hu2 hfl
                    cases hfk : fs.getD k false with
                    | false =>
                      rw [hfk] at cf
                      have HFK := hide hfk
                      have HQ : Hid ((d.crashed pick).cur k = f k) := hide (by rw [HCk.out, if_neg (fun hx => by rw [HFK.out] at hx; cases hx.1)])
                      have HW := HU
                      clear hfk
                      go_wp2_with (go_at_call 16; refine (read_gen H24.out HAC.out.good.fine.ok _).mono ?_; rintro x w25 ⟨qb, qc, rfl, h25⟩; obtain ⟨a1, a2, _⟩ := alive_read HAC.out (k : Int) (by omega) (by omega); rw [a2, HQ.out] at h25; rw [a1, a2, HQ.out]; have cq := run_conv_bytes (P := Try.prog) Try.underlying32 Try.underlying5 Try.underlying9 h25.row_view; have cz := run_conv_bytes (P := Try.prog) Try.underlying32 Try.underlying5 Try.underlying9 (HW.out.sat h25); have H25 := hide h25.drop; clear h25 H24 a1 a2)
                      go_roundw
                      case rel => exact ⟨k + 1, by omega, by go_num, by rw [HR1.out, if_neg (fun hx => by rw [HFK.out] at hx; cases hx)]; rfl, H25.out⟩
                      case measure => simp [intOf]; omega
                    | true =>
                      rw [hfk] at cf
                      have HFK := hide hfk
                      clear hfk
                      by_cases hp : R / 8 < pick.length
                      · obtain ⟨pb, po, pc, hpv, hpc⟩ := ((HVP.out.le HE3.out).sat H24.out).cells (by intro hx; have := congrArg List.length hx; simp at this; rw [this] at hp; simp at hp)
                        simp only [Value.slice.injEq, true_and] at hpv
                        obtain ⟨hpv1, hpv3⟩ := hpv
                        subst hpv1
                        subst hpv3
                        obtain ⟨y, hy⟩ : ∃ y, pick[R / 8] = y := ⟨_, rfl⟩
                        have hpx : wr.cell? ⟨pb, po + R / 8, none⟩ = some (.int .u8 (y.toNat : Int)) := by
                          rw [hpc (R / 8) (B8 y) (by rw [List.getElem?_map, List.getElem?_eq_getElem hp, hy]; rfl)]; rfl
                        have hb : (bits BinOp.and IntKind.u8 ((y.toNat : Int) / 2 ^ (R % 8)) 1 == 1) = bitOf pick R := by rw [← hy]; exact bit_eq pick R hp
                        clear hpc hy
                        cases hbit : bitOf pick R with
                        | true =>
                          rw [hbit] at hb
                          obtain ⟨u2, hn1, hn2, hn3⟩ := HOKN.out.each k hlt HFK.out
                          clear hn3
                          have cn : wr.cell? ⟨g2, k, none⟩ = some u2 := by rw [((H24.out.front 2 rfl).row_cell (i := k) (by rw [HOKN.out.len]; exact hlt)).1]; exact hn1
                          have HW := hide hn2
                          have HQ : Hid ((d.crashed pick).cur k = f2 k) := hide (by rw [HCk.out, if_pos ⟨HFK.out, hbit⟩])
                          clear hn1 hn2 hbit
                          go_wp2_with (go_at_call 16; refine (read_gen H24.out HAC.out.good.fine.ok _).mono ?_; rintro x w25 ⟨qb, qc, rfl, h25⟩; obtain ⟨a1, a2, _⟩ := alive_read HAC.out (k : Int) (by omega) (by omega); rw [a2, HQ.out] at h25; rw [a1, a2, HQ.out]; have cq := run_conv_bytes (P := Try.prog) Try.underlying32 Try.underlying5 Try.underlying9 h25.row_view; have cz := run_conv_bytes (P := Try.prog) Try.underlying32 Try.underlying5 Try.underlying9 (HW.out.sat h25); have H25 := hide h25.drop; clear h25 H24 a1 a2)
                          go_roundw
                          case rel => exact ⟨k + 1, by omega, by go_num, by rw [HR1.out, if_pos HFK.out]; go_num, H25.out⟩
                          case measure => simp [intOf]; omega
                        | false =>
                          rw [hbit] at hb
                          have HW := HU
                          have HQ : Hid ((d.crashed pick).cur k = f k) := hide (by rw [HCk.out, if_neg (fun hx => by rw [hbit] at hx; cases hx.2)])
                          clear hbit
                          go_wp2_with (go_at_call 16; refine (read_gen H24.out HAC.out.good.fine.ok _).mono ?_; rintro x w25 ⟨qb, qc, rfl, h25⟩; obtain ⟨a1, a2, _⟩ := alive_read HAC.out (k : Int) (by omega) (by omega); rw [a2, HQ.out] at h25; rw [a1, a2, HQ.out]; have cq := run_conv_bytes (P := Try.prog) Try.underlying32 Try.underlying5 Try.underlying9 h25.row_view; have cz := run_conv_bytes (P := Try.prog) Try.underlying32 Try.underlying5 Try.underlying9 (HW.out.sat h25); have H25 := hide h25.drop; clear h25 H24 a1 a2)
                          go_roundw
                          case rel => exact ⟨k + 1, by omega, by go_num, by rw [HR1.out, if_pos HFK.out]; go_num, H25.out⟩
                          case measure => simp [intOf]; omega
                      · have hbit : bitOf pick R = false := by simp [bitOf, hp]
                        have HW := HU
                        have HQ : Hid ((d.crashed pick).cur k = f k) := hide (by rw [HCk.out, if_neg (fun hx => by rw [hbit] at hx; cases hx.2)])
                        clear hbit
                        go_wp2_with (go_at_call 16; refine (read_gen H24.out HAC.out.good.fine.ok _).mono ?_; rintro x w25 ⟨qb, qc, rfl, h25⟩; obtain ⟨a1, a2, _⟩ := alive_read HAC.out (k : Int) (by omega) (by omega); rw [a2, HQ.out] at h25; rw [a1, a2, HQ.out]; have cq := run_conv_bytes (P := Try.prog) Try.underlying32 Try.underlying5 Try.underlying9 h25.row_view; have cz := run_conv_bytes (P := Try.prog) Try.underlying32 Try.underlying5 Try.underlying9 (HW.out.sat h25); have H25 := hide h25.drop; clear h25 H24 a1 a2)
                        go_roundw
                        case rel => exact ⟨k + 1, by omega, by go_num, by rw [HR1.out, if_pos HFK.out]; go_num, H25.out⟩
                        case measure => simp [intOf]; omega
                  · have hk16 : k = 16 := by omega
                    subst hk16
                    go_wp2_with fail
                    go_ret
                    exact ⟨rfl, e3, HE3.out, H24.out.drop.drop.drop.drop⟩
end Go.Proofs.Ytbeabedpmoalpaa
