/-
  The law DiskNew, walked: it answers true.
-/
import Derived.Test.YtbeabedpmoalpaaRk3
import Derived.Test.YtbeabedpmoalpaaDk11
import Derived.Deep.RegionHeld3
namespace Go.Proofs.Ytbeabedpmoalpaa
open Go.RowKit Go.Maps Go.MapKept
variable {e : Env} {b : Nat} {r : Rk} {L : List HP} {w : World}

theorem rnew_bad (n : Int) (h : n < 8 ∨ 256 < n ∨ n % 2 ≠ 0) (hlo : -9223372036854775808 ≤ n) (hhi : n ≤ 9223372036854775807) : Calls Try.prog 15 #[.int .i64 n] w fun x w' => x = .returned (.tuple #[.pointer none, .int .i64 1]) ∧ w = w' := by
  by_cases h8 : n < 8
  · go_enter Try.func15, Try.ntmps15
    go_wp2
    go_ret2
    exact ⟨rfl, rfl⟩
  · by_cases h256 : 256 < n
    · have h8' : decide (n < 8) = false := by simpa using h8
      clear h
      go_enter Try.func15, Try.ntmps15
      go_wp2
      go_ret2
      exact ⟨rfl, rfl⟩
    · have h8' : decide (n < 8) = false := by simpa using h8
      have h256' : decide (256 < n) = false := by simpa using h256
      have hr : n % 2 = 1 := by omega
      have hr' : (n % 2 != 0) = true := by simp [hr]
      clear h
      go_enter Try.func15, Try.ntmps15
      go_wp2
      all_goals (go_ret2; exact ⟨rfl, rfl⟩)

def newList (n m : Int) : List Int := [n, m, 6, 7, 9, 256, 257, 258]
def NewAt (e : Env) (L : List HP) (i : Value) (w : World) : Prop := ∃ k : Nat, k ≤ 8 ∧ i = .int .i64 k ∧ ∃ e', e.le e' ∧ Sat e' L w

set_option maxRecDepth 100000 in
set_option maxHeartbeats 2000000 in
theorem diskNew_calls (h : Sat e L w) (n m : Int) (hn1 : -9223372036854775808 ≤ n) (hn2 : n ≤ 9223372036854775807) (hm1 : -9223372036854775808 ≤ m) (hm2 : m ≤ 9223372036854775807) :
    Calls Try.prog 3 #[.int .i64 n, .int .i64 m] w fun x w' => x = .returned (.bool true) ∧ ∃ e', e.le e' ∧ Sat e' L w' := by
  obtain ⟨i0, hi, hz0, hz1, hz2⟩ := info_parts info_u8
  obtain ⟨i1, hi1, hx0, hx1, hx2⟩ := info_parts (show (Try.prog.info? 3).map (fun i => (i.zero, i.size, i.bytes)) = some (some (.int .i64 0), 1, 8) by kernel_rfl)
  have HI := hide hi
  have HI1 := hide hi1
  have HS := hide h
  have m0 := Int.emod_nonneg m (show (270 : Int) ≠ 0 by omega)
  have m1 := Int.emod_lt_of_pos m (show (0 : Int) < 270 by omega)
  clear h hi hi1
  go_enter Try.func3, Try.ntmps3
  go_wp2_with (first
    | (go_at_call 12; refine (known_calls HS.out).mono ?_; rintro x w1 ⟨rfl, h1⟩; have H1 := hide h1; clear h1 HS)
    | (go_at_call 13; refine (within_calls _ _ (by omega) (by omega) (by omega) (by omega)).mono ?_; rintro x w4 ⟨rfl, rfl⟩)
    | ((with_reducible refine wpList_build_sl rfl 24 8 _ rfl Try.underlying24 HI1.out hx0 hx1 (by omega) (by omega) (by omega) ((newList n (m % 270)).map (Value.int .i64)) ?_ rfl (by simp [newList, Value.cells]) H1.out ?_); exact rfl; intro g2 w2 h2; obtain ⟨e1, hle1, hv1, h2'⟩ := h2.row_persist; have HLE := hide hle1; have HV := hide (show View e1.h (.slice (some ⟨g2, 0, none⟩) 8 8) 8 ((newList n (m % 270)).map (Value.int .i64)) from hv1); have H2 := hide h2'; clear h2 h2' hle1 hv1 H1))
  have HR : Hid (∀ x ∈ newList n (m % 270), -9223372036854775808 ≤ x ∧ x ≤ 9223372036854775807) := hide (by intro x hx; simp only [newList, List.mem_cons, List.not_mem_nil, or_false] at hx; omega)
  generalize m % 270 = M at *
  go_loopw [6] (fun i wr => NewAt e1 L i wr) (fun i _ => 8 - (intOf i).toNat)
  case atStart => exact ⟨0, by omega, rfl, _, Env.le_refl _, H2.out⟩
  case round =>
    obtain ⟨k, hk, rfl, e2, hle2, hs⟩ := hrel
    have HE := hide hle2
    have H3 := hide hs
    clear hle2 hs
    by_cases hlt : (k : Int) < 8
    · have hkl : k < (newList n M).length := by simp [newList]; omega
      obtain ⟨X, hX⟩ : ∃ X, (newList n M)[k]? = some X := ⟨_, List.getElem?_eq_getElem hkl⟩
      obtain ⟨hX1, hX2⟩ := HR.out X (List.mem_of_getElem? hX)
      have HC : Hid (∀ (e' : Env) (L' : List HP) (w' : World), e2.le e' → Sat e' L' w' → w'.cell? ⟨g2, k, none⟩ = some (.int .i64 X)) := hide (fun e' L' w' hle hs' => by
        obtain ⟨b', o', c', hv', hc⟩ := ((HV.out.le (HE.out.trans hle)).sat hs').cells (by simp [newList])
        simp only [Value.slice.injEq, Option.some.injEq, Addr.mk.injEq, and_true] at hv'
        obtain ⟨⟨rfl, rfl⟩, _⟩ := hv'
        have := hc k (.int .i64 X) (by rw [List.getElem?_map, hX]; rfl)
        simpa using this)
      have cw := HC.out e2 L wr (Env.le_refl _) H3.out
      clear hX hkl
      by_cases hok : 8 ≤ X ∧ X ≤ 256 ∧ X % 2 = 0
      · obtain ⟨o1, o2, o3⟩ := hok
        obtain ⟨N, rfl⟩ : ∃ N : Nat, X = N := ⟨X.toNat, by omega⟩
        have hc1 : (Dk.fresh0 N).cur ((N : Int) - 1) = zs := fresh0_cur _ (by omega) (by omega)
        have hal := alive_fresh N (by omega)
        obtain ⟨r1, r2, _⟩ := alive_read hal ((N : Int) - 1) (by omega) (by omega)
        rw [hc1] at r2
        have HAL := hide hal
        have HRD := hide r1
        have HRB := hide r2
        have HLN : Hid ((Dk.fresh0 N).last.length = N) := hide (by simp [Dk.fresh0])
        clear hc1 hal r1 r2
        go_wp2_with (first
          | (go_at_call 14; refine (new_good H3.out N (by omega) (by omega) (by omega)).mono ?_; rintro x w4 ⟨b4, rfl, h4⟩; have cw4 := HC.out _ _ _ (Env.le_refl _) h4; have H4 := hide h4; clear h4 H3 cw)
          | (go_at_call 15; refine (rnew_good H4.out N (by omega) (by omega) (by omega)).mono ?_; rintro x w5 ⟨e5, b5, hle5, rfl, h5⟩; have cw5 := HC.out _ _ _ hle5 h5; have H5 := hide h5.drop; have HE5 := hide hle5; clear h5 H4 cw4 hle5)
          | (go_at_call 16; refine (read_gen H5.out HAL.out.good.fine.ok _).mono ?_; rintro x w6 ⟨rb, rc, rfl, h6⟩; rw [HRB.out] at h6; rw [HRD.out, HRB.out]; have H6 := hide h6; clear h6 H5 cw5))
        obtain ⟨g8, w8, hmk, h8⟩ : ∃ g w', (Instr.makeSlice 32 (.int .i64 64) (.int .i64 64)).run Try.prog w6.drew = .ok (.slice (some ⟨g, 0, none⟩) 64 64) w' ∧ _ := H6.out.drew.make_ex Try.underlying32 HI.out hz0 hz1 hz2 .i64 .i64 64 (by omega) (by unfold maxLen; omega)
        rw [made_u8] at h8
        have h8' := zs_row h8
        have cb0 := run_conv_bytes (P := Try.prog) Try.underlying32 Try.underlying5 Try.underlying9 H6.out.drew.row_view
        have cb1 := run_conv_bytes (P := Try.prog) Try.underlying32 Try.underlying5 Try.underlying9 h8'.drop.row_view
        have cz := run_conv_bytes (P := Try.prog) Try.underlying32 Try.underlying5 Try.underlying9 h8'.row_view
        have cw8 := HC.out _ _ _ HE5.out h8'
        have H8 := hide h8'
        clear h8 h8'
        have cwD := HC.out _ _ _ HE5.out H6.out.drew
        go_region_held (fun w' => w'.cell? ⟨g2, k, none⟩ = some (.int .i64 (N : Int)) ∧ (convert 32 9 (.slice rb zs.length rc)).run Try.prog w' = .ok (.string ⟨zs.toArray⟩) w')
          (first | exact ⟨cwD, cb0⟩ | exact ⟨cw8, cb1⟩)
          (first
            | (go_at_call 17; refine (size_calls H8.out.drop.drop).mono ?_; rintro x w9 ⟨rfl, rfl⟩; rw [HLN.out])
            | (go_at_call 18; refine (ops_calls H8.out.drop.drop).mono ?_; rintro x w9 ⟨rfl, rfl⟩; rw [HAL.out.ops]))
        go_wp2_with fail
        go_roundw
        case rel => exact ⟨k + 1, by omega, by go_num, _, HE.out.trans HE5.out, H8.out.drop.drop.drop⟩
        case measure => simp [intOf]; omega
      · have hbad : X < 8 ∨ 256 < X ∨ X % 2 ≠ 0 := by omega
        have HB := hide hbad
        clear hok hbad
        go_wp2_with (first
          | (go_at_call 14; refine (new_bad X HB.out hX1 hX2).mono ?_; rintro x w5 ⟨rfl, rfl⟩)
          | (go_at_call 15; refine (rnew_bad X HB.out hX1 hX2).mono ?_; rintro x w5 ⟨rfl, rfl⟩))
        go_roundw
        case rel => exact ⟨k + 1, by omega, by go_num, _, HE.out, H3.out⟩
        case measure => simp [intOf]; omega
    · have hk8 : (8 : Int) ≤ k := by omega
      go_wp2_with fail
      go_ret
      exact ⟨rfl, e2, HLE.out.trans HE.out, H3.out⟩
end Go.Proofs.Ytbeabedpmoalpaa
