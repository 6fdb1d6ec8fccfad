/-
  deadboltlaw8: within, Edges, known.
-/
import Derived.Test.YtmebmgbjpbapjaaGb
import Derived.Test.YtmebmgbjpbapjaaGq
namespace Go.Proofs.Ytmebmgbjpbapjaa
open Go.RowKit Go.Maps Go.MapKept
variable {b : Env} {L : List HP} {w : World}

theorem tmod_facts (k n : Int) (hn : 0 < n) (hk : k < 0) : -n < k.tmod n ∧ k.tmod n ≤ 0 ∧ (k.tmod n < 0 → k % n = k.tmod n + n) ∧ (0 ≤ k.tmod n → k % n = k.tmod n) := by
  have h1 : (-k).tmod n = -(k.tmod n) := Int.neg_tmod k n
  have h2 := Int.tmod_nonneg n (show 0 ≤ -k by omega)
  have h3 := Int.tmod_lt_of_pos (-k) hn
  have h4 := Int.mul_tdiv_add_tmod k n
  have h5 : k % n = (k.tmod n) % n := by
    conv => lhs; rw [← h4]
    rw [Int.add_comm, Int.add_mul_emod_self_left]
  refine ⟨by omega, by omega, fun h => ?_, fun h => ?_⟩
  · rw [h5, ← Int.add_emod_right, Int.emod_eq_of_lt (by omega) (by omega)]
  · rw [h5, Int.emod_eq_of_lt h (by omega)]

theorem within8_calls (k n : Int) (hn : 0 < n) (hn2 : n ≤ 4294967296) (hk1 : -9223372036854775808 ≤ k) (hk2 : k ≤ 9223372036854775807) : Calls Try.prog 13 #[.int .i64 k, .int .i64 n] w fun x w' => x = .returned (.int .i64 (k % n)) ∧ w = w' := by
  by_cases h0 : 0 ≤ k
  · have hnn : decide (k % n < 0) = false := by simpa using Int.emod_nonneg k (show n ≠ 0 by omega)
    go_enter Try.func13, Try.ntmps13
    go_wp2
    go_ret
    exact ⟨rfl, rfl⟩
  · have hf := tmod_facts k n hn (by omega)
    obtain ⟨f1, f2, f3, f4⟩ := hf
    have F3 := hide f3
    have F4 := hide f4
    clear f3 f4
    by_cases h1 : k.tmod n < 0
    · go_enter Try.func13, Try.ntmps13
      go_wp2
      go_ret
      exact ⟨by rw [F3.out h1]; rfl, rfl⟩
    · go_enter Try.func13, Try.ntmps13
      go_wp2
      go_ret
      exact ⟨by rw [F4.out (by omega)]; rfl, rfl⟩

theorem wrap_small {n : Int} (h0 : -9223372036854775808 ≤ n) (h1 : n ≤ 9223372036854775807) : IntKind.i64.wrap n = n := by
  simp [IntKind.wrap, IntKind.bits, IntKind.signed]; omega
theorem wrap_byte {n : Int} (h0 : 0 ≤ n) (h1 : n ≤ 255) : IntKind.u8.wrap n = n := by
  simp [IntKind.wrap, IntKind.bits, IntKind.signed]; omega
def nameB (k : Int) : UInt8 := UInt8.ofNat (97 + k).toNat
def nameS (k : Int) : Str := [nameB k]
theorem nameB_val {k : Int} (h0 : 0 ≤ k) (h1 : k ≤ 100) : Value.int .u8 (97 + k) = B8 (nameB k) := by
  simp only [B8, nameB, UInt8.toNat_ofNat', Value.int.injEq, true_and]
  omega
theorem nameS_ok (k : Int) : okStr (nameS k) := by simp [okStr, nameS, maxLen]
def namesL (k : Nat) : List Str := (List.range k).map (fun i : Nat => nameS (i : Int))
theorem namesL_len (k : Nat) : (namesL k).length = k := by simp [namesL]
def namesN (n : Int) : List Str := namesL n.toNat
def pairN (m x : Int) : Str × Str := (nameS (x % m), nameS ((x.tdiv 16) % m))
def pairsN (m : Int) (ns : List Int) : List (Str × Str) := (ns.take 40).map (pairN m)
def i64 (x : Int) : Prop := -9223372036854775808 ≤ x ∧ x ≤ 9223372036854775807

theorem St.conv_bytes {v : Value} {T : TypeId} {xs : List UInt8} (h : St b L w) (hm : HP.rows T byteE v xs ∈ L) : (convert 64 9 v).run Try.prog w = .ok (.string ⟨xs.toArray⟩) w := by
  obtain ⟨e, hl, hs⟩ := h
  obtain ⟨L', h'⟩ := hs.mem_front hm
  obtain ⟨cs, hr, hs⟩ := h'.rows_open
  have hcs : ∀ (xs : List UInt8) (cs : List Value), byteE.rds e.h xs cs → cs = xs.map B8 := by
    intro xs
    induction xs with
    | nil => intro cs h; exact h
    | cons x xs ih =>
      intro cs h
      obtain ⟨c, r, rfl, ⟨rfl, _⟩, h2⟩ := h
      rw [ih r h2]; rfl
  have hv := hs.row_view
  rw [hcs xs cs hr] at hv
  exact run_conv_bytes (P := Try.prog) Try.underlying64 Try.underlying5 Try.underlying9 hv

def EdA (b : Env) (L : List HP) (n : Int) (v6 i : Value) (wr : World) : Prop := ∃ k : Nat, (k : Int) ≤ n ∧ i = .int .i64 k ∧ ∃ base cap, v6 = .slice base k cap ∧ St b (HP.rows 9 strE v6 (namesL k) :: L) wr
def EdB (b : Env) (L : List HP) (m : Int) (ns : List Int) (v8 i : Value) (wr : World) : Prop := ∃ k : Nat, k ≤ ns.length ∧ k ≤ 40 ∧ i = .int .i64 k ∧ ∃ base cap, v8 = .slice base k cap ∧ St b (HP.rows 35 pairE v8 ((ns.take k).map (pairN m)) :: L) wr

set_option linter.unusedSimpArgs false in
set_option maxRecDepth 100000 in
set_option maxHeartbeats 8000000 in
theorem edges_calls (h : St b L w) {v : Value} {ns : List Int} (hm : HP.sl intE v ns ∈ L) (hns : ∀ x ∈ ns, i64 x) (n : Int) (h0 : 0 ≤ n) (h9 : n ≤ 20) :
    Calls Try.prog 12 #[.int .i64 n, v] w fun x w' => ∃ v1 v2, x = .returned (.tuple #[v1, v2]) ∧ St b (HP.sl strE v1 (namesN n) :: HP.sl pairE v2 (pairsN (n + 2) ns) :: L) w' := by
  obtain ⟨bn, cn, rfl, _, hc⟩ := h.sl_form hm
  have hm2 : (ns.length : Int) ≤ 9223372036854775807 := by unfold maxLen at hc; omega
  have H := hide (h.rows_nil 9 strE)
  have HM := hide hm
  have HNS := hide hns
  clear h hm hns hc
  go_enter Try.func12, Try.ntmps12
  go_wp2_with fail
  go_loopw [6, 7] (fun v6 i wr => EdA b L n v6 i wr) (fun _ i _ => n.toNat - (intOf i).toNat)
  case atStart => exact ⟨0, by omega, rfl, none, 0, rfl, H.out⟩
  case round =>
    obtain ⟨k, hk, rfl, b6, c6, rfl, hs⟩ := hrel
    have H1 := hide hs
    clear hs H
    by_cases hlt : (k : Int) < n
    · have HB := hide (nameB_val (k := (k : Int)) (by omega) (by omega))
      go_wp2_with (first
        | (refine wpList_build1_st (E := byteE) rfl (.tmp 18) slByte rfl (nameB k) rfl H1.out ?_ ?_; exact (fun _ _ _ => ⟨by rw [← HB.out]; rfl, trivial⟩); intro g2 w2 h2; have cv := h2.conv_bytes mem0; have H2 := hide h2.drop; clear h2 H1)
        | (refine wpList_build1_st (E := strE) rfl (.tmp 20) slStr rfl (nameS k) rfl H2.out ?_ ?_; exact (fun _ _ _ => ⟨rfl, nameS_ok _⟩); intro g3 w3 h3; have H3 := hide h3.f1; clear h3 H2 cv)
        | (at_builtin; refine wpList_append_st rfl (.tmp 15) (.tmp 21) slStr rfl H3.out (Src.of_rows mem1) rfl rfl ?_ ?_ ?_; (rw [namesL_len]; simp; unfold maxLen; omega); (rw [namesL_len]; simp; omega); intro vb4 n4 vc4 w4 hn4 h4; have H4 := hide h4.d1; have HN4 := hide hn4; clear h4 H3 hn4))
      go_roundw
      case rel => exact ⟨k + 1, by omega, by go_num, vb4, vc4, by rw [HN4.out, namesL_len]; rfl, by unfold namesL; rw [List.range_succ, List.map_append]; exact H4.out⟩
      case measure => simp [intOf]; omega
    · have hkn : k = n.toNat := by omega
      have h2 := H1.out.persist
      rw [hkn] at h2
      have H2 := hide (h2.rows_nil 35 pairE)
      clear h2 H1
      subst hkn
      have hlt2 : ¬ ((n.toNat : Int) < n) := hlt
      go_wp2_with fail
      go_loopw [8, 9] (fun v8 i wr => EdB b (HP.sl strE (.slice b6 n.toNat c6) (namesL n.toNat) :: L) (n + 2) ns v8 i wr) (fun _ i _ => 40 - (intOf i).toNat)
      case atStart => exact ⟨0, by omega, by omega, rfl, none, 0, rfl, H2.out⟩
      case round =>
        obtain ⟨k, hk1, hk2, rfl, b8, c8, rfl, hs⟩ := hrel
        have H3 := hide hs
        clear hs H2
        by_cases hl : k < ns.length
        · by_cases h40 : k < 40
          · obtain ⟨gn, on, hgn⟩ := H3.out.sl_base (up2 HM.out) (by omega) Nat.one_pos
            subst hgn
            obtain ⟨hc, _⟩ := H3.out.sc_at (up2 HM.out) hl
            have hx := HNS.out _ (List.getElem_mem hl)
            have HTK := hide (List.take_succ_eq_append_getElem hl)
            obtain ⟨x, hxe⟩ : ∃ x, ns[k] = x := ⟨_, rfl⟩
            rw [hxe] at hc hx HTK
            obtain ⟨hx1, hx2⟩ := hx
            have hl' : (k : Int) < ns.length := by omega
            have hk0 : (0 : Int) ≤ k := by omega
            have ht1 : -9223372036854775808 ≤ x.tdiv 16 := by
              rcases Int.lt_or_le x 0 with h | h
              · have : x.tdiv 16 = -((-x).tdiv 16) := by rw [Int.neg_tdiv, Int.neg_neg]
                have h2 : (-x).tdiv 16 ≤ -x := Int.tdiv_le_self _ (by omega)
                omega
              · have := Int.tdiv_nonneg h (show (0 : Int) ≤ 16 by omega); omega
            have ht2 : x.tdiv 16 ≤ 9223372036854775807 := by
              rcases Int.lt_or_le x 0 with h | h
              · have : x.tdiv 16 = -((-x).tdiv 16) := by rw [Int.neg_tdiv, Int.neg_neg]
                have := Int.tdiv_nonneg (show 0 ≤ -x by omega) (show (0 : Int) ≤ 16 by omega)
                omega
              · have := Int.tdiv_le_self 16 h; omega
            obtain ⟨y1, hy1⟩ : ∃ y, x % (n + 2) = y := ⟨_, rfl⟩
            obtain ⟨y2, hy2⟩ : ∃ y, (x.tdiv 16) % (n + 2) = y := ⟨_, rfl⟩
            have p1 := Int.emod_nonneg x (show n + 2 ≠ 0 by omega)
            have p2 := Int.emod_lt_of_pos x (show 0 < n + 2 by omega)
            have p3 := Int.emod_nonneg (x.tdiv 16) (show n + 2 ≠ 0 by omega)
            have p4 := Int.emod_lt_of_pos (x.tdiv 16) (show 0 < n + 2 by omega)
            rw [hy1] at p1 p2
            rw [hy2] at p3 p4
            have HY1 := hide hy1
            have HY2 := hide hy2
            have HPN : Hid (pairN (n + 2) x = (nameS y1, nameS y2)) := hide (by unfold pairN; rw [hy1, hy2])
            clear hy1 hy2
            have HXE := hide hxe
            clear hxe
            have r1 : ∀ e : Env, byteE.rd e.h (nameB y1) [.int .u8 (97 + y1)] := fun e => ⟨by rw [← nameB_val p1 (by omega)], trivial⟩
            have r2 : ∀ e : Env, byteE.rd e.h (nameB y2) [.int .u8 (97 + y2)] := fun e => ⟨by rw [← nameB_val p3 (by omega)], trivial⟩
            have hA := (H3.out.alloc (.cells #[.int .u8 (97 + y1)] 5)).rows1 (E := byteE) (cs := [.int .u8 (97 + y1)]) (nameB y1) (fun e _ _ => r1 e)
            have hB := (H3.out.alloc (.cells #[.int .u8 (97 + y2)] 5)).rows1 (E := byteE) (cs := [.int .u8 (97 + y2)]) (nameB y2) (fun e _ _ => r2 e)
            have hAB := (hA.alloc (.cells #[.int .u8 (97 + y2)] 5)).rows1 (E := byteE) (cs := [.int .u8 (97 + y2)]) (nameB y2) (fun e _ _ => r2 e)
            have hBA := (hB.alloc (.cells #[.int .u8 (97 + y1)] 5)).rows1 (E := byteE) (cs := [.int .u8 (97 + y1)]) (nameB y1) (fun e _ _ => r1 e)
            have hABC := (hAB.alloc (.cells #[.string ⟨#[nameB y1]⟩, .string ⟨#[nameB y2]⟩] 35)).rows1 (E := pairE) (cs := [.string ⟨#[nameB y1]⟩, .string ⟨#[nameB y2]⟩]) (nameS y1, nameS y2) (fun _ _ _ => ⟨rfl, nameS_ok _, nameS_ok _⟩)
            have hBAC := (hBA.alloc (.cells #[.string ⟨#[nameB y1]⟩, .string ⟨#[nameB y2]⟩] 35)).rows1 (E := pairE) (cs := [.string ⟨#[nameB y1]⟩, .string ⟨#[nameB y2]⟩]) (nameS y1, nameS y2) (fun _ _ _ => ⟨rfl, nameS_ok _, nameS_ok _⟩)
            simp only [World.size_alloc] at hAB hBA hABC hBAC
            have cA := hA.drew.conv_bytes mem0
            have cB := hB.drew.conv_bytes mem0
            have cAB1 := hAB.drew.conv_bytes mem0
            have cAB2 := hAB.drew.conv_bytes mem1
            have cBA1 := hBA.drew.conv_bytes mem0
            have cBA2 := hBA.drew.conv_bytes mem1
            have d0 := (H3.out.drew.sc_at (up2 HM.out) hl).1
            have dA := (hA.drew.sc_at (up3 HM.out) hl).1
            have dB := (hB.drew.sc_at (up3 HM.out) hl).1
            have dAB := (hAB.drew.sc_at (up4 HM.out) hl).1
            have dBA := (hBA.drew.sc_at (up4 HM.out) hl).1
            have dABC := (hABC.drew.sc_at (up5 HM.out) hl).1
            have dBAC := (hBAC.drew.sc_at (up5 HM.out) hl).1
            have HABC := hide hABC.drew.f3
            have HBAC := hide hBAC.drew.f3
            rw [HXE.out] at d0 dA dB dAB dBA dABC dBAC
            clear hA hB hAB hBA hABC hBAC r1 r2
            have q0 : 0 < n + 2 := by omega
            have q1 : n + 2 ≤ 4294967296 := by omega
            have q2 : ((ns.take k).map (pairN (n + 2))).length + [(nameS y1, nameS y2)].length ≤ maxLen := by simp; unfold maxLen; omega
            have q3 : (((ns.take k).map (pairN (n + 2))).length + [(nameS y1, nameS y2)].length) * 32 ≤ 140737488355328 := by simp; omega
            have wq1 : IntKind.i64.wrap (n + 2) = n + 2 := wrap_small (by omega) (by omega)
            have wq2 : IntKind.i64.wrap (97 + y1) = 97 + y1 := wrap_small (by omega) (by omega)
            have wq3 : IntKind.i64.wrap (97 + y2) = 97 + y2 := wrap_small (by omega) (by omega)
            have wq4 : IntKind.u8.wrap (97 + y1) = 97 + y1 := wrap_byte (by omega) (by omega)
            have wq5 : IntKind.u8.wrap (97 + y2) = 97 + y2 := wrap_byte (by omega) (by omega)
            have wq6 : IntKind.i64.wrap (x.tdiv 16) = x.tdiv 16 := wrap_small ht1 ht2
            go_wp2_with fail
            have T1 : Hid (∀ w, Calls Try.prog 13 #[.int .i64 x, .int .i64 (n + 2)] w (fun e w' => e = .returned (.int .i64 y1) ∧ w' = w)) := hide (fun w => (within8_calls x (n + 2) q0 q1 hx1 hx2).mono (fun e w' he => ⟨by rw [he.1, HY1.out], he.2.symm⟩))
            have T2 : Hid (∀ w, Calls Try.prog 13 #[.int .i64 (x.tdiv 16), .int .i64 (n + 2)] w (fun e w' => e = .returned (.int .i64 y2) ∧ w' = w)) := hide (fun w => (within8_calls (x.tdiv 16) (n + 2) q0 q1 ht1 ht2).mono (fun e w' he => ⟨by rw [he.1, HY2.out], he.2.symm⟩))
            refine wp_region_held_drew (S := fun w' => w'.cell? ⟨gn, on + k, none⟩ = some (.int .i64 x)) (by kernel_rfl) ?_ (fun hHeld => ?_)
            · exact d0
            refine wpAnyH_take (i := 0) (v := ?v0_1) rfl (by kernel_rfl) (by kernel_rfl) (by kernel_rfl) (fun _ _ _ h => h) (Or.inl ⟨by rfl, ?y0_1⟩) (by assumption) ?r0_1
            case y0_1 => (intro w hSw; (try dsimp only at hSw); first | (go_simp; done) | (go_simp; with_reducible rfl))
            try simp only [Act.put, List.setIfInBounds_toArray, List.set_cons_zero, List.set_cons_succ]
            refine wpAnyH_take (i := 1) (v := ?v1_2) rfl (by kernel_rfl) (by kernel_rfl) (by kernel_rfl) (fun _ _ _ h => h) (Or.inl ⟨by rfl, ?y1_2⟩) (by assumption) ?r1_2
            case y1_2 => (intro w hSw; (try dsimp only at hSw); first | (go_simp; done) | (go_simp; with_reducible rfl))
            try simp only [Act.put, List.setIfInBounds_toArray, List.set_cons_zero, List.set_cons_succ]
            refine wpAnyH_take (i := 2) (v := ?v2_3) rfl (by kernel_rfl) (by kernel_rfl) (by kernel_rfl) (fun _ _ _ h => h) (Or.inl ⟨by rfl, ?y2_3⟩) (by assumption) ?r2_3
            case y2_3 => (intro w hSw; (try dsimp only at hSw); first | (go_simp; done) | (go_simp; with_reducible rfl))
            try simp only [Act.put, List.setIfInBounds_toArray, List.set_cons_zero, List.set_cons_succ]
            refine wpAnyH_take (i := 3) (v := ?v3_4) rfl (by kernel_rfl) (by kernel_rfl) (by kernel_rfl) (fun _ _ _ h => h) (Or.inl ⟨by rfl, ?y3_4⟩) (by assumption) ?r3_4
            case y3_4 => (intro w hSw; (try dsimp only at hSw); first | (go_simp; done) | (go_simp; with_reducible rfl))
            try simp only [Act.put, List.setIfInBounds_toArray, List.set_cons_zero, List.set_cons_succ]
            refine wpAnyH_take (i := 4) (v := ?v4_5) rfl (by kernel_rfl) (by kernel_rfl) (by kernel_rfl) (fun _ _ _ h => h) (Or.inl ⟨by rfl, ?y4_5⟩) (by assumption) ?r4_5
            case y4_5 => (intro w hSw; (try dsimp only at hSw); first | (go_simp; done) | (go_simp; with_reducible rfl))
            try simp only [Act.put, List.setIfInBounds_toArray, List.set_cons_zero, List.set_cons_succ]
            refine wpAnyH_take (i := 5) (v := ?v5_6) rfl (by kernel_rfl) (by kernel_rfl) (by kernel_rfl) (fun _ _ _ h => h) (Or.inl ⟨by rfl, ?y5_6⟩) (by assumption) ?r5_6
            case y5_6 => (intro w hSw; (try dsimp only at hSw); first | (go_simp; done) | (go_simp; with_reducible rfl))
            try simp only [Act.put, List.setIfInBounds_toArray, List.set_cons_zero, List.set_cons_succ]
            refine wpAnyH_take (i := 6) (v := ?v6_7) rfl (by kernel_rfl) (by kernel_rfl) (by kernel_rfl) (fun _ _ _ h => h) (Or.inl ⟨by rfl, ?y6_7⟩) (by assumption) ?r6_7
            case y6_7 => (intro w hSw; (try dsimp only at hSw); first | (go_simp; done) | (go_simp; with_reducible rfl))
            try simp only [Act.put, List.setIfInBounds_toArray, List.set_cons_zero, List.set_cons_succ]
            refine wpAnyH_tells (i := 7) (v := .int .i64 y1) rfl (by kernel_rfl) (by kernel_rfl) (by kernel_rfl) (fun _ _ _ h => h) ⟨by rfl, 13, #[.int .i64 x, .int .i64 (n + 2)], fun w hSw => ⟨?y7_8, T1.out w⟩⟩ (by assumption) ?r7_8
            case y7_8 => first | (go_simp; done) | (go_simp; with_reducible rfl)
            try simp only [Act.put, List.setIfInBounds_toArray, List.set_cons_zero, List.set_cons_succ]
            refine wpAnyH_take (i := 8) (v := ?v8_9) rfl (by kernel_rfl) (by kernel_rfl) (by kernel_rfl) (fun _ _ _ h => h) (Or.inl ⟨by rfl, ?y8_9⟩) (by assumption) ?r8_9
            case y8_9 => (intro w hSw; (try dsimp only at hSw); first | (go_simp; done) | (go_simp; with_reducible rfl))
            try simp only [Act.put, List.setIfInBounds_toArray, List.set_cons_zero, List.set_cons_succ]
            refine wpAnyH_take (i := 9) (v := ?v9_10) rfl (by kernel_rfl) (by kernel_rfl) (by kernel_rfl) (fun _ _ _ h => h) (Or.inl ⟨by rfl, ?y9_10⟩) (by assumption) ?r9_10
            case y9_10 => (intro w hSw; (try dsimp only at hSw); first | (go_simp; done) | (go_simp; with_reducible rfl))
            try simp only [Act.put, List.setIfInBounds_toArray, List.set_cons_zero, List.set_cons_succ]
            refine wpAnyH_take (i := 12) (v := ?v12_11) rfl (by kernel_rfl) (by kernel_rfl) (by kernel_rfl) (fun _ _ _ h => h) (Or.inl ⟨by rfl, ?y12_11⟩) (by assumption) ?r12_11
            case y12_11 => (intro w hSw; (try dsimp only at hSw); first | (go_simp; done) | (go_simp; with_reducible rfl))
            try simp only [Act.put, List.setIfInBounds_toArray, List.set_cons_zero, List.set_cons_succ]
            refine wpAnyH_take (i := 13) (v := ?v13_12) rfl (by kernel_rfl) (by kernel_rfl) (by kernel_rfl) (fun _ _ _ h => h) (Or.inl ⟨by rfl, ?y13_12⟩) (by assumption) ?r13_12
            case y13_12 => (intro w hSw; (try dsimp only at hSw); first | (go_simp; done) | (go_simp; with_reducible rfl))
            try simp only [Act.put, List.setIfInBounds_toArray, List.set_cons_zero, List.set_cons_succ]
            refine wpAnyH_take (i := 14) (v := ?v14_13) rfl (by kernel_rfl) (by kernel_rfl) (by kernel_rfl) (fun _ _ _ h => h) (Or.inl ⟨by rfl, ?y14_13⟩) (by assumption) ?r14_13
            case y14_13 => (intro w hSw; (try dsimp only at hSw); first | (go_simp; done) | (go_simp; with_reducible rfl))
            try simp only [Act.put, List.setIfInBounds_toArray, List.set_cons_zero, List.set_cons_succ]
            refine wpAnyH_take (i := 15) (v := ?v15_14) rfl (by kernel_rfl) (by kernel_rfl) (by kernel_rfl) (fun _ _ _ h => h) (Or.inl ⟨by rfl, ?y15_14⟩) (by assumption) ?r15_14
            case y15_14 => (intro w hSw; (try dsimp only at hSw); first | (go_simp; done) | (go_simp; with_reducible rfl))
            try simp only [Act.put, List.setIfInBounds_toArray, List.set_cons_zero, List.set_cons_succ]
            refine wpAnyH_take (i := 16) (v := ?v16_15) rfl (by kernel_rfl) (by kernel_rfl) (by kernel_rfl) (fun _ _ _ h => h) (Or.inl ⟨by rfl, ?y16_15⟩) (by assumption) ?r16_15
            case y16_15 => (intro w hSw; (try dsimp only at hSw); first | (go_simp; done) | (go_simp; with_reducible rfl))
            try simp only [Act.put, List.setIfInBounds_toArray, List.set_cons_zero, List.set_cons_succ]
            refine wpAnyH_take (i := 17) (v := ?v17_16) rfl (by kernel_rfl) (by kernel_rfl) (by kernel_rfl) (fun _ _ _ h => h) (Or.inl ⟨by rfl, ?y17_16⟩) (by assumption) ?r17_16
            case y17_16 => (intro w hSw; (try dsimp only at hSw); first | (go_simp; done) | (go_simp; with_reducible rfl))
            try simp only [Act.put, List.setIfInBounds_toArray, List.set_cons_zero, List.set_cons_succ]
            refine wpAnyH_take (i := 18) (v := ?v18_17) rfl (by kernel_rfl) (by kernel_rfl) (by kernel_rfl) (fun _ _ _ h => h) (Or.inl ⟨by rfl, ?y18_17⟩) (by assumption) ?r18_17
            case y18_17 => (intro w hSw; (try dsimp only at hSw); first | (go_simp; done) | (go_simp; with_reducible rfl))
            try simp only [Act.put, List.setIfInBounds_toArray, List.set_cons_zero, List.set_cons_succ]
            refine wpAnyH_tells (i := 19) (v := .int .i64 y2) rfl (by kernel_rfl) (by kernel_rfl) (by kernel_rfl) (fun _ _ _ h => h) ⟨by rfl, 13, #[.int .i64 (x.tdiv 16), .int .i64 (n + 2)], fun w hSw => ⟨?y19_18, T2.out w⟩⟩ (by assumption) ?r19_18
            case y19_18 => first | (go_simp; done) | (go_simp; with_reducible rfl)
            try simp only [Act.put, List.setIfInBounds_toArray, List.set_cons_zero, List.set_cons_succ]
            refine wpAnyH_take (i := 20) (v := ?v20_19) rfl (by kernel_rfl) (by kernel_rfl) (by kernel_rfl) (fun _ _ _ h => h) (Or.inl ⟨by rfl, ?y20_19⟩) (by assumption) ?r20_19
            case y20_19 => (intro w hSw; (try dsimp only at hSw); first | (go_simp; done) | (go_simp; with_reducible rfl))
            try simp only [Act.put, List.setIfInBounds_toArray, List.set_cons_zero, List.set_cons_succ]
            refine wpAnyH_take (i := 21) (v := ?v21_20) rfl (by kernel_rfl) (by kernel_rfl) (by kernel_rfl) (fun _ _ _ h => h) (Or.inl ⟨by rfl, ?y21_20⟩) (by assumption) ?r21_20
            case y21_20 => (intro w hSw; (try dsimp only at hSw); first | (go_simp; done) | (go_simp; with_reducible rfl))
            try simp only [Act.put, List.setIfInBounds_toArray, List.set_cons_zero, List.set_cons_succ]
            refine wpAnyH_ready (rs := [10, 22]) (by kernel_rfl) (by simp) ?_
            refine AllReadyH.cons rfl (fun K hK => ?_) ?_
            · go_simp
              refine hK.out _ _ ?_ (fun hHeld => ?_)
              · (try dsimp only); with_reducible assumption
              clear hK K
              try simp only [Act.put, List.setIfInBounds_toArray, List.set_cons_zero, List.set_cons_succ]
              refine wpAnyH_ready (rs := [11, 22]) (by kernel_rfl) (by simp) ?_
              refine AllReadyH.cons rfl (fun K hK => ?_) ?_
              · go_simp
                refine hK.out _ _ ?_ (fun hHeld => ?_)
                · (try dsimp only); with_reducible assumption
                clear hK K
                try simp only [Act.put, List.setIfInBounds_toArray, List.set_cons_zero, List.set_cons_succ]
                refine wpAnyH_ready (rs := [22]) (by kernel_rfl) (by simp) ?_
                refine AllReadyH.cons rfl (fun K hK => ?_) ?_
                · go_simp
                  refine hK.out _ _ ?_ (fun hHeld => ?_)
                  · (try dsimp only); with_reducible assumption
                  clear hK K
                  try simp only [Act.put, List.setIfInBounds_toArray, List.set_cons_zero, List.set_cons_succ]
                  refine wpAnyH_ready (rs := [23]) (by kernel_rfl) (by simp) ?_
                  refine AllReadyH.cons rfl (fun K hK => ?_) ?_
                  · go_simp
                    refine hK.out _ _ ?_ (fun hHeld => ?_)
                    · (try dsimp only); with_reducible assumption
                    clear hK K
                    try simp only [Act.put, List.setIfInBounds_toArray, List.set_cons_zero, List.set_cons_succ]
                    refine wpAnyH_take (i := 24) (v := ?v24_21) rfl (by kernel_rfl) (by kernel_rfl) (by kernel_rfl) (fun _ _ _ h => h) (Or.inl ⟨by rfl, ?y24_21⟩) (by assumption) ?r24_21
                    case y24_21 => (intro w hSw; (try dsimp only at hSw); first | (go_simp; done) | (go_simp; with_reducible rfl))
                    try simp only [Act.put, List.setIfInBounds_toArray, List.set_cons_zero, List.set_cons_succ]
                    refine wpAnyH_ready (rs := [25]) (by kernel_rfl) (by simp) ?_
                    refine AllReadyH.cons rfl (fun K hK => ?_) ?_
                    · go_simp
                      refine hK.out _ _ ?_ (fun hHeld => ?_)
                      · (try dsimp only); with_reducible assumption
                      clear hK K
                      try simp only [Act.put, List.setIfInBounds_toArray, List.set_cons_zero, List.set_cons_succ]
                      refine wpAnyH_ready (rs := [26]) (by kernel_rfl) (by simp) ?_
                      refine AllReadyH.cons rfl (fun K hK => ?_) ?_
                      · first
                        | (refine step_append_st (E := pairE) (v := .slice b8 k c8) (sv := .slice (some ⟨wr.heap.size + 1 + 1, 0, none⟩) 1 1) rfl (.tmp 33) (.tmp 58) slPair rfl (by with_reducible exact HABC.out) (Src.of_rows mem1) rfl rfl q2 q3 ?_; intro vb2 n2 vc2 w13 hn2 h13; have d9 := (h13.sc_at (up5 HM.out) hl).1; rw [HXE.out] at d9; have H13 := hide h13.d1.d1.d1; have HN2 := hide hn2; clear h13 hn2)
                        | (refine step_append_st (E := pairE) (v := .slice b8 k c8) (sv := .slice (some ⟨wr.heap.size + 1 + 1, 0, none⟩) 1 1) rfl (.tmp 33) (.tmp 58) slPair rfl (by with_reducible exact HBAC.out) (Src.of_rows mem1) rfl rfl q2 q3 ?_; intro vb2 n2 vc2 w13 hn2 h13; have d9 := (h13.sc_at (up5 HM.out) hl).1; rw [HXE.out] at d9; have H13 := hide h13.d1.d1.d1; have HN2 := hide hn2; clear h13 hn2)
                        refine hK.out _ _ ?_ (fun hHeld => ?_)
                        · (try dsimp only); with_reducible assumption
                        clear hK K
                        try simp only [Act.put, List.setIfInBounds_toArray, List.set_cons_zero, List.set_cons_succ]
                        refine wpAnyH_take (i := 27) (v := ?v27_22) rfl (by kernel_rfl) (by kernel_rfl) (by kernel_rfl) (fun _ _ _ h => h) (Or.inl ⟨by rfl, ?y27_22⟩) (by assumption) ?r27_22
                        case y27_22 => (intro w hSw; (try dsimp only at hSw); first | (go_simp; done) | (go_simp; with_reducible rfl))
                        try simp only [Act.put, List.setIfInBounds_toArray, List.set_cons_zero, List.set_cons_succ]
                        refine wpAnyH_done (by kernel_rfl) ?_ _
                        clear d0 dA dB dAB dBA dABC dBAC cA cB cAB1 cAB2 cBA1 cBA2
                        go_wp2_with fail
                        go_roundw
                        case rel => exact ⟨k + 1, by omega, by omega, by go_num, vb2, vc2, by rw [HN2.out]; simp; omega, by rw [HTK.out, List.map_append, List.map_singleton, HPN.out]; exact H13.out⟩
                        case measure => simp [intOf]; omega
                      exact AllReadyH.nil
                    exact AllReadyH.nil
                  exact AllReadyH.nil
                exact AllReadyH.nil
              refine AllReadyH.cons rfl (fun K hK => ?_) ?_
              · go_simp
                refine hK.out _ _ ?_ (fun hHeld => ?_)
                · (try dsimp only); with_reducible assumption
                clear hK K
                try simp only [Act.put, List.setIfInBounds_toArray, List.set_cons_zero, List.set_cons_succ]
                refine wpAnyH_ready (rs := [11, 23]) (by kernel_rfl) (by simp) ?_
                refine AllReadyH.cons rfl (fun K hK => ?_) ?_
                · go_simp
                  refine hK.out _ _ ?_ (fun hHeld => ?_)
                  · (try dsimp only); with_reducible assumption
                  clear hK K
                  try simp only [Act.put, List.setIfInBounds_toArray, List.set_cons_zero, List.set_cons_succ]
                  refine wpAnyH_ready (rs := [23]) (by kernel_rfl) (by simp) ?_
                  refine AllReadyH.cons rfl (fun K hK => ?_) ?_
                  · go_simp
                    refine hK.out _ _ ?_ (fun hHeld => ?_)
                    · (try dsimp only); with_reducible assumption
                    clear hK K
                    try simp only [Act.put, List.setIfInBounds_toArray, List.set_cons_zero, List.set_cons_succ]
                    refine wpAnyH_take (i := 24) (v := ?v24_23) rfl (by kernel_rfl) (by kernel_rfl) (by kernel_rfl) (fun _ _ _ h => h) (Or.inl ⟨by rfl, ?y24_23⟩) (by assumption) ?r24_23
                    case y24_23 => (intro w hSw; (try dsimp only at hSw); first | (go_simp; done) | (go_simp; with_reducible rfl))
                    try simp only [Act.put, List.setIfInBounds_toArray, List.set_cons_zero, List.set_cons_succ]
                    refine wpAnyH_ready (rs := [25]) (by kernel_rfl) (by simp) ?_
                    refine AllReadyH.cons rfl (fun K hK => ?_) ?_
                    · go_simp
                      refine hK.out _ _ ?_ (fun hHeld => ?_)
                      · (try dsimp only); with_reducible assumption
                      clear hK K
                      try simp only [Act.put, List.setIfInBounds_toArray, List.set_cons_zero, List.set_cons_succ]
                      refine wpAnyH_ready (rs := [26]) (by kernel_rfl) (by simp) ?_
                      refine AllReadyH.cons rfl (fun K hK => ?_) ?_
                      · first
                        | (refine step_append_st (E := pairE) (v := .slice b8 k c8) (sv := .slice (some ⟨wr.heap.size + 1 + 1, 0, none⟩) 1 1) rfl (.tmp 33) (.tmp 58) slPair rfl (by with_reducible exact HABC.out) (Src.of_rows mem1) rfl rfl q2 q3 ?_; intro vb2 n2 vc2 w13 hn2 h13; have d9 := (h13.sc_at (up5 HM.out) hl).1; rw [HXE.out] at d9; have H13 := hide h13.d1.d1.d1; have HN2 := hide hn2; clear h13 hn2)
                        | (refine step_append_st (E := pairE) (v := .slice b8 k c8) (sv := .slice (some ⟨wr.heap.size + 1 + 1, 0, none⟩) 1 1) rfl (.tmp 33) (.tmp 58) slPair rfl (by with_reducible exact HBAC.out) (Src.of_rows mem1) rfl rfl q2 q3 ?_; intro vb2 n2 vc2 w13 hn2 h13; have d9 := (h13.sc_at (up5 HM.out) hl).1; rw [HXE.out] at d9; have H13 := hide h13.d1.d1.d1; have HN2 := hide hn2; clear h13 hn2)
                        refine hK.out _ _ ?_ (fun hHeld => ?_)
                        · (try dsimp only); with_reducible assumption
                        clear hK K
                        try simp only [Act.put, List.setIfInBounds_toArray, List.set_cons_zero, List.set_cons_succ]
                        refine wpAnyH_take (i := 27) (v := ?v27_24) rfl (by kernel_rfl) (by kernel_rfl) (by kernel_rfl) (fun _ _ _ h => h) (Or.inl ⟨by rfl, ?y27_24⟩) (by assumption) ?r27_24
                        case y27_24 => (intro w hSw; (try dsimp only at hSw); first | (go_simp; done) | (go_simp; with_reducible rfl))
                        try simp only [Act.put, List.setIfInBounds_toArray, List.set_cons_zero, List.set_cons_succ]
                        refine wpAnyH_done (by kernel_rfl) ?_ _
                        clear d0 dA dB dAB dBA dABC dBAC cA cB cAB1 cAB2 cBA1 cBA2
                        go_wp2_with fail
                        go_roundw
                        case rel => exact ⟨k + 1, by omega, by omega, by go_num, vb2, vc2, by rw [HN2.out]; simp; omega, by rw [HTK.out, List.map_append, List.map_singleton, HPN.out]; exact H13.out⟩
                        case measure => simp [intOf]; omega
                      exact AllReadyH.nil
                    exact AllReadyH.nil
                  exact AllReadyH.nil
                refine AllReadyH.cons rfl (fun K hK => ?_) ?_
                · go_simp
                  refine hK.out _ _ ?_ (fun hHeld => ?_)
                  · (try dsimp only); with_reducible assumption
                  clear hK K
                  try simp only [Act.put, List.setIfInBounds_toArray, List.set_cons_zero, List.set_cons_succ]
                  refine wpAnyH_ready (rs := [11]) (by kernel_rfl) (by simp) ?_
                  refine AllReadyH.cons rfl (fun K hK => ?_) ?_
                  · go_simp
                    refine hK.out _ _ ?_ (fun hHeld => ?_)
                    · (try dsimp only); with_reducible assumption
                    clear hK K
                    try simp only [Act.put, List.setIfInBounds_toArray, List.set_cons_zero, List.set_cons_succ]
                    refine wpAnyH_take (i := 24) (v := ?v24_25) rfl (by kernel_rfl) (by kernel_rfl) (by kernel_rfl) (fun _ _ _ h => h) (Or.inl ⟨by rfl, ?y24_25⟩) (by assumption) ?r24_25
                    case y24_25 => (intro w hSw; (try dsimp only at hSw); first | (go_simp; done) | (go_simp; with_reducible rfl))
                    try simp only [Act.put, List.setIfInBounds_toArray, List.set_cons_zero, List.set_cons_succ]
                    refine wpAnyH_ready (rs := [25]) (by kernel_rfl) (by simp) ?_
                    refine AllReadyH.cons rfl (fun K hK => ?_) ?_
                    · go_simp
                      refine hK.out _ _ ?_ (fun hHeld => ?_)
                      · (try dsimp only); with_reducible assumption
                      clear hK K
                      try simp only [Act.put, List.setIfInBounds_toArray, List.set_cons_zero, List.set_cons_succ]
                      refine wpAnyH_ready (rs := [26]) (by kernel_rfl) (by simp) ?_
                      refine AllReadyH.cons rfl (fun K hK => ?_) ?_
                      · first
                        | (refine step_append_st (E := pairE) (v := .slice b8 k c8) (sv := .slice (some ⟨wr.heap.size + 1 + 1, 0, none⟩) 1 1) rfl (.tmp 33) (.tmp 58) slPair rfl (by with_reducible exact HABC.out) (Src.of_rows mem1) rfl rfl q2 q3 ?_; intro vb2 n2 vc2 w13 hn2 h13; have d9 := (h13.sc_at (up5 HM.out) hl).1; rw [HXE.out] at d9; have H13 := hide h13.d1.d1.d1; have HN2 := hide hn2; clear h13 hn2)
                        | (refine step_append_st (E := pairE) (v := .slice b8 k c8) (sv := .slice (some ⟨wr.heap.size + 1 + 1, 0, none⟩) 1 1) rfl (.tmp 33) (.tmp 58) slPair rfl (by with_reducible exact HBAC.out) (Src.of_rows mem1) rfl rfl q2 q3 ?_; intro vb2 n2 vc2 w13 hn2 h13; have d9 := (h13.sc_at (up5 HM.out) hl).1; rw [HXE.out] at d9; have H13 := hide h13.d1.d1.d1; have HN2 := hide hn2; clear h13 hn2)
                        refine hK.out _ _ ?_ (fun hHeld => ?_)
                        · (try dsimp only); with_reducible assumption
                        clear hK K
                        try simp only [Act.put, List.setIfInBounds_toArray, List.set_cons_zero, List.set_cons_succ]
                        refine wpAnyH_take (i := 27) (v := ?v27_26) rfl (by kernel_rfl) (by kernel_rfl) (by kernel_rfl) (fun _ _ _ h => h) (Or.inl ⟨by rfl, ?y27_26⟩) (by assumption) ?r27_26
                        case y27_26 => (intro w hSw; (try dsimp only at hSw); first | (go_simp; done) | (go_simp; with_reducible rfl))
                        try simp only [Act.put, List.setIfInBounds_toArray, List.set_cons_zero, List.set_cons_succ]
                        refine wpAnyH_done (by kernel_rfl) ?_ _
                        clear d0 dA dB dAB dBA dABC dBAC cA cB cAB1 cAB2 cBA1 cBA2
                        go_wp2_with fail
                        go_roundw
                        case rel => exact ⟨k + 1, by omega, by omega, by go_num, vb2, vc2, by rw [HN2.out]; simp; omega, by rw [HTK.out, List.map_append, List.map_singleton, HPN.out]; exact H13.out⟩
                        case measure => simp [intOf]; omega
                      exact AllReadyH.nil
                    exact AllReadyH.nil
                  exact AllReadyH.nil
                exact AllReadyH.nil
              exact AllReadyH.nil
            refine AllReadyH.cons rfl (fun K hK => ?_) ?_
            · go_simp
              refine hK.out _ _ ?_ (fun hHeld => ?_)
              · (try dsimp only); with_reducible assumption
              clear hK K
              try simp only [Act.put, List.setIfInBounds_toArray, List.set_cons_zero, List.set_cons_succ]
              refine wpAnyH_ready (rs := [10, 23]) (by kernel_rfl) (by simp) ?_
              refine AllReadyH.cons rfl (fun K hK => ?_) ?_
              · go_simp
                refine hK.out _ _ ?_ (fun hHeld => ?_)
                · (try dsimp only); with_reducible assumption
                clear hK K
                try simp only [Act.put, List.setIfInBounds_toArray, List.set_cons_zero, List.set_cons_succ]
                refine wpAnyH_ready (rs := [11, 23]) (by kernel_rfl) (by simp) ?_
                refine AllReadyH.cons rfl (fun K hK => ?_) ?_
                · go_simp
                  refine hK.out _ _ ?_ (fun hHeld => ?_)
                  · (try dsimp only); with_reducible assumption
                  clear hK K
                  try simp only [Act.put, List.setIfInBounds_toArray, List.set_cons_zero, List.set_cons_succ]
                  refine wpAnyH_ready (rs := [23]) (by kernel_rfl) (by simp) ?_
                  refine AllReadyH.cons rfl (fun K hK => ?_) ?_
                  · go_simp
                    refine hK.out _ _ ?_ (fun hHeld => ?_)
                    · (try dsimp only); with_reducible assumption
                    clear hK K
                    try simp only [Act.put, List.setIfInBounds_toArray, List.set_cons_zero, List.set_cons_succ]
                    refine wpAnyH_take (i := 24) (v := ?v24_27) rfl (by kernel_rfl) (by kernel_rfl) (by kernel_rfl) (fun _ _ _ h => h) (Or.inl ⟨by rfl, ?y24_27⟩) (by assumption) ?r24_27
                    case y24_27 => (intro w hSw; (try dsimp only at hSw); first | (go_simp; done) | (go_simp; with_reducible rfl))
                    try simp only [Act.put, List.setIfInBounds_toArray, List.set_cons_zero, List.set_cons_succ]
                    refine wpAnyH_ready (rs := [25]) (by kernel_rfl) (by simp) ?_
                    refine AllReadyH.cons rfl (fun K hK => ?_) ?_
                    · go_simp
                      refine hK.out _ _ ?_ (fun hHeld => ?_)
                      · (try dsimp only); with_reducible assumption
                      clear hK K
                      try simp only [Act.put, List.setIfInBounds_toArray, List.set_cons_zero, List.set_cons_succ]
                      refine wpAnyH_ready (rs := [26]) (by kernel_rfl) (by simp) ?_
                      refine AllReadyH.cons rfl (fun K hK => ?_) ?_
                      · first
                        | (refine step_append_st (E := pairE) (v := .slice b8 k c8) (sv := .slice (some ⟨wr.heap.size + 1 + 1, 0, none⟩) 1 1) rfl (.tmp 33) (.tmp 58) slPair rfl (by with_reducible exact HABC.out) (Src.of_rows mem1) rfl rfl q2 q3 ?_; intro vb2 n2 vc2 w13 hn2 h13; have d9 := (h13.sc_at (up5 HM.out) hl).1; rw [HXE.out] at d9; have H13 := hide h13.d1.d1.d1; have HN2 := hide hn2; clear h13 hn2)
                        | (refine step_append_st (E := pairE) (v := .slice b8 k c8) (sv := .slice (some ⟨wr.heap.size + 1 + 1, 0, none⟩) 1 1) rfl (.tmp 33) (.tmp 58) slPair rfl (by with_reducible exact HBAC.out) (Src.of_rows mem1) rfl rfl q2 q3 ?_; intro vb2 n2 vc2 w13 hn2 h13; have d9 := (h13.sc_at (up5 HM.out) hl).1; rw [HXE.out] at d9; have H13 := hide h13.d1.d1.d1; have HN2 := hide hn2; clear h13 hn2)
                        refine hK.out _ _ ?_ (fun hHeld => ?_)
                        · (try dsimp only); with_reducible assumption
                        clear hK K
                        try simp only [Act.put, List.setIfInBounds_toArray, List.set_cons_zero, List.set_cons_succ]
                        refine wpAnyH_take (i := 27) (v := ?v27_28) rfl (by kernel_rfl) (by kernel_rfl) (by kernel_rfl) (fun _ _ _ h => h) (Or.inl ⟨by rfl, ?y27_28⟩) (by assumption) ?r27_28
                        case y27_28 => (intro w hSw; (try dsimp only at hSw); first | (go_simp; done) | (go_simp; with_reducible rfl))
                        try simp only [Act.put, List.setIfInBounds_toArray, List.set_cons_zero, List.set_cons_succ]
                        refine wpAnyH_done (by kernel_rfl) ?_ _
                        clear d0 dA dB dAB dBA dABC dBAC cA cB cAB1 cAB2 cBA1 cBA2
                        go_wp2_with fail
                        go_roundw
                        case rel => exact ⟨k + 1, by omega, by omega, by go_num, vb2, vc2, by rw [HN2.out]; simp; omega, by rw [HTK.out, List.map_append, List.map_singleton, HPN.out]; exact H13.out⟩
                        case measure => simp [intOf]; omega
                      exact AllReadyH.nil
                    exact AllReadyH.nil
                  exact AllReadyH.nil
                refine AllReadyH.cons rfl (fun K hK => ?_) ?_
                · go_simp
                  refine hK.out _ _ ?_ (fun hHeld => ?_)
                  · (try dsimp only); with_reducible assumption
                  clear hK K
                  try simp only [Act.put, List.setIfInBounds_toArray, List.set_cons_zero, List.set_cons_succ]
                  refine wpAnyH_ready (rs := [11]) (by kernel_rfl) (by simp) ?_
                  refine AllReadyH.cons rfl (fun K hK => ?_) ?_
                  · go_simp
                    refine hK.out _ _ ?_ (fun hHeld => ?_)
                    · (try dsimp only); with_reducible assumption
                    clear hK K
                    try simp only [Act.put, List.setIfInBounds_toArray, List.set_cons_zero, List.set_cons_succ]
                    refine wpAnyH_take (i := 24) (v := ?v24_29) rfl (by kernel_rfl) (by kernel_rfl) (by kernel_rfl) (fun _ _ _ h => h) (Or.inl ⟨by rfl, ?y24_29⟩) (by assumption) ?r24_29
                    case y24_29 => (intro w hSw; (try dsimp only at hSw); first | (go_simp; done) | (go_simp; with_reducible rfl))
                    try simp only [Act.put, List.setIfInBounds_toArray, List.set_cons_zero, List.set_cons_succ]
                    refine wpAnyH_ready (rs := [25]) (by kernel_rfl) (by simp) ?_
                    refine AllReadyH.cons rfl (fun K hK => ?_) ?_
                    · go_simp
                      refine hK.out _ _ ?_ (fun hHeld => ?_)
                      · (try dsimp only); with_reducible assumption
                      clear hK K
                      try simp only [Act.put, List.setIfInBounds_toArray, List.set_cons_zero, List.set_cons_succ]
                      refine wpAnyH_ready (rs := [26]) (by kernel_rfl) (by simp) ?_
                      refine AllReadyH.cons rfl (fun K hK => ?_) ?_
                      · first
                        | (refine step_append_st (E := pairE) (v := .slice b8 k c8) (sv := .slice (some ⟨wr.heap.size + 1 + 1, 0, none⟩) 1 1) rfl (.tmp 33) (.tmp 58) slPair rfl (by with_reducible exact HABC.out) (Src.of_rows mem1) rfl rfl q2 q3 ?_; intro vb2 n2 vc2 w13 hn2 h13; have d9 := (h13.sc_at (up5 HM.out) hl).1; rw [HXE.out] at d9; have H13 := hide h13.d1.d1.d1; have HN2 := hide hn2; clear h13 hn2)
                        | (refine step_append_st (E := pairE) (v := .slice b8 k c8) (sv := .slice (some ⟨wr.heap.size + 1 + 1, 0, none⟩) 1 1) rfl (.tmp 33) (.tmp 58) slPair rfl (by with_reducible exact HBAC.out) (Src.of_rows mem1) rfl rfl q2 q3 ?_; intro vb2 n2 vc2 w13 hn2 h13; have d9 := (h13.sc_at (up5 HM.out) hl).1; rw [HXE.out] at d9; have H13 := hide h13.d1.d1.d1; have HN2 := hide hn2; clear h13 hn2)
                        refine hK.out _ _ ?_ (fun hHeld => ?_)
                        · (try dsimp only); with_reducible assumption
                        clear hK K
                        try simp only [Act.put, List.setIfInBounds_toArray, List.set_cons_zero, List.set_cons_succ]
                        refine wpAnyH_take (i := 27) (v := ?v27_30) rfl (by kernel_rfl) (by kernel_rfl) (by kernel_rfl) (fun _ _ _ h => h) (Or.inl ⟨by rfl, ?y27_30⟩) (by assumption) ?r27_30
                        case y27_30 => (intro w hSw; (try dsimp only at hSw); first | (go_simp; done) | (go_simp; with_reducible rfl))
                        try simp only [Act.put, List.setIfInBounds_toArray, List.set_cons_zero, List.set_cons_succ]
                        refine wpAnyH_done (by kernel_rfl) ?_ _
                        clear d0 dA dB dAB dBA dABC dBAC cA cB cAB1 cAB2 cBA1 cBA2
                        go_wp2_with fail
                        go_roundw
                        case rel => exact ⟨k + 1, by omega, by omega, by go_num, vb2, vc2, by rw [HN2.out]; simp; omega, by rw [HTK.out, List.map_append, List.map_singleton, HPN.out]; exact H13.out⟩
                        case measure => simp [intOf]; omega
                      exact AllReadyH.nil
                    exact AllReadyH.nil
                  exact AllReadyH.nil
                exact AllReadyH.nil
              refine AllReadyH.cons rfl (fun K hK => ?_) ?_
              · go_simp
                refine hK.out _ _ ?_ (fun hHeld => ?_)
                · (try dsimp only); with_reducible assumption
                clear hK K
                try simp only [Act.put, List.setIfInBounds_toArray, List.set_cons_zero, List.set_cons_succ]
                refine wpAnyH_ready (rs := [10]) (by kernel_rfl) (by simp) ?_
                refine AllReadyH.cons rfl (fun K hK => ?_) ?_
                · go_simp
                  refine hK.out _ _ ?_ (fun hHeld => ?_)
                  · (try dsimp only); with_reducible assumption
                  clear hK K
                  try simp only [Act.put, List.setIfInBounds_toArray, List.set_cons_zero, List.set_cons_succ]
                  refine wpAnyH_ready (rs := [11]) (by kernel_rfl) (by simp) ?_
                  refine AllReadyH.cons rfl (fun K hK => ?_) ?_
                  · go_simp
                    refine hK.out _ _ ?_ (fun hHeld => ?_)
                    · (try dsimp only); with_reducible assumption
                    clear hK K
                    try simp only [Act.put, List.setIfInBounds_toArray, List.set_cons_zero, List.set_cons_succ]
                    refine wpAnyH_take (i := 24) (v := ?v24_31) rfl (by kernel_rfl) (by kernel_rfl) (by kernel_rfl) (fun _ _ _ h => h) (Or.inl ⟨by rfl, ?y24_31⟩) (by assumption) ?r24_31
                    case y24_31 => (intro w hSw; (try dsimp only at hSw); first | (go_simp; done) | (go_simp; with_reducible rfl))
                    try simp only [Act.put, List.setIfInBounds_toArray, List.set_cons_zero, List.set_cons_succ]
                    refine wpAnyH_ready (rs := [25]) (by kernel_rfl) (by simp) ?_
                    refine AllReadyH.cons rfl (fun K hK => ?_) ?_
                    · go_simp
                      refine hK.out _ _ ?_ (fun hHeld => ?_)
                      · (try dsimp only); with_reducible assumption
                      clear hK K
                      try simp only [Act.put, List.setIfInBounds_toArray, List.set_cons_zero, List.set_cons_succ]
                      refine wpAnyH_ready (rs := [26]) (by kernel_rfl) (by simp) ?_
                      refine AllReadyH.cons rfl (fun K hK => ?_) ?_
                      · first
                        | (refine step_append_st (E := pairE) (v := .slice b8 k c8) (sv := .slice (some ⟨wr.heap.size + 1 + 1, 0, none⟩) 1 1) rfl (.tmp 33) (.tmp 58) slPair rfl (by with_reducible exact HABC.out) (Src.of_rows mem1) rfl rfl q2 q3 ?_; intro vb2 n2 vc2 w13 hn2 h13; have d9 := (h13.sc_at (up5 HM.out) hl).1; rw [HXE.out] at d9; have H13 := hide h13.d1.d1.d1; have HN2 := hide hn2; clear h13 hn2)
                        | (refine step_append_st (E := pairE) (v := .slice b8 k c8) (sv := .slice (some ⟨wr.heap.size + 1 + 1, 0, none⟩) 1 1) rfl (.tmp 33) (.tmp 58) slPair rfl (by with_reducible exact HBAC.out) (Src.of_rows mem1) rfl rfl q2 q3 ?_; intro vb2 n2 vc2 w13 hn2 h13; have d9 := (h13.sc_at (up5 HM.out) hl).1; rw [HXE.out] at d9; have H13 := hide h13.d1.d1.d1; have HN2 := hide hn2; clear h13 hn2)
                        refine hK.out _ _ ?_ (fun hHeld => ?_)
                        · (try dsimp only); with_reducible assumption
                        clear hK K
                        try simp only [Act.put, List.setIfInBounds_toArray, List.set_cons_zero, List.set_cons_succ]
                        refine wpAnyH_take (i := 27) (v := ?v27_32) rfl (by kernel_rfl) (by kernel_rfl) (by kernel_rfl) (fun _ _ _ h => h) (Or.inl ⟨by rfl, ?y27_32⟩) (by assumption) ?r27_32
                        case y27_32 => (intro w hSw; (try dsimp only at hSw); first | (go_simp; done) | (go_simp; with_reducible rfl))
                        try simp only [Act.put, List.setIfInBounds_toArray, List.set_cons_zero, List.set_cons_succ]
                        refine wpAnyH_done (by kernel_rfl) ?_ _
                        clear d0 dA dB dAB dBA dABC dBAC cA cB cAB1 cAB2 cBA1 cBA2
                        go_wp2_with fail
                        go_roundw
                        case rel => exact ⟨k + 1, by omega, by omega, by go_num, vb2, vc2, by rw [HN2.out]; simp; omega, by rw [HTK.out, List.map_append, List.map_singleton, HPN.out]; exact H13.out⟩
                        case measure => simp [intOf]; omega
                      exact AllReadyH.nil
                    exact AllReadyH.nil
                  exact AllReadyH.nil
                exact AllReadyH.nil
              exact AllReadyH.nil
            exact AllReadyH.nil
          · have hk40 : k = 40 := by omega
            subst hk40
            have hpn : (ns.take 40).map (pairN (n + 2)) = pairsN (n + 2) ns := rfl
            have h4 := H3.out.persist.f1
            rw [hpn] at h4
            have H4 := hide h4
            clear h4 H3 hpn
            go_wp2_with fail
            go_ret2
            exact ⟨.slice b6 n.toNat c6, .slice b8 40 c8, rfl, H4.out⟩
        · have hpn : (ns.take k).map (pairN (n + 2)) = pairsN (n + 2) ns := by
            unfold pairsN
            rw [List.take_of_length_le (show ns.length ≤ k by omega), List.take_of_length_le (show ns.length ≤ 40 by omega)]
          have h4 := H3.out.persist.f1
          rw [hpn] at h4
          have H4 := hide h4
          clear h4 H3 hpn
          go_wp2_with fail
          go_ret2
          exact ⟨.slice b6 n.toNat c6, .slice b8 k c8, rfl, H4.out⟩
end Go.Proofs.Ytmebmgbjpbapjaa
