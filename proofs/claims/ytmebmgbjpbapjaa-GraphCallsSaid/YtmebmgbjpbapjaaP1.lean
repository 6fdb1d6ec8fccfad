/-
  deadboltlaw6: within, size, Few, All.
-/
import Derived.Test.YtmebmgbjpbapjaaGh
namespace Go.Proofs.Ytmebmgbjpbapjaa
open Go.RowKit Go.Maps Go.MapKept
variable {b : Env} {L : List HP} {w : World}

theorem within6_calls (k n : Int) (hn : 0 < n) (hn2 : n ≤ 4294967296) (hk1 : -9223372036854775808 ≤ k) (hk2 : k ≤ 9223372036854775807) : Calls Try.prog 42 #[.int .i64 k, .int .i64 n] w fun x w' => x = .returned (.int .i64 (k % n)) ∧ w = w' := by
  by_cases h0 : 0 ≤ k
  · have hnn : decide (k % n < 0) = false := by simpa using Int.emod_nonneg k (show n ≠ 0 by omega)
    go_enter Try.func42, Try.ntmps42
    go_wp2
    go_ret
    exact ⟨rfl, rfl⟩
  · have hf := tmod_facts k n hn (by omega)
    obtain ⟨f1, f2, f3, f4⟩ := hf
    have F3 := hide f3
    have F4 := hide f4
    clear f3 f4
    by_cases h1 : k.tmod n < 0
    · go_enter Try.func42, Try.ntmps42
      go_wp2
      go_ret
      exact ⟨by rw [F3.out h1]; rfl, rfl⟩
    · go_enter Try.func42, Try.ntmps42
      go_wp2
      go_ret
      exact ⟨by rw [F4.out (by omega)]; rfl, rfl⟩

/-- How many raw statements, as far as is counted. -/
def szG (d : Nat) (n : Int) : Raws → Int
  | .nil => n
  | .cons _ _ A B r => if n ≤ 40 then szG d (n + 1 + (if 12 < d + 1 then 1000 else szG (d + 1) 0 A) + (if 12 < d + 1 then 1000 else szG (d + 1) 0 B)) r else n
def szR (d : Nat) (l : Raws) : Int := if 12 < d then 1000 else szG d 0 l
theorem szG_cons (d : Nat) (n : Int) (k x : Int) (A B r : Raws) : szG d n (.cons k x A B r) = if n ≤ 40 then szG d (n + 1 + szR (d + 1) A + szR (d + 1) B) r else n := rfl
theorem szG_ge : ∀ (l : Raws) (d : Nat) (n : Int), 0 ≤ n → n ≤ szG d n l
  | .nil, _, _, _ => Int.le_refl _
  | .cons k x A B r, d, n, hn => by
    rw [szG_cons]
    split
    · have hA : 0 ≤ szR (d + 1) A := by unfold szR; split; omega; exact szG_ge A _ _ (Int.le_refl _)
      have hB : 0 ≤ szR (d + 1) B := by unfold szR; split; omega; exact szG_ge B _ _ (Int.le_refl _)
      have := szG_ge r d (n + 1 + szR (d + 1) A + szR (d + 1) B) (by omega)
      omega
    · exact Int.le_refl _
theorem szR_ge (l : Raws) (d : Nat) : 0 ≤ szR d l := by unfold szR; split; omega; exact szG_ge l _ _ (Int.le_refl _)
/-- A bound. -/
def bdN : Nat → Int
  | 0 => 1000
  | k + 1 => 41 + 2 * bdN k
theorem bdN_mono : ∀ k, 1000 ≤ bdN k
  | 0 => Int.le_refl _
  | k + 1 => by have := bdN_mono k; simp only [bdN]; omega
theorem szG_le : ∀ (l : Raws) (d : Nat) (n : Int), 0 ≤ n → ∀ k, d + k = 12 → n ≤ bdN (k + 1) → szG d n l ≤ bdN (k + 1)
  | .nil, _, n, _, _, _, h => h
  | .cons q x A B r, d, n, hn, k, hd, h => by
    rw [szG_cons]
    split
    · rename_i h40
      have one : ∀ C : Raws, (∀ (d : Nat) (n : Int), 0 ≤ n → ∀ k, d + k = 12 → n ≤ bdN (k + 1) → szG d n C ≤ bdN (k + 1)) → szR (d + 1) C ≤ bdN k := by
        intro C hC
        unfold szR
        split
        · exact bdN_mono k
        · cases k with
          | zero => omega
          | succ k => exact hC (d + 1) 0 (Int.le_refl _) k (by omega) (by have := bdN_mono (k + 1); omega)
      have hA := one A (szG_le A)
      have hB := one B (szG_le B)
      have gA := szR_ge A (d + 1)
      have gB := szR_ge B (d + 1)
      exact szG_le r d _ (by omega) k hd (by simp only [bdN]; omega)
    · exact h
theorem szR_le (l : Raws) (d : Nat) (hd : d ≤ 13) : szR d l ≤ 10000000 := by
  unfold szR
  split
  · omega
  · have h1 := szG_le l d 0 (Int.le_refl _) (12 - d) (by omega) (by have := bdN_mono (12 - d + 1); omega)
    have h2 : ∀ k, k ≤ 12 → bdN (k + 1) ≤ 10000000 := by
      intro k hk
      have : k = 0 ∨ k = 1 ∨ k = 2 ∨ k = 3 ∨ k = 4 ∨ k = 5 ∨ k = 6 ∨ k = 7 ∨ k = 8 ∨ k = 9 ∨ k = 10 ∨ k = 11 ∨ k = 12 := by omega
      rcases this with rfl | rfl | rfl | rfl | rfl | rfl | rfl | rfl | rfl | rfl | rfl | rfl | rfl <;> decide
    have := h2 (12 - d) (by omega)
    omega
theorem szG_size : ∀ (l : Raws) (d : Nat) (n : Int), 0 ≤ n → szG d n l ≤ 40 → n + (l.size : Int) ≤ szG d n l
  | .nil, _, n, _, _ => by simp [szG, Raws.size]
  | .cons q x A B r, d, n, hn, h => by
    rw [szG_cons] at h ⊢
    have gA := szR_ge A (d + 1)
    have gB := szR_ge B (d + 1)
    split at h
    · rename_i h40
      rw [if_pos h40]
      have h1 := szG_ge r d (n + 1 + szR (d + 1) A + szR (d + 1) B) (by omega)
      have h2 := szG_size r d _ (by omega) h
      have one : ∀ C : Raws, (∀ (d : Nat) (n : Int), 0 ≤ n → szG d n C ≤ 40 → n + (C.size : Int) ≤ szG d n C) → szR (d + 1) C ≤ 40 → (C.size : Int) ≤ szR (d + 1) C := by
        intro C hC hle
        unfold szR at hle ⊢
        split at hle
        · omega
        · rename_i hd
          rw [if_neg hd]
          have := hC (d + 1) 0 (Int.le_refl _) hle
          omega
      have hA := one A (szG_size A) (by omega)
      have hB := one B (szG_size B) (by omega)
      simp only [Raws.size, Int.natCast_add, Int.natCast_one]
      omega
    · rename_i h40; omega
def fewR (l : Raws) : Bool := decide (szR 0 l ≤ 40)
theorem fewR_size {l : Raws} (h : fewR l = true) : l.size ≤ 40 := by
  have h1 : szR 0 l ≤ 40 := by simpa [fewR] using h
  unfold szR at h1
  rw [if_neg (by omega)] at h1
  have := szG_size l 0 0 (Int.le_refl _) h1
  omega
/-- The first k of them counted. -/
def szAt (d : Nat) (n : Int) : List RRec → Int
  | [] => n
  | s :: l => if n ≤ 40 then szAt d (n + 1 + szR (d + 1) s.A + szR (d + 1) s.B) l else n
theorem szAt_toL (d : Nat) : ∀ (l : Raws) (n : Int), szAt d n l.toL = szG d n l
  | .nil, _ => rfl
  | .cons k x A B r, n => by
    rw [szG_cons, Raws.toL]
    simp only [szAt]
    split
    · exact szAt_toL d r _
    · rfl

def GSize (l : Raws) : Prop := ∀ (b : Env) (L : List HP) (w : World) (v : Value) (d : Nat), St b L w → HP.sl rawE v l.toL ∈ L → d ≤ 13 →
    Calls Try.prog 41 #[v, .int .i64 d] w fun x w' => x = .returned (.int .i64 (szR d l)) ∧ ∃ n, w' = w.drewN n
def SizeAt (w0 : World) (l : List RRec) (d : Nat) (n i : Value) (wr : World) : Prop := ∃ (k m : Nat) (c : Int), k ≤ l.length ∧ i = .int .i64 k ∧ n = .int .i64 c ∧ wr = w0.drewN m ∧ 0 ≤ c ∧ c ≤ 30000000 ∧ szAt d c (l.drop k) = szAt d 0 l

set_option maxRecDepth 100000 in
set_option maxHeartbeats 2000000 in
theorem gsize_all : ∀ (n : Nat) (l : Raws), l.size = n → GSize l := by
  intro n
  induction n using Nat.strongRecOn with
  | _ n ih =>
    intro l hl b L w v d h hm hd
    obtain ⟨base, cap, rfl, hc1, hc2⟩ := h.sl_form hm
    have hm2 : (l.toL.length : Int) ≤ 9223372036854775807 := by unfold maxLen at hc2; omega
    have H := hide h
    have HM := hide hm
    have IH := hide ih
    have HL := hide hl
    clear h hm hc1 hc2 ih hl
    by_cases hd12 : 12 < d
    · have hd12' : (12 : Int) < d := by omega
      have HR : Hid (szR d l = 1000) := hide (by unfold szR; rw [if_pos hd12])
      go_enter Try.func41, Try.ntmps41
      go_wp2_with fail
      go_ret
      exact ⟨by rw [HR.out]; rfl, 0, rfl⟩
    · have hd12' : ¬ (12 : Int) < d := by omega
      have HR : Hid (szR d l = szAt d 0 l.toL) := hide (by unfold szR; rw [if_neg hd12, szAt_toL])
      go_enter Try.func41, Try.ntmps41
      go_wp2_with fail
      go_loopw [5, 6] (fun nn i wr => SizeAt w l.toL d nn i wr) (fun _ i _ => l.toL.length - (intOf i).toNat)
      case atStart => exact ⟨0, 0, 0, by omega, rfl, rfl, rfl, by omega, by omega, by rw [List.drop_zero]⟩
      case round =>
        obtain ⟨k, m, c, hk, rfl, rfl, rfl, hc0, hcb, hsz⟩ := hrel
        have HSZ := hide hsz
        clear hsz
        by_cases hlt : k < l.toL.length
        · have hlt' : (k : Int) < l.toL.length := by omega
          by_cases h40 : c ≤ 40
          · obtain ⟨g, o, hg⟩ := H.out.sl_base HM.out (by omega) (by decide)
            subst hg
            obtain ⟨cs, h2⟩ := H.out.elem HM.out (List.getElem?_eq_getElem hlt) (by decide)
            have hsz := Raws.size_mem (List.getElem_mem hlt)
            have hdr := List.drop_eq_getElem_cons hlt
            obtain ⟨x, hx⟩ : ∃ x, l.toL[k] = x := ⟨_, rfl⟩
            rw [hx] at h2 hsz hdr
            obtain ⟨va, vb, _, rfl, h3⟩ := h2.raw
            have IHA : Hid (GSize x.A) := hide (IH.out x.A.size (by rw [← HL.out]; exact hsz.1) x.A rfl)
            have IHB : Hid (GSize x.B) := hide (IH.out x.B.size (by rw [← HL.out]; exact hsz.2) x.B rfl)
            have c2 : w.cell? ⟨g, o + k * 4 + 2, none⟩ = some va := h3.elem_cell mem2 2 rfl
            have c3 : w.cell? ⟨g, o + k * 4 + 3, none⟩ = some vb := h3.elem_cell mem2 3 rfl
            have H3 := hide h3
            have gA := szR_ge x.A (d + 1)
            have gB := szR_ge x.B (d + 1)
            have bA := szR_le x.A (d + 1) (by omega)
            have bB := szR_le x.B (d + 1) (by omega)
            have HSZ2 : Hid (szAt d (c + 1 + szR (d + 1) x.A + szR (d + 1) x.B) (l.toL.drop (k + 1)) = szAt d 0 l.toL) := hide (by
              rw [← HSZ.out, hdr]; simp only [szAt]; rw [if_pos h40])
            obtain ⟨sA, hsA⟩ : ∃ s, szR (d + 1) x.A = s := ⟨_, rfl⟩
            obtain ⟨sB, hsB⟩ : ∃ s, szR (d + 1) x.B = s := ⟨_, rfl⟩
            rw [hsA] at gA bA HSZ2
            rw [hsB] at gB bB HSZ2
            have HSA := hide hsA
            have HSB := hide hsB
            have hd1 : ((d + 1 : Nat) : Int) = (d : Int) + 1 := by omega
            have HD1 := hide hd1
            have u1 : IntKind.i64.wrap ((d : Int) + 1) = (d : Int) + 1 := wrap_small (by omega) (by omega)
            have u2 : IntKind.i64.wrap (c + 1) = c + 1 := wrap_small (by omega) (by omega)
            have u3 : IntKind.i64.wrap (c + 1 + sA) = c + 1 + sA := wrap_small (by omega) (by omega)
            have u4 : IntKind.i64.wrap (c + 1 + sA + sB) = c + 1 + sA + sB := wrap_small (by omega) (by omega)
            have CA : Hid (∀ n, Calls Try.prog 41 #[va, .int .i64 ((d : Int) + 1)] (w.drewN n) fun x w' => x = .returned (.int .i64 sA) ∧ ∃ n', w' = (w.drewN n).drewN n') := hide (fun n => by
              have := IHA.out _ _ _ va (d + 1) (h3.drewN n) mem0 (by omega)
              rw [hsA, hd1] at this; exact this)
            have CB : Hid (∀ n, Calls Try.prog 41 #[vb, .int .i64 ((d : Int) + 1)] (w.drewN n) fun x w' => x = .returned (.int .i64 sB) ∧ ∃ n', w' = (w.drewN n).drewN n') := hide (fun n => by
              have := IHB.out _ _ _ vb (d + 1) (h3.drewN n) mem1 (by omega)
              rw [hsB, hd1] at this; exact this)
            clear h2 h3 hsz hdr hx hsA hsB hd1 IHA IHB
            go_wp2_with fail
            go_quiet (first
              | (go_at_call 41; with_reducible refine (CA.out _).mono ?_; rintro x w' ⟨rfl, n', rfl⟩; exact ⟨rfl, _, by rw [World.drewN_drewN, Nat.add_assoc]⟩)
              | (go_at_call 41; with_reducible refine (CB.out _).mono ?_; rintro x w' ⟨rfl, n', rfl⟩; exact ⟨rfl, _, by rw [World.drewN_drewN, Nat.add_assoc]⟩))
            go_wp2_with fail
            go_roundw
            case rel => exact ⟨k + 1, _, _, by omega, by go_num, rfl, rfl, by omega, by omega, HSZ2.out⟩
            case measure => simp [intOf]; omega
          · have HF : Hid (szAt d 0 l.toL = c) := hide (by
              rw [← HSZ.out, List.drop_eq_getElem_cons hlt]; simp only [szAt]; rw [if_neg h40])
            go_wp2_with fail
            go_ret
            exact ⟨by rw [HR.out, HF.out]; rfl, _, rfl⟩
        · have HF : Hid (szAt d 0 l.toL = c) := hide (by
            rw [← HSZ.out, List.drop_of_length_le (by omega)]; rfl)
          go_wp2_with fail
          go_ret
          exact ⟨by rw [HR.out, HF.out]; rfl, _, rfl⟩
theorem gsize_calls (l : Raws) : GSize l := gsize_all l.size l rfl
end Go.Proofs.Ytmebmgbjpbapjaa
