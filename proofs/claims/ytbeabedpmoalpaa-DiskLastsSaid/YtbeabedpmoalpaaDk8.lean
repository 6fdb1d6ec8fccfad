/-
  package disk: Flush, Crash.
-/
import Derived.Test.YtbeabedpmoalpaaDk7
namespace Go.Proofs.Ytbeabedpmoalpaa
open Go.RowKit Go.Maps Go.MapKept
variable {e : Env} {b : Nat} {d : Dk} {L : List HP} {w : World}

/-- The first k of the keys settled. -/
def Dk.settleN (d : Dk) (ks : List Int) (f : Nat → Bool) : Nat → Dk
  | 0 => d
  | k + 1 => (d.settleN ks f k).settle (ks.getD k 0) (f k)

structure Dk.Fine (d : Dk) : Prop where
  ok : d.Ok
  nodup : (d.fresh.map (·.1)).Nodup

theorem Dk.Ok.get (hOk : d.Ok) {n : Int} {s : List UInt8} (hk : kget d.fresh n = some s) : s.length = 64 ∧ 0 ≤ n ∧ n < d.last.length := by
  have hmem : (n, s) ∈ d.fresh := by
    clear hOk
    generalize d.fresh = l at hk
    induction l with
    | nil => simp [kget] at hk
    | cons p r ih =>
      simp only [kget] at hk
      split at hk
      · rename_i hp; simp only [Option.some.injEq] at hk; subst hp; subst hk; exact List.mem_cons_self ..
      · exact List.mem_cons_of_mem _ (ih hk)
  exact hOk.fr _ hmem

theorem settle_fine (h : d.Fine) (n : Int) (is : Bool) : (d.settle n is).Fine := by
  refine ⟨⟨?_, ?_, ?_⟩, kdel_nodup h.nodup n⟩
  · intro s hs
    simp only [Dk.settle] at hs
    split at hs
    · rcases List.mem_or_eq_of_mem_set hs with h1 | h1
      · exact h.ok.sec s h1
      · subst h1
        cases hk : kget d.fresh n with
        | none => simp [zs]
        | some q => simpa using (h.ok.get hk).1
    · exact h.ok.sec s hs
  · intro p hp
    have hlen : (d.settle n is).last.length = d.last.length := by simp only [Dk.settle]; split <;> simp
    rw [hlen]
    exact h.ok.fr p ((kdel_sub d.fresh n).subset hp)
  · have hlen : (d.settle n is).last.length = d.last.length := by simp only [Dk.settle]; split <;> simp
    rw [hlen]; exact h.ok.most

theorem settleN_fine (h : d.Fine) (ks : List Int) (f : Nat → Bool) : ∀ k, (d.settleN ks f k).Fine
  | 0 => h
  | k + 1 => settle_fine (settleN_fine h ks f k) _ _

theorem settleN_len (ks : List Int) (f : Nat → Bool) : ∀ k, (d.settleN ks f k).last.length = d.last.length
  | 0 => rfl
  | k + 1 => by
    simp only [Dk.settleN, Dk.settle]
    split
    · simp [settleN_len ks f k]
    · exact settleN_len ks f k

theorem settleN_get (h : d.Fine) (ks : List Int) (f : Nat → Bool) : ∀ (k : Nat) (j : Int), k ≤ ks.length → kget (d.settleN ks f k).fresh j = if j ∈ ks.take k then none else kget d.fresh j
  | 0, j, _ => by simp [Dk.settleN]
  | k + 1, j, hk => by
    have hlt : k < ks.length := by omega
    have e1 : ks.getD k 0 = ks[k] := by simp [List.getD, hlt]
    simp only [Dk.settleN, Dk.settle]
    rw [kget_kdel (settleN_fine h ks f k).nodup, settleN_get h ks f k j (by omega), List.take_succ_eq_append_getElem hlt, e1]
    by_cases h1 : ks[k] = j
    · simp [h1]
    · rw [if_neg h1]
      have : (j ∈ ks.take k ++ [ks[k]]) ↔ j ∈ ks.take k := by
        rw [List.mem_append, List.mem_singleton]
        exact ⟨fun x => x.elim id (fun y => absurd y.symm h1), Or.inl⟩
      simp only [this]

theorem keys_mem (j : Int) : j ∈ d.keys ↔ j ∈ d.fresh.map (·.1) := (List.mergeSort_perm _ _).mem_iff
theorem keys_nodup (h : d.Fine) : d.keys.Nodup := (List.mergeSort_perm _ _).nodup_iff.2 h.nodup

/-- At each round the key at hand is still there. -/
theorem settleN_at (h : d.Fine) (f : Nat → Bool) (k : Nat) (hk : k < d.keys.length) : ∃ s, kget (d.settleN d.keys f k).fresh (d.keys.getD k 0) = some s ∧ s.length = 64 ∧ 0 ≤ d.keys.getD k 0 ∧ d.keys.getD k 0 < d.last.length := by
  have e1 : d.keys.getD k 0 = d.keys[k] := by simp [List.getD, hk]
  have hnot : d.keys[k] ∉ d.keys.take k := by
    intro hm
    obtain ⟨i, hi, he⟩ := List.getElem_of_mem hm
    have hi' : i < k := by simp at hi; omega
    have hne := List.pairwise_iff_getElem.1 (keys_nodup h) i k (by omega) hk hi'
    exact hne (by rw [← he]; simp)
  rw [settleN_get h d.keys f k _ (by omega), e1, if_neg hnot]
  cases hg : kget d.fresh d.keys[k] with
  | none => exact absurd ((keys_mem _).1 (List.getElem_mem hk)) (kget_none.1 hg)
  | some s =>
    obtain ⟨a1, a2, a3⟩ := h.ok.get hg
    exact ⟨s, rfl, a1, a2, a3⟩

theorem settleN_all (h : d.Fine) (f : Nat → Bool) : (d.settleN d.keys f d.keys.length).fresh = [] := by
  have hall : ∀ j, kget (d.settleN d.keys f d.keys.length).fresh j = none := by
    intro j
    rw [settleN_get h d.keys f _ j (Nat.le_refl _), List.take_length]
    split
    · rfl
    · rename_i hj; exact kget_none.2 (fun hm => hj ((keys_mem j).2 hm))
  cases hl : (d.settleN d.keys f d.keys.length).fresh with
  | nil => rfl
  | cons p r => have := hall p.1; rw [hl] at this; simp [kget] at this

/-- Flush, where it is done. -/
def Dk.flushed (d : Dk) : Dk := d.spend.settleN d.spend.keys (fun _ => true) d.spend.keys.length

theorem flush_dead (h : Sat e (HP.disk b d :: L) w) (hd : d.dead = true) : Calls Try.prog 22 #[.pointer (some ⟨b, 0, none⟩)] w fun x w' => x = .returned (.int .i64 3) ∧ w = w' := by
  obtain ⟨lb, mb, h⟩ := h.disk_open
  have c4 := h.disk_at.c4
  rw [hd] at c4
  clear h hd
  go_enter Try.func22, Try.ntmps22
  go_wp2_with fail
  go_ret
  exact ⟨rfl, rfl⟩

theorem flush_fuse (h : Sat e (HP.disk b d :: L) w) (h1 : 0 ≤ d.ops) (h2 : d.ops < 1000000000) (hd : d.dead = false) (hf : d.fuse = 0) :
    Calls Try.prog 22 #[.pointer (some ⟨b, 0, none⟩)] w fun x w' => x = .returned (.int .i64 3) ∧ Sat e (HP.disk b { d with dead := true } :: L) w' := by
  have H := hide h
  obtain ⟨lb, mb, h⟩ := h.disk_open
  have c4 := h.disk_at.c4
  rw [hd] at c4
  have hsp : d.spend = { d with dead := true } := by rw [Dk.spend, if_pos hf]
  have HS := hide hsp
  have hdec : decide (d.fuse ≠ 0) = false := by simp [hf]
  have HD := hide hdec
  have hf4 : d.fuse < 9223372036854775808 := by omega
  have HF4 := hide hf4
  clear h hd hf hsp hdec hf4
  go_enter Try.func22, Try.ntmps22
  go_wp2_with (go_at_call 31; refine (step_calls H.out h1 h2 HF4.out).mono ?_; rintro x w1 ⟨rfl, hs1⟩; rw [HS.out] at hs1; rw [HD.out]; have H1 := hide hs1; clear hs1)
  go_ret
  exact ⟨rfl, H1.out⟩

theorem spend_fine (h : d.Fine) : d.spend.Fine := by
  have h1 : d.spend.last = d.last := by unfold Dk.spend; split <;> rfl
  have h2 : d.spend.fresh = d.fresh := by unfold Dk.spend; split <;> rfl
  exact ⟨⟨by rw [h1]; exact h.ok.sec, by rw [h1, h2]; exact h.ok.fr, by rw [h1]; exact h.ok.most⟩, by rw [h2]; exact h.nodup⟩

theorem nodup_len {α : Type} [DecidableEq α] : ∀ (l m : List α), l.Nodup → (∀ x ∈ l, x ∈ m) → l.length ≤ m.length
  | [], _, _, _ => by simp
  | a :: l, m, hn, hs => by
    have ha : a ∈ m := hs a (by simp)
    have hn' := List.nodup_cons.1 hn
    have := nodup_len l (m.erase a) hn'.2 (fun x hx => by
      have hxa : x ≠ a := fun e => hn'.1 (by rw [← e]; exact hx)
      exact (List.mem_erase_of_ne hxa).2 (hs x (by simp [hx])))
    rw [List.length_erase_of_mem ha] at this
    have hpos : 0 < m.length := List.length_pos_of_mem ha
    simp only [List.length_cons]; omega

theorem fresh_len (h : d.Fine) : d.fresh.length ≤ 256 := by
  have hsub : ∀ x ∈ d.fresh.map (·.1), x ∈ (List.range d.last.length).map Int.ofNat := by
    intro x hx
    obtain ⟨p, hp, rfl⟩ := List.mem_map.1 hx
    obtain ⟨_, h0, h1⟩ := h.ok.fr p hp
    exact List.mem_map.2 ⟨p.1.toNat, List.mem_range.2 (by omega), by simp; omega⟩
  have := nodup_len _ _ h.nodup hsub
  simp at this
  have := h.ok.most
  omega

/-- The loop of Flush and of Crash at the head of a round. -/
def LoopAt (e : Env) (b : Nat) (d : Dk) (L : List HP) (base : Option Addr) (cap : Nat) (f : Nat → Bool) (i : Value) (wr : World) : Prop :=
  ∃ k : Nat, k ≤ d.keys.length ∧ i = .int .i64 k ∧ Sat e (HP.row 3 1 (.slice base d.keys.length cap) d.keys.length (d.keys.map eInt) :: HP.disk b (d.settleN d.keys f k) :: L) wr

set_option maxRecDepth 100000 in
set_option maxHeartbeats 1000000 in
theorem flush_ok (h : Sat e (HP.disk b d :: L) w) (hF : d.Fine) (h1 : 0 ≤ d.ops) (h2 : d.ops < 1000000000) (hf4 : d.fuse < 9223372036854775808) (hd : d.dead = false) (hf : d.fuse ≠ 0) :
    Calls Try.prog 22 #[.pointer (some ⟨b, 0, none⟩)] w fun x w' => x = .returned (.int .i64 0) ∧ Sat e (HP.disk b d.flushed :: L) w' := by
  have H := hide h
  obtain ⟨lb, mb, h⟩ := h.disk_open
  have c4 := h.disk_at.c4
  rw [hd] at c4
  have hdec : decide (d.fuse ≠ 0) = true := by simp [hf]
  have HD := hide hdec
  have HF4 := hide hf4
  have hF' := spend_fine hF
  have hfl : d.flushed = d.spend.settleN d.spend.keys (fun _ => true) d.spend.keys.length := rfl
  obtain ⟨d1, hd1⟩ : ∃ d1, d1 = d.spend := ⟨_, rfl⟩
  rw [← hd1] at hF' hfl
  have H1D := hide hd1
  have hlen := fresh_len hF'
  have hkl : d1.keys.length ≤ 256 := by simpa [Dk.keys, sortI] using hlen
  have HFI := hide hF'
  have HLN := hide hlen
  have HFL := hide hfl
  clear h hd hf hdec hf4 hF hF' hlen hfl hd1
  go_enter Try.func22, Try.ntmps22
  go_wp2_with (first
    | (go_at_call 31; refine (step_calls H.out h1 h2 HF4.out).mono ?_; rintro x w1 ⟨rfl, hs1⟩; rw [HD.out]; rw [← H1D.out] at hs1; have H1 := hide hs1; clear hs1)
    | (go_at_call 32; refine (written_calls H1.out HLN.out).mono ?_; rintro x w2 ⟨v, rfl, hs2⟩; obtain ⟨base, cap, hv, _⟩ := hs2.row_view; subst hv; have H2 := hide hs2; clear hs2 c4))
  go_loopw [4, 17] (fun _ i wr => LoopAt e b d1 L base cap (fun _ => true) i wr) (fun _ i _ => d1.keys.length - (intOf i).toNat)
  case atStart => exact ⟨0, Nat.zero_le _, rfl, H2.out⟩
  case round =>
    obtain ⟨k, hk, rfl, hsk⟩ := hrel
    have HSK := hide hsk
    clear hsk
    by_cases hlt : k < d1.keys.length
    · obtain ⟨g, hg⟩ := HSK.out.row_base (by omega)
      subst hg
      obtain ⟨s, hs1, hs2, hs3, hs4⟩ := settleN_at HFI.out (fun _ => true) k hlt
      obtain ⟨m, hm⟩ := Int.eq_ofNat_of_zero_le hs3
      have hcell : wr.cell? ⟨g, k, none⟩ = some (.int .i64 m) := by
        rw [(HSK.out.row_cell (i := k) (by simpa using hlt)).1]
        have : d1.keys[k] = (m : Int) := by rw [← hm]; simp [List.getD, hlt]
        simp [hlt, this, eInt]
      have hmost := HFI.out.ok.most
      have hml : m < (d1.settleN d1.keys (fun _ => true) k).last.length := by rw [settleN_len]; omega
      have hok : okInt (m : Int) := by unfold okInt; exact WalkArith.wf_i64 (by omega)
      have hstep : (d1.settleN d1.keys (fun _ => true) k).settle m true = d1.settleN d1.keys (fun _ => true) (k + 1) := by rw [← hm]; rfl
      rw [hm] at hs1
      have HG := hide hs1
      have HS2 := hide hs2
      have HML := hide hml
      have HOK := hide hok
      have HST := hide hstep
      clear hs1 hs2 hs3 hs4 hm hmost hml hok hstep
      go_wp2_with (go_at_call 33; refine (settle_true HSK.out.swap (settleN_fine HFI.out _ _ k).ok m HOK.out HML.out s HS2.out HG.out).mono ?_; rintro x w3 ⟨rfl, h3⟩; rw [HST.out] at h3; have H3 := hide h3; clear h3)
      go_roundw
      case rel => exact ⟨k + 1, by omega, by go_num, H3.out.swap⟩
      case measure => simp [intOf]; omega
    · have hke : k = d1.keys.length := by omega
      have hfin := HSK.out.drop
      rw [hke, ← HFL.out] at hfin
      have HFN := hide hfin
      clear hfin hke
      go_wp2_with fail
      go_ret
      exact ⟨rfl, HFN.out⟩
end Go.Proofs.Ytbeabedpmoalpaa
