/-
  package disk: Read, Write, New; slices.Clone of bytes.
-/
import Derived.Test.YtbeabedpmoalpaaDk2
namespace Go.Proofs.Ytbeabedpmoalpaa
open Go.RowKit Go.Maps Go.MapKept
variable {e : Env} {b : Nat} {d : Dk} {L : List HP} {w : World}

theorem info_u8 : (Try.prog.info? 5).map (fun i => (i.zero, i.size, i.bytes)) = some (some (.int .u8 0), 1, 1) := by kernel_rfl

theorem at_calls (h : Sat e (HP.disk b d :: L) w) (hOk : d.Ok) (n : Int) (h0 : 0 ≤ n) (h1 : n < d.last.length) : Calls Try.prog 29 #[.pointer (some ⟨b, 0, none⟩), .int .i64 n] w
    fun x w' => x = .returned (eSec (d.cur n)) ∧ Sat e (HP.disk b d :: L) w' := by
  have hm := hOk.most
  have hok : okInt n := by unfold okInt; exact WalkArith.wf_i64 (by omega)
  cases hk : kget d.fresh n with
  | none =>
    obtain ⟨k, rfl⟩ := Int.eq_ofNat_of_zero_le h0
    have := at_calls_last h hOk k _ hk (by omega) rfl hok
    simpa [Dk.cur, hk] using this
  | some s =>
    have hs : s.length = 64 := by
      have hmem : (n, s) ∈ d.fresh := by
        clear h hOk
        generalize d.fresh = l at hk
        induction l with
        | nil => simp [kget] at hk
        | cons p r ih =>
          simp only [kget] at hk
          split at hk
          · rename_i hp; simp only [Option.some.injEq] at hk; subst hp; subst hk; exact List.mem_cons_self ..
          · exact List.mem_cons_of_mem _ (ih hk)
      exact (hOk.fr _ hmem).1
    have := at_calls_fresh h n s hk hs hok
    simpa [Dk.cur, hk] using this

theorem cur_len (hOk : d.Ok) (n : Int) (h0 : 0 ≤ n) (h1 : n < d.last.length) : (d.cur n).length = 64 := by
  unfold Dk.cur
  cases hk : kget d.fresh n with
  | none =>
    simp only [Option.getD_none]
    have hn : n.toNat < d.last.length := by omega
    rw [List.getD_eq_getElem?_getD, List.getElem?_eq_getElem hn]
    exact hOk.sec _ (List.getElem_mem hn)
  | some s =>
    have hmem : (n, s) ∈ d.fresh := by
      clear hOk
      generalize d.fresh = l at hk
      induction l with
      | nil => simp [kget] at hk
      | cons p r ih =>
        simp only [kget] at hk
        split at hk
        · rename_i hp; simp only [Option.some.injEq] at hk; subst hp; subst hk; exact List.mem_cons_self ..
        · exact List.mem_cons_of_mem _ (ih hk)
    exact (hOk.fr _ hmem).1

set_option maxHeartbeats 400000 in
theorem clone_calls (h : Sat e L w) (bb off cap : Nat) (l : List UInt8) (H : View (World.frag w) (.slice (some ⟨bb, off, none⟩) l.length cap) l.length (l.map B8)) (hl : l.length ≤ 1000000000) :
    Calls Try.prog 30 #[.slice (some ⟨bb, off, none⟩) l.length cap] w
      fun x w' => ∃ g cap', x = .returned (.slice (some ⟨g, 0, none⟩) l.length cap') ∧ Sat e (HP.row 5 1 (.slice (some ⟨g, 0, none⟩) l.length cap') l.length (l.map B8) :: L) w' := by
  obtain ⟨i0, hi, hz0, hz1, hz2⟩ := info_parts info_u8
  have hs2 := (h.alloc (.cells #[] 5)).row_shut (n := 0) (cap := 0) (size := 1) (xs := []) (Nat.le_refl 0) (Nat.zero_le _) rfl rfl
  have H2 : View (World.frag (w.alloc (.cells #[] 5))) (.slice (some ⟨bb, off, none⟩) l.length cap) l.length (l.map B8) :=
    H.mono (fun b o hb => by
      have := (Array.getElem?_eq_some_iff.1 (show w.heap[b]? = some o from hb)).1
      exact (Below.heap_alloc w _ b this).trans hb)
  have HS := hide hs2
  have HV := hide H2
  have HI := hide hi
  have hb1 : 0 + l.length ≤ maxLen := by unfold maxLen; omega
  have hb2 : (0 + l.length) * 1 ≤ 140737488355328 := by omega
  have B1 := hide hb1
  have B2 := hide hb2
  clear h H hs2 H2 hi hl hb1 hb2
  have hnil := fun w : World => Lib.run_eql_slice_nil (P := Try.prog) w 32 5 (some ⟨bb, off, none⟩) l.length cap 0 0 Try.underlying32
  go_enter Try.func30, Try.ntmps30
  go_wp2_with (at_builtin; (with_reducible refine wpList_append_sl rfl (.tmp 5) (.tmp 6) 32 rfl Try.underlying32 HI.out hz0 hz1 hz2 rfl (by decide) HS.out HV.out rfl rfl (by simp) (map_B8_one l) B1.out B2.out ?_); intro v' w1 h1 hn; have HN := hide hn; have H1 := hide h1; clear hn h1)
  go_ret
  have h1 := H1.out
  rw [Nat.zero_add, List.nil_append] at h1
  obtain ⟨_, ⟨hv, _⟩ | ⟨g, cap', cur, hv, _⟩⟩ := h1.row_open
  · have := HN.out.1 hv
    simp at this
  · subst hv
    exact ⟨g, cap', rfl, h1⟩
end Go.Proofs.Ytbeabedpmoalpaa
