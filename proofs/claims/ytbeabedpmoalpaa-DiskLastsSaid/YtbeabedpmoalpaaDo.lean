/-
  The laws' helpers over both disks: Few, Same.
-/
import Derived.Test.YtbeabedpmoalpaaDr2
import Derived.Test.YtbeabedpmoalpaaCa
namespace Go.Proofs.Ytbeabedpmoalpaa
open Go.RowKit Go.Maps Go.MapKept
variable {e : Env} {b b2 : Nat} {d : Dk} {r : Rk} {L : List HP} {w : World}

def fewB (cs : List CallR) : Bool := cs.all (fun c => decide (c.data.length ≤ 100))
def FewAt (cs : List CallR) (w : World) (i : Value) (wr : World) : Prop := ∃ k : Nat, k ≤ cs.length ∧ i = .int .i64 k ∧ wr = w ∧ ∀ j (h : j < cs.length), j < k → cs[j].data.length ≤ 100

set_option maxRecDepth 100000 in
theorem few_calls (v : Value) (cs : List CallR) (H : CallsV (World.frag w) v cs) : Calls Try.prog 23 #[v] w fun x w' => x = .returned (.bool (fewB cs)) ∧ w = w' := by
  have HV := hide H
  have hmost := H.most
  obtain ⟨base, cap, hv, _⟩ := H.view
  subst hv
  clear H
  have hm2 : (cs.length : Int) ≤ 9223372036854775807 := by unfold maxLen at hmost; omega
  clear hmost
  go_enter Try.func23, Try.ntmps23
  go_wp2_with fail
  go_loopw [3] (fun i wr => FewAt cs w i wr) (fun i _ => cs.length - (intOf i).toNat)
  case atStart => exact ⟨0, by omega, rfl, rfl, fun j _ hj => by omega⟩
  case round =>
    obtain ⟨k, hk, rfl, rfl, hall⟩ := hrel
    have HALL := hide hall
    clear hall
    by_cases hlt : k < cs.length
    · obtain ⟨b', o', cap', hv', _, _, _, c3⟩ := HV.out.cells hlt
      simp only [Value.slice.injEq, true_and] at hv'
      obtain ⟨rfl, rfl⟩ := hv'
      obtain ⟨db, dc, hdv, _⟩ := (HV.out.each _ (List.getElem_mem hlt)).view
      rw [hdv] at c3
      have HD : Hid (∀ n, cs[k].data.length = n → n = cs[k].data.length) := hide (fun n hn => hn.symm)
      have HF : Hid (cs[k].data.length > 100 → fewB cs = false) := hide (fun h => by
        unfold fewB
        rw [List.all_eq_false]
        exact ⟨cs[k], List.getElem_mem hlt, by simp; omega⟩)
      by_cases hbig : cs[k].data.length > 100
      · have hbig' : (100 : Int) < cs[k].data.length := by omega
        have hff := hide (HF.out hbig)
        clear hdv
        generalize cs[k].data.length = m at *
        go_wp2_with fail
        go_ret
        exact ⟨by rw [hff.out]; rfl, rfl⟩
      · have hbig' : ¬ (100 : Int) < cs[k].data.length := by omega
        have HB := hide hbig
        clear hdv
        go_wp2_with fail
        go_roundw
        case rel =>
          refine ⟨k + 1, by omega, by go_num, rfl, fun j hj hjk => ?_⟩
          by_cases hjk2 : j < k
          · exact HALL.out j hj hjk2
          · have : j = k := by omega
            subst this; have := HB.out; omega
        case measure => simp [intOf]; omega
    · have hf : fewB cs = true := by
        unfold fewB
        rw [List.all_eq_true]
        intro c hc
        obtain ⟨j, hj, rfl⟩ := List.getElem_of_mem hc
        simpa using HALL.out j hj (by omega)
      have HF := hide hf
      clear hf
      go_wp2_with fail
      go_ret
      exact ⟨by rw [HF.out]; rfl, rfl⟩

def SameAt (e : Env) (b b2 : Nat) (d : Dk) (r : Rk) (L : List HP) (i : Value) (w : World) : Prop := ∃ k : Nat, k ≤ d.last.length + 2 ∧ i = .int .i64 ((k : Int) - 1) ∧ Sat e (HP.disk b d :: HP.ref b2 r :: L) w

set_option maxRecDepth 100000 in
set_option maxHeartbeats 1000000 in
theorem same_calls (h : Sat e (HP.disk b d :: HP.ref b2 r :: L) w) (hD : DR d r) : Calls Try.prog 27 #[.pointer (some ⟨b, 0, none⟩), .pointer (some ⟨b2, 0, none⟩)] w fun x w' => x = .returned (.bool true) ∧ Sat e (HP.disk b d :: HP.ref b2 r :: L) w' := by
  have H := hide h
  have HD := hide hD
  have hmost := hD.good.fine.ok.most
  have hlen : Hid (r.now.length = d.last.length) := hide hD.len.now
  clear h hD
  go_enter Try.func27, Try.ntmps27
  go_wp2_with fail
  go_loopw [5] (fun i wr => SameAt e b b2 d r L i wr) (fun i _ => d.last.length + 2 - (intOf i + 1).toNat)
  case atStart => exact ⟨0, by omega, rfl, H.out⟩
  case round =>
    obtain ⟨k, hk, rfl, hs⟩ := hrel
    have HS := hide hs
    clear hs
    by_cases hlt : (k : Int) - 1 ≤ d.last.length
    · go_wp2_with (first
        | (go_at_call 34; refine (rsize_calls HS.out.swap).mono ?_; rintro x w5 ⟨rfl, rfl⟩; rw [hlen.out])
        | (go_at_call 16; refine (read_gen HS.out HD.out.good.fine.ok _).mono ?_; rintro x w6 ⟨rb, rc, rfl, h6⟩; have H6 := hide h6.bring3; clear h6 HS)
        | (go_at_call 36; refine (rread_calls H6.out HD.out.ok _).mono ?_; rintro x w7 ⟨sb, sc, rfl, h7⟩; obtain ⟨a1, a2⟩ := HD.out.read ((k : Int) - 1); rw [a2] at h7; rw [a1, a2]; have ca := run_conv_bytes (P := Try.prog) Try.underlying32 Try.underlying5 Try.underlying9 h7.row_view; have cb := run_conv_bytes (P := Try.prog) Try.underlying32 Try.underlying5 Try.underlying9 h7.drop.drop.row_view; have H7 := hide h7; clear h7 H6 a1 a2))
      go_roundw
      case rel => exact ⟨k + 1, by omega, by go_num, (H7.out.drop.swap.drop).swap⟩
      case measure => simp [intOf]; omega
    · go_wp2_with (first
        | (go_at_call 34; refine (rsize_calls HS.out.swap).mono ?_; rintro x w5 ⟨rfl, rfl⟩; rw [hlen.out])
        | (go_at_call 17; refine (size_calls HS.out).mono ?_; rintro x w5 ⟨rfl, rfl⟩))
      go_ret
      exact ⟨rfl, HS.out⟩
end Go.Proofs.Ytbeabedpmoalpaa
