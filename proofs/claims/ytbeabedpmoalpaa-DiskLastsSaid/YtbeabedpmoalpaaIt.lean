/-
  DERIVED: THE SHELF's CONTRACTS AT THIS DUMP, IN PLAIN WORDS (tools/lay-plain.mjs out of 'YtbeabedpmoalpaaItTry.lean', which tools/lay-shelf.mjs wrote): THE SAME DECLARATIONS UNDER THE SAME NAMES: 'import', 'namespace', 'open', 'def', 'theorem' AND NOTHING ELSE: no command of the shelf's: FOR A HAND-IN. Each laying: the table of numbers ('.._ren') and one theorem, a field a fact of the dump's own or the kernel's comparison; each contract: ONE APPLICATION.
-/
import Derived.Shelf.SlIter.Nil
import Derived.Shelf.SlIterI.Nil
import Derived.Shelf.SortM.Plain
import Derived.Shelf.SortM.SortNone
import Derived.Ground.GgzProg
import Derived.Ground.SlgmProg
import Derived.Test.YtbeabedpmoalpaaProg
namespace Go.Proofs
open Go.Shelf
def Try.keys41_ren : Go.Shelf.Ren := ⟨fun | 7 => 41 | 10 => 45 | n => n, fun | 23 => 59 | 26 => 3 | 3 => 66 | 28 => 77 | 0 => 0 | 27 => 76 | 33 => 64 | 4 => 4 | n => n, fun | n => n⟩
theorem Try.keys41 : Go.Proofs.SlLaysZI.n7 Try.prog Try.keys41_ren := {
  mixed := by kernel_rfl
  f7 := ⟨Try.f41.name, by decide, Try.func41.trans (congrArg some (by kernel_rfl))⟩
  f10 := ⟨Try.f45.name, by decide, Try.func45.trans (congrArg some (by kernel_rfl))⟩
  t0 := Try.underlying0
  a0 := Try.isAgg0
  z0 := Try.sizeOf0
  v0 := Try.zeroValue0
  t4 := Try.underlying4
  a4 := Try.isAgg4
  z4 := Try.sizeOf4
  v4 := Try.zeroValue4
  t23 := Try.underlying59
  a23 := Try.isAgg59
  z23 := Try.sizeOf59
  v23 := Try.zeroValue59
  t26 := Try.underlying3
  a26 := Try.isAgg3
  z26 := Try.sizeOf3
  v26 := Try.zeroValue3
  t27 := Try.underlying76
  a27 := Try.isAgg76
  z27 := Try.sizeOf76
  v27 := Try.zeroValue76
  t28 := Try.underlying77
  a28 := Try.isAgg77
  z28 := Try.sizeOf77
  v28 := Try.zeroValue77
  t33 := Try.underlying64
  a33 := Try.isAgg64
  z33 := Try.sizeOf64
  v33 := Try.zeroValue64 }
def Try.sorted40_ren : Go.Shelf.Ren := ⟨fun | 6 => 40 | 8 => 43 | 9 => 44 | 11 => 46 | 13 => 48 | 12 => 47 | 23 => 58 | 24 => 59 | 14 => 49 | 15 => 50 | 16 => 51 | 17 => 52 | 18 => 53 | 19 => 54 | 20 => 55 | 21 => 56 | 22 => 57 | 25 => 60 | 26 => 61 | 27 => 62 | 28 => 63 | 29 => 64 | 30 => 65 | 31 => 66 | n => n, fun | 26 => 3 | 28 => 77 | 24 => 24 | 0 => 0 | 3 => 3 | 37 => 50 | 48 => 92 | 50 => 94 | 4 => 4 | 40 => 85 | 39 => 84 | 45 => 89 | 5 => 5 | 9 => 9 | 51 => 95 | 55 => 99 | 57 => 101 | 58 => 102 | 33 => 64 | n => n, fun | n => n⟩
theorem Try.sorted40 : Go.Proofs.SlLaysZI.n6 Try.prog Try.sorted40_ren := {
  mixed := by kernel_rfl
  f6 := ⟨Try.f40.name, by decide, Try.func40.trans (congrArg some (by kernel_rfl))⟩
  f8 := ⟨Try.f43.name, by decide, Try.func43.trans (congrArg some (by kernel_rfl))⟩
  f11 := ⟨Try.f46.name, by decide, Try.func46.trans (congrArg some (by kernel_rfl))⟩
  t0 := Try.underlying0
  a0 := Try.isAgg0
  z0 := Try.sizeOf0
  v0 := Try.zeroValue0
  t24 := Try.underlying24
  a24 := Try.isAgg24
  z24 := Try.sizeOf24
  v24 := Try.zeroValue24
  t26 := Try.underlying3
  a26 := Try.isAgg3
  z26 := Try.sizeOf3
  v26 := Try.zeroValue3
  t28 := Try.underlying77
  a28 := Try.isAgg77
  z28 := Try.sizeOf77
  v28 := Try.zeroValue77
  i26 := by kernel_rfl }
def Try.sort44_ren : Go.Shelf.Ren := ⟨fun | 5 => 44 | 8 => 48 | 7 => 47 | 19 => 58 | 20 => 59 | 10 => 49 | 11 => 50 | 12 => 51 | 13 => 52 | 14 => 53 | 15 => 54 | 16 => 55 | 17 => 56 | 18 => 57 | 30 => 60 | 31 => 61 | 32 => 62 | 33 => 63 | 34 => 64 | 35 => 65 | 40 => 66 | n => n, fun | 23 => 24 | 25 => 3 | 3 => 3 | 32 => 50 | 22 => 24 | 0 => 0 | 44 => 92 | 46 => 94 | 4 => 4 | 36 => 85 | 35 => 84 | 41 => 89 | 5 => 5 | 9 => 9 | 53 => 95 | 57 => 99 | 63 => 101 | 64 => 102 | n => n, fun | n => n⟩
theorem Try.sort44 : Go.Proofs.SlLaysM.n5 Try.prog Try.sort44_ren := {
  mixed := by kernel_rfl
  f5 := ⟨Try.f44.name, by decide, Try.func44.trans (congrArg some (by kernel_rfl))⟩
  f7 := ⟨Try.f47.name, by decide, Try.func47.trans (congrArg some (by kernel_rfl))⟩
  f8 := Try.func48.trans (congrArg some (by kernel_rfl))
  f10 := ⟨Try.f49.name, by decide, Try.func49.trans (congrArg some (by kernel_rfl))⟩
  f11 := ⟨Try.f50.name, by decide, Try.func50.trans (congrArg some (by kernel_rfl))⟩
  f12 := ⟨Try.f51.name, by decide, Try.func51.trans (congrArg some (by kernel_rfl))⟩
  f13 := ⟨Try.f52.name, by decide, Try.func52.trans (congrArg some (by kernel_rfl))⟩
  f14 := ⟨Try.f53.name, by decide, Try.func53.trans (congrArg some (by kernel_rfl))⟩
  f15 := ⟨Try.f54.name, by decide, Try.func54.trans (congrArg some (by kernel_rfl))⟩
  f16 := ⟨Try.f55.name, by decide, Try.func55.trans (congrArg some (by kernel_rfl))⟩
  f17 := ⟨Try.f56.name, by decide, Try.func56.trans (congrArg some (by kernel_rfl))⟩
  f18 := ⟨Try.f57.name, by decide, Try.func57.trans (congrArg some (by kernel_rfl))⟩
  f19 := Try.func58.trans (congrArg some (by kernel_rfl))
  f20 := Try.func59.trans (congrArg some (by kernel_rfl))
  f30 := ⟨Try.f60.name, by decide, Try.func60.trans (congrArg some (by kernel_rfl))⟩
  f31 := Try.func61.trans (congrArg some (by kernel_rfl))
  f32 := Try.func62.trans (congrArg some (by kernel_rfl))
  f33 := ⟨Try.f63.name, by decide, Try.func63.trans (congrArg some (by kernel_rfl))⟩
  f34 := ⟨Try.f64.name, by decide, Try.func64.trans (congrArg some (by kernel_rfl))⟩
  f35 := ⟨Try.f65.name, by decide, Try.func65.trans (congrArg some (by kernel_rfl))⟩
  f40 := ⟨Try.f66.name, by decide, Try.func66.trans (congrArg some (by kernel_rfl))⟩
  t0 := Try.underlying0
  a0 := Try.isAgg0
  z0 := Try.sizeOf0
  v0 := Try.zeroValue0
  t3 := Try.underlying3
  a3 := Try.isAgg3
  z3 := Try.sizeOf3
  v3 := Try.zeroValue3
  t4 := Try.underlying4
  a4 := Try.isAgg4
  z4 := Try.sizeOf4
  v4 := Try.zeroValue4
  t5 := Try.underlying5
  a5 := Try.isAgg5
  z5 := Try.sizeOf5
  v5 := Try.zeroValue5
  t9 := Try.underlying9
  a9 := Try.isAgg9
  z9 := Try.sizeOf9
  v9 := Try.zeroValue9
  t22 := Try.underlying24
  a22 := Try.isAgg24
  z22 := Try.sizeOf24
  v22 := Try.zeroValue24
  t23 := Try.underlying24
  a23 := Try.isAgg24
  z23 := Try.sizeOf24
  v23 := Try.zeroValue24
  t25 := Try.underlying3
  a25 := Try.isAgg3
  z25 := Try.sizeOf3
  v25 := Try.zeroValue3
  t32 := Try.underlying50
  a32 := Try.isAgg50
  z32 := Try.sizeOf50
  v32 := Try.zeroValue50
  t35 := Try.underlying84
  a35 := Try.isAgg84
  z35 := Try.sizeOf84
  v35 := Try.zeroValue84
  t36 := Try.underlying85
  a36 := Try.isAgg85
  z36 := Try.sizeOf85
  v36 := Try.zeroValue85
  t41 := Try.underlying89
  a41 := Try.isAgg89
  z41 := Try.sizeOf89
  v41 := Try.zeroValue89
  t44 := Try.underlying92
  a44 := Try.isAgg92
  z44 := Try.sizeOf92
  v44 := Try.zeroValue92
  t46 := Try.underlying94
  a46 := Try.isAgg94
  z46 := Try.sizeOf94
  v46 := Try.zeroValue94
  t53 := Try.underlying95
  a53 := Try.isAgg95
  z53 := Try.sizeOf95
  v53 := Try.zeroValue95
  t57 := Try.underlying99
  a57 := Try.isAgg99
  z57 := Try.sizeOf99
  v57 := Try.zeroValue99
  t63 := Try.underlying101
  a63 := Try.isAgg101
  z63 := Try.sizeOf101
  v63 := Try.zeroValue101
  t64 := Try.underlying102
  a64 := Try.isAgg102
  z64 := Try.sizeOf102
  v64 := Try.zeroValue102 }
open Go.RowKit Go.Maps Go.Sort in
theorem Try.sorts40 (m : Nat) : AnyZI.SortsIn Try.prog Try.sorted40_ren Fence.wide m :=
  ⟨fun blk off cap ss W hH hblk hsz => callsIn_wide.2 (AnyM.slices_Sort_int Try.sort44 blk off cap ss W hH hblk hsz),
   fun p cap W => callsIn_wide.2 (AnyM.slices_Sort_int_none Try.sort44 p cap W)⟩
open Go.RowKit Go.Maps Go.Sort in
theorem Try.sort_calls44 (blk off cap : Nat) (ss : List (Int)) (W : World) (hH : Holds encZ W blk off ss.toArray) (hblk : blk < W.heap.size) (hsz : ss.length < 4611686018427387904) :
    Calls Try.prog 44 #[.slice (some ⟨blk, off, none⟩) ss.length cap] W fun e w' => e = .returned (.tuple #[]) ∧ ∃ k os, w' = grow (putRow encZ (Sort.ahead W k) blk off (ss.mergeSort fun x y => decide (x ≤ y)).toArray) os :=
  AnyM.slices_Sort_int Try.sort44 blk off cap ss W hH hblk hsz
open Go.RowKit Go.Maps Go.Sort in
theorem Try.sort_none44 (p : Option Addr) (cap : Nat) (W : World) : Calls Try.prog 44 #[.slice p 0 cap] W fun e w' => e = .returned (.tuple #[]) ∧ w' = W :=
  AnyM.slices_Sort_int_none Try.sort44 p cap W
open Go.RowKit Go.Maps Go.Sort in
theorem Try.maps_Keys_41 (mb : Option Nat) (W : World) : Calls Try.prog 41 #[.map mb] W fun e w' => e = .returned (.func (.func 45) #[] #[.pointer (some ⟨W.heap.size, 0, none⟩)]) ∧ w' = W.alloc (.cells #[.map mb] 59) :=
  (callsIn_wide (n := 5)).1 (AnyZI.keys_in Try.keys41 Fence.wide 5 trivial rfl mb W)
set_option maxHeartbeats 1000000 in
open Go.RowKit Go.Maps Go.Sort in
theorem Try.sorted_keys_41 {H : Type} (b nn : Nat) (D0 : DataW H) (R : Value → Option (DataW H × List MemPlace)) (w : World) (hown : w.ownsMap Try.prog 3 R b nn D0) (hmax : Maps.size D0 ≤ maxLen) (hbytes : Maps.size D0 * 8 ≤ 140737488355328) :
    Calls Try.prog 40 #[.func (.func 45) #[] #[.pointer (some ⟨w.heap.size, 0, none⟩)]] (w.alloc (.cells #[.map (some b)] 59)) fun e w' => ∃ (v : Value) (ss : List (Int)), e = .returned v ∧ ss.Perm (intKeys D0) ∧
      w'.ownsRow (w.alloc (.cells #[.map (some b)] 59)).heap.size 3 1 v ss.length ((ss.mergeSort (fun x y => decide (x ≤ y))).map encZ) ∧ (v = .slice none 0 0 ↔ ss = []) ∧ Below (w.alloc (.cells #[.map (some b)] 59)).heap.size (w.alloc (.cells #[.map (some b)] 59)) w' := by
  have hbl := hown.lt
  have hseq : SeqGives Fence.wide 2 Try.prog 45 #[.pointer (some ⟨w.heap.size, 0, none⟩)] encZ (fun ss => ss.Perm (intKeys D0)) (Maps.size D0) (w.alloc (.cells #[.map (some b)] 59)) :=
    AnyZI.keys_gives (ρ := Try.keys41_ren) { Try.keys41 with } Fence.wide _ trivial rfl (by omega) w.heap.size b nn D0 _ (by simp) (by simp) (by
      obtain ⟨es, clock, hb, Ft, hs, hD⟩ := hown
      exact ⟨es, clock, (Below.heap_alloc _ _ b hbl).trans hb, Ft, hs, hD⟩)
  exact (callsIn_wide (n := 5)).1 (AnyZI.sorted_in Try.sorted40 Fence.wide 5 trivial trivial trivial trivial rfl (by omega) (Try.sorts40 _) (enters_of Try.func44 (by kernel_rfl) rfl) 45 #[.pointer (some ⟨w.heap.size, 0, none⟩)] trivial (enters_of Try.func45 (by kernel_rfl) rfl) _ _ hmax hbytes _ hseq)
end Go.Proofs
