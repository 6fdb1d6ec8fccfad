/-
  DERIVED: THE SHELF's CONTRACTS AT THIS DUMP, IN PLAIN WORDS (tools/lay-plain.mjs out of 'YthecdkbagjpboaaItTry.lean', which tools/lay-shelf.mjs wrote): THE SAME DECLARATIONS UNDER THE SAME NAMES: 'import', 'namespace', 'open', 'def', 'theorem' AND NOTHING ELSE: no command of the shelf's: FOR A HAND-IN. Each laying: the table of numbers ('.._ren') and one theorem, a field a fact of the dump's own or the kernel's comparison; each contract: ONE APPLICATION.
-/
import Derived.Shelf.SlIter.Nil
import Derived.Shelf.SlIterI.Nil
import Derived.Shelf.SortM.Plain
import Derived.Shelf.SortM.SortNone
import Derived.Ground.GgzProg
import Derived.Ground.SlgmProg
import Derived.Test.YthecdkbagjpboaaProg
namespace Go.Proofs
open Go.Shelf
def Try.keys72_ren : Go.Shelf.Ren := ⟨fun | 7 => 72 | 10 => 81 | n => n, fun | 23 => 84 | 26 => 3 | 3 => 111 | 28 => 131 | 0 => 0 | 27 => 130 | 33 => 109 | 4 => 4 | n => n, fun | n => n⟩
theorem Try.keys72 : Go.Proofs.SlLaysZI.n7 Try.prog Try.keys72_ren := {
  mixed := by kernel_rfl
  f7 := ⟨Try.f72.name, by decide, Try.func72.trans (congrArg some (by kernel_rfl))⟩
  f10 := ⟨Try.f81.name, by decide, Try.func81.trans (congrArg some (by kernel_rfl))⟩
  t0 := Try.underlying0
  a0 := Try.isAgg0
  z0 := Try.sizeOf0
  v0 := Try.zeroValue0
  t4 := Try.underlying4
  a4 := Try.isAgg4
  z4 := Try.sizeOf4
  v4 := Try.zeroValue4
  t23 := Try.underlying84
  a23 := Try.isAgg84
  z23 := Try.sizeOf84
  v23 := Try.zeroValue84
  t26 := Try.underlying3
  a26 := Try.isAgg3
  z26 := Try.sizeOf3
  v26 := Try.zeroValue3
  t27 := Try.underlying130
  a27 := Try.isAgg130
  z27 := Try.sizeOf130
  v27 := Try.zeroValue130
  t28 := Try.underlying131
  a28 := Try.isAgg131
  z28 := Try.sizeOf131
  v28 := Try.zeroValue131
  t33 := Try.underlying109
  a33 := Try.isAgg109
  z33 := Try.sizeOf109
  v33 := Try.zeroValue109 }
def Try.sorted71_ren : Go.Shelf.Ren := ⟨fun | 6 => 71 | 8 => 79 | 9 => 80 | 11 => 83 | 13 => 85 | 12 => 84 | 23 => 95 | 24 => 96 | 14 => 86 | 15 => 87 | 16 => 88 | 17 => 89 | 18 => 90 | 19 => 91 | 20 => 92 | 21 => 93 | 22 => 94 | 25 => 97 | 26 => 98 | 27 => 99 | 28 => 100 | 29 => 101 | 30 => 102 | 31 => 103 | n => n, fun | 26 => 3 | 28 => 131 | 24 => 112 | 0 => 0 | 3 => 3 | 37 => 136 | 48 => 126 | 50 => 152 | 4 => 4 | 40 => 144 | 39 => 143 | 45 => 148 | 5 => 5 | 9 => 9 | 51 => 153 | 55 => 157 | 57 => 159 | 58 => 160 | 33 => 109 | n => n, fun | n => n⟩
theorem Try.sorted71 : Go.Proofs.SlLaysZI.n6 Try.prog Try.sorted71_ren := {
  mixed := by kernel_rfl
  f6 := ⟨Try.f71.name, by decide, Try.func71.trans (congrArg some (by kernel_rfl))⟩
  f8 := ⟨Try.f79.name, by decide, Try.func79.trans (congrArg some (by kernel_rfl))⟩
  f11 := ⟨Try.f83.name, by decide, Try.func83.trans (congrArg some (by kernel_rfl))⟩
  t0 := Try.underlying0
  a0 := Try.isAgg0
  z0 := Try.sizeOf0
  v0 := Try.zeroValue0
  t24 := Try.underlying112
  a24 := Try.isAgg112
  z24 := Try.sizeOf112
  v24 := Try.zeroValue112
  t26 := Try.underlying3
  a26 := Try.isAgg3
  z26 := Try.sizeOf3
  v26 := Try.zeroValue3
  t28 := Try.underlying131
  a28 := Try.isAgg131
  z28 := Try.sizeOf131
  v28 := Try.zeroValue131
  i26 := by kernel_rfl }
def Try.sort80_ren : Go.Shelf.Ren := ⟨fun | 5 => 80 | 8 => 85 | 7 => 84 | 19 => 95 | 20 => 96 | 10 => 86 | 11 => 87 | 12 => 88 | 13 => 89 | 14 => 90 | 15 => 91 | 16 => 92 | 17 => 93 | 18 => 94 | 30 => 97 | 31 => 98 | 32 => 99 | 33 => 100 | 34 => 101 | 35 => 102 | 40 => 103 | n => n, fun | 23 => 112 | 25 => 3 | 3 => 3 | 32 => 136 | 22 => 112 | 0 => 0 | 44 => 126 | 46 => 152 | 4 => 4 | 36 => 144 | 35 => 143 | 41 => 148 | 5 => 5 | 9 => 9 | 53 => 153 | 57 => 157 | 63 => 159 | 64 => 160 | n => n, fun | n => n⟩
theorem Try.sort80 : Go.Proofs.SlLaysM.n5 Try.prog Try.sort80_ren := {
  mixed := by kernel_rfl
  f5 := ⟨Try.f80.name, by decide, Try.func80.trans (congrArg some (by kernel_rfl))⟩
  f7 := ⟨Try.f84.name, by decide, Try.func84.trans (congrArg some (by kernel_rfl))⟩
  f8 := Try.func85.trans (congrArg some (by kernel_rfl))
  f10 := ⟨Try.f86.name, by decide, Try.func86.trans (congrArg some (by kernel_rfl))⟩
  f11 := ⟨Try.f87.name, by decide, Try.func87.trans (congrArg some (by kernel_rfl))⟩
  f12 := ⟨Try.f88.name, by decide, Try.func88.trans (congrArg some (by kernel_rfl))⟩
  f13 := ⟨Try.f89.name, by decide, Try.func89.trans (congrArg some (by kernel_rfl))⟩
  f14 := ⟨Try.f90.name, by decide, Try.func90.trans (congrArg some (by kernel_rfl))⟩
  f15 := ⟨Try.f91.name, by decide, Try.func91.trans (congrArg some (by kernel_rfl))⟩
  f16 := ⟨Try.f92.name, by decide, Try.func92.trans (congrArg some (by kernel_rfl))⟩
  f17 := ⟨Try.f93.name, by decide, Try.func93.trans (congrArg some (by kernel_rfl))⟩
  f18 := ⟨Try.f94.name, by decide, Try.func94.trans (congrArg some (by kernel_rfl))⟩
  f19 := Try.func95.trans (congrArg some (by kernel_rfl))
  f20 := Try.func96.trans (congrArg some (by kernel_rfl))
  f30 := ⟨Try.f97.name, by decide, Try.func97.trans (congrArg some (by kernel_rfl))⟩
  f31 := Try.func98.trans (congrArg some (by kernel_rfl))
  f32 := Try.func99.trans (congrArg some (by kernel_rfl))
  f33 := ⟨Try.f100.name, by decide, Try.func100.trans (congrArg some (by kernel_rfl))⟩
  f34 := ⟨Try.f101.name, by decide, Try.func101.trans (congrArg some (by kernel_rfl))⟩
  f35 := ⟨Try.f102.name, by decide, Try.func102.trans (congrArg some (by kernel_rfl))⟩
  f40 := ⟨Try.f103.name, by decide, Try.func103.trans (congrArg some (by kernel_rfl))⟩
  t0 := Try.underlying0
  a0 := Try.isAgg0
  z0 := Try.sizeOf0
  v0 := Try.zeroValue0
  t3 := Try.underlying3
  a3 := Try.isAgg3
  z3 := Try.sizeOf3
  v3 := Try.zeroValue3
  t4 := Try.underlying4
  a4 := Try.isAgg4
  z4 := Try.sizeOf4
  v4 := Try.zeroValue4
  t5 := Try.underlying5
  a5 := Try.isAgg5
  z5 := Try.sizeOf5
  v5 := Try.zeroValue5
  t9 := Try.underlying9
  a9 := Try.isAgg9
  z9 := Try.sizeOf9
  v9 := Try.zeroValue9
  t22 := Try.underlying112
  a22 := Try.isAgg112
  z22 := Try.sizeOf112
  v22 := Try.zeroValue112
  t23 := Try.underlying112
  a23 := Try.isAgg112
  z23 := Try.sizeOf112
  v23 := Try.zeroValue112
  t25 := Try.underlying3
  a25 := Try.isAgg3
  z25 := Try.sizeOf3
  v25 := Try.zeroValue3
  t32 := Try.underlying136
  a32 := Try.isAgg136
  z32 := Try.sizeOf136
  v32 := Try.zeroValue136
  t35 := Try.underlying143
  a35 := Try.isAgg143
  z35 := Try.sizeOf143
  v35 := Try.zeroValue143
  t36 := Try.underlying144
  a36 := Try.isAgg144
  z36 := Try.sizeOf144
  v36 := Try.zeroValue144
  t41 := Try.underlying148
  a41 := Try.isAgg148
  z41 := Try.sizeOf148
  v41 := Try.zeroValue148
  t44 := Try.underlying126
  a44 := Try.isAgg126
  z44 := Try.sizeOf126
  v44 := Try.zeroValue126
  t46 := Try.underlying152
  a46 := Try.isAgg152
  z46 := Try.sizeOf152
  v46 := Try.zeroValue152
  t53 := Try.underlying153
  a53 := Try.isAgg153
  z53 := Try.sizeOf153
  v53 := Try.zeroValue153
  t57 := Try.underlying157
  a57 := Try.isAgg157
  z57 := Try.sizeOf157
  v57 := Try.zeroValue157
  t63 := Try.underlying159
  a63 := Try.isAgg159
  z63 := Try.sizeOf159
  v63 := Try.zeroValue159
  t64 := Try.underlying160
  a64 := Try.isAgg160
  z64 := Try.sizeOf160
  v64 := Try.zeroValue160 }
open Go.RowKit Go.Maps Go.Sort in
theorem Try.sorts71 (m : Nat) : AnyZI.SortsIn Try.prog Try.sorted71_ren Fence.wide m :=
  ⟨fun blk off cap ss W hH hblk hsz => callsIn_wide.2 (AnyM.slices_Sort_int Try.sort80 blk off cap ss W hH hblk hsz),
   fun p cap W => callsIn_wide.2 (AnyM.slices_Sort_int_none Try.sort80 p cap W)⟩
open Go.RowKit Go.Maps Go.Sort in
theorem Try.sort_calls80 (blk off cap : Nat) (ss : List (Int)) (W : World) (hH : Holds encZ W blk off ss.toArray) (hblk : blk < W.heap.size) (hsz : ss.length < 4611686018427387904) :
    Calls Try.prog 80 #[.slice (some ⟨blk, off, none⟩) ss.length cap] W fun e w' => e = .returned (.tuple #[]) ∧ ∃ k os, w' = grow (putRow encZ (Sort.ahead W k) blk off (ss.mergeSort fun x y => decide (x ≤ y)).toArray) os :=
  AnyM.slices_Sort_int Try.sort80 blk off cap ss W hH hblk hsz
open Go.RowKit Go.Maps Go.Sort in
theorem Try.sort_none80 (p : Option Addr) (cap : Nat) (W : World) : Calls Try.prog 80 #[.slice p 0 cap] W fun e w' => e = .returned (.tuple #[]) ∧ w' = W :=
  AnyM.slices_Sort_int_none Try.sort80 p cap W
open Go.RowKit Go.Maps Go.Sort in
theorem Try.maps_Keys_72 (mb : Option Nat) (W : World) : Calls Try.prog 72 #[.map mb] W fun e w' => e = .returned (.func (.func 81) #[] #[.pointer (some ⟨W.heap.size, 0, none⟩)]) ∧ w' = W.alloc (.cells #[.map mb] 84) :=
  (callsIn_wide (n := 5)).1 (AnyZI.keys_in Try.keys72 Fence.wide 5 trivial rfl mb W)
set_option maxHeartbeats 1000000 in
open Go.RowKit Go.Maps Go.Sort in
theorem Try.sorted_keys_72 {H : Type} (b nn : Nat) (D0 : DataW H) (R : Value → Option (DataW H × List MemPlace)) (w : World) (hown : w.ownsMap Try.prog 3 R b nn D0) (hmax : Maps.size D0 ≤ maxLen) (hbytes : Maps.size D0 * 8 ≤ 140737488355328) :
    Calls Try.prog 71 #[.func (.func 81) #[] #[.pointer (some ⟨w.heap.size, 0, none⟩)]] (w.alloc (.cells #[.map (some b)] 84)) fun e w' => ∃ (v : Value) (ss : List (Int)), e = .returned v ∧ ss.Perm (intKeys D0) ∧
      w'.ownsRow (w.alloc (.cells #[.map (some b)] 84)).heap.size 3 1 v ss.length ((ss.mergeSort (fun x y => decide (x ≤ y))).map encZ) ∧ (v = .slice none 0 0 ↔ ss = []) ∧ Below (w.alloc (.cells #[.map (some b)] 84)).heap.size (w.alloc (.cells #[.map (some b)] 84)) w' := by
  have hbl := hown.lt
  have hseq : SeqGives Fence.wide 2 Try.prog 81 #[.pointer (some ⟨w.heap.size, 0, none⟩)] encZ (fun ss => ss.Perm (intKeys D0)) (Maps.size D0) (w.alloc (.cells #[.map (some b)] 84)) :=
    AnyZI.keys_gives (ρ := Try.keys72_ren) { Try.keys72 with } Fence.wide _ trivial rfl (by omega) w.heap.size b nn D0 _ (by simp) (by simp) (by
      obtain ⟨es, clock, hb, Ft, hs, hD⟩ := hown
      exact ⟨es, clock, (Below.heap_alloc _ _ b hbl).trans hb, Ft, hs, hD⟩)
  exact (callsIn_wide (n := 5)).1 (AnyZI.sorted_in Try.sorted71 Fence.wide 5 trivial trivial trivial trivial rfl (by omega) (Try.sorts71 _) (enters_of Try.func80 (by kernel_rfl) rfl) 81 #[.pointer (some ⟨w.heap.size, 0, none⟩)] trivial (enters_of Try.func81 (by kernel_rfl) rfl) _ _ hmax hbytes _ hseq)
end Go.Proofs
