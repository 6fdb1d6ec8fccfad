/-
  DERIVED: THE SHELF's CONTRACTS AT THIS DUMP, IN PLAIN WORDS (tools/lay-plain.mjs out of 'YtcgnkloljfgiaaaGreatDoorIsTry.lean', which tools/lay-shelf.mjs wrote): THE SAME DECLARATIONS UNDER THE SAME NAMES: 'import', 'namespace', 'open', 'def', 'theorem' AND NOTHING ELSE: no command of the shelf's: FOR A HAND-IN. Each laying: the table of numbers ('.._ren') and one theorem, a field a fact of the dump's own or the kernel's comparison; each contract: ONE APPLICATION.
-/
import Derived.Shelf.SlMaps.Clone
import Derived.Shelf.Strings.Fields
import Derived.Ground.NamesProg
import Derived.Ground.SlmcProg
import Derived.Test.YtcgnkloljfgiaaaGreatDoorProg
namespace Go.Proofs
open Go.Shelf
def Tryz.laysFields_ren : Go.Shelf.Ren := ⟨fun | 157 => 123 | 229 => 136 | 199 => 137 | 261 => 151 | 311 => 167 | 312 => 168 | n => n, fun | 9 => 9 | 31 => 137 | 3 => 3 | 5 => 5 | 4 => 4 | 119 => 201 | 0 => 0 | 40 => 191 | 152 => 216 | 21 => 21 | 154 => 218 | 51 => 196 | 141 => 220 | 196 => 236 | 193 => 233 | 198 => 239 | 49 => 237 | 194 => 234 | 201 => 242 | 226 => 249 | 46 => 112 | 227 => 250 | n => n, fun | 0 => 0 | 6 => 1 | n => n⟩
theorem Tryz.laysFields : Go.Proofs.Lays.n157 Tryz.prog Tryz.laysFields_ren := {
  mixed := by kernel_rfl
  f157 := Tryz.func123.trans (congrArg some (by kernel_rfl))
  f199 := Tryz.func137.trans (congrArg some (by kernel_rfl))
  f229 := Tryz.func136.trans (congrArg some (by kernel_rfl))
  f261 := Tryz.func151.trans (congrArg some (by kernel_rfl))
  f311 := Tryz.func167.trans (congrArg some (by kernel_rfl))
  f312 := Tryz.func168.trans (congrArg some (by kernel_rfl))
  t0 := Tryz.underlying0
  a0 := Tryz.isAgg0
  z0 := Tryz.sizeOf0
  v0 := Tryz.zeroValue0
  t3 := Tryz.underlying3
  a3 := Tryz.isAgg3
  z3 := Tryz.sizeOf3
  v3 := Tryz.zeroValue3
  t4 := Tryz.underlying4
  a4 := Tryz.isAgg4
  z4 := Tryz.sizeOf4
  v4 := Tryz.zeroValue4
  t5 := Tryz.underlying5
  a5 := Tryz.isAgg5
  z5 := Tryz.sizeOf5
  v5 := Tryz.zeroValue5
  t9 := Tryz.underlying9
  a9 := Tryz.isAgg9
  z9 := Tryz.sizeOf9
  v9 := Tryz.zeroValue9
  t21 := Tryz.underlying21
  a21 := Tryz.isAgg21
  z21 := Tryz.sizeOf21
  v21 := Tryz.zeroValue21
  t31 := Tryz.underlying137
  a31 := Tryz.isAgg137
  z31 := Tryz.sizeOf137
  v31 := Tryz.zeroValue137
  t40 := Tryz.underlying191
  a40 := Tryz.isAgg191
  z40 := Tryz.sizeOf191
  v40 := Tryz.zeroValue191
  t46 := Tryz.underlying112
  a46 := Tryz.isAgg112
  z46 := Tryz.sizeOf112
  v46 := Tryz.zeroValue112
  t49 := Tryz.underlying237
  a49 := Tryz.isAgg237
  z49 := Tryz.sizeOf237
  v49 := Tryz.zeroValue237
  t51 := Tryz.underlying196
  a51 := Tryz.isAgg196
  z51 := Tryz.sizeOf196
  v51 := Tryz.zeroValue196
  t119 := Tryz.underlying201
  a119 := Tryz.isAgg201
  z119 := Tryz.sizeOf201
  t141 := Tryz.underlying220
  a141 := Tryz.isAgg220
  z141 := Tryz.sizeOf220
  v141 := Tryz.zeroValue220
  t152 := Tryz.underlying216
  a152 := Tryz.isAgg216
  z152 := Tryz.sizeOf216
  v152 := Tryz.zeroValue216
  t154 := Tryz.underlying218
  a154 := Tryz.isAgg218
  z154 := Tryz.sizeOf218
  v154 := Tryz.zeroValue218
  t193 := Tryz.underlying233
  a193 := Tryz.isAgg233
  z193 := Tryz.sizeOf233
  v193 := Tryz.zeroValue233
  t194 := Tryz.underlying234
  a194 := Tryz.isAgg234
  z194 := Tryz.sizeOf234
  v194 := Tryz.zeroValue234
  t196 := Tryz.underlying236
  a196 := Tryz.isAgg236
  z196 := Tryz.sizeOf236
  v196 := Tryz.zeroValue236
  t198 := Tryz.underlying239
  a198 := Tryz.isAgg239
  z198 := Tryz.sizeOf239
  v198 := Tryz.zeroValue239
  t201 := Tryz.underlying242
  a201 := Tryz.isAgg242
  z201 := Tryz.sizeOf242
  v201 := Tryz.zeroValue242
  t226 := Tryz.underlying249
  a226 := Tryz.isAgg249
  z226 := Tryz.sizeOf249
  v226 := Tryz.zeroValue249
  t227 := Tryz.underlying250
  a227 := Tryz.isAgg250
  z227 := Tryz.sizeOf250
  v227 := Tryz.zeroValue250
  g0 := by kernel_rfl
  g6 := by kernel_rfl }
open Go.RowKit in
theorem Tryz.fields_calls (s : ByteArray) (w : World) (hs : s.size < 4294967281) (hascii : ∀ (j : Nat) b, s.data.toList[j]? = some b → b.toNat < 128)
    (hT : ∀ c : Nat, c < 256 → w.cell? ⟨Tryz.laysFields_ren.g 0, c, none⟩ = some (.int .u8 (if Lib.isSp (UInt8.ofNat c) then 1 else 0))) :
    Calls Tryz.prog 123 #[.string s] w fun e w' =>
      e = .returned (.slice (some ⟨w.heap.size, 0, none⟩) (Lib.fields s.data.toList).length (Lib.fields s.data.toList).length) ∧ w' = w.alloc (.cells ((Lib.fields s.data.toList).map fun l => Value.string ⟨l.toArray⟩).toArray (Tryz.laysFields_ren.t 9)) :=
  Any.strings_Fields_core Tryz.laysFields (by kernel_rfl) s w hs hascii hT
def Tryz.clone74_ren : Go.Shelf.Ren := ⟨fun | 5 => 74 | 7 => 103 | n => n, fun | 23 => 72 | 25 => 9 | 3 => 9 | 4 => 4 | 20 => 20 | n => n, fun | n => n⟩
theorem Tryz.clone74 : Go.Proofs.SlLaysW.n5 Tryz.prog Tryz.clone74_ren := {
  mixed := by kernel_rfl
  f5 := ⟨Tryz.f74.name, by decide, Tryz.func74.trans (congrArg some (by kernel_rfl))⟩
  f7 := Tryz.func103.trans (congrArg some (by kernel_rfl))
  t4 := Tryz.underlying4
  a4 := Tryz.isAgg4
  z4 := Tryz.sizeOf4
  v4 := Tryz.zeroValue4
  t20 := Tryz.underlying20
  a20 := Tryz.isAgg20
  z20 := Tryz.sizeOf20
  v20 := Tryz.zeroValue20
  t23 := Tryz.underlying72
  a23 := Tryz.isAgg72
  z23 := Tryz.sizeOf72
  v23 := Tryz.zeroValue72 }
open Go.RowKit in
theorem Tryz.clone_calls74 (b : Nat) (es : Array MapEntry) (clock : Nat) (w : World) (hb : w.heap[b]? = some (.map es clock)) :
    Calls Tryz.prog 74 #[.map (some b)] w fun e w' => e = .returned (.map (some w.heap.size)) ∧ w' = w.alloc (.map es clock) :=
  AnyW.maps_Clone Tryz.clone74 b es clock w hb
end Go.Proofs
