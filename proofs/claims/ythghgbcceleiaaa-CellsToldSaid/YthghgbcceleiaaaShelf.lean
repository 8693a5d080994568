/-
  DERIVED: THE SHELF's CONTRACTS AT THIS DUMP, IN PLAIN WORDS (tools/lay-plain.mjs out of 'YthghgbcceleiaaaShelf.lean', which tools/lay-shelf.mjs wrote): THE SAME DECLARATIONS UNDER THE SAME NAMES: 'import', 'namespace', 'open', 'def', 'theorem' AND NOTHING ELSE: no command of the shelf's: FOR A HAND-IN. Each laying: the table of numbers ('.._ren') and one theorem, a field a fact of the dump's own or the kernel's comparison; each contract: ONE APPLICATION.
-/
import Derived.Ground.SlgcProg
import Derived.Shelf.SlicesG.Cmp
import Derived.Ground.SlsfProg
import Derived.Shelf.SlSortCmp.NoneTotal
import Derived.Test.YthghgbcceleiaaaProg
namespace Go.Proofs
open Go.Shelf
def Try.laysSlC25_f82_ren : Go.Shelf.Ren := ⟨fun | 5 => 82 | 7 => 91 | n => n, fun | 22 => 3 | 3 => 3 | 4 => 4 | n => n, fun | n => n⟩
theorem Try.laysSlC25_f82 : Go.Proofs.SlLaysC2.n5 Try.prog Try.laysSlC25_f82_ren := {
  mixed := by kernel_rfl
  f5 := ⟨Try.f82.name, by decide, Try.func82.trans (congrArg some (by kernel_rfl))⟩
  f7 := ⟨Try.f91.name, by decide, Try.func91.trans (congrArg some (by kernel_rfl))⟩
  t3 := Try.underlying3
  a3 := Try.isAgg3
  z3 := Try.sizeOf3
  v3 := Try.zeroValue3
  t4 := Try.underlying4
  a4 := Try.isAgg4
  z4 := Try.sizeOf4
  v4 := Try.zeroValue4
  t22 := Try.underlying3
  a22 := Try.isAgg3
  z22 := Try.sizeOf3
  v22 := Try.zeroValue3 }
open Go.Lib in
/-- cmp.Compare at an int under a name: "Compare returns -1 if x is less than y, 0 if x equals y, +1 if x is greater than y.": IT RETURNS 'Lib.compareInt x y'; the world is as it was. (LAID AT THE INSTANCE 'cmp.Compare[int]': no walk: one application.) -/
theorem Try.cmp_Compare_int (x y : Int) (w : World) :
    Calls Try.prog 82 #[.int .i64 x, .int .i64 y] w fun e w' => e = .returned (.int .i64 (Lib.compareInt x y)) ∧ w' = w := AnyG.cmp_Compare_int Try.laysSlC25_f82 x y w
def Try.sortKey_ren : Go.Shelf.Ren := ⟨fun | 6 => 79 | 15 => 90 | 14 => 89 | 28 => 102 | 29 => 103 | 20 => 94 | 21 => 95 | 22 => 96 | 23 => 97 | 24 => 98 | 25 => 99 | 26 => 100 | 27 => 101 | 46 => 104 | 47 => 105 | 48 => 106 | 49 => 107 | 50 => 108 | 57 => 109 | n => n, fun | 22 => 60 | 24 => 50 | 25 => 119 | 3 => 3 | 39 => 141 | 0 => 0 | 53 => 154 | 55 => 156 | 4 => 4 | 46 => 147 | 45 => 146 | 50 => 151 | 5 => 5 | 9 => 9 | 66 => 157 | 70 => 161 | 76 => 163 | 77 => 164 | n => n, fun | n => n⟩
theorem Try.sortKey : Go.Proofs.SlLaysF0.n6 Try.prog Try.sortKey_ren := {
  mixed := by kernel_rfl
  f6 := ⟨Try.f79.name, by decide, Try.func79.trans (congrArg some (by kernel_rfl))⟩
  f14 := ⟨Try.f89.name, by decide, Try.func89.trans (congrArg some (by kernel_rfl))⟩
  f15 := Try.func90.trans (congrArg some (by kernel_rfl))
  f20 := ⟨Try.f94.name, by decide, Try.func94.trans (congrArg some (by kernel_rfl))⟩
  f21 := ⟨Try.f95.name, by decide, Try.func95.trans (congrArg some (by kernel_rfl))⟩
  f22 := ⟨Try.f96.name, by decide, Try.func96.trans (congrArg some (by kernel_rfl))⟩
  f23 := ⟨Try.f97.name, by decide, Try.func97.trans (congrArg some (by kernel_rfl))⟩
  f24 := ⟨Try.f98.name, by decide, Try.func98.trans (congrArg some (by kernel_rfl))⟩
  f25 := ⟨Try.f99.name, by decide, Try.func99.trans (congrArg some (by kernel_rfl))⟩
  f26 := ⟨Try.f100.name, by decide, Try.func100.trans (congrArg some (by kernel_rfl))⟩
  f27 := ⟨Try.f101.name, by decide, Try.func101.trans (congrArg some (by kernel_rfl))⟩
  f28 := Try.func102.trans (congrArg some (by kernel_rfl))
  f29 := Try.func103.trans (congrArg some (by kernel_rfl))
  f46 := ⟨Try.f104.name, by decide, Try.func104.trans (congrArg some (by kernel_rfl))⟩
  f47 := Try.func105.trans (congrArg some (by kernel_rfl))
  f48 := Try.func106.trans (congrArg some (by kernel_rfl))
  f49 := ⟨Try.f107.name, by decide, Try.func107.trans (congrArg some (by kernel_rfl))⟩
  f50 := ⟨Try.f108.name, by decide, Try.func108.trans (congrArg some (by kernel_rfl))⟩
  f57 := ⟨Try.f109.name, by decide, Try.func109.trans (congrArg some (by kernel_rfl))⟩
  t0 := Try.underlying0
  a0 := Try.isAgg0
  z0 := Try.sizeOf0
  v0 := Try.zeroValue0
  t3 := Try.underlying3
  a3 := Try.isAgg3
  z3 := Try.sizeOf3
  v3 := Try.zeroValue3
  t4 := Try.underlying4
  a4 := Try.isAgg4
  z4 := Try.sizeOf4
  v4 := Try.zeroValue4
  t5 := Try.underlying5
  a5 := Try.isAgg5
  z5 := Try.sizeOf5
  v5 := Try.zeroValue5
  t9 := Try.underlying9
  a9 := Try.isAgg9
  z9 := Try.sizeOf9
  v9 := Try.zeroValue9
  t22 := Try.underlying60
  a22 := Try.isAgg60
  z22 := Try.sizeOf60
  v22 := Try.zeroValue60
  t25 := Try.underlying119
  a25 := Try.isAgg119
  z25 := Try.sizeOf119
  v25 := Try.zeroValue119
  t39 := Try.underlying141
  a39 := Try.isAgg141
  z39 := Try.sizeOf141
  v39 := Try.zeroValue141
  t45 := Try.underlying146
  a45 := Try.isAgg146
  z45 := Try.sizeOf146
  v45 := Try.zeroValue146
  t46 := Try.underlying147
  a46 := Try.isAgg147
  z46 := Try.sizeOf147
  v46 := Try.zeroValue147
  t50 := Try.underlying151
  a50 := Try.isAgg151
  z50 := Try.sizeOf151
  v50 := Try.zeroValue151
  t53 := Try.underlying154
  a53 := Try.isAgg154
  z53 := Try.sizeOf154
  v53 := Try.zeroValue154
  t55 := Try.underlying156
  a55 := Try.isAgg156
  z55 := Try.sizeOf156
  v55 := Try.zeroValue156
  t66 := Try.underlying157
  a66 := Try.isAgg157
  z66 := Try.sizeOf157
  v66 := Try.zeroValue157
  t70 := Try.underlying161
  a70 := Try.isAgg161
  z70 := Try.sizeOf161
  v70 := Try.zeroValue161
  t76 := Try.underlying163
  a76 := Try.isAgg163
  z76 := Try.sizeOf163
  v76 := Try.zeroValue163
  t77 := Try.underlying164
  a77 := Try.isAgg164
  z77 := Try.sizeOf164
  v77 := Try.zeroValue164 }
end Go.Proofs
