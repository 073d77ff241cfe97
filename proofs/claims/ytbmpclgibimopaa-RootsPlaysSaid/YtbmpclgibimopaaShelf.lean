/-
  DERIVED: THE SHELF's CONTRACTS AT THIS DUMP, IN PLAIN WORDS (tools/lay-plain.mjs out of 'TryShelf2.lean', which tools/lay-shelf.mjs wrote): THE SAME DECLARATIONS UNDER THE SAME NAMES: 'import', 'namespace', 'open', 'def', 'theorem' AND NOTHING ELSE: no command of the shelf's: FOR A HAND-IN. Each laying: the table of numbers ('.._ren') and one theorem, a field a fact of the dump's own or the kernel's comparison; each contract: ONE APPLICATION.
-/
import Derived.Shelf.SlSortCmp.WholeK
import Derived.Shelf.SlicesE.Clone
import Derived.Shelf.SlicesQ.IndexFunc
import Derived.Ground.SlsfProg
import Derived.Ground.SlgnProg
import Derived.Ground.SlgfProg
import Derived.Test.YtbmpclgibimopaaProg
namespace Go.Proofs
open Go.Shelf
def Try.sortSp_ren : Go.Shelf.Ren := ⟨fun | 6 => 23 | 15 => 27 | 14 => 26 | 28 => 36 | 29 => 37 | 20 => 28 | 21 => 29 | 22 => 30 | 23 => 31 | 24 => 32 | 25 => 33 | 26 => 34 | 27 => 35 | 46 => 38 | 47 => 39 | 48 => 40 | 49 => 41 | 50 => 42 | 57 => 43 | n => n, fun | 22 => 49 | 24 => 39 | 25 => 54 | 3 => 3 | 39 => 58 | 0 => 0 | 53 => 67 | 55 => 69 | 4 => 4 | 46 => 61 | 45 => 60 | 50 => 28 | 5 => 5 | 9 => 9 | 66 => 70 | 70 => 74 | 76 => 76 | 77 => 77 | n => n, fun | n => n⟩
theorem Try.sortSp : Go.Proofs.SlLaysF0.n6 Try.prog Try.sortSp_ren := {
  mixed := by kernel_rfl
  f6 := ⟨Try.f23.name, by decide, Try.func23.trans (congrArg some (by kernel_rfl))⟩
  f14 := ⟨Try.f26.name, by decide, Try.func26.trans (congrArg some (by kernel_rfl))⟩
  f15 := Try.func27.trans (congrArg some (by kernel_rfl))
  f20 := ⟨Try.f28.name, by decide, Try.func28.trans (congrArg some (by kernel_rfl))⟩
  f21 := ⟨Try.f29.name, by decide, Try.func29.trans (congrArg some (by kernel_rfl))⟩
  f22 := ⟨Try.f30.name, by decide, Try.func30.trans (congrArg some (by kernel_rfl))⟩
  f23 := ⟨Try.f31.name, by decide, Try.func31.trans (congrArg some (by kernel_rfl))⟩
  f24 := ⟨Try.f32.name, by decide, Try.func32.trans (congrArg some (by kernel_rfl))⟩
  f25 := ⟨Try.f33.name, by decide, Try.func33.trans (congrArg some (by kernel_rfl))⟩
  f26 := ⟨Try.f34.name, by decide, Try.func34.trans (congrArg some (by kernel_rfl))⟩
  f27 := ⟨Try.f35.name, by decide, Try.func35.trans (congrArg some (by kernel_rfl))⟩
  f28 := Try.func36.trans (congrArg some (by kernel_rfl))
  f29 := Try.func37.trans (congrArg some (by kernel_rfl))
  f46 := ⟨Try.f38.name, by decide, Try.func38.trans (congrArg some (by kernel_rfl))⟩
  f47 := Try.func39.trans (congrArg some (by kernel_rfl))
  f48 := Try.func40.trans (congrArg some (by kernel_rfl))
  f49 := ⟨Try.f41.name, by decide, Try.func41.trans (congrArg some (by kernel_rfl))⟩
  f50 := ⟨Try.f42.name, by decide, Try.func42.trans (congrArg some (by kernel_rfl))⟩
  f57 := ⟨Try.f43.name, by decide, Try.func43.trans (congrArg some (by kernel_rfl))⟩
  t0 := Try.underlying0
  a0 := Try.isAgg0
  z0 := Try.sizeOf0
  v0 := Try.zeroValue0
  t3 := Try.underlying3
  a3 := Try.isAgg3
  z3 := Try.sizeOf3
  v3 := Try.zeroValue3
  t4 := Try.underlying4
  a4 := Try.isAgg4
  z4 := Try.sizeOf4
  v4 := Try.zeroValue4
  t5 := Try.underlying5
  a5 := Try.isAgg5
  z5 := Try.sizeOf5
  v5 := Try.zeroValue5
  t9 := Try.underlying9
  a9 := Try.isAgg9
  z9 := Try.sizeOf9
  v9 := Try.zeroValue9
  t22 := Try.underlying49
  a22 := Try.isAgg49
  z22 := Try.sizeOf49
  v22 := Try.zeroValue49
  t25 := Try.underlying54
  a25 := Try.isAgg54
  z25 := Try.sizeOf54
  v25 := Try.zeroValue54
  t39 := Try.underlying58
  a39 := Try.isAgg58
  z39 := Try.sizeOf58
  v39 := Try.zeroValue58
  t45 := Try.underlying60
  a45 := Try.isAgg60
  z45 := Try.sizeOf60
  v45 := Try.zeroValue60
  t46 := Try.underlying61
  a46 := Try.isAgg61
  z46 := Try.sizeOf61
  v46 := Try.zeroValue61
  t50 := Try.underlying28
  a50 := Try.isAgg28
  z50 := Try.sizeOf28
  v50 := Try.zeroValue28
  t53 := Try.underlying67
  a53 := Try.isAgg67
  z53 := Try.sizeOf67
  v53 := Try.zeroValue67
  t55 := Try.underlying69
  a55 := Try.isAgg69
  z55 := Try.sizeOf69
  v55 := Try.zeroValue69
  t66 := Try.underlying70
  a66 := Try.isAgg70
  z66 := Try.sizeOf70
  v66 := Try.zeroValue70
  t70 := Try.underlying74
  a70 := Try.isAgg74
  z70 := Try.sizeOf74
  v70 := Try.zeroValue74
  t76 := Try.underlying76
  a76 := Try.isAgg76
  z76 := Try.sizeOf76
  v76 := Try.zeroValue76
  t77 := Try.underlying77
  a77 := Try.isAgg77
  z77 := Try.sizeOf77
  v77 := Try.zeroValue77 }
def Try.cloneSp_ren : Go.Shelf.Ren := ⟨fun | 41 => 20 | n => n, fun | 22 => 49 | 23 => 39 | 4 => 4 | n => n, fun | n => n⟩
theorem Try.cloneSp : Go.Proofs.SlLaysE0.n41 Try.prog Try.cloneSp_ren := {
  mixed := by kernel_rfl
  f41 := ⟨Try.f20.name, by decide, Try.func20.trans (congrArg some (by kernel_rfl))⟩
  t4 := Try.underlying4
  a4 := Try.isAgg4
  z4 := Try.sizeOf4
  v4 := Try.zeroValue4
  t22 := Try.underlying49
  a22 := Try.isAgg49
  z22 := Try.sizeOf49
  v22 := Try.zeroValue49 }
def Try.indexSp_ren : Go.Shelf.Ren := ⟨fun | 6 => 25 | n => n, fun | 22 => 49 | 23 => 39 | 25 => 52 | 3 => 3 | 0 => 0 | 4 => 4 | n => n, fun | n => n⟩
theorem Try.indexSp : Go.Proofs.SlLaysH0.n6 Try.prog Try.indexSp_ren := {
  mixed := by kernel_rfl
  f6 := ⟨Try.f25.name, by decide, Try.func25.trans (congrArg some (by kernel_rfl))⟩
  t0 := Try.underlying0
  a0 := Try.isAgg0
  z0 := Try.sizeOf0
  v0 := Try.zeroValue0
  t3 := Try.underlying3
  a3 := Try.isAgg3
  z3 := Try.sizeOf3
  v3 := Try.zeroValue3
  t4 := Try.underlying4
  a4 := Try.isAgg4
  z4 := Try.sizeOf4
  v4 := Try.zeroValue4
  t22 := Try.underlying49
  a22 := Try.isAgg49
  z22 := Try.sizeOf49
  v22 := Try.zeroValue49
  t25 := Try.underlying52
  a25 := Try.isAgg52
  z25 := Try.sizeOf52
  v25 := Try.zeroValue52 }
end Go.Proofs
