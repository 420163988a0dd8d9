/-
  slices.SortFunc at edges: the library's contract, laid at this program (numbers of seat r12).
-/
import Derived.Shelf.SlSortCmp.NoneTotal
import Derived.Test.YtgfaiihekibcbaaGreatDoorGpA
set_option maxRecDepth 100000
namespace Go.Proofs.YtgfaiihekibcbaaGreatDoor
open Go.RowKit Go.Shelf
def sortE_ren : Go.Shelf.Ren := ⟨fun | 6 => 36 | 15 => 69 | 14 => 68 | 28 => 92 | 29 => 93 | 20 => 84 | 21 => 85 | 22 => 86 | 23 => 87 | 24 => 88 | 25 => 89 | 26 => 90 | 27 => 91 | 46 => 100 | 47 => 101 | 48 => 102 | 49 => 103 | 50 => 104 | 57 => 105 | n => n, fun | 22 => 74 | 24 => 76 | 25 => 80 | 3 => 3 | 39 => 128 | 0 => 0 | 53 => 154 | 55 => 156 | 4 => 4 | 46 => 148 | 45 => 147 | 50 => 137 | 5 => 5 | 9 => 9 | 66 => 161 | 70 => 165 | 76 => 168 | 77 => 169 | n => n, fun | n => n⟩
set_option maxRecDepth 100000 in
theorem sortE : Go.Proofs.SlLaysF0.n6 Tryz.prog sortE_ren where
  mixed := by kernel_rfl
  f6 := ⟨Tryz.f36.name, by decide, Tryz.func36.trans (congrArg some (by kernel_rfl))⟩
  f14 := ⟨Tryz.f68.name, by decide, Tryz.func68.trans (congrArg some (by kernel_rfl))⟩
  f15 := Tryz.func69.trans (congrArg some (by kernel_rfl))
  f20 := ⟨Tryz.f84.name, by decide, Tryz.func84.trans (congrArg some (by kernel_rfl))⟩
  f21 := ⟨Tryz.f85.name, by decide, Tryz.func85.trans (congrArg some (by kernel_rfl))⟩
  f22 := ⟨Tryz.f86.name, by decide, Tryz.func86.trans (congrArg some (by kernel_rfl))⟩
  f23 := ⟨Tryz.f87.name, by decide, Tryz.func87.trans (congrArg some (by kernel_rfl))⟩
  f24 := ⟨Tryz.f88.name, by decide, Tryz.func88.trans (congrArg some (by kernel_rfl))⟩
  f25 := ⟨Tryz.f89.name, by decide, Tryz.func89.trans (congrArg some (by kernel_rfl))⟩
  f26 := ⟨Tryz.f90.name, by decide, Tryz.func90.trans (congrArg some (by kernel_rfl))⟩
  f27 := ⟨Tryz.f91.name, by decide, Tryz.func91.trans (congrArg some (by kernel_rfl))⟩
  f28 := Tryz.func92.trans (congrArg some (by kernel_rfl))
  f29 := Tryz.func93.trans (congrArg some (by kernel_rfl))
  f46 := ⟨Tryz.f100.name, by decide, Tryz.func100.trans (congrArg some (by kernel_rfl))⟩
  f47 := Tryz.func101.trans (congrArg some (by kernel_rfl))
  f48 := Tryz.func102.trans (congrArg some (by kernel_rfl))
  f49 := ⟨Tryz.f103.name, by decide, Tryz.func103.trans (congrArg some (by kernel_rfl))⟩
  f50 := ⟨Tryz.f104.name, by decide, Tryz.func104.trans (congrArg some (by kernel_rfl))⟩
  f57 := ⟨Tryz.f105.name, by decide, Tryz.func105.trans (congrArg some (by kernel_rfl))⟩
  t0 := Tryz.underlying0
  a0 := Tryz.isAgg0
  z0 := Tryz.sizeOf0
  v0 := Tryz.zeroValue0
  t3 := Tryz.underlying3
  a3 := Tryz.isAgg3
  z3 := Tryz.sizeOf3
  v3 := Tryz.zeroValue3
  t4 := Tryz.underlying4
  a4 := Tryz.isAgg4
  z4 := Tryz.sizeOf4
  v4 := Tryz.zeroValue4
  t5 := Tryz.underlying5
  a5 := Tryz.isAgg5
  z5 := Tryz.sizeOf5
  v5 := Tryz.zeroValue5
  t9 := Tryz.underlying9
  a9 := Tryz.isAgg9
  z9 := Tryz.sizeOf9
  v9 := Tryz.zeroValue9
  t22 := Tryz.underlying74
  a22 := Tryz.isAgg74
  z22 := Tryz.sizeOf74
  v22 := Tryz.zeroValue74
  t25 := Tryz.underlying80
  a25 := Tryz.isAgg80
  z25 := Tryz.sizeOf80
  v25 := Tryz.zeroValue80
  t39 := Tryz.underlying128
  a39 := Tryz.isAgg128
  z39 := Tryz.sizeOf128
  v39 := Tryz.zeroValue128
  t45 := Tryz.underlying147
  a45 := Tryz.isAgg147
  z45 := Tryz.sizeOf147
  v45 := Tryz.zeroValue147
  t46 := Tryz.underlying148
  a46 := Tryz.isAgg148
  z46 := Tryz.sizeOf148
  v46 := Tryz.zeroValue148
  t50 := Tryz.underlying137
  a50 := Tryz.isAgg137
  z50 := Tryz.sizeOf137
  v50 := Tryz.zeroValue137
  t53 := Tryz.underlying154
  a53 := Tryz.isAgg154
  z53 := Tryz.sizeOf154
  v53 := Tryz.zeroValue154
  t55 := Tryz.underlying156
  a55 := Tryz.isAgg156
  z55 := Tryz.sizeOf156
  v55 := Tryz.zeroValue156
  t66 := Tryz.underlying161
  a66 := Tryz.isAgg161
  z66 := Tryz.sizeOf161
  v66 := Tryz.zeroValue161
  t70 := Tryz.underlying165
  a70 := Tryz.isAgg165
  z70 := Tryz.sizeOf165
  v70 := Tryz.zeroValue165
  t76 := Tryz.underlying168
  a76 := Tryz.isAgg168
  z76 := Tryz.sizeOf168
  v76 := Tryz.zeroValue168
  t77 := Tryz.underlying169
  a77 := Tryz.isAgg169
  z77 := Tryz.sizeOf169
  v77 := Tryz.zeroValue169
end Go.Proofs.YtgfaiihekibcbaaGreatDoor
