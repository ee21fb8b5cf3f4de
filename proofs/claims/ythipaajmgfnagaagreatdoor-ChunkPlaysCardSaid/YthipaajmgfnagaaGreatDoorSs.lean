/-
 DERIVED: THE SHELF's CONTRACTS AT THIS DUMP,IN PLAIN WORDS (tools/lay-plain.mjs out of 'YthipaajmgfnagaaGreatDoorShelfSs.lean',which tools/lay-shelf.mjs wrote): THE SAME DECLARATIONS UNDER THE SAME NAMES: 'import','namespace','open','def','theorem' AND NOTHING ELSE: no command of the shelf's: FOR A HAND-IN. Each laying: the table of numbers ('.._ren') and one theorem,a field a fact of the dump's own or the kernel's comparison; each contract: ONE APPLICATION.
-/
import Derived.Shelf.SlLaysF0
import Derived.Ground.SlsfProg
import Derived.Shelf.SlGeneric
import Derived.Test.YthipaajmgfnagaaGreatDoorProg
namespace Go.Proofs
open Go.Shelf
def Tryz.sortS_ren : Go.Shelf.Ren := ⟨fun | 6 => 104 | 15 => 129 | 14 => 128 | 28 => 155 | 29 => 156 | 20 => 147 | 21 => 148 | 22 => 149 | 23 => 150 | 24 => 151 | 25 => 152 | 26 => 153 | 27 => 154 | 46 => 162 | 47 => 163 | 48 => 164 | 49 => 165 | 50 => 166 | 57 => 176 | n => n,fun | 22 => 59 | 24 => 41 | 25 => 165 | 3 => 3 | 39 => 126 | 0 => 0 | 53 => 187 | 55 => 190 | 4 => 4 | 46 => 213 | 45 => 212 | 50 => 176 | 5 => 5 | 9 => 9 | 66 => 222 | 70 => 226 | 76 => 237 | 77 => 238 | n => n,fun | n => n⟩
theorem Tryz.sortS : Go.Proofs.SlLaysF0.n6 Tryz.prog Tryz.sortS_ren := {
 mixed := by kernel_rfl
 f6 := ⟨Tryz.f104.name,by decide,Tryz.func104.trans (congrArg some (by kernel_rfl))⟩
 f14 := ⟨Tryz.f128.name,by decide,Tryz.func128.trans (congrArg some (by kernel_rfl))⟩
 f15 := Tryz.func129.trans (congrArg some (by kernel_rfl))
 f20 := ⟨Tryz.f147.name,by decide,Tryz.func147.trans (congrArg some (by kernel_rfl))⟩
 f21 := ⟨Tryz.f148.name,by decide,Tryz.func148.trans (congrArg some (by kernel_rfl))⟩
 f22 := ⟨Tryz.f149.name,by decide,Tryz.func149.trans (congrArg some (by kernel_rfl))⟩
 f23 := ⟨Tryz.f150.name,by decide,Tryz.func150.trans (congrArg some (by kernel_rfl))⟩
 f24 := ⟨Tryz.f151.name,by decide,Tryz.func151.trans (congrArg some (by kernel_rfl))⟩
 f25 := ⟨Tryz.f152.name,by decide,Tryz.func152.trans (congrArg some (by kernel_rfl))⟩
 f26 := ⟨Tryz.f153.name,by decide,Tryz.func153.trans (congrArg some (by kernel_rfl))⟩
 f27 := ⟨Tryz.f154.name,by decide,Tryz.func154.trans (congrArg some (by kernel_rfl))⟩
 f28 := Tryz.func155.trans (congrArg some (by kernel_rfl))
 f29 := Tryz.func156.trans (congrArg some (by kernel_rfl))
 f46 := ⟨Tryz.f162.name,by decide,Tryz.func162.trans (congrArg some (by kernel_rfl))⟩
 f47 := Tryz.func163.trans (congrArg some (by kernel_rfl))
 f48 := Tryz.func164.trans (congrArg some (by kernel_rfl))
 f49 := ⟨Tryz.f165.name,by decide,Tryz.func165.trans (congrArg some (by kernel_rfl))⟩
 f50 := ⟨Tryz.f166.name,by decide,Tryz.func166.trans (congrArg some (by kernel_rfl))⟩
 f57 := ⟨Tryz.f176.name,by decide,Tryz.func176.trans (congrArg some (by kernel_rfl))⟩
 t0 := Tryz.underlying0
 a0 := Tryz.isAgg0
 z0 := Tryz.sizeOf0
 v0 := Tryz.zeroValue0
 t3 := Tryz.underlying3
 a3 := Tryz.isAgg3
 z3 := Tryz.sizeOf3
 v3 := Tryz.zeroValue3
 t4 := Tryz.underlying4
 a4 := Tryz.isAgg4
 z4 := Tryz.sizeOf4
 v4 := Tryz.zeroValue4
 t5 := Tryz.underlying5
 a5 := Tryz.isAgg5
 z5 := Tryz.sizeOf5
 v5 := Tryz.zeroValue5
 t9 := Tryz.underlying9
 a9 := Tryz.isAgg9
 z9 := Tryz.sizeOf9
 v9 := Tryz.zeroValue9
 t22 := Tryz.underlying59
 a22 := Tryz.isAgg59
 z22 := Tryz.sizeOf59
 v22 := Tryz.zeroValue59
 t25 := Tryz.underlying165
 a25 := Tryz.isAgg165
 z25 := Tryz.sizeOf165
 v25 := Tryz.zeroValue165
 t39 := Tryz.underlying126
 a39 := Tryz.isAgg126
 z39 := Tryz.sizeOf126
 v39 := Tryz.zeroValue126
 t45 := Tryz.underlying212
 a45 := Tryz.isAgg212
 z45 := Tryz.sizeOf212
 v45 := Tryz.zeroValue212
 t46 := Tryz.underlying213
 a46 := Tryz.isAgg213
 z46 := Tryz.sizeOf213
 v46 := Tryz.zeroValue213
 t50 := Tryz.underlying176
 a50 := Tryz.isAgg176
 z50 := Tryz.sizeOf176
 v50 := Tryz.zeroValue176
 t53 := Tryz.underlying187
 a53 := Tryz.isAgg187
 z53 := Tryz.sizeOf187
 v53 := Tryz.zeroValue187
 t55 := Tryz.underlying190
 a55 := Tryz.isAgg190
 z55 := Tryz.sizeOf190
 v55 := Tryz.zeroValue190
 t66 := Tryz.underlying222
 a66 := Tryz.isAgg222
 z66 := Tryz.sizeOf222
 v66 := Tryz.zeroValue222
 t70 := Tryz.underlying226
 a70 := Tryz.isAgg226
 z70 := Tryz.sizeOf226
 v70 := Tryz.zeroValue226
 t76 := Tryz.underlying237
 a76 := Tryz.isAgg237
 z76 := Tryz.sizeOf237
 v76 := Tryz.zeroValue237
 t77 := Tryz.underlying238
 a77 := Tryz.isAgg238
 z77 := Tryz.sizeOf238
 v77 := Tryz.zeroValue238 }
end Go.Proofs
