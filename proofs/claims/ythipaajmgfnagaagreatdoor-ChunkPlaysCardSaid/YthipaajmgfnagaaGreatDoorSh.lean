/-
 DERIVED: THE SHELF's CONTRACTS AT THIS DUMP,IN PLAIN WORDS (tools/lay-plain.mjs out of 'YthipaajmgfnagaaGreatDoorShelfSh.lean',which tools/lay-shelf.mjs wrote): THE SAME DECLARATIONS UNDER THE SAME NAMES: 'import','namespace','open','def','theorem' AND NOTHING ELSE: no command of the shelf's: FOR A HAND-IN. Each laying: the table of numbers ('.._ren') and one theorem,a field a fact of the dump's own or the kernel's comparison; each contract: ONE APPLICATION.
-/
import Derived.Shelf.SlLaysF0
import Derived.Ground.SlsfProg
import Derived.Shelf.SlGeneric
import Derived.Test.YthipaajmgfnagaaGreatDoorProg
namespace Go.Proofs
open Go.Shelf
def Tryz.sortK_ren : Go.Shelf.Ren := ⟨fun | 6 => 131 | 15 => 129 | 14 => 158 | 28 => 155 | 29 => 156 | 20 => 167 | 21 => 168 | 22 => 169 | 23 => 170 | 24 => 171 | 25 => 172 | 26 => 173 | 27 => 174 | 46 => 177 | 47 => 163 | 48 => 164 | 49 => 178 | 50 => 179 | 57 => 180 | n => n,fun | 22 => 167 | 24 => 39 | 25 => 172 | 3 => 3 | 39 => 126 | 0 => 0 | 53 => 187 | 55 => 190 | 4 => 4 | 46 => 213 | 45 => 212 | 50 => 176 | 5 => 5 | 9 => 9 | 66 => 222 | 70 => 226 | 76 => 237 | 77 => 238 | n => n,fun | n => n⟩
theorem Tryz.sortK : Go.Proofs.SlLaysF0.n6 Tryz.prog Tryz.sortK_ren := {
 mixed := by kernel_rfl
 f6 := ⟨Tryz.f131.name,by decide,Tryz.func131.trans (congrArg some (by kernel_rfl))⟩
 f14 := ⟨Tryz.f158.name,by decide,Tryz.func158.trans (congrArg some (by kernel_rfl))⟩
 f15 := Tryz.func129.trans (congrArg some (by kernel_rfl))
 f20 := ⟨Tryz.f167.name,by decide,Tryz.func167.trans (congrArg some (by kernel_rfl))⟩
 f21 := ⟨Tryz.f168.name,by decide,Tryz.func168.trans (congrArg some (by kernel_rfl))⟩
 f22 := ⟨Tryz.f169.name,by decide,Tryz.func169.trans (congrArg some (by kernel_rfl))⟩
 f23 := ⟨Tryz.f170.name,by decide,Tryz.func170.trans (congrArg some (by kernel_rfl))⟩
 f24 := ⟨Tryz.f171.name,by decide,Tryz.func171.trans (congrArg some (by kernel_rfl))⟩
 f25 := ⟨Tryz.f172.name,by decide,Tryz.func172.trans (congrArg some (by kernel_rfl))⟩
 f26 := ⟨Tryz.f173.name,by decide,Tryz.func173.trans (congrArg some (by kernel_rfl))⟩
 f27 := ⟨Tryz.f174.name,by decide,Tryz.func174.trans (congrArg some (by kernel_rfl))⟩
 f28 := Tryz.func155.trans (congrArg some (by kernel_rfl))
 f29 := Tryz.func156.trans (congrArg some (by kernel_rfl))
 f46 := ⟨Tryz.f177.name,by decide,Tryz.func177.trans (congrArg some (by kernel_rfl))⟩
 f47 := Tryz.func163.trans (congrArg some (by kernel_rfl))
 f48 := Tryz.func164.trans (congrArg some (by kernel_rfl))
 f49 := ⟨Tryz.f178.name,by decide,Tryz.func178.trans (congrArg some (by kernel_rfl))⟩
 f50 := ⟨Tryz.f179.name,by decide,Tryz.func179.trans (congrArg some (by kernel_rfl))⟩
 f57 := ⟨Tryz.f180.name,by decide,Tryz.func180.trans (congrArg some (by kernel_rfl))⟩
 t0 := Tryz.underlying0
 a0 := Tryz.isAgg0
 z0 := Tryz.sizeOf0
 v0 := Tryz.zeroValue0
 t3 := Tryz.underlying3
 a3 := Tryz.isAgg3
 z3 := Tryz.sizeOf3
 v3 := Tryz.zeroValue3
 t4 := Tryz.underlying4
 a4 := Tryz.isAgg4
 z4 := Tryz.sizeOf4
 v4 := Tryz.zeroValue4
 t5 := Tryz.underlying5
 a5 := Tryz.isAgg5
 z5 := Tryz.sizeOf5
 v5 := Tryz.zeroValue5
 t9 := Tryz.underlying9
 a9 := Tryz.isAgg9
 z9 := Tryz.sizeOf9
 v9 := Tryz.zeroValue9
 t22 := Tryz.underlying167
 a22 := Tryz.isAgg167
 z22 := Tryz.sizeOf167
 v22 := Tryz.zeroValue167
 t25 := Tryz.underlying172
 a25 := Tryz.isAgg172
 z25 := Tryz.sizeOf172
 v25 := Tryz.zeroValue172
 t39 := Tryz.underlying126
 a39 := Tryz.isAgg126
 z39 := Tryz.sizeOf126
 v39 := Tryz.zeroValue126
 t45 := Tryz.underlying212
 a45 := Tryz.isAgg212
 z45 := Tryz.sizeOf212
 v45 := Tryz.zeroValue212
 t46 := Tryz.underlying213
 a46 := Tryz.isAgg213
 z46 := Tryz.sizeOf213
 v46 := Tryz.zeroValue213
 t50 := Tryz.underlying176
 a50 := Tryz.isAgg176
 z50 := Tryz.sizeOf176
 v50 := Tryz.zeroValue176
 t53 := Tryz.underlying187
 a53 := Tryz.isAgg187
 z53 := Tryz.sizeOf187
 v53 := Tryz.zeroValue187
 t55 := Tryz.underlying190
 a55 := Tryz.isAgg190
 z55 := Tryz.sizeOf190
 v55 := Tryz.zeroValue190
 t66 := Tryz.underlying222
 a66 := Tryz.isAgg222
 z66 := Tryz.sizeOf222
 v66 := Tryz.zeroValue222
 t70 := Tryz.underlying226
 a70 := Tryz.isAgg226
 z70 := Tryz.sizeOf226
 v70 := Tryz.zeroValue226
 t76 := Tryz.underlying237
 a76 := Tryz.isAgg237
 z76 := Tryz.sizeOf237
 v76 := Tryz.zeroValue237
 t77 := Tryz.underlying238
 a77 := Tryz.isAgg238
 z77 := Tryz.sizeOf238
 v77 := Tryz.zeroValue238 }
end Go.Proofs
