/-
  DERIVED: THE SHELF's CONTRACTS AT THIS DUMP, IN PLAIN WORDS (tools/lay-plain.mjs out of 'YtmibkdnmjjdelaaShelf1.lean', which tools/lay-shelf.mjs wrote): THE SAME DECLARATIONS UNDER THE SAME NAMES: 'import', 'namespace', 'open', 'def', 'theorem' AND NOTHING ELSE: no command of the shelf's: FOR A HAND-IN. Each laying: the table of numbers ('.._ren') and one theorem, a field a fact of the dump's own or the kernel's comparison; each contract: ONE APPLICATION.
-/
import Derived.Shelf.SlLaysW
import Derived.Ground.SlmcProg
import Derived.Shelf.SlGeneric
import Derived.Test.YtmibkdnmjjdelaaProg
namespace Go.Proofs
open Go.Shelf
def Try.clone37_ren : Go.Shelf.Ren := ⟨fun | 5 => 37 | 7 => 47 | n => n, fun | 23 => 64 | 25 => 24 | 3 => 71 | 4 => 4 | 20 => 20 | n => n, fun | n => n⟩
theorem Try.clone37 : Go.Proofs.SlLaysW.n5 Try.prog Try.clone37_ren := {
  mixed := by kernel_rfl
  f5 := ⟨Try.f37.name, by decide, Try.func37.trans (congrArg some (by kernel_rfl))⟩
  f7 := Try.func47.trans (congrArg some (by kernel_rfl))
  t4 := Try.underlying4
  a4 := Try.isAgg4
  z4 := Try.sizeOf4
  v4 := Try.zeroValue4
  t20 := Try.underlying20
  a20 := Try.isAgg20
  z20 := Try.sizeOf20
  v20 := Try.zeroValue20
  t23 := Try.underlying64
  a23 := Try.isAgg64
  z23 := Try.sizeOf64
  v23 := Try.zeroValue64 }
end Go.Proofs
