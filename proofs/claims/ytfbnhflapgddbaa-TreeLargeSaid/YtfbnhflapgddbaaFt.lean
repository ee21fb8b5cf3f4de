/- How the rows' arguments read,and what is known of them. -/
import Derived.Test.YtfbnhflapgddbaaLd
import Derived.Test.YtfbnhflapgddbaaWj
import Derived.Test.YtfbnhflapgddbaaU1
import Derived.Test.YtfbnhflapgddbaaRows
set_option linter.unusedSectionVars false
set_option linter.unusedVariables false
set_option linter.unusedSimpArgs false
namespace Go.Val
open Go.RowKit Go.Proofs
theorem rd_bool : Rd Try.prog 4 qI := Rd.bool Try.underlying4
theorem rd_int : Rd Try.prog 3 eint := Rd.int Try.underlying3
theorem Try.ownK : ownKnob Try.prog.godebug = none := by kernel_rfl
theorem Try.laidOutK : laidOutB Try.prog = true := by kernel_rfl
set_option maxRecDepth 100000 in
theorem arg_int {H : Type} {enc : TypeId × Value → H} {W : World} {v : Value} {d : DataW H} {ps : List MemPlace} (hv : Value.okWide Try.prog W .any 0 3 v) (h : DataW.Trod enc Try.prog W 0 (fun _ => true) true 3 v d ps) :
  ∃ a : Int,DOk (eint a) ∧ ∀ E : Env,E.w = W → (∀ b,E.I b ↔ b < W.heap.size) → VR E (.d (eint a)) v := arg_oneK rd_int (fun _ => rfl) (one_int Try.underlying3 hv) h
set_option maxRecDepth 100000 in
theorem arg_bool {H : Type} {enc : TypeId × Value → H} {W : World} {v : Value} {d : DataW H} {ps : List MemPlace} (hv : Value.okWide Try.prog W .any 0 4 v) (h : DataW.Trod enc Try.prog W 0 (fun _ => true) true 4 v d ps) :
  ∃ a : Bool,DOk (qI a) ∧ ∀ E : Env,E.w = W → (∀ b,E.I b ↔ b < W.heap.size) → VR E (.d (qI a)) v := arg_oneK rd_bool (fun _ => rfl) (one_bool Try.underlying4 hv) h
end Go.Val
