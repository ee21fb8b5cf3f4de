/- How the rows' arguments read,and what is known of them. -/
import Derived.Test.YthipaajmgfnagaaGreatDoorLd
import Derived.Test.YthipaajmgfnagaaGreatDoorWj
import Derived.Test.YthipaajmgfnagaaGreatDoorRows
set_option linter.unusedSectionVars false
set_option linter.unusedVariables false
set_option linter.unusedSimpArgs false
namespace Go.Val
open Go.RowKit Go.Proofs
theorem rd_string : Rd Tryz.prog 9 eStr := Rd.string Tryz.underlying9
theorem rd_int : Rd Tryz.prog 3 eint := Rd.int Tryz.underlying3
theorem rd_op : Rd Tryz.prog 28 qT :=
 Rd.struct (T := 5) (es := fun p : Int × Int × Int × Int × ByteArray × Unit => [eint p.1,eint p.2.1,eint p.2.2.1,eint p.2.2.2.1,eStr p.2.2.2.2.1]) Tryz.underlying28 (by kernel_rfl)
  (RdL.cons (off := 0) (n := 1) rfl (by kernel_rfl) rd_int (RdL.cons (off := 1) (n := 1) rfl (by kernel_rfl) rd_int (RdL.cons (off := 2) (n := 1) rfl (by kernel_rfl) rd_int (RdL.cons (off := 3) (n := 1) rfl (by kernel_rfl) rd_int (RdL.cons (off := 4) (n := 1) rfl (by kernel_rfl) rd_string RdL.nil)))))
  (fun p : Int × Int × Int × Int × ByteArray × Unit => (p.1,p.2.1,p.2.2.1,p.2.2.2.1,p.2.2.2.2.1)) (fun _ => rfl)
theorem rd_ops : Rd Tryz.prog 22 qk := Rd.slice Tryz.underlying22 (by kernel_rfl) (by omega) (fun _ => rfl) rd_op
theorem Tryz.ownK : ownKnob Tryz.prog.godebug = none := by kernel_rfl
theorem Tryz.laidOutK : laidOutB Tryz.prog = true := by kernel_rfl
set_option maxRecDepth 100000 in
theorem arg_ops {H : Type} {enc : TypeId × Value → H} {W : World} {v : Value} {d : DataW H} {ps : List MemPlace} (hv : Value.okWide Tryz.prog W .any 0 22 v) (h : DataW.Trod enc Tryz.prog W 0 (fun _ => true) true 22 v d ps) :
  ∃ a : List (Int × Int × Int × Int × ByteArray),DOk (qk a) ∧ ∀ E : Env,E.w = W → (∀ b,E.I b ↔ b < W.heap.size) → VR E (.d (qk a)) v := arg_oneK rd_ops (fun _ => rfl) (one_slice Tryz.underlying22 hv) h
end Go.Val
