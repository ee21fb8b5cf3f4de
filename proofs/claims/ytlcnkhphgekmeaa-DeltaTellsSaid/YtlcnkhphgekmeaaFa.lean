/- How the rows' arguments read. -/
import Derived.Test.YtlcnkhphgekmeaaRb
import Derived.Test.YtlcnkhphgekmeaaWc
import Derived.Test.YtlcnkhphgekmeaaRows
set_option linter.unusedSectionVars false
set_option linter.unusedVariables false
set_option linter.unusedSimpArgs false
namespace Go.Val
open Go.RowKit Go.Proofs

theorem rd_key : Rd Try.prog 27 eapiKey := Rd.bytes Try.underlying27 (by kernel_rfl) (by kernel_rfl) (by kernel_rfl)
theorem rd_string : Rd Try.prog 9 estring := Rd.string Try.underlying9
theorem rd_bool : Rd Try.prog 4 ebool := Rd.bool Try.underlying4
theorem rd_int : Rd Try.prog 3 eint := Rd.int Try.underlying3
theorem rd_pair : Rd Try.prog 29 eapiPair :=
  Rd.struct (T := 25) (es := fun p : List UInt8 × ByteArray × Unit => [eapiKey p.1, estring p.2.1]) Try.underlying29 (by kernel_rfl) (RdL.cons (off := 0) (n := 24) rfl (by kernel_rfl) rd_key (RdL.cons (off := 24) (n := 1) rfl (by kernel_rfl) rd_string RdL.nil)) (fun p : List UInt8 × ByteArray × Unit => (p.1, p.2.1)) (fun _ => rfl)
theorem rd_change : Rd Try.prog 38 eapiChange :=
  Rd.struct (T := 26) (es := fun p : List UInt8 × ByteArray × Bool × Unit => [eapiKey p.1, estring p.2.1, ebool p.2.2.1]) Try.underlying38 (by kernel_rfl) (RdL.cons (off := 0) (n := 24) rfl (by kernel_rfl) rd_key (RdL.cons (off := 24) (n := 1) rfl (by kernel_rfl) rd_string (RdL.cons (off := 25) (n := 1) rfl (by kernel_rfl) rd_bool RdL.nil))) (fun p : List UInt8 × ByteArray × Bool × Unit => (p.1, p.2.1, p.2.2.1)) (fun _ => rfl)
theorem rd_pairs : Rd Try.prog 22 eSapiPair := Rd.slice Try.underlying22 (by kernel_rfl) (by omega) siapiPair rd_pair
theorem rd_changes : Rd Try.prog 34 eSapiChange := Rd.slice Try.underlying34 (by kernel_rfl) (by omega) siapiChange rd_change

theorem Try.ownK : ownKnob Try.prog.godebug = none := by kernel_rfl
theorem Try.laidOutK : laidOutB Try.prog = true := by kernel_rfl

/-- An argument, behind the call. -/
theorem arg_pairs {H : Type} {enc : TypeId × Value → H} {W : World} {v : Value} {d : DataW H} {ps : List MemPlace} (hv : Value.okWide Try.prog W .any 0 22 v) (h : DataW.Trod enc Try.prog W 0 (fun _ => true) true 22 v d ps) :
    ∃ a : List (List UInt8 × ByteArray), ∀ E : Env, E.w = W → (∀ b, E.I b ↔ b < W.heap.size) → VR E (.d (eSapiPair a)) v := arg_one rd_pairs (fun _ => rfl) (one_slice Try.underlying22 hv) h
theorem arg_changes {H : Type} {enc : TypeId × Value → H} {W : World} {v : Value} {d : DataW H} {ps : List MemPlace} (hv : Value.okWide Try.prog W .any 0 34 v) (h : DataW.Trod enc Try.prog W 0 (fun _ => true) true 34 v d ps) :
    ∃ a : List (List UInt8 × ByteArray × Bool), ∀ E : Env, E.w = W → (∀ b, E.I b ↔ b < W.heap.size) → VR E (.d (eSapiChange a)) v := arg_one rd_changes (fun _ => rfl) (one_slice Try.underlying34 hv) h
theorem arg_int {H : Type} {enc : TypeId × Value → H} {W : World} {v : Value} {d : DataW H} {ps : List MemPlace} (hv : Value.okWide Try.prog W .any 0 3 v) (h : DataW.Trod enc Try.prog W 0 (fun _ => true) true 3 v d ps) :
    ∃ a : Int, ∀ E : Env, E.w = W → (∀ b, E.I b ↔ b < W.heap.size) → VR E (.d (eint a)) v := arg_one rd_int (fun _ => rfl) (one_int Try.underlying3 hv) h

end Go.Val
