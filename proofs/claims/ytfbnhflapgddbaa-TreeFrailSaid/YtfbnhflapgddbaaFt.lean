/- How the rows' arguments read,and what is known of them. -/
import Derived.Test.YtfbnhflapgddbaaLd
import Derived.Test.YtfbnhflapgddbaaWj
import Derived.Test.YtfbnhflapgddbaaU1
import Derived.Test.YtfbnhflapgddbaaRows
set_option linter.all false
namespace Go.Val
open Go.RowKit Go.Proofs
theorem rd_key : Rd Try.prog 31 eK := Rd.bytes Try.underlying31 (by kernel_rfl) (by kernel_rfl) (by kernel_rfl)
theorem rd_string : Rd Try.prog 9 eStr := Rd.string Try.underlying9
theorem rd_bool : Rd Try.prog 4 qW := Rd.bool Try.underlying4
theorem rd_int : Rd Try.prog 3 eint := Rd.int Try.underlying3
theorem rd_change : Rd Try.prog 33 eCg :=
 Rd.struct (T := 26) (es := fun p : List UInt8 × ByteArray × Bool × Unit => [eK p.1,eStr p.2.1,qW p.2.2.1]) Try.underlying33 (by kernel_rfl) (RdL.cons (off := 0) (n := 24) rfl (by kernel_rfl) rd_key (RdL.cons (off := 24) (n := 1) rfl (by kernel_rfl) rd_string (RdL.cons (off := 25) (n := 1) rfl (by kernel_rfl) rd_bool RdL.nil))) (fun p : List UInt8 × ByteArray × Bool × Unit => (p.1,p.2.1,p.2.2.1)) (fun _ => rfl)
theorem rd_changes : Rd Try.prog 22 eSC := Rd.slice Try.underlying22 (by kernel_rfl) (by omega) qn0 rd_change
theorem Try.ownK : ownKnob Try.prog.godebug = none := by kernel_rfl
theorem Try.laidOutK : laidOutB Try.prog = true := by kernel_rfl
theorem ok_key {a : List UInt8} (h : DOk (eK a)) : a.length = 24 := h.bs
theorem ok_changes {a : List Cg} (h : DOk (eSC a)) : K24s a := fun p hp => ok_key ((h.sl (eCg p) (List.mem_map.2 ⟨p,hp,rfl⟩)).st _ (by simp))
set_option maxRecDepth 100000 in
theorem arg_changes {H : Type} {enc : TypeId × Value → H} {W : World} {v : Value} {d : DataW H} {ps : List MemPlace} (hv : Value.okWide Try.prog W .any 0 22 v) (h : DataW.Trod enc Try.prog W 0 (fun _ => true) true 22 v d ps) :
  ∃ a : List Cg,DOk (eSC a) ∧ ∀ E : Env,E.w = W → (∀ b,E.I b ↔ b < W.heap.size) → VR E (.d (eSC a)) v := arg_oneK rd_changes (fun _ => rfl) (one_slice Try.underlying22 hv) h
set_option maxRecDepth 100000 in
theorem arg_int {H : Type} {enc : TypeId × Value → H} {W : World} {v : Value} {d : DataW H} {ps : List MemPlace} (hv : Value.okWide Try.prog W .any 0 3 v) (h : DataW.Trod enc Try.prog W 0 (fun _ => true) true 3 v d ps) :
  ∃ a : Int,DOk (eint a) ∧ ∀ E : Env,E.w = W → (∀ b,E.I b ↔ b < W.heap.size) → VR E (.d (eint a)) v := arg_oneK rd_int (fun _ => rfl) (one_int Try.underlying3 hv) h
end Go.Val
