/- How the rows' arguments read,and what is known of them. -/
import Derived.Test.YtfbnhflapgddbaaLd
import Derived.Test.YtfbnhflapgddbaaWj
import Derived.Test.YtfbnhflapgddbaaU1
import Derived.Test.YtfbnhflapgddbaaRows
set_option linter.unusedSectionVars false
set_option linter.unusedVariables false
set_option linter.unusedSimpArgs false
namespace Go.Val
open Go.RowKit Go.Proofs
theorem rd_key : Rd Try.prog 31 eK := Rd.bytes Try.underlying31 (by kernel_rfl) (by kernel_rfl) (by kernel_rfl)
theorem rd_string : Rd Try.prog 9 eStr := Rd.string Try.underlying9
theorem rd_int : Rd Try.prog 3 eint := Rd.int Try.underlying3
theorem rd_pair : Rd Try.prog 52 ePr :=
 Rd.struct (T := 25) (es := fun p : List UInt8 × ByteArray × Unit => [eK p.1,eStr p.2.1]) Try.underlying52 (by kernel_rfl) (RdL.cons (off := 0) (n := 24) rfl (by kernel_rfl) rd_key (RdL.cons (off := 24) (n := 1) rfl (by kernel_rfl) rd_string RdL.nil)) (fun p : List UInt8 × ByteArray × Unit => (p.1,p.2.1)) (fun _ => rfl)
theorem rd_kid : Rd Try.prog 69 qB :=
 Rd.struct (T := 25) (es := fun p : List UInt8 × Int × Unit => [eK p.1,eint p.2.1]) Try.underlying69 (by kernel_rfl) (RdL.cons (off := 0) (n := 24) rfl (by kernel_rfl) rd_key (RdL.cons (off := 24) (n := 1) rfl (by kernel_rfl) rd_int RdL.nil)) (fun p : List UInt8 × Int × Unit => (p.1,p.2.1)) (fun _ => rfl)
theorem rd_pairs : Rd Try.prog 34 eSP_ := Rd.slice Try.underlying34 (by kernel_rfl) (by omega) qN1 rd_pair
theorem rd_kids : Rd Try.prog 44 qk0 := Rd.slice Try.underlying44 (by kernel_rfl) (by omega) siapiKid rd_kid
theorem rd_node : Rd Try.prog 46 ql :=
 Rd.struct (T := 3) (es := fun p : Int × List (List UInt8 × ByteArray) × List (List UInt8 × Int) × Unit => [eint p.1,eSP_ p.2.1,qk0 p.2.2.1]) Try.underlying46 (by kernel_rfl) (RdL.cons (off := 0) (n := 1) rfl (by kernel_rfl) rd_int (RdL.cons (off := 1) (n := 1) rfl (by kernel_rfl) rd_pairs (RdL.cons (off := 2) (n := 1) rfl (by kernel_rfl) rd_kids RdL.nil))) (fun p : Int × List (List UInt8 × ByteArray) × List (List UInt8 × Int) × Unit => (p.1,p.2.1,p.2.2.1)) (fun _ => rfl)
theorem rd_entry : Rd Try.prog 66 qt :=
 Rd.struct (T := 4) (es := fun p : Int × (Int × List (List UInt8 × ByteArray) × List (List UInt8 × Int)) × Unit => [eint p.1,ql p.2.1]) Try.underlying66 (by kernel_rfl) (RdL.cons (off := 0) (n := 1) rfl (by kernel_rfl) rd_int (RdL.cons (off := 1) (n := 3) rfl (by kernel_rfl) rd_node RdL.nil)) (fun p : Int × (Int × List (List UInt8 × ByteArray) × List (List UInt8 × Int)) × Unit => (p.1,p.2.1)) (fun _ => rfl)
theorem rd_entries : Rd Try.prog 62 qo := Rd.slice Try.underlying62 (by kernel_rfl) (by omega) (fun _ => rfl) rd_entry
theorem Try.ownK : ownKnob Try.prog.godebug = none := by kernel_rfl
theorem Try.laidOutK : laidOutB Try.prog = true := by kernel_rfl
theorem ok_key {a : List UInt8} (h : DOk (eK a)) : a.length = 24 := h.bs
theorem ok_pairs {a : List Pr} (h : DOk (eSP_ a)) : K24s a := fun p hp => ok_key ((h.sl (ePr p) (List.mem_map.2 ⟨p,hp,rfl⟩)).st _ (by simp))
theorem ok_kids {a : List Kd} (h : DOk (qk0 a)) : K24s a := fun p hp => ok_key ((h.sl (qB p) (List.mem_map.2 ⟨p,hp,rfl⟩)).st _ (by simp))
theorem ok_entries {a : List (Int × Nd)} (h : DOk (qo a)) : ∀ x ∈ a,K24s x.2.2.1 ∧ K24s x.2.2.2 := fun x hx => by
 have h1 := (h.sl (qt x) (List.mem_map.2 ⟨x,hx,rfl⟩)).st (ql x.2) (by simp)
 exact ⟨ok_pairs (h1.st (eSP_ x.2.2.1) (by simp)),ok_kids (h1.st (qk0 x.2.2.2) (by simp))⟩
set_option maxRecDepth 100000 in
theorem arg_entries {H : Type} {enc : TypeId × Value → H} {W : World} {v : Value} {d : DataW H} {ps : List MemPlace} (hv : Value.okWide Try.prog W .any 0 62 v) (h : DataW.Trod enc Try.prog W 0 (fun _ => true) true 62 v d ps) :
  ∃ a : List (Int × Nd),DOk (qo a) ∧ ∀ E : Env,E.w = W → (∀ b,E.I b ↔ b < W.heap.size) → VR E (.d (qo a)) v := arg_oneK rd_entries (fun _ => rfl) (one_slice Try.underlying62 hv) h
set_option maxRecDepth 100000 in
theorem arg_int {H : Type} {enc : TypeId × Value → H} {W : World} {v : Value} {d : DataW H} {ps : List MemPlace} (hv : Value.okWide Try.prog W .any 0 3 v) (h : DataW.Trod enc Try.prog W 0 (fun _ => true) true 3 v d ps) :
  ∃ a : Int,DOk (eint a) ∧ ∀ E : Env,E.w = W → (∀ b,E.I b ↔ b < W.heap.size) → VR E (.d (eint a)) v := arg_oneK rd_int (fun _ => rfl) (one_int Try.underlying3 hv) h
end Go.Val
