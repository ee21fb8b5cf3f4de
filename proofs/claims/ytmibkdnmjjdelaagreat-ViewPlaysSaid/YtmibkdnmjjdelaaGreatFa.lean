/- How the rows' arguments read, and what is known of them. -/
import Derived.Test.YtmibkdnmjjdelaaGreatLd
import Derived.Test.YtmibkdnmjjdelaaGreatWs
import Derived.Test.YtmibkdnmjjdelaaGreatRows
set_option linter.unusedSectionVars false
set_option linter.unusedVariables false
set_option linter.unusedSimpArgs false
namespace Go.Val
open Go.RowKit Go.Proofs

abbrev Opr := Int × Int × List UInt8 × ByteArray × (List UInt8 × List UInt8 × Bool)

theorem rd_key : Rd Tryz.prog 29 eapiKey := Rd.bytes Tryz.underlying29 (by kernel_rfl) (by kernel_rfl) (by kernel_rfl)
theorem rd_string : Rd Tryz.prog 9 estring := Rd.string Tryz.underlying9
theorem rd_bool : Rd Tryz.prog 4 ebool := Rd.bool Tryz.underlying4
theorem rd_int : Rd Tryz.prog 3 eint := Rd.int Tryz.underlying3
theorem rd_pair : Rd Tryz.prog 31 eapiPair :=
  Rd.struct (T := 25) (es := fun p : List UInt8 × ByteArray × Unit => [eapiKey p.1, estring p.2.1]) Tryz.underlying31 (by kernel_rfl) (RdL.cons (off := 0) (n := 24) rfl (by kernel_rfl) rd_key (RdL.cons (off := 24) (n := 1) rfl (by kernel_rfl) rd_string RdL.nil)) (fun p : List UInt8 × ByteArray × Unit => (p.1, p.2.1)) (fun _ => rfl)
theorem rd_span : Rd Tryz.prog 44 eapiSpan :=
  Rd.struct (T := 49) (es := fun p : List UInt8 × List UInt8 × Bool × Unit => [eapiKey p.1, eapiKey p.2.1, ebool p.2.2.1]) Tryz.underlying44 (by kernel_rfl) (RdL.cons (off := 0) (n := 24) rfl (by kernel_rfl) rd_key (RdL.cons (off := 24) (n := 24) rfl (by kernel_rfl) rd_key (RdL.cons (off := 48) (n := 1) rfl (by kernel_rfl) rd_bool RdL.nil))) (fun p : List UInt8 × List UInt8 × Bool × Unit => (p.1, p.2.1, p.2.2.1)) (fun _ => rfl)
theorem rd_op : Rd Tryz.prog 46 ewainscotlaw12Op :=
  Rd.struct (T := 76) (es := fun p : Int × Int × List UInt8 × ByteArray × (List UInt8 × List UInt8 × Bool) × Unit => [eint p.1, eint p.2.1, eapiKey p.2.2.1, estring p.2.2.2.1, eapiSpan p.2.2.2.2.1]) Tryz.underlying46 (by kernel_rfl)
    (RdL.cons (off := 0) (n := 1) rfl (by kernel_rfl) rd_int (RdL.cons (off := 1) (n := 1) rfl (by kernel_rfl) rd_int (RdL.cons (off := 2) (n := 24) rfl (by kernel_rfl) rd_key (RdL.cons (off := 26) (n := 1) rfl (by kernel_rfl) rd_string (RdL.cons (off := 27) (n := 49) rfl (by kernel_rfl) rd_span RdL.nil)))))
    (fun p : Int × Int × List UInt8 × ByteArray × (List UInt8 × List UInt8 × Bool) × Unit => (p.1, p.2.1, p.2.2.1, p.2.2.2.1, p.2.2.2.2.1)) (fun _ => rfl)
theorem rd_pairs : Rd Tryz.prog 22 eSapiPair := Rd.slice Tryz.underlying22 (by kernel_rfl) (by omega) siapiPair rd_pair
theorem rd_ops : Rd Tryz.prog 23 eSwainscotlaw12Op := Rd.slice Tryz.underlying23 (by kernel_rfl) (by omega) (fun _ => rfl) rd_op

theorem Tryz.ownK : ownKnob Tryz.prog.godebug = none := by kernel_rfl
theorem Tryz.laidOutK : laidOutB Tryz.prog = true := by kernel_rfl

theorem ok_key {a : List UInt8} (h : DOk (eapiKey a)) : a.length = 24 := h.bs
theorem ok_span {a : List UInt8 × List UInt8 × Bool} (h : DOk (eapiSpan a)) : spOk a := ⟨ok_key (h.st _ (by simp)), ok_key (h.st (eapiKey a.2.1) (by simp))⟩
theorem ok_pairs {a : List (List UInt8 × ByteArray)} (h : DOk (eSapiPair a)) : ∀ p ∈ a, p.1.length = 24 := fun p hp => ok_key ((h.sl (eapiPair p) (List.mem_map.2 ⟨p, hp, rfl⟩)).st _ (by simp))
theorem ok_ops {a : List Opr} (h : DOk (eSwainscotlaw12Op a)) : ∀ p ∈ a, p.2.2.1.length = 24 ∧ spOk p.2.2.2.2 := fun p hp => by
  have h1 := h.sl (ewainscotlaw12Op p) (List.mem_map.2 ⟨p, hp, rfl⟩)
  exact ⟨ok_key (h1.st (eapiKey p.2.2.1) (by simp)), ok_span (h1.st (eapiSpan p.2.2.2.2) (by simp))⟩

set_option maxRecDepth 100000 in
theorem arg_pairs {H : Type} {enc : TypeId × Value → H} {W : World} {v : Value} {d : DataW H} {ps : List MemPlace} (hv : Value.okWide Tryz.prog W .any 0 22 v) (h : DataW.Trod enc Tryz.prog W 0 (fun _ => true) true 22 v d ps) :
    ∃ a : List (List UInt8 × ByteArray), DOk (eSapiPair a) ∧ ∀ E : Env, E.w = W → (∀ b, E.I b ↔ b < W.heap.size) → VR E (.d (eSapiPair a)) v := arg_oneK rd_pairs (fun _ => rfl) (one_slice Tryz.underlying22 hv) h
set_option maxRecDepth 100000 in
theorem arg_ops {H : Type} {enc : TypeId × Value → H} {W : World} {v : Value} {d : DataW H} {ps : List MemPlace} (hv : Value.okWide Tryz.prog W .any 0 23 v) (h : DataW.Trod enc Tryz.prog W 0 (fun _ => true) true 23 v d ps) :
    ∃ a : List Opr, DOk (eSwainscotlaw12Op a) ∧ ∀ E : Env, E.w = W → (∀ b, E.I b ↔ b < W.heap.size) → VR E (.d (eSwainscotlaw12Op a)) v := arg_oneK rd_ops (fun _ => rfl) (one_slice Tryz.underlying23 hv) h
set_option maxRecDepth 100000 in
theorem arg_int {H : Type} {enc : TypeId × Value → H} {W : World} {v : Value} {d : DataW H} {ps : List MemPlace} (hv : Value.okWide Tryz.prog W .any 0 3 v) (h : DataW.Trod enc Tryz.prog W 0 (fun _ => true) true 3 v d ps) :
    ∃ a : Int, DOk (eint a) ∧ ∀ E : Env, E.w = W → (∀ b, E.I b ↔ b < W.heap.size) → VR E (.d (eint a)) v := arg_oneK rd_int (fun _ => rfl) (one_int Tryz.underlying3 hv) h
set_option maxRecDepth 100000 in
theorem arg_bool {H : Type} {enc : TypeId × Value → H} {W : World} {v : Value} {d : DataW H} {ps : List MemPlace} (hv : Value.okWide Tryz.prog W .any 0 4 v) (h : DataW.Trod enc Tryz.prog W 0 (fun _ => true) true 4 v d ps) :
    ∃ a : Bool, DOk (ebool a) ∧ ∀ E : Env, E.w = W → (∀ b, E.I b ↔ b < W.heap.size) → VR E (.d (ebool a)) v := arg_oneK rd_bool (fun _ => rfl) (one_bool Tryz.underlying4 hv) h
set_option maxRecDepth 100000 in
theorem arg_key {H : Type} {enc : TypeId × Value → H} {W : World} {v : Value} {d : DataW H} {ps : List MemPlace} (hv : Value.okWide Tryz.prog W .any 0 29 v) (h : DataW.Trod enc Tryz.prog W 0 (fun _ => true) true 29 v d ps) :
    ∃ a : List UInt8, DOk (eapiKey a) ∧ ∀ E : Env, E.w = W → (∀ b, E.I b ↔ b < W.heap.size) → VR E (.d (eapiKey a)) v := arg_aggK rd_key (fun _ => rfl) (agg_array Tryz.underlying29 hv) h
set_option maxRecDepth 100000 in
theorem arg_span {H : Type} {enc : TypeId × Value → H} {W : World} {v : Value} {d : DataW H} {ps : List MemPlace} (hv : Value.okWide Tryz.prog W .any 0 44 v) (h : DataW.Trod enc Tryz.prog W 0 (fun _ => true) true 44 v d ps) :
    ∃ a : List UInt8 × List UInt8 × Bool, DOk (eapiSpan a) ∧ ∀ E : Env, E.w = W → (∀ b, E.I b ↔ b < W.heap.size) → VR E (.d (eapiSpan a)) v := arg_aggK rd_span (fun _ => rfl) (agg_struct Tryz.underlying44 hv) h

end Go.Val

