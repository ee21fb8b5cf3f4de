/- DeltaMaps: for every input it returns true, and its argument reads as it did. -/
import Derived.Test.YtlcnkhphgekmeaaTe3
import Derived.Test.YtlcnkhphgekmeaaFa
set_option linter.unusedSectionVars false
set_option linter.unusedVariables false
set_option linter.unusedSimpArgs false
namespace Go.Proofs.Ytlcnkhphgekmeaa
open Go.ChangeShapes Go.WideShapes Go.ChangeAt Go.RowKit Go.Val

set_option maxRecDepth 100000 in
theorem deltaMaps_lifted (os : Os) (started : os.Started) (H : Type) (enc : TypeId × Value → H) :
    ReturnsInHanded {} Try.checked os 3 .any (Rows.deltaMapsSpec.pre6 enc Try.prog Try.f3 Rows.deltaMapsRow.domain false) (Rows.deltaMapsSpec.post enc Try.prog Try.f3 false true false false) := by
  refine returnsInHanded_of_change (C := Try.checked) Try.ownK started (by kernel_rfl) Try.func3
    (ChangeSpec.witness6 (enc := enc) (C := Try.checked) false ⟨#[], #[.slice none 0 0], []⟩ 8 (by kernel_rfl) (by kernel_rfl) (by kernel_rfl) (by kernel_rfl)) ?_
  intro W base args ds gs before hval0 hW hcnd _
  have hval : ∀ (j : Nat) t v, Try.f3.params[j]? = some t → args[j]? = some v → Value.okWide Try.prog W .any base t v := hval0
  have hW' := hW
  have hlt := hW.lt
  obtain ⟨p, q, hA0, hV, rfl, hfz, hnd⟩ := hW
  have hA : DataW.TrodAll enc Try.prog W 0 (fun _ => true) true Try.f3.params.toList args.toList ds p := hA0
  rw [Try.params3] at hA hval
  obtain ⟨v0, d0, rfl, rfl, h0⟩ := trodAll_one hA
  obtain ⟨rfl, rfl⟩ := trodVars_none hV
  have w0 := hval 0 22 v0 rfl rfl
  obtain ⟨a, ha⟩ := arg_pairs w0 h0
  clear hA0 hval0
  simp only [List.append_nil] at hW' hlt
  refine (calls_true (vals := [v0]) (law09_DeltaMaps_ok (deltaMaps_true a)) fun E hE hI => VRs.cons_vr (ha E hE hI) .nil).mono ?_
  rintro e W' ⟨rfl, hb⟩
  exact ⟨_, rfl, post_of_below hW' hb (fun _ _ _ => trodAll_mk1 (shut_bool Try.underlying4 true))
    (trodAll_mk1 (Below.trod Try.laidOutK (by kernel_rfl) (of_decide_eq_true (by kernel_rfl)) h0 hb hlt)) rfl⟩

theorem deltaMaps_holds : Rows.DeltaMapsSaid :=
  OpenClaim.holds_of_wide 3 Try.f3 rfl rfl rfl rfl rfl rfl rfl ⟨rfl, rfl, rfl, rfl, rfl⟩ rfl rfl rfl rfl rfl (by kernel_rfl) Try.func3 (by kernel_rfl)
    (of_decide_eq_true (by kernel_rfl)) (by unfold Func.isWrapper; first | (rw [if_pos (by decide +kernel)]; kernel_rfl) | (rw [if_neg (by decide +kernel)]; exact ⟨rfl, rfl⟩))
    (fun os started H enc _ => deltaMaps_lifted os started H enc)

end Go.Proofs.Ytlcnkhphgekmeaa
#print axioms Go.Proofs.Ytlcnkhphgekmeaa.deltaMaps_holds
