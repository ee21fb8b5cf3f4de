/- TreeChecks: for every input it returns true,and its arguments read as they did. -/
import Derived.Test.YtfbnhflapgddbaaU1
import Derived.Test.YtfbnhflapgddbaaFt
set_option linter.unusedSectionVars false
set_option linter.unusedVariables false
set_option linter.unusedSimpArgs false
namespace Go.Proofs.Ytfbnhflapgddbaa
open Go.ChangeShapes Go.WideShapes Go.ChangeAt Go.RowKit Go.Val
set_option maxRecDepth 100000 in
theorem treeChecks_lifted (os : Os) (started : os.Started) (H : Type) (enc : TypeId × Value → H) :
  ReturnsInHanded {} Try.checked os 6 .any (Rows.treeChecksSpec.pre6 enc Try.prog Try.f6 Rows.treeChecksRow.domain false) (Rows.treeChecksSpec.post enc Try.prog Try.f6 false true false false) := by
 refine returnsInHanded_of_change (C := Try.checked) Try.ownK started (by kernel_rfl) Try.func6
  (ChangeSpec.witness6 (enc := enc) (C := Try.checked) false ⟨#[],#[.slice none 0 0,.int .i64 0],[]⟩ 8 (by kernel_rfl) (by kernel_rfl) (by kernel_rfl) (by kernel_rfl)) ?_
 intro W base args ds gs before hval0 hW hcnd _
 have hval : ∀ (j : Nat) t v,Try.f6.params[j]? = some t → args[j]? = some v → Value.okWide Try.prog W .any base t v := hval0
 have hW' := hW
 have hlt := hW.lt
 obtain ⟨p,q,hA0,hV,rfl,hfz,hnd⟩ := hW
 have hA : DataW.TrodAll enc Try.prog W 0 (fun _ => true) true Try.f6.params.toList args.toList ds p := hA0
 rw [Try.params6] at hA hval
 obtain ⟨v0,v1,d0,d1,p0,p1,rfl,rfl,rfl,h0,h1⟩ := trodAll_two hA
 obtain ⟨rfl,rfl⟩ := trodVars_none hV
 obtain ⟨a0,k0,ha0⟩ := arg_entries (hval 0 62 v0 rfl rfl) h0
 obtain ⟨a1,k1,ha1⟩ := arg_int (hval 1 3 v1 rfl rfl) h1
 clear hA0 hval0
 simp only [List.append_nil] at hW' hlt
 refine (calls_true (vals := [v0,v1]) (qu4 (treeChecks_true a0 a1 (ok_entries k0))) fun E hE hI => (VRs.cons_vr (ha0 E hE hI) (VRs.cons_vr (ha1 E hE hI) .nil))).mono ?_
 rintro e W' ⟨rfl,hb⟩
 exact ⟨_,rfl,post_of_below hW' hb (fun _ _ _ => trodAll_mk1 (shut_bool Try.underlying4 true))
  (trodAll_mkc (Below.trod Try.laidOutK (by kernel_rfl) (of_decide_eq_true (by kernel_rfl)) h0 hb (fun x hx => hlt x (by simp [hx]))) (trodAll_mkc (Below.trod Try.laidOutK (by kernel_rfl) (of_decide_eq_true (by kernel_rfl)) h1 hb (fun x hx => hlt x (by simp [hx]))) trodAll_nil_mk)) rfl⟩
theorem treeChecks_holds : Rows.TreeChecksSaid :=
 OpenClaim.holds_of_wide 6 Try.f6 rfl rfl rfl rfl rfl rfl rfl ⟨rfl,rfl,rfl,rfl,rfl⟩ rfl rfl rfl rfl rfl (by kernel_rfl) Try.func6 (by kernel_rfl)
  (of_decide_eq_true (by kernel_rfl)) (by unfold Func.isWrapper; first | (rw [if_pos (by decide +kernel)]; kernel_rfl) | (rw [if_neg (by decide +kernel)]; exact ⟨rfl,rfl⟩))
  (fun os started H enc _ => treeChecks_lifted os started H enc)
end Go.Proofs.Ytfbnhflapgddbaa
#print axioms Go.Proofs.Ytfbnhflapgddbaa.treeChecks_holds
