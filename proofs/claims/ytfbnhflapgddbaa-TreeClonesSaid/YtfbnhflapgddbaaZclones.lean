/- TreeClones: for every input it returns true,and its arguments read as they did. -/
import Derived.Test.YtfbnhflapgddbaaU1
import Derived.Test.YtfbnhflapgddbaaFt
set_option linter.unusedSectionVars false
set_option linter.unusedVariables false
set_option linter.unusedSimpArgs false
namespace Go.Proofs.Ytfbnhflapgddbaa
open Go.ChangeShapes Go.WideShapes Go.ChangeAt Go.RowKit Go.Val
set_option maxRecDepth 100000 in
theorem treeClones_lifted (os : Os) (started : os.Started) (H : Type) (enc : TypeId × Value → H) :
  ReturnsInHanded {} Try.checked os 12 .any (Rows.treeClonesSpec.pre6 enc Try.prog Try.f12 Rows.treeClonesRow.domain false) (Rows.treeClonesSpec.post enc Try.prog Try.f12 false true false false) := by
 refine returnsInHanded_of_change (C := Try.checked) Try.ownK started (by kernel_rfl) Try.func12
  (ChangeSpec.witness6 (enc := enc) (C := Try.checked) false ⟨#[],#[.slice none 0 0,.slice none 0 0,.int .i64 0,.int .i64 0,.int .i64 0],[]⟩ 8 (by kernel_rfl) (by kernel_rfl) (by kernel_rfl) (by kernel_rfl)) ?_
 intro W base args ds gs before hval0 hW hcnd _
 have hval : ∀ (j : Nat) t v,Try.f12.params[j]? = some t → args[j]? = some v → Value.okWide Try.prog W .any base t v := hval0
 have hW' := hW
 have hlt := hW.lt
 obtain ⟨p,q,hA0,hV,rfl,hfz,hnd⟩ := hW
 have hA : DataW.TrodAll enc Try.prog W 0 (fun _ => true) true Try.f12.params.toList args.toList ds p := hA0
 rw [Try.params12] at hA hval
 obtain ⟨v0,v1,v2,v3,v4,d0,d1,d2,d3,d4,p0,p1,p2,p3,p4,rfl,rfl,rfl,h0,h1,h2,h3,h4⟩ := trodAll_five hA
 obtain ⟨rfl,rfl⟩ := trodVars_none hV
 obtain ⟨a0,k0,ha0⟩ := arg_changes (hval 0 22 v0 rfl rfl) h0
 obtain ⟨a1,k1,ha1⟩ := arg_changes (hval 1 22 v1 rfl rfl) h1
 obtain ⟨a2,k2,ha2⟩ := arg_int (hval 2 3 v2 rfl rfl) h2
 obtain ⟨a3,k3,ha3⟩ := arg_int (hval 3 3 v3 rfl rfl) h3
 obtain ⟨a4,k4,ha4⟩ := arg_int (hval 4 3 v4 rfl rfl) h4
 clear hA0 hval0
 simp only [List.append_nil] at hW' hlt
 refine (calls_true (vals := [v0,v1,v2,v3,v4]) (qB4 (treeClones_true a0 a1 a2 a3 a4 (ok_changes k0) (ok_changes k1))) fun E hE hI => (VRs.cons_vr (ha0 E hE hI) (VRs.cons_vr (ha1 E hE hI) (VRs.cons_vr (ha2 E hE hI) (VRs.cons_vr (ha3 E hE hI) (VRs.cons_vr (ha4 E hE hI) .nil)))))).mono ?_
 rintro e W' ⟨rfl,hb⟩
 exact ⟨_,rfl,post_of_below hW' hb (fun _ _ _ => trodAll_mk1 (shut_bool Try.underlying4 true))
  (qY2 (Below.trod Try.laidOutK (by kernel_rfl) (of_decide_eq_true (by kernel_rfl)) h0 hb (fun x hx => hlt x (by simp [hx]))) (qY2 (Below.trod Try.laidOutK (by kernel_rfl) (of_decide_eq_true (by kernel_rfl)) h1 hb (fun x hx => hlt x (by simp [hx]))) (qY2 (Below.trod Try.laidOutK (by kernel_rfl) (of_decide_eq_true (by kernel_rfl)) h2 hb (fun x hx => hlt x (by simp [hx]))) (qY2 (Below.trod Try.laidOutK (by kernel_rfl) (of_decide_eq_true (by kernel_rfl)) h3 hb (fun x hx => hlt x (by simp [hx]))) (qY2 (Below.trod Try.laidOutK (by kernel_rfl) (of_decide_eq_true (by kernel_rfl)) h4 hb (fun x hx => hlt x (by simp [hx]))) trodAll_nil_mk))))) rfl⟩
theorem treeClones_holds : Rows.TreeClonesSaid :=
 OpenClaim.holds_of_wide 12 Try.f12 rfl rfl rfl rfl rfl rfl rfl ⟨rfl,rfl,rfl,rfl,rfl⟩ rfl rfl rfl rfl rfl (by kernel_rfl) Try.func12 (by kernel_rfl)
  (of_decide_eq_true (by kernel_rfl)) (by unfold Func.isWrapper; first | (rw [if_pos (by decide +kernel)]; kernel_rfl) | (rw [if_neg (by decide +kernel)]; exact ⟨rfl,rfl⟩))
  (fun os started H enc _ => treeClones_lifted os started H enc)
end Go.Proofs.Ytfbnhflapgddbaa
#print axioms Go.Proofs.Ytfbnhflapgddbaa.treeClones_holds
