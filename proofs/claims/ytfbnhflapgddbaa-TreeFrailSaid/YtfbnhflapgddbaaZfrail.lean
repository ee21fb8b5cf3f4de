/- TreeFrail: for every input it returns true,and its arguments read as they did. -/
import Derived.Test.YtfbnhflapgddbaaU1
import Derived.Test.YtfbnhflapgddbaaFt
set_option linter.all false
namespace Go.Proofs.Ytfbnhflapgddbaa
open Go.ChangeShapes Go.WideShapes Go.ChangeAt Go.RowKit Go.Val
set_option maxRecDepth 100000 in
theorem treeFrail_lifted (os : Os) (started : os.Started) (H : Type) (enc : TypeId × Value → H) :
  ReturnsInHanded {} Try.checked os 5 .any (Rows.treeFrailSpec.pre6 enc Try.prog Try.f5 Rows.treeFrailRow.domain false) (Rows.treeFrailSpec.post enc Try.prog Try.f5 false true false false) := by
 refine returnsInHanded_of_change (C := Try.checked) Try.ownK started (by kernel_rfl) Try.func5
  (ChangeSpec.witness6 (enc := enc) (C := Try.checked) false ⟨#[],#[.slice none 0 0,.slice none 0 0,.int .i64 0],[]⟩ 8 (by kernel_rfl) (by kernel_rfl) (by kernel_rfl) (by kernel_rfl)) ?_
 intro W base args ds gs before hval0 hW hcnd _
 have hval : ∀ (j : Nat) t v,Try.f5.params[j]? = some t → args[j]? = some v → Value.okWide Try.prog W .any base t v := hval0
 have hW' := hW
 have hlt := hW.lt
 obtain ⟨p,q,hA0,hV,rfl,hfz,hnd⟩ := hW
 have hA : DataW.TrodAll enc Try.prog W 0 (fun _ => true) true Try.f5.params.toList args.toList ds p := hA0
 rw [Try.params5] at hA hval
 obtain ⟨v0,v1,v2,d0,d1,d2,p0,p1,p2,rfl,rfl,rfl,h0,h1,h2⟩ := trodAll_three hA
 obtain ⟨rfl,rfl⟩ := trodVars_none hV
 obtain ⟨a0,k0,ha0⟩ := arg_changes (hval 0 22 v0 rfl rfl) h0
 obtain ⟨a1,k1,ha1⟩ := arg_changes (hval 1 22 v1 rfl rfl) h1
 obtain ⟨a2,k2,ha2⟩ := arg_int (hval 2 3 v2 rfl rfl) h2
 clear hA0 hval0
 simp only [zJ] at hW' hlt
 refine (calls_true (vals := [v0,v1,v2]) (law07_TreeFrail_ok (treeFrail_true a0 a1 a2 (ok_changes k0) (ok_changes k1))) fun E hE hI => (VRs.cons_vr (ha0 E hE hI) (VRs.cons_vr (ha1 E hE hI) (VRs.cons_vr (ha2 E hE hI) .nil)))).mono ?_
 rintro e W' ⟨rfl,hb⟩
 exact ⟨_,rfl,post_of_below hW' hb (fun _ _ _ => trodAll_mk1 (shut_bool Try.underlying4 true))
  (qE5 (Below.trod Try.laidOutK (by kernel_rfl) (of_decide_eq_true (by kernel_rfl)) h0 hb (fun x hx => hlt x (by simp [hx]))) (qE5 (Below.trod Try.laidOutK (by kernel_rfl) (of_decide_eq_true (by kernel_rfl)) h1 hb (fun x hx => hlt x (by simp [hx]))) (qE5 (Below.trod Try.laidOutK (by kernel_rfl) (of_decide_eq_true (by kernel_rfl)) h2 hb (fun x hx => hlt x (by simp [hx]))) trodAll_nil_mk))) rfl⟩
theorem treeFrail_holds : Rows.TreeFrailSaid :=
 OpenClaim.holds_of_wide 5 Try.f5 rfl rfl rfl rfl rfl rfl rfl ⟨rfl,rfl,rfl,rfl,rfl⟩ rfl rfl rfl rfl rfl (by kernel_rfl) Try.func5 (by kernel_rfl)
  (of_decide_eq_true (by kernel_rfl)) (by unfold Func.isWrapper; first | (rw [if_pos (by decide +kernel)]; kernel_rfl) | (rw [if_neg (by decide +kernel)]; exact ⟨rfl,rfl⟩))
  (fun os started H enc _ => treeFrail_lifted os started H enc)
end Go.Proofs.Ytfbnhflapgddbaa
#print axioms Go.Proofs.Ytfbnhflapgddbaa.treeFrail_holds
