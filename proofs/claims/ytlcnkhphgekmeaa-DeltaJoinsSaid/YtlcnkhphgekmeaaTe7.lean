/- DeltaJoins, as a function, is true. -/
import Derived.Test.YtlcnkhphgekmeaaTf
import Derived.Test.YtlcnkhphgekmeaaW7
set_option linter.unusedSectionVars false
set_option linter.unusedVariables false
set_option linter.unusedSimpArgs false
namespace Go.Val
open Go.Lib

theorem deltaJoins_true (a0 : List Pr) (a1 a2 : List Cg) : law09_DeltaJoins a0 a1 a2 = some true := by
  unfold law09_DeltaJoins
  have hca := cutP_len a0
  have hcx := cutC_len a1
  have hcy := cutC_len a2
  generalize hla : cutP a0 = a at hca
  generalize hlx : cutC a1 = x at hcx
  generalize hly : cutC a2 = y at hcy
  have lj := joinP_len (x ++ y)
  have lx := joinP_len x
  have l1 := applyP_len a x
  have l2 := applyP_len (applyP a x) y
  rw [List.length_append] at lj
  have hs : applyP (applyP a x) y = applyP a (joinP (x ++ y)) := fn_ext (applyP_rising _ _) (applyP_rising _ _) (by rw [fn_applyP, fn_applyP, fn_applyP, updF_joinP, updF_append])
  rw [bind_of shown_eq, bind_of ((cut_eq a0).trans (congrArg some hla)), bind_of ((changes_eq a1).trans (congrArg some hlx)), bind_of ((changes_eq a2).trans (congrArg some hly)),
    bind_of (join2_eq x y (by omega) (by omega)), bind_of (apply_eq a x (by omega) (by omega)), bind_of (apply_eq _ y (by omega) (by omega)), bind_of (apply_eq a _ (by omega) (by omega)), bind_of (same_eq _ _ (by omega)),
    bind_of (join1_eq _ (by omega)), bind_of (sameChanges_eq _ _ (by rw [joinP_idem]; omega)), bind_of (join1_eq x (by omega)), bind_of (join2_eq _ y (by omega) (by omega)), bind_of (sameChanges_eq _ _ (by rw [joinP_three]; omega))]
  simp [hs, joinP_idem, joinP_three]

end Go.Val
