/- DeltaMerges, as a function, is true. -/
import Derived.Test.YtlcnkhphgekmeaaTf
import Derived.Test.YtlcnkhphgekmeaaW5
set_option linter.unusedSectionVars false
set_option linter.unusedVariables false
set_option linter.unusedSimpArgs false
namespace Go.Val
open Go.Lib

theorem deltaMerges_true (a0 a1 a2 : List Pr) : law09_DeltaMerges a0 a1 a2 = some true := by
  unfold law09_DeltaMerges
  have hca := cutP_len a0
  have hcb := cutP_len a1
  have hcc := cutP_len a2
  generalize hla : cutP a0 = a at hca
  generalize hlb : cutP a1 = b at hcb
  generalize hlc : cutP a2 = c at hcc
  obtain ⟨d, hd, di, hm1⟩ := merge_ex a b c (by omega) (by omega) (by omega)
  obtain ⟨e, he, ei, hm2⟩ := merge_ex a c b (by omega) (by omega) (by omega)
  obtain ⟨d3, hd3, di3, hm3⟩ := merge_ex b b c (by omega) (by omega) (by omega)
  obtain ⟨d4, hd4, di4, hm4⟩ := merge_ex c b c (by omega) (by omega) (by omega)
  have e4 := di4.nil
  subst e4
  have ld := diff_len hd (by omega) (by omega)
  have le := diff_len he (by omega) (by omega)
  have ld3 := diff_len hd3 (by omega) (by omega)
  have h3 : applyP b d3 = mapP c := fn_ext (applyP_rising b d3) (mapP_rising c) (by rw [fn_applyP, fn_mapP, di3.upd])
  have h4 : applyP b [] = mapP b := fn_ext (applyP_rising b []) (mapP_rising b) (by rw [fn_applyP, fn_mapP, updF_nil])
  have ha1 := applyP_len b d
  have hc := clash_turn di ei
  have hkl : ((d.map (·.1)).filter (clashF (fn a) (fn b) (fn c))).length ≤ d.length := by
    have := List.length_filter_le (clashF (fn a) (fn b) (fn c)) (d.map (·.1))
    rw [List.length_map] at this
    exact this
  have hml := mapP_len c
  have hml' := mapP_len b
  rw [bind_of shown_eq, bind_of ((cut_eq a0).trans (congrArg some hla)), bind_of ((cut_eq a1).trans (congrArg some hlb)), bind_of ((cut_eq a2).trans (congrArg some hlc)),
    bind_of hm1, bind_of hm2, bind_of hd, bind_of (apply_eq b d (by omega) (by omega)), bind_of (same_eq _ _ (by dsimp only; omega)), bind_of (sameKeys_eq _ _ (by dsimp only; omega)), bind_of (same_eq _ _ (by dsimp only; omega)), bind_of hm3, bind_of hm4]
  have o55 : ((delta_Map c).bind fun x58 => (ref09_Same (applyP b d3, (d3.map (·.1)).filter (clashF (fn b) (fn b) (fn c))).1 x58).bind fun x61 =>
    cond x61 (some (decide ((((applyP b d3, (d3.map (·.1)).filter (clashF (fn b) (fn b) (fn c))).2).length : Int) = 0))) (some false)) = some true := by
    rw [bind_of (map_eq c (by omega)), clash_none]
    simp only [h3]
    rw [bind_of (same_eq _ _ (by omega))]
    simp
  have o82 : ((delta_Map b).bind fun x85 => (ref09_Same (applyP b [], (([] : List Cg).map (·.1)).filter (clashF (fn c) (fn b) (fn c))).1 x85).bind fun x88 =>
    cond x88 (some (decide ((((applyP b [], (([] : List Cg).map (·.1)).filter (clashF (fn c) (fn b) (fn c))).2).length : Int) = 0))) (some false)) = some true := by
    rw [bind_of (map_eq b (by omega))]
    simp only [h4]
    rw [bind_of (same_eq _ _ (by omega))]
    simp
  rw [bind_of o55, bind_of o82]
  simp only [hc, decide_true, cond_true]
  generalize hK : (e.map (·.1)).filter (clashF (fn a) (fn c) (fn b)) = K at hc
  by_cases hk : 0 < K.length
  · have h1 : decide ((K.length : Int) > 0) = true := decide_eq_true (by omega)
    simp only [h1, cond_true, Option.bind_some]
  · have h1 : decide ((K.length : Int) > 0) = false := decide_eq_false (by omega)
    have hn : (d.map (·.1)).filter (clashF (fn a) (fn b) (fn c)) = [] := by
      rw [hc]
      exact List.eq_nil_of_length_eq_zero (by omega)
    have ht := merge_turn di ei hn
    simp only [h1, cond_false, ht, decide_true, cond_true, Option.bind_some]

end Go.Val
