/- DeltaTurns, as a function, is true. -/
import Derived.Test.YtlcnkhphgekmeaaTf
import Derived.Test.YtlcnkhphgekmeaaW9
set_option linter.unusedSectionVars false
set_option linter.unusedVariables false
set_option linter.unusedSimpArgs false
namespace Go.Val
open Go.Lib

theorem keys_turn {f g : Fn} {d e : List Cg} (hd : IsDiff f g d) (he : IsDiff g f e) : d.map (·.1) = e.map (·.1) :=
  asc_eq hd.rising he.rising fun k => by rw [hd.mem, he.mem]; exact ⟨fun h e => h e.symm, fun h e => h e.symm⟩

theorem deltaTurns_true (a0 a1 a2 : List Pr) : law09_DeltaTurns a0 a1 a2 = some true := by
  unfold law09_DeltaTurns
  have hca := cutP_len a0
  have hcb := cutP_len a1
  have hcc := cutP_len a2
  generalize hla : cutP a0 = a at hca
  generalize hlb : cutP a1 = b at hcb
  generalize hlc : cutP a2 = c at hcc
  obtain ⟨d, hd, di, ld⟩ := diff_ex a b (by omega) (by omega)
  obtain ⟨e, he, ei, le⟩ := diff_ex b a (by omega) (by omega)
  obtain ⟨g, hg, gi, lg⟩ := diff_ex b c (by omega) (by omega)
  have hk := keys_turn di ei
  have hlen : d.length = e.length := by have := congrArg List.length hk; simpa using this
  have h1 : applyP (applyP a d) e = mapP a := fn_ext (applyP_rising _ _) (mapP_rising a) (by rw [fn_applyP, fn_applyP, fn_mapP, di.upd, ei.upd])
  have h2 : applyP a (joinP (d ++ g)) = mapP c := fn_ext (applyP_rising _ _) (mapP_rising c) (by rw [fn_applyP, fn_mapP, updF_joinP, updF_append, di.upd, gi.upd])
  have l1 := applyP_len a d
  have l2 := applyP_len (applyP a d) e
  have lj := joinP_len (d ++ g)
  rw [List.length_append] at lj
  have l3 := applyP_len a (joinP (d ++ g))
  rw [bind_of shown_eq, bind_of ((cut_eq a0).trans (congrArg some hla)), bind_of ((cut_eq a1).trans (congrArg some hlb)), bind_of ((cut_eq a2).trans (congrArg some hlc)), bind_of hd, bind_of he,
    bind_of (apply_eq a d (by omega) (by omega)), bind_of (apply_eq _ e (by omega) (by omega)), bind_of (map_eq a (by omega)), bind_of (same_eq _ _ (by omega))]
  rw [show decide ((d.length : Int) ≠ (e.length : Int)) = false from by simp [hlen], cond_false]
  refine (bind_of (all_true (n := d.length) (o := (.inl () : Unit ⊕ Bool)) 0 (by omega) (fun i _ hi => ?_) ?_)).trans ?_
  · have hi' : i < e.length := by omega
    have hke : d[i].1 = e[i].1 := by
      have := congrArg (fun x => x[i]?) hk
      simpa [hi, hi'] using this
    simp only [ilt hi, cond_true, gx_nat hi, gx_nat hi', Option.bind_some, wrap_succ (show i < 9223372036854775807 by omega), hke, decide_true, Bool.not_true, cond_false]
  · simp only [ige, cond_false]
  · simp only [Sum.elim_inl]
    rw [bind_of hg, bind_of (join2_eq d g (by omega) (by omega))]
    simp only [h1, decide_true, cond_true]
    rw [bind_of (apply_eq a _ (by omega) (by omega)), bind_of (map_eq c (by omega)), bind_of (same_eq _ _ (by omega))]
    simp [h2]

end Go.Val
