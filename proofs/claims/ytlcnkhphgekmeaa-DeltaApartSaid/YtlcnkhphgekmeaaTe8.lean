/- DeltaApart, as a function, is true. -/
import Derived.Test.YtlcnkhphgekmeaaTf
import Derived.Test.YtlcnkhphgekmeaaW8
set_option linter.unusedSectionVars false
set_option linter.unusedVariables false
set_option linter.unusedSimpArgs false
namespace Go.Val
open Go.Lib

theorem foldl_all (x : List Cg) (k : List UInt8) : ∀ b : Bool, x.foldl (fun b p => cond b (!decide (p.1 = k)) false) b = (b && x.all fun p => !decide (p.1 = k)) := by
  induction x with
  | nil => intro b; simp
  | cons p x ih => intro b; rw [List.foldl_cons, ih]; cases b <;> simp

def apartP (x y : List Cg) : List Cg := y.filter fun c => x.all fun p => !decide (p.1 = c.1)

theorem apart_mem {x y : List Cg} {k : List UInt8} (h : k ∈ (apartP x y).map (·.1)) : k ∉ x.map (·.1) := by
  obtain ⟨c, hc, rfl⟩ := List.mem_map.1 h
  have := (List.mem_filter.1 hc).2
  intro hk
  obtain ⟨p, hp, e⟩ := List.mem_map.1 hk
  have h2 := List.all_eq_true.1 this p hp
  simp [e] at h2

theorem mget_rev_none {l : List Cg} {k : List UInt8} : mget l.reverse k = none ↔ k ∉ l.map (·.1) := by
  rw [mget_none, List.map_reverse, List.mem_reverse]

theorem deltaApart_true (a0 : List Pr) (a1 a2 : List Cg) : law09_DeltaApart a0 a1 a2 = some true := by
  unfold law09_DeltaApart
  have hca := cutP_len a0
  have hcx := cutC_len a1
  have hcy := cutC_len a2
  generalize hla : cutP a0 = a at hca
  generalize hlx : cutC a1 = x at hcx
  generalize hly : cutC a2 = y at hcy
  rw [bind_of shown_eq, bind_of ((cut_eq a0).trans (congrArg some hla)), bind_of ((changes_eq a1).trans (congrArg some hlx)), bind_of ((changes_eq a2).trans (congrArg some hly))]
  have hap : (apartP x y).length ≤ y.length := List.length_filter_le _ _
  refine (bind_of (whileO_for y (fun i (s : List Cg) => ((i : Int), s)) (fun s c => if (x.all fun p => !decide (p.1 = c.1)) = true then s ++ [c] else s) (fun i s => s.length ≤ i) id [] (Nat.le_refl _) (fun i hi s hs => ⟨?_, ?_⟩) (fun s _ => ?_))).trans ?_
  · simp only [ilt hi, cond_true]
    have hin := whileO_for (body := fun v1821 : Bool × Int =>
              cond (decide (v1821.2 < (x.length : Int))) (
                (((
                  cond v1821.1 (
                    (gx x v1821.2).bind fun x1843 =>
                    (gx y (i : Int)).bind fun x1846 =>
                    some (!(decide (x1843.1 = x1846.1)))
                  ) (
                    some false
                  )
                ) : Option Bool)).bind fun o1837 =>
                some (.inl (o1837, (IntKind.wrap .i64 (v1821.2 + 1))))
              ) (
                some (.inr v1821.1)
              )) x (fun j b => (b, (j : Int))) (fun b p => cond b (!decide (p.1 = y[i].1)) false) (fun _ _ => True) id true trivial (fun j hj b _ => ⟨?_, trivial⟩) (fun b _ => ?_)
    · rw [foldl_all, Bool.true_and] at hin
      refine Eq.trans (bind_of (a := if (x.all fun p => !decide (p.1 = y[i].1)) = true then s ++ [y[i]] else s) ((bind_of hin).trans ?_)) ?_
      · simp only [id]
        by_cases hq : (x.all fun p => !decide (p.1 = y[i].1)) = true
        · simp only [hq, cond_true, gx_nat hi, Option.bind_some, if_true]
          rw [bind_of (fits_of (by simp only [List.length_cons, List.length_nil]; omega))]
        · have hq' : (x.all fun p => !decide (p.1 = y[i].1)) = false := Bool.eq_false_iff.2 hq
          simp only [hq', cond_false, Bool.false_eq_true, if_false]
      · simp only [wrap_succ (show i < 9223372036854775807 by omega)]
    · simp only [ilt hj, cond_true, gx_nat hj, gx_nat hi, Option.bind_some, wrap_succ (show j < 9223372036854775807 by omega)]
      cases b <;> rfl
    · simp only [ige, cond_false, id]
  · split
    · simp; omega
    · omega
  · simp only [ige, cond_false, id]
  · have e : y.foldl (fun s c => if (x.all fun p => !decide (p.1 = c.1)) = true then s ++ [c] else s) [] = apartP x y := by
      have := foldl_filter (fun c : Cg => x.all fun p => !decide (p.1 = c.1)) (fun c => c) y []
      rw [this]
      simp [apartP]
    simp only [id]
    rw [e]
    generalize hz : apartP x y = z at hap
    have l1 := applyP_len a x
    have l2 := applyP_len a z
    obtain ⟨d, hd, di, hm⟩ := merge_ex a (applyP a x) (applyP a z) (by omega) (by omega) (by omega)
    have ld := diff_len hd (by omega) (by omega)
    have lj := joinP_len (x ++ z)
    rw [List.length_append] at lj
    have l3 := applyP_len (applyP a x) d
    rw [fn_applyP] at di
    have hkz : ∀ k, fn a k ≠ updF (fn a) z k → k ∈ z.map (·.1) := by
      intro k hk
      refine Classical.byContradiction fun hn => hk ?_
      unfold updF
      rw [mget_rev_none.2 hn]
    have hxk : ∀ k, k ∈ z.map (·.1) → updF (fn a) x k = fn a k := by
      intro k hk
      have := apart_mem (x := x) (y := y) (by rw [hz]; exact hk)
      unfold updF
      rw [mget_rev_none.2 this]
    have hall : applyP (applyP a x) d = applyP a (joinP (x ++ z)) := by
      refine fn_ext (applyP_rising _ _) (applyP_rising _ _) ?_
      rw [fn_applyP, fn_applyP, fn_applyP, updF_joinP, updF_append]
      funext k
      by_cases hk : k ∈ z.map (·.1)
      · have e1 : updF (updF (fn a) x) d k = updF (fn a) d k := by
          rw [updF_nodup di.rising.nodup, updF_nodup di.rising.nodup, hxk k hk]
        rw [e1, di.upd]
        unfold updF
        cases hg : mget z.reverse k with
        | some c => rfl
        | none => exact absurd hk (mget_rev_none.1 hg)
      · have e2 : updF (fn a) z k = fn a k := by unfold updF; rw [mget_rev_none.2 hk]
        have e3 : updF (updF (fn a) x) z k = updF (fn a) x k := by
          conv => lhs; unfold updF
          rw [mget_rev_none.2 hk]
          rfl
        rw [e3, updF_nodup di.rising.nodup, di.get, difC_none.2 e2.symm]
    have hnone : (d.map (·.1)).filter (clashF (fn a) (fn (applyP a x)) (fn (applyP a z))) = [] := by
      rw [List.filter_eq_nil_iff]
      intro k hk hc
      rw [clashF_iff, fn_applyP, fn_applyP] at hc
      have h1 := di.mem.1 hk
      exact hc.1 (hxk k (hkz k h1)).symm
    rw [bind_of (apply_eq a x (by omega) (by omega)), bind_of (apply_eq a z (by omega) (by omega)), bind_of hm, bind_of (join2_eq x z (by omega) (by omega)), bind_of (apply_eq a _ (by omega) (by omega)), bind_of (same_eq _ _ (by dsimp only; omega)), hnone]
    simp [hall]

end Go.Val
