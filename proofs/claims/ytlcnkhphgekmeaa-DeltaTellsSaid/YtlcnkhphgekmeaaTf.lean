/- What the laws lean on: deltas turned about, joins. -/
import Derived.Test.YtlcnkhphgekmeaaTd
set_option linter.unusedSectionVars false
set_option linter.unusedVariables false
set_option linter.unusedSimpArgs false
namespace Go.Val
open Go.Lib

theorem diff_len {a b : List Pr} {d : List Cg} (h : delta_Diff a b = some d) (ha : a.length ≤ 400000) (hb : b.length ≤ 400000) : d.length ≤ a.length + b.length := by
  obtain ⟨d', h', _, hl⟩ := diff_ex a b ha hb
  rw [h] at h'
  cases h'
  exact hl

theorem clashF_iff {f g h : Fn} {k : List UInt8} : clashF f g h k = true ↔ ¬ f k = g k ∧ ¬ g k = h k := by
  simp [clashF]

theorem clash_asc {d : List Cg} (h : Rising d) (p : List UInt8 → Bool) : Asc ((d.map (·.1)).filter p) := List.Pairwise.sublist List.filter_sublist h

theorem clash_turn {f g h : Fn} {d e : List Cg} (hd : IsDiff f h d) (he : IsDiff f g e) : (d.map (·.1)).filter (clashF f g h) = (e.map (·.1)).filter (clashF f h g) := by
  refine asc_eq (clash_asc hd.rising _) (clash_asc he.rising _) fun k => ?_
  rw [List.mem_filter, List.mem_filter, hd.mem, he.mem, clashF_iff, clashF_iff]
  constructor
  · rintro ⟨h1, h2, h3⟩; exact ⟨h2, h1, fun e => h3 e.symm⟩
  · rintro ⟨h1, h2, h3⟩; exact ⟨h2, h1, fun e => h3 e.symm⟩

theorem clash_none {f h : Fn} (l : List (List UInt8)) : l.filter (clashF f f h) = [] := by
  rw [List.filter_eq_nil_iff]
  intro k _
  simp [clashF]

/-- Without a clash it does not matter who comes first. -/
theorem merge_turn {a b c : List Pr} {d e : List Cg} (hd : IsDiff (fn a) (fn c) d) (he : IsDiff (fn a) (fn b) e) (hn : (d.map (·.1)).filter (clashF (fn a) (fn b) (fn c)) = []) : applyP b d = applyP c e := by
  refine fn_ext (applyP_rising b d) (applyP_rising c e) ?_
  rw [fn_applyP, fn_applyP]
  funext k
  rw [updF_nodup hd.rising.nodup, updF_nodup he.rising.nodup, hd.get, he.get]
  have hk : fn a k ≠ fn c k → clashF (fn a) (fn b) (fn c) k = true → False := by
    intro h1 h2
    have := List.filter_eq_nil_iff.1 hn k (hd.mem.2 h1)
    exact this h2
  rw [clashF_iff] at hk
  have eD : ∀ f g : Fn, (match difC f g k with | some c => eff c | none => g k) = g k := by
    intro f g
    unfold difC
    cases hg : g k with
    | some v => by_cases hf : f k = some v <;> simp [hf, eff]
    | none => cases hf : f k <;> simp [eff]
  by_cases h1 : fn a k = fn c k
  · rw [difC_none.2 h1]
    by_cases h2 : fn a k = fn b k
    · rw [difC_none.2 h2]
      simp only
      rw [← h1, h2]
    · have := eD (fn a) (fn b)
      cases hq : difC (fn a) (fn b) k with
      | none => exact absurd (difC_none.1 hq) h2
      | some q => rw [hq] at this; exact this.symm
  · have h3 := eD (fn a) (fn c)
    cases hq : difC (fn a) (fn c) k with
    | none => exact absurd (difC_none.1 hq) h1
    | some q =>
      rw [hq] at h3
      simp only at h3 ⊢
      rw [h3]
      by_cases h2 : fn a k = fn b k
      · rw [difC_none.2 h2]
      · have h4 : fn b k = fn c k := Classical.byContradiction fun h => hk h1 ⟨h2, h⟩
        have h5 := eD (fn a) (fn b)
        cases hq' : difC (fn a) (fn b) k with
        | none => exact absurd (difC_none.1 hq') h2
        | some q' => rw [hq'] at h5; simp only at h5 ⊢; rw [h5, h4]

theorem joinP_idem (cs : List Cg) : joinP (joinP cs) = joinP cs := by
  refine rising_ext (joinP_rising _) (joinP_rising _) fun k => ?_
  rw [mget_joinP, mget_perm (joinP_rising cs).nodup (List.reverse_perm _), mget_joinP]
  cases mget cs.reverse k with
  | none => rfl
  | some e => simp only [Option.map_some, normE_idem]
theorem joinP_three (x y : List Cg) : joinP (joinP x ++ y) = joinP (x ++ y) := by
  refine rising_ext (joinP_rising _) (joinP_rising _) fun k => ?_
  rw [mget_joinP, mget_joinP, List.reverse_append, List.reverse_append, mget_append, mget_append, mget_perm (joinP_rising x).nodup (List.reverse_perm _), mget_joinP]
  cases mget y.reverse k with
  | some e => rfl
  | none =>
    simp only [Option.none_or]
    cases mget x.reverse k with
    | none => rfl
    | some e => simp only [Option.map_some, normE_idem]

theorem flat1 (x : List Cg) : [x].flatten = x := by simp
theorem flat2 (x y : List Cg) : [x, y].flatten = x ++ y := by simp
theorem join1_eq (x : List Cg) (hx : x.length ≤ 1000) : delta_Join [x] = some (joinP x) := by
  have := join_eq [x] (by simp) (by intro z hz; simp at hz; subst hz; exact hx) (by rw [flat1]; omega)
  rwa [flat1] at this
theorem join2_eq (x y : List Cg) (hx : x.length ≤ 1000) (hy : y.length ≤ 1000) : delta_Join [x, y] = some (joinP (x ++ y)) := by
  have := join_eq [x, y] (by simp) (by intro z hz; simp at hz; rcases hz with rfl | rfl <;> assumption) (by rw [flat2, List.length_append]; omega)
  rwa [flat2] at this

end Go.Val
