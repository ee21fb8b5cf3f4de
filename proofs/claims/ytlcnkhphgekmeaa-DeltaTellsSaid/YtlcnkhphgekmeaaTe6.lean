/- DeltaTells, as a function, is true. -/
import Derived.Test.YtlcnkhphgekmeaaTg
import Derived.Test.YtlcnkhphgekmeaaW6
set_option linter.unusedSectionVars false
set_option linter.unusedVariables false
set_option linter.unusedSimpArgs false
namespace Go.Val
open Go.Lib

theorem refDiff_eq {a b : List Pr} {d : List Cg} (h : IsDiff (fn a) (fn b) d) (ha : a.length ≤ 100000) (hb : b.length ≤ 100000) : ref09_Diff a b = some d := by
  unfold ref09_Diff
  have hla := mapP_len a
  have hlb := mapP_len b
  rw [bind_of (refMap_eq a (by omega)), bind_of (refMap_eq b (by omega))]
  have hra := mapP_rising a
  have hrb := mapP_rising b
  have hfa : mget (mapP a) = fn a := mget_mapP a
  have hfb : mget (mapP b) = fn b := mget_mapP b
  have opt : ∀ o : Option ByteArray, o = none ∨ ∃ y, o = some y := fun o => by cases o <;> simp
  let P1 : Pr → Bool := fun x => decide (fn b x.1 ≠ some x.2)
  let G1 : Pr → Cg := fun x => match fn b x.1 with | none => (x.1, mt, true) | some v => (x.1, v, false)
  let P2 : Pr → Bool := fun x => (fn a x.1).isNone
  let G2 : Pr → Cg := fun x => (x.1, x.2, false)
  have hG1 : ∀ x, (G1 x).1 = x.1 := fun x => by
    simp only [G1]
    rcases opt (fn b x.1) with h | ⟨y, h⟩ <;> rw [h]
  obtain ⟨r1, n1, g1⟩ := foldl_ins_if hra.nodup P1 G1 hG1 [] .nil
  obtain ⟨r2, n2, g2⟩ := foldl_ins_if hrb.nodup P2 G2 (fun _ => rfl) _ r1
  simp only [List.length_nil, Nat.zero_add] at n1
  refine (bind_of (whileO_for (mapP a) (fun i (s : List Cg) => (s, (i : Int))) (fun s x => if P1 x = true then ins s (G1 x) else s) (fun i s => s.length ≤ i) id [] (Nat.le_refl _) (fun i hi s hs => ⟨?_, ?_⟩) (fun s _ => ?_))).trans ?_
  · simp only [ilt hi, cond_true, gx_nat hi, Option.bind_some]
    generalize (mapP a)[i] = x
    rw [bind_of (get_eq hrb x.1 (by omega)), hfb]
    have hw : ∀ c : Cg, ref09_with s c = some (ins s (normC c)) := fun c => with_eq s c (by omega)
    rcases opt (fn b x.1) with h | ⟨y, h⟩
    · simp [h, hw, P1, G1, normC, wrap_succ (show i < 9223372036854775807 by omega)]
    · by_cases hy : y = x.2
      · simp [h, hy, P1, wrap_succ (show i < 9223372036854775807 by omega)]
      · simp [h, hy, hw, P1, G1, normC, wrap_succ (show i < 9223372036854775807 by omega)]
  · have := ins_len s (G1 (mapP a)[i])
    show (if P1 (mapP a)[i] = true then ins s (G1 (mapP a)[i]) else s).length ≤ i + 1
    split <;> omega
  · simp only [ige, cond_false, id]
  · refine bind_id ((whileO_for (mapP b) (fun i (s : List Cg) => (s, (i : Int))) (fun s x => if P2 x = true then ins s (G2 x) else s) (fun i s => s.length ≤ 100000 + i) id _ (Nat.le_trans n1 (by omega)) (fun i hi s hs => ⟨?_, ?_⟩) (fun s _ => ?_)).trans ?_)
    · simp only [ilt hi, cond_true, gx_nat hi, Option.bind_some]
      generalize (mapP b)[i] = x
      rw [bind_of (get_eq hra x.1 (by omega)), hfa]
      have hw : ∀ c : Cg, ref09_with s c = some (ins s (normC c)) := fun c => with_eq s c (by omega)
      rcases opt (fn a x.1) with h | ⟨y, h⟩
      · simp [h, hw, P2, G2, normC, wrap_succ (show i < 9223372036854775807 by omega)]
      · simp [h, P2, wrap_succ (show i < 9223372036854775807 by omega)]
    · have := ins_len s (G2 (mapP b)[i])
      show (if P2 (mapP b)[i] = true then ins s (G2 (mapP b)[i]) else s).length ≤ 100000 + (i + 1)
      split <;> omega
    · simp only [ige, cond_false, id]
    · simp only [id]
      refine congrArg some (rising_ext r2 h.rising fun k => ?_)
      rw [g2, g1, h.get, hfa, hfb, mget_nil]
      simp only [difC, P1, G1, P2, G2]
      rcases opt (fn b k) with hb' | ⟨v, hb'⟩ <;> rcases opt (fn a k) with ha' | ⟨y, ha'⟩
      · simp [hb', ha']
      · simp [hb', ha']
      · simp [hb', ha']
      · by_cases hy : y = v
        · simp [hb', ha', hy]
        · simp [hb', ha', hy, Ne.symm hy]

theorem refJoin2_eq (x y : List Cg) (hx : x.length ≤ 1000) (hy : y.length ≤ 1000) : ref09_Join [x, y] = some (joinP (x ++ y)) := by
  unfold ref09_Join
  have hlen : ∀ i (hi : i < [x, y].length), [x, y][i].length ≤ 1000 := by
    intro i hi
    match i, hi with
    | 0, _ => exact hx
    | 1, _ => exact hy
  have hfl := fun (l : List Cg) (m : List Cg) (h : Rising m) => foldl_ins normC l m h
  refine bind_id ((whileO_for [x, y] (fun i (s : List Cg) => (s, (i : Int))) (fun s l => l.foldl (fun s c => ins s (normC c)) s) (fun i s => Rising s ∧ s.length ≤ i * 1000) id [] ⟨.nil, by simp⟩ (fun i hi s hs => ⟨?_, ?_⟩) (fun s _ => ?_)).trans ?_)
  · simp only [ilt hi, cond_true]
    have hl := hlen i hi
    have hi2 : i < 2 := hi
    have hin := whileO_for (body := fun v550 : List Cg × Int =>
            (gx [x, y] (i : Int)).bind fun x554 =>
            cond (decide (v550.2 < (x554.length : Int))) (
              (gx x554 v550.2).bind fun x560 =>
              (ref09_with v550.1 x560).bind fun x563 =>
              some (.inl (x563, (IntKind.wrap .i64 (v550.2 + 1))))
            ) (
              some (.inr v550.1)
            )) [x, y][i] (fun j s => (s, (j : Int))) (fun s c => ins s (normC c)) (fun j s => s.length ≤ i * 1000 + j) id s (Nat.le_trans hs.2 (Nat.le_add_right _ _)) (fun j hj s' hs' => ⟨?_, ?_⟩) (fun s' _ => ?_)
    · refine (bind_of hin).trans ?_
      rw [wrap_succ (show i < 9223372036854775807 by omega)]
      rfl
    · simp only [gx_nat hi, Option.bind_some, ilt hj, cond_true, gx_nat hj]
      rw [bind_of (with_eq s' _ (by omega)), wrap_succ (show j < 9223372036854775807 by omega)]
    · have := ins_len s' (normC [x, y][i][j])
      show (ins s' (normC [x, y][i][j])).length ≤ i * 1000 + (j + 1)
      omega
    · simp only [gx_nat hi, Option.bind_some, ige, cond_false, id]
  · have hl := hlen i hi
    obtain ⟨h1, h2, _⟩ := hfl [x, y][i] s hs.1
    exact ⟨h1, Nat.le_trans h2 (by have := hs.2; omega)⟩
  · have h2 : decide (((([x, y] : List (List Cg)).length : Nat) : Int) < ((([x, y] : List (List Cg)).length : Nat) : Int)) = false := ige
    simp only [h2, cond_false, id]
  · simp only [id, List.foldl_cons, List.foldl_nil]
    obtain ⟨h1, h2, h3⟩ := hfl x [] .nil
    obtain ⟨k1, k2, k3⟩ := hfl y _ h1
    refine congrArg some (rising_ext k1 (joinP_rising _) fun k => ?_)
    rw [k3, h3, mget_joinP, mget_nil, Option.or_none, List.reverse_append, mget_append]
    have hm : ∀ l : List Cg, mget (l.map normC).reverse k = (mget l.reverse k).map normE := by
      intro l
      have e : l.map normC = l.map fun p => (p.1, (fun c : Cg => (normC c).2) p) := by
        refine List.map_congr_left fun c _ => ?_
        exact Prod.ext (normC_key c) rfl
      rw [← List.map_reverse]
      have e' : l.reverse.map normC = l.reverse.map fun p => (p.1, (fun c : Cg => (normC c).2) p) := by
        refine List.map_congr_left fun c _ => ?_
        exact Prod.ext (normC_key c) rfl
      rw [e', mget_map_key]
      cases mget l.reverse k with
      | none => rfl
      | some v => simp only [Option.map_some, normC_val]
    rw [hm, hm]
    cases mget y.reverse k <;> rfl

theorem refAlike_eq {a b : List Pr} (ha : Rising a) (hb : Rising b) (k : List UInt8) (la : a.length ≤ 1000000) (lb : b.length ≤ 1000000) : ref09_alike a b k = some (decide (mget a k = mget b k)) := by
  unfold ref09_alike
  rw [bind_of (get_eq ha k la), bind_of (get_eq hb k lb)]
  have opt : ∀ o : Option ByteArray, o = none ∨ ∃ y, o = some y := fun o => by cases o <;> simp
  rcases opt (mget a k) with h | ⟨x, h⟩ <;> rcases opt (mget b k) with h' | ⟨y, h'⟩ <;> simp [h, h']

theorem refMerge_eq {a b c : List Pr} {d : List Cg} (h : IsDiff (fn a) (fn c) d) (ha : a.length ≤ 1000) (hb : b.length ≤ 1000) (hc : c.length ≤ 1000) (hl : d.length ≤ 2000) :
    ref09_Merge a b c = some (applyP b d, (d.map (·.1)).filter (clashF (fn a) (fn b) (fn c))) := by
  unfold ref09_Merge
  have hla := mapP_len a
  have hlb := mapP_len b
  have hlc := mapP_len c
  have h' : IsDiff (fn (mapP a)) (fn (mapP c)) d := by rw [fn_mapP, fn_mapP]; exact h
  rw [bind_of (refMap_eq a (by omega)), bind_of (refMap_eq b (by omega)), bind_of (refMap_eq c (by omega)), bind_of (refDiff_eq h' (by omega) (by omega))]
  have hab := fun k => refAlike_eq (mapP_rising a) (mapP_rising b) k (by omega) (by omega)
  have hbc := fun k => refAlike_eq (mapP_rising b) (mapP_rising c) k (by omega) (by omega)
  rw [mget_mapP, mget_mapP] at hab hbc
  refine (bind_of (whileO_for d (fun i (s : List Pr × List (List UInt8)) => (s.1, (i : Int), s.2)) (fun s x => (applyP s.1 [x], if clashF (fn a) (fn b) (fn c) x.1 = true then s.2 ++ [x.1] else s.2))
    (fun i s => s.1.length ≤ 1000 + i ∧ s.2.length ≤ i) (fun s => s) (mapP b, []) ⟨by simp only; omega, Nat.le_refl _⟩ (fun i hi s hs => ⟨?_, ?_⟩) (fun s _ => ?_))).trans ?_
  · have hw := wrap_succ (show i < 9223372036854775807 by omega)
    have hpc : piece d (i : Int) ((i + 1 : Nat) : Int) = [d[i]] := by
      simp only [piece, Int.toNat_natCast]
      rw [List.take_succ_eq_append_getElem hi, List.drop_append_of_le_length (by simp; omega)]
      simp
    have hcut : cutB (i : Int) ((i + 1 : Nat) : Int) d.length = some () := cutB_of (by omega)
    simp only [ilt hi, cond_true, gx_nat hi, Option.bind_some, hw, hcut, hpc]
    have hap := refApply_eq s.1 [d[i]] (by omega) (by simp)
    have hf : fits (s.2.length + [d[i].1].length) 24 = some () := fits_of (by simp only [List.length_cons, List.length_nil]; omega)
    simp only [hap, hab, hbc, Option.bind_some, hf]
    by_cases h1 : fn a d[i].1 = fn b d[i].1
    · simp [h1, clashF]
    · by_cases h2 : fn b d[i].1 = fn c d[i].1
      · simp [h1, h2, clashF]
      · simp [h1, h2, clashF]
  · have h1 := applyP_len s.1 [d[i]]
    simp only [List.length_cons, List.length_nil] at h1
    refine ⟨by simp only; omega, ?_⟩
    show (if clashF (fn a) (fn b) (fn c) d[i].1 = true then s.2 ++ [d[i].1] else s.2).length ≤ i + 1
    split
    · simp; omega
    · omega
  · simp only [ige, cond_false]
  · have hp := foldl_pair (fun s (x : Cg) => applyP s [x]) (fun (s : List (List UInt8)) (x : Cg) => if clashF (fn a) (fn b) (fn c) x.1 = true then s ++ [x.1] else s) d (mapP b) []
    rw [hp]
    have happ : d.foldl (fun s x => applyP s [x]) (mapP b) = applyP b d := by
      have key : ∀ (cs : List Cg) (m : List Pr), Rising m → Rising (cs.foldl (fun s x => applyP s [x]) m) ∧ fn (cs.foldl (fun s x => applyP s [x]) m) = updF (fn m) cs := by
        intro cs
        induction cs with
        | nil => exact fun m h => ⟨h, rfl⟩
        | cons x cs ih =>
          intro m h
          obtain ⟨k1, k2⟩ := ih _ (applyP_rising m [x])
          refine ⟨k1, ?_⟩
          rw [List.foldl_cons, k2, fn_applyP, ← updF_append]
          rfl
      obtain ⟨k1, k2⟩ := key d _ (mapP_rising b)
      exact fn_ext k1 (applyP_rising b d) (by rw [k2, fn_mapP, fn_applyP])
    rw [happ, foldl_filter (fun x : Cg => clashF (fn a) (fn b) (fn c) x.1) (fun x => x.1)]
    simp only [List.nil_append, List.filter_map]
    rfl

theorem deltaTells_true (a0 a1 a2 : List Pr) (a3 a4 : List Cg) : law09_DeltaTells a0 a1 a2 a3 a4 = some true := by
  unfold law09_DeltaTells
  have hca := cutP_len a0
  have hcb := cutP_len a1
  have hcc := cutP_len a2
  have hcx := cutC_len a3
  have hcy := cutC_len a4
  generalize hla : cutP a0 = a at hca
  generalize hlb : cutP a1 = b at hcb
  generalize hlc : cutP a2 = c at hcc
  generalize hlx : cutC a3 = x at hcx
  generalize hly : cutC a4 = y at hcy
  obtain ⟨d, hd, di, ld⟩ := diff_ex a b (by omega) (by omega)
  obtain ⟨e, he, ei, hm⟩ := merge_ex a b c (by omega) (by omega) (by omega)
  have le := diff_len he (by omega) (by omega)
  have lj := joinP_len (x ++ y)
  rw [List.length_append] at lj
  have lm := mapP_len a
  have lp := applyP_len a x
  have lq := applyP_len b e
  have lk : ((e.map (·.1)).filter (clashF (fn a) (fn b) (fn c))).length ≤ e.length := by
    have := List.length_filter_le (clashF (fn a) (fn b) (fn c)) (e.map (·.1))
    rw [List.length_map] at this
    exact this
  rw [bind_of shown_eq, bind_of ((cut_eq a0).trans (congrArg some hla)), bind_of ((cut_eq a1).trans (congrArg some hlb)), bind_of ((cut_eq a2).trans (congrArg some hlc)), bind_of ((changes_eq a3).trans (congrArg some hlx)), bind_of ((changes_eq a4).trans (congrArg some hly)),
    bind_of (map_eq a (by omega)), bind_of (refMap_eq a (by omega)), bind_of (same_eq _ _ (by omega)), bind_of (apply_eq a x (by omega) (by omega)), bind_of (refApply_eq a x (by omega) (by omega)), bind_of (same_eq _ _ (by omega)),
    bind_of hd, bind_of (refDiff_eq di (by omega) (by omega)), bind_of (sameChanges_eq _ _ (by omega)), bind_of (join2_eq x y (by omega) (by omega)), bind_of (refJoin2_eq x y (by omega) (by omega)), bind_of (sameChanges_eq _ _ (by omega)),
    bind_of hm, bind_of (refMerge_eq ei (by omega) (by omega) (by omega) (by omega))]
  simp only
  have s1 : ∀ l : List Pr, l.length ≤ 1000000 → ref09_Same l l = some true := fun l h => by rw [same_eq l l h]; simp
  have s2 : ∀ l : List Cg, l.length ≤ 1000000 → ref09_SameChanges l l = some true := fun l h => by rw [sameChanges_eq l l h]; simp
  have s3 : ∀ l : List (List UInt8), l.length ≤ 1000000 → ref09_SameKeys l l = some true := fun l h => by rw [sameKeys_eq l l h]; simp
  rw [s1 (applyP b e) (by omega), s3 _ (by omega), s1 a (by omega), s1 b (by omega), s1 c (by omega), s2 x (by omega), s2 y (by omega)]
  simp

end Go.Val
