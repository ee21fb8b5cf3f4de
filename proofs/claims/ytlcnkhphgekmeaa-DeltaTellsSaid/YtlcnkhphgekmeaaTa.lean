/- What the twins are: maps, deltas. -/
import Derived.Test.YtlcnkhphgekmeaaQb
import Derived.Test.YtlcnkhphgekmeaaWc
set_option linter.unusedSectionVars false
set_option linter.unusedVariables false
set_option linter.unusedSimpArgs false
namespace Go.Val
open Go.Lib

theorem ilt {i n : Nat} (h : i < n) : decide ((i : Int) < (n : Int)) = true := by simp; exact h
theorem ige {n : Nat} : decide ((n : Int) < (n : Int)) = false := by simp
theorem foldl_snoc {α β : Type} (g : α → β) (xs : List α) : ∀ s : List β, xs.foldl (fun s x => s ++ [g x]) s = s ++ xs.map g := by
  induction xs with
  | nil => intro s; simp
  | cons x xs ih => intro s; rw [List.foldl_cons, ih]; simp
theorem bind_id {α : Type} {x : Option α} {a : α} (h : x = some a) : x.bind (fun o => some o) = some a := by rw [h]; rfl

theorem values_eq (l : List Pr) (hl : l.length ≤ 1000000) : delta_values l = some (valuesP l) := by
  unfold delta_values
  refine bind_id (whileO_for l (fun i s => ((i : Int), s)) (fun m p => mset m p.1 p.2) (fun _ _ => True) id [] trivial (fun i hi s _ => ⟨?_, trivial⟩) (fun s _ => ?_))
  · simp only [ilt hi, cond_true, gx_nat hi, Option.bind_some, wrap_succ (show i < 9223372036854775807 by omega)]
  · simp only [ige, cond_false, id]

theorem pairs_eq (m : List Pr) (hl : m.length ≤ 1000000) : delta_pairs m = some (canon mt m, m) := by
  unfold delta_pairs
  have hk : (sortKeys (m.map fun p => p.1)).length = m.length := by rw [sortKeys_len, List.length_map]
  have h := whileO_for (body := fun v63 : Int × List Pr =>
      cond (decide (v63.1 < ((sortKeys (m.map fun p => p.1)).length : Int))) (
        (gx (sortKeys (m.map fun p => p.1)) v63.1).bind fun x70 =>
        (fits (v63.2.length + ([(x70, ((mget m x70).getD (ByteArray.mk #[])))]).length) 40).bind fun _ =>
        some (.inl ((IntKind.wrap .i64 (v63.1 + 1)), (v63.2 ++ [(x70, ((mget m x70).getD (ByteArray.mk #[])))])))
      ) (
        some (.inr v63.2)
      )) (sortKeys (m.map fun p => p.1)) (fun i s => ((i : Int), s)) (fun s k => s ++ [(k, (mget m k).getD mt)]) (fun i s => s.length = i) id [] rfl (fun i hi s hs => ⟨?_, ?_⟩) (fun s _ => ?_)
  · rw [bind_of (fits_of (by omega))]
    refine (bind_of h).trans ?_
    rw [foldl_snoc]
    rfl
  · simp only [ilt hi, cond_true, gx_nat hi, Option.bind_some]
    rw [bind_of (fits_of (by simp only [hs, List.length_cons, List.length_nil]; omega)), wrap_succ (show i < 9223372036854775807 by omega)]
    rfl
  · simp [hs]
  · simp only [ige, cond_false, id]

theorem rising_eq (m : List (List UInt8 × Cg)) (hl : m.length ≤ 1000000) : delta_rising m = some ((sortKeys (m.map (·.1))).map (fun k => (mget m k).getD ((List.replicate 24 0), mt, false)), m) := by
  unfold delta_rising
  have hk : (sortKeys (m.map fun p => p.1)).length = m.length := by rw [sortKeys_len, List.length_map]
  have h := whileO_for (body := fun v63 : Int × List Cg =>
      cond (decide (v63.1 < ((sortKeys (m.map fun p => p.1)).length : Int))) (
        (gx (sortKeys (m.map fun p => p.1)) v63.1).bind fun x70 =>
        (fits (v63.2.length + ([((mget m x70).getD ((List.replicate 24 0), (ByteArray.mk #[]), false))]).length) 48).bind fun _ =>
        some (.inl ((IntKind.wrap .i64 (v63.1 + 1)), (v63.2 ++ [((mget m x70).getD ((List.replicate 24 0), (ByteArray.mk #[]), false))])))
      ) (
        some (.inr v63.2)
      )) (sortKeys (m.map fun p => p.1)) (fun i s => ((i : Int), s)) (fun s k => s ++ [(mget m k).getD ((List.replicate 24 0), mt, false)]) (fun i s => s.length = i) id [] rfl (fun i hi s hs => ⟨?_, ?_⟩) (fun s _ => ?_)
  · rw [bind_of (fits_of (by omega))]
    refine (bind_of h).trans ?_
    rw [foldl_snoc]
    rfl
  · simp only [ilt hi, cond_true, gx_nat hi, Option.bind_some]
    rw [bind_of (fits_of (by simp only [hs, List.length_cons, List.length_nil]; omega)), wrap_succ (show i < 9223372036854775807 by omega)]
    rfl
  · simp [hs]
  · simp only [ige, cond_false, id]

theorem map_eq (l : List Pr) (hl : l.length ≤ 1000000) : delta_Map l = some (mapP l) := by
  unfold delta_Map
  have := valuesP_len l
  rw [bind_of (values_eq l hl), bind_of (pairs_eq _ (by omega))]
  rfl

theorem does_eq (m : List Pr) (c : Cg) : delta_does m c = some (doesP m c) := by
  unfold delta_does doesP
  obtain ⟨a, b, g⟩ := c
  cases g <;> rfl

theorem apply_eq (l : List Pr) (cs : List Cg) (hl : l.length ≤ 500000) (hc : cs.length ≤ 500000) : delta_Apply l cs = some (applyP l cs) := by
  unfold delta_Apply
  rw [bind_of (values_eq l (by omega))]
  have h := whileO_for (body := fun v60 : Int × List Pr =>
      cond (decide (v60.1 < (cs.length : Int))) (
        (gx cs v60.1).bind fun x67 =>
        (delta_does v60.2 x67).bind fun x70 =>
        some (.inl ((IntKind.wrap .i64 (v60.1 + 1)), x70))
      ) (
        some (.inr v60.2)
      )) cs (fun i s => ((i : Int), s)) doesP (fun _ _ => True) id (valuesP l) trivial (fun i hi s _ => ⟨?_, trivial⟩) (fun s _ => ?_)
  · refine (bind_of h).trans ?_
    have h1 := (foldl_doesP cs _ (valuesP_nodup l)).2.1
    have h2 := valuesP_len l
    rw [bind_of (pairs_eq _ (by simp only [id]; omega))]
    rfl
  · simp only [ilt hi, cond_true, gx_nat hi, Option.bind_some, does_eq, wrap_succ (show i < 9223372036854775807 by omega)]
  · simp only [ige, cond_false, id]

/-- A map of changes, each at its own key. -/
def OwnKey (m : List (List UInt8 × Cg)) : Prop := ∀ p ∈ m, p.2.1 = p.1
theorem own_get {m : List (List UInt8 × Cg)} (h : OwnKey m) {k : List UInt8} {c : Cg} (hg : mget m k = some c) : c.1 = k := h _ (mget_some_mem hg)
def riseP (m : List (List UInt8 × Cg)) : List Cg := (sortKeys (m.map (·.1))).map (fun k => (mget m k).getD ((List.replicate 24 0), mt, false))
theorem riseP_keys {m : List (List UInt8 × Cg)} (h : OwnKey m) : (riseP m).map (·.1) = sortKeys (m.map (·.1)) := by
  unfold riseP
  rw [List.map_map]
  refine (List.map_congr_left (g := id) fun k hk => ?_).trans (List.map_id _)
  have hk' : k ∈ m.map (·.1) := (sortKeys_perm _).mem_iff.1 hk
  obtain ⟨c, hc⟩ := Option.isSome_iff_exists.1 (mget_isSome.2 hk')
  simp only [Function.comp, hc, Option.getD_some, id]
  exact own_get h hc
theorem riseP_rising {m : List (List UInt8 × Cg)} (h : OwnKey m) (hn : (m.map (·.1)).Nodup) : Rising (riseP m) := by
  unfold Rising
  rw [riseP_keys h]
  exact sortKeys_asc hn
theorem riseP_len (m : List (List UInt8 × Cg)) : (riseP m).length = m.length := by
  unfold riseP
  rw [List.length_map, sortKeys_len, List.length_map]
theorem mget_riseP {m : List (List UInt8 × Cg)} (h : OwnKey m) (hn : (m.map (·.1)).Nodup) (k : List UInt8) : mget (riseP m) k = (mget m k).map (·.2) := by
  have hm : k ∈ sortKeys (m.map (·.1)) ↔ k ∈ m.map (·.1) := (sortKeys_perm _).mem_iff
  cases hg : mget m k with
  | none =>
    have h1 := mget_none.1 hg
    have : mget (riseP m) k = none := by rw [mget_none, riseP_keys h, hm]; exact h1
    rw [this]; rfl
  | some c =>
    have hk : k ∈ m.map (·.1) := mget_isSome.1 (by rw [hg]; rfl)
    refine mget_of_mem (riseP_rising h hn).nodup ?_
    refine List.mem_map.2 ⟨k, hm.2 hk, ?_⟩
    rw [hg, ← own_get h hg]; rfl

theorem own_foldl {β : Type} (p : List UInt8 × β → Bool) (w : List UInt8 × β → Cg) (hw : ∀ x, (w x).1 = x.1) (l : List (List UInt8 × β)) : ∀ m : List (List UInt8 × Cg), OwnKey m → OwnKey (l.foldl (fun m x => if p x = true then mset m x.1 (w x) else m) m) := by
  induction l with
  | nil => exact fun m h => h
  | cons q l ih =>
    intro m h
    rw [List.foldl_cons]
    refine ih _ ?_
    split
    · intro r hr
      have hmem : r ∈ mset m q.1 (w q) → r = (q.1, w q) ∨ r ∈ m := by
        clear hr ih h
        induction m with
        | nil => intro h; simp [mset_nil] at h; exact .inl h
        | cons a m ihm =>
          intro h
          rw [mset_cons] at h
          split at h
          · rcases List.mem_cons.1 h with e | e
            · exact .inl e
            · exact .inr (List.mem_cons_of_mem _ e)
          · rcases List.mem_cons.1 h with e | e
            · exact .inr (by rw [e]; simp)
            · rcases ihm e with e' | e'
              · exact .inl e'
              · exact .inr (List.mem_cons_of_mem _ e')
      rcases hmem hr with e | e
      · rw [e]; exact hw q
      · exact h r e
    · exact h

/-- Diff is the delta. -/
theorem diff_ex (a b : List Pr) (ha : a.length ≤ 400000) (hb : b.length ≤ 400000) : ∃ d, delta_Diff a b = some d ∧ IsDiff (fn a) (fn b) d ∧ d.length ≤ a.length + b.length := by
  have hva := valuesP_len a
  have hvb := valuesP_len b
  have g1 : ∀ (v : List (List UInt8 × Cg)) (x : Pr), (cond (!((mget (valuesP b) x.1).isSome)) (some (mset v x.1 (x.1, (ByteArray.mk #[]), true))) (some v) : Option (List (List UInt8 × Cg))) =
      some (if (fun x : Pr => !((mget (valuesP b) x.1).isSome)) x = true then mset v x.1 ((fun x : Pr => ((x.1, mt, true) : Cg)) x) else v) := by
    intro v x
    by_cases hq : (mget (valuesP b) x.1).isSome = true
    · simp [hq]
    · simp [hq, mt]
  have g2 : ∀ (v : List (List UInt8 × Cg)) (x : Pr), ((cond (!((mget (valuesP a) x.1).isSome)) (some true) (some (decide (((mget (valuesP a) x.1).getD (ByteArray.mk #[])) ≠ x.2))) : Option Bool).bind fun o77 =>
      cond o77 (some (mset v x.1 (x.1, x.2, false))) (some v)) =
      some (if (fun x : Pr => decide (mget (valuesP a) x.1 ≠ some x.2)) x = true then mset v x.1 ((fun x : Pr => ((x.1, x.2, false) : Cg)) x) else v) := by
    intro v x
    cases hg : mget (valuesP a) x.1 with
    | none => simp [hg]
    | some y => by_cases hy : y = x.2 <;> simp [hg, hy]
  let M1 : List Pr → List (List UInt8 × Cg) := fun l => l.foldl (fun m x => if (fun x : Pr => !((mget (valuesP b) x.1).isSome)) x = true then mset m x.1 ((fun x : Pr => ((x.1, mt, true) : Cg)) x) else m) []
  let M2 : List Pr → List Pr → List (List UInt8 × Cg) := fun l l' => l'.foldl (fun m x => if (fun x : Pr => decide (mget (valuesP a) x.1 ≠ some x.2)) x = true then mset m x.1 ((fun x : Pr => ((x.1, x.2, false) : Cg)) x) else m) (M1 l)
  have own1 : ∀ l, OwnKey (M1 l) := fun l => own_foldl (fun x : Pr => !((mget (valuesP b) x.1).isSome)) (fun x : Pr => ((x.1, mt, true) : Cg)) (fun _ => rfl) l [] (fun p hp => by cases hp)
  have own2 : ∀ l l', OwnKey (M2 l l') := fun l l' => own_foldl (fun x : Pr => decide (mget (valuesP a) x.1 ≠ some x.2)) (fun x : Pr => ((x.1, x.2, false) : Cg)) (fun _ => rfl) l' _ (own1 l)
  have nd2 : ∀ l l', ((M2 l l').map (·.1)).Nodup := fun l l' => foldl_if_nodup _ _ l' _ (foldl_if_nodup _ _ l [] (by simp))
  have len2 : ∀ l l', (M2 l l').length ≤ l.length + l'.length := fun l l' => by
    have h1 := foldl_if_len (fun x : Pr => decide (mget (valuesP a) x.1 ≠ some x.2)) (fun x : Pr => ((x.1, x.2, false) : Cg)) l' (M1 l)
    have h2 := foldl_if_len (fun x : Pr => !((mget (valuesP b) x.1).isSome)) (fun x : Pr => ((x.1, mt, true) : Cg)) l []
    simp only [List.length_nil, Nat.zero_add] at h2
    exact Nat.le_trans h1 (Nat.add_le_add_right h2 _)
  have isd : ∀ l l', l.Perm (valuesP a) → l'.Perm (valuesP b) → IsDiff (fn a) (fn b) (riseP (M2 l l')) := by
    intro l l' hl hl'
    have nl : (l.map (·.1)).Nodup := (hl.map _).nodup_iff.2 (valuesP_nodup a)
    have nl' : (l'.map (·.1)).Nodup := (hl'.map _).nodup_iff.2 (valuesP_nodup b)
    refine ⟨riseP_rising (own2 l l') (nd2 l l'), fun k => ?_⟩
    rw [mget_riseP (own2 l l') (nd2 l l')]
    simp only [M2]
    rw [mget_foldl_if nl', mget_perm (valuesP_nodup b) hl']
    simp only [M1]
    rw [mget_foldl_if nl, mget_perm (valuesP_nodup a) hl, mget_nil]
    simp only [difC, fn]
    have opt : ∀ o : Option ByteArray, o = none ∨ ∃ y, o = some y := fun o => by cases o <;> simp
    rcases opt (mget (valuesP b) k) with hb' | ⟨v, hb'⟩ <;> rcases opt (mget (valuesP a) k) with ha' | ⟨y, ha'⟩
    · simp [hb', ha']
    · simp [hb', ha']
    · simp [hb', ha']
    · by_cases hy : y = v <;> simp [hb', ha', hy]
  refine ⟨riseP (M2 (valuesP a) (valuesP b)), ?_, isd _ _ (.refl _) (.refl _), by rw [riseP_len]; have := len2 (valuesP a) (valuesP b); omega⟩
  unfold delta_Diff
  rw [bind_of (values_eq a (by omega)), bind_of (values_eq b (by omega))]
  refine forOrd_eq fun l hl => ?_
  rw [bind_of (foldlM_total g1 l [])]
  refine forOrd_eq fun l' hl' => ?_
  rw [bind_of (foldlM_total g2 l' _)]
  have hlen := len2 l l'
  rw [hl.length_eq, hl'.length_eq] at hlen
  rw [bind_of (rising_eq (M2 l l') (by omega))]
  exact congrArg some ((isd l l' hl hl').unique (isd _ _ (.refl _) (.refl _)))

end Go.Val
