/- DeltaMaps, as a function, is true. -/
import Derived.Test.YtlcnkhphgekmeaaTd
import Derived.Test.YtlcnkhphgekmeaaW3
set_option linter.unusedSectionVars false
set_option linter.unusedVariables false
set_option linter.unusedSimpArgs false
namespace Go.Val
open Go.Lib

theorem rising_at {β : Type} {l : List (List UInt8 × β)} (h : Rising l) {i j : Nat} (hj : j < l.length) (hij : i < j) : Lt (l[i]'(by omega)).1 l[j].1 := by
  have := List.pairwise_iff_getElem.1 h i j (by simp; omega) (by simpa using hj) hij
  simpa using this

/-- 'for i := 1; i < len; i++ { if !Less(l[i-1].Key, l[i].Key) { return false } }', of what rises. -/
theorem rises_loop {β : Type} {body : Int → Option (Int ⊕ (Unit ⊕ Bool))} {l : List (List UInt8 × β)} (hr : Rising l) (hl : l.length ≤ 1000000)
    (h1 : ∀ i (hi : i + 1 < l.length), body ((i + 1 : Nat) : Int) = cond (!decide (Lt (l[i]'(by omega)).1 l[i + 1].1)) (some (.inr (.inr false))) (some (.inl ((i + 2 : Nat) : Int))))
    (h2 : ∀ n : Nat, l.length ≤ n → body (n : Int) = some (.inr (.inl ()))) : whileO body 1 = some (.inl ()) := by
  by_cases h : l.length ≤ 1
  · rw [whileO_eq]
    have := h2 1 h
    rw [show body 1 = some (.inr (.inl ())) from this]; rfl
  · refine all_true (n := l.length) 1 (by omega) (fun i hi hi' => ?_) (h2 _ (Nat.le_refl _))
    obtain ⟨q, rfl⟩ : ∃ q, i = q + 1 := ⟨i - 1, by omega⟩
    have := rising_at hr hi' (Nat.lt_succ_self q)
    rw [h1 q hi']
    simp [this]
    omega

theorem pred_nat {i : Nat} (h : i < 9223372036854775807) : IntKind.wrap .i64 (((i + 1 : Nat) : Int) - 1) = (i : Int) := by
  rw [wrap_i64 (by omega)]; omega

/-- The last value of a key from a place on. -/
theorem last_eq (l : List Pr) (i : Nat) (hi : i < l.length) : (l.drop i).foldl (fun v p => if p.1 = l[i].1 then p.2 else v) l[i].2 = (fn l l[i].1).getD mt := by
  have key : ∀ (r : List Pr) (k : List UInt8) (v : ByteArray), r.foldl (fun v p => if p.1 = k then p.2 else v) v = (mget r.reverse k).getD v := by
    intro r k
    induction r with
    | nil => intro v; rfl
    | cons p r ih =>
      intro v
      rw [List.foldl_cons, ih, List.reverse_cons, mget_append, mget_cons, mget_nil]
      cases mget r.reverse k with
      | some x => simp
      | none => by_cases h : p.1 = k
                · simp [h]
                · simp [h, Ne.symm h]
  rw [key]
  have hd : l.drop i = l[i] :: l.drop (i + 1) := List.drop_eq_getElem_cons hi
  have hf : fn l l[i].1 = mget (l.drop i).reverse l[i].1 := by
    unfold fn
    rw [mget_valuesP]
    have : l.reverse = (l.drop i).reverse ++ (l.take i).reverse := by
      rw [← List.reverse_append, List.take_append_drop]
    rw [this, mget_append]
    have hs : ∃ v, mget (l.drop i).reverse l[i].1 = some v := by
      rw [hd, List.reverse_cons, mget_append, mget_cons, if_pos rfl]
      cases mget (l.drop (i + 1)).reverse l[i].1 <;> simp
    obtain ⟨v, hv⟩ := hs
    rw [hv]; rfl
  rw [hf]
  have hs : ∃ v, mget (l.drop i).reverse l[i].1 = some v := by
    rw [hd, List.reverse_cons, mget_append, mget_cons, if_pos rfl]
    cases mget (l.drop (i + 1)).reverse l[i].1 <;> simp
  obtain ⟨v, hv⟩ := hs
  rw [hv]; rfl

theorem fn_at (l : List Pr) (i : Nat) (hi : i < l.length) : ∃ v, fn l l[i].1 = some v := by
  have : l[i].1 ∈ l.reverse.map (·.1) := by
    rw [List.mem_map]
    exact ⟨l[i], by simp, rfl⟩
  unfold fn
  rw [mget_valuesP]
  exact Option.isSome_iff_exists.1 (mget_isSome.2 this)

theorem deltaMaps_true (a0 : List Pr) : law09_DeltaMaps a0 = some true := by
  unfold law09_DeltaMaps
  have hc := cutP_len a0
  generalize hl0 : cutP a0 = l at hc
  rw [bind_of shown_eq, bind_of ((cut_eq a0).trans (congrArg some hl0)), bind_of (map_eq l (by omega))]
  have hml := mapP_len l
  have hmr := mapP_rising l
  refine (bind_of (rises_loop hmr (by omega) (fun i hi => ?_) (fun n hn => ?_))).trans ?_
  · simp only [ilt hi, cond_true, pred_nat (show i < 9223372036854775807 by omega), gx_nat (show i < (mapP l).length by omega), gx_nat hi, Option.bind_some, less_eq, wrap_succ (show i + 1 < 9223372036854775807 by omega)]
  · have : decide ((n : Int) < ((mapP l).length : Int)) = false := by simp; omega
    simp only [this, cond_false]
  · simp only [Sum.elim_inl]
    refine (bind_of (all_true (n := l.length) (o := (.inl () : Unit ⊕ Bool)) 0 (by omega) (fun i _ hi => ?_) ?_)).trans ?_
    · simp only [ilt hi, cond_true, gx_nat hi, Option.bind_some]
      have h := whileO_run (body := fun v2322 : ByteArray × Int =>
                cond (decide (v2322.2 < (l.length : Int))) (
                  (((
                    (gx l v2322.2).bind fun x2338 =>
                    cond (decide (x2338.1 = l[i].1)) (
                      some x2338.2
                    ) (
                      some v2322.1
                    )
                  ) : Option ByteArray)).bind fun o2335 =>
                  some (.inl (o2335, (IntKind.wrap .i64 (v2322.2 + 1))))
                ) (
                  some (.inr v2322.1)
                )) (fun j => (((l.drop i).take j).foldl (fun v p => if p.1 = l[i].1 then p.2 else v) l[i].2, ((i + j : Nat) : Int))) (l.length - i) (fun j hj => ?_) (o := (fn l l[i].1).getD mt) ?_
      · have h' := h
        simp only [List.take_zero, List.foldl_nil, Nat.add_zero] at h'
        have hg := get_eq hmr l[i].1 (by omega)
        rw [mget_mapP] at hg
        obtain ⟨v, hv⟩ := fn_at l i hi
        rw [hv] at hg h'
        refine Eq.trans (bind_of (a := Sum.inl ()) ((bind_of h').trans ((bind_of hg).trans ?_))) ?_
        · simp
        · simp only [Sum.elim_inl, wrap_succ (show i < 9223372036854775807 by omega)]
      · have hj' : i + j < l.length := by omega
        have ht : (l.drop i).take (j + 1) = (l.drop i).take j ++ [l[i + j]] := by
          rw [List.take_add_one]
          have : (l.drop i)[j]? = some l[i + j] := by rw [List.getElem?_drop, List.getElem?_eq_getElem hj']
          rw [this]; rfl
        simp only [ilt hj', cond_true, gx_nat hj', Option.bind_some, wrap_succ (show i + j < 9223372036854775807 by omega), ht, List.foldl_append, List.foldl_cons, List.foldl_nil]
        by_cases he : l[i + j].1 = l[i].1
        · simp [he]; rfl
        · simp [he]; rfl
      · have e1 : i + (l.length - i) = l.length := by omega
        have e2 : (l.drop i).take (l.length - i) = l.drop i := by
          rw [List.take_of_length_le]; simp
        simp only [e1, e2, ige, cond_false, last_eq l i hi]
    · simp only [ige, cond_false]
    · simp only [Sum.elim_inl, cond_true]
      have hle : decide (((mapP l).length : Int) ≤ (l.length : Int)) = true := by simp; omega
      simp only [hle, cond_true]
      refine bind_id ((bind_of (map_eq (mapP l) (by omega))).trans ?_)
      rw [mapP_id hmr, bind_of (same_eq _ _ (by omega))]
      simp

end Go.Val
