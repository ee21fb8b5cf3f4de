/- What the twins are: Clean. -/
import Derived.Test.YthipaajmgfnagaaGreatDoorTd
set_option linter.unusedSectionVars false
set_option linter.unusedVariables false
set_option linter.unusedSimpArgs false
namespace Go.Val
open Go.Lib

theorem whileO_inv {V O S : Type} {body : V → Option (V ⊕ O)} (n : Nat) (enc : Nat → S → V) (J : Nat → S → Prop) (o : S → O) (s0 : S) (h0 : J 0 s0)
    (hstep : ∀ i, i < n → ∀ s, J i s → ∃ s', body (enc i s) = some (.inl (enc (i + 1) s')) ∧ J (i + 1) s')
    (hend : ∀ s, J n s → body (enc n s) = some (.inr (o s))) : ∃ s, J n s ∧ whileO body (enc 0 s0) = some (o s) := by
  have key : ∀ k i s, i + k = n → J i s → ∃ s', J n s' ∧ whileO body (enc i s) = some (o s') := by
    intro k
    induction k with
    | zero =>
      intro i s hi hJ
      have e : i = n := by omega
      subst e
      exact ⟨s, hJ, by rw [whileO_eq, hend s hJ]; rfl⟩
    | succ k ih =>
      intro i s hi hJ
      obtain ⟨s', h1, h2⟩ := hstep i (by omega) s hJ
      obtain ⟨s'', h3, h4⟩ := ih (i + 1) s' (by omega) h2
      exact ⟨s'', h3, by rw [whileO_eq, h1]; exact h4⟩
  exact key n 0 s0 (by omega) h0

def bd (b : Option Ky) : Ky × Bool := (b.getD zK, b.isNone)
theorem bounds_eq (s : Sp) : span_bounds s = some ((s.1, false), bd (toB s)) := by
  obtain ⟨a, b, e⟩ := s
  cases e <;> rfl
theorem made_eq (a : Ky) (b : Option Ky) : span_made (a, false) (bd b) = some (mkS a b) := rfl
theorem cmpK_eq (a : Ky) (b : Option Ky) : span_bound_compare (a, false) (bd b) = some (match b with | none => -1 | some x => compareBytes a x) := by
  cases b <;> rfl
theorem cmpB_eq (a b : Option Ky) : span_bound_compare (bd a) (bd b) = some (match a, b with | none, none => 0 | none, some _ => 1 | some _, none => -1 | some x, some y => compareBytes x y) := by
  cases a <;> cases b <;> rfl

theorem clean1_eq (s : Sp) : span_Clean_1 s = some (!full s) := by
  unfold span_Clean_1
  rw [bind_of (bounds_eq s)]
  simp only
  rw [bind_of (cmpK_eq _ _)]
  cases h : toB s with
  | none => simp [full, h, Under]
  | some b =>
    simp only [full, h, Under]
    by_cases hl : Lt s.1 b
    · have : compareBytes s.1 b < 0 := hl
      simp [hl]
      omega
    · have : ¬ compareBytes s.1 b < 0 := hl
      simp [hl]
      omega

theorem index_eq (l : List Sp) (hl : l.length ≤ 1000000) : slices_IndexFunc l = some (if l.findIdx (fun s => !full s) < l.length then (l.findIdx (fun s => !full s) : Int) else -1) := by
  unfold slices_IndexFunc
  have hb : ∀ i (hi : i < l.length), full l[i] = true → (fun v72 : Int =>
      cond (decide (v72 < (l.length : Int))) (
        (gx l v72).bind fun x79 =>
        (span_Clean_1 x79).bind fun x82 =>
        cond x82 (
          some (.inr (.inr v72) : Int ⊕ (Unit ⊕ Int))
        ) (
          some (.inl (IntKind.wrap .i64 (v72 + 1)))
        )
      ) (
        some (.inr (.inl ()))
      )) (i : Int) = some (.inl ((i + 1 : Nat) : Int)) := by
    intro i hi h
    simp only [ilt hi, cond_true, gx_nat hi, Option.bind_some, clean1_eq, h, Bool.not_true, cond_false, wrap_succ (show i < 9223372036854775807 by omega)]
  by_cases h : l.findIdx (fun s => !full s) < l.length
  · rw [if_pos h]
    have hp : full l[l.findIdx (fun s => !full s)] = false := by simpa using List.findIdx_getElem (w := h)
    refine (bind_of (whileO_run (o := Sum.inr ((l.findIdx (fun s => !full s) : Nat) : Int)) (fun i => (i : Int)) (l.findIdx (fun s => !full s)) (fun i hi => ?_) ?_)).trans rfl
    · have hi' : i < l.length := by omega
      refine hb i hi' ?_
      have := List.not_of_lt_findIdx hi
      simpa using this
    · simp only [ilt h, cond_true, gx_nat h, Option.bind_some, clean1_eq, hp, Bool.not_false]
  · rw [if_neg h]
    have he : l.findIdx (fun s => !full s) = l.length := by
      have := List.findIdx_le_length (p := fun s : Sp => !full s) (xs := l)
      omega
    have hall := List.findIdx_eq_length.1 he
    refine (bind_of (all_true (n := l.length) (o := .inl ()) 0 (by omega) (fun i _ hi => hb i hi (by simpa using hall _ (List.getElem_mem hi))) ?_)).trans rfl
    simp only [ige, cond_false]

theorem filter_take_succ {α : Type} (p : α → Bool) (l : List α) (j : Nat) (hj : j < l.length) : (l.take (j + 1)).filter p = if p l[j] = true then (l.take j).filter p ++ [l[j]] else (l.take j).filter p := by
  rw [List.take_add_one, List.getElem?_eq_getElem hj]
  simp only [Option.toList_some, List.filter_append]
  by_cases h : p l[j] = true
  · simp [h]
  · simp [h]

theorem deleteFunc_eq (l : List Sp) (hl : l.length ≤ 1000000) : slices_DeleteFunc l = some (l.filter full) := by
  unfold slices_DeleteFunc
  rw [bind_of (index_eq l hl)]
  by_cases h : l.findIdx (fun s => !full s) < l.length
  · rw [if_pos h]
    obtain ⟨d, hd⟩ : ∃ d, d = l.findIdx (fun s => !full s) := ⟨_, rfl⟩
    rw [← hd] at h ⊢
    have hne : decide ((d : Int) = -1) = false := decide_eq_false (by omega)
    rw [hne, cond_false]
    have hp : full l[d] = false := by simp only [hd]; simpa using List.findIdx_getElem (p := fun s : Sp => !full s) (w := by rw [← hd]; exact h)
    have hbef : (l.take d).filter full = l.take d := by
      rw [List.filter_eq_self]
      intro s hs
      obtain ⟨i, hi, rfl⟩ := List.getElem_of_mem hs
      have hi' : i < d := by simp at hi; omega
      have := List.not_of_lt_findIdx (p := fun s : Sp => !full s) (xs := l) (i := i) (by rw [← hd]; exact hi')
      simpa using this
    obtain ⟨s, hJ, hw⟩ := whileO_inv (V := Int × Int × List Sp) (O := Int × List Sp) (S := Nat × List Sp) (body := fun v178 =>
        cond (decide (v178.2.1 < (v178.2.2.length : Int))) (
          (((
            (gx v178.2.2 v178.2.1).bind fun x200 =>
            (span_Clean_1 x200).bind fun x203 =>
            cond (!x203) (
              (gx v178.2.2 v178.1).bind fun x209 =>
              some ((IntKind.wrap .i64 (v178.1 + 1)), (List.set v178.2.2 v178.1.toNat x200))
            ) (
              some (v178.1, v178.2.2)
            )
          ) : Option (Int × (List ((List UInt8) × (List UInt8) × Bool))))).bind fun o197 =>
          some (.inl (o197.1, (IntKind.wrap .i64 (v178.2.1 + 1)), o197.2))
        ) (
          some (.inr (v178.1, v178.2.2))
        )) (l.length - (d + 1)) (fun t s => ((s.1 : Int), ((d + 1 + t : Nat) : Int), s.2)) (fun t s => s.1 ≤ d + t ∧ s.2.length = l.length ∧ s.2.drop (d + 1 + t) = l.drop (d + 1 + t) ∧ s.2.take s.1 = (l.take (d + 1 + t)).filter full)
      (fun s => ((s.1 : Int), s.2)) (d, l) ⟨by omega, rfl, rfl, by
        show l.take d = (l.take (d + 1 + 0)).filter full
        rw [Nat.add_zero, filter_take_succ _ _ _ h, hp, hbef]
        rfl⟩ (fun t ht s hs => by
        obtain ⟨h1, h2, h3, h4⟩ := hs
        have hj : d + 1 + t < l.length := by omega
        have hj2 : d + 1 + t < s.2.length := by omega
        have hs1 : s.1 < s.2.length := by omega
        have hget : s.2[d + 1 + t] = l[d + 1 + t] := by
          have e1 := List.drop_eq_getElem_cons hj2
          have e2 := List.drop_eq_getElem_cons hj
          rw [h3, e2] at e1
          exact (List.cons.inj e1).1.symm
        have hdrop : l.drop (d + 1 + t + 1) = s.2.drop (d + 1 + t + 1) := by
          have e1 := List.drop_eq_getElem_cons hj2
          have e2 := List.drop_eq_getElem_cons hj
          rw [h3, e2] at e1
          exact (List.cons.inj e1).2
        simp only [ilt hj2, cond_true, gx_nat hj2, Option.bind_some, clean1_eq, hget, Bool.not_not, gx_nat hs1, wrap_succ (show s.1 < 9223372036854775807 by omega), wrap_succ (show d + 1 + t < 9223372036854775807 by omega), Int.toNat_natCast]
        by_cases hf : full l[d + 1 + t] = true
        · rw [hf]
          refine ⟨(s.1 + 1, s.2.set s.1 l[d + 1 + t]), rfl, (show s.1 + 1 ≤ d + (t + 1) by omega), by simp only [List.length_set]; exact h2, ?_, ?_⟩
          · simp only
            rw [List.drop_set_of_lt (by omega)]
            exact hdrop.symm
          · simp only
            rw [show d + 1 + (t + 1) = d + 1 + t + 1 by omega, filter_take_succ _ _ _ hj, if_pos hf, ← h4, List.take_add_one, List.take_set_of_le (by omega), List.getElem?_set_self hs1]
            rfl
        · have hff : full l[d + 1 + t] = false := by simpa using hf
          rw [hff]
          refine ⟨s, rfl, by omega, h2, hdrop.symm, ?_⟩
          rw [show d + 1 + (t + 1) = d + 1 + t + 1 by omega, filter_take_succ _ _ _ hj, if_neg hf]
          exact h4) (fun s hs => by
        obtain ⟨h1, h2, h3, h4⟩ := hs
        have : d + 1 + (l.length - (d + 1)) = s.2.length := by omega
        simp only [this, ige, cond_false])
    obtain ⟨h1, h2, h3, h4⟩ := hJ
    have e0 : ((IntKind.wrap .i64 ((d : Int) + 1)) : Int) = ((d + 1 + 0 : Nat) : Int) := wrap_succ (by omega)
    rw [e0, bind_of hw]
    simp only [Int.toNat_natCast]
    have hle : s.1 ≤ s.2.length := by omega
    rw [bind_of (ck_of (by omega)), bind_of (cutB_of (by simp <;> omega))]
    have : d + 1 + (l.length - (d + 1)) = l.length := by omega
    rw [this, List.take_length] at h4
    rw [← h4]
    have hlen : (s.2.take s.1).length = s.1 := by rw [List.length_take]; omega
    rw [List.take_append_of_le_length (by omega), List.take_take, Nat.min_self]
  · rw [if_neg h]
    have : decide ((-1 : Int) = -1) = true := by decide
    rw [this, cond_true]
    have he : l.findIdx (fun s => !full s) = l.length := by
      have := List.findIdx_le_length (p := fun s : Sp => !full s) (xs := l)
      omega
    have hall := List.findIdx_eq_length.1 he
    rw [List.filter_eq_self.2 fun s hs => by simpa using hall s hs]

theorem sortSpans_len (xs : List Sp) : (sortSpans xs).length ≤ xs.length := by
  unfold sortSpans
  rw [List.length_map, srtSP_len]
  exact List.length_filterMap_le _ _

theorem maxB_eq (a b : Option Ky) : (cond (decide ((match b, a with | none, none => (0 : Int) | none, some _ => 1 | some _, none => -1 | some x, some y => compareBytes x y) > 0)) (some (bd b)) (some (bd a)) : Option (Ky × Bool)) = some (bd (maxB a b)) := by
  cases a with
  | none => cases b <;> rfl
  | some x =>
    cases b with
    | none => rfl
    | some y =>
      simp only [maxB]
      by_cases h : Lt x y
      · have h1 : compareBytes y x > 0 := by
          have : compareBytes x y < 0 := h
          rw [cb_anti x y]
          omega
        simp [h, h1]
      · have h1 : ¬ compareBytes y x > 0 := by
          have : ¬ compareBytes x y < 0 := h
          rw [cb_anti x y]
          omega
        simp [h, h1]

theorem upto_eq (a : Ky) (b : Option Ky) : decide ((match b with | none => (-1 : Int) | some x => compareBytes a x) ≤ 0) = decide (Upto a b) := by
  rw [Bool.eq_iff_iff, decide_eq_true_eq, decide_eq_true_eq]
  cases b with
  | none => exact ⟨fun _ => trivial, fun _ => (show (-1 : Int) ≤ 0 by decide)⟩
  | some x =>
    show compareBytes a x ≤ 0 ↔ ¬ compareBytes x a < 0
    rw [cb_anti a x]
    omega

theorem clean_eq (l : List Sp) (hl : l.length ≤ 1000000) : span_Clean l = some (cleanP l) := by
  unfold span_Clean
  have hf : fits (([] : List Sp).length + l.length) 49 = some () := fits_of (by simp only [List.length_nil]; omega)
  have hcl : slices_Clone55 l = some l := by unfold slices_Clone55; rw [hf]; rfl
  rw [bind_of hcl, bind_of (deleteFunc_eq l hl)]
  have hfl := List.length_filter_le full l
  rw [bind_of (fits_of (by omega))]
  have hsl := sortSpans_len (l.filter full)
  unfold cleanP
  obtain ⟨xs, hxs⟩ : ∃ xs, xs = sortSpans (l.filter full) := ⟨_, rfl⟩
  rw [← hxs] at hsl ⊢
  have hlx : xs.length ≤ 1000000 := by omega
  clear hxs hsl hcl hf
  refine bind_id (whileO_for xs (fun i s => ((i : Int), s)) cStep (fun i s => s.length ≤ i) id [] (by simp) (fun i hi s hs => ⟨?_, ?_⟩) (fun s _ => ?_))
  · simp only [ilt hi, cond_true, gx_nat hi, Option.bind_some, bounds_eq, wrap_succ (show i < 9223372036854775807 by omega)]
    rcases List.eq_nil_or_concat s with rfl | ⟨pre, t, rfl⟩
    · have : decide ((([] : List Sp).length : Int) > 0) = false := by decide
      have hf : fits (([] : List Sp).length + ([mkS xs[i].1 (toB xs[i])]).length) 49 = some () := fits_of (by simp)
      simp only [this, cond_false, Option.bind_some, Sum.elim_inl, made_eq]
      rw [hf]
      rfl
    · have hlen : (pre.concat t).length = pre.length + 1 := by simp
      have hpos : decide (((pre.concat t).length : Int) > 0) = true := decide_eq_true (by omega)
      have hidx : IntKind.wrap .i64 (((pre.concat t).length : Int) - 1) = (pre.length : Int) := by rw [wrap_i64 (by omega)]; omega
      have hget : gx (pre.concat t) (pre.length : Int) = some t := by
        rw [gx_nat (by omega)]
        simp
      simp only [hpos, cond_true, hidx, hget, Option.bind_some, bounds_eq, cmpK_eq, cmpB_eq, upto_eq, maxB_eq, made_eq, Int.toNat_natCast]
      have hst : cStep (pre.concat t) xs[i] = if Upto xs[i].1 (toB t) then (pre.concat t).set pre.length (mkS t.1 (maxB (toB t) (toB xs[i]))) else pre.concat t ++ [mkS xs[i].1 (toB xs[i])] := by
        unfold cStep
        have : (pre.concat t).getLast? = some t := by simp
        rw [this]
        simp only [hlen, Nat.add_sub_cancel]
      rw [hst]
      by_cases hu : Upto xs[i].1 (toB t)
      · simp only [hu, decide_true, cond_true, Option.bind_some, Sum.elim_inr, if_true]
      · have hf : fits ((pre.concat t).length + ([mkS xs[i].1 (toB xs[i])]).length) 49 = some () := fits_of (by simp only [List.length_cons, List.length_nil]; omega)
        simp only [hu, decide_false, cond_false, Option.bind_some, Sum.elim_inl, if_false, made_eq]
        rw [hf]
        rfl
  · unfold cStep
    split
    · simp; omega
    · split
      · simp; omega
      · simp; omega
  · simp only [ige, cond_false, id]

end Go.Val

