/- What the twins are: the reference's finding, sameness, cuts; Merge, Join. -/
import Derived.Test.YtlcnkhphgekmeaaTa
set_option linter.unusedSectionVars false
set_option linter.unusedVariables false
set_option linter.unusedSimpArgs false
namespace Go.Val
open Go.Lib

theorem less_eq (a b : List UInt8) : ref03_Less a b = some (decide (Lt a b)) := by
  unfold ref03_Less
  exact congrArg some (cb_less a b)

theorem k_eq {n : Int} (h : 0 ≤ n ∧ n < 256) : law09_k n = some (List.set (List.replicate 24 0) 0 (UInt8.ofNat n.toNat)) := by
  unfold law09_k
  rw [bind_of (ck_of h)]

/-- The place of a key. -/
def place {β : Type} (l : List (List UInt8 × β)) (k : List UInt8) : Nat := l.findIdx (fun p => !decide (Lt p.1 k))
theorem place_le {β : Type} (l : List (List UInt8 × β)) (k : List UInt8) : place l k ≤ l.length := List.findIdx_le_length
theorem place_before {β : Type} {l : List (List UInt8 × β)} {k : List UInt8} {i : Nat} (h : i < place l k) (hi : i < l.length) : Lt l[i].1 k := by
  have := List.not_of_lt_findIdx h
  simpa using this
theorem place_at {β : Type} {l : List (List UInt8 × β)} {k : List UInt8} (h : place l k < l.length) : ¬ Lt l[place l k].1 k := by
  have := List.findIdx_getElem (xs := l) (p := fun p : List UInt8 × β => !decide (Lt p.1 k)) (w := h)
  simp only [Bool.not_eq_true', decide_eq_false_iff_not] at this
  exact this

theorem place_loop {β : Type} {body : Int → Option (Int ⊕ Int)} (l : List (List UInt8 × β)) (k : List UInt8)
    (h1 : ∀ i (hi : i < l.length), body (i : Int) = if Lt l[i].1 k then some (.inl ((i + 1 : Nat) : Int)) else some (.inr (i : Int))) (h2 : body (l.length : Int) = some (.inr (l.length : Int))) : whileO body 0 = some (place l k : Int) := by
  refine whileO_run (fun i => (i : Int)) (place l k) (fun i hi => ?_) ?_
  · have hl : i < l.length := Nat.lt_of_lt_of_le hi (place_le l k)
    rw [h1 i hl, if_pos (place_before hi hl)]
  · by_cases hl : place l k < l.length
    · rw [h1 _ hl, if_neg (place_at hl)]
    · have : place l k = l.length := Nat.le_antisymm (place_le l k) (Nat.le_of_not_lt hl)
      rw [this]; exact h2

theorem find_eq (l : List Pr) (k : List UInt8) (hl : l.length ≤ 1000000) : ref09_find l k = some ((place l k : Int), decide (∃ h : place l k < l.length, l[place l k].1 = k)) := by
  unfold ref09_find
  refine (bind_of (place_loop l k (fun i hi => ?_) ?_)).trans ?_
  · simp only [ilt hi, cond_true, gx_nat hi, Option.bind_some, less_eq, wrap_succ (show i < 9223372036854775807 by omega)]
    by_cases h : Lt l[i].1 k <;> simp [h]
  · simp only [ige, cond_false]
  · by_cases hp : place l k < l.length
    · simp only [ilt hp, cond_true, gx_nat hp, Option.bind_some]
      simp [hp]
    · have : decide ((place l k : Int) < (l.length : Int)) = false := by simp; omega
      simp only [this, cond_false, Option.bind_some]
      simp [hp]

theorem mget_place {β : Type} {l : List (List UInt8 × β)} (hr : Rising l) (k : List UInt8) : mget l k = if h : place l k < l.length then (if l[place l k].1 = k then some l[place l k].2 else none) else none := by
  have hlt : ∀ i j (hi : i < l.length) (hj : j < l.length), i < j → Lt l[i].1 l[j].1 := by
    intro i j hi hj hij
    have := List.pairwise_iff_getElem.1 hr i j (by simpa using hi) (by simpa using hj) hij
    simpa using this
  have none_of : (∀ j (hj : j < l.length), l[j].1 ≠ k) → mget l k = none := by
    intro h
    rw [mget_none]
    intro hk
    obtain ⟨p, hp, e⟩ := List.mem_map.1 hk
    obtain ⟨j, hj, rfl⟩ := List.getElem_of_mem hp
    exact h j hj e
  by_cases h : place l k < l.length
  · rw [dif_pos h]
    by_cases he : l[place l k].1 = k
    · rw [if_pos he]
      refine mget_of_mem hr.nodup ?_
      have : (k, l[place l k].2) = l[place l k] := Prod.ext he.symm rfl
      rw [this]
      exact List.getElem_mem h
    · rw [if_neg he]
      refine none_of fun j hj e => ?_
      rcases Nat.lt_trichotomy j (place l k) with h1 | h1 | h1
      · exact lt_irrefl k (by have := place_before h1 hj; rwa [e] at this)
      · subst h1; exact he e
      · have := hlt _ _ h hj h1
        rw [e] at this
        exact place_at h this
  · rw [dif_neg h]
    refine none_of fun j hj e => ?_
    have hp : j < place l k := by have := place_le l k; omega
    exact lt_irrefl k (by have := place_before hp hj; rwa [e] at this)

theorem get_eq {l : List Pr} (hr : Rising l) (k : List UInt8) (hl : l.length ≤ 1000000) : ref09_Get l k = some ((mget l k).getD mt, (mget l k).isSome) := by
  unfold ref09_Get
  rw [bind_of (find_eq l k hl), mget_place hr]
  by_cases h : place l k < l.length
  · by_cases he : l[place l k].1 = k
    · simp only [h, he, exists_true_left, decide_true, Bool.not_true, cond_false, gx_nat h, Option.bind_some, dif_pos, if_true, Option.getD_some, Option.isSome_some]
    · simp only [h, he, exists_true_left, decide_false, Bool.not_false, cond_true, dif_pos, if_false, Option.getD_none, Option.isSome_none]; rfl
  · simp [h]; rfl

/-! ### All of a row -/
theorem all_true {O : Type} {body : Int → Option (Int ⊕ O)} {n : Nat} {o : O} (j : Nat) (hj : j ≤ n) (h : ∀ i, j ≤ i → i < n → body (i : Int) = some (.inl ((i + 1 : Nat) : Int))) (hn : body (n : Int) = some (.inr o)) : whileO body (j : Int) = some o := by
  have := whileO_run (body := body) (fun i => ((j + i : Nat) : Int)) (n - j) (fun i hi => by have := h (j + i) (by omega) (by omega); rw [this]; rfl) (by rw [show j + (n - j) = n by omega]; exact hn)
  simpa using this
theorem all_false {O : Type} {body : Int → Option (Int ⊕ O)} {p : Nat → Prop} {n : Nat} {o : O} (h : ∀ i, i < n → p i → body (i : Int) = some (.inl ((i + 1 : Nat) : Int))) (h' : ∀ i, i < n → ¬ p i → body (i : Int) = some (.inr o)) (hx : ∃ i, i < n ∧ ¬ p i) : whileO body 0 = some o := by
  have key : ∀ k i, i + k = n → (∃ j, i ≤ j ∧ j < n ∧ ¬ p j) → whileO body (i : Int) = some o := by
    intro k
    induction k with
    | zero => rintro i hi ⟨j, h1, h2, _⟩; omega
    | succ k ih =>
      rintro i hi ⟨j, h1, h2, h3⟩
      rw [whileO_eq]
      by_cases hp : p i
      · rw [h i (by omega) hp]
        refine ih (i + 1) (by omega) ⟨j, ?_, h2, h3⟩
        have : i ≠ j := fun e => h3 (e ▸ hp)
        omega
      · rw [h' i (by omega) hp]; rfl
  obtain ⟨i, h1, h2⟩ := hx
  exact key n 0 (by omega) ⟨i, by omega, h1, h2⟩

theorem row_same {α : Type} [DecidableEq α] {body : Int → Option (Int ⊕ (Unit ⊕ Bool))} (x y : List α) (hl : x.length = y.length)
    (h1 : ∀ i (h : i < x.length) (h' : i < y.length), body (i : Int) = if x[i] = y[i] then some (.inl ((i + 1 : Nat) : Int)) else some (.inr (.inr false))) (h2 : body (x.length : Int) = some (.inr (.inl ()))) :
    (whileO body 0).bind (fun o => Sum.elim (fun _ : Unit => some true) (fun w => some w) o) = some (decide (x = y)) := by
  by_cases he : x = y
  · subst he
    refine (bind_of (all_true (n := x.length) 0 (by omega) (fun i _ hi => by rw [h1 i hi hi, if_pos rfl]) h2)).trans ?_
    simp
  · have hx : ∃ i, i < x.length ∧ ¬ x[i]? = y[i]? := by
      refine Classical.byContradiction fun hc => he ?_
      apply List.ext_getElem? 
      intro i
      by_cases hi : i < x.length
      · exact Classical.byContradiction fun hp => hc ⟨i, hi, hp⟩
      · rw [List.getElem?_eq_none (by omega), List.getElem?_eq_none (by omega)]
    have hf := all_false (body := body) (n := x.length) (p := fun i => x[i]? = y[i]?) (o := .inr false) (fun i hi hp => by
      have hy : i < y.length := by omega
      rw [h1 i hi hy, if_pos (by simpa [hi, hy] using hp)]) (fun i hi hp => by
      have hy : i < y.length := by omega
      rw [h1 i hi hy, if_neg (by simpa [hi, hy] using hp)]) hx
    refine (bind_of hf).trans ?_
    simp [he]

theorem same_eq (x y : List Pr) (hl : x.length ≤ 1000000) : ref09_Same x y = some (decide (x = y)) := by
  unfold ref09_Same
  by_cases h : x.length = y.length
  · have : decide ((x.length : Int) ≠ (y.length : Int)) = false := by simp [h]
    rw [this, cond_false]
    refine row_same x y h (fun i hx hy => ?_) ?_
    · simp only [ilt hx, cond_true, gx_nat hx, gx_nat hy, Option.bind_some, wrap_succ (show i < 9223372036854775807 by omega)]
      by_cases he : x[i] = y[i]
      · simp [he]
      · have : ¬ (x[i].1 = y[i].1 ∧ x[i].2 = y[i].2) := fun ⟨a, b⟩ => he (Prod.ext a b)
        by_cases ha : x[i].1 = y[i].1
        · have hb : ¬ x[i].2 = y[i].2 := fun b => this ⟨ha, b⟩
          simp [he, ha, hb]
        · simp [he, ha]
    · simp only [ige, cond_false]
  · have h1 : decide ((x.length : Int) ≠ (y.length : Int)) = true := by simp; omega
    rw [h1, cond_true]
    have : ¬ x = y := fun e => h (by rw [e])
    simp [this]

theorem sameKeys_eq (x y : List (List UInt8)) (hl : x.length ≤ 1000000) : ref09_SameKeys x y = some (decide (x = y)) := by
  unfold ref09_SameKeys
  by_cases h : x.length = y.length
  · have : decide ((x.length : Int) ≠ (y.length : Int)) = false := by simp [h]
    rw [this, cond_false]
    refine row_same x y h (fun i hx hy => ?_) ?_
    · simp only [ilt hx, cond_true, gx_nat hx, gx_nat hy, Option.bind_some, wrap_succ (show i < 9223372036854775807 by omega)]
      by_cases he : x[i] = y[i] <;> simp [he]
    · simp only [ige, cond_false]
  · have h1 : decide ((x.length : Int) ≠ (y.length : Int)) = true := by simp; omega
    rw [h1, cond_true]
    have : ¬ x = y := fun e => h (by rw [e])
    simp [this]

theorem sameChanges_eq (x y : List Cg) (hl : x.length ≤ 1000000) : ref09_SameChanges x y = some (decide (x = y)) := by
  unfold ref09_SameChanges
  by_cases h : x.length = y.length
  · have : decide ((x.length : Int) ≠ (y.length : Int)) = false := by simp [h]
    rw [this, cond_false]
    refine row_same x y h (fun i hx hy => ?_) ?_
    · simp only [ilt hx, cond_true, gx_nat hx, gx_nat hy, Option.bind_some, wrap_succ (show i < 9223372036854775807 by omega)]
      by_cases he : x[i] = y[i]
      · simp [he]
      · have : ¬ (x[i].1 = y[i].1 ∧ x[i].2.1 = y[i].2.1 ∧ x[i].2.2 = y[i].2.2) := fun ⟨a, b, c⟩ => he (Prod.ext a (Prod.ext b c))
        by_cases ha : x[i].1 = y[i].1
        · by_cases hb : x[i].2.1 = y[i].2.1
          · have hc : ¬ x[i].2.2 = y[i].2.2 := fun c => this ⟨ha, hb, c⟩
            have hd : (x[i].2.2 == y[i].2.2) = false := by simpa using hc
            simp [he, ha, hb, hd]
          · simp [he, ha, hb]
        · simp [he, ha]
    · simp only [ige, cond_false]
  · have h1 : decide ((x.length : Int) ≠ (y.length : Int)) = true := by simp; omega
    rw [h1, cond_true]
    have : ¬ x = y := fun e => h (by rw [e])
    simp [this]

/-! ### Cuts -/
def cutV (v : ByteArray) : ByteArray := v.extract 0 (min (v.size : Int) 40).toNat
def cutP (l : List Pr) : List Pr := (l.take 40).map fun p => (p.1, cutV p.2)
def cutC (l : List Cg) : List Cg := (l.take 40).map fun p => (p.1, cutV p.2.1, p.2.2)
theorem cutP_len (l : List Pr) : (cutP l).length ≤ 40 := by simp [cutP]; omega
theorem cutC_len (l : List Cg) : (cutC l).length ≤ 40 := by simp [cutC]; omega

theorem cut_eq (l : List Pr) : law09_cut l = some (cutP l) := by
  unfold law09_cut
  refine bind_id ((whileO_for (l.take 40) (fun i s => ((i : Int), s)) (fun s p => s ++ [(p.1, cutV p.2)]) (fun i s => s.length = i) id [] rfl (fun i hi s hs => ⟨?_, ?_⟩) (fun s hs => ?_)).trans ?_)
  · have h1 : i < l.length := by simp at hi; omega
    have h2 : i < 40 := by simp at hi; omega
    have h3 : (l.take 40)[i] = l[i] := by simp
    have h4 : decide ((i : Int) < 40) = true := by simp; omega
    simp only [ilt h1, cond_true, h4, Option.bind_some, gx_nat h1, wrap_succ (show i < 9223372036854775807 by omega)]
    rw [bind_of (cutB_of (by omega)), bind_of (fits_of (by simp only [hs, List.length_cons, List.length_nil]; omega)), h3]
    rfl
  · simp [hs]
  · by_cases h : l.length < 40
    · have e : (l.take 40).length = l.length := by simp; omega
      rw [e]
      simp only [ige, cond_false, Option.bind_some, id]
    · have e : (l.take 40).length = 40 := by simp; omega
      rw [e]
      by_cases h' : 40 < l.length
      · simp only [ilt h', cond_true, Option.bind_some, show decide (((40 : Nat) : Int) < 40) = false from by decide, cond_false, id]
      · have : decide (((40 : Nat) : Int) < (l.length : Int)) = false := by simp; omega
        simp only [this, cond_false, Option.bind_some, id]
  · rw [foldl_snoc]; rfl

theorem changes_eq (l : List Cg) : law09_changes l = some (cutC l) := by
  unfold law09_changes
  refine bind_id ((whileO_for (l.take 40) (fun i s => ((i : Int), s)) (fun s p => s ++ [(p.1, cutV p.2.1, p.2.2)]) (fun i s => s.length = i) id [] rfl (fun i hi s hs => ⟨?_, ?_⟩) (fun s hs => ?_)).trans ?_)
  · have h1 : i < l.length := by simp at hi; omega
    have h2 : i < 40 := by simp at hi; omega
    have h3 : (l.take 40)[i] = l[i] := by simp
    have h4 : decide ((i : Int) < 40) = true := by simp; omega
    simp only [ilt h1, cond_true, h4, Option.bind_some, gx_nat h1, wrap_succ (show i < 9223372036854775807 by omega)]
    rw [bind_of (cutB_of (by omega)), bind_of (fits_of (by simp only [hs, List.length_cons, List.length_nil]; omega)), h3]
    rfl
  · simp [hs]
  · by_cases h : l.length < 40
    · have e : (l.take 40).length = l.length := by simp; omega
      rw [e]
      simp only [ige, cond_false, Option.bind_some, id]
    · have e : (l.take 40).length = 40 := by simp; omega
      rw [e]
      by_cases h' : 40 < l.length
      · simp only [ilt h', cond_true, Option.bind_some, show decide (((40 : Nat) : Int) < 40) = false from by decide, cond_false, id]
      · have : decide (((40 : Nat) : Int) < (l.length : Int)) = false := by simp; omega
        simp only [this, cond_false, Option.bind_some, id]
  · rw [foldl_snoc]; rfl

end Go.Val
