/- What the twins are: sameness of rows, Join. -/
import Derived.Test.YtmibkdnmjjdelaaGreatTa
set_option linter.unusedSectionVars false
set_option linter.unusedVariables false
set_option linter.unusedSimpArgs false
namespace Go.Val
open Go.Lib

/-- The place of a key. -/
def place {β : Type} (l : List (List UInt8 × β)) (k : List UInt8) : Nat := l.findIdx (fun p => !decide (Lt p.1 k))
theorem place_le {β : Type} (l : List (List UInt8 × β)) (k : List UInt8) : place l k ≤ l.length := List.findIdx_le_length
theorem place_before {β : Type} {l : List (List UInt8 × β)} {k : List UInt8} {i : Nat} (h : i < place l k) (hi : i < l.length) : Lt l[i].1 k := by
  have := List.not_of_lt_findIdx h
  simpa using this
theorem place_at {β : Type} {l : List (List UInt8 × β)} {k : List UInt8} (h : place l k < l.length) : ¬ Lt l[place l k].1 k := by
  have := List.findIdx_getElem (xs := l) (p := fun p : List UInt8 × β => !decide (Lt p.1 k)) (w := h)
  simp only [Bool.not_eq_true', decide_eq_false_iff_not] at this
  exact this

theorem mget_place {β : Type} {l : List (List UInt8 × β)} (hr : Rising l) (k : List UInt8) : mget l k = if h : place l k < l.length then (if l[place l k].1 = k then some l[place l k].2 else none) else none := by
  have hlt : ∀ i j (hi : i < l.length) (hj : j < l.length), i < j → Lt l[i].1 l[j].1 := by
    intro i j hi hj hij
    have := List.pairwise_iff_getElem.1 hr i j (by simpa using hi) (by simpa using hj) hij
    simpa using this
  have none_of : (∀ j (hj : j < l.length), l[j].1 ≠ k) → mget l k = none := by
    intro h
    rw [mget_none]
    intro hk
    obtain ⟨p, hp, e⟩ := List.mem_map.1 hk
    obtain ⟨j, hj, rfl⟩ := List.getElem_of_mem hp
    exact h j hj e
  by_cases h : place l k < l.length
  · rw [dif_pos h]
    by_cases he : l[place l k].1 = k
    · rw [if_pos he]
      refine mget_of_mem hr.nodup ?_
      have : (k, l[place l k].2) = l[place l k] := Prod.ext he.symm rfl
      rw [this]
      exact List.getElem_mem h
    · rw [if_neg he]
      refine none_of fun j hj e => ?_
      rcases Nat.lt_trichotomy j (place l k) with h1 | h1 | h1
      · exact lt_irrefl k (by have := place_before h1 hj; rwa [e] at this)
      · subst h1; exact he e
      · have := hlt _ _ h hj h1
        rw [e] at this
        exact place_at h this
  · rw [dif_neg h]
    refine none_of fun j hj e => ?_
    have hp : j < place l k := by have := place_le l k; omega
    exact lt_irrefl k (by have := place_before hp hj; rwa [e] at this)

/-! ### All of a row -/
theorem all_true {O : Type} {body : Int → Option (Int ⊕ O)} {n : Nat} {o : O} (j : Nat) (hj : j ≤ n) (h : ∀ i, j ≤ i → i < n → body (i : Int) = some (.inl ((i + 1 : Nat) : Int))) (hn : body (n : Int) = some (.inr o)) : whileO body (j : Int) = some o := by
  have := whileO_run (body := body) (fun i => ((j + i : Nat) : Int)) (n - j) (fun i hi => by have := h (j + i) (by omega) (by omega); rw [this]; rfl) (by rw [show j + (n - j) = n by omega]; exact hn)
  simpa using this
theorem all_false {O : Type} {body : Int → Option (Int ⊕ O)} {p : Nat → Prop} {n : Nat} {o : O} (h : ∀ i, i < n → p i → body (i : Int) = some (.inl ((i + 1 : Nat) : Int))) (h' : ∀ i, i < n → ¬ p i → body (i : Int) = some (.inr o)) (hx : ∃ i, i < n ∧ ¬ p i) : whileO body 0 = some o := by
  have key : ∀ k i, i + k = n → (∃ j, i ≤ j ∧ j < n ∧ ¬ p j) → whileO body (i : Int) = some o := by
    intro k
    induction k with
    | zero => rintro i hi ⟨j, h1, h2, _⟩; omega
    | succ k ih =>
      rintro i hi ⟨j, h1, h2, h3⟩
      rw [whileO_eq]
      by_cases hp : p i
      · rw [h i (by omega) hp]
        refine ih (i + 1) (by omega) ⟨j, ?_, h2, h3⟩
        have : i ≠ j := fun e => h3 (e ▸ hp)
        omega
      · rw [h' i (by omega) hp]; rfl
  obtain ⟨i, h1, h2⟩ := hx
  exact key n 0 (by omega) ⟨i, by omega, h1, h2⟩

theorem row_same {α : Type} [DecidableEq α] {body : Int → Option (Int ⊕ (Unit ⊕ Bool))} (x y : List α) (hl : x.length = y.length)
    (h1 : ∀ i (h : i < x.length) (h' : i < y.length), body (i : Int) = if x[i] = y[i] then some (.inl ((i + 1 : Nat) : Int)) else some (.inr (.inr false))) (h2 : body (x.length : Int) = some (.inr (.inl ()))) :
    (whileO body 0).bind (fun o => Sum.elim (fun _ : Unit => some true) (fun w => some w) o) = some (decide (x = y)) := by
  by_cases he : x = y
  · subst he
    refine (bind_of (all_true (n := x.length) 0 (by omega) (fun i _ hi => by rw [h1 i hi hi, if_pos rfl]) h2)).trans ?_
    simp
  · have hx : ∃ i, i < x.length ∧ ¬ x[i]? = y[i]? := by
      refine Classical.byContradiction fun hc => he ?_
      apply List.ext_getElem? 
      intro i
      by_cases hi : i < x.length
      · exact Classical.byContradiction fun hp => hc ⟨i, hi, hp⟩
      · rw [List.getElem?_eq_none (by omega), List.getElem?_eq_none (by omega)]
    have hf := all_false (body := body) (n := x.length) (p := fun i => x[i]? = y[i]?) (o := .inr false) (fun i hi hp => by
      have hy : i < y.length := by omega
      rw [h1 i hi hy, if_pos (by simpa [hi, hy] using hp)]) (fun i hi hp => by
      have hy : i < y.length := by omega
      rw [h1 i hi hy, if_neg (by simpa [hi, hy] using hp)]) hx
    refine (bind_of hf).trans ?_
    simp [he]

theorem same_eq (x y : List Pr) (hl : x.length ≤ 1000000) : ref09_Same x y = some (decide (x = y)) := by
  unfold ref09_Same
  by_cases h : x.length = y.length
  · have : decide ((x.length : Int) ≠ (y.length : Int)) = false := by simp [h]
    rw [this, cond_false]
    refine row_same x y h (fun i hx hy => ?_) ?_
    · simp only [ilt hx, cond_true, gx_nat hx, gx_nat hy, Option.bind_some, wrap_succ (show i < 9223372036854775807 by omega)]
      by_cases he : x[i] = y[i]
      · simp [he]
      · have : ¬ (x[i].1 = y[i].1 ∧ x[i].2 = y[i].2) := fun ⟨a, b⟩ => he (Prod.ext a b)
        by_cases ha : x[i].1 = y[i].1
        · have hb : ¬ x[i].2 = y[i].2 := fun b => this ⟨ha, b⟩
          simp [he, ha, hb]
        · simp [he, ha]
    · simp only [ige, cond_false]
  · have h1 : decide ((x.length : Int) ≠ (y.length : Int)) = true := by simp; omega
    rw [h1, cond_true]
    have : ¬ x = y := fun e => h (by rw [e])
    simp [this]

theorem sameChanges_eq (x y : List Cg) (hl : x.length ≤ 1000000) : ref09_SameChanges x y = some (decide (x = y)) := by
  unfold ref09_SameChanges
  by_cases h : x.length = y.length
  · have : decide ((x.length : Int) ≠ (y.length : Int)) = false := by simp [h]
    rw [this, cond_false]
    refine row_same x y h (fun i hx hy => ?_) ?_
    · simp only [ilt hx, cond_true, gx_nat hx, gx_nat hy, Option.bind_some, wrap_succ (show i < 9223372036854775807 by omega)]
      by_cases he : x[i] = y[i]
      · simp [he]
      · have : ¬ (x[i].1 = y[i].1 ∧ x[i].2.1 = y[i].2.1 ∧ x[i].2.2 = y[i].2.2) := fun ⟨a, b, c⟩ => he (Prod.ext a (Prod.ext b c))
        by_cases ha : x[i].1 = y[i].1
        · by_cases hb : x[i].2.1 = y[i].2.1
          · have hc : ¬ x[i].2.2 = y[i].2.2 := fun c => this ⟨ha, hb, c⟩
            have hd : (x[i].2.2 == y[i].2.2) = false := by simpa using hc
            simp [he, ha, hb, hd]
          · simp [he, ha, hb]
        · simp [he, ha]
    · simp only [ige, cond_false]
  · have h1 : decide ((x.length : Int) ≠ (y.length : Int)) = true := by simp; omega
    rw [h1, cond_true]
    have : ¬ x = y := fun e => h (by rw [e])
    simp [this]

/-! ### Join -/
theorem concat_eq (ls : List (List Cg)) (hl : ls.length ≤ 1000) (he : ∀ x ∈ ls, x.length ≤ 1000) : slices_Concat ls = some ls.flatten := by
  unfold slices_Concat
  have hx : ∀ i (hi : i < ls.length), ls[i].length ≤ 1000 := fun i hi => he _ (List.getElem_mem hi)
  refine (bind_of (whileO_for ls (fun i (s : Nat) => ((s : Int), (i : Int))) (fun s x => s + x.length) (fun i s => s ≤ i * 1000) (fun s => (s : Int)) 0 (by omega) (fun i hi s hs => ⟨?_, ?_⟩) (fun s _ => ?_))).trans ?_
  · have h1 := hx i hi
    have hw : IntKind.wrap .i64 ((s : Int) + (ls[i].length : Int)) = ((s + ls[i].length : Nat) : Int) := by rw [wrap_i64 (by omega)]; omega
    have hn : decide (((s + ls[i].length : Nat) : Int) < 0) = false := by simp; omega
    simp only [ilt hi, cond_true, gx_nat hi, Option.bind_some, hw, hn, cond_false, wrap_succ (show i < 9223372036854775807 by omega)]
  · have h1 := hx i hi
    show s + ls[i].length ≤ (i + 1) * 1000
    omega
  · simp only [ige, cond_false]
  · have hsum : ls.foldl (fun s x => s + x.length) 0 ≤ 1000000 := by
      have key : ∀ (l : List (List Cg)) (s : Nat), (∀ x ∈ l, x.length ≤ 1000) → l.foldl (fun s x => s + x.length) s ≤ s + l.length * 1000 := by
        intro l
        induction l with
        | nil => intro s _; simp
        | cons x l ih =>
          intro s h
          have h1 := h x (by simp)
          have h2 := ih (s + x.length) (fun y hy => h y (by simp [hy]))
          simp only [List.foldl_cons, List.length_cons]
          omega
      have := key ls 0 he
      omega
    generalize ls.foldl (fun s x => s + x.length) 0 = q at hsum
    rw [bind_of (ck_of (by omega))]
    refine bind_id ((whileO_for ls (fun i s => ((i : Int), s)) (fun s x => s ++ x) (fun i s => s.length ≤ i * 1000) id [] (by simp) (fun i hi s hs => ⟨?_, ?_⟩) (fun s _ => ?_)).trans ?_)
    · have h1 := hx i hi
      simp only [ilt hi, cond_true, gx_nat hi, Option.bind_some, wrap_succ (show i < 9223372036854775807 by omega)]
      rw [bind_of (fits_of (by omega))]
    · have h1 := hx i hi
      simp only [List.length_append]
      omega
    · simp only [ige, cond_false, id]
    · simp only [id]
      have key : ∀ (l : List (List Cg)) (s : List Cg), l.foldl (fun s x => s ++ x) s = s ++ l.flatten := by
        intro l
        induction l with
        | nil => intro s; simp
        | cons x l ih => intro s; rw [List.foldl_cons, ih]; simp
      rw [key]; rfl

/-- A change that takes away has no value. -/
def normC (c : Cg) : Cg := if c.2.2 = true then (c.1, mt, c.2.2) else c
def normE (e : ByteArray × Bool) : ByteArray × Bool := if e.2 = true then (mt, e.2) else e
theorem normC_key (c : Cg) : (normC c).1 = c.1 := by unfold normC; split <;> rfl
theorem normC_val (c : Cg) : (normC c).2 = normE c.2 := by unfold normC normE; split <;> simp_all
theorem normE_idem (e : ByteArray × Bool) : normE (normE e) = normE e := by
  obtain ⟨v, g⟩ := e
  cases g <;> rfl
theorem eff_normE (e : ByteArray × Bool) : eff (normE e) = eff e := by
  obtain ⟨v, g⟩ := e
  cases g <;> rfl
def joinM (cs : List Cg) : List (List UInt8 × Cg) := valuesP (cs.map fun c => (c.1, normC c))
def joinP (cs : List Cg) : List Cg := riseP (joinM cs)

theorem mget_map_key {β γ : Type} (g : List UInt8 × β → γ) (l : List (List UInt8 × β)) (k : List UInt8) : mget (l.map fun p => (p.1, g p)) k = (mget l k).map fun v => g (k, v) := by
  induction l with
  | nil => rfl
  | cons p l ih =>
    rw [List.map_cons, mget_cons, mget_cons, ih]
    by_cases h : k = p.1
    · subst h; simp
    · simp [h]
theorem joinM_own (cs : List Cg) : OwnKey (joinM cs) := by
  have key : ∀ (l : List Cg) (m : List (List UInt8 × Cg)), OwnKey m → OwnKey ((l.map fun c => (c.1, normC c)).foldl (fun m p => mset m p.1 p.2) m) := by
    intro l
    have := own_foldl (β := ByteArray × Bool) (fun _ => true) normC normC_key l
    intro m hm
    have h := this m hm
    rw [List.foldl_map]
    simpa using h
  exact key cs [] (fun p hp => by cases hp)
theorem joinM_nodup (cs : List Cg) : ((joinM cs).map (·.1)).Nodup := valuesP_nodup _
theorem joinP_rising (cs : List Cg) : Rising (joinP cs) := riseP_rising (joinM_own cs) (joinM_nodup cs)
theorem mget_joinP (cs : List Cg) (k : List UInt8) : mget (joinP cs) k = (mget cs.reverse k).map normE := by
  unfold joinP
  rw [mget_riseP (joinM_own cs) (joinM_nodup cs)]
  unfold joinM
  rw [mget_valuesP, ← List.map_reverse, mget_map_key]
  cases mget cs.reverse k with
  | none => rfl
  | some v => simp only [Option.map_some]; rw [normC_val]
theorem joinP_len (cs : List Cg) : (joinP cs).length ≤ cs.length := by
  unfold joinP
  rw [riseP_len]
  have := valuesP_len (cs.map fun c => (c.1, normC c))
  rw [List.length_map] at this
  exact this
theorem updF_joinP (f : Fn) (cs : List Cg) : updF f (joinP cs) = updF f cs := by
  funext k
  rw [updF_nodup (joinP_rising cs).nodup, mget_joinP]
  unfold updF
  cases mget cs.reverse k with
  | none => rfl
  | some e => simp only [Option.map_some]; exact eff_normE e

theorem join_eq (ls : List (List Cg)) (hl : ls.length ≤ 1000) (he : ∀ x ∈ ls, x.length ≤ 1000) (hs : ls.flatten.length ≤ 1000000) : delta_Join ls = some (joinP ls.flatten) := by
  unfold delta_Join
  have hn : ∀ c : Cg, (cond c.2.2 (some (c.1, (ByteArray.mk #[]), c.2.2)) (some c) : Option Cg) = some (normC c) := by
    intro c
    obtain ⟨k, v, g⟩ := c
    cases g <;> rfl
  have h := whileO_for (body := fun v103 : Int × List (List UInt8 × Cg) =>
      cond (decide (v103.1 < (ls.flatten.length : Int))) (
        (gx ls.flatten v103.1).bind fun x110 =>
        (((
          cond x110.2.2 (
            some (x110.1, (ByteArray.mk #[]), x110.2.2)
          ) (
            some x110
          )
        ) : Option ((List UInt8) × ByteArray × Bool))).bind fun o116 =>
        some (.inl ((IntKind.wrap .i64 (v103.1 + 1)), (mset v103.2 o116.1 o116)))
      ) (
        some (.inr v103.2)
      )) ls.flatten (fun i s => ((i : Int), s)) (fun m c => mset m c.1 (normC c)) (fun _ _ => True) id [] trivial (fun i hi s _ => ⟨?_, trivial⟩) (fun s _ => ?_)
  · rw [bind_of (concat_eq ls hl he)]
    refine (bind_of h).trans ?_
    have e : ls.flatten.foldl (fun m c => mset m c.1 (normC c)) [] = joinM ls.flatten := by
      unfold joinM valuesP
      rw [List.foldl_map]
    have hlen := valuesP_len (ls.flatten.map fun c => (c.1, normC c))
    rw [List.length_map] at hlen
    simp only [id]
    rw [e, bind_of (rising_eq (joinM ls.flatten) (by unfold joinM; omega))]
    rfl
  · simp only [ilt hi, cond_true, gx_nat hi, Option.bind_some, hn, normC_key, wrap_succ (show i < 9223372036854775807 by omega)]
  · simp only [ige, cond_false, id]

theorem joinP_idem (cs : List Cg) : joinP (joinP cs) = joinP cs := by
  refine rising_ext (joinP_rising _) (joinP_rising _) fun k => ?_
  rw [mget_joinP, mget_perm (joinP_rising cs).nodup (List.reverse_perm _), mget_joinP]
  cases mget cs.reverse k with
  | none => rfl
  | some e => simp only [Option.map_some, normE_idem]
theorem joinP_three (x y : List Cg) : joinP (joinP x ++ y) = joinP (x ++ y) := by
  refine rising_ext (joinP_rising _) (joinP_rising _) fun k => ?_
  rw [mget_joinP, mget_joinP, List.reverse_append, List.reverse_append, mget_append, mget_append, mget_perm (joinP_rising x).nodup (List.reverse_perm _), mget_joinP]
  cases mget y.reverse k with
  | some e => rfl
  | none =>
    simp only [Option.none_or]
    cases mget x.reverse k with
    | none => rfl
    | some e => simp only [Option.map_some, normE_idem]

theorem flat1 (x : List Cg) : [x].flatten = x := by simp
theorem flat2 (x y : List Cg) : [x, y].flatten = x ++ y := by simp
theorem join1_eq (x : List Cg) (hx : x.length ≤ 1000) : delta_Join [x] = some (joinP x) := by
  have := join_eq [x] (by simp) (by intro z hz; simp at hz; subst hz; exact hx) (by rw [flat1]; omega)
  rwa [flat1] at this
theorem join2_eq (x y : List Cg) (hx : x.length ≤ 1000) (hy : y.length ≤ 1000) : delta_Join [x, y] = some (joinP (x ++ y)) := by
  have := join_eq [x, y] (by simp) (by intro z hz; simp at hz; rcases hz with rfl | rfl <;> assumption) (by rw [flat2, List.length_append]; omega)
  rwa [flat2] at this

end Go.Val

