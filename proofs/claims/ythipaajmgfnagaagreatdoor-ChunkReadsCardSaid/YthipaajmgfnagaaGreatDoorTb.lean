/- What the twins are: sameness of rows, Join. -/
import Derived.Test.YthipaajmgfnagaaGreatDoorTa
set_option linter.unusedSectionVars false
set_option linter.unusedVariables false
set_option linter.unusedSimpArgs false
namespace Go.Val
open Go.Lib

/-- The place of a key. -/
def place {β : Type} (l : List (List UInt8 × β)) (k : List UInt8) : Nat := l.findIdx (fun p => !decide (Lt p.1 k))
theorem place_le {β : Type} (l : List (List UInt8 × β)) (k : List UInt8) : place l k ≤ l.length := List.findIdx_le_length
theorem place_before {β : Type} {l : List (List UInt8 × β)} {k : List UInt8} {i : Nat} (h : i < place l k) (hi : i < l.length) : Lt l[i].1 k := by
  have := List.not_of_lt_findIdx h
  simpa using this
theorem place_at {β : Type} {l : List (List UInt8 × β)} {k : List UInt8} (h : place l k < l.length) : ¬ Lt l[place l k].1 k := by
  have := List.findIdx_getElem (xs := l) (p := fun p : List UInt8 × β => !decide (Lt p.1 k)) (w := h)
  simp only [Bool.not_eq_true', decide_eq_false_iff_not] at this
  exact this

theorem mget_place {β : Type} {l : List (List UInt8 × β)} (hr : Rising l) (k : List UInt8) : mget l k = if h : place l k < l.length then (if l[place l k].1 = k then some l[place l k].2 else none) else none := by
  have hlt : ∀ i j (hi : i < l.length) (hj : j < l.length), i < j → Lt l[i].1 l[j].1 := by
    intro i j hi hj hij
    have := List.pairwise_iff_getElem.1 hr i j (by simpa using hi) (by simpa using hj) hij
    simpa using this
  have none_of : (∀ j (hj : j < l.length), l[j].1 ≠ k) → mget l k = none := by
    intro h
    rw [mget_none]
    intro hk
    obtain ⟨p, hp, e⟩ := List.mem_map.1 hk
    obtain ⟨j, hj, rfl⟩ := List.getElem_of_mem hp
    exact h j hj e
  by_cases h : place l k < l.length
  · rw [dif_pos h]
    by_cases he : l[place l k].1 = k
    · rw [if_pos he]
      refine mget_of_mem hr.nodup ?_
      have : (k, l[place l k].2) = l[place l k] := Prod.ext he.symm rfl
      rw [this]
      exact List.getElem_mem h
    · rw [if_neg he]
      refine none_of fun j hj e => ?_
      rcases Nat.lt_trichotomy j (place l k) with h1 | h1 | h1
      · exact lt_irrefl k (by have := place_before h1 hj; rwa [e] at this)
      · subst h1; exact he e
      · have := hlt _ _ h hj h1
        rw [e] at this
        exact place_at h this
  · rw [dif_neg h]
    refine none_of fun j hj e => ?_
    have hp : j < place l k := by have := place_le l k; omega
    exact lt_irrefl k (by have := place_before hp hj; rwa [e] at this)

/-! ### All of a row -/
theorem all_true {O : Type} {body : Int → Option (Int ⊕ O)} {n : Nat} {o : O} (j : Nat) (hj : j ≤ n) (h : ∀ i, j ≤ i → i < n → body (i : Int) = some (.inl ((i + 1 : Nat) : Int))) (hn : body (n : Int) = some (.inr o)) : whileO body (j : Int) = some o := by
  have := whileO_run (body := body) (fun i => ((j + i : Nat) : Int)) (n - j) (fun i hi => by have := h (j + i) (by omega) (by omega); rw [this]; rfl) (by rw [show j + (n - j) = n by omega]; exact hn)
  simpa using this
theorem all_false {O : Type} {body : Int → Option (Int ⊕ O)} {p : Nat → Prop} {n : Nat} {o : O} (h : ∀ i, i < n → p i → body (i : Int) = some (.inl ((i + 1 : Nat) : Int))) (h' : ∀ i, i < n → ¬ p i → body (i : Int) = some (.inr o)) (hx : ∃ i, i < n ∧ ¬ p i) : whileO body 0 = some o := by
  have key : ∀ k i, i + k = n → (∃ j, i ≤ j ∧ j < n ∧ ¬ p j) → whileO body (i : Int) = some o := by
    intro k
    induction k with
    | zero => rintro i hi ⟨j, h1, h2, _⟩; omega
    | succ k ih =>
      rintro i hi ⟨j, h1, h2, h3⟩
      rw [whileO_eq]
      by_cases hp : p i
      · rw [h i (by omega) hp]
        refine ih (i + 1) (by omega) ⟨j, ?_, h2, h3⟩
        have : i ≠ j := fun e => h3 (e ▸ hp)
        omega
      · rw [h' i (by omega) hp]; rfl
  obtain ⟨i, h1, h2⟩ := hx
  exact key n 0 (by omega) ⟨i, by omega, h1, h2⟩

/-! ### Join -/
theorem concat_eq (ls : List (List Cg)) (hl : ls.length ≤ 1000) (he : ∀ x ∈ ls, x.length ≤ 1000) : slices_Concat ls = some ls.flatten := by
  unfold slices_Concat
  have hx : ∀ i (hi : i < ls.length), ls[i].length ≤ 1000 := fun i hi => he _ (List.getElem_mem hi)
  refine (bind_of (whileO_for ls (fun i (s : Nat) => ((s : Int), (i : Int))) (fun s x => s + x.length) (fun i s => s ≤ i * 1000) (fun s => (s : Int)) 0 (by omega) (fun i hi s hs => ⟨?_, ?_⟩) (fun s _ => ?_))).trans ?_
  · have h1 := hx i hi
    have hw : IntKind.wrap .i64 ((s : Int) + (ls[i].length : Int)) = ((s + ls[i].length : Nat) : Int) := by rw [wrap_i64 (by omega)]; omega
    have hn : decide (((s + ls[i].length : Nat) : Int) < 0) = false := by simp; omega
    simp only [ilt hi, cond_true, gx_nat hi, Option.bind_some, hw, hn, cond_false, wrap_succ (show i < 9223372036854775807 by omega)]
  · have h1 := hx i hi
    show s + ls[i].length ≤ (i + 1) * 1000
    omega
  · simp only [ige, cond_false]
  · have hsum : ls.foldl (fun s x => s + x.length) 0 ≤ 1000000 := by
      have key : ∀ (l : List (List Cg)) (s : Nat), (∀ x ∈ l, x.length ≤ 1000) → l.foldl (fun s x => s + x.length) s ≤ s + l.length * 1000 := by
        intro l
        induction l with
        | nil => intro s _; simp
        | cons x l ih =>
          intro s h
          have h1 := h x (by simp)
          have h2 := ih (s + x.length) (fun y hy => h y (by simp [hy]))
          simp only [List.foldl_cons, List.length_cons]
          omega
      have := key ls 0 he
      omega
    generalize ls.foldl (fun s x => s + x.length) 0 = q at hsum
    rw [bind_of (ck_of (by omega))]
    refine bind_id ((whileO_for ls (fun i s => ((i : Int), s)) (fun s x => s ++ x) (fun i s => s.length ≤ i * 1000) id [] (by simp) (fun i hi s hs => ⟨?_, ?_⟩) (fun s _ => ?_)).trans ?_)
    · have h1 := hx i hi
      simp only [ilt hi, cond_true, gx_nat hi, Option.bind_some, wrap_succ (show i < 9223372036854775807 by omega)]
      rw [bind_of (fits_of (by omega))]
    · have h1 := hx i hi
      simp only [List.length_append]
      omega
    · simp only [ige, cond_false, id]
    · simp only [id]
      have key : ∀ (l : List (List Cg)) (s : List Cg), l.foldl (fun s x => s ++ x) s = s ++ l.flatten := by
        intro l
        induction l with
        | nil => intro s; simp
        | cons x l ih => intro s; rw [List.foldl_cons, ih]; simp
      rw [key]; rfl

/-- A change that takes away has no value. -/
def normC (c : Cg) : Cg := if c.2.2 = true then (c.1, mt, c.2.2) else c
def normE (e : ByteArray × Bool) : ByteArray × Bool := if e.2 = true then (mt, e.2) else e
theorem normC_key (c : Cg) : (normC c).1 = c.1 := by unfold normC; split <;> rfl
theorem normC_val (c : Cg) : (normC c).2 = normE c.2 := by unfold normC normE; split <;> simp_all
def joinM (cs : List Cg) : List (List UInt8 × Cg) := valuesP (cs.map fun c => (c.1, normC c))
def joinP (cs : List Cg) : List Cg := riseP (joinM cs)

theorem mget_map_key {β γ : Type} (g : List UInt8 × β → γ) (l : List (List UInt8 × β)) (k : List UInt8) : mget (l.map fun p => (p.1, g p)) k = (mget l k).map fun v => g (k, v) := by
  induction l with
  | nil => rfl
  | cons p l ih =>
    rw [List.map_cons, mget_cons, mget_cons, ih]
    by_cases h : k = p.1
    · subst h; simp
    · simp [h]
theorem joinM_own (cs : List Cg) : OwnKey (joinM cs) := by
  have key : ∀ (l : List Cg) (m : List (List UInt8 × Cg)), OwnKey m → OwnKey ((l.map fun c => (c.1, normC c)).foldl (fun m p => mset m p.1 p.2) m) := by
    intro l
    have := own_foldl (β := ByteArray × Bool) (fun _ => true) normC normC_key l
    intro m hm
    have h := this m hm
    rw [List.foldl_map]
    simpa using h
  exact key cs [] (fun p hp => by cases hp)
theorem joinM_nodup (cs : List Cg) : ((joinM cs).map (·.1)).Nodup := valuesP_nodup _
theorem joinP_rising (cs : List Cg) : Rising (joinP cs) := riseP_rising (joinM_own cs) (joinM_nodup cs)
theorem mget_joinP (cs : List Cg) (k : List UInt8) : mget (joinP cs) k = (mget cs.reverse k).map normE := by
  unfold joinP
  rw [mget_riseP (joinM_own cs) (joinM_nodup cs)]
  unfold joinM
  rw [mget_valuesP, ← List.map_reverse, mget_map_key]
  cases mget cs.reverse k with
  | none => rfl
  | some v => simp only [Option.map_some]; rw [normC_val]
theorem join_eq (ls : List (List Cg)) (hl : ls.length ≤ 1000) (he : ∀ x ∈ ls, x.length ≤ 1000) (hs : ls.flatten.length ≤ 1000000) : delta_Join ls = some (joinP ls.flatten) := by
  unfold delta_Join
  have hn : ∀ c : Cg, (cond c.2.2 (some (c.1, (ByteArray.mk #[]), c.2.2)) (some c) : Option Cg) = some (normC c) := by
    intro c
    obtain ⟨k, v, g⟩ := c
    cases g <;> rfl
  have h := whileO_for (body := fun v103 : Int × List (List UInt8 × Cg) =>
      cond (decide (v103.1 < (ls.flatten.length : Int))) (
        (gx ls.flatten v103.1).bind fun x110 =>
        (((
          cond x110.2.2 (
            some (x110.1, (ByteArray.mk #[]), x110.2.2)
          ) (
            some x110
          )
        ) : Option ((List UInt8) × ByteArray × Bool))).bind fun o116 =>
        some (.inl ((IntKind.wrap .i64 (v103.1 + 1)), (mset v103.2 o116.1 o116)))
      ) (
        some (.inr v103.2)
      )) ls.flatten (fun i s => ((i : Int), s)) (fun m c => mset m c.1 (normC c)) (fun _ _ => True) id [] trivial (fun i hi s _ => ⟨?_, trivial⟩) (fun s _ => ?_)
  · rw [bind_of (concat_eq ls hl he)]
    refine (bind_of h).trans ?_
    have e : ls.flatten.foldl (fun m c => mset m c.1 (normC c)) [] = joinM ls.flatten := by
      unfold joinM valuesP
      rw [List.foldl_map]
    have hlen := valuesP_len (ls.flatten.map fun c => (c.1, normC c))
    rw [List.length_map] at hlen
    simp only [id]
    rw [e, bind_of (rising_eq (joinM ls.flatten) (by unfold joinM; omega))]
    rfl
  · simp only [ilt hi, cond_true, gx_nat hi, Option.bind_some, hn, normC_key, wrap_succ (show i < 9223372036854775807 by omega)]
  · simp only [ige, cond_false, id]

theorem flat1 (x : List Cg) : [x].flatten = x := by simp
theorem join1_eq (x : List Cg) (hx : x.length ≤ 1000) : delta_Join [x] = some (joinP x) := by
  have := join_eq [x] (by simp) (by intro z hz; simp at hz; subst hz; exact hx) (by rw [flat1]; omega)
  rwa [flat1] at this
end Go.Val

