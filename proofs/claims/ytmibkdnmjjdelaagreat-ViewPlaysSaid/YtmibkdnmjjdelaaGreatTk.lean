/- What the twins are: the document's answer for maps and deltas. -/
import Derived.Test.YtmibkdnmjjdelaaGreatTgs
import Derived.Test.YtmibkdnmjjdelaaGreatLd
set_option linter.unusedSectionVars false
set_option linter.unusedVariables false
set_option linter.unusedSimpArgs false
namespace Go.Val
open Go.Lib

theorem less_eq (a b : List UInt8) : ref03_Less a b = some (decide (Lt a b)) := by
  unfold ref03_Less
  exact congrArg some (cb_less a b)

theorem place_loop {β : Type} {body : Int → Option (Int ⊕ Int)} (l : List (List UInt8 × β)) (k : List UInt8)
    (h1 : ∀ i (hi : i < l.length), body (i : Int) = if Lt l[i].1 k then some (.inl ((i + 1 : Nat) : Int)) else some (.inr (i : Int))) (h2 : body (l.length : Int) = some (.inr (l.length : Int))) : whileO body 0 = some (place l k : Int) := by
  refine whileO_run (fun i => (i : Int)) (place l k) (fun i hi => ?_) ?_
  · have hl : i < l.length := Nat.lt_of_lt_of_le hi (place_le l k)
    rw [h1 i hl, if_pos (place_before hi hl)]
  · by_cases hl : place l k < l.length
    · rw [h1 _ hl, if_neg (place_at hl)]
    · have : place l k = l.length := Nat.le_antisymm (place_le l k) (Nat.le_of_not_lt hl)
      rw [this]; exact h2

theorem find_eq (l : List Pr) (k : List UInt8) (hl : l.length ≤ 1000000) : ref09_find l k = some ((place l k : Int), decide (∃ h : place l k < l.length, l[place l k].1 = k)) := by
  unfold ref09_find
  refine (bind_of (place_loop l k (fun i hi => ?_) ?_)).trans ?_
  · simp only [ilt hi, cond_true, gx_nat hi, Option.bind_some, less_eq, wrap_succ (show i < 9223372036854775807 by omega)]
    by_cases h : Lt l[i].1 k <;> simp [h]
  · simp only [ige, cond_false]
  · by_cases hp : place l k < l.length
    · simp only [ilt hp, cond_true, gx_nat hp, Option.bind_some]
      simp [hp]
    · have : decide ((place l k : Int) < (l.length : Int)) = false := by simp; omega
      simp only [this, cond_false, Option.bind_some]
      simp [hp]

theorem get_eq {l : List Pr} (hr : Rising l) (k : List UInt8) (hl : l.length ≤ 1000000) : ref09_Get l k = some ((mget l k).getD mt, (mget l k).isSome) := by
  unfold ref09_Get
  rw [bind_of (find_eq l k hl), mget_place hr]
  by_cases h : place l k < l.length
  · by_cases he : l[place l k].1 = k
    · simp only [h, he, exists_true_left, decide_true, Bool.not_true, cond_false, gx_nat h, Option.bind_some, dif_pos, if_true, Option.getD_some, Option.isSome_some]
    · simp only [h, he, exists_true_left, decide_false, Bool.not_false, cond_true, dif_pos, if_false, Option.getD_none, Option.isSome_none]; rfl
  · simp [h]; rfl



section
variable {β : Type}
/-- Is the key at its place? -/
def hit (l : List (List UInt8 × β)) (k : List UInt8) : Bool := decide (∃ h : place l k < l.length, l[place l k].1 = k)
theorem hit_iff {l : List (List UInt8 × β)} {k : List UInt8} : hit l k = true ↔ ∃ h : place l k < l.length, l[place l k].1 = k := by simp [hit]
/-- A pair, put in where it belongs. -/
def ins (l : List (List UInt8 × β)) (p : List UInt8 × β) : List (List UInt8 × β) := l.take (place l p.1) ++ [p] ++ l.drop (if hit l p.1 = true then place l p.1 + 1 else place l p.1)
/-- A key, taken out. -/
def del (l : List (List UInt8 × β)) (k : List UInt8) : List (List UInt8 × β) := if hit l k = true then l.take (place l k) ++ l.drop (place l k + 1) else l

theorem take_lt {l : List (List UInt8 × β)} {k : List UInt8} {p : List UInt8 × β} (hp : p ∈ l.take (place l k)) : Lt p.1 k := by
  obtain ⟨i, hi, rfl⟩ := List.getElem_of_mem hp
  rw [List.length_take] at hi
  rw [List.getElem_take]
  exact place_before (by omega) (by omega)
theorem drop_gt {l : List (List UInt8 × β)} (hr : Rising l) {k : List UInt8} {p : List UInt8 × β} (hp : p ∈ l.drop (if hit l k = true then place l k + 1 else place l k)) : Lt k p.1 := by
  obtain ⟨i, hi, rfl⟩ := List.getElem_of_mem hp
  rw [List.length_drop] at hi
  rw [List.getElem_drop]
  have hpl : place l k < l.length := by
    by_cases h : hit l k = true <;> simp only [h, if_true, if_false, Bool.false_eq_true] at hi <;> omega
  have hlt : ∀ i j (hi : i < l.length) (hj : j < l.length), i < j → Lt l[i].1 l[j].1 := by
    intro i j hi hj hij
    have := List.pairwise_iff_getElem.1 hr i j (by simpa using hi) (by simpa using hj) hij
    simpa using this
  by_cases h : hit l k = true
  · obtain ⟨_, he⟩ := hit_iff.1 h
    simp only [h, if_true] at hi ⊢
    have := hlt (place l k) (place l k + 1 + i) hpl (by omega) (by omega)
    rwa [he] at this
  · simp only [h, if_false, Bool.false_eq_true] at hi ⊢
    have hne : ¬ l[place l k].1 = k := fun e => h (hit_iff.2 ⟨hpl, e⟩)
    have h0 : Lt k l[place l k].1 := by
      rcases lt_or l[place l k].1 k with q | q | q
      · exact absurd q (place_at hpl)
      · exact absurd q hne
      · exact q
    by_cases hi0 : i = 0
    · subst hi0; exact h0
    · exact lt_trans h0 (hlt _ _ hpl (by omega) (by omega))
theorem ins_rising {l : List (List UInt8 × β)} (hr : Rising l) (p : List UInt8 × β) : Rising (ins l p) := by
  unfold Rising ins
  rw [List.map_append, List.map_append]
  refine List.pairwise_append.2 ⟨List.pairwise_append.2 ⟨?_, by simp, ?_⟩, ?_, ?_⟩
  · exact List.Pairwise.sublist ((List.take_sublist _ _).map _) hr
  · intro a ha b hb
    obtain ⟨q, hq, rfl⟩ := List.mem_map.1 ha
    simp at hb
    subst hb
    exact take_lt hq
  · exact List.Pairwise.sublist ((List.drop_sublist _ _).map _) hr
  · intro a ha b hb
    obtain ⟨r, hr', rfl⟩ := List.mem_map.1 hb
    have h2 := drop_gt hr hr'
    rcases List.mem_append.1 ha with h | h
    · obtain ⟨q, hq, rfl⟩ := List.mem_map.1 h
      exact lt_trans (take_lt hq) h2
    · simp at h; subst h; exact h2
theorem split_at (l : List (List UInt8 × β)) (k k' : List UInt8) (hne : k' ≠ k) : mget l k' = (mget (l.take (place l k)) k').or (mget (l.drop (if hit l k = true then place l k + 1 else place l k)) k') := by
  have e : mget l k' = (mget (l.take (place l k)) k').or (mget (l.drop (place l k)) k') := by rw [← mget_append, List.take_append_drop]
  rw [e]
  by_cases h : hit l k = true
  · obtain ⟨hl, he⟩ := hit_iff.1 h
    simp only [h, if_true]
    rw [List.drop_eq_getElem_cons hl, mget_cons, if_neg (by rw [he]; exact hne)]
  · simp only [h, if_false, Bool.false_eq_true]
theorem take_none (l : List (List UInt8 × β)) (k : List UInt8) : mget (l.take (place l k)) k = none := by
  rw [mget_none]
  intro h
  obtain ⟨q, hq, e⟩ := List.mem_map.1 h
  have := take_lt hq
  rw [e] at this
  exact lt_irrefl _ this
theorem mget_ins {l : List (List UInt8 × β)} (p : List UInt8 × β) (k : List UInt8) : mget (ins l p) k = if k = p.1 then some p.2 else mget l k := by
  unfold ins
  rw [mget_append, mget_append, mget_cons, mget_nil]
  by_cases h : k = p.1
  · rw [if_pos h, if_pos h, h, take_none]; rfl
  · rw [if_neg h, if_neg h, split_at l p.1 k h]
    cases mget (l.take (place l p.1)) k <;> rfl
theorem ins_len (l : List (List UInt8 × β)) (p : List UInt8 × β) : (ins l p).length ≤ l.length + 1 := by
  unfold ins
  have := place_le l p.1
  simp only [List.length_append, List.length_take, List.length_drop, List.length_cons, List.length_nil]
  split <;> omega
theorem del_rising {l : List (List UInt8 × β)} (hr : Rising l) (k : List UInt8) : Rising (del l k) := by
  unfold del
  split
  · have hs : (l.take (place l k) ++ l.drop (place l k + 1)).Sublist l := by
      conv => rhs; rw [← List.take_append_drop (place l k) l]
      refine List.Sublist.append_left ?_ _
      rw [← List.drop_drop]
      exact List.drop_sublist _ _
    exact List.Pairwise.sublist (hs.map _) hr
  · exact hr
theorem del_len (l : List (List UInt8 × β)) (k : List UInt8) : (del l k).length ≤ l.length := by
  unfold del
  split
  · simp only [List.length_append, List.length_take, List.length_drop]; omega
  · omega
theorem mget_del {l : List (List UInt8 × β)} (hr : Rising l) (k k' : List UInt8) : mget (del l k) k' = if k' = k then none else mget l k' := by
  unfold del
  by_cases h : hit l k = true
  · rw [if_pos h]
    by_cases hk : k' = k
    · rw [if_pos hk, hk, mget_append, take_none, Option.none_or, mget_none]
      intro hm
      obtain ⟨q, hq, e⟩ := List.mem_map.1 hm
      have := drop_gt hr (k := k) (p := q) (by simp only [h, if_true]; exact hq)
      rw [e] at this
      exact lt_irrefl _ this
    · rw [if_neg hk, split_at l k k' hk, mget_append]
      simp only [h, if_true]
  · rw [if_neg h]
    by_cases hk : k' = k
    · rw [if_pos hk, hk, mget_place hr]
      by_cases hp : place l k < l.length
      · rw [dif_pos hp, if_neg (fun e => h (hit_iff.2 ⟨hp, e⟩))]
      · rw [dif_neg hp]
    · rw [if_neg hk]

/-- Pairs, put in one behind the other. -/
theorem foldl_ins {α : Type} (g : α → List UInt8 × β) (l : List α) : ∀ m : List (List UInt8 × β), Rising m → Rising (l.foldl (fun s x => ins s (g x)) m) ∧ (l.foldl (fun s x => ins s (g x)) m).length ≤ m.length + l.length ∧
    ∀ k, mget (l.foldl (fun s x => ins s (g x)) m) k = (mget (l.map g).reverse k).or (mget m k) := by
  induction l with
  | nil => exact fun m h => ⟨h, Nat.le_refl _, fun k => by simp [mget_nil]⟩
  | cons x l ih =>
    intro m h
    obtain ⟨h1, h2, h3⟩ := ih _ (ins_rising h (g x))
    have := ins_len m (g x)
    refine ⟨h1, by simp only [List.foldl_cons, List.length_cons]; omega, fun k => ?_⟩
    rw [List.foldl_cons, h3, List.map_cons, List.reverse_cons, mget_append, mget_cons, mget_nil, mget_ins]
    cases mget (l.map g).reverse k <;> simp
    split <;> rfl
/-- The same, where a test lets them. -/
theorem foldl_ins_if {γ : Type} {l : List (List UInt8 × γ)} (hn : (l.map (·.1)).Nodup) (p : List UInt8 × γ → Bool) (g : List UInt8 × γ → List UInt8 × β) (hg : ∀ x, (g x).1 = x.1) : ∀ m : List (List UInt8 × β), Rising m →
    Rising (l.foldl (fun s x => if p x = true then ins s (g x) else s) m) ∧ (l.foldl (fun s x => if p x = true then ins s (g x) else s) m).length ≤ m.length + l.length ∧
    ∀ k, mget (l.foldl (fun s x => if p x = true then ins s (g x) else s) m) k = match mget l k with
      | some v => if p (k, v) = true then some (g (k, v)).2 else mget m k
      | none => mget m k := by
  induction l with
  | nil => exact fun m h => ⟨h, Nat.le_refl _, fun k => rfl⟩
  | cons q l ih =>
    intro m h
    rw [List.map_cons, List.nodup_cons] at hn
    have hr : Rising (if p q = true then ins m (g q) else m) := by
      split
      · exact ins_rising h _
      · exact h
    have hlen : (if p q = true then ins m (g q) else m).length ≤ m.length + 1 := by
      split
      · exact ins_len _ _
      · omega
    obtain ⟨h1, h2, h3⟩ := ih hn.2 _ hr
    refine ⟨h1, by simp only [List.foldl_cons, List.length_cons]; omega, fun k => ?_⟩
    rw [List.foldl_cons, h3, mget_cons]
    by_cases hk : k = q.1
    · have hl : mget l k = none := mget_none.2 (by rw [hk]; exact hn.1)
      rw [hl, if_pos hk]
      have hq : q = (k, q.2) := by rw [hk]
      simp only
      rw [← hq]
      split
      · rw [mget_ins, if_pos (by rw [hg]; exact hk)]
      · rfl
    · rw [if_neg hk]
      have : mget (if p q = true then ins m (g q) else m) k = mget m k := by
        split
        · rw [mget_ins, if_neg (by rw [hg]; exact hk)]
        · rfl
      rw [this]
end

theorem piece0 {α : Type} (l : List α) (n : Nat) : piece l 0 (n : Int) = l.take n := by simp [piece]
theorem pieceE {α : Type} (l : List α) (n : Nat) : piece l (n : Int) (l.length : Int) = l.drop n := by simp [piece]

theorem put_eq (l : List Pr) (p : Pr) (hl : l.length ≤ 1000000) : ref09_put l p = some (ins l p) := by
  unfold ref09_put
  have hp := place_le l p.1
  rw [bind_of (find_eq l p.1 hl)]
  simp only
  rw [bind_of (cutB_of (by omega)), piece0, bind_of (fits_of (by simp only [List.length_nil, List.length_take]; omega)), bind_of (fits_of (by simp only [List.length_append, List.length_nil, List.length_take, List.length_cons]; omega))]
  by_cases h : hit l p.1 = true
  · obtain ⟨h1, _⟩ := hit_iff.1 h
    have hd : decide (∃ h : place l p.1 < l.length, l[place l p.1].1 = p.1) = true := h
    rw [hd]
    simp only [cond_true, Option.bind_some, wrap_succ (show place l p.1 < 9223372036854775807 by omega)]
    rw [bind_of (cutB_of (by omega)), pieceE, bind_of (fits_of (by simp only [List.length_append, List.length_nil, List.length_take, List.length_cons, List.length_drop]; omega))]
    simp [ins, h]
  · have hd : decide (∃ h : place l p.1 < l.length, l[place l p.1].1 = p.1) = false := by
      have : hit l p.1 = false := Bool.eq_false_iff.2 h
      exact this
    rw [hd]
    simp only [cond_false, Option.bind_some]
    rw [bind_of (cutB_of (by omega)), pieceE, bind_of (fits_of (by simp only [List.length_append, List.length_nil, List.length_take, List.length_cons, List.length_drop]; omega))]
    simp [ins, h]

theorem with_eq (l : List Cg) (c : Cg) (hl : l.length ≤ 1000000) : ref09_with l c = some (ins l (normC c)) := by
  unfold ref09_with
  have hn : (cond c.2.2 (some (c.1, (ByteArray.mk #[]), c.2.2)) (some c) : Option Cg) = some (normC c) := by
    obtain ⟨k, v, g⟩ := c
    cases g <;> rfl
  rw [bind_of hn]
  generalize normC c = p
  have hp := place_le l p.1
  refine (bind_of (place_loop l p.1 (fun i hi => ?_) ?_)).trans ?_
  · simp only [ilt hi, cond_true, gx_nat hi, Option.bind_some, less_eq, wrap_succ (show i < 9223372036854775807 by omega)]
    by_cases h : Lt l[i].1 p.1 <;> simp [h]
  · simp only [ige, cond_false]
  · rw [bind_of (cutB_of (by omega)), piece0, bind_of (fits_of (by simp only [List.length_nil, List.length_take]; omega)), bind_of (fits_of (by simp only [List.length_append, List.length_nil, List.length_take, List.length_cons]; omega))]
    by_cases hpl : place l p.1 < l.length
    · simp only [ilt hpl, cond_true, gx_nat hpl, Option.bind_some]
      by_cases he : l[place l p.1].1 = p.1
      · have h : hit l p.1 = true := hit_iff.2 ⟨hpl, he⟩
        simp only [he, decide_true, cond_true, Option.bind_some, wrap_succ (show place l p.1 < 9223372036854775807 by omega)]
        rw [bind_of (cutB_of (by omega)), pieceE, bind_of (fits_of (by simp only [List.length_append, List.length_nil, List.length_take, List.length_cons, List.length_drop]; omega))]
        simp [ins, h]
      · have h : ¬ hit l p.1 = true := fun h => he (hit_iff.1 h).2
        simp only [he, decide_false, cond_false, Option.bind_some]
        rw [bind_of (cutB_of (by omega)), pieceE, bind_of (fits_of (by simp only [List.length_append, List.length_nil, List.length_take, List.length_cons, List.length_drop]; omega))]
        simp [ins, h]
    · have h : ¬ hit l p.1 = true := fun h => hpl (hit_iff.1 h).1
      have hd : decide ((place l p.1 : Int) < (l.length : Int)) = false := decide_eq_false (by omega)
      simp only [hd, cond_false, Option.bind_some]
      rw [bind_of (cutB_of (by omega)), pieceE, bind_of (fits_of (by simp only [List.length_append, List.length_nil, List.length_take, List.length_cons, List.length_drop]; omega))]
      simp [ins, h]

theorem refMap_eq (l : List Pr) (hl : l.length ≤ 1000000) : ref09_Map l = some (mapP l) := by
  unfold ref09_Map
  refine bind_id ((whileO_for l (fun i (s : List Pr) => (s, (i : Int))) (fun s p => ins s p) (fun i s => s.length ≤ i) id [] (Nat.le_refl _) (fun i hi s hs => ⟨?_, ?_⟩) (fun s _ => ?_)).trans ?_)
  · simp only [ilt hi, cond_true, gx_nat hi, Option.bind_some, wrap_succ (show i < 9223372036854775807 by omega)]
    rw [bind_of (put_eq s l[i] (by omega))]
  · have := ins_len s l[i]
    show (ins s l[i]).length ≤ i + 1
    omega
  · simp only [ige, cond_false, id]
  · obtain ⟨h1, _, h3⟩ := foldl_ins (fun p : Pr => p) l [] .nil
    refine congrArg some (rising_ext h1 (mapP_rising l) fun k => ?_)
    rw [id, h3, mget_mapP, mget_nil, Option.or_none]
    unfold fn
    rw [mget_valuesP]
    simp

theorem foldl_ap (cs : List Cg) : ∀ m : List Pr, Rising m → Rising (cs.foldl (fun s c => if c.2.2 = true then del s c.1 else ins s (c.1, c.2.1)) m) ∧ mget (cs.foldl (fun s c => if c.2.2 = true then del s c.1 else ins s (c.1, c.2.1)) m) = cs.foldl upd1 (mget m) := by
  induction cs with
  | nil => exact fun m h => ⟨h, rfl⟩
  | cons c cs ih =>
    intro m h
    have h1 : Rising (if c.2.2 = true then del m c.1 else ins m (c.1, c.2.1)) := by
      split
      · exact del_rising h _
      · exact ins_rising h _
    obtain ⟨k1, k2⟩ := ih _ h1
    refine ⟨k1, ?_⟩
    rw [List.foldl_cons, k2, List.foldl_cons]
    congr 1
    funext k
    obtain ⟨a, v, g⟩ := c
    cases g with
    | true => simp only [if_true, upd1, eff]; rw [mget_del h]
    | false => simp only [Bool.false_eq_true, if_false, upd1, eff]; rw [mget_ins]

theorem refApply_eq (l : List Pr) (cs : List Cg) (hl : l.length ≤ 400000) (hc : cs.length ≤ 400000) : ref09_Apply l cs = some (applyP l cs) := by
  unfold ref09_Apply
  have hm := mapP_len l
  rw [bind_of (refMap_eq l (by omega))]
  refine bind_id ((whileO_for cs (fun i (s : List Pr) => (s, (i : Int))) (fun s c => if c.2.2 = true then del s c.1 else ins s (c.1, c.2.1)) (fun i s => s.length ≤ 400000 + i) id (mapP l) (by omega) (fun i hi s hs => ⟨?_, ?_⟩) (fun s _ => ?_)).trans ?_)
  · simp only [ilt hi, cond_true, gx_nat hi, Option.bind_some]
    generalize cs[i] = c
    have hp := place_le s c.1
    rw [bind_of (find_eq s c.1 (by omega))]
    obtain ⟨k, v, g⟩ := c
    cases g with
    | false =>
      simp only [Bool.not_false, cond_true, Bool.false_eq_true, if_false]
      rw [bind_of (bind_id (put_eq s (k, v) (by omega))), wrap_succ (show i < 9223372036854775807 by omega)]
    | true =>
      simp only [Bool.not_true, cond_false, if_true]
      by_cases h : hit s k = true
      · obtain ⟨h1, _⟩ := hit_iff.1 h
        have hd : decide (∃ h : place s k < s.length, s[place s k].1 = k) = true := h
        rw [hd]
        simp only [cond_true, Option.bind_some, wrap_succ (show place s k < 9223372036854775807 by omega)]
        simp only at hp h1
        rw [bind_of (cutB_of (by omega)), piece0, bind_of (fits_of (by simp only [List.length_nil, List.length_take]; omega)), bind_of (cutB_of (by omega)), pieceE, bind_of (fits_of (by simp only [List.length_append, List.length_nil, List.length_take, List.length_drop]; omega))]
        simp only [del, h, if_true, wrap_succ (show i < 9223372036854775807 by omega), Option.bind_some, List.nil_append]
      · have hd : decide (∃ h : place s k < s.length, s[place s k].1 = k) = false := by
          have : hit s k = false := Bool.eq_false_iff.2 h
          exact this
        rw [hd]
        simp only [cond_false, Option.bind_some, del, h, if_false, Bool.false_eq_true, wrap_succ (show i < 9223372036854775807 by omega)]
  · have h1 := del_len s cs[i].1
    have h2 := ins_len s (cs[i].1, cs[i].2.1)
    split <;> omega
  · simp only [ige, cond_false, id]
  · obtain ⟨h1, h2⟩ := foldl_ap cs _ (mapP_rising l)
    refine congrArg some (rising_ext h1 (applyP_rising l cs) fun k => ?_)
    rw [id, h2, mget_applyP, mget_mapP, updF_foldl]

theorem refJoin2_eq (x y : List Cg) (hx : x.length ≤ 1000) (hy : y.length ≤ 1000) : ref09_Join [x, y] = some (joinP (x ++ y)) := by
  unfold ref09_Join
  have hlen : ∀ i (hi : i < [x, y].length), [x, y][i].length ≤ 1000 := by
    intro i hi
    match i, hi with
    | 0, _ => exact hx
    | 1, _ => exact hy
  have hfl := fun (l : List Cg) (m : List Cg) (h : Rising m) => foldl_ins normC l m h
  refine bind_id ((whileO_for [x, y] (fun i (s : List Cg) => (s, (i : Int))) (fun s l => l.foldl (fun s c => ins s (normC c)) s) (fun i s => Rising s ∧ s.length ≤ i * 1000) id [] ⟨.nil, by simp⟩ (fun i hi s hs => ⟨?_, ?_⟩) (fun s _ => ?_)).trans ?_)
  · simp only [ilt hi, cond_true]
    have hl := hlen i hi
    have hi2 : i < 2 := hi
    have hin := whileO_for (body := fun v550 : List Cg × Int =>
            (gx [x, y] (i : Int)).bind fun x554 =>
            cond (decide (v550.2 < (x554.length : Int))) (
              (gx x554 v550.2).bind fun x560 =>
              (ref09_with v550.1 x560).bind fun x563 =>
              some (.inl (x563, (IntKind.wrap .i64 (v550.2 + 1))))
            ) (
              some (.inr v550.1)
            )) [x, y][i] (fun j s => (s, (j : Int))) (fun s c => ins s (normC c)) (fun j s => s.length ≤ i * 1000 + j) id s (Nat.le_trans hs.2 (Nat.le_add_right _ _)) (fun j hj s' hs' => ⟨?_, ?_⟩) (fun s' _ => ?_)
    · refine (bind_of hin).trans ?_
      rw [wrap_succ (show i < 9223372036854775807 by omega)]
      rfl
    · simp only [gx_nat hi, Option.bind_some, ilt hj, cond_true, gx_nat hj]
      rw [bind_of (with_eq s' _ (by omega)), wrap_succ (show j < 9223372036854775807 by omega)]
    · have := ins_len s' (normC [x, y][i][j])
      show (ins s' (normC [x, y][i][j])).length ≤ i * 1000 + (j + 1)
      omega
    · simp only [gx_nat hi, Option.bind_some, ige, cond_false, id]
  · have hl := hlen i hi
    obtain ⟨h1, h2, _⟩ := hfl [x, y][i] s hs.1
    exact ⟨h1, Nat.le_trans h2 (by have := hs.2; omega)⟩
  · have h2 : decide (((([x, y] : List (List Cg)).length : Nat) : Int) < ((([x, y] : List (List Cg)).length : Nat) : Int)) = false := ige
    simp only [h2, cond_false, id]
  · simp only [id, List.foldl_cons, List.foldl_nil]
    obtain ⟨h1, h2, h3⟩ := hfl x [] .nil
    obtain ⟨k1, k2, k3⟩ := hfl y _ h1
    refine congrArg some (rising_ext k1 (joinP_rising _) fun k => ?_)
    rw [k3, h3, mget_joinP, mget_nil, Option.or_none, List.reverse_append, mget_append]
    have hm : ∀ l : List Cg, mget (l.map normC).reverse k = (mget l.reverse k).map normE := by
      intro l
      have e : l.map normC = l.map fun p => (p.1, (fun c : Cg => (normC c).2) p) := by
        refine List.map_congr_left fun c _ => ?_
        exact Prod.ext (normC_key c) rfl
      rw [← List.map_reverse]
      have e' : l.reverse.map normC = l.reverse.map fun p => (p.1, (fun c : Cg => (normC c).2) p) := by
        refine List.map_congr_left fun c _ => ?_
        exact Prod.ext (normC_key c) rfl
      rw [e', mget_map_key]
      cases mget l.reverse k with
      | none => rfl
      | some v => simp only [Option.map_some, normC_val]
    rw [hm, hm]
    cases mget y.reverse k <;> rfl

end Go.Val

