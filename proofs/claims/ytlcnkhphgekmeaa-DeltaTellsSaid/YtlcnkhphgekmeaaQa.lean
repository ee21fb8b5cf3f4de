/- Loops as functions, and maps as lists: plain facts. -/
import Derived.Test.YtlcnkhphgekmeaaPd
import Derived.Test.YtlcnkhphgekmeaaVz
set_option linter.unusedSectionVars false
set_option linter.unusedVariables false
set_option linter.unusedSimpArgs false
namespace Go.Val
open Go.Lib

instance iNoDrw : NoDrw := { dm := False, no := id }

theorem bind_of {α β : Type} {x : Option α} {a : α} {f : α → Option β} (h : x = some a) : x.bind f = f a := by rw [h]; rfl

theorem whileO_run {V O : Type} {body : V → Option (V ⊕ O)} {o : O} (s : Nat → V) (n : Nat) (h : ∀ i, i < n → body (s i) = some (.inl (s (i + 1)))) (hn : body (s n) = some (.inr o)) : whileO body (s 0) = some o := by
  have key : ∀ k i, i + k = n → whileO body (s i) = some o := by
    intro k
    induction k with
    | zero => intro i hi; rw [whileO_eq, show i = n by omega, hn]; rfl
    | succ k ih => intro i hi; rw [whileO_eq, h i (by omega)]; exact ih (i + 1) (by omega)
  exact key n 0 (by omega)

theorem whileO_for {V O α S : Type} {body : V → Option (V ⊕ O)} (xs : List α) (enc : Nat → S → V) (f : S → α → S) (J : Nat → S → Prop) (o : S → O) (s0 : S) (h0 : J 0 s0)
    (hstep : ∀ (i : Nat) (hi : i < xs.length) (s : S), J i s → body (enc i s) = some (.inl (enc (i + 1) (f s xs[i]))) ∧ J (i + 1) (f s xs[i]))
    (hend : ∀ s, J xs.length s → body (enc xs.length s) = some (.inr (o s))) : whileO body (enc 0 s0) = some (o (xs.foldl f s0)) := by
  have key : ∀ k i s, i + k = xs.length → J i s → whileO body (enc i s) = some (o ((xs.drop i).foldl f s)) := by
    intro k
    induction k with
    | zero =>
      intro i s hi hJ
      have e : i = xs.length := by omega
      subst e
      rw [whileO_eq, hend s hJ, List.drop_length]; rfl
    | succ k ih =>
      intro i s hi hJ
      obtain ⟨h1, h2⟩ := hstep i (by omega) s hJ
      rw [whileO_eq, h1]
      have := ih (i + 1) _ (by omega) h2
      rw [List.drop_eq_getElem_cons (show i < xs.length by omega)]
      exact this
  have := key xs.length 0 s0 (by omega) h0
  rwa [List.drop_zero] at this

theorem wrap_i64 {n : Int} (h : -9223372036854775808 ≤ n ∧ n ≤ 9223372036854775807) : IntKind.wrap .i64 n = n := by
  have e : IntKind.wrap .i64 n = if n % 18446744073709551616 ≥ 9223372036854775808 then n % 18446744073709551616 - 18446744073709551616 else n % 18446744073709551616 := by
    simp [IntKind.wrap, IntKind.bits, IntKind.signed]
  rw [e]
  by_cases hc : n % 18446744073709551616 ≥ 9223372036854775808
  · rw [if_pos hc]; omega
  · rw [if_neg hc]; omega
theorem wrap_succ {i : Nat} (h : i < 9223372036854775807) : IntKind.wrap .i64 ((i : Int) + 1) = ((i + 1 : Nat) : Int) := by
  rw [wrap_i64 (by omega)]; rfl
theorem gx_nat {α : Type} {xs : List α} {i : Nat} (h : i < xs.length) : gx xs (i : Int) = some xs[i] := by
  simp [gx, h]
theorem fits_of {n bs : Nat} (h : n * bs ≤ 140737488355328) : fits n bs = some () := by simp [fits, ck, h]
theorem cutB_of {lo hi : Int} {n : Nat} (h : 0 ≤ lo ∧ lo ≤ hi ∧ hi ≤ n) : cutB lo hi n = some () := by simp [cutB, ck, h]
theorem lt_nat {i n : Nat} : decide ((i : Int) < (n : Int)) = decide (i < n) := by simp

section
variable {κ β γ : Type} [DecidableEq κ]

theorem mget_nil (k : κ) : mget ([] : List (κ × β)) k = none := rfl
theorem mget_cons (p : κ × β) (m : List (κ × β)) (k : κ) : mget (p :: m) k = if k = p.1 then some p.2 else mget m k := by
  simp only [mget, List.find?_cons]
  by_cases h : k = p.1 <;> simp [h]
theorem mget_append (m m' : List (κ × β)) (k : κ) : mget (m ++ m') k = (mget m k).or (mget m' k) := by
  induction m with
  | nil => simp [mget_nil]
  | cons p m ih => rw [List.cons_append, mget_cons, mget_cons, ih]; split <;> simp
theorem mget_none {m : List (κ × β)} {k : κ} : mget m k = none ↔ k ∉ m.map (·.1) := by
  induction m with
  | nil => simp [mget_nil]
  | cons p m ih => rw [mget_cons]; by_cases h : k = p.1 <;> simp [h, ih]
theorem mget_some_mem {m : List (κ × β)} {k : κ} {v : β} (h : mget m k = some v) : (k, v) ∈ m := by
  induction m with
  | nil => cases h
  | cons p m ih =>
    rw [mget_cons] at h
    by_cases hk : k = p.1
    · rw [if_pos hk] at h; cases h; subst hk; simp
    · rw [if_neg hk] at h; exact List.mem_cons_of_mem _ (ih h)
theorem mget_of_mem {m : List (κ × β)} (hn : (m.map (·.1)).Nodup) {k : κ} {v : β} (h : (k, v) ∈ m) : mget m k = some v := by
  induction m with
  | nil => cases h
  | cons p m ih =>
    rw [List.map_cons, List.nodup_cons] at hn
    rw [mget_cons]
    rcases List.mem_cons.1 h with e | e
    · subst e; simp
    · have : k ≠ p.1 := fun e' => hn.1 (by rw [← e']; exact List.mem_map.2 ⟨_, e, rfl⟩)
      rw [if_neg this]; exact ih hn.2 e
theorem mget_isSome {m : List (κ × β)} {k : κ} : (mget m k).isSome = true ↔ k ∈ m.map (·.1) := by
  have := @mget_none κ β _ m k
  cases h : mget m k with
  | none => simp only [h, true_iff] at this; simp [this]
  | some v => simp only [h] at this; simp only [Option.isSome_some, true_iff]; exact Classical.byContradiction fun hc => by simp [hc] at this
theorem mget_perm {m m' : List (κ × β)} (hn : (m.map (·.1)).Nodup) (hp : m'.Perm m) (k : κ) : mget m' k = mget m k := by
  have hn' : (m'.map (·.1)).Nodup := (hp.map _).nodup_iff.2 hn
  cases h : mget m k with
  | none => rw [mget_none] at h ⊢; exact fun hc => h ((hp.map _).mem_iff.1 hc)
  | some v => exact mget_of_mem hn' (hp.mem_iff.2 (mget_some_mem h))

theorem mset_cons (p : κ × β) (m : List (κ × β)) (k : κ) (v : β) : mset (p :: m) k v = if k = p.1 then (k, v) :: m else p :: mset m k v := by
  simp only [mset, List.findIdx?_cons]
  by_cases h : k = p.1
  · simp [h]
  · simp only [h, decide_false, Bool.false_eq_true, if_false]
    cases hq : m.findIdx? fun p => decide (k = p.1) <;> simp
theorem mset_nil (k : κ) (v : β) : mset ([] : List (κ × β)) k v = [(k, v)] := rfl
theorem mget_mset (m : List (κ × β)) (k : κ) (v : β) (k' : κ) : mget (mset m k v) k' = if k' = k then some v else mget m k' := by
  induction m with
  | nil => rw [mset_nil, mget_cons]
  | cons p m ih =>
    rw [mset_cons]
    by_cases h : k = p.1
    · rw [if_pos h, mget_cons, mget_cons]
      by_cases h' : k' = k
      · simp [h']
      · simp only [h', if_false]; rw [if_neg (by rw [← h]; exact h')]
    · rw [if_neg h, mget_cons, mget_cons, ih]
      by_cases h' : k' = p.1
      · have hne : ¬ k' = k := fun e => h (e ▸ h')
        simp only [h', if_true] at hne ⊢
        rw [if_neg hne]
      · simp only [h', if_false]
theorem keys_mset (m : List (κ × β)) (k : κ) (v : β) : (mset m k v).map (·.1) = if k ∈ m.map (·.1) then m.map (·.1) else m.map (·.1) ++ [k] := by
  induction m with
  | nil => simp [mset_nil]
  | cons p m ih =>
    rw [mset_cons]
    by_cases h : k = p.1
    · simp [h]
    · rw [if_neg h, List.map_cons, ih]
      by_cases h' : k ∈ m.map (·.1)
      · rw [if_pos h', List.map_cons, if_pos (List.mem_cons_of_mem _ h')]
      · rw [if_neg h', List.map_cons, if_neg (by simp only [List.mem_cons, not_or]; exact ⟨h, h'⟩)]; rfl
theorem nodup_mset {m : List (κ × β)} (hn : (m.map (·.1)).Nodup) (k : κ) (v : β) : ((mset m k v).map (·.1)).Nodup := by
  rw [keys_mset]
  split
  · exact hn
  · rename_i h
    rw [List.nodup_append]
    refine ⟨hn, by simp, fun a ha b hb e => ?_⟩
    simp at hb
    subst hb
    exact h (e ▸ ha)
theorem len_mset (m : List (κ × β)) (k : κ) (v : β) : (mset m k v).length ≤ m.length + 1 := by
  have := congrArg List.length (keys_mset m k v)
  rw [List.length_map] at this
  rw [this]
  split <;> simp
theorem mdel_cons (p : κ × β) (m : List (κ × β)) (k : κ) : mdel (p :: m) k = if k = p.1 then m else p :: mdel m k := by
  simp only [mdel, List.eraseP_cons]
  by_cases h : k = p.1 <;> simp [h]
theorem mdel_sub (m : List (κ × β)) (k : κ) : (mdel m k).Sublist m := List.eraseP_sublist
theorem nodup_mdel {m : List (κ × β)} (hn : (m.map (·.1)).Nodup) (k : κ) : ((mdel m k).map (·.1)).Nodup := ((mdel_sub m k).map _).nodup hn
theorem len_mdel (m : List (κ × β)) (k : κ) : (mdel m k).length ≤ m.length := (mdel_sub m k).length_le
theorem mget_mdel {m : List (κ × β)} (hn : (m.map (·.1)).Nodup) (k k' : κ) : mget (mdel m k) k' = if k' = k then none else mget m k' := by
  induction m with
  | nil => simp [mdel, mget_nil]
  | cons p m ih =>
    rw [List.map_cons, List.nodup_cons] at hn
    rw [mdel_cons]
    by_cases h : k = p.1
    · rw [if_pos h, mget_cons]
      by_cases h' : k' = k
      · rw [if_pos h', mget_none]
        rw [h', h]; exact hn.1
      · rw [if_neg h', if_neg (by rw [← h]; exact h')]
    · rw [if_neg h, mget_cons, mget_cons, ih hn.2]
      by_cases h' : k' = p.1
      · have hne : ¬ k' = k := fun e => h (e ▸ h')
        simp only [h', if_true] at hne ⊢
        rw [if_neg hne]
      · simp only [h', if_false]

/-- The last one of each key. -/
def valuesP (l : List (κ × β)) : List (κ × β) := l.foldl (fun m p => mset m p.1 p.2) []
theorem foldl_mset_nodup (l : List (κ × β)) : ∀ m : List (κ × β), (m.map (·.1)).Nodup → ((l.foldl (fun m p => mset m p.1 p.2) m).map (·.1)).Nodup := by
  induction l with
  | nil => exact fun m h => h
  | cons p l ih => exact fun m h => ih _ (nodup_mset h _ _)
theorem valuesP_nodup (l : List (κ × β)) : ((valuesP l).map (·.1)).Nodup := foldl_mset_nodup l [] (by simp)
theorem foldl_mset_len (l : List (κ × β)) : ∀ m : List (κ × β), (l.foldl (fun m p => mset m p.1 p.2) m).length ≤ m.length + l.length := by
  induction l with
  | nil => exact fun m => Nat.le_refl _
  | cons p l ih =>
    intro m
    have h1 := ih (mset m p.1 p.2)
    have h2 := len_mset m p.1 p.2
    simp only [List.foldl_cons, List.length_cons]
    omega
theorem valuesP_len (l : List (κ × β)) : (valuesP l).length ≤ l.length := by
  have := foldl_mset_len l []
  simp only [List.length_nil, Nat.zero_add] at this
  exact this
theorem mget_foldl (l : List (κ × β)) (k : κ) : ∀ m : List (κ × β), mget (l.foldl (fun m p => mset m p.1 p.2) m) k = (mget l.reverse k).or (mget m k) := by
  induction l with
  | nil => intro m; simp [mget_nil]
  | cons p l ih =>
    intro m
    rw [List.foldl_cons, ih, mget_mset, List.reverse_cons, mget_append, mget_cons, mget_nil]
    cases mget l.reverse k <;> simp
    split <;> rfl
theorem mget_valuesP (l : List (κ × β)) (k : κ) : mget (valuesP l) k = mget l.reverse k := by
  unfold valuesP
  rw [mget_foldl, mget_nil]; simp
theorem mget_valuesP_nodup {l : List (κ × β)} (hn : (l.map (·.1)).Nodup) (k : κ) : mget (valuesP l) k = mget l k := by
  rw [mget_valuesP]
  exact mget_perm hn (List.reverse_perm l) k

/-- Each element at its own key, where a test lets it. -/
theorem mget_foldl_if {l : List (κ × β)} (hn : (l.map (·.1)).Nodup) (p : κ × β → Bool) (w : κ × β → γ) (k : κ) : ∀ m : List (κ × γ),
    mget (l.foldl (fun m x => if p x = true then mset m x.1 (w x) else m) m) k = match mget l k with
      | some v => if p (k, v) = true then some (w (k, v)) else mget m k
      | none => mget m k := by
  induction l with
  | nil => intro m; rfl
  | cons q l ih =>
    intro m
    rw [List.map_cons, List.nodup_cons] at hn
    rw [List.foldl_cons, ih hn.2, mget_cons]
    by_cases h : k = q.1
    · have hl : mget l k = none := mget_none.2 (by rw [h]; exact hn.1)
      rw [hl, if_pos h]
      have hq : q = (k, q.2) := by rw [h]
      simp only
      rw [← hq]
      split
      · rw [mget_mset, if_pos h]
      · rfl
    · rw [if_neg h]
      have : mget (if p q = true then mset m q.1 (w q) else m) k = mget m k := by
        split
        · rw [mget_mset, if_neg h]
        · rfl
      rw [this]
theorem foldl_if_nodup (p : κ × β → Bool) (w : κ × β → γ) (l : List (κ × β)) : ∀ m : List (κ × γ), (m.map (·.1)).Nodup → ((l.foldl (fun m x => if p x = true then mset m x.1 (w x) else m) m).map (·.1)).Nodup := by
  induction l with
  | nil => exact fun m h => h
  | cons q l ih =>
    intro m h
    rw [List.foldl_cons]
    refine ih _ ?_
    split
    · exact nodup_mset h _ _
    · exact h
theorem foldl_if_len (p : κ × β → Bool) (w : κ × β → γ) (l : List (κ × β)) : ∀ m : List (κ × γ), (l.foldl (fun m x => if p x = true then mset m x.1 (w x) else m) m).length ≤ m.length + l.length := by
  induction l with
  | nil => exact fun m => Nat.le_refl _
  | cons q l ih =>
    intro m
    rw [List.foldl_cons]
    have h1 := ih (if p q = true then mset m q.1 (w q) else m)
    have h2 : (if p q = true then mset m q.1 (w q) else m).length ≤ m.length + 1 := by
      split
      · exact len_mset _ _ _
      · omega
    simp only [List.length_cons]
    omega
end

theorem foldlM_total {α S : Type} {step : S → α → Option S} {g : S → α → S} (h : ∀ s x, step s x = some (g s x)) : ∀ (l : List α) (s : S), List.foldlM (m := Option) step s l = some (l.foldl g s)
  | [], s => rfl
  | x :: l, s => by
    rw [List.foldlM_cons, h]
    exact foldlM_total h l (g s x)

end Go.Val
