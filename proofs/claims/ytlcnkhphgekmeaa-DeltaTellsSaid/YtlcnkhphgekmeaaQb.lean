/- Rising lists of keys, and what changes do: plain facts. -/
import Derived.Test.YtlcnkhphgekmeaaQa
set_option linter.unusedSectionVars false
set_option linter.unusedVariables false
set_option linter.unusedSimpArgs false
namespace Go.Val
open Go.Lib

def Lt (a b : List UInt8) : Prop := compareBytes a b < 0
instance (a b : List UInt8) : Decidable (Lt a b) := inferInstanceAs (Decidable (compareBytes a b < 0))
theorem lt_irrefl (a : List UInt8) : ¬ Lt a a := by unfold Lt; rw [cb_refl]; omega
theorem lt_trans {a b c : List UInt8} (h : Lt a b) (k : Lt b c) : Lt a c := cb_trans h k
theorem lt_ne {a b : List UInt8} (h : Lt a b) : a ≠ b := fun e => lt_irrefl b (e ▸ h)
theorem lt_or (a b : List UInt8) : Lt a b ∨ a = b ∨ Lt b a := by
  unfold Lt
  have := cb_anti a b
  by_cases h : compareBytes a b = 0
  · exact .inr (.inl (cb_eq h))
  · omega
theorem lt_of_le {a b : List UInt8} (h : keyLe a b = true) (hn : a ≠ b) : Lt a b := by
  rw [keyLe_iff] at h
  rcases lt_or a b with h1 | h1 | h1
  · exact h1
  · exact absurd h1 hn
  · unfold Lt at h1; have := cb_anti a b; omega

abbrev Asc (l : List (List UInt8)) : Prop := l.Pairwise Lt
theorem asc_nodup {l : List (List UInt8)} (h : Asc l) : l.Nodup := h.imp fun h => lt_ne h
theorem asc_eq {l l' : List (List UInt8)} (h : Asc l) (h' : Asc l') (hm : ∀ k, k ∈ l ↔ k ∈ l') : l = l' := by
  have hp : l.Perm l' := (List.perm_ext_iff_of_nodup (asc_nodup h) (asc_nodup h')).2 hm
  refine List.Perm.eq_of_pairwise (le := Lt) (fun a b _ _ h1 h2 => absurd (lt_trans h1 h2) (lt_irrefl a)) h h' hp
theorem sortKeys_asc {l : List (List UInt8)} (h : l.Nodup) : Asc (sortKeys l) := by
  have h1 := sortKeys_sorted l
  have h2 : (sortKeys l).Nodup := (sortKeys_perm l).nodup_iff.2 h
  exact (h1.and h2).imp fun ⟨a, b⟩ => lt_of_le a b
theorem sortKeys_len (l : List (List UInt8)) : (sortKeys l).length = l.length := (sortKeys_perm l).length_eq

section
variable {β : Type}
abbrev Rising (l : List (List UInt8 × β)) : Prop := Asc (l.map (·.1))
theorem Rising.nodup {l : List (List UInt8 × β)} (h : Rising l) : (l.map (·.1)).Nodup := asc_nodup h

/-- Rising lists that answer alike are one. -/
theorem rising_ext {l l' : List (List UInt8 × β)} (h : Rising l) (h' : Rising l') (hg : ∀ k, mget l k = mget l' k) : l = l' := by
  have hk : l.map (·.1) = l'.map (·.1) := asc_eq h h' fun k => by rw [← mget_isSome, ← mget_isSome, hg]
  have hl : l.length = l'.length := by have := congrArg List.length hk; simpa using this
  apply List.ext_getElem hl
  intro i h1 h2
  have e1 : l[i].1 = l'[i].1 := by
    have := congrArg (fun x => x[i]?) hk
    simpa [h1, h2] using this
  have e2 := mget_of_mem h.nodup (k := l[i].1) (v := l[i].2) (List.getElem_mem h1)
  have e3 := mget_of_mem h'.nodup (k := l'[i].1) (v := l'[i].2) (List.getElem_mem h2)
  rw [hg, e1, e3] at e2
  exact Prod.ext e1 (Option.some.inj e2).symm

/-- A map's pairs, rising. -/
def canon (d : β) (m : List (List UInt8 × β)) : List (List UInt8 × β) := (sortKeys (m.map (·.1))).map fun k => (k, (mget m k).getD d)
theorem canon_keys (d : β) (m : List (List UInt8 × β)) : (canon d m).map (·.1) = sortKeys (m.map (·.1)) := by
  unfold canon
  rw [List.map_map]
  exact List.map_id _
theorem canon_rising (d : β) {m : List (List UInt8 × β)} (hn : (m.map (·.1)).Nodup) : Rising (canon d m) := by
  unfold Rising
  rw [canon_keys]
  exact sortKeys_asc hn
theorem canon_len (d : β) (m : List (List UInt8 × β)) : (canon d m).length = m.length := by
  have := congrArg List.length (canon_keys d m)
  rw [List.length_map, sortKeys_len, List.length_map] at this
  exact this
theorem mget_canon (d : β) {m : List (List UInt8 × β)} (hn : (m.map (·.1)).Nodup) (k : List UInt8) : mget (canon d m) k = mget m k := by
  have hm : k ∈ sortKeys (m.map (·.1)) ↔ k ∈ m.map (·.1) := (sortKeys_perm _).mem_iff
  cases h : mget m k with
  | none =>
    rw [mget_none, canon_keys, hm]
    exact mget_none.1 h
  | some v =>
    have hk : k ∈ m.map (·.1) := mget_isSome.1 (by rw [h]; rfl)
    refine mget_of_mem (canon_rising d hn).nodup ?_
    refine List.mem_map.2 ⟨k, hm.2 hk, ?_⟩
    rw [h]; rfl
theorem canon_id (d : β) {l : List (List UInt8 × β)} (h : Rising l) : canon d (valuesP l) = l := by
  refine rising_ext (canon_rising d (valuesP_nodup l)) h fun k => ?_
  rw [mget_canon d (valuesP_nodup l), mget_valuesP_nodup h.nodup]
end

/-! ### Changes -/
abbrev Pr := List UInt8 × ByteArray
abbrev Cg := List UInt8 × ByteArray × Bool
abbrev Fn := List UInt8 → Option ByteArray

/-- What a list is taken for. -/
def fn (l : List Pr) : Fn := mget (valuesP l)
def eff (c : ByteArray × Bool) : Option ByteArray := if c.2 then none else some c.1
def upd1 (f : Fn) (c : Cg) : Fn := fun k => if k = c.1 then eff c.2 else f k
def updF (f : Fn) (cs : List Cg) : Fn := fun k => match mget cs.reverse k with
  | some c => eff c
  | none => f k

theorem updF_nil (f : Fn) : updF f [] = f := rfl
theorem updF_snoc (f : Fn) (cs : List Cg) (c : Cg) : updF f (cs ++ [c]) = upd1 (updF f cs) c := by
  funext k
  simp only [updF, upd1, List.reverse_append, List.reverse_cons, List.reverse_nil, List.nil_append, List.singleton_append, mget_cons]
  by_cases h : k = c.1 <;> simp [h]
theorem updF_foldl (f : Fn) (cs : List Cg) : updF f cs = cs.foldl upd1 f := by
  have key : ∀ r : List Cg, updF f r.reverse = r.reverse.foldl upd1 f := by
    intro r
    induction r with
    | nil => rfl
    | cons c r ih => rw [List.reverse_cons, updF_snoc, ih, List.foldl_append]; rfl
  have := key cs.reverse
  rwa [List.reverse_reverse] at this
theorem updF_append (f : Fn) (cs ds : List Cg) : updF f (cs ++ ds) = updF (updF f cs) ds := by
  rw [updF_foldl, updF_foldl, updF_foldl, List.foldl_append]
theorem updF_nodup {cs : List Cg} (h : (cs.map (·.1)).Nodup) (f : Fn) (k : List UInt8) : updF f cs k = match mget cs k with
    | some c => eff c
    | none => f k := by
  unfold updF
  rw [mget_perm h (List.reverse_perm cs)]

/-- A change in a map. -/
def doesP (m : List Pr) (c : Cg) : List Pr := if c.2.2 = true then mdel m c.1 else mset m c.1 c.2.1
theorem doesP_nodup {m : List Pr} (h : (m.map (·.1)).Nodup) (c : Cg) : ((doesP m c).map (·.1)).Nodup := by
  unfold doesP
  split
  · exact nodup_mdel h _
  · exact nodup_mset h _ _
theorem doesP_len (m : List Pr) (c : Cg) : (doesP m c).length ≤ m.length + 1 := by
  unfold doesP
  split
  · have := len_mdel m c.1; omega
  · exact len_mset _ _ _
theorem mget_doesP {m : List Pr} (h : (m.map (·.1)).Nodup) (c : Cg) : mget (doesP m c) = upd1 (mget m) c := by
  funext k
  obtain ⟨a, b, g⟩ := c
  cases g with
  | true => simp only [doesP, upd1, eff, if_true]; rw [mget_mdel h]
  | false => simp only [doesP, upd1, eff, Bool.false_eq_true, if_false]; rw [mget_mset]
theorem foldl_doesP (cs : List Cg) : ∀ m : List Pr, (m.map (·.1)).Nodup → ((cs.foldl doesP m).map (·.1)).Nodup ∧ (cs.foldl doesP m).length ≤ m.length + cs.length ∧ mget (cs.foldl doesP m) = cs.foldl upd1 (mget m) := by
  induction cs with
  | nil => exact fun m h => ⟨h, Nat.le_refl _, rfl⟩
  | cons c cs ih =>
    intro m h
    obtain ⟨h1, h2, h3⟩ := ih _ (doesP_nodup h c)
    have := doesP_len m c
    refine ⟨h1, by simp only [List.foldl_cons, List.length_cons]; omega, ?_⟩
    rw [List.foldl_cons, h3, mget_doesP h]; rfl

def mt : ByteArray := ByteArray.mk #[]
/-- Map, and Apply, as functions. -/
def mapP (l : List Pr) : List Pr := canon mt (valuesP l)
def applyP (l : List Pr) (cs : List Cg) : List Pr := canon mt (cs.foldl doesP (valuesP l))

theorem mapP_rising (l : List Pr) : Rising (mapP l) := canon_rising mt (valuesP_nodup l)
theorem mget_mapP (l : List Pr) : mget (mapP l) = fn l := funext fun k => mget_canon mt (valuesP_nodup l) k
theorem applyP_rising (l : List Pr) (cs : List Cg) : Rising (applyP l cs) := canon_rising mt (foldl_doesP cs _ (valuesP_nodup l)).1
theorem mget_applyP (l : List Pr) (cs : List Cg) : mget (applyP l cs) = updF (fn l) cs := by
  obtain ⟨h1, h2, h3⟩ := foldl_doesP cs _ (valuesP_nodup l)
  funext k
  unfold applyP
  rw [mget_canon mt h1, h3, updF_foldl]
  rfl
theorem fn_rising {l : List Pr} (h : Rising l) : fn l = mget l := funext fun k => mget_valuesP_nodup h.nodup k
theorem fn_mapP (l : List Pr) : fn (mapP l) = fn l := by rw [fn_rising (mapP_rising l), mget_mapP]
theorem fn_applyP (l : List Pr) (cs : List Cg) : fn (applyP l cs) = updF (fn l) cs := by rw [fn_rising (applyP_rising l cs), mget_applyP]
theorem mapP_len (l : List Pr) : (mapP l).length ≤ l.length := by unfold mapP; rw [canon_len]; exact valuesP_len l
theorem applyP_len (l : List Pr) (cs : List Cg) : (applyP l cs).length ≤ l.length + cs.length := by
  unfold applyP
  rw [canon_len]
  have h1 := (foldl_doesP cs _ (valuesP_nodup l)).2.1
  have h2 := valuesP_len l
  omega
theorem mapP_id {l : List Pr} (h : Rising l) : mapP l = l := canon_id mt h
/-- Two rising lists of pairs that are one function are one. -/
theorem fn_ext {l l' : List Pr} (h : Rising l) (h' : Rising l') (e : fn l = fn l') : l = l' := by
  refine rising_ext h h' fun k => ?_
  rw [← fn_rising h, ← fn_rising h', e]

/-! ### Diff -/
def difC (f g : Fn) (k : List UInt8) : Option (ByteArray × Bool) := match g k with
  | some v => if f k = some v then none else some (v, false)
  | none => if (f k).isSome then some (mt, true) else none

/-- A delta: what makes g of f. -/
structure IsDiff (f g : Fn) (d : List Cg) : Prop where
  rising : Rising d
  get : ∀ k, mget d k = difC f g k

theorem IsDiff.unique {f g : Fn} {d d' : List Cg} (h : IsDiff f g d) (h' : IsDiff f g d') : d = d' :=
  rising_ext h.rising h'.rising fun k => by rw [h.get, h'.get]
theorem IsDiff.upd {f g : Fn} {d : List Cg} (h : IsDiff f g d) : updF f d = g := by
  funext k
  rw [updF_nodup h.rising.nodup, h.get]
  unfold difC
  cases hg : g k with
  | some v =>
    by_cases hf : f k = some v
    · simp [hf]
    · simp [hf, eff]
  | none =>
    cases hf : f k with
    | some v => simp [eff]
    | none => simp
theorem difC_none {f g : Fn} {k : List UInt8} : difC f g k = none ↔ f k = g k := by
  unfold difC
  cases hg : g k with
  | some v => by_cases hf : f k = some v <;> simp [hf]
  | none => cases hf : f k <;> simp
theorem difC_self (f : Fn) (k : List UInt8) : difC f f k = none := difC_none.2 rfl
theorem IsDiff.nil {f : Fn} {d : List Cg} (h : IsDiff f f d) : d = [] := by
  cases d with
  | nil => rfl
  | cons c d =>
    have := h.get c.1
    rw [difC_self, mget_cons, if_pos rfl] at this
    cases this
theorem IsDiff.mem {f g : Fn} {d : List Cg} (h : IsDiff f g d) {k : List UInt8} : k ∈ d.map (·.1) ↔ f k ≠ g k := by
  rw [← mget_isSome, h.get]
  have := @difC_none f g k
  cases hd : difC f g k with
  | none => simp [this.1 hd]
  | some c =>
    have hne : ¬ f k = g k := fun e => by rw [this.2 e] at hd; cases hd
    simp [hne]

end Go.Val
