/- What the twins are: Merge, Join, and what must be in any case. -/
import Derived.Test.YtlcnkhphgekmeaaTb
set_option linter.unusedSectionVars false
set_option linter.unusedVariables false
set_option linter.unusedSimpArgs false
namespace Go.Val
open Go.Lib

theorem alike_eq (a b : List Pr) (k : List UInt8) : delta_alike a b k = some (decide (mget a k = mget b k), a, b) := by
  unfold delta_alike
  have opt : ∀ o : Option ByteArray, o = none ∨ ∃ y, o = some y := fun o => by cases o <;> simp
  rcases opt (mget a k) with h | ⟨x, h⟩ <;> rcases opt (mget b k) with h' | ⟨y, h'⟩ <;> simp [h, h']

/-- Both have changed a key, and not alike. -/
def clashF (f g h : Fn) (k : List UInt8) : Bool := !decide (f k = g k) && !decide (g k = h k)

theorem foldl_filter {α β : Type} (p : α → Bool) (w : α → β) (l : List α) : ∀ s : List β, l.foldl (fun s x => if p x = true then s ++ [w x] else s) s = s ++ (l.filter p).map w := by
  induction l with
  | nil => intro s; simp
  | cons x l ih =>
    intro s
    rw [List.foldl_cons, ih, List.filter_cons]
    by_cases h : p x = true <;> simp [h]
theorem foldl_pair {α S T : Type} (f : S → α → S) (g : T → α → T) (l : List α) : ∀ (s : S) (t : T), l.foldl (fun (st : S × T) x => (f st.1 x, g st.2 x)) (s, t) = (l.foldl f s, l.foldl g t) := by
  induction l with
  | nil => intro s t; rfl
  | cons x l ih => intro s t; rw [List.foldl_cons, List.foldl_cons, List.foldl_cons]; exact ih _ _

theorem merge_ex (a b c : List Pr) (ha : a.length ≤ 100000) (hb : b.length ≤ 100000) (hc : c.length ≤ 100000) : ∃ d, delta_Diff a c = some d ∧ IsDiff (fn a) (fn c) d ∧
    delta_Merge a b c = some (applyP b d, (d.map (·.1)).filter (clashF (fn a) (fn b) (fn c))) := by
  obtain ⟨d, hd, hi, hl⟩ := diff_ex a c (by omega) (by omega)
  refine ⟨d, hd, hi, ?_⟩
  unfold delta_Merge
  rw [bind_of (values_eq a (by omega)), bind_of (values_eq b (by omega)), bind_of (values_eq c (by omega)), bind_of hd]
  have step : ∀ (k : List UInt8) (s : List (List UInt8)) (n : Nat), s.length ≤ n → n ≤ 200000 → (if clashF (fn a) (fn b) (fn c) k = true then s ++ [k] else s).length ≤ n + 1 := by
    intro k s n h1 h2
    split
    · simp; omega
    · omega
  refine (bind_of (whileO_for d (fun i (s : List Pr × List (List UInt8)) => ((i : Int), valuesP a, valuesP b, valuesP c, s.1, s.2))
    (fun s x => (doesP s.1 x, if clashF (fn a) (fn b) (fn c) x.1 = true then s.2 ++ [x.1] else s.2)) (fun i s => s.2.length ≤ i) (fun s => (s.1, s.2)) (valuesP b, []) (Nat.le_refl _) (fun i hi' s hs => ⟨?_, ?_⟩) (fun s _ => ?_))).trans ?_
  · simp only [ilt hi', cond_true, gx_nat hi', Option.bind_some, does_eq, alike_eq, wrap_succ (show i < 9223372036854775807 by omega)]
    have hf : fits (s.2.length + [d[i].1].length) 24 = some () := fits_of (by simp only [List.length_cons, List.length_nil]; omega)
    by_cases h1 : mget (valuesP a) d[i].1 = mget (valuesP b) d[i].1
    · simp [h1, clashF, fn]
    · by_cases h2 : mget (valuesP b) d[i].1 = mget (valuesP c) d[i].1
      · simp [h2, clashF, fn]
      · simp only [h1, h2, decide_false, Bool.not_false, cond_true, Option.bind_some, clashF, fn, Bool.and_self, if_true]
        rw [bind_of hf]
        rfl
  · exact step _ _ _ hs (by omega)
  · simp only [ige, cond_false]
  · have hp := foldl_pair doesP (fun (s : List (List UInt8)) (x : Cg) => if clashF (fn a) (fn b) (fn c) x.1 = true then s ++ [x.1] else s) d (valuesP b) []
    rw [hp]
    have h1 := (foldl_doesP d _ (valuesP_nodup b)).2.1
    have h2 := valuesP_len b
    simp only
    rw [bind_of (pairs_eq _ (by omega)), foldl_filter (fun x : Cg => clashF (fn a) (fn b) (fn c) x.1) (fun x => x.1)]
    simp only [List.nil_append, applyP, List.filter_map]
    rfl

/-! ### Join -/
theorem concat_eq (ls : List (List Cg)) (hl : ls.length ≤ 1000) (he : ∀ x ∈ ls, x.length ≤ 1000) : slices_Concat ls = some ls.flatten := by
  unfold slices_Concat
  have hx : ∀ i (hi : i < ls.length), ls[i].length ≤ 1000 := fun i hi => he _ (List.getElem_mem hi)
  refine (bind_of (whileO_for ls (fun i (s : Nat) => ((s : Int), (i : Int))) (fun s x => s + x.length) (fun i s => s ≤ i * 1000) (fun s => (s : Int)) 0 (by omega) (fun i hi s hs => ⟨?_, ?_⟩) (fun s _ => ?_))).trans ?_
  · have h1 := hx i hi
    have hw : IntKind.wrap .i64 ((s : Int) + (ls[i].length : Int)) = ((s + ls[i].length : Nat) : Int) := by rw [wrap_i64 (by omega)]; omega
    have hn : decide (((s + ls[i].length : Nat) : Int) < 0) = false := by simp; omega
    simp only [ilt hi, cond_true, gx_nat hi, Option.bind_some, hw, hn, cond_false, wrap_succ (show i < 9223372036854775807 by omega)]
  · have h1 := hx i hi
    show s + ls[i].length ≤ (i + 1) * 1000
    omega
  · simp only [ige, cond_false]
  · have hsum : ls.foldl (fun s x => s + x.length) 0 ≤ 1000000 := by
      have key : ∀ (l : List (List Cg)) (s : Nat), (∀ x ∈ l, x.length ≤ 1000) → l.foldl (fun s x => s + x.length) s ≤ s + l.length * 1000 := by
        intro l
        induction l with
        | nil => intro s _; simp
        | cons x l ih =>
          intro s h
          have h1 := h x (by simp)
          have h2 := ih (s + x.length) (fun y hy => h y (by simp [hy]))
          simp only [List.foldl_cons, List.length_cons]
          omega
      have := key ls 0 he
      omega
    generalize ls.foldl (fun s x => s + x.length) 0 = q at hsum
    rw [bind_of (ck_of (by omega))]
    refine bind_id ((whileO_for ls (fun i s => ((i : Int), s)) (fun s x => s ++ x) (fun i s => s.length ≤ i * 1000) id [] (by simp) (fun i hi s hs => ⟨?_, ?_⟩) (fun s _ => ?_)).trans ?_)
    · have h1 := hx i hi
      simp only [ilt hi, cond_true, gx_nat hi, Option.bind_some, wrap_succ (show i < 9223372036854775807 by omega)]
      rw [bind_of (fits_of (by omega))]
    · have h1 := hx i hi
      simp only [List.length_append]
      omega
    · simp only [ige, cond_false, id]
    · simp only [id]
      have key : ∀ (l : List (List Cg)) (s : List Cg), l.foldl (fun s x => s ++ x) s = s ++ l.flatten := by
        intro l
        induction l with
        | nil => intro s; simp
        | cons x l ih => intro s; rw [List.foldl_cons, ih]; simp
      rw [key]; rfl

/-- A change that takes away has no value. -/
def normC (c : Cg) : Cg := if c.2.2 = true then (c.1, mt, c.2.2) else c
def normE (e : ByteArray × Bool) : ByteArray × Bool := if e.2 = true then (mt, e.2) else e
theorem normC_key (c : Cg) : (normC c).1 = c.1 := by unfold normC; split <;> rfl
theorem normC_val (c : Cg) : (normC c).2 = normE c.2 := by unfold normC normE; split <;> simp_all
theorem normE_idem (e : ByteArray × Bool) : normE (normE e) = normE e := by
  obtain ⟨v, g⟩ := e
  cases g <;> rfl
theorem eff_normE (e : ByteArray × Bool) : eff (normE e) = eff e := by
  obtain ⟨v, g⟩ := e
  cases g <;> rfl
def joinM (cs : List Cg) : List (List UInt8 × Cg) := valuesP (cs.map fun c => (c.1, normC c))
def joinP (cs : List Cg) : List Cg := riseP (joinM cs)

theorem mget_map_key {β γ : Type} (g : List UInt8 × β → γ) (l : List (List UInt8 × β)) (k : List UInt8) : mget (l.map fun p => (p.1, g p)) k = (mget l k).map fun v => g (k, v) := by
  induction l with
  | nil => rfl
  | cons p l ih =>
    rw [List.map_cons, mget_cons, mget_cons, ih]
    by_cases h : k = p.1
    · subst h; simp
    · simp [h]
theorem joinM_own (cs : List Cg) : OwnKey (joinM cs) := by
  have key : ∀ (l : List Cg) (m : List (List UInt8 × Cg)), OwnKey m → OwnKey ((l.map fun c => (c.1, normC c)).foldl (fun m p => mset m p.1 p.2) m) := by
    intro l
    have := own_foldl (β := ByteArray × Bool) (fun _ => true) normC normC_key l
    intro m hm
    have h := this m hm
    rw [List.foldl_map]
    simpa using h
  exact key cs [] (fun p hp => by cases hp)
theorem joinM_nodup (cs : List Cg) : ((joinM cs).map (·.1)).Nodup := valuesP_nodup _
theorem joinP_rising (cs : List Cg) : Rising (joinP cs) := riseP_rising (joinM_own cs) (joinM_nodup cs)
theorem mget_joinP (cs : List Cg) (k : List UInt8) : mget (joinP cs) k = (mget cs.reverse k).map normE := by
  unfold joinP
  rw [mget_riseP (joinM_own cs) (joinM_nodup cs)]
  unfold joinM
  rw [mget_valuesP, ← List.map_reverse, mget_map_key]
  cases mget cs.reverse k with
  | none => rfl
  | some v => simp only [Option.map_some]; rw [normC_val]
theorem joinP_len (cs : List Cg) : (joinP cs).length ≤ cs.length := by
  unfold joinP
  rw [riseP_len]
  have := valuesP_len (cs.map fun c => (c.1, normC c))
  rw [List.length_map] at this
  exact this
theorem updF_joinP (f : Fn) (cs : List Cg) : updF f (joinP cs) = updF f cs := by
  funext k
  rw [updF_nodup (joinP_rising cs).nodup, mget_joinP]
  unfold updF
  cases mget cs.reverse k with
  | none => rfl
  | some e => simp only [Option.map_some]; exact eff_normE e

theorem join_eq (ls : List (List Cg)) (hl : ls.length ≤ 1000) (he : ∀ x ∈ ls, x.length ≤ 1000) (hs : ls.flatten.length ≤ 1000000) : delta_Join ls = some (joinP ls.flatten) := by
  unfold delta_Join
  have hn : ∀ c : Cg, (cond c.2.2 (some (c.1, (ByteArray.mk #[]), c.2.2)) (some c) : Option Cg) = some (normC c) := by
    intro c
    obtain ⟨k, v, g⟩ := c
    cases g <;> rfl
  have h := whileO_for (body := fun v103 : Int × List (List UInt8 × Cg) =>
      cond (decide (v103.1 < (ls.flatten.length : Int))) (
        (gx ls.flatten v103.1).bind fun x110 =>
        (((
          cond x110.2.2 (
            some (x110.1, (ByteArray.mk #[]), x110.2.2)
          ) (
            some x110
          )
        ) : Option ((List UInt8) × ByteArray × Bool))).bind fun o116 =>
        some (.inl ((IntKind.wrap .i64 (v103.1 + 1)), (mset v103.2 o116.1 o116)))
      ) (
        some (.inr v103.2)
      )) ls.flatten (fun i s => ((i : Int), s)) (fun m c => mset m c.1 (normC c)) (fun _ _ => True) id [] trivial (fun i hi s _ => ⟨?_, trivial⟩) (fun s _ => ?_)
  · rw [bind_of (concat_eq ls hl he)]
    refine (bind_of h).trans ?_
    have e : ls.flatten.foldl (fun m c => mset m c.1 (normC c)) [] = joinM ls.flatten := by
      unfold joinM valuesP
      rw [List.foldl_map]
    have hlen := valuesP_len (ls.flatten.map fun c => (c.1, normC c))
    rw [List.length_map] at hlen
    simp only [id]
    rw [e, bind_of (rising_eq (joinM ls.flatten) (by unfold joinM; omega))]
    rfl
  · simp only [ilt hi, cond_true, gx_nat hi, Option.bind_some, hn, normC_key, wrap_succ (show i < 9223372036854775807 by omega)]
  · simp only [ige, cond_false, id]

end Go.Val
