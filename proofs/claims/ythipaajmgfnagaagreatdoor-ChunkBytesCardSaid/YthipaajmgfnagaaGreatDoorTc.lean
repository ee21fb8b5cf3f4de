/- What the twins are: the search, the plain base, spans' keys. -/
import Derived.Test.YthipaajmgfnagaaGreatDoorTb
import Derived.Test.YthipaajmgfnagaaGreatDoorLd
set_option linter.unusedSectionVars false
set_option linter.unusedVariables false
set_option linter.unusedSimpArgs false
namespace Go.Val
open Go.Lib

theorem wrap_u64 {n : Int} (h : 0 ≤ n ∧ n ≤ 9223372036854775807) : IntKind.wrap .u64 n = n := by
  have e : IntKind.wrap .u64 n = n % 18446744073709551616 := by
    simp [IntKind.wrap, IntKind.bits, IntKind.signed]
  rw [e]
  omega
theorem mid_eq {i j : Nat} (h : i + j ≤ 2000000) : IntKind.wrap .i64 (Int.fdiv (IntKind.wrap .u64 (IntKind.wrap .i64 ((i : Int) + (j : Int)))) (2 ^ 1)) = (((i + j) / 2 : Nat) : Int) := by
  rw [wrap_i64 (n := (i : Int) + (j : Int)) (by omega), wrap_u64 (by omega)]
  have : Int.fdiv ((i : Int) + (j : Int)) (2 ^ 1) = (((i + j) / 2 : Nat) : Int) := by
    rw [Int.fdiv_eq_ediv_of_nonneg _ (by decide)]
    omega
  rw [this, wrap_i64 (by omega)]

theorem vplace1_eq (p : Pr) (k : Ky) : view_place_1 p k = some (compareBytes p.1 k) := rfl

theorem rising_lt {β : Type} {l : List (List UInt8 × β)} (hr : Rising l) {i j : Nat} (hi : i < l.length) (hj : j < l.length) (hij : i < j) : Lt l[i].1 l[j].1 := by
  have := List.pairwise_iff_getElem.1 hr i j (by simpa using hi) (by simpa using hj) hij
  simpa using this
theorem place_gt {β : Type} {l : List (List UInt8 × β)} (hr : Rising l) {k : Ky} {i : Nat} (hi : i < l.length) (h : Lt l[i].1 k) : i < place l k := by
  refine Nat.lt_of_not_le fun hle => ?_
  have hp : place l k < l.length := by omega
  have := place_at hp
  rcases Nat.lt_or_eq_of_le hle with h1 | h1
  · exact this (lt_trans (rising_lt hr hp hi h1) h)
  · simp only [h1] at this
    exact this h
theorem place_le_of {β : Type} {l : List (List UInt8 × β)} {k : Ky} {i : Nat} (hi : i < l.length) (h : ¬ Lt l[i].1 k) : place l k ≤ i :=
  Nat.le_of_not_lt fun hlt => h (place_before hlt hi)

theorem search_eq (l : List Pr) (hr : Rising l) (k : Ky) (hl : l.length ≤ 1000000) : slices_BinarySearchFunc l k = some ((place l k : Int), (mget l k).isSome) := by
  unfold slices_BinarySearchFunc
  have key : ∀ (n i j : Nat), j - i ≤ n → i ≤ place l k → place l k ≤ j → j ≤ l.length → whileO (V := Int × Int) (O := Int) (fun v72 =>
      cond (decide (v72.1 < v72.2)) (
        (gx l (IntKind.wrap .i64 (Int.fdiv (IntKind.wrap .u64 (IntKind.wrap .i64 (v72.1 + v72.2))) (2 ^ 1)))).bind fun x79 =>
        (view_place_1 x79 k).bind fun x82 =>
        cond (decide (x82 < 0)) (
          some (.inl ((IntKind.wrap .i64 ((IntKind.wrap .i64 (Int.fdiv (IntKind.wrap .u64 (IntKind.wrap .i64 (v72.1 + v72.2))) (2 ^ 1))) + 1)), v72.2))
        ) (
          some (.inl (v72.1, (IntKind.wrap .i64 (Int.fdiv (IntKind.wrap .u64 (IntKind.wrap .i64 (v72.1 + v72.2))) (2 ^ 1)))))
        )
      ) (
        some (.inr v72.1)
      )) ((i : Int), (j : Int)) = some (place l k : Int) := by
    intro n
    induction n with
    | zero =>
      intro i j h1 h2 h3 h4
      have e : i = j := by omega
      subst e
      rw [whileO_eq]
      simp only [ige, cond_false, Option.bind_some]
      have : i = place l k := by omega
      rw [this]
    | succ n ih =>
      intro i j h1 h2 h3 h4
      rw [whileO_eq]
      by_cases hij : i < j
      · have hm : (i + j) / 2 < l.length := by omega
        simp only [ilt hij, cond_true, mid_eq (show i + j ≤ 2000000 by omega), gx_nat hm, Option.bind_some, vplace1_eq]
        by_cases hc : Lt l[(i + j) / 2].1 k
        · have hd : decide (compareBytes l[(i + j) / 2].1 k < 0) = true := decide_eq_true hc
          have := place_gt hr hm hc
          simp only [hd, cond_true, Option.bind_some, wrap_succ (show (i + j) / 2 < 9223372036854775807 by omega)]
          exact ih _ _ (by omega) (by omega) h3 h4
        · have hd : decide (compareBytes l[(i + j) / 2].1 k < 0) = false := decide_eq_false hc
          have := place_le_of hm hc
          simp only [hd, cond_false, Option.bind_some]
          exact ih _ _ (by omega) h2 (by omega) (by omega)
      · have e : i = j := by omega
        subst e
        simp only [ige, cond_false, Option.bind_some]
        have : i = place l k := by omega
        rw [this]
  refine (bind_of (key l.length 0 l.length (by omega) (by omega) (place_le l k) (by omega))).trans ?_
  have hp := place_le l k
  have hg := mget_place hr k
  by_cases h : place l k < l.length
  · rw [dif_pos h] at hg
    simp only [ilt h, cond_true, gx_nat h, Option.bind_some, vplace1_eq]
    have : decide (compareBytes l[place l k].1 k = 0) = (mget l k).isSome := by
      rw [hg]
      by_cases he : l[place l k].1 = k
      · rw [if_pos he]
        simp only [Option.isSome_some, decide_eq_true_eq]
        rw [he, cb_refl]
      · rw [if_neg he]
        simp only [Option.isSome_none, decide_eq_false_iff_not]
        exact fun h0 => he (cb_eq h0)
    rw [this]
  · rw [dif_neg h] at hg
    have e : place l k = l.length := by omega
    rw [e, hg]
    simp only [ige, cond_false, Option.bind_some]
    rfl

theorem vplace_eq (l : List Pr) (hr : Rising l) (k : Ky) (hl : l.length ≤ 1000000) : view_place l k = some ((place l k : Int), (mget l k).isSome) := by
  unfold view_place
  rw [bind_of (search_eq l hr k hl)]

theorem plainGet_eq (l : List Pr) (hr : Rising l) (k : Ky) (hl : l.length ≤ 1000000) : view_Plain_Get l k = some ((mget l k).getD mt, (mget l k).isSome, 0) := by
  unfold view_Plain_Get
  rw [bind_of (vplace_eq l hr k hl)]
  have hg := mget_place hr k
  by_cases h : place l k < l.length
  · rw [dif_pos h] at hg
    by_cases he : l[place l k].1 = k
    · rw [if_pos he] at hg
      rw [hg]
      simp only [Option.isSome_some, Bool.not_true, cond_false, gx_nat h, Option.bind_some, Option.getD_some]
    · rw [if_neg he] at hg
      rw [hg]
      rfl
  · rw [dif_neg h] at hg
    rw [hg]
    rfl

/-- Where a bound stands. -/
def placeB {β : Type} (l : List (List UInt8 × β)) (b : Option Ky) : Nat := l.findIdx fun p => !decide (Under p.1 b)
theorem placeB_some {β : Type} (l : List (List UInt8 × β)) (k : Ky) : placeB l (some k) = place l k := rfl
theorem placeB_none {β : Type} (l : List (List UInt8 × β)) : placeB l none = l.length := by
  unfold placeB
  rw [List.findIdx_eq_length]
  intro p _
  have : decide (Under p.1 none) = true := decide_eq_true trivial
  rw [this]
  rfl

theorem scan_filter : ∀ (l : List Pr), Rising l → ∀ (a : Ky) (b : Option Ky), ((l.take (max (place l a) (placeB l b))).drop (place l a)) = l.filter fun p => !decide (Lt p.1 a) && decide (Under p.1 b)
  | [], _, _, _ => by simp
  | x :: l, hr, a, b => by
    have hr' := List.pairwise_cons.1 hr
    have hgt : ∀ y ∈ l, Lt x.1 y.1 := fun y hy => hr'.1 y.1 (List.mem_map.2 ⟨y, hy, rfl⟩)
    have ih := scan_filter l hr'.2 a b
    have none_of : ∀ (p : Pr → Bool), (∀ y ∈ l, p y = false) → l.filter p = [] := fun p h => List.filter_eq_nil_iff.2 fun y hy => by rw [h y hy]; simp
    have p1 : place (x :: l) a = if Lt x.1 a then place l a + 1 else 0 := by
      unfold place
      rw [List.findIdx_cons]
      by_cases h : Lt x.1 a <;> simp [h]
    have p2 : placeB (x :: l) b = if Under x.1 b then placeB l b + 1 else 0 := by
      unfold placeB
      rw [List.findIdx_cons]
      by_cases h : Under x.1 b <;> simp [h]
    have notU : ¬ Under x.1 b → ∀ y ∈ l, ¬ Under y.1 b := fun h y hy hu => h (under_le (le_of_lt (hgt y hy)) hu)
    rw [p1, p2]
    by_cases ha : Lt x.1 a
    · rw [if_pos ha, List.filter_cons_of_neg (by simp [ha])]
      by_cases hb : Under x.1 b
      · rw [if_pos hb, show max (place l a + 1) (placeB l b + 1) = max (place l a) (placeB l b) + 1 by omega, List.take_succ_cons, List.drop_succ_cons, ih]
      · rw [if_neg hb, Nat.max_eq_left (Nat.zero_le _), none_of _ fun y hy => by simp [notU hb y hy]]
        simp
    · rw [if_neg ha]
      have ga : ∀ y ∈ l, ¬ Lt y.1 a := fun y hy h => ha (lt_trans (hgt y hy) h)
      have pz : place l a = 0 := by
        unfold place
        cases l with
        | nil => rfl
        | cons y l => rw [List.findIdx_cons]; simp [ga y (by simp)]
      rw [pz] at ih
      simp only [Nat.zero_max, List.drop_zero] at ih ⊢
      by_cases hb : Under x.1 b
      · rw [if_pos hb, List.take_succ_cons, ih, List.filter_cons_of_pos (by simp [ha, hb])]
      · rw [if_neg hb, List.filter_cons_of_neg (by simp [hb]), none_of _ fun y hy => by simp [notU hb y hy]]
        simp

theorem placeB_le {β : Type} (l : List (List UInt8 × β)) (b : Option Ky) : placeB l b ≤ l.length := List.findIdx_le_length

theorem plainScan_eq (l : List Pr) (hr : Rising l) (s : Sp) (hl : l.length ≤ 1000000) : view_Plain_Scan l s = some (l.filter fun p => inS s p.1, 0) := by
  unfold view_Plain_Scan
  rw [bind_of (vplace_eq l hr s.1 hl)]
  have h2 : ((cond (!s.2.2) ((view_place l s.2.1).bind fun x16 => some x16.1) (some (l.length : Int))) : Option Int) = some ((placeB l (toB s) : Nat) : Int) := by
    obtain ⟨a, b, e⟩ := s
    cases e with
    | true => simp only [toB, Bool.not_true, cond_false, if_true, placeB_none]
    | false => simp only [toB, Bool.not_false, cond_true, Bool.false_eq_true, if_false, placeB_some, bind_of (vplace_eq l hr b hl)]
  rw [bind_of h2]
  have q1 := place_le l s.1
  have q2 := placeB_le l (toB s)
  have hm : max ((place l s.1 : Nat) : Int) ((placeB l (toB s) : Nat) : Int) = ((max (place l s.1) (placeB l (toB s)) : Nat) : Int) := by omega
  simp only [hm]
  rw [bind_of (cutB_of (by omega))]
  have hpc : piece l ((place l s.1 : Nat) : Int) ((max (place l s.1) (placeB l (toB s)) : Nat) : Int) = l.filter fun p => inS s p.1 := by
    unfold piece
    simp only [Int.toNat_natCast]
    rw [scan_filter l hr]
    rfl
  rw [hpc]
  unfold slices_Clone203
  have := List.length_filter_le (fun p : Pr => inS s p.1) l
  have hf : fits (([] : List Pr).length + (l.filter fun p => inS s p.1).length) 40 = some () := fits_of (by simp only [List.length_nil]; omega)
  rw [hf]
  rfl

theorem keyIn_eq (s : Sp) (k : Ky) : key_In s k = some (inS s k) := by
  unfold key_In
  refine bind_id ?_
  obtain ⟨a, b, e⟩ := s
  rw [bind_of (show bytes_Compare k a = some (compareBytes k a) from rfl)]
  by_cases h : Lt k a
  · have : decide (compareBytes k a ≥ 0) = false := by simp only [ge_iff_le, decide_eq_false_iff_not]; exact Int.not_le.2 h
    simp [this, inS, h]
  · have : decide (compareBytes k a ≥ 0) = true := by simp only [ge_iff_le, decide_eq_true_eq]; exact Int.not_lt.1 h
    rw [this, cond_true]
    cases e with
    | true => simp [inS, h, toB, Under]
    | false =>
      simp only [cond_false]
      rw [bind_of (show bytes_Compare k b = some (compareBytes k b) from rfl)]
      simp only [inS, toB, h, decide_false, Bool.not_false, Bool.true_and, Bool.false_eq_true, if_false]
      rfl

theorem refIn_eq (s : Sp) (k : Ky) : ref03_In s k = some (inS s k) := by
  unfold ref03_In
  refine bind_id ?_
  obtain ⟨a, b, e⟩ := s
  have q : ∀ l : Ky, (bytesS l).data.toList = l := fun l => rfl
  simp only [q]
  have e1 : ∀ x y : Ky, Op.bytesLess x y = decide (Lt x y) := fun x y => cb_less x y
  simp only [e1]
  by_cases h : Lt k a
  · simp [inS, h]
  · cases e <;> simp [inS, h, toB, Under]

theorem has_eq (l : List Sp) (k : Ky) (hl : l.length ≤ 1000000) : ref08_Has l k = some (hasS l k) := by
  unfold ref08_Has
  have hb : ∀ i (hi : i < l.length), inS l[i] k = false → (fun v72 : Int =>
      cond (decide (v72 < (l.length : Int))) (
        (gx l v72).bind fun x79 =>
        (ref03_In x79 k).bind fun x82 =>
        cond x82 (
          some (.inr (.inr true) : Int ⊕ (Unit ⊕ Bool))
        ) (
          some (.inl (IntKind.wrap .i64 (v72 + 1)))
        )
      ) (
        some (.inr (.inl ()))
      )) (i : Int) = some (.inl ((i + 1 : Nat) : Int)) := by
    intro i hi h
    simp only [ilt hi, cond_true, gx_nat hi, Option.bind_some, refIn_eq, h, cond_false, wrap_succ (show i < 9223372036854775807 by omega)]
  cases hh : hasS l k with
  | true =>
    obtain ⟨s, hs, h1⟩ := hasS_iff.1 hh
    obtain ⟨i, hi, rfl⟩ := List.getElem_of_mem hs
    refine (bind_of (all_false (n := l.length) (p := fun i => ∀ hi : i < l.length, inS l[i] k = false) (o := .inr true) (fun i hi hp => hb i hi (hp hi)) (fun i hi hp => ?_) ⟨i, hi, fun hc => by rw [hc hi] at h1; cases h1⟩)).trans rfl
    have : inS l[i] k = true := by
      cases q : inS l[i] k with
      | true => rfl
      | false => exact absurd (fun _ => q) hp
    simp only [ilt hi, cond_true, gx_nat hi, Option.bind_some, refIn_eq, this]
  | false =>
    have hn : ∀ i (hi : i < l.length), inS l[i] k = false := by
      intro i hi
      cases q : inS l[i] k with
      | false => rfl
      | true => rw [hasS_iff.2 ⟨_, List.getElem_mem hi, q⟩] at hh; cases hh
    refine (bind_of (all_true (n := l.length) (o := .inl ()) 0 (by omega) (fun i _ hi => hb i hi (hn i hi)) ?_)).trans rfl
    simp only [ige, cond_false]

end Go.Val

