/- Regions: a row of steps, in the text's order or in any other; the rules of code. -/
import Derived.Test.YtlcnkhphgekmeaaVc
set_option linter.unusedSectionVars false
set_option linter.unusedVariables false
set_option linter.unusedSimpArgs false
namespace Go.Val
open Go.RowKit
variable [Drw]

/-- What one operation does to a state: what it looks at, what it lays. -/
structure SR where
  rs : List Nat
  ro : List Nat
  d : Option (Nat × Option AV)
  wo : List (Nat × OB)

def SR.wids (r : SR) : List Nat := r.wo.map (·.1)
def SR.dst (r : SR) : List Nat := (r.d.map (·.1)).toList

def setAll (f : Nat → Option OB) : List (Nat × OB) → Nat → Option OB
  | [] => f
  | (o, x) :: l => setAll (upd f o (some x)) l

def putD (f : Nat → Option AV) : Option (Nat × Option AV) → Nat → Option AV
  | none => f
  | some (d, x) => upd f d x

def SR.apply (r : SR) (s : St) : St := { slot := putD s.slot r.d, obj := setAll s.obj r.wo }

def SR.agree (r : SR) (s s' : St) : Prop := (∀ t ∈ r.rs, s'.slot t = s.slot t) ∧ (∀ o ∈ r.ro, s'.obj o = s.obj o)

/-- Operation o, in a state s, leads to s'. -/
def GStep (P : Program) (N : Nat × Nat) (ops : Array Oper) (o : Oper) (s s' : St) : Prop := ∀ (Q : Exit → Act → World → Prop) (cx : Cx) (a : Act) (w : World), cx.nk = N → R cx s a w →
  if Region.wanted o (yielded ops a.tmps) then o.wp P a w (fun a' w' => R cx s' a' w') Q else R cx s' (a.put o.dst undef) w

def Valid (P : Program) (N : Nat × Nat) (ops : Array Oper) (i : Nat) (r : SR) (s : St) : Prop := ∃ o, ops[i]? = some o ∧ ∀ s', r.agree s s' → GStep P N ops o s' (r.apply s')

def Run (P : Program) (N : Nat × Nat) (ops : Array Oper) : List (Nat × SR) → St → St → Prop
  | [], s, s' => s' = s
  | (i, r) :: l, s, s' => Valid P N ops i r s ∧ Run P N ops l (r.apply s) s'

def SR.disj (x y : SR) : Bool :=
  x.dst.all (fun d => !y.rs.contains d && !y.dst.contains d) && y.dst.all (fun d => !x.rs.contains d) &&
  x.wids.all (fun d => !y.ro.contains d && !y.wids.contains d) && y.wids.all (fun d => !x.ro.contains d)

theorem putD_ne {f : Nat → Option AV} {d : Option (Nat × Option AV)} {t : Nat} (h : t ∉ (d.map (·.1)).toList) : putD f d t = f t := by
  cases d with
  | none => rfl
  | some p => obtain ⟨d, x⟩ := p; simp at h; simp [putD, upd_eq, h]

theorem setAll_ne {l : List (Nat × OB)} {t : Nat} : ∀ {f : Nat → Option OB}, t ∉ l.map (·.1) → setAll f l t = f t := by
  induction l with
  | nil => intro f _; rfl
  | cons p l ih =>
    obtain ⟨o, x⟩ := p
    intro f h
    simp only [List.map_cons, List.mem_cons, not_or] at h
    simp only [setAll]
    rw [ih h.2, upd_eq, if_neg h.1]

theorem setAll_congr {l : List (Nat × OB)} {t : Nat} : ∀ {f g : Nat → Option OB}, (t ∉ l.map (·.1) → f t = g t) → setAll f l t = setAll g l t := by
  induction l with
  | nil => intro f g h; exact h (by simp)
  | cons p l ih =>
    obtain ⟨o, x⟩ := p
    intro f g h
    simp only [setAll]
    refine ih (fun hn => ?_)
    simp only [upd_eq]
    by_cases ht : t = o
    · simp [ht]
    · simp only [ht, if_false]; exact h (by simp [ht] at hn ⊢; exact hn)

theorem apply_slot_ne {r : SR} {s : St} {t : Nat} (h : t ∉ r.dst) : (r.apply s).slot t = s.slot t := putD_ne h
theorem apply_obj_ne {r : SR} {s : St} {t : Nat} (h : t ∉ r.wids) : (r.apply s).obj t = s.obj t := setAll_ne h

structure SR.Apart (x y : SR) : Prop where
  a1 : ∀ d ∈ x.dst, d ∉ y.rs
  a2 : ∀ d ∈ x.dst, d ∉ y.dst
  a3 : ∀ d ∈ y.dst, d ∉ x.rs
  b1 : ∀ d ∈ x.wids, d ∉ y.ro
  b2 : ∀ d ∈ x.wids, d ∉ y.wids
  b3 : ∀ d ∈ y.wids, d ∉ x.ro

theorem SR.apart_of_disj {x y : SR} (h : x.disj y = true) : x.Apart y := by
  simp only [SR.disj, Bool.and_eq_true, List.all_eq_true, Bool.not_eq_true', List.contains_eq_mem, decide_eq_false_iff_not] at h
  obtain ⟨⟨⟨h1, h2⟩, h3⟩, h4⟩ := h
  exact ⟨fun d hd => (h1 d hd).1, fun d hd => (h1 d hd).2, h2, fun d hd => (h3 d hd).1, fun d hd => (h3 d hd).2, h4⟩

theorem apply_comm {x y : SR} (h : x.Apart y) (s : St) : y.apply (x.apply s) = x.apply (y.apply s) := by
  have e1 : (y.apply (x.apply s)).slot = (x.apply (y.apply s)).slot := by
    funext t
    by_cases hx : t ∈ x.dst
    · rw [apply_slot_ne (r := y) (h.a2 t hx)]
      simp only [SR.dst] at hx
      cases hd : x.d with
      | none => simp [hd] at hx
      | some p => obtain ⟨d, v⟩ := p; simp [hd] at hx; subst hx; simp [SR.apply, putD, hd, upd_eq]
    · rw [apply_slot_ne (r := x) hx]
      by_cases hy : t ∈ y.dst
      · simp only [SR.dst] at hy
        cases hd : y.d with
        | none => simp [hd] at hy
        | some p => obtain ⟨d, v⟩ := p; simp [hd] at hy; subst hy; simp [SR.apply, putD, hd, upd_eq]
      · rw [apply_slot_ne hy, apply_slot_ne hx, apply_slot_ne hy]
  have e2 : (y.apply (x.apply s)).obj = (x.apply (y.apply s)).obj := by
    funext t
    by_cases hx : t ∈ x.wids
    · rw [apply_obj_ne (r := y) (h.b2 t hx)]
      simp only [SR.apply]
      exact setAll_congr (fun hn => absurd hx hn)
    · rw [apply_obj_ne (r := x) hx]
      simp only [SR.apply]
      exact setAll_congr (fun hn => setAll_ne hx)
  cases hq : y.apply (x.apply s)
  cases hr : x.apply (y.apply s)
  rw [hq, hr] at e1 e2
  simp only at e1 e2
  rw [e1, e2]

theorem Valid.of_apart {P : Program} {N : Nat × Nat} {ops : Array Oper} {i : Nat} {x y : SR} {s : St} (h : x.Apart y) (hv : Valid P N ops i y (x.apply s)) : Valid P N ops i y s := by
  obtain ⟨o, ho, hv⟩ := hv
  refine ⟨o, ho, fun s' hs => hv s' ⟨fun t ht => ?_, fun t ht => ?_⟩⟩
  · rw [apply_slot_ne (fun hd => h.a1 t hd ht)]; exact hs.1 t ht
  · rw [apply_obj_ne (fun hd => h.b1 t hd ht)]; exact hs.2 t ht

theorem Valid.to_apart {P : Program} {N : Nat × Nat} {ops : Array Oper} {i : Nat} {x y : SR} {s : St} (h : x.Apart y) (hv : Valid P N ops i x s) : Valid P N ops i x (y.apply s) := by
  obtain ⟨o, ho, hv⟩ := hv
  refine ⟨o, ho, fun s' hs => hv s' ⟨fun t ht => ?_, fun t ht => ?_⟩⟩
  · rw [hs.1 t ht, apply_slot_ne (fun hd => h.a3 t hd ht)]
  · rw [hs.2 t ht, apply_obj_ne (fun hd => h.b3 t hd ht)]

/-- The steps ahead of step i are apart from it, or it waits for them: then it may come first. -/
theorem Run.first {P : Program} {N : Nat × Nat} {ops : Array Oper} {i : Nat} {r : SR} {l2 : List (Nat × SR)} {s' : St} : ∀ (l1 : List (Nat × SR)) (s : St), (∀ p ∈ l1, p.2.Apart r) →
    Run P N ops (l1 ++ (i, r) :: l2) s s' → Valid P N ops i r s ∧ Run P N ops (l1 ++ l2) (r.apply s) s'
  | [], s, _, h => h
  | (j, x) :: l1, s, ha, h => by
    obtain ⟨hv, h⟩ := h
    obtain ⟨k1, k2⟩ := Run.first l1 (x.apply s) (fun p hp => ha p (by simp [hp])) h
    have hx := ha (j, x) (by simp)
    refine ⟨k1.of_apart hx, hv.to_apart hx, ?_⟩
    rw [← apply_comm hx]
    exact k2

/-- Does operation i wait for operation j? -/
def waitsFor (ops : Array Oper) (i j : Nat) : Bool := match ops[i]? with
  | some o => o.after.any fun e => Region.binds .any e && e.on == j
  | none => false

/-- Does operation i wait for operation j, or for one that does? -/
def waitsN (ops : Array Oper) : Nat → Nat → Nat → Bool
  | 0, i, j => waitsFor ops i j
  | n + 1, i, j => waitsFor ops i j || match ops[i]? with
    | some o => o.after.any fun e => Region.binds .any e && waitsN ops n e.on j
    | none => false

theorem waitsN_none {ops : Array Oper} {l : List (Nat × SR)} (hup : ∀ j k, waitsFor ops j k = true → (∃ r, (k, r) ∈ l) → ∃ r, (j, r) ∈ l) {k : Nat} {r : SR} (hk : (k, r) ∈ l) : ∀ (n i : Nat), (∀ k' r', (k', r') ∈ l → waitsFor ops i k' = false) → waitsN ops n i k = false
  | 0, i, h => h k r hk
  | n + 1, i, h => by
    simp only [waitsN, h k r hk, Bool.false_or]
    cases ho : ops[i]? with
    | none => rfl
    | some o =>
      simp only
      rw [Bool.eq_false_iff]
      intro hany
      simp only [Array.any_eq_true', Bool.and_eq_true] at hany
      obtain ⟨e, he, hb, hw⟩ := hany
      have hie : waitsFor ops i e.on = true := by
        simp only [waitsFor, ho, Array.any_eq_true', Bool.and_eq_true, beq_iff_eq]
        exact ⟨e, he, hb, rfl⟩
      have hm : ¬ ∃ r', (e.on, r') ∈ l := fun ⟨r', h'⟩ => by
        rw [h _ _ h'] at hie; cases hie
      have := waitsN_none hup hk n e.on (fun k' r' h' => by
        cases hq : waitsFor ops e.on k' with
        | false => rfl
        | true => exact absurd (hup _ _ hq ⟨r', h'⟩) hm)
      rw [this] at hw
      cases hw

/-- Of each two steps the later one waits for the earlier one, or they are apart. -/
def orderOk (ops : Array Oper) : List (Nat × SR) → Bool
  | [] => true
  | (j, x) :: l => l.all (fun p => waitsFor ops p.1 j || x.disj p.2 || waitsN ops 8 p.1 j) && orderOk ops l

theorem orderOk_erase {ops : Array Oper} {p : Nat × SR} {l2 : List (Nat × SR)} : ∀ (l1 : List (Nat × SR)), orderOk ops (l1 ++ p :: l2) = true → orderOk ops (l1 ++ l2) = true
  | [], h => by obtain ⟨i, r⟩ := p; simp only [List.nil_append, orderOk, Bool.and_eq_true] at h ⊢; exact h.2
  | (j, x) :: l1, h => by
    simp only [List.cons_append, orderOk, Bool.and_eq_true, List.all_eq_true] at h ⊢
    refine ⟨fun q hq => h.1 q ?_, orderOk_erase l1 h.2⟩
    rcases List.mem_append.1 hq with h1 | h1
    · exact List.mem_append.2 (.inl h1)
    · exact List.mem_append.2 (.inr (List.mem_cons_of_mem _ h1))

theorem orderOk_spec {ops : Array Oper} {i : Nat} {r : SR} {l2 : List (Nat × SR)} : ∀ (l1 : List (Nat × SR)), orderOk ops (l1 ++ (i, r) :: l2) = true →
    (∀ p ∈ l1, waitsN ops 8 i p.1 = false) → ∀ p ∈ l1, p.2.Apart r
  | [], _, _, p, hp => by cases hp
  | (j, x) :: l1, h, hw, p, hp => by
    simp only [List.cons_append, orderOk, Bool.and_eq_true, List.all_eq_true] at h
    rcases List.mem_cons.1 hp with e | hp'
    · subst e
      have := h.1 (i, r) (by simp)
      have hw' := hw (j, x) (by simp)
      have hw0 : waitsFor ops i j = false := by
        simp only [waitsN, Bool.or_eq_false_iff] at hw'
        exact hw'.1
      rw [hw', hw0] at this
      exact SR.apart_of_disj (by simpa using this)
    · exact orderOk_spec l1 h.2 (fun q hq => hw q (by simp [hq])) p hp'

theorem wpOp_of_valid {P : Program} {N : Nat × Nat} {ops : Array Oper} {i : Nat} {r : SR} {s : St} {Q : Exit → Act → World → Prop} {cx : Cx} {a : Act} {w : World} {K : Act → World → Prop}
    (hn : cx.nk = N) (hv : Valid P N ops i r s) (hR : R cx s a w) (hK : ∀ a w, R cx (r.apply s) a w → K a w) : wpOp P ops Q i K a w := by
  obtain ⟨o, ho, hv⟩ := hv
  have := hv s ⟨fun _ _ => rfl, fun _ _ => rfl⟩ Q cx a w hn hR
  unfold wpOp
  simp only [ho]
  split
  · rename_i hw
    simp only [hw, if_true] at this
    exact .inl (Oper.wp_mono hK this)
  · rename_i hw
    simp only [hw] at this
    exact hK _ _ this

/-- No operation waits for a later one. -/
def edgesOk (ops : Array Oper) : Bool := (List.range ops.size).all fun i => match ops[i]? with
  | some o => o.after.all fun e => !Region.binds .any e || decide (e.on < i)
  | none => true

theorem edgesOk_spec {ops : Array Oper} (h : edgesOk ops = true) {i : Nat} {o : Oper} (ho : ops[i]? = some o) {e : Edge} (he : e ∈ o.after) (hb : Region.binds .any e = true) : e.on < i := by
  have hlt : i < ops.size := (Array.getElem?_eq_some_iff.1 ho).1
  simp only [edgesOk, List.all_eq_true, List.mem_range] at h
  have := h i hlt
  simp only [ho, Array.all_eq_true_iff_forall_mem] at this
  have := this e he
  simpa [hb] using this

theorem getD_in {listed : Array Bool} {j : Nat} (h : j < listed.size) (d d' : Bool) : listed.getD j d = listed.getD j d' := by
  simp [Array.getD, h]

theorem wpAny_of_run {P : Program} {N : Nat × Nat} {ops : Array Oper} {Q : Exit → Act → World → Prop} {cx : Cx} {sf : St} (hn : cx.nk = N) (hE : edgesOk ops = true) (hQ : ∀ a w, R cx sf a w → Q .normal a w) :
    ∀ (fuel : Nat) (l : List (Nat × SR)) (listed : Array Bool) (s : St) (a : Act) (w : World), l.length = fuel →
      (∀ j, listed.getD j true = false ↔ ∃ r, (j, r) ∈ l) → listed.size = ops.size → l.Pairwise (fun p q => p.1 < q.1) → (∀ p ∈ l, p.1 < ops.size) →
      (∀ j k, waitsFor ops j k = true → (∃ r, (k, r) ∈ l) → ∃ r, (j, r) ∈ l) → orderOk ops l = true → Run P N ops l s sf → R cx s a w → wpAny P .any ops Q fuel listed a w
  | 0, l, listed, s, a, w, hl, hin, hsz, _, _, _, _, hrun, hR => by
    have hnil : l = [] := List.eq_nil_of_length_eq_zero hl
    subst hnil
    simp only [Run] at hrun
    subst hrun
    refine ⟨?_, hQ _ _ hR⟩
    cases hr : Region.ready .any ops listed with
    | nil => rfl
    | cons j js =>
      have hj : j ∈ Region.ready .any ops listed := by rw [hr]; simp
      obtain ⟨r, h⟩ := (hin j).1 (mem_ready.1 hj).1
      cases h
  | fuel + 1, l, listed, s, a, w, hl, hin, hsz, hsort, hlt, hup, hord, hrun, hR => by
    refine ⟨fun hnone => ?_, fun i hi => ?_⟩
    · exfalso
      cases l with
      | nil => simp at hl
      | cons p l =>
        obtain ⟨i, r⟩ := p
        have hil : i < ops.size := hlt (i, r) (by simp)
        have : i ∈ Region.ready .any ops listed := by
          refine mem_ready.2 ⟨(hin i).2 ⟨r, by simp⟩, ops[i], by simp [hil], fun e he hb => ?_⟩
          have hei := edgesOk_spec hE (i := i) (o := ops[i]) (by simp [hil]) he hb
          have hnot : ¬ listed.getD e.on true = false := fun h => by
            obtain ⟨r', h'⟩ := (hin e.on).1 h
            rcases List.mem_cons.1 h' with h1 | h1
            · cases h1; omega
            · have := (List.pairwise_cons.1 hsort).1 _ h1
              simp only at this; omega
          rw [getD_in (by omega) false true]
          simpa using hnot
        rw [hnone] at this
        cases this
    · obtain ⟨h0, o, ho, hall⟩ := mem_ready.1 hi
      obtain ⟨r, hir⟩ := (hin i).1 h0
      obtain ⟨l1, l2, rfl⟩ := List.append_of_mem hir
      have hw1 : ∀ k r', (k, r') ∈ l1 ++ (i, r) :: l2 → waitsFor ops i k = false := by
        intro k r' hp
        generalize hpk : (k, r') = p at hp
        obtain rfl : k = p.1 := by rw [← hpk]
        cases hq : waitsFor ops i p.1 with
        | false => rfl
        | true =>
          simp only [waitsFor, ho, Array.any_eq_true', Bool.and_eq_true, beq_iff_eq] at hq
          obtain ⟨e, he, hb, hon⟩ := hq
          have h1 := hall e he hb
          have h2 := (hin p.1).2 ⟨p.2, hp⟩
          rw [hon] at h1
          have hps : p.1 < listed.size := by rw [hsz]; exact hlt p hp
          rw [getD_in hps false true, h2] at h1
          cases h1
      have hw : ∀ p ∈ l1, waitsN ops 8 i p.1 = false := fun p hp => waitsN_none hup (k := p.1) (r := p.2) (by simp [hp]) 8 i hw1
      obtain ⟨hv, hrun'⟩ := Run.first l1 s (orderOk_spec l1 hord hw) hrun
      refine wpOp_of_valid hn hv hR (fun a' w' hR' => ?_)
      have hord' := orderOk_erase l1 hord
      have hup' : ∀ j k, waitsFor ops j k = true → (∃ r, (k, r) ∈ l1 ++ l2) → ∃ r, (j, r) ∈ l1 ++ l2 := by
        rintro j k hjk ⟨r', hk⟩
        have hk' : (k, r') ∈ l1 ++ (i, r) :: l2 := by
          rcases List.mem_append.1 hk with h1 | h1
          · simp [h1]
          · simp [h1]
        obtain ⟨r2, h2⟩ := hup j k hjk ⟨r', hk'⟩
        rcases List.mem_append.1 h2 with h1 | h1
        · exact ⟨r2, by simp [h1]⟩
        · rcases List.mem_cons.1 h1 with h3 | h3
          · cases h3
            rw [hw1 k r' hk'] at hjk
            cases hjk
          · exact ⟨r2, by simp [h3]⟩
      have hsort' : (l1 ++ l2).Pairwise (fun p q => p.1 < q.1) := by
        refine hsort.sublist ?_
        exact List.Sublist.append (List.Sublist.refl _) (List.sublist_cons_self _ _)
      refine wpAny_of_run hn hE hQ fuel (l1 ++ l2) (listed.setIfInBounds i true) _ a' w' (by simp at hl ⊢; omega) (fun j => ?_) (by simp [hsz]) hsort' (fun p hp => hlt p (by
        rcases List.mem_append.1 hp with h1 | h1
        · simp [h1]
        · simp [h1])) hup' hord' hrun' hR'
      have hil : i < listed.size := by rw [hsz]; exact hlt (i, r) (by simp)
      by_cases hji : j = i
      · subst hji
        constructor
        · intro h; simp [Array.getD, hil] at h
        · rintro ⟨r', h'⟩
          exfalso
          rcases List.mem_append.1 h' with h1 | h1
          · have := (List.pairwise_append.1 hsort).2.2 _ h1 (j, r) (by simp)
            simp only at this; omega
          · have := (List.pairwise_cons.1 (List.pairwise_append.1 hsort).2.1).1 _ h1
            simp only at this; omega
      · rw [getD_set_ne true (Ne.symm hji), hin j]
        constructor
        · rintro ⟨r', h'⟩
          refine ⟨r', ?_⟩
          rcases List.mem_append.1 h' with h1 | h1
          · simp [h1]
          · rcases List.mem_cons.1 h1 with h2 | h2
            · cases h2; exact absurd rfl hji
            · simp [h2]
        · rintro ⟨r', h'⟩
          refine ⟨r', ?_⟩
          rcases List.mem_append.1 h' with h1 | h1
          · simp [h1]
          · simp [h1]

/-- The steps, in the text's order, one for each operation. -/
inductive Chain (P : Program) (N : Nat × Nat) (ops : Array Oper) : Nat → St → List (Nat × SR) → St → Prop
  | nil {n : Nat} {s : St} (h : Nat.beq n ops.size = true) : Chain P N ops n s [] s
  | cons {n : Nat} {s s' : St} {r : SR} {l : List (Nat × SR)} (h : Valid P N ops n r s) (c : Chain P N ops (n + 1) (r.apply s) l s') : Chain P N ops n s ((n, r) :: l) s'

theorem Chain.run {P : Program} {N : Nat × Nat} {ops : Array Oper} {n : Nat} {s s' : St} {l : List (Nat × SR)} (c : Chain P N ops n s l s') : Run P N ops l s s' := by
  induction c with
  | nil => rfl
  | cons h c ih => exact ⟨h, ih⟩

theorem Chain.mems {P : Program} {N : Nat × Nat} {ops : Array Oper} {n : Nat} {s s' : St} {l : List (Nat × SR)} (c : Chain P N ops n s l s') :
    n ≤ ops.size ∧ l.length = ops.size - n ∧ (∀ j, (n ≤ j ∧ j < ops.size) ↔ ∃ r, (j, r) ∈ l) ∧ l.Pairwise (fun p q => p.1 < q.1) := by
  induction c with
  | @nil n s h =>
    have : n = ops.size := Nat.eq_of_beq_eq_true h
    subst this
    refine ⟨Nat.le_refl _, by simp, fun j => ⟨fun h => by omega, fun ⟨r, h⟩ => by cases h⟩, .nil⟩
  | @cons n s s' r l h c ih =>
    obtain ⟨h1, h2, h3, h4⟩ := ih
    refine ⟨by omega, by simp [h2]; omega, fun j => ?_, ?_⟩
    · constructor
      · intro hj
        by_cases e : j = n
        · exact ⟨r, by simp [e]⟩
        · obtain ⟨r', h'⟩ := (h3 j).1 ⟨by omega, hj.2⟩
          exact ⟨r', by simp [h']⟩
      · rintro ⟨r', h'⟩
        rcases List.mem_cons.1 h' with e | e
        · cases e; omega
        · have := (h3 j).2 ⟨r', e⟩; omega
    · refine List.pairwise_cons.2 ⟨fun q hq => ?_, h4⟩
      have := (h3 q.1).2 ⟨q.2, hq⟩
      simp only; omega

theorem wpOps_of_run {P : Program} {N : Nat × Nat} {ops : Array Oper} {Q : Exit → Act → World → Prop} {cx : Cx} {sf : St} (hn : cx.nk = N) (hQ : ∀ a w, R cx sf a w → Q .normal a w) :
    ∀ (l : List (Nat × SR)) (s : St) (a : Act) (w : World), Run P N ops l s sf → R cx s a w → wpOps P ops Q (l.map (·.1)) a w
  | [], s, a, w, h, hR => by simp only [Run] at h; subst h; exact hQ _ _ hR
  | (i, r) :: l, s, a, w, ⟨hv, h⟩, hR => by
    simp only [List.map_cons]
    rw [wpOps_cons]
    exact wpOp_of_valid hn hv hR (fun a' w' hR' => wpOps_of_run hn hQ l _ a' w' h hR')

/-- What code does, from a state. -/
def CWp (P : Program) (N : Nat × Nat) (c : Code) (Q : Exit → St → Prop) (s : St) : Prop := ∀ (cx : Cx) (a : Act) (w : World), cx.nk = N → R cx s a w → c.wp P (fun e a' w' => ∃ s', Q e s' ∧ R cx s' a' w') a w

theorem range_map {P : Program} {N : Nat × Nat} {ops : Array Oper} {s s' : St} {l : List (Nat × SR)} (c : Chain P N ops 0 s l s') : l.map (·.1) = List.range ops.size := by
  have key : ∀ {n : Nat} {s s' : St} {l : List (Nat × SR)}, Chain P N ops n s l s' → l.map (·.1) = List.range' n (ops.size - n) := by
    intro n s s' l c
    induction c with
    | @nil n s h => have := Nat.eq_of_beq_eq_true h; subst this; simp
    | @cons n s s' r l h c ih =>
      have := c.mems.1
      rw [List.map_cons, ih, show ops.size - n = (ops.size - (n + 1)) + 1 from by omega, List.range'_succ]
  rw [key c, List.range_eq_range']; simp

/-- A region in the text's order. -/
theorem cw_region {P : Program} {N : Nat × Nat} {id : Nat} {ops : Array Oper} {s s' : St} {l : List (Nat × SR)} {Q : Exit → St → Prop} (c : Chain P N ops 0 s l s') (h : Q .normal s') : CWp P N (.region id ops false) Q s := by
  intro cx a w hn hR
  refine wp_region ?_
  rw [← range_map c]
  exact wpOps_of_run hn (fun a' w' hR' => ⟨s', h, hR'⟩) l s a w c.run hR

/-- A region that draws its order. -/
theorem cw_region_any {P : Program} {N : Nat × Nat} {id : Nat} {ops : Array Oper} {s s' : St} {l : List (Nat × SR)} {Q : Exit → St → Prop} (hm : P.follows .mixedOrders = true) (hE : edgesOk ops = true)
    (c : Chain P N ops 0 s l s') (ho : orderOk ops l = true) (h : Q .normal s') : CWp P N (.region id ops true) Q s := by
  intro cx a w hn hR
  refine wp_region_any hm ?_
  obtain ⟨_, h2, h3, h4⟩ := c.mems
  refine wpAny_of_run hn hE (fun a' w' hR' => ⟨s', h, hR'⟩) ops.size l _ s a _ (by omega) (fun j => ?_) (by simp) h4 (fun p hp => ((h3 p.1).2 ⟨p.2, hp⟩).2) (fun j k hjk _ => ?_) ho c.run (hR.drew (Nat.le_succ _))
  · rw [← h3 j]
    by_cases hj : j < ops.size <;> simp [Array.getD, hj]
  · refine (h3 j).1 ⟨Nat.zero_le _, ?_⟩
    cases ho' : ops[j]? with
    | none => simp [waitsFor, ho'] at hjk
    | some o => exact (Array.getElem?_eq_some_iff.1 ho').1

theorem cw_mono {P : Program} {N : Nat × Nat} {c : Code} {Q Q' : Exit → St → Prop} {s : St} (h : CWp P N c Q s) (hq : ∀ e s, Q e s → Q' e s) : CWp P N c Q' s :=
  fun cx a w hn hR => wp_mono (h cx a w hn hR) fun _ _ _ ⟨s', h1, h2⟩ => ⟨s', hq _ _ h1, h2⟩

theorem cw_skip {P : Program} {N : Nat × Nat} {Q : Exit → St → Prop} {s : St} (h : Q .normal s) : CWp P N .skip Q s := fun _ _ _ _ hR => wp_skip ⟨s, h, hR⟩
theorem cw_exit {P : Program} {N : Nat × Nat} {Q : Exit → St → Prop} {s : St} {id : Nat} (h : Q (.exit id) s) : CWp P N (.exit id) Q s := fun _ _ _ _ hR => wp_exit ⟨s, h, hR⟩
theorem cw_ret {P : Program} {N : Nat × Nat} {Q : Exit → St → Prop} {s : St} (h : Q .ret s) : CWp P N .ret Q s := fun _ _ _ _ hR => wp_ret ⟨s, h, hR⟩

def thenS (next : St → Prop) (Q : Exit → St → Prop) : Exit → St → Prop
  | .normal, s => next s
  | e, s => Q e s

theorem cw_seq {P : Program} {N : Nat × Nat} {x y : Code} {Q : Exit → St → Prop} {s : St} (h : CWp P N x (thenS (CWp P N y Q) Q) s) : CWp P N (.seq x y) Q s := by
  intro cx a w hn hR
  refine wp_seq (wp_mono (h cx a w hn hR) fun e a' w' ⟨s', h1, h2⟩ => ?_)
  cases e with
  | normal => exact h1 cx a' w' hn h2
  | exit id => exact ⟨s', h1, h2⟩
  | goto l => exact ⟨s', h1, h2⟩
  | ret => exact ⟨s', h1, h2⟩
  | panic c => exact ⟨s', h1, h2⟩
  | outgrown => exact ⟨s', h1, h2⟩

def inBlockS (id : Nat) (Q : Exit → St → Prop) : Exit → St → Prop
  | .exit id', s => bif Nat.beq id' id then Q .normal s else Q (.exit id') s
  | e, s => Q e s

theorem cw_block {P : Program} {N : Nat × Nat} {id : Nat} {c : Code} {Q : Exit → St → Prop} {s : St} (h : CWp P N c (inBlockS id Q) s) : CWp P N (.block id c) Q s := by
  intro cx a w hn hR
  refine wp_block (wp_mono (h cx a w hn hR) fun e a' w' ⟨s', h1, h2⟩ => ?_)
  cases e with
  | exit id' =>
    simp only [inBlockS] at h1
    simp only [Exit.inBlock]
    by_cases hq : id' = id
    · subst hq; simp at h1 ⊢; exact ⟨s', h1, h2⟩
    · have : Nat.beq id' id = false := by
        cases hb : Nat.beq id' id
        · rfl
        · exact absurd (Nat.eq_of_beq_eq_true hb) hq
      simp only [this, cond_false] at h1
      simp only [hq, if_false]
      exact ⟨s', h1, h2⟩
  | normal => exact ⟨s', h1, h2⟩
  | goto l => exact ⟨s', h1, h2⟩
  | ret => exact ⟨s', h1, h2⟩
  | panic c => exact ⟨s', h1, h2⟩
  | outgrown => exact ⟨s', h1, h2⟩

theorem wp_loop_n {P : Program} {Q : Exit → Act → World → Prop} {a : Act} {w : World} {c : Code} (I : Nat → Act → World → Prop) (n : Nat) (h₀ : I n a w)
    (round : ∀ n a w, I n a w → c.wp P (Exit.then (fun a' w' => ∃ m, m < n ∧ I m a' w') Q) a w) : (Code.loop c).wp P Q a w := by
  intro b k cs
  have key : ∀ n a w, I n a w →
      ∃ e a' w', Q e a' w' ∧ Arrives P (lone (b.at a (.code c :: .inLoop c :: k)) cs w) b k cs e a' w' := by
    intro n
    induction n using Nat.strongRecOn with
    | _ n ih =>
      intro a w hI
      obtain ⟨e, a₁, w₁, hq, harr⟩ := round n a w hI b (.inLoop c :: k) cs
      cases e with
      | normal =>
        obtain ⟨m, hlt, hI₁⟩ := hq
        obtain ⟨e₂, a₂, w₂, hq₂, harr₂⟩ := ih m hlt a₁ w₁ hI₁
        exact ⟨e₂, a₂, w₂, hq₂, .of_steps (Steps.trans harr (.one step_inLoop)) harr₂⟩
      | exit id => exact ⟨_, a₁, w₁, hq, .pass (x := .inLoop c) rfl (fun _ _ => .inl (by simp)) harr⟩
      | goto l => exact ⟨_, a₁, w₁, hq, .pass (x := .inLoop c) rfl (fun _ _ => .inl (by simp)) harr⟩
      | ret => exact ⟨_, a₁, w₁, hq, .pass (x := .inLoop c) rfl (fun _ _ => .inl (by simp)) harr⟩
      | panic ch => exact ⟨_, a₁, w₁, hq, .pass (x := .inLoop c) rfl (fun _ _ => .inl (by simp)) harr⟩
      | outgrown => exact ⟨_, a₁, w₁, hq, .pass (x := .inLoop c) rfl (fun _ _ => .inl (by simp)) harr⟩
  obtain ⟨e, a', w', hq, harr⟩ := key n a w h₀
  exact ⟨e, a', w', hq, .of_steps (.one step_loop) harr⟩

/-- A loop: a number falls from round to round. -/
theorem cw_loop {P : Program} {N : Nat × Nat} {c : Code} {Q : Exit → St → Prop} (I : Nat → St → Prop) {n : Nat} {s : St} (h0 : I n s)
    (round : ∀ n s, I n s → CWp P N c (thenS (fun s' => ∃ m, m < n ∧ I m s') Q) s) : CWp P N (.loop c) Q s := by
  intro cx a w hn hR
  refine wp_loop_n (fun n a w => ∃ s, I n s ∧ R cx s a w) n ⟨s, h0, hR⟩ (fun n a w ⟨s, h1, h2⟩ => ?_)
  refine wp_mono (round n s h1 cx a w hn h2) fun e a' w' ⟨s', q1, q2⟩ => ?_
  cases e with
  | normal => obtain ⟨m, hm, hI⟩ := q1; exact ⟨m, hm, s', hI, q2⟩
  | exit id => exact ⟨s', q1, q2⟩
  | goto l => exact ⟨s', q1, q2⟩
  | ret => exact ⟨s', q1, q2⟩
  | panic c => exact ⟨s', q1, q2⟩
  | outgrown => exact ⟨s', q1, q2⟩

end Go.Val
