/- Code within a round of a loop over an iterator, and behind such a loop (an activation that bears a mark). -/
import Derived.Test.YthipaajmgfnagaaGreatDoorLc
import Derived.RangeFuncOwn
import Derived.OwnWalkIn
import Derived.OrdersIn
set_option linter.unusedSectionVars false
set_option linter.unusedVariables false
set_option linter.unusedSimpArgs false
namespace Go.Val
open Go.RowKit
variable [Drw]

def FR (r : Option Nat) : Fence := { Fence.wide with round := r }

/-- The activation with deferred calls. -/
def Act.mark (a : Act) (ds : List Deferred) : Act := { a with defers := ds }

def noDefer (ops : Array Oper) : Bool := ops.all fun o => match o.op with
  | .defer _ => false
  | _ => true

theorem noDefer_get {ops : Array Oper} (h : noDefer ops = true) {i : Nat} {o : Oper} (ho : ops[i]? = some o) : ∀ c, o.op ≠ .defer c := by
  intro c e
  unfold noDefer at h
  rw [Array.all_eq_true_iff_forall_mem] at h
  have := h o (Array.mem_of_getElem? ho)
  rw [e] at this
  cases this

section
variable {r : Option Nat} {ds : List Deferred} {n : Nat} {P : Program}

theorem rows_in {row : String} {args : Array Value} {w : World} {R : Value → World → Prop} (h : Rows P row args w R) : RowsIn (FR r) n P row args w R := by
  intro c cs _
  obtain ⟨v, w', r, s⟩ := h c cs
  exact ⟨v, w', r, stepsIn_wide.2 s⟩

theorem eval_mark (a : Act) : (Act.mark a ds).eval = a.eval := by funext o; cases o <;> rfl

theorem mark_put (a : Act) (d : Option Nat) (v : Value) : (Act.mark a ds).put d v = Act.mark (a.put d v) ds := by cases d <;> rfl

theorem upon_in {o : Oper} {a : Act} {K K' : Act → World → Prop} {Q : Exit → Act → World → Prop} (hK : ∀ a w, K a w → a.defers = []) (hK' : ∀ a w, K a w → K' (Act.mark a ds) w) {x : Result Next} (h : o.upon P a K (fun _ _ _ => False) x) :
    o.uponIn (FR r) n P (Act.mark a ds) K' Q x := by
  cases x with
  | ok x w' =>
    cases x <;> simp only [Oper.upon, Oper.uponIn] at h ⊢
    · rw [mark_put]; exact hK' _ _ h
    · rw [mark_put]; exact hK' _ _ h
    · refine ⟨fun h => (by cases h), ?_⟩
      have h2 : CallsIn Fence.wide (n - 1) P _ _ w' _ := callsIn_wide.2 h
      refine CallsIn.mono (show CallsIn (FR r) (n - 1) P _ _ w' _ from h2) ?_
      rintro e w'' he
      cases e with
      | returned v =>
        show K' ((Act.mark a ds).put o.dst v) w''
        rw [mark_put]; exact hK' _ _ he
      | panicked ch => exact he.elim
      | outgrown => obtain ⟨a', w3, h3⟩ := he; exact h3.elim
    · have := hK _ _ h
      exfalso
      cases hq : o.dst <;> rw [hq] at this <;> simp [Act.put] at this
    · exact ⟨fun h => (by cases h), (rows_in h : RowsIn (FR r) (n - 1) P _ _ w' _).mono fun _ _ h => by rw [mark_put]; exact hK' _ _ h⟩
  | halt x w' =>
    cases x <;> simp only [Oper.upon, Oper.uponIn] at h ⊢

theorem wpOpIn_of_valid {N : Nat × Nat} {ops : Array Oper} {i : Nat} {sr : SR} {s : St} {Q : Exit → Act → World → Prop} {cx : Cx} {a : Act} {w : World} {K : Act → World → Prop} (hd : noDefer ops = true)
    (hn : cx.nk = N) (hv : Valid P N ops i sr s) (hR : R cx s a w) (hK : ∀ a w, R cx (sr.apply s) a w → K (Act.mark a ds) w) : wpOpIn (FR r) n P ops Q i K (Act.mark a ds) w := by
  obtain ⟨o, ho, hv⟩ := hv
  have := hv s ⟨fun _ _ => rfl, fun _ _ => rfl⟩ (fun _ _ _ => False) cx a w hn hR
  unfold wpOpIn
  simp only [ho]
  have hy : yielded ops (Act.mark a ds).tmps = yielded ops a.tmps := rfl
  rw [hy]
  split
  · rename_i hw
    simp only [hw, if_true] at this
    refine ⟨fun _ _ => trivial, ?_⟩
    rw [Oper.semAt_plain _ _ _ (noDefer_get hd ho), eval_mark]
    exact upon_in (fun a w ⟨E, _, h⟩ => h.defers) hK this
  · rename_i hw
    simp only [hw] at this
    exact ⟨fun _ _ => trivial, by rw [mark_put]; exact hK _ _ this⟩

theorem wpOpsIn_of_run {N : Nat × Nat} {ops : Array Oper} {Q : Exit → Act → World → Prop} {cx : Cx} {sf : St} (hd : noDefer ops = true) (hn : cx.nk = N) (hQ : ∀ a w, R cx sf a w → Q .normal (Act.mark a ds) w) :
    ∀ (l : List (Nat × SR)) (s : St) (a : Act) (w : World), Run P N ops l s sf → R cx s a w → wpOpsIn (FR r) n P ops Q (l.map (·.1)) (Act.mark a ds) w
  | [], s, a, w, h, hR => by simp only [Run] at h; subst h; exact hQ _ _ hR
  | (i, x) :: l, s, a, w, ⟨hv, h⟩, hR => by
    simp only [List.map_cons]
    rw [wpOpsIn_cons]
    exact wpOpIn_of_valid hd hn hv hR (fun a' w' hR' => wpOpsIn_of_run hd hn hQ l _ a' w' h hR')

theorem wpAnyIn_of_run {rr : Option Nat} {N : Nat × Nat} {ops : Array Oper} {Q : Exit → Act → World → Prop} {cx : Cx} {sf : St} (hd : noDefer ops = true) (hn : cx.nk = N) (hE : edgesOk ops = true) (hQ : ∀ a w, R cx sf a w → Q .normal (Act.mark a ds) w) :
    ∀ (fuel : Nat) (l : List (Nat × SR)) (listed : Array Bool) (s : St) (a : Act) (w : World), l.length = fuel →
      (∀ j, listed.getD j true = false ↔ ∃ r, (j, r) ∈ l) → listed.size = ops.size → l.Pairwise (fun p q => p.1 < q.1) → (∀ p ∈ l, p.1 < ops.size) →
      (∀ j k, waitsFor ops j k = true → (∃ r, (k, r) ∈ l) → ∃ r, (j, r) ∈ l) → orderOk ops l = true → Run P N ops l s sf → R cx s a w → wpAnyIn (FR rr) n P .any ops Q fuel listed (Act.mark a ds) w
  | 0, l, listed, s, a, w, hl, hin, hsz, _, _, _, _, hrun, hR => by
    have hnil : l = [] := List.eq_nil_of_length_eq_zero hl
    subst hnil
    simp only [Run] at hrun
    subst hrun
    refine ⟨?_, hQ _ _ hR⟩
    cases hr : Region.ready .any ops listed with
    | nil => rfl
    | cons j js =>
      have hj : j ∈ Region.ready .any ops listed := by rw [hr]; simp
      obtain ⟨r, h⟩ := (hin j).1 (mem_ready.1 hj).1
      cases h
  | fuel + 1, l, listed, s, a, w, hl, hin, hsz, hsort, hlt, hup, hord, hrun, hR => by
    refine ⟨fun hnone => ?_, fun i hi => ?_⟩
    · exfalso
      cases l with
      | nil => simp at hl
      | cons p l =>
        obtain ⟨i, r⟩ := p
        have hil : i < ops.size := hlt (i, r) (by simp)
        have : i ∈ Region.ready .any ops listed := by
          refine mem_ready.2 ⟨(hin i).2 ⟨r, by simp⟩, ops[i], by simp [hil], fun e he hb => ?_⟩
          have hei := edgesOk_spec hE (i := i) (o := ops[i]) (by simp [hil]) he hb
          have hnot : ¬ listed.getD e.on true = false := fun h => by
            obtain ⟨r', h'⟩ := (hin e.on).1 h
            rcases List.mem_cons.1 h' with h1 | h1
            · cases h1; omega
            · have := (List.pairwise_cons.1 hsort).1 _ h1
              simp only at this; omega
          rw [getD_in (by omega) false true]
          simpa using hnot
        rw [hnone] at this
        cases this
    · obtain ⟨h0, o, ho, hall⟩ := mem_ready.1 hi
      obtain ⟨r, hir⟩ := (hin i).1 h0
      obtain ⟨l1, l2, rfl⟩ := List.append_of_mem hir
      have hw1 : ∀ k r', (k, r') ∈ l1 ++ (i, r) :: l2 → waitsFor ops i k = false := by
        intro k r' hp
        generalize hpk : (k, r') = p at hp
        obtain rfl : k = p.1 := by rw [← hpk]
        cases hq : waitsFor ops i p.1 with
        | false => rfl
        | true =>
          simp only [waitsFor, ho, Array.any_eq_true', Bool.and_eq_true, beq_iff_eq] at hq
          obtain ⟨e, he, hb, hon⟩ := hq
          have h1 := hall e he hb
          have h2 := (hin p.1).2 ⟨p.2, hp⟩
          rw [hon] at h1
          have hps : p.1 < listed.size := by rw [hsz]; exact hlt p hp
          rw [getD_in hps false true, h2] at h1
          cases h1
      have hw : ∀ p ∈ l1, waitsN ops 8 i p.1 = false := fun p hp => waitsN_none hup (k := p.1) (r := p.2) (by simp [hp]) 8 i hw1
      obtain ⟨hv, hrun'⟩ := Run.first l1 s (orderOk_spec l1 hord hw) hrun
      refine wpOpIn_of_valid hd hn hv hR (fun a' w' hR' => ?_)
      have hord' := orderOk_erase l1 hord
      have hup' : ∀ j k, waitsFor ops j k = true → (∃ r, (k, r) ∈ l1 ++ l2) → ∃ r, (j, r) ∈ l1 ++ l2 := by
        rintro j k hjk ⟨r', hk⟩
        have hk' : (k, r') ∈ l1 ++ (i, r) :: l2 := by
          rcases List.mem_append.1 hk with h1 | h1
          · simp [h1]
          · simp [h1]
        obtain ⟨r2, h2⟩ := hup j k hjk ⟨r', hk'⟩
        rcases List.mem_append.1 h2 with h1 | h1
        · exact ⟨r2, by simp [h1]⟩
        · rcases List.mem_cons.1 h1 with h3 | h3
          · cases h3
            rw [hw1 k r' hk'] at hjk
            cases hjk
          · exact ⟨r2, by simp [h3]⟩
      have hsort' : (l1 ++ l2).Pairwise (fun p q => p.1 < q.1) := by
        refine hsort.sublist ?_
        exact List.Sublist.append (List.Sublist.refl _) (List.sublist_cons_self _ _)
      refine wpAnyIn_of_run hd hn hE hQ fuel (l1 ++ l2) (listed.setIfInBounds i true) _ a' w' (by simp at hl ⊢; omega) (fun j => ?_) (by simp [hsz]) hsort' (fun p hp => hlt p (by
        rcases List.mem_append.1 hp with h1 | h1
        · simp [h1]
        · simp [h1])) hup' hord' hrun' hR'
      have hil : i < listed.size := by rw [hsz]; exact hlt (i, r) (by simp)
      by_cases hji : j = i
      · subst hji
        constructor
        · intro h; simp [Array.getD, hil] at h
        · rintro ⟨r', h'⟩
          exfalso
          rcases List.mem_append.1 h' with h1 | h1
          · have := (List.pairwise_append.1 hsort).2.2 _ h1 (j, r) (by simp)
            simp only at this; omega
          · have := (List.pairwise_cons.1 (List.pairwise_append.1 hsort).2.1).1 _ h1
            simp only at this; omega
      · rw [getD_set_ne true (Ne.symm hji), hin j]
        constructor
        · rintro ⟨r', h'⟩
          refine ⟨r', ?_⟩
          rcases List.mem_append.1 h' with h1 | h1
          · simp [h1]
          · rcases List.mem_cons.1 h1 with h2 | h2
            · cases h2; exact absurd rfl hji
            · simp [h2]
        · rintro ⟨r', h'⟩
          refine ⟨r', ?_⟩
          rcases List.mem_append.1 h' with h1 | h1
          · simp [h1]
          · simp [h1]


/-- What code does, from a state: in a round or not, in an activation that bears these deferred calls. -/
def CWx (r : Option Nat) (ds : List Deferred) (P : Program) (cx : Cx) (c : Code) (Q : Exit → St → Prop) (s : St) : Prop :=
  ∀ (n : Nat) (a : Act) (w : World), R cx s a w → c.wpIn (FR r) n P (fun e a' w' => ∃ s' a0, a' = Act.mark a0 ds ∧ Q e s' ∧ R cx s' a0 w') (Act.mark a ds) w

section
variable {cx : Cx} {N : Nat × Nat}

theorem cx_region {id : Nat} {ops : Array Oper} {s s' : St} {js : List (Nat × SR)} {Q : Exit → St → Prop} (hn : cx.nk = N) (c : Chain P N ops 0 s js s') (h : Q .normal s') (hd : noDefer ops = true := by kernel_rfl) : CWx r ds P cx (.region id ops false) Q s := by
  intro n a w hR
  refine wpIn_region ?_
  rw [← range_map c]
  exact wpOpsIn_of_run hd hn (fun a' w' hR' => ⟨s', a', rfl, h, hR'⟩) js s a w c.run hR

theorem cx_region_any {id : Nat} {ops : Array Oper} {s s' : St} {js : List (Nat × SR)} {Q : Exit → St → Prop} (hn : cx.nk = N) (hm : P.follows .mixedOrders = true) (hE : edgesOk ops = true)
    (c : Chain P N ops 0 s js s') (ho : orderOk ops js = true) (h : Q .normal s') (hd : noDefer ops = true := by kernel_rfl) : CWx r ds P cx (.region id ops true) Q s := by
  intro n a w hR
  refine wpIn_region_any hm ?_
  obtain ⟨_, h2, h3, h4⟩ := c.mems
  refine wpAnyIn_of_run hd hn hE (fun a' w' hR' => ⟨s', a', rfl, h, hR'⟩) ops.size js _ s a _ (by omega) (fun j => ?_) (by simp) h4 (fun p hp => ((h3 p.1).2 ⟨p.2, hp⟩).2) (fun j k hjk _ => ?_) ho c.run (hR.drew (Nat.le_succ _))
  · rw [← h3 j]
    by_cases hj : j < ops.size <;> simp [Array.getD, hj]
  · refine (h3 j).1 ⟨Nat.zero_le _, ?_⟩
    cases ho' : ops[j]? with
    | none => simp [waitsFor, ho'] at hjk
    | some o => exact (Array.getElem?_eq_some_iff.1 ho').1

theorem cx_mono {c : Code} {Q Q' : Exit → St → Prop} {s : St} (h : CWx r ds P cx c Q s) (hq : ∀ e s, Q e s → Q' e s) : CWx r ds P cx c Q' s :=
  fun n a w hR => wpIn_mono (h n a w hR) fun _ _ _ ⟨s', a0, h0, h1, h2⟩ => ⟨s', a0, h0, hq _ _ h1, h2⟩

theorem cx_skip {Q : Exit → St → Prop} {s : St} (h : Q .normal s) : CWx r ds P cx .skip Q s := fun _ a _ hR => wpIn_skip ⟨s, a, rfl, h, hR⟩
theorem cx_exit {Q : Exit → St → Prop} {s : St} {id : Nat} (h : Q (.exit id) s) : CWx r ds P cx (.exit id) Q s := fun _ a _ hR => wpIn_exit ⟨s, a, rfl, h, hR⟩
theorem cx_ret {Q : Exit → St → Prop} {s : St} (h : Q .ret s) : CWx r ds P cx .ret Q s := fun _ a _ hR => wpIn_ret ⟨s, a, rfl, h, hR⟩

theorem cx_seq {x y : Code} {Q : Exit → St → Prop} {s : St} (h : CWx r ds P cx x (thenS (CWx r ds P cx y Q) Q) s) : CWx r ds P cx (.seq x y) Q s := by
  intro n a w hR
  refine wpIn_seq (wpIn_mono (h n a w hR) ?_)
  rintro e a' w' ⟨s', a0, rfl, h1, h2⟩
  cases e with
  | normal => exact h1 n a0 w' h2
  | exit id => exact ⟨s', a0, rfl, h1, h2⟩
  | goto l => exact ⟨s', a0, rfl, h1, h2⟩
  | ret => exact ⟨s', a0, rfl, h1, h2⟩
  | panic c => exact ⟨s', a0, rfl, h1, h2⟩
  | outgrown => exact ⟨s', a0, rfl, h1, h2⟩

theorem cx_block {id : Nat} {c : Code} {Q : Exit → St → Prop} {s : St} (h : CWx r ds P cx c (inBlockS id Q) s) : CWx r ds P cx (.block id c) Q s := by
  intro n a w hR
  refine wpIn_block (wpIn_mono (h n a w hR) ?_)
  rintro e a' w' ⟨s', a0, rfl, h1, h2⟩
  cases e with
  | exit id' =>
    simp only [inBlockS] at h1
    simp only [Exit.inBlock]
    by_cases hq : id' = id
    · subst hq; simp at h1 ⊢; exact ⟨s', a0, rfl, h1, h2⟩
    · have : Nat.beq id' id = false := by
        cases hb : Nat.beq id' id
        · rfl
        · exact absurd (Nat.eq_of_beq_eq_true hb) hq
      simp only [this, cond_false] at h1
      simp only [hq, if_false]
      exact ⟨s', a0, rfl, h1, h2⟩
  | normal => exact ⟨s', a0, rfl, h1, h2⟩
  | goto l => exact ⟨s', a0, rfl, h1, h2⟩
  | ret => exact ⟨s', a0, rfl, h1, h2⟩
  | panic c => exact ⟨s', a0, rfl, h1, h2⟩
  | outgrown => exact ⟨s', a0, rfl, h1, h2⟩

theorem cx_cond {c : Operand} {x y : Code} {Q : Exit → St → Prop} {s : St} {b : Bool} (hc : s.val c = some (.d (.v (.bool b))))
    (ht : b = true → CWx r ds P cx x Q s) (hf : b = false → CWx r ds P cx y Q s) : CWx r ds P cx (.cond c x y) Q s := by
  intro n a w hR
  obtain ⟨E, rfl, hR0⟩ := hR
  have hv := (hR0.val hc).sc
  have hv' : (Act.mark a ds).eval c = .bool b := by rw [eval_mark]; exact hv
  cases b with
  | true => exact wpIn_cond_true hv' (ht rfl n a _ ⟨E, rfl, hR0⟩)
  | false => exact wpIn_cond_false hv' (hf rfl n a _ ⟨E, rfl, hR0⟩)
theorem cx_condT {c : Operand} {x y : Code} {Q : Exit → St → Prop} {s : St} {b : Bool} (hc : s.val c = some (.d (.v (.bool b)))) (hb : b = true) (h : CWx r ds P cx x Q s) : CWx r ds P cx (.cond c x y) Q s :=
  cx_cond hc (fun _ => h) (fun e => by rw [hb] at e; cases e)
theorem cx_condF {c : Operand} {x y : Code} {Q : Exit → St → Prop} {s : St} {b : Bool} (hc : s.val c = some (.d (.v (.bool b)))) (hb : b = false) (h : CWx r ds P cx y Q s) : CWx r ds P cx (.cond c x y) Q s :=
  cx_cond hc (fun e => by rw [hb] at e; cases e) (fun _ => h)

theorem cx_leads {c : Code} {Q : Exit → St → Prop} {s s' : St} (hn : cx.nk = N) (hw : Leads N s s') (h : CWx r ds P cx c Q s') : CWx r ds P cx c Q s :=
  fun n a w hR => h n a w (hw cx a w hn hR)
theorem cx_post {c : Code} {Q : Exit → St → Prop} {s : St} (hn : cx.nk = N) (h : CWx r ds P cx c (fun e s' => ∃ s'', Leads N s' s'' ∧ Q e s'') s) : CWx r ds P cx c Q s := fun n a w hR => by
  refine wpIn_mono (h n a w hR) ?_
  rintro e a' w' ⟨s', a0, rfl, ⟨s'', h1, h2⟩, hR'⟩
  exact ⟨s'', a0, rfl, h2, h1 cx a0 w' hn hR'⟩
end

/-- The same from each frame of a size. -/
def CWr (r : Option Nat) (ds : List Deferred) (P : Program) (N : Nat × Nat) (c : Code) (Q : Exit → St → Prop) (s : St) : Prop := ∀ cx : Cx, cx.nk = N → CWx r ds P cx c Q s

section
variable {N : Nat × Nat}
theorem cr_region {id : Nat} {ops : Array Oper} {s s' : St} {js : List (Nat × SR)} {Q : Exit → St → Prop} (c : Chain P N ops 0 s js s') (h : Q .normal s') (hd : noDefer ops = true := by kernel_rfl) : CWr r ds P N (.region id ops false) Q s := fun _ hn => cx_region hn c h hd
theorem cr_region_any {id : Nat} {ops : Array Oper} {s s' : St} {js : List (Nat × SR)} {Q : Exit → St → Prop} (hm : P.follows .mixedOrders = true) (hE : edgesOk ops = true)
    (c : Chain P N ops 0 s js s') (ho : orderOk ops js = true) (h : Q .normal s') (hd : noDefer ops = true := by kernel_rfl) : CWr r ds P N (.region id ops true) Q s := fun _ hn => cx_region_any hn hm hE c ho h hd
theorem cr_mono {c : Code} {Q Q' : Exit → St → Prop} {s : St} (h : CWr r ds P N c Q s) (hq : ∀ e s, Q e s → Q' e s) : CWr r ds P N c Q' s := fun _ hn => cx_mono (h _ hn) hq
theorem cr_skip {Q : Exit → St → Prop} {s : St} (h : Q .normal s) : CWr r ds P N .skip Q s := fun _ _ => cx_skip h
theorem cr_ret {Q : Exit → St → Prop} {s : St} (h : Q .ret s) : CWr r ds P N .ret Q s := fun _ _ => cx_ret h
theorem cr_seq {x y : Code} {Q : Exit → St → Prop} {s : St} (h : CWr r ds P N x (thenS (CWr r ds P N y Q) Q) s) : CWr r ds P N (.seq x y) Q s := fun cx hn =>
  cx_seq (cx_mono (h cx hn) fun e s' q => by
    cases e with
    | normal => exact q cx hn
    | _ => exact q)
theorem cr_block {id : Nat} {c : Code} {Q : Exit → St → Prop} {s : St} (h : CWr r ds P N c (inBlockS id Q) s) : CWr r ds P N (.block id c) Q s := fun cx hn => cx_block (h cx hn)
theorem cr_condT {c : Operand} {x y : Code} {Q : Exit → St → Prop} {s : St} {b : Bool} (hc : s.val c = some (.d (.v (.bool b)))) (hb : b = true) (h : CWr r ds P N x Q s) : CWr r ds P N (.cond c x y) Q s := fun cx hn => cx_condT hc hb (h cx hn)
theorem cr_condF {c : Operand} {x y : Code} {Q : Exit → St → Prop} {s : St} {b : Bool} (hc : s.val c = some (.d (.v (.bool b)))) (hb : b = false) (h : CWr r ds P N y Q s) : CWr r ds P N (.cond c x y) Q s := fun cx hn => cx_condF hc hb (h cx hn)
theorem cr_leads {c : Code} {Q : Exit → St → Prop} {s s' : St} (hw : Leads N s s') (h : CWr r ds P N c Q s') : CWr r ds P N c Q s := fun cx hn => cx_leads hn hw (h cx hn)
theorem cr_post {c : Code} {Q : Exit → St → Prop} {s : St} (h : CWr r ds P N c (fun e s' => ∃ s'', Leads N s' s'' ∧ Q e s'') s) : CWr r ds P N c Q s := fun cx hn => cx_post hn (h cx hn)
theorem cr_join {ι : Type} {x y : Code} {Q : Exit → St → Prop} {s : St} (st : ι → St) (φ : ι → Prop) (hy : ∀ v, φ v → CWr r ds P N y Q (st v))
    (hx : CWr r ds P N x (thenS (fun s' => ∃ v, φ v ∧ Leads N s' (st v)) Q) s) : CWr r ds P N (.seq x y) Q s :=
  cr_seq (cr_mono hx fun e s' h => by
    cases e with
    | normal => obtain ⟨v, h1, h2⟩ := h; exact cr_leads h2 (hy v h1)
    | _ => exact h)
end
end

end Go.Val

