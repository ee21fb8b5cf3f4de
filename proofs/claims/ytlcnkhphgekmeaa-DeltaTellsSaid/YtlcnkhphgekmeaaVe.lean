/- Operands, tests, the weakening of a state, a function's contract out of its body. -/
import Derived.Test.YtlcnkhphgekmeaaVd
set_option linter.unusedSectionVars false
set_option linter.unusedVariables false
set_option linter.unusedSimpArgs false
namespace Go.Val
open Go.RowKit
variable [Drw]

def St.val (s : St) : Operand → Option AV
  | .tmp t => s.slot t
  | .const v => bif one v then some (.d (.v v)) else none
  | .func f => some (.fn f [] [])
  | .global _ => none

def opTmps : Operand → List Nat
  | .tmp t => [t]
  | _ => []

theorem R0.val {cx : Cx} {s : St} {a : Act} {E : Env} (h : R0 cx s a E) {o : Operand} {x : AV} (hx : s.val o = some x) : VR E x (a.eval o) := by
  cases o with
  | tmp t => exact h.slots t x hx
  | const v =>
    simp only [St.val] at hx
    cases hv : one v with
    | false => simp [hv] at hx
    | true =>
      simp only [hv, cond_true, Option.some.injEq] at hx
      subst hx
      exact ⟨[v], .d (.v hv), rfl⟩
  | func f => simp only [St.val, Option.some.injEq] at hx; subst hx; exact ⟨_, .fn .nil .nil, rfl⟩
  | global g => simp [St.val] at hx

/-- A scalar is itself. -/
theorem VR.sc {E : Env} {x v : Value} (h : VR E (.d (.v x)) v) : v = x := by
  obtain ⟨cs, h1, h2⟩ := h
  cases h1 with
  | d h => cases h with
    | v h => subst h2; rfl

theorem VR.of_sc {E : Env} {x : Value} (h : one x = true) : VR E (.d (.v x)) x := ⟨[x], .d (.v h), rfl⟩

theorem cw_cond {P : Program} {N : Nat × Nat} {c : Operand} {x y : Code} {Q : Exit → St → Prop} {s : St} {b : Bool} (hc : s.val c = some (.d (.v (.bool b))))
    (ht : b = true → CWp P N x Q s) (hf : b = false → CWp P N y Q s) : CWp P N (.cond c x y) Q s := by
  intro cx a w hn hR
  obtain ⟨E, rfl, hR0⟩ := hR
  refine wp_cond_split (hR0.val hc).sc (fun h => ht h cx a _ hn ⟨E, rfl, hR0⟩) (fun h => hf h cx a _ hn ⟨E, rfl, hR0⟩)

/-! ### Weakening -/
mutual
inductive Conv (s s' : St) : AV → AV → Prop
  | d {x x' : D} (h : x = x') : Conv s s' (.d x) (.d x')
  | nil0 {es : Nat} : Conv s s' (.d (.v (.slice none 0 0))) (.d (.sl es []))
  | nila {o es : Nat} (h : s.obj o = none) (h' : s'.obj o = some (.arr 0 es [])) : Conv s s' (.d (.v (.slice none 0 0))) (.arr o 0)
  | ptr {o n : Nat} {x x' : AV} (h : s.obj o = some (.box x)) (h' : s'.obj o = some (.box x')) : Conv s s' (.ptr o n) (.ptr o n)
  | arr {o c c' es es' : Nat} {rows rows' : List D} (h : s.obj o = some (.arr c es rows)) (h' : s'.obj o = some (.arr c' es' rows')) : Conv s s' (.arr o c) (.arr o c')
  | frz {o c es : Nat} {rows rows' : List D} (h : s.obj o = some (.arr c es rows)) (h' : s'.obj o = none) (hr : rows = rows') : Conv s s' (.arr o c) (.d (.sl es rows'))
  | map {o v v' : Nat} {es es' : List (D × D)} (h : s.obj o = some (.map v es)) (h' : s'.obj o = some (.map v' es')) : Conv s s' (.map o) (.map o)
  | it {o m v m' v' : Nat} {l l' : List (D × D)} {cu cu' : Option (D × D)} (h : s.obj o = some (.iter m v l cu)) (h' : s'.obj o = some (.iter m' v' l' cu')) : Conv s s' (.it o) (.it o)
  | pin {o : Nat} {x : D} (h : s.obj o = some (.box (.d x))) (h' : s'.obj o = none) : Conv s s' (.ptr o 0) (.d (.at x))
  | st {ps qs : List AV} (h : Convs s s' ps qs) : Conv s s' (.st ps) (.st qs)
  | flat {ps : List AV} {ds : List D} (h : Convs s s' ps (ds.map .d)) : Conv s s' (.st ps) (.d (.st ds))
  | tup {ps qs : List AV} (h : Convs s s' ps qs) : Conv s s' (.tup ps) (.tup qs)
  | fn {f : Nat} {ps qs ps' qs' : List AV} (h : Convs s s' ps qs) (k : Convs s s' ps' qs') : Conv s s' (.fn f ps ps') (.fn f qs qs')
  | ifc {t : Nat} {x y : AV} (h : Conv s s' x y) : Conv s s' (.ifc t x) (.ifc t y)
  | sx {es : Nat} {rows rows' : List D} (h : rows = rows') : Conv s s' (.sx es rows) (.sx es rows')
  | sxd {es : Nat} {rows rows' : List D} (h : rows = rows') : Conv s s' (.sx es rows) (.d (.sl es rows'))
inductive Convs (s s' : St) : List AV → List AV → Prop
  | nil : Convs s s' [] []
  | cons {x y : AV} {xs ys : List AV} (h : Conv s s' x y) (hs : Convs s s' xs ys) : Convs s s' (x :: xs) (y :: ys)
end

inductive OConv (N : Nat × Nat) (s s' : St) (o : Nat) : OB → Prop
  | box {x x' : AV} (h : s.obj o = some (.box x)) (hx : Conv s s' x x') : OConv N s s' o (.box x')
  | arr {c es : Nat} {rows rows' : List D} (h : s.obj o = some (.arr c es rows)) (hr : rows = rows') : OConv N s s' o (.arr c es rows')
  | arr0 {c c' es : Nat} {rows rows' : List D} (h : s.obj o = some (.arr c es rows)) (hk : Nat.ble N.2 o = true) (hr : rows = rows') : OConv N s s' o (.arr c' es rows')
  | map {v : Nat} {es es' : List (D × D)} (h : s.obj o = some (.map v es)) (he : es = es') : OConv N s s' o (.map v es')
  | map0 {v v' : Nat} {es es' : List (D × D)} (h : s.obj o = some (.map v es)) (hk' : Nat.ble N.2 o = true) (he : es = es') (hk : ∀ k m u l cu, s'.obj k = some (.iter m u l cu) → m ≠ o) : OConv N s s' o (.map v' es')
  | iter {m v : Nat} {l l' : List (D × D)} {es es' : List (D × D)} {cu cu' : Option (D × D)} (h : s.obj o = some (.iter m v l cu)) (hm : s.obj m = some (.map v es)) (hm' : s'.obj m = some (.map v es')) (hl : l = l') (he : es = es') (hcu : cu' = none ∨ cu = cu') : OConv N s s' o (.iter m v l' cu')
  | nil {es : Nat} (h : s.obj o = none) : OConv N s s' o (.arr 0 es [])

structure Weak (N : Nat × Nat) (s s' : St) : Prop where
  slots : ∀ t x', s'.slot t = some x' → ∃ x, s.slot t = some x ∧ Conv s s' x x'
  objs : ∀ o ob', s'.obj o = some ob' → OConv N s s' o ob'
  drop : ∀ o, o < N.2 → s.obj o ≠ none → s'.obj o ≠ none

/-- The environment behind a weakening. -/
def wenv (s s' : St) (E : Env) : Env :=
  { E with obj := s'.obj, β := fun o => bif (s.obj o).isSome then E.β o else none, γ := fun o => bif (s.obj o).isSome then E.γ o else 0 }

theorem wenv_β {s s' : St} {E : Env} {o : Nat} {ob : OB} (h : s.obj o = some ob) : (wenv s s' E).β o = E.β o := by simp [wenv, h]
theorem wenv_γ {s s' : St} {E : Env} {o : Nat} {ob : OB} (h : s.obj o = some ob) : (wenv s s' E).γ o = E.γ o := by simp [wenv, h]
theorem wenv_β_none {s s' : St} {E : Env} {o : Nat} (h : s.obj o = none) : (wenv s s' E).β o = none := by simp [wenv, h]

theorem wenv_I {N : Nat × Nat} {s s' : St} {E : Env} (ho : E.obj = s.obj) {b : Nat} (hb : E.I b) : (wenv s s' E).I b := by
  refine ⟨hb.1, fun o ob _ e => ?_⟩
  cases hs : s.obj o with
  | none => rw [wenv_β_none hs] at e; cases e
  | some x => rw [wenv_β hs] at e; exact hb.2 o x (by rw [ho]; exact hs) e

theorem Conv.isAgg {s s' : St} {x x' : AV} (h : Conv s s' x x') : x'.isAgg = x.isAgg := by
  cases h with
  | d h => rw [h]
  | _ => rfl

/-- What an object's block says, behind the object's end. -/
theorem frozen_I {cx : Cx} {N : Nat × Nat} {s s' : St} {a : Act} {E : Env} (h : R0 cx s a E) (hw : Weak N s s') {o b : Nat} {ob : OB} (ho : s.obj o = some ob) (ho' : s'.obj o = none) (hb : E.β o = some b) : (wenv s s' E).I b := by
  have hne : s.obj o ≠ none := by rw [ho]; simp
  refine ⟨?_, fun o' ob' h' e => ?_⟩
  · show E.J b
    rw [h.may]
    exact h.fresh b (h.own o b hne hb)
  · cases hs : s.obj o' with
    | none => rw [wenv_β_none hs] at e; cases e
    | some x =>
      rw [wenv_β hs] at e
      have := h.inj o' o b (by rw [hs]; simp) hne e hb
      subst this
      have h'' : s'.obj o' = some ob' := h'
      rw [ho'] at h''; cases h''

theorem mono_wenv {N : Nat × Nat} {s s' : St} {E : Env} (ho : E.obj = s.obj) : ∀ b, E.I b → b < E.w.heap.size → (wenv s s' E).I b ∧ (wenv s s' E).w.heap[b]? = E.w.heap[b]? :=
  fun b hb _ => ⟨wenv_I (N := N) ho hb, rfl⟩

theorem cells_at_block {w : World} {b : Nat} {cs sp : List Value} {e : TypeId} {fz : Nat × Nat} (h : w.heap[b]? = some (.cells (cs ++ sp).toArray e fz)) : CellsAt w b 0 cs := by
  intro i v hi
  simp only [World.cell?, h, Nat.zero_add]
  have hlt := (List.getElem?_eq_some_iff.1 hi).1
  simp [List.getElem?_append_left hlt, hi]

mutual
theorem CR.conv {cx : Cx} {N : Nat × Nat} {s s' : St} {a : Act} {E : Env} (h : R0 cx s a E) (hw : Weak N s s') : ∀ {x x' : AV} {cs : List Value}, Conv s s' x x' → CR E x cs → CR (wenv s s' E) x' cs
  | _, _, _, .d e, .d k => by subst e; exact .d (k.mono (Nat.le_refl _) (mono_wenv (N := N) h.obj))
  | _, _, _, .nil0, .d k => by
    cases k with
    | v _ => exact .d .sl0
  | _, _, _, .nila h1 h2, .d k => by
    cases k with
    | v _ => exact .arr (E := wenv s s' E) h2 (Nat.le_refl _) (fun _ => by rw [wenv_β_none h1]; rfl) rfl
  | _, _, _, .ptr h1 h2, .ptr ho hb => .ptr (E := wenv s s' E) h2 ((wenv_β h1).trans hb)
  | _, _, _, .arr (rows := rows) (rows' := rows') h1 h2, .arr ho hl hv k1 => by
    rw [h.obj, h1] at ho
    cases ho
    have key : rows.length = rows'.length := by
      have := hw.objs _ _ h2
      cases this with
      | arr h3 hr => rw [h1] at h3; cases h3; rw [hr]
      | arr0 h3 hk hr => rw [h1] at h3; cases h3; rw [hr]
      | nil h3 => rw [h1] at h3; cases h3
    refine .arr (E := wenv s s' E) h2 (Nat.le_refl _) (fun _ => ?_) k1
    rw [wenv_β h1, wenv_γ h1, ← key]
    exact hv rfl
  | _, _, _, .frz (o := o) h1 h2 hr, .arr ho hl hv k1 => by
    subst hr
    rw [h.obj, h1] at ho
    cases ho
    rw [hv rfl]
    rcases h.objs _ _ h1 with ⟨q1, q2, q3⟩ | ⟨b, cs, sp, e, q1, q2, q3, q4, q5, q6⟩
    · rw [q1, q2]; exact .d .sl0
    · rw [q1]
      refine .d (.sl (frozen_I h hw h1 h2 q1) ((h.objs _ _ h1).lt q1) (q2.mono (Nat.le_refl _) (mono_wenv (N := N) h.obj)) q3 (cells_at_block q4) q6)
  | _, _, _, .map h1 h2, .map ho hb => .map (E := wenv s s' E) h2 ((wenv_β h1).trans hb)
  | _, _, _, .it h1 h2, .it ho hb => .it (E := wenv s s' E) h2 ((wenv_β h1).trans hb)
  | _, _, _, .pin (o := o) h1 h2, .ptr ho hb => by
    obtain ⟨b', cs, e, q1, q2, q3, q4⟩ := h.objs _ _ h1
    rw [hb] at q1; cases q1
    cases q2 with
    | d q2 => exact .d (.at (frozen_I h hw h1 h2 hb) ((h.objs _ _ h1).lt hb) (q2.mono (Nat.le_refl _) (mono_wenv (N := N) h.obj)) (cells_at_block (sp := []) (by rw [List.append_nil]; exact q4)))
  | _, _, _, .st k, .st c => .st (CRs.conv h hw k c)
  | _, _, _, .flat k, .st c => .d (.st (CRs.flat (CRs.conv h hw k c)))
  | _, _, _, .tup k, .tup c => .tup (VRs.conv h hw k c)
  | _, _, _, .fn k k', .fn c c' => .fn (VRs.conv h hw k c) (VRs.conv h hw k' c')
  | _, _, _, .ifc k, .ifc c => by rw [← k.isAgg]; exact .ifc (CR.conv h hw k c)
  | _, _, _, .sx e, .sx hI hb hr hs hc => by subst e; exact .sx (wenv_I (N := N) h.obj hI) hb (hr.mono (Nat.le_refl _) (mono_wenv (N := N) h.obj)) hs hc
  | _, _, _, .sxd e, .sx hI hb hr hs hc => by subst e; exact .d (.sl (wenv_I (N := N) h.obj hI) hb (hr.mono (Nat.le_refl _) (mono_wenv (N := N) h.obj)) hs hc (Nat.le_refl _))
theorem CRs.conv {cx : Cx} {N : Nat × Nat} {s s' : St} {a : Act} {E : Env} (h : R0 cx s a E) (hw : Weak N s s') : ∀ {x x' : List AV} {cs : List Value}, Convs s s' x x' → CRs E x cs → CRs (wenv s s' E) x' cs
  | _, _, _, .nil, .nil => .nil
  | _, _, _, .cons k ks, .cons c cs => .cons (CR.conv h hw k c) (CRs.conv h hw ks cs)
theorem VRs.conv {cx : Cx} {N : Nat × Nat} {s s' : St} {a : Act} {E : Env} (h : R0 cx s a E) (hw : Weak N s s') : ∀ {x x' : List AV} {cs : List Value}, Convs s s' x x' → VRs E x cs → VRs (wenv s s' E) x' cs
  | _, _, _, .nil, .nil => .nil
  | _, _, _, .cons k ks, .cons c cs => by rw [← k.isAgg]; exact .cons (CR.conv h hw k c) (VRs.conv h hw ks cs)
theorem CRs.flat {E : Env} : ∀ {ds : List D} {cs : List Value}, CRs E (ds.map .d) cs → DRs E.I E.w ds cs
  | [], _, .nil => .nil
  | _ :: _, _, .cons (.d c) cs => .cons c (CRs.flat cs)
end


theorem OConv.or {cx : Cx} {N : Nat × Nat} {s s' : St} {a : Act} {E : Env} (h : R0 cx s a E) (hw : Weak N s s') {o : Nat} {ob' : OB} (ho' : s'.obj o = some ob') : OConv N s s' o ob' → OR (wenv s s' E) o ob'
  | .box h1 hx => by
    obtain ⟨b, cs, e, q1, q2, q3, q4⟩ := h.objs _ _ h1
    exact ⟨b, cs, e, (wenv_β h1).trans q1, q2.conv h hw hx, q3, q4⟩
  | .arr h1 hr => by
    subst hr
    rcases h.objs _ _ h1 with ⟨q1, q2, q3⟩ | ⟨b, cs, sp, e, q1, q2, q3, q4, q5, q6⟩
    · exact .inl ⟨(wenv_β h1).trans q1, q2, (wenv_γ h1).trans q3⟩
    · exact .inr ⟨b, cs, sp, e, (wenv_β h1).trans q1, q2.mono (Nat.le_refl _) (mono_wenv (N := N) h.obj), q3, q4, by rw [wenv_γ h1]; exact q5, by rw [wenv_γ h1]; exact q6⟩
  | .arr0 h1 _ hr => by
    subst hr
    rcases h.objs _ _ h1 with ⟨q1, q2, q3⟩ | ⟨b, cs, sp, e, q1, q2, q3, q4, q5, q6⟩
    · exact .inl ⟨(wenv_β h1).trans q1, q2, (wenv_γ h1).trans q3⟩
    · exact .inr ⟨b, cs, sp, e, (wenv_β h1).trans q1, q2.mono (Nat.le_refl _) (mono_wenv (N := N) h.obj), q3, q4, by rw [wenv_γ h1]; exact q5, by rw [wenv_γ h1]; exact q6⟩
  | .map h1 he => by
    subst he
    obtain ⟨b, ents, clock, q1, q2, q3, q4, q5, q6, q7, q8⟩ := h.objs _ _ h1
    refine ⟨b, ents, clock, (wenv_β h1).trans q1, q2, q3, fun i k x ent p1 p2 => ?_, q5, q6, q7, q8.trans (wenv_γ h1).symm⟩
    obtain ⟨ck, cx, r1, r2, r3, r4⟩ := q4 i k x ent p1 p2
    exact ⟨ck, cx, r1.mono (Nat.le_refl _) (mono_wenv (N := N) h.obj), r2.mono (Nat.le_refl _) (mono_wenv (N := N) h.obj), r3, r4⟩
  | .map0 h1 _ he _ => by
    subst he
    obtain ⟨b, ents, clock, q1, q2, q3, q4, q5, q6, q7, q8⟩ := h.objs _ _ h1
    refine ⟨b, ents, clock, (wenv_β h1).trans q1, q2, q3, fun i k x ent p1 p2 => ?_, q5, q6, q7, q8.trans (wenv_γ h1).symm⟩
    obtain ⟨ck, cx, r1, r2, r3, r4⟩ := q4 i k x ent p1 p2
    exact ⟨ck, cx, r1.mono (Nat.le_refl _) (mono_wenv (N := N) h.obj), r2.mono (Nat.le_refl _) (mono_wenv (N := N) h.obj), r3, r4⟩
  | .iter h1 hm hm' hl he hcu => by
    subst hl; subst he
    obtain ⟨b, since, seen, last, q1, q2, q3, q4⟩ := h.objs _ _ h1
    refine ⟨b, since, seen, last, (wenv_β h1).trans q1, by rw [wenv_β hm]; exact q2, fun es hes => ?_, _, _, hm', Nat.le_refl _⟩
    have hes' : s'.obj _ = _ := hes
    rw [hm'] at hes'
    cases hes'
    rw [wenv_γ hm]
    obtain ⟨r1, r2, r3, r4, r5⟩ := q3 _ (by rw [h.obj]; exact hm)
    refine ⟨r1, r2, r3, r4, fun kv e => ?_⟩
    rcases hcu with hcu | hcu
    · rw [hcu] at e; cases e
    · exact r5 kv (hcu.trans e)
  | .nil h1 => .inl ⟨wenv_β_none h1, rfl, by simp [wenv, h1]⟩

theorem R.weak {cx : Cx} {s s' : St} {a : Act} {w : World} (hR : R cx s a w) (hw : Weak cx.nk s s') : R cx s' a w := by
  obtain ⟨E, rfl, h⟩ := hR
  have live : ∀ o b, s'.obj o ≠ none → (wenv s s' E).β o = some b → s.obj o ≠ none ∧ E.β o = some b := by
    intro o b h1 h2
    cases hs : s.obj o with
    | none => rw [wenv_β_none hs] at h2; cases h2
    | some x => rw [wenv_β hs] at h2; exact ⟨by simp, h2⟩
  refine ⟨wenv s s' E, rfl, rfl, h.may, h.fresh, h.inK, fun o ob ho => ?_, h.defers, h.size, fun t x' hx => ?_, fun o ob' ho => (hw.objs o ob' ho).or h hw ho, fun o o' b h1 h2 e1 e2 => ?_, fun o b h1 e1 => ?_, h.keeps⟩
  · obtain ⟨ob', h1, h2⟩ := h.hist o ob ho
    rw [h.obj] at h1
    have hlt := h.inK o (by rw [ho]; simp)
    have hne := hw.drop o hlt (by rw [h1]; simp)
    obtain ⟨ob'', h3⟩ := Option.ne_none_iff_exists'.1 hne
    refine ⟨ob'', h3, h2.trans (E := E) ?_⟩
    have hc := hw.objs _ _ h3
    cases hc with
    | box q _ => rw [q] at h1; cases h1; exact wenv_β q
    | arr q hr => subst hr; rw [q] at h1; cases h1; exact ⟨Nat.le_refl _, fun _ => ⟨wenv_β q, wenv_γ q, rfl, rfl⟩⟩
    | arr0 q hk _ => have := Nat.le_of_ble_eq_true hk; omega
    | map q he => subst he; rw [q] at h1; cases h1; exact ⟨wenv_β q, Nat.le_refl _, fun _ => ⟨rfl, rfl, wenv_γ q⟩⟩
    | map0 q hk _ _ => have := Nat.le_of_ble_eq_true hk; omega
    | iter q _ _ _ _ _ => rw [q] at h1; cases h1; exact wenv_β q
    | nil q => rw [q] at h1; cases h1
  · obtain ⟨x, h1, h2⟩ := hw.slots t x' hx
    obtain ⟨cs, k1, k2⟩ := h.slots t x h1
    exact ⟨cs, k1.conv h hw h2, by rw [h2.isAgg]; exact k2⟩
  · obtain ⟨p1, p2⟩ := live o b h1 e1
    obtain ⟨q1, q2⟩ := live o' b h2 e2
    exact h.inj _ _ _ p1 q1 p2 q2
  · obtain ⟨p1, p2⟩ := live o b h1 e1
    exact h.own _ _ p1 p2

theorem cw_weak {P : Program} {N : Nat × Nat} {c : Code} {Q : Exit → St → Prop} {s s' : St} (hw : Weak N s s') (h : CWp P N c Q s') : CWp P N c Q s :=
  fun cx a w hn hR => h cx a w hn (hR.weak (by rw [hn]; exact hw))

/-- A state written out. -/
def lk {α : Type} : List (Nat × α) → Nat → Option α
  | [], _ => none
  | (d, x) :: l, t => bif Nat.beq t d then some x else lk l t

def St.of (l : List (Nat × AV)) (m : List (Nat × OB)) : St := ⟨lk l, lk m⟩

def wkS (s s' : St) : List (Nat × AV) → Prop
  | [] => True
  | (t, x) :: l => (∃ y, s.slot t = some y ∧ Conv s s' y x) ∧ wkS s s' l

def wkO (N : Nat × Nat) (s s' : St) : List (Nat × OB) → Prop
  | [] => True
  | (o, x) :: l => OConv N s s' o x ∧ wkO N s s' l

theorem lk_mem {α : Type} {x : α} {t : Nat} : ∀ {l : List (Nat × α)}, lk l t = some x → (t, x) ∈ l
  | (d, y) :: l, h => by
    simp only [lk] at h
    cases hb : Nat.beq t d with
    | true => simp only [hb, cond_true, Option.some.injEq] at h; rw [h, Nat.eq_of_beq_eq_true hb]; simp
    | false => simp only [hb, cond_false] at h; exact List.mem_cons_of_mem _ (lk_mem h)

theorem wkS_mem {s s' : St} {t : Nat} {x : AV} : ∀ {l : List (Nat × AV)}, wkS s s' l → (t, x) ∈ l → ∃ y, s.slot t = some y ∧ Conv s s' y x
  | (d, y) :: l, h, hm => by
    rcases List.mem_cons.1 hm with e | e
    · cases e; exact h.1
    · exact wkS_mem h.2 e

theorem wkO_mem {N : Nat × Nat} {s s' : St} {t : Nat} {x : OB} : ∀ {l : List (Nat × OB)}, wkO N s s' l → (t, x) ∈ l → OConv N s s' t x
  | (d, y) :: l, h, hm => by
    rcases List.mem_cons.1 hm with e | e
    · cases e; exact h.1
    · exact wkO_mem h.2 e

theorem weak_of {N : Nat × Nat} {s : St} {l : List (Nat × AV)} {m : List (Nat × OB)} (h1 : wkS s (.of l m) l) (h2 : wkO N s (.of l m) m) (h3 : ∀ o, o < N.2 → s.obj o ≠ none → lk m o ≠ none) : Weak N s (.of l m) :=
  ⟨fun _ _ h => wkS_mem h1 (lk_mem h), fun _ _ h => wkO_mem h2 (lk_mem h), h3⟩

theorem drop0 {s : St} {m : List (Nat × OB)} {n : Nat} : ∀ o, o < (n, 0).2 → s.obj o ≠ none → lk m o ≠ none := fun _ h => absurd h (Nat.not_lt_zero _)

/-! ### Contracts -/
def EnvOk (E : Env) : Prop := (∀ o ob, E.obj o = some ob → OR E o ob) ∧ ∀ o o' b, E.obj o ≠ none → E.obj o' ≠ none → E.β o = some b → E.β o' = some b → o = o'

def Env.T (E : Env) (b : Nat) : Prop := ∃ o, E.obj o ≠ none ∧ E.β o = some b

/-- How a call ends. -/
def Ret (E : Env) (Post : AV → (Nat → Option OB) → Prop) (e : Ending) (w' : World) : Prop :=
  ∃ v res E', e = .returned v ∧ E'.w = w' ∧ Post res E'.obj ∧ VR E' res v ∧ EnvOk E' ∧ (∀ o b, E'.obj o ≠ none → E'.β o = some b → E.w.heap.size ≤ b ∨ E.T b) ∧
    Keeps ⟨(0, 0), E, E.T, E.J⟩ w' ∧ (∀ b, E'.J b → E.J b ∨ E.w.heap.size ≤ b ∨ E.T b) ∧ (∀ o ob, E.obj o = some ob → ∃ ob', E'.obj o = some ob' ∧ OExt E E' o ob ob')

/-- A contract: called with these values (objects 0, 1, .. below k come in), function f returns what Post says. -/
def FnOk (P : Program) (f : FuncId) (args : List AV) (k : Nat) (oin : Nat → Option OB) (Post : AV → (Nat → Option OB) → Prop) : Prop :=
  (∀ o, oin o ≠ none → o < k) → ∀ (E : Env) (vals : List Value), E.obj = oin → EnvOk E → VRs E args vals → Calls P f vals.toArray E.w (Ret E Post)

def ResOk (P : Program) (fn : Func) (s : St) (res : AV) : Prop := ∀ (cx : Cx) (a : Act) (E : Env), R0 cx s a E → ∃ v, (results fn a.tmps).run P E.w = .ok v E.w ∧ VR E res v

theorem VRs.get {E : Env} : ∀ {xs : List AV} {vs : List Value}, VRs E xs vs → xs.length = vs.length ∧ ∀ (t : Nat) (x : AV), xs[t]? = some x → ∃ v, vs[t]? = some v ∧ VR E x v
  | _, _, .nil => ⟨rfl, fun _ _ h => by simp at h⟩
  | _, _, .cons h hs => by
    obtain ⟨h1, h2⟩ := VRs.get hs
    refine ⟨by simp [h1], fun t x ht => ?_⟩
    cases t with
    | zero => simp at ht; subst ht; exact ⟨_, rfl, _, h, rfl⟩
    | succ t => simp at ht; obtain ⟨v, k1, k2⟩ := h2 t x ht; exact ⟨v, by simpa using k1, k2⟩

/-- A contract out of the body. -/
theorem fnOk_of {P : Program} {f : FuncId} {fn : Func} {c : Code} {args : List AV} {k : Nat} {oin : Nat → Option OB} {Post : AV → (Nat → Option OB) → Prop} (hf : P.funcs[f]? = some fn) (hb : fn.body = some c)
    (hn : Nat.ble args.length fn.ntmps = true)
    (h : CWp P (fn.ntmps, k) c (fun e s' => (e = .normal ∨ e = .ret) ∧ ∃ res, ResOk P fn s' res ∧ Post res s'.obj) ⟨fun t => args[t]?, oin⟩) : FnOk P f args k oin Post := by
  intro hk E vals hE hok hargs
  obtain ⟨hl, hget⟩ := hargs.get
  have hn' := Nat.le_of_ble_eq_true hn
  refine calls_of_wp hf hb ?_
  let J' : Nat → Prop := fun b => E.J b ∨ E.w.heap.size ≤ b ∨ E.T b
  let E0 : Env := { E with J := J' }
  have ext : Ext E E0 := by
    refine ⟨Nat.le_refl _, fun b hb _ => ⟨⟨.inl hb.1, hb.2⟩, rfl⟩, fun o ob ho => ⟨ob, ho, ?_⟩⟩
    cases ob <;> simp [OExt, E0]
  have ext0 : ∀ o ob, E.obj o = some ob → ∃ ob', E0.obj o = some ob' ∧ OExt E E0 o ob ob' := ext.live
  have hR : R0 ⟨(fn.ntmps, k), E, E.T, J'⟩ ⟨fun t => args[t]?, oin⟩ { tmps := vals.toArray ++ Array.replicate (fn.ntmps - vals.toArray.size) undef, defers := [] } E0 := by
    refine ⟨hE, rfl, fun b hb => .inr hb, fun o ho => hk o (by rw [← hE]; exact ho), ext0, rfl, by simp; omega, fun t x ht => ?_, fun o ob ho => ?_, fun o o' b h1 h2 e1 e2 => hok.2 o o' b (by rw [hE]; exact h1) (by rw [hE]; exact h2) e1 e2,
      fun o b h1 e1 => .inr ⟨o, by rw [hE]; exact h1, e1⟩, ⟨rfl, rfl, rfl, Nat.le_refl _, fun _ _ _ => rfl, fun _ => Nat.le_refl _⟩⟩
    · obtain ⟨v, h1, h2⟩ := hget t x ht
      have hlt := (List.getElem?_eq_some_iff.1 h1).1
      have : (vals.toArray ++ Array.replicate (fn.ntmps - vals.toArray.size) undef).getD t undef = v := by
        rw [Array.getD_eq_getD_getElem?, Array.getElem?_append_left (by simpa using hlt)]
        simp [h1]
      simp only [this]
      exact h2.ext ext
    · have := hok.1 o ob (by rw [hE]; exact ho)
      exact this.ext ext rfl rfl rfl (fun _ _ => rfl) (fun m ver l cu e => ⟨rfl, fun es hes => ⟨hes, rfl, rfl⟩, fun h => h⟩)
  refine wp_mono (h ⟨(fn.ntmps, k), E, E.T, J'⟩ _ _ rfl ⟨E0, rfl, hR⟩) ?_
  rintro e a w' ⟨s', ⟨he, res, hres, hpost⟩, E', rfl, hR'⟩
  obtain ⟨v, h1, h2⟩ := hres _ _ _ hR'
  have fin : Ret E Post (.returned v) E'.w := by
    refine ⟨v, res, E', rfl, rfl, by rw [hR'.obj]; exact hpost, h2, ⟨fun o ob ho => hR'.objs o ob (by rw [← hR'.obj]; exact ho), fun o o' b p1 p2 e1 e2 => hR'.inj o o' b (by rw [← hR'.obj]; exact p1) (by rw [← hR'.obj]; exact p2) e1 e2⟩,
      fun o b p1 e1 => hR'.own o b (by rw [← hR'.obj]; exact p1) e1, ⟨hR'.keeps.os, hR'.keeps.tape, hR'.keeps.output, hR'.keeps.size, hR'.keeps.block, hR'.keeps.drawn⟩, fun b hb => ?_, hR'.hist⟩
    have := hR'.may
    rw [this] at hb
    exact hb
  rcases he with rfl | rfl
  · exact ⟨hR'.defers, v, h1, fin⟩
  · exact ⟨hR'.defers, v, h1, fin⟩

end Go.Val
