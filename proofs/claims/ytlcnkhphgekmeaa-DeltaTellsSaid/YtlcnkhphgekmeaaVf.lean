/- Single operations, I: what leaves the world alone. -/
import Derived.Test.YtlcnkhphgekmeaaVe
import Derived.WalkKit
set_option linter.unusedSectionVars false
set_option linter.unusedVariables false
set_option linter.unusedSimpArgs false
namespace Go.Val
open Go.RowKit
variable [Drw]

/-- The guard of an operation lets it by. -/
inductive G (ops : Array Oper) (s : St) : Option (Nat × Bool) → List Nat → Prop
  | no : G ops s none []
  | yes {j dj : Nat} {want b : Bool} (hj : (ops[j]?).bind (·.dst) = some dj) (hs : s.slot dj = some (.d (.v (.bool b)))) (hb : b = want) : G ops s (some (j, want)) [dj]

theorem yielded_of {ops : Array Oper} {cx : Cx} {s : St} {a : Act} {E : Env} (h : R0 cx s a E) {j dj : Nat} {b : Bool} (hj : (ops[j]?).bind (·.dst) = some dj) (hs : s.slot dj = some (.d (.v (.bool b)))) :
    yielded ops a.tmps j = some b := by
  have hv := (h.slots _ _ hs).sc
  unfold yielded
  rw [hj]
  simp only [Option.bind_some]
  rw [Array.getD_eq_getD_getElem?] at hv
  cases hq : a.tmps[dj]? with
  | none => simp [hq, undef] at hv
  | some v => simp [hq] at hv; subst hv; rfl

theorem G.wanted {ops : Array Oper} {s s' : St} {o : Oper} {gs : List Nat} (hg : G ops s o.guard gs) (hs : ∀ t ∈ gs, s'.slot t = s.slot t) {cx : Cx} {a : Act} {E : Env} (h : R0 cx s' a E) :
    Region.wanted o (yielded ops a.tmps) = true := by
  unfold Region.wanted
  generalize o.guard = g at hg
  cases hg with
  | no => rfl
  | yes hj h1 hb =>
    simp only
    rw [yielded_of h hj (by rw [hs _ (by simp)]; exact h1), hb]
    simp

section
variable {P : Program} {N : Nat × Nat} {ops : Array Oper} {i : Nat} {s : St}

/-- An operation that yields a value. -/
theorem valid_core {o : Oper} {d : Nat} {gs rs ro : List Nat} {x : AV} {wo : List (Nat × OB)} (ho : ops[i]? = some o) (hdst : o.dst = some d) (hd : Nat.ble (d + 1) N.1 = true) (hg : G ops s o.guard gs)
    (h : ∀ s', (∀ t ∈ rs, s'.slot t = s.slot t) → (∀ k ∈ ro, s'.obj k = s.obj k) → ∀ (cx : Cx) (a : Act) (E : Env), cx.nk = N → R0 cx s' a E →
      ∃ v E', (execOp a.eval o).run P E.w = .ok (.value v) E'.w ∧ VR E' x v ∧ R0 cx { s' with obj := setAll s'.obj wo } a E') :
    Valid P N ops i ⟨gs ++ rs, ro, some (d, some x), wo⟩ s := by
  refine ⟨o, ho, fun s' hs Q cx a w hn hR => ?_⟩
  obtain ⟨E, rfl, hR0⟩ := hR
  rw [if_pos (hg.wanted (fun t ht => hs.1 t (List.mem_append.2 (.inl ht))) hR0)]
  obtain ⟨v, E', h1, h2, h3⟩ := h s' (fun t ht => hs.1 t (List.mem_append.2 (.inr ht))) hs.2 cx a E hn hR0
  unfold Oper.wp
  rw [h1]
  simp only [Oper.upon, hdst]
  refine ⟨E', rfl, ?_⟩
  have := h3.put h2 (d := d) (by rw [hn]; exact Nat.le_of_ble_eq_true hd)
  exact this

/-- An operation that yields nothing. -/
theorem valid_skip {o : Oper} {gs rs ro : List Nat} {wo : List (Nat × OB)} (ho : ops[i]? = some o) (hdst : o.dst = none) (hg : G ops s o.guard gs)
    (h : ∀ s', (∀ t ∈ rs, s'.slot t = s.slot t) → (∀ k ∈ ro, s'.obj k = s.obj k) → ∀ (cx : Cx) (a : Act) (E : Env), cx.nk = N → R0 cx s' a E →
      ∃ r E', (execOp a.eval o).run P E.w = .ok r E'.w ∧ (r = .skip ∨ ∃ v, r = .value v) ∧ R0 cx { s' with obj := setAll s'.obj wo } a E') :
    Valid P N ops i ⟨gs ++ rs, ro, none, wo⟩ s := by
  refine ⟨o, ho, fun s' hs Q cx a w hn hR => ?_⟩
  obtain ⟨E, rfl, hR0⟩ := hR
  rw [if_pos (hg.wanted (fun t ht => hs.1 t (List.mem_append.2 (.inl ht))) hR0)]
  obtain ⟨r, E', h1, h2, h3⟩ := h s' (fun t ht => hs.1 t (List.mem_append.2 (.inr ht))) hs.2 cx a E hn hR0
  unfold Oper.wp
  rw [h1]
  rcases h2 with rfl | ⟨v, rfl⟩
  · simp only [Oper.upon, hdst]; exact ⟨E', rfl, h3⟩
  · simp only [Oper.upon, hdst]; exact ⟨E', rfl, h3⟩

/-- An operation that is passed over. -/
theorem o_no {d j dj : Nat} {want b : Bool} {op : Op} {ty : TypeId} {pos : String} {af : Array Edge} (ho : ops[i]? = some ⟨some d, op, ty, pos, af, some (j, want)⟩) (hd : Nat.ble (d + 1) N.1 = true)
    (hj : (ops[j]?).bind (·.dst) = some dj) (hs : s.slot dj = some (.d (.v (.bool b)))) (hb : b = !want) : Valid P N ops i ⟨[dj], [], some (d, none), []⟩ s := by
  refine ⟨_, ho, fun s' hs' Q cx a w hn hR => ?_⟩
  obtain ⟨E, rfl, hR0⟩ := hR
  have hy := yielded_of hR0 hj (by rw [hs'.1 _ (by simp)]; exact hs)
  have : Region.wanted (⟨some d, op, ty, pos, af, some (j, want)⟩ : Oper) (yielded ops a.tmps) = false := by
    simp only [Region.wanted, hy, hb]; cases want <;> rfl
  rw [if_neg (by rw [this]; simp)]
  exact ⟨E, rfl, hR0.forget (d := d) (by rw [hn]; exact Nat.le_of_ble_eq_true hd)⟩

theorem o_no' {j dj : Nat} {want b : Bool} {op : Op} {ty : TypeId} {pos : String} {af : Array Edge} (ho : ops[i]? = some ⟨none, op, ty, pos, af, some (j, want)⟩)
    (hj : (ops[j]?).bind (·.dst) = some dj) (hs : s.slot dj = some (.d (.v (.bool b)))) (hb : b = !want) : Valid P N ops i ⟨[dj], [], none, []⟩ s := by
  refine ⟨_, ho, fun s' hs' Q cx a w hn hR => ?_⟩
  obtain ⟨E, rfl, hR0⟩ := hR
  have hy := yielded_of hR0 hj (by rw [hs'.1 _ (by simp)]; exact hs)
  have : Region.wanted (⟨none, op, ty, pos, af, some (j, want)⟩ : Oper) (yielded ops a.tmps) = false := by
    simp only [Region.wanted, hy, hb]; cases want <;> rfl
  rw [if_neg (by rw [this]; simp)]
  exact ⟨E, rfl, hR0⟩

theorem yielded_undef {ops : Array Oper} {cx : Cx} {s : St} {a : Act} {E : Env} (h : R0 cx s a E) {j dj : Nat} (hj : (ops[j]?).bind (·.dst) = some dj) (hs : s.slot dj = some (.tup [])) :
    yielded ops a.tmps j = none := by
  obtain ⟨cs, h1, h2⟩ := h.slots _ _ hs
  have hv : a.tmps.getD dj undef = .tuple #[] := by
    rw [h2]
    cases h1 with
    | tup h => cases h; rfl
  unfold yielded
  rw [hj]
  rw [Array.getD_eq_getD_getElem?] at hv
  simp only [Option.bind]
  cases hq : a.tmps[dj]? with
  | none => rfl
  | some v => simp [hq] at hv; subst hv; rfl

/-- An operation that is passed over, which leaves nothing. -/
theorem o_noT {d j dj : Nat} {want b : Bool} {op : Op} {ty : TypeId} {pos : String} {af : Array Edge} (ho : ops[i]? = some ⟨some d, op, ty, pos, af, some (j, want)⟩) (hd : Nat.ble (d + 1) N.1 = true)
    (hj : (ops[j]?).bind (·.dst) = some dj) (hs : s.slot dj = some (.d (.v (.bool b)))) (hb : b = !want) : Valid P N ops i ⟨[dj], [], some (d, some (.tup [])), []⟩ s := by
  refine ⟨_, ho, fun s' hs' Q cx a w hn hR => ?_⟩
  obtain ⟨E, rfl, hR0⟩ := hR
  have hy := yielded_of hR0 hj (by rw [hs'.1 _ (by simp)]; exact hs)
  have : Region.wanted (⟨some d, op, ty, pos, af, some (j, want)⟩ : Oper) (yielded ops a.tmps) = false := by
    simp only [Region.wanted, hy, hb]; cases want <;> rfl
  rw [if_neg (by rw [this]; simp)]
  exact ⟨E, rfl, hR0.put (d := d) ⟨[undef], .tup .nil, rfl⟩ (by rw [hn]; exact Nat.le_of_ble_eq_true hd)⟩

/-- An operation whose guard was passed over. -/
theorem o_noU {d j dj : Nat} {want : Bool} {op : Op} {ty : TypeId} {pos : String} {af : Array Edge} (ho : ops[i]? = some ⟨some d, op, ty, pos, af, some (j, want)⟩) (hd : Nat.ble (d + 1) N.1 = true)
    (hj : (ops[j]?).bind (·.dst) = some dj) (hs : s.slot dj = some (.tup [])) : Valid P N ops i ⟨[dj], [], some (d, some (.tup [])), []⟩ s := by
  refine ⟨_, ho, fun s' hs' Q cx a w hn hR => ?_⟩
  obtain ⟨E, rfl, hR0⟩ := hR
  have hy := yielded_undef hR0 hj (by rw [hs'.1 _ (by simp)]; exact hs)
  have : Region.wanted (⟨some d, op, ty, pos, af, some (j, want)⟩ : Oper) (yielded ops a.tmps) = false := by
    simp only [Region.wanted, hy]; cases want <;> rfl
  rw [if_neg (by rw [this]; simp)]
  exact ⟨E, rfl, hR0.put (d := d) ⟨[undef], .tup .nil, rfl⟩ (by rw [hn]; exact Nat.le_of_ble_eq_true hd)⟩

theorem val_agree {s s' : St} {x : Operand} (h : ∀ t ∈ opTmps x, s'.slot t = s.slot t) : s'.val x = s.val x := by
  cases x with
  | tmp t => exact h t (by simp [opTmps])
  | _ => rfl

theorem r0_same {cx : Cx} {s : St} {a : Act} {E : Env} (h : R0 cx s a E) : R0 cx { s with obj := setAll s.obj [] } a E := h

variable {d : Nat} {ty : TypeId} {pos : String} {af : Array Edge} {g : Option (Nat × Bool)} {gs : List Nat}

/-- What only looks at operands. -/
theorem valid_pure {op : Op} {rs : List Nat} {x : AV} (ho : ops[i]? = some ⟨some d, op, ty, pos, af, g⟩) (hd : Nat.ble (d + 1) N.1 = true) (hg : G ops s g gs)
    (h : ∀ s', (∀ t ∈ rs, s'.slot t = s.slot t) → ∀ (cx : Cx) (a : Act) (E : Env), R0 cx s' a E → ∃ v, (execOp a.eval ⟨some d, op, ty, pos, af, g⟩).run P E.w = .ok (.value v) E.w ∧ VR E x v) :
    Valid P N ops i ⟨gs ++ rs, [], some (d, some x), []⟩ s :=
  valid_core ho rfl hd hg fun s' hs _ cx a E _ hR => let ⟨v, h1, h2⟩ := h s' hs cx a E hR; ⟨v, E, h1, h2, r0_same hR⟩

theorem o_mv {x : Operand} {y : AV} (ho : ops[i]? = some ⟨some d, .move x, ty, pos, af, g⟩) (hd : Nat.ble (d + 1) N.1 = true) (hg : G ops s g gs) (hx : s.val x = some y) :
    Valid P N ops i ⟨gs ++ opTmps x, [], some (d, some y), []⟩ s :=
  valid_pure ho hd hg fun s' hs cx a E hR => ⟨a.eval x, rfl, hR.val ((val_agree hs).trans hx)⟩

theorem o_as {x : Operand} {y : AV} (ho : ops[i]? = some ⟨some d, .assign x, ty, pos, af, g⟩) (hd : Nat.ble (d + 1) N.1 = true) (hg : G ops s g gs) (hx : s.val x = some y) :
    Valid P N ops i ⟨gs ++ opTmps x, [], some (d, some y), []⟩ s :=
  valid_pure ho hd hg fun s' hs cx a E hR => ⟨a.eval x, rfl, hR.val ((val_agree hs).trans hx)⟩

theorem mem_app {p q : List Nat} {f g : Nat → Option AV} (h : ∀ t ∈ p ++ q, f t = g t) : (∀ t ∈ p, f t = g t) ∧ (∀ t ∈ q, f t = g t) :=
  ⟨fun t ht => h t (List.mem_append.2 (.inl ht)), fun t ht => h t (List.mem_append.2 (.inr ht))⟩

theorem o_pickT {c x z : Operand} {b : Bool} {y : AV} (ho : ops[i]? = some ⟨some d, .pick c x z, ty, pos, af, g⟩) (hd : Nat.ble (d + 1) N.1 = true) (hg : G ops s g gs) (hc : s.val c = some (.d (.v (.bool b)))) (hb : b = true)
    (hx : s.val x = some y) : Valid P N ops i ⟨gs ++ (opTmps c ++ opTmps x), [], some (d, some y), []⟩ s :=
  valid_pure ho hd hg fun s' hs cx a E hR => by
    have h1 := (hR.val ((val_agree (mem_app hs).1).trans hc)).sc
    refine ⟨a.eval x, ?_, hR.val ((val_agree (mem_app hs).2).trans hx)⟩
    simp [execOp, h1, hb, asBool, Result.andThen]

theorem o_pickF {c x z : Operand} {b : Bool} {y : AV} (ho : ops[i]? = some ⟨some d, .pick c x z, ty, pos, af, g⟩) (hd : Nat.ble (d + 1) N.1 = true) (hg : G ops s g gs) (hc : s.val c = some (.d (.v (.bool b)))) (hb : b = false)
    (hx : s.val z = some y) : Valid P N ops i ⟨gs ++ (opTmps c ++ opTmps z), [], some (d, some y), []⟩ s :=
  valid_pure ho hd hg fun s' hs cx a E hR => by
    have h1 := (hR.val ((val_agree (mem_app hs).1).trans hc)).sc
    refine ⟨a.eval z, ?_, hR.val ((val_agree (mem_app hs).2).trans hx)⟩
    simp [execOp, h1, hb, asBool, Result.andThen]

/-- Two scalars and what comes of them. -/
theorem o_bin {op : BinOp} {T T' : TypeId} {x z : Operand} {u v r : Value} (ho : ops[i]? = some ⟨some d, .binOp op T x z T', ty, pos, af, g⟩) (hd : Nat.ble (d + 1) N.1 = true) (hg : G ops s g gs)
    (hx : s.val x = some (.d (.v u))) (hz : s.val z = some (.d (.v v))) (hr : ∀ w, (eqGuard op T x z u v >>= fun _ => binOp op T u v : Sem Value).run P w = .ok r w) (h1 : one r = true) :
    Valid P N ops i ⟨gs ++ (opTmps x ++ opTmps z), [], some (d, some (.d (.v r))), []⟩ s :=
  valid_pure ho hd hg fun s' hs cx a E hR => by
    have h1' := (hR.val ((val_agree (mem_app hs).1).trans hx)).sc
    have h2' := (hR.val ((val_agree (mem_app hs).2).trans hz)).sc
    refine ⟨r, ?_, .of_sc h1⟩
    have := hr E.w
    simp only [execOp, h1', h2']
    rw [Sem.run_bind, this]
    rfl

theorem o_not {T : TypeId} {x : Operand} {b : Bool} (ho : ops[i]? = some ⟨some d, .unOp .not T x, ty, pos, af, g⟩) (hd : Nat.ble (d + 1) N.1 = true) (hg : G ops s g gs) (hx : s.val x = some (.d (.v (.bool b)))) :
    Valid P N ops i ⟨gs ++ opTmps x, [], some (d, some (.d (.v (.bool (!b))))), []⟩ s :=
  valid_pure ho hd hg fun s' hs cx a E hR => by
    have h1' := (hR.val ((val_agree hs).trans hx)).sc
    exact ⟨.bool (!b), by simp [execOp, h1', Op.unary, Result.andThen], .of_sc rfl⟩

/-- A number turned into another kind. -/
theorem o_conv {S T : TypeId} {x : Operand} {k k' : IntKind} {n : Int} (ho : ops[i]? = some ⟨some d, .convert S T x, ty, pos, af, g⟩) (hd : Nat.ble (d + 1) N.1 = true) (hg : G ops s g gs)
    (hx : s.val x = some (.d (.v (.int k n)))) (hS : P.underlying S = some (.int k)) (hT : P.underlying T = some (.int k')) :
    Valid P N ops i ⟨gs ++ opTmps x, [], some (d, some (.d (.v (.int k' (k'.wrap n))))), []⟩ s :=
  valid_pure ho hd hg fun s' hs cx a E hR => by
    have h1' := (hR.val ((val_agree hs).trans hx)).sc
    exact ⟨_, by simp [execOp, h1', convert, run_underlying hS, run_underlying hT, Result.andThen, Conv.intToInt], .of_sc rfl⟩

theorem o_ext {x : Operand} {k : Nat} {l : List AV} {y : AV} (ho : ops[i]? = some ⟨some d, .extract x k, ty, pos, af, g⟩) (hd : Nat.ble (d + 1) N.1 = true) (hg : G ops s g gs) (hx : s.val x = some (.tup l)) (hk : l[k]? = some y) :
    Valid P N ops i ⟨gs ++ opTmps x, [], some (d, some y), []⟩ s :=
  valid_pure ho hd hg fun s' hs cx a E hR => by
    obtain ⟨cs, h1, h2⟩ := hR.val ((val_agree hs).trans hx)
    cases h1 with
    | tup h1 =>
      obtain ⟨_, h3⟩ := h1.get
      obtain ⟨v, h4, h5⟩ := h3 k y hk
      refine ⟨v, ?_, h5⟩
      simp [execOp, h2, mkV, AV.isAgg, Instr.extract, h4, Result.andThen]

/-! ### Lengths -/
theorem o_lenS {T : TypeId} {x : Operand} {b : ByteArray} (ho : ops[i]? = some ⟨some d, .call ⟨.builtin .len, #[x], #[T]⟩, ty, pos, af, g⟩) (hd : Nat.ble (d + 1) N.1 = true) (hg : G ops s g gs)
    (hx : s.val x = some (.d (.v (.string b)))) (hT : P.underlying T = some .string) : Valid P N ops i ⟨gs ++ opTmps x, [], some (d, some (.d (.v (.int .i64 b.size)))), []⟩ s :=
  valid_pure ho hd hg fun s' hs cx a E hR => by
    have h1' := (hR.val ((val_agree hs).trans hx)).sc
    exact ⟨_, by simp [execOp, resolve, invoke, builtin, Builtin.len_, h1', run_underlying hT, Result.andThen, goInt], .of_sc rfl⟩

/-- A datum that is a slice: its value. -/
theorem VR.sl_val {E : Env} {es : Nat} {rows : List D} {v : Value} (h : VR E (.d (.sl es rows)) v) : ∃ a cap, v = .slice a rows.length cap := by
  obtain ⟨cs, h1, h2⟩ := h
  cases h1 with
  | d h => cases h with
    | sl0 => exact ⟨_, _, h2⟩
    | sl => exact ⟨_, _, h2⟩

theorem o_len {T e : TypeId} {x : Operand} {es : Nat} {rows : List D} (ho : ops[i]? = some ⟨some d, .call ⟨.builtin .len, #[x], #[T]⟩, ty, pos, af, g⟩) (hd : Nat.ble (d + 1) N.1 = true) (hg : G ops s g gs)
    (hx : s.val x = some (.d (.sl es rows))) (hT : P.underlying T = some (.slice e)) : Valid P N ops i ⟨gs ++ opTmps x, [], some (d, some (.d (.v (.int .i64 rows.length)))), []⟩ s :=
  valid_pure ho hd hg fun s' hs cx a E hR => by
    obtain ⟨b, cap, h1⟩ := (hR.val ((val_agree hs).trans hx)).sl_val
    exact ⟨_, by simp [execOp, resolve, invoke, builtin, Builtin.len_, h1, run_underlying hT, Result.andThen, goInt], .of_sc rfl⟩

theorem o_lenA {T e : TypeId} {x : Operand} {o c es : Nat} {rows : List D} (ho : ops[i]? = some ⟨some d, .call ⟨.builtin .len, #[x], #[T]⟩, ty, pos, af, g⟩) (hd : Nat.ble (d + 1) N.1 = true) (hg : G ops s g gs)
    (hx : s.val x = some (.arr o c)) (hob : s.obj o = some (.arr c es rows)) (hT : P.underlying T = some (.slice e)) :
    Valid P N ops i ⟨gs ++ opTmps x, [o], some (d, some (.d (.v (.int .i64 rows.length)))), []⟩ s :=
  valid_core ho rfl hd hg fun s' hs ho' cx a E _ hR => by
    have hob' : s'.obj o = some (.arr c es rows) := (ho' o (by simp)).trans hob
    obtain ⟨cs, h1, h2⟩ := hR.val ((val_agree hs).trans hx)
    cases h1 with
    | arr k1 k2 k3 k4 =>
      rw [hR.obj, hob'] at k1; cases k1
      have h3 : a.eval x = sliceV (E.β o) rows.length (E.γ o) := by rw [h2]; exact k3 rfl
      have h4 : ∃ b cap, a.eval x = .slice b rows.length cap := by
        rw [h3]
        rcases hR.objs _ _ hob' with ⟨q1, q2, _⟩ | ⟨b, _, _, _, q1, _⟩
        · rw [q1, q2]; exact ⟨_, _, rfl⟩
        · rw [q1]; exact ⟨_, _, rfl⟩
      obtain ⟨b, cap, h5⟩ := h4
      exact ⟨_, E, by simp [execOp, resolve, invoke, builtin, Builtin.len_, h5, run_underlying hT, Result.andThen, goInt], .of_sc rfl, r0_same hR⟩

end
end Go.Val
