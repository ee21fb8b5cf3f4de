/- Single operations, III: comparing data, memory that is made and written. -/
import Derived.Test.YtlcnkhphgekmeaaVh
set_option linter.unusedSectionVars false
set_option linter.unusedVariables false
set_option linter.unusedSimpArgs false
namespace Go.Val
open Go.RowKit
variable [Drw]

theorem mkV_cells {agg : Bool} {cs : List Value} (h1 : ∀ v ∈ cs, one v = true) (hl : agg = false → cs.length = 1) : (mkV agg cs).cells = cs.toArray := by
  cases agg with
  | true => rfl
  | false =>
    match cs, hl rfl with
    | [v], _ =>
      have := h1 v (by simp)
      cases v <;> first | rfl | (simp [one] at this)

mutual
def AV.plain : AV → Bool
  | .tup _ => false
  | .st ps => AV.plains ps
  | _ => true
def AV.plains : List AV → Bool
  | [] => true
  | x :: xs => x.plain && AV.plains xs
end

mutual
theorem CR.ones {E : Env} : ∀ {x : AV} {cs : List Value}, x.plain = true → CR E x cs → ∀ v ∈ cs, one v = true
  | _, _, _, .d h => h.ones
  | _, _, _, .ptr .. => by simp [one]
  | _, _, _, .arr _ _ _ h => by simpa using h
  | _, _, _, .pel _ _ _ h => by simpa using h
  | _, _, _, .map .. => by simp [one]
  | _, _, _, .it .. => by simp [one]
  | _, _, _, .bsl .. => by simp [one]
  | _, _, hp, .st h => CRs.ones (by simpa [AV.plain] using hp) h
  | _, _, hp, .tup _ => by simp [AV.plain] at hp
  | _, _, _, .fn .. => by simp [one]
  | _, _, _, .ifc .. => by simp [one]
  | _, _, _, .sx .. => by simp [one]
theorem CRs.ones {E : Env} : ∀ {x : List AV} {cs : List Value}, AV.plains x = true → CRs E x cs → ∀ v ∈ cs, one v = true
  | _, _, _, .nil => by simp
  | _, _, hp, .cons h hs => by
    simp only [AV.plains, Bool.and_eq_true] at hp
    intro v hv
    rcases List.mem_append.1 hv with h1 | h1
    · exact CR.ones hp.1 h v h1
    · exact CRs.ones hp.2 hs v h1
end

/-- With what is put in at the end of a path. -/
def AV.put : List Nat → AV → AV → AV
  | [], _, y => y
  | i :: p, .st ps, y => .st (ps.set i (AV.put p (ps.getD i default) y))
  | i :: p, .d (.st ds), y => match AV.put p (.d (ds.getD i default)) y with
    | .d z => .d (.st (ds.set i z))
    | z => .st ((ds.map .d).set i z)
  | _, x, _ => x

theorem CRs.of_drs {E : Env} : ∀ {ds : List D} {cs : List Value}, DRs E.I E.w ds cs → CRs E (ds.map .d) cs
  | _, _, .nil => .nil
  | _, _, .cons h hs => .cons (.d h) (CRs.of_drs hs)

theorem set_cut {α : Type} : ∀ (l : List α) (i : Nat) (x y : α), l[i]? = some x → l.set i y = l.take i ++ (y :: l.drop (i + 1))
  | [], i, x, y, h => by simp at h
  | a :: l, 0, x, y, h => by simp
  | a :: l, i + 1, x, y, h => by simp at h; simp [set_cut l i x y h]

theorem put_cr {E : Env} {y y' : AV} {c2' : List Value} (hy : CR E y' c2') : ∀ (p : List Nat) {x : AV} {n : Nat} {cs : List Value}, CR E x cs → AV.get p x = some (y, n) →
    ∃ c1 c2 c3, cs = c1 ++ (c2 ++ c3) ∧ c1.length = n ∧ CR E y c2 ∧ CR E (AV.put p x y') (c1 ++ (c2' ++ c3))
  | [], x, n, cs, h, hg => by
    simp only [AV.get, Option.some.injEq, Prod.mk.injEq] at hg
    obtain ⟨rfl, rfl⟩ := hg
    exact ⟨[], cs, [], by simp, rfl, h, by simpa [AV.put] using hy⟩
  | i :: p, x, n, cs, h, hg => by
    unfold AV.get at hg
    split at hg
    · rename_i heq; cases heq
    · rename_i ps heq
      cases heq
      cases hq : ps[i]? with
      | none => simp [hq] at hg
      | some q =>
        simp only [hq, Option.map_eq_some_iff] at hg
        obtain ⟨⟨y'', m⟩, h1, h2⟩ := hg
        simp only [Prod.mk.injEq] at h2
        obtain ⟨rfl, rfl⟩ := h2
        cases h with
        | st h =>
          have hgd : ps.getD i default = q := by simp [List.getD, hq]
          rw [cut_at hq] at h
          obtain ⟨c1, c2, rfl, k1, k2⟩ := CRs.split _ h
          cases k2 with
          | cons k2 k3 =>
            obtain ⟨d1, d2, d3, rfl, e2, e3, e4⟩ := put_cr hy p k2 h1
            refine ⟨c1 ++ d1, d2, _, by simp [List.append_assoc]; rfl, by simp [e2, CRs.len k1], e3, ?_⟩
            simp only [AV.put, hgd]
            rw [set_cut ps i q _ hq]
            have := CR.st (CRs.append k1 (.cons e4 k3))
            simpa [List.append_assoc] using this
    · rename_i ds heq
      cases heq
      cases hq : ds[i]? with
      | none => simp [hq] at hg
      | some q =>
        simp only [hq, Option.map_eq_some_iff] at hg
        obtain ⟨⟨y'', m⟩, h1, h2⟩ := hg
        simp only [Prod.mk.injEq] at h2
        obtain ⟨rfl, rfl⟩ := h2
        cases h with
        | d h =>
          cases h with
          | st h =>
            have hgd : ds.getD i default = q := by simp [List.getD, hq]
            rw [cut_at hq] at h
            obtain ⟨c1, c2, rfl, k1, k2⟩ := DRs.split _ h
            cases k2 with
            | cons k2 k3 =>
              obtain ⟨d1, d2, d3, rfl, e2, e3, e4⟩ := put_cr hy p (.d k2) h1
              refine ⟨c1 ++ d1, d2, _, by simp [List.append_assoc]; rfl, by simp [e2, DRs.len k1], e3, ?_⟩
              simp only [AV.put, hgd]
              split
              · rename_i z hz
                rw [hz] at e4
                cases e4 with
                | d e4 =>
                  rw [set_cut ds i q _ hq]
                  have := CR.d (E := E) (.st (DRs.append k1 (.cons e4 k3)))
                  simpa [List.append_assoc] using this
              · rename_i z hz
                rw [set_cut (ds.map AV.d) i (AV.d q) _ (by simp [hq])]
                have := CR.st (CRs.append (CRs.of_drs k1) (.cons e4 (CRs.of_drs k3)))
                simpa [List.append_assoc, List.map_take, List.map_drop] using this
    · cases hg

section
variable {P : Program} {N : Nat × Nat} {ops : Array Oper} {i : Nat} {s : St} {d : Nat} {ty : TypeId} {pos : String} {af : Array Edge} {g : Option (Nat × Bool)} {gs : List Nat}

theorem run_eqGuard {P : Program} {w : World} {op : BinOp} {T : TypeId} {x y : Operand} {a b : Array Value} (hE : P.eqGuardType P.depth T = false) : (eqGuard op T x y (.agg a) (.agg b)).run P w = .ok () w := by
  unfold eqGuard
  cases op <;> simp [hE, Result.andThen]

/-- Two data that are held against each other. -/
theorem o_eq {T T' : TypeId} {x z : Operand} {p q : D} {r : Bool} (ho : ops[i]? = some ⟨some d, .binOp .eql T x z T', ty, pos, af, g⟩) (hd : Nat.ble (d + 1) N.1 = true) (hg : G ops s g gs)
    (hx : s.val x = some (.d p)) (hz : s.val z = some (.d q)) (hp : p.isAgg = true) (hq : q.isAgg = true) (hE : P.eqGuardType P.depth T = false) (hr : EqD P 10000 T p q r) :
    Valid P N ops i ⟨gs ++ (opTmps x ++ opTmps z), [], some (d, some (.d (.v (.bool r)))), []⟩ s :=
  valid_pure ho hd hg fun s' hs cx a E hR => by
    obtain ⟨c1, k1, e1⟩ := hR.val ((val_agree (mem_app hs).1).trans hx)
    obtain ⟨c2, k2, e2⟩ := hR.val ((val_agree (mem_app hs).2).trans hz)
    cases k1 with
    | d k1 => cases k2 with
      | d k2 =>
        have := run_eqD hr k1 k2
        simp only [AV.isAgg] at e1 e2
        refine ⟨_, ?_, .of_sc rfl⟩
        simp only [execOp]
        rw [e1, e2]
        rw [hp, hq] at this ⊢
        simp only [mkV, if_true] at this ⊢
        simp only [Sem.run_bind, run_eqGuard hE, Result.andThen, binOp, Op.equal, Op.maxDepth]
        rw [this]
        rfl

theorem o_ne {T T' : TypeId} {x z : Operand} {p q : D} {r : Bool} (ho : ops[i]? = some ⟨some d, .binOp .neq T x z T', ty, pos, af, g⟩) (hd : Nat.ble (d + 1) N.1 = true) (hg : G ops s g gs)
    (hx : s.val x = some (.d p)) (hz : s.val z = some (.d q)) (hp : p.isAgg = true) (hq : q.isAgg = true) (hE : P.eqGuardType P.depth T = false) (hr : EqD P 10000 T p q r) :
    Valid P N ops i ⟨gs ++ (opTmps x ++ opTmps z), [], some (d, some (.d (.v (.bool (!r))))), []⟩ s :=
  valid_pure ho hd hg fun s' hs cx a E hR => by
    obtain ⟨c1, k1, e1⟩ := hR.val ((val_agree (mem_app hs).1).trans hx)
    obtain ⟨c2, k2, e2⟩ := hR.val ((val_agree (mem_app hs).2).trans hz)
    cases k1 with
    | d k1 => cases k2 with
      | d k2 =>
        have := run_eqD hr k1 k2
        simp only [AV.isAgg] at e1 e2
        refine ⟨_, ?_, .of_sc rfl⟩
        simp only [execOp]
        rw [e1, e2]
        rw [hp, hq] at this ⊢
        simp only [mkV, if_true] at this ⊢
        simp only [Sem.run_bind, run_eqGuard hE, Result.andThen, binOp, Op.equal, Op.maxDepth]
        rw [this]
        rfl

theorem noObj {s s' : St} {o : Nat} (ho : ∀ k ∈ [o], s'.obj k = s.obj k) (h : s.obj o = none) : s'.obj o = none := (ho o (by simp)).trans h

theorem alloc_new (w : World) (o : Obj) : (w.alloc o).heap[w.heap.size]? = some o := by
  show (w.heap.push o)[w.heap.size]? = _
  simp

/-- A new variable. -/
theorem R0.newBox {cx : Cx} {s : St} {a : Act} {E : Env} (h : R0 cx s a E) {o : Nat} {x : AV} {cs : List Value} {T : TypeId} (ho : s.obj o = none) (hx : CR E x cs) (h1 : ∀ v ∈ cs, one v = true) :
    ∃ E', E'.w = E.w.alloc (.cells cs.toArray T) ∧ R0 cx (s.set o (.box x)) a E' ∧ VR E' (.ptr o 0) (.pointer (some ⟨E.w.heap.size, 0, none⟩)) := by
  have ho' : E.obj o = none := by rw [h.obj]; exact ho
  have hz : E.w.heap.size ≤ (E.w.alloc (.cells cs.toArray T)).heap.size := by simp
  have hh : ∀ k, k < E.w.heap.size → (E.w.alloc (.cells cs.toArray T)).heap[k]? = E.w.heap[k]? := fun k hk => Below.heap_alloc _ _ _ hk
  have he := ext_new (ob := .box x) (cap := 0) (births := []) ho' hz (b := some E.w.heap.size) (fun k hk => by cases hk; exact Nat.le_refl _) hh
  refine ⟨E.new o (.box x) (some E.w.heap.size) 0 [] (E.w.alloc (.cells cs.toArray T)), rfl, h.new ho hz (fun k hk => by cases hk; exact Nat.le_refl _) hh (h.keeps.grow _) ?_, ?_⟩
  · exact ⟨E.w.heap.size, cs, T, by simp [Env.new], hx.ext he, h1, alloc_new _ _⟩
  · exact ⟨_, .ptr (x := x) (by simp [Env.new, upd_eq]) (by simp [Env.new]), rfl⟩

theorem o_box {T : TypeId} {x : Operand} {y : AV} (o : Nat) (ho : ops[i]? = some ⟨some d, .box T x, ty, pos, af, g⟩) (hd : Nat.ble (d + 1) N.1 = true) (hg : G ops s g gs) (hx : s.val x = some y) (hp : y.plain = true) (hn : s.obj o = none) :
    Valid P N ops i ⟨gs ++ opTmps x, [o], some (d, some (.ptr o 0)), [(o, .box y)]⟩ s :=
  valid_core ho rfl hd hg fun s' hs ho' cx a E _ hR => by
    obtain ⟨cs, h1, h2⟩ := hR.val ((val_agree hs).trans hx)
    have h3 := h1.ones hp
    obtain ⟨E', k1, k2, k3⟩ := hR.newBox (T := T) (noObj ho' hn) h1 h3
    refine ⟨_, E', ?_, k3, k2⟩
    rw [k1]
    have : (a.eval x).cells = cs.toArray := by rw [h2]; exact mkV_cells h3 (one_cell h1)
    simp only [execOp, Instr.box, newVar, newRow, this, Sem.run_bind, Sem.run_pure, Result.andThen]
    rfl

/-- A type's zero value. -/
def Zero (P : Program) (T : TypeId) (z : D) : Prop := ∀ (I : Nat → Prop) (w : World), ∃ cs, DR I w z cs ∧ (P.info? T).bind (·.zero) = some (mkV z.isAgg cs)

theorem run_zero {T : TypeId} {v : Value} (h : (P.info? T).bind (·.zero) = some v) (w : World) : (zeroValue T).run P w = .ok v w := by
  cases hi : P.info? T with
  | none => simp [hi] at h
  | some i => simp [hi] at h; simp [zeroValue, typeInfo, hi, h, Result.andThen]

theorem o_alloc {T : TypeId} {z : D} (o : Nat) (ho : ops[i]? = some ⟨some d, .alloc T, ty, pos, af, g⟩) (hd : Nat.ble (d + 1) N.1 = true) (hg : G ops s g gs) (hz : Zero P T z) (hn : s.obj o = none) :
    Valid P N ops i ⟨gs ++ [], [o], some (d, some (.ptr o 0)), [(o, .box (.d z))]⟩ s :=
  valid_core ho rfl hd hg fun s' _ ho' cx a E _ hR => by
    obtain ⟨cs, h1, h2⟩ := hz E.I E.w
    have h3 := h1.ones
    obtain ⟨E', k1, k2, k3⟩ := hR.newBox (T := T) (noObj ho' hn) (.d h1) h3
    refine ⟨_, E', ?_, k3, k2⟩
    rw [k1]
    have : (mkV z.isAgg cs).cells = cs.toArray := h1.mkV_cells
    simp only [execOp, Instr.alloc, newVar, newRow, Sem.run_bind, run_zero h2, Result.andThen, this, Sem.run_pure]
    rfl

theorem one_eq (v : Value) : v.oneCell' = one v := by cases v <;> rfl

theorem take_mid {c1 c2 c3 : List Value} {n : Nat} (h : c1.length = n) : (c1 ++ (c2 ++ c3)).take n = c1 := by subst h; simp
theorem drop_mid {c1 c2 c3 : List Value} {n : Nat} (h : c1.length = n) : (c1 ++ (c2 ++ c3)).drop (n + c2.length) = c3 := by subst h; simp [← List.drop_drop]

/-- Cells of a block written over. -/
theorem run_storeVar {w : World} {T b n : Nat} {agg : Bool} {e : TypeId} {c1 c2 c3 c2' : List Value} (hS : szB P T = some c2'.length) (hl : c2'.length = c2.length) (h1 : ∀ v ∈ c2', one v = true) (ha : agg = false → c2'.length = 1)
    (hn : c1.length = n) (hb : w.heap[b]? = some (.cells (c1 ++ (c2 ++ c3)).toArray e (0, 0))) :
    (storeVar T ⟨b, n, none⟩ (mkV agg c2')).run P w = .ok () (w.setRow b (c1 ++ (c2' ++ c3)).toArray) := by
  unfold storeVar
  rw [mkV_cells h1 ha, Sem.run_bind, run_sizeOf_of hS]
  simp only [Result.andThen, List.size_toArray, ne_eq, not_true_eq_false, if_false]
  rw [run_storeCells_at P b n e c2' 0 _ w hb (by simp; omega) (fun v hv => by rw [one_eq]; exact h1 v hv)]
  congr 2
  simp only [Nat.add_zero]
  rw [take_mid hn, hl, drop_mid hn, List.append_assoc]

theorem o_st {T : TypeId} {x v : Operand} {o m : Nat} {z y y' : AV} {n : Nat} (p : List Nat) (ho : ops[i]? = some ⟨none, .store T x v, ty, pos, af, g⟩) (hg : G ops s g gs)
    (hx : s.val x = some (.ptr o m)) (hv : s.val v = some y') (hob : s.obj o = some (.box z)) (hp : AV.get p z = some (y, m)) (hpl : y'.plain = true) (hT : szB P T = some n) (hn : y'.size = n) (hn' : y.size = n) :
    Valid P N ops i ⟨gs ++ (opTmps x ++ opTmps v), [o], none, [(o, .box (AV.put p z y'))]⟩ s :=
  valid_skip ho rfl hg fun s' hs ho' cx a E _ hR => by
    have hob' : s'.obj o = some (.box z) := (ho' o (by simp)).trans hob
    obtain ⟨xs, h1, h2⟩ := hR.val ((val_agree (mem_app hs).1).trans hx)
    obtain ⟨c2', k1, k2⟩ := hR.val ((val_agree (mem_app hs).2).trans hv)
    cases h1 with
    | ptr q1 q2 =>
      rename_i b zz
      obtain ⟨b', zs, e, r1, r2, r3, r4⟩ := hR.objs _ _ hob'
      rw [q2] at r1; cases r1
      obtain ⟨c1, c2, c3, rfl, t2, t3, t4⟩ := put_cr k1 p r2 hp
      have l1 : c2'.length = n := k1.len.trans hn
      have l2 : c2.length = n := t3.len.trans hn'
      have hones := k1.ones hpl
      have hrun := run_storeVar (P := P) (T := T) (b := b) (agg := y'.isAgg) (c2' := c2') (by rw [l1]; exact hT) (l1.trans l2.symm) hones (one_cell k1) t2 r4
      have hrow : (E.w.setRow b (c1 ++ (c2' ++ c3)).toArray).heap[b]? = some (.cells (c1 ++ (c2' ++ c3)).toArray e (0, 0)) := setRow_heap _ _ _ _ _ _ r4
      refine ⟨.skip, E.turn o (.box (AV.put p z y')) (some b) 0 [] (E.w.setRow b (c1 ++ (c2' ++ c3)).toArray), ?_, .inl rfl, ?_⟩
      · simp only [execOp, Instr.storeAt]
        have e0 : a.eval x = .pointer (some ⟨b, m, none⟩) := h2
        rw [e0, k2]
        simp only [Instr.sureAddr, Sem.run_bind, Sem.run_pure, Result.andThen]
        rw [hrun]
        rfl
      · refine hR.turn hob' (by simp) (fun k hk => by cases hk; exact .inl q2) (fun k hk hne => setRow_other _ _ _ _ (fun e => hne (by rw [e]; exact q2))) rfl rfl rfl ?_ (fun he => ?_) (fun _ _ e => by cases e)
        · simp [OExt, Env.turn, Env.new, q2]
        · refine ⟨b, _, e, by simp [Env.turn, Env.new], t4.ext he, fun u hu => ?_, hrow⟩
          rcases List.mem_append.1 hu with h' | h'
          · exact r3 u (by simp [h'])
          · rcases List.mem_append.1 h' with h'' | h''
            · exact hones u h''
            · exact r3 u (by simp [h''])

end
end Go.Val
