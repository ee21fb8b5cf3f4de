/- Single operations, II: memory that is read. -/
import Derived.Test.YtlcnkhphgekmeaaVf
set_option linter.unusedSectionVars false
set_option linter.unusedVariables false
set_option linter.unusedSimpArgs false
namespace Go.Val
open Go.RowKit
variable [Drw]

def isAggDesc : TypeDesc → Bool
  | .struct _ | .array _ _ => true
  | _ => false
def aggB (P : Program) (T : TypeId) : Option Bool := (P.underlying T).map isAggDesc
def szB (P : Program) (T : TypeId) : Option Nat := (P.info? T).map (·.size)
/-- A type's shape: is it a struct or an array, how many cells has it? -/
def TA (P : Program) (T : TypeId) (b : Bool) (n : Nat) : Prop := aggB P T = some b ∧ szB P T = some n
/-- A field: where it begins, how many cells it has. -/
def fldB (P : Program) (S : TypeId) (f : Nat) : Option (Nat × Nat) := match P.underlying S with
  | some (.struct fs) => (fs[f]?).bind fun x => (szB P x.type).map fun n => (x.offset, n)
  | _ => none
def slB (P : Program) (T : TypeId) : Option TypeId := match P.underlying T with
  | some (.slice e) => some e
  | _ => none
def arB (P : Program) (T : TypeId) : Option (Nat × TypeId) := match P.underlying T with
  | some (.array n e) => some (n, e)
  | _ => none

section
variable {P : Program} {w : World}

theorem run_isAgg_of {T : TypeId} {b : Bool} (h : aggB P T = some b) : (isAgg T).run P w = .ok b w := by
  unfold aggB at h
  cases hu : P.underlying T with
  | none => simp [hu] at h
  | some d =>
    simp [hu] at h
    subst h
    unfold isAgg
    rw [Sem.run_bind, run_underlying hu]
    simp only [Result.andThen]
    cases d <;> rfl

theorem run_sizeOf_of {T n : Nat} (h : szB P T = some n) : (sizeOf T).run P w = .ok n w := by
  unfold szB at h
  cases hi : P.info? T with
  | none => simp [hi] at h
  | some i => simp [hi] at h; subst h; simp [sizeOf, typeInfo, hi, Result.andThen]

theorem slB_under {T e : TypeId} (h : slB P T = some e) : P.underlying T = some (.slice e) := by
  unfold slB at h
  split at h <;> simp_all
theorem arB_under {T : TypeId} {n : Nat} {e : TypeId} (h : arB P T = some (n, e)) : P.underlying T = some (.array n e) := by
  unfold arB at h
  split at h <;> simp_all

theorem add_addr (b off j : Nat) : (⟨b, off, none⟩ : Addr).add j = ⟨b, off + j, none⟩ := by
  unfold Addr.add
  split <;> simp_all

theorem run_loadVar_at {T b off : Nat} {agg : Bool} {cs : List Value} (hT : TA P T agg cs.length) (hc : CellsAt w b off cs) (h1 : agg = false → cs.length = 1) :
    (loadVar T ⟨b, off, none⟩).run P w = .ok (mkV agg cs) w := by
  unfold loadVar
  rw [Sem.run_bind, run_isAgg_of hT.1]
  simp only [Result.andThen]
  cases agg with
  | true =>
    simp only [if_true]
    rw [Sem.run_bind, run_sizeOf_of hT.2]
    simp only [Result.andThen]
    rw [Sem.run_bind, run_loadCells_list w _ cs (fun j v hj => by rw [add_addr]; exact hc j v hj)]
    rfl
  | false =>
    have hl := h1 rfl
    match cs, hl with
    | [v], _ =>
      have := hc 0 v rfl
      simp only [Bool.false_eq_true, if_false]
      rw [run_load, show w.cell? ⟨b, off, none⟩ = some v from this]
      rfl

theorem run_fieldAt {S f off n b k : Nat} (h : fldB P S f = some (off, n)) (hn : n ≠ 0) : (Instr.fieldAt S (.pointer (some ⟨b, k, none⟩)) f).run P w = .ok (.pointer (some ⟨b, k + off, none⟩)) w := by
  unfold fldB at h
  cases hu : P.underlying S with
  | none => simp [hu] at h
  | some d =>
    cases d <;> simp only [hu] at h <;> try (cases h; done)
    rename_i fs
    obtain ⟨x, hx, h⟩ := Option.bind_eq_some_iff.1 h
    obtain ⟨n', hn', h⟩ := Option.map_eq_some_iff.1 h
    cases h
    simp only [Instr.fieldAt, Sem.run_bind, run_underlying hu, Result.andThen, hx, Instr.sureAddr, Sem.run_pure, fieldPlace, run_sizeOf_of hn', hn, if_false]
    rw [add_addr]

end

/-- Where in a value a path leads: what lies there, and how many cells are ahead of it. -/
def AV.get : List Nat → AV → Option (AV × Nat)
  | [], x => some (x, 0)
  | i :: p, .st ps => match ps[i]? with
    | some q => (AV.get p q).map fun r => (r.1, AV.sizes (ps.take i) + r.2)
    | none => none
  | i :: p, .d (.st ds) => match ds[i]? with
    | some q => (AV.get p (.d q)).map fun r => (r.1, D.sizes (ds.take i) + r.2)
    | none => none
  | _, _ => none

theorem CRs.split {E : Env} : ∀ (a : List AV) {b : List AV} {cs : List Value}, CRs E (a ++ b) cs → ∃ c1 c2, cs = c1 ++ c2 ∧ CRs E a c1 ∧ CRs E b c2
  | [], _, cs, h => ⟨[], cs, rfl, .nil, h⟩
  | d :: a, _, _, h => by
    cases h with
    | cons h1 h2 =>
      obtain ⟨c1, c2, rfl, k1, k2⟩ := CRs.split a h2
      exact ⟨_, c2, by rw [List.append_assoc], .cons h1 k1, k2⟩

theorem CRs.append {E : Env} : ∀ {a b : List AV} {cs cs' : List Value}, CRs E a cs → CRs E b cs' → CRs E (a ++ b) (cs ++ cs')
  | _, _, _, _, .nil, h => h
  | _, _, _, _, .cons h hs, k => by rw [List.cons_append, List.append_assoc]; exact .cons h (CRs.append hs k)

theorem cut_at {α : Type} {l : List α} {i : Nat} {x : α} (h : l[i]? = some x) : l = l.take i ++ (x :: l.drop (i + 1)) := by
  obtain ⟨hlt, hr⟩ := List.getElem?_eq_some_iff.1 h
  rw [← hr, List.getElem_cons_drop, List.take_append_drop]

theorem get_cr {E : Env} {y : AV} : ∀ (p : List Nat) {x : AV} {n : Nat} {cs : List Value}, CR E x cs → AV.get p x = some (y, n) → ∃ c1 c2 c3, cs = c1 ++ (c2 ++ c3) ∧ c1.length = n ∧ CR E y c2
  | [], x, n, cs, h, hg => by
    simp only [AV.get, Option.some.injEq, Prod.mk.injEq] at hg
    obtain ⟨rfl, rfl⟩ := hg
    exact ⟨[], cs, [], by simp, rfl, h⟩
  | i :: p, x, n, cs, h, hg => by
    unfold AV.get at hg
    split at hg
    · rename_i heq; cases heq
    · rename_i ps heq
      cases heq
      cases hq : ps[i]? with
      | none => simp [hq] at hg
      | some q =>
        simp only [hq, Option.map_eq_some_iff] at hg
        obtain ⟨⟨y', m⟩, h1, h2⟩ := hg
        simp only [Prod.mk.injEq] at h2
        obtain ⟨rfl, rfl⟩ := h2
        cases h with
        | st h =>
          rw [cut_at hq] at h
          obtain ⟨c1, c2, rfl, k1, k2⟩ := CRs.split _ h
          cases k2 with
          | cons k2 k3 =>
            obtain ⟨d1, d2, d3, rfl, e2, e3⟩ := get_cr p k2 h1
            exact ⟨c1 ++ d1, d2, _, by simp [List.append_assoc]; rfl, by simp [e2, CRs.len k1], e3⟩
    · rename_i ds heq
      cases heq
      cases hq : ds[i]? with
      | none => simp [hq] at hg
      | some q =>
        simp only [hq, Option.map_eq_some_iff] at hg
        obtain ⟨⟨y', m⟩, h1, h2⟩ := hg
        simp only [Prod.mk.injEq] at h2
        obtain ⟨rfl, rfl⟩ := h2
        cases h with
        | d h =>
          cases h with
          | st h =>
            rw [cut_at hq] at h
            obtain ⟨c1, c2, rfl, k1, k2⟩ := DRs.split _ h
            cases k2 with
            | cons k2 k3 =>
              obtain ⟨d1, d2, d3, rfl, e2, e3⟩ := get_cr p (.d k2) h1
              exact ⟨c1 ++ d1, d2, _, by simp [List.append_assoc]; rfl, by simp [e2, DRs.len k1], e3⟩
    · cases hg

theorem one_cell {E : Env} {y : AV} {cs : List Value} (h : CR E y cs) (ha : y.isAgg = false) : cs.length = 1 := by
  rw [h.len]
  cases y <;> simp_all [AV.isAgg, AV.size]
  rename_i x
  cases x <;> simp_all [D.isAgg, D.size]

section
variable {P : Program} {N : Nat × Nat} {ops : Array Oper} {i : Nat} {s : St} {d : Nat} {ty : TypeId} {pos : String} {af : Array Edge} {g : Option (Nat × Bool)} {gs : List Nat}

/-- The address of what never turns. -/
theorem VR.at_val {E : Env} {x : D} {v : Value} (h : VR E (.d (.at x)) v) : ∃ b off cs, v = .pointer (some ⟨b, off, none⟩) ∧ E.I b ∧ b < E.w.heap.size ∧ DR E.I E.w x cs ∧ CellsAt E.w b off cs := by
  obtain ⟨cs, h1, h2⟩ := h
  cases h1 with
  | d h => cases h with
    | «at» q1 q2 q3 q4 => exact ⟨_, _, _, h2, q1, q2, q3, q4⟩

theorem o_fld {S f off n : Nat} {x : Operand} {ps : List D} {y : D} (ho : ops[i]? = some ⟨some d, .fieldAddr S x f, ty, pos, af, g⟩) (hd : Nat.ble (d + 1) N.1 = true) (hg : G ops s g gs)
    (hx : s.val x = some (.d (.at (.st ps)))) (hf : fldB P S f = some (off, n)) (hn : n ≠ 0) (hy : ps[f]? = some y) (hoff : D.sizes (ps.take f) = off) :
    Valid P N ops i ⟨gs ++ opTmps x, [], some (d, some (.d (.at y))), []⟩ s :=
  valid_pure ho hd hg fun s' hs cx a E hR => by
    obtain ⟨b, k, cs, h1, h2, h3, h4, h5⟩ := (hR.val ((val_agree hs).trans hx)).at_val
    refine ⟨_, by simp only [execOp]; rw [h1, Sem.run_bind, run_fieldAt hf hn]; rfl, ?_⟩
    cases h4 with
    | st h4 =>
      rw [cut_at hy] at h4
      obtain ⟨c1, c2, rfl, k1, k2⟩ := DRs.split _ h4
      have hl : c1.length = off := by rw [k1.len]; exact hoff
      have h6 := h5.right
      rw [hl] at h6
      cases k2 with
      | cons k2 k3 => exact ⟨_, .d (.at h2 h3 k2 h6.left), rfl⟩

theorem o_fldP {S f off n : Nat} {x : Operand} {o m : Nat} (ho : ops[i]? = some ⟨some d, .fieldAddr S x f, ty, pos, af, g⟩) (hd : Nat.ble (d + 1) N.1 = true) (hg : G ops s g gs)
    (hx : s.val x = some (.ptr o m)) (hf : fldB P S f = some (off, n)) (hn : n ≠ 0) :
    Valid P N ops i ⟨gs ++ opTmps x, [], some (d, some (.ptr o (m + off))), []⟩ s :=
  valid_pure ho hd hg fun s' hs cx a E hR => by
    obtain ⟨cs, h1, h2⟩ := hR.val ((val_agree hs).trans hx)
    cases h1 with
    | ptr k1 k2 => exact ⟨_, by simp only [execOp]; rw [h2, Sem.run_bind]; simp only [mkV, AV.isAgg, Bool.false_eq_true, if_false, List.headD_cons]; rw [run_fieldAt hf hn]; rfl, _, .ptr k1 k2, rfl⟩

theorem o_fldE {S f off n : Nat} {x : Operand} {o c k m : Nat} (ho : ops[i]? = some ⟨some d, .fieldAddr S x f, ty, pos, af, g⟩) (hd : Nat.ble (d + 1) N.1 = true) (hg : G ops s g gs)
    (hx : s.val x = some (.pel o c k m)) {es : Nat} {rows : List D} (hob : s.obj o = some (.arr c es rows)) (hf : fldB P S f = some (off, n)) (hn : n ≠ 0) :
    Valid P N ops i ⟨gs ++ opTmps x, [o], some (d, some (.pel o c k (m + off))), []⟩ s :=
  valid_core ho rfl hd hg fun s' hs ho' cx a E _ hR => by
    have hob' : s'.obj o = some (.arr c es rows) := (ho' o (by simp)).trans hob
    obtain ⟨cs, h1, h2⟩ := hR.val ((val_agree hs).trans hx)
    cases h1 with
    | pel k1 k2 k3 k4 =>
      rw [hR.obj, hob'] at k1; cases k1
      obtain ⟨b, q1, q2⟩ := k3 rfl
      subst q2
      refine ⟨_, E, by simp only [execOp]; rw [h2, Sem.run_bind]; simp only [mkV, AV.isAgg, Bool.false_eq_true, if_false, List.headD_cons]; rw [run_fieldAt hf hn]; rfl, ⟨_, .pel (by rw [hR.obj]; exact hob') (Nat.le_refl _) (fun _ => ⟨b, q1, by rw [Nat.add_assoc]⟩) rfl, rfl⟩, r0_same hR⟩

theorem o_ld {T : TypeId} {x : Operand} {y : D} {b : Bool} {n : Nat} (ho : ops[i]? = some ⟨some d, .load T x, ty, pos, af, g⟩) (hd : Nat.ble (d + 1) N.1 = true) (hg : G ops s g gs)
    (hx : s.val x = some (.d (.at y))) (hT : TA P T b n) (hb : y.isAgg = b) (hn : y.size = n) :
    Valid P N ops i ⟨gs ++ opTmps x, [], some (d, some (.d y)), []⟩ s :=
  valid_pure ho hd hg fun s' hs cx a E hR => by
    subst hb; subst hn
    obtain ⟨b, k, cs, h1, h2, h3, h4, h5⟩ := (hR.val ((val_agree hs).trans hx)).at_val
    refine ⟨_, ?_, _, .d h4, rfl⟩
    simp only [execOp, Instr.loadAt]
    rw [h1, Sem.run_bind, Sem.run_bind]
    simp only [Instr.sureAddr, Sem.run_pure, Result.andThen]
    rw [run_loadVar_at (by rw [h4.len]; exact hT) h5 (fun ha => one_cell (E := E) (.d h4) ha)]

theorem o_ldP {T : TypeId} {x : Operand} {o m : Nat} {z y : AV} {b : Bool} {n : Nat} (p : List Nat) (ho : ops[i]? = some ⟨some d, .load T x, ty, pos, af, g⟩) (hd : Nat.ble (d + 1) N.1 = true) (hg : G ops s g gs)
    (hx : s.val x = some (.ptr o m)) (hob : s.obj o = some (.box z)) (hp : AV.get p z = some (y, m)) (hT : TA P T b n) (hb : y.isAgg = b) (hn : y.size = n) :
    Valid P N ops i ⟨gs ++ opTmps x, [o], some (d, some y), []⟩ s :=
  valid_core ho rfl hd hg fun s' hs ho' cx a E _ hR => by
    subst hb; subst hn
    have hob' : s'.obj o = some (.box z) := (ho' o (by simp)).trans hob
    obtain ⟨cs, h1, h2⟩ := hR.val ((val_agree hs).trans hx)
    cases h1 with
    | ptr k1 k2 =>
      obtain ⟨b, zs, e, q1, q2, q3, q4⟩ := hR.objs _ _ hob'
      rw [k2] at q1; cases q1
      obtain ⟨c1, c2, c3, rfl, r2, r3⟩ := get_cr p q2 hp
      have hall : CellsAt E.w _ 0 (c1 ++ (c2 ++ c3)) := cells_at_block (sp := []) (by rw [List.append_nil]; exact q4)
      have h6 := hall.right.left
      rw [r2, Nat.zero_add] at h6
      refine ⟨_, E, ?_, ⟨_, r3, rfl⟩, r0_same hR⟩
      simp only [execOp, Instr.loadAt]
      rw [h2, Sem.run_bind, Sem.run_bind]
      simp only [mkV, AV.isAgg, Bool.false_eq_true, if_false, List.headD_cons, Instr.sureAddr, Sem.run_pure, Result.andThen]
      rw [run_loadVar_at (by rw [r3.len]; exact hT) h6 (fun ha => one_cell r3 ha)]
      rfl

theorem o_ldE {T : TypeId} {x : Operand} {o c k m es : Nat} {rows : List D} {r : D} {y : AV} {b : Bool} {n : Nat} (p : List Nat) (ho : ops[i]? = some ⟨some d, .load T x, ty, pos, af, g⟩) (hd : Nat.ble (d + 1) N.1 = true) (hg : G ops s g gs)
    (hx : s.val x = some (.pel o c k m)) (hob : s.obj o = some (.arr c es rows)) (hr : rows[k]? = some r) (hp : AV.get p (.d r) = some (y, m)) (hT : TA P T b n) (hb : y.isAgg = b) (hn : y.size = n) :
    Valid P N ops i ⟨gs ++ opTmps x, [o], some (d, some y), []⟩ s :=
  valid_core ho rfl hd hg fun s' hs ho' cx a E _ hR => by
    subst hb; subst hn
    have hob' : s'.obj o = some (.arr c es rows) := (ho' o (by simp)).trans hob
    obtain ⟨cs, h1, h2⟩ := hR.val ((val_agree hs).trans hx)
    cases h1 with
    | pel k1 k2 k3 k4 =>
      rw [hR.obj, hob'] at k1; cases k1
      obtain ⟨b, q1, q2⟩ := k3 rfl
      subst q2
      rcases hR.objs _ _ hob' with ⟨p1, p2, _⟩ | ⟨b', zs, sp, e, p1, p2, p3, p4, p5, p6⟩
      · rw [p2] at hr; simp at hr
      · rw [q1] at p1; cases p1
        obtain ⟨rc, t1, t2, t3⟩ := p2.row p3 hr
        obtain ⟨c1, c2, c3, rfl, r2, r3⟩ := get_cr p (.d t1) hp
        have hall : CellsAt E.w b 0 zs := cells_at_block p4
        have h6 : CellsAt E.w b (k * es + m) c2 := by
          intro j v hj
          have := hall (k * es + (m + j)) v (t3 (m + j) v (by
            rw [List.getElem?_append_right (by omega), r2, show m + j - m = j from by omega, List.getElem?_append_left (List.getElem?_eq_some_iff.1 hj).1]; exact hj))
          rw [Nat.zero_add] at this
          rw [Nat.add_assoc]; exact this
        refine ⟨_, E, ?_, ⟨_, r3, rfl⟩, r0_same hR⟩
        simp only [execOp, Instr.loadAt]
        rw [h2, Sem.run_bind, Sem.run_bind]
        simp only [mkV, AV.isAgg, Bool.false_eq_true, if_false, List.headD_cons, Instr.sureAddr, Sem.run_pure, Result.andThen]
        rw [run_loadVar_at (by rw [r3.len]; exact hT) h6 (fun ha => one_cell r3 ha)]
        rfl

/-- The address of an element. -/
theorem run_indexAt_slice {P : Program} {w : World} {T e es b off len cap : Nat} {k : IntKind} {n : Int} (hT : slB P T = some e) (he : szB P e = some es) (h0 : 0 ≤ n) (h1 : n < len) :
    (Instr.indexAt T (.slice (some ⟨b, off, none⟩) len cap) (.int k n)).run P w = .ok (.pointer (some ⟨b, off + n.toNat * es, none⟩)) w := by
  simp only [Instr.indexAt, asIntOf, Sem.run_bind, Sem.run_pure, Result.andThen, run_underlying (slB_under hT)]
  simp only [Bool.and_false, Bool.false_eq_true, if_false]
  rw [if_pos ⟨h0, h1⟩]
  simp only [Sem.run_bind, run_sizeOf_of he, Result.andThen, Sem.run_pure]
  rw [add_addr]

theorem o_ix {T e es : Nat} {x z : Operand} {rows : List D} {k : IntKind} {n : Int} {r : D} (ho : ops[i]? = some ⟨some d, .indexAddr T x z, ty, pos, af, g⟩) (hd : Nat.ble (d + 1) N.1 = true) (hg : G ops s g gs)
    (hx : s.val x = some (.d (.sl es rows))) (hz : s.val z = some (.d (.v (.int k n)))) (hT : slB P T = some e) (he : szB P e = some es) (h0 : 0 ≤ n) (hr : rows[n.toNat]? = some r) :
    Valid P N ops i ⟨gs ++ (opTmps x ++ opTmps z), [], some (d, some (.d (.at r))), []⟩ s :=
  valid_pure ho hd hg fun s' hs cx a E hR => by
    have h2 := (hR.val ((val_agree (mem_app hs).2).trans hz)).sc
    obtain ⟨cs, h1, h1'⟩ := hR.val ((val_agree (mem_app hs).1).trans hx)
    have hlt := (List.getElem?_eq_some_iff.1 hr).1
    cases h1 with
    | d h1 =>
      cases h1 with
      | sl0 => simp at hr
      | sl q1 q2 q3 q4 q5 q6 =>
        obtain ⟨rc, t1, t2, t3⟩ := q3.row q4 hr
        rename_i b off cap cs
        refine ⟨.pointer (some ⟨b, off + n.toNat * es, none⟩), ?_, _, .d (.at (off := off + n.toNat * es) q1 q2 t1 (fun j v hj => ?_)), rfl⟩
        · simp only [execOp]
          rw [h1', h2, Sem.run_bind]
          simp only [mkV, AV.isAgg, D.isAgg, Bool.false_eq_true, if_false, List.headD_cons]
          rw [run_indexAt_slice hT he h0 (by omega)]
          rfl
        · have := q5 _ v (t3 j v hj)
          rw [Nat.add_assoc]; exact this

theorem o_ixA {T e es : Nat} {x z : Operand} {o c : Nat} {rows : List D} {k : IntKind} {n : Int} (ho : ops[i]? = some ⟨some d, .indexAddr T x z, ty, pos, af, g⟩) (hd : Nat.ble (d + 1) N.1 = true) (hg : G ops s g gs)
    (hx : s.val x = some (.arr o c)) (hob : s.obj o = some (.arr c es rows)) (hz : s.val z = some (.d (.v (.int k n)))) (hT : slB P T = some e) (he : szB P e = some es) (h0 : 0 ≤ n) (hr : n < rows.length) :
    Valid P N ops i ⟨gs ++ (opTmps x ++ opTmps z), [o], some (d, some (.pel o c n.toNat 0)), []⟩ s :=
  valid_core ho rfl hd hg fun s' hs ho' cx a E _ hR => by
    have hob' : s'.obj o = some (.arr c es rows) := (ho' o (by simp)).trans hob
    have h2 := (hR.val ((val_agree (mem_app hs).2).trans hz)).sc
    obtain ⟨cs, h1, h1'⟩ := hR.val ((val_agree (mem_app hs).1).trans hx)
    cases h1 with
    | arr k1 k2 k3 k4 =>
      rw [hR.obj, hob'] at k1; cases k1
      have h3 := k3 rfl
      rcases hR.objs _ _ hob' with ⟨p1, p2, _⟩ | ⟨b, zs, sp, e', p1, p2, p3, p4, p5, p6⟩
      · rw [p2] at hr; simp at hr; omega
      · rw [p1] at h3
        subst h3
        refine ⟨_, E, ?_, ⟨_, .pel (by rw [hR.obj]; exact hob') (Nat.le_refl _) (fun _ => ⟨b, p1, rfl⟩) rfl, rfl⟩, r0_same hR⟩
        simp only [execOp]
        rw [h1', h2, Sem.run_bind]
        simp only [mkV, AV.isAgg, Bool.false_eq_true, if_false, List.headD_cons, sliceV]
        rw [run_indexAt_slice hT he h0 hr]
        simp only [Result.andThen, Nat.zero_add, Nat.add_zero]
        rfl

end
end Go.Val
