/- Rows and structs that are written out. -/
import Derived.Test.YtlcnkhphgekmeaaVo
set_option linter.unusedSectionVars false
set_option linter.unusedVariables false
set_option linter.unusedSimpArgs false
namespace Go.Val
open Go.RowKit
variable [Drw]

theorem foldSet (off : Nat) : ∀ (vs : List Value) (j : Nat) (pre mid post : List Value), pre.length = off + j → mid.length = vs.length →
    (vs.zipIdx j).foldl (fun (cs : Array Value) p => cs.setIfInBounds (off + p.2) p.1) (pre ++ (mid ++ post)).toArray = (pre ++ (vs ++ post)).toArray
  | [], j, pre, mid, post, h1, h2 => by
    have : mid = [] := List.eq_nil_of_length_eq_zero h2
    subst this
    rfl
  | v :: vs, j, pre, [], post, h1, h2 => by cases h2
  | v :: vs, j, pre, m :: mid, post, h1, h2 => by
    simp only [List.zipIdx_cons, List.foldl_cons]
    have e : (pre ++ (m :: mid ++ post)).toArray.setIfInBounds (off + j) v = ((pre ++ [v]) ++ (mid ++ post)).toArray := by
      apply Array.ext'
      simp [← h1]
    rw [e, foldSet off vs (j + 1) (pre ++ [v]) mid post (by simp; omega) (by simpa using h2)]
    simp

theorem fill_one {place : Nat → Option (Nat × Nat)} {i off sz : Nat} {v : Value} {c pre mid post : List Value} {rest : List (Nat × Value)} (hp : place i = some (off, sz)) (hc : v.cells = c.toArray) (hl : c.length = sz) (h1 : pre.length = off) (h2 : mid.length = sz) :
    Instr.fill place (pre ++ (mid ++ post)).toArray ((i, v) :: rest) = Instr.fill place (pre ++ (c ++ post)).toArray rest := by
  rw [Instr.fill, hp]
  simp only [hc, List.size_toArray]
  rw [if_neg (by simp; omega)]
  congr 1
  rw [← Array.foldl_toList, Array.toList_zipIdx]
  exact foldSet off c 0 pre mid post (by rw [h1]; rfl) (by rw [h2, hl])

/-- The parts of a row that is written out, each in its turn. -/
inductive PartsL (s : St) : Nat → List (Nat × Operand) → List D → Prop
  | nil {k : Nat} : PartsL s k [] []
  | cons {k : Nat} {x : Operand} {y : D} {ps : List (Nat × Operand)} {ys : List D} (h : s.val x = some (.d y)) (hs : PartsL s (k + 1) ps ys) : PartsL s k ((k, x) :: ps) (y :: ys)

def partT (ps : List (Nat × Operand)) : List Nat := ps.flatMap fun p => opTmps p.2

theorem PartsL.fill {s s' : St} {cx : Cx} {a : Act} {E : Env} (hR : R0 cx s' a E) {es : Nat} : ∀ {k : Nat} {ps : List (Nat × Operand)} {ys : List D}, PartsL s k ps ys → (∀ t ∈ partT ps, s'.slot t = s.slot t) → (∀ y ∈ ys, y.size = es) →
    ∃ cs, DRs E.I E.w ys cs ∧ ∀ (pre rest : List Value), pre.length = k * es → rest.length = ys.length * es →
      Instr.fill (fun i => some (i * es, es)) (pre ++ rest).toArray (ps.map fun p => (p.1, a.eval p.2)) = some (pre ++ cs).toArray
  | _, _, _, .nil, _, _ => ⟨[], .nil, fun pre rest _ h => by
      have : rest = [] := List.eq_nil_of_length_eq_zero (by simpa using h)
      subst this; rfl⟩
  | k, _, _, .cons (x := x) (y := y) (ys := ys) h hs, ht, hsz => by
    obtain ⟨cs, h1, h2⟩ := PartsL.fill hR hs (fun t h' => ht t (by simp only [partT, List.flatMap_cons, List.mem_append]; exact .inr h')) (fun q hq => hsz q (by simp [hq]))
    obtain ⟨c, q1, q2⟩ := hR.val ((val_agree (fun t h' => ht t (by simp [partT, h']))).trans h)
    cases q1 with
    | d q1 =>
      have hc : (a.eval x).cells = c.toArray := by rw [q2]; exact q1.mkV_cells
      have hl : c.length = es := q1.len.trans (hsz y (by simp))
      refine ⟨c ++ cs, .cons q1 h1, fun pre rest p1 p2 => ?_⟩
      simp only [List.length_cons, Nat.succ_mul] at p2
      have hsplit : rest = rest.take es ++ rest.drop es := (List.take_append_drop _ _).symm
      rw [hsplit]
      simp only [List.map_cons]
      rw [fill_one (off := k * es) (sz := es) (c := c) rfl hc hl p1 (by simp; omega)]
      have := h2 (pre ++ c) (rest.drop es) (by simp [p1, hl, Nat.succ_mul]) (by simp; omega)
      rw [List.append_assoc] at this
      rw [this]
      simp

section
variable {P : Program} {N : Nat × Nat} {ops : Array Oper} {i : Nat} {s : St} {d : Nat} {ty : TypeId} {pos : String} {af : Array Edge} {g : Option (Nat × Bool)} {gs : List Nat}

theorem run_buildSlice {T e es n : Nat} {z : D} {w : World} {vals : List (Nat × Value)} {cs : List Value} (hT : slB P T = some e) (hS : szB P e = some es) (hZ : Zero P e z) (_ : z.size = es) (hn : n * es ≤ 16777216)
    (hf : ∀ (pre rest : List Value), pre.length = 0 → rest.length = n * es → Instr.fill (fun i => some (i * es, es)) (pre ++ rest).toArray vals = some (pre ++ cs).toArray) :
    (Instr.buildSlice T n vals.toArray).run P w = .ok (.slice (some ⟨w.heap.size, 0, none⟩) n n) (w.alloc (.cells cs.toArray e)) := by
  obtain ⟨zs, z1, z2⟩ := hZ (fun _ => True) w
  have hzc : (mkV z.isAgg zs).cells = zs.toArray := z1.mkV_cells
  unfold Instr.buildSlice
  simp only [Sem.run_bind, run_underlying (slB_under hT), Result.andThen, run_sizeOf_of hS]
  rw [if_neg (by omega)]
  have hfill : ∀ (Z : Array Value), Instr.fill (fun i => some (i * es, es)) ((Array.range (n * es)).map fun x => Z[x % Z.size]!) vals = some cs.toArray := by
    intro Z
    have := hf [] ((Array.range (n * es)).map fun x => Z[x % Z.size]!).toList rfl (by simp)
    rw [List.nil_append, List.nil_append, Array.toArray_toList] at this
    exact this
  by_cases h0 : n * es = 0
  · rw [if_pos h0]
    simp only [Sem.run_pure, hfill, newRow, Sem.run_bind, Result.andThen]
    rfl
  · rw [if_neg h0]
    simp only [Sem.run_bind, run_zero z2, Result.andThen, Sem.run_pure, hfill, newRow]
    rfl

/-- A row that is written out, and never written again. -/
theorem o_bsl {T e es n : Nat} {z : D} {parts : List (Nat × Operand)} {rows : List D} (ho : ops[i]? = some ⟨some d, .buildSlice T n parts.toArray, ty, pos, af, g⟩) (hd : Nat.ble (d + 1) N.1 = true) (hg : G ops s g gs)
    (hp : PartsL s 0 parts rows) (hn : rows.length = n) (hT : slB P T = some e) (hS : szB P e = some es) (hZ : Zero P e z) (hzs : z.size = es) (hsz : ∀ r ∈ rows, r.size = es) (h24 : n * es ≤ 16777216) :
    Valid P N ops i ⟨gs ++ partT parts, [], some (d, some (.d (.sl es rows))), []⟩ s :=
  valid_core ho rfl hd hg fun s' hs _ cx a E _ hR => by
    obtain ⟨cs, h1, h2⟩ := hp.fill hR hs hsz
    have hrun := run_buildSlice (P := P) (w := E.w) (vals := parts.map fun p => (p.1, a.eval p.2)) (cs := cs) hT hS hZ hzs h24 (fun pre rest p1 p2 => h2 pre rest (by simpa using p1) (by rw [hn]; exact p2))
    let E' : Env := { E with w := E.w.alloc (.cells cs.toArray e) }
    have he := ext_alloc E (.cells cs.toArray e)
    refine ⟨.slice (some ⟨E.w.heap.size, 0, none⟩) n n, E', ?_, ?_, r0_same (hR.alloc _)⟩
    · simp only [execOp]
      rw [Sem.run_bind, show (Array.map (fun x => (x.1, a.eval x.2)) parts.toArray) = (parts.map fun p => (p.1, a.eval p.2)).toArray from by simp, hrun]
      rfl
    · have hI : E'.I E.w.heap.size := hR.newI _ (Nat.le_refl _)
      have hb : E'.w.heap[E.w.heap.size]? = some (.cells (cs ++ []).toArray e (0, 0)) := by rw [List.append_nil]; exact alloc_new _ _
      have := DR.sl (I := E'.I) (w := E'.w) (es := es) (rows := rows) (cap := n) hI (by simp [E']) (h1.mono he.hz he.imm) hsz (cells_at_block hb) (by omega)
      rw [hn] at this
      exact ⟨_, .d this, rfl⟩

/-- A row that is written out, of the call's own. -/
theorem o_bslO {T e es n : Nat} {z : D} {parts : List (Nat × Operand)} {rows : List D} (o : Nat) (ho : ops[i]? = some ⟨some d, .buildSlice T n parts.toArray, ty, pos, af, g⟩) (hd : Nat.ble (d + 1) N.1 = true) (hg : G ops s g gs)
    (hp : PartsL s 0 parts rows) (hn : rows.length = n) (hT : slB P T = some e) (hS : szB P e = some es) (hZ : Zero P e z) (hzs : z.size = es) (hsz : ∀ r ∈ rows, r.size = es) (h24 : n * es ≤ 16777216) (hno : s.obj o = none) :
    Valid P N ops i ⟨gs ++ partT parts, [o], some (d, some (.arr o 0)), [(o, .arr 0 es rows)]⟩ s :=
  valid_core ho rfl hd hg fun s' hs ho' cx a E _ hR => by
    have hno' := noObj ho' hno
    have hnoE : E.obj o = none := by rw [hR.obj]; exact hno'
    obtain ⟨cs, h1, h2⟩ := hp.fill hR hs hsz
    have hrun := run_buildSlice (P := P) (w := E.w) (vals := parts.map fun p => (p.1, a.eval p.2)) (cs := cs) hT hS hZ hzs h24 (fun pre rest p1 p2 => h2 pre rest (by simpa using p1) (by rw [hn]; exact p2))
    have hz' : E.w.heap.size ≤ (E.w.alloc (.cells cs.toArray e)).heap.size := by simp
    have hh : ∀ k, k < E.w.heap.size → (E.w.alloc (.cells cs.toArray e)).heap[k]? = E.w.heap[k]? := fun k hk => Below.heap_alloc _ _ _ hk
    have he := ext_new (ob := .arr 0 es rows) (cap := n) (births := []) hnoE hz' (b := some E.w.heap.size) (fun k hk => by cases hk; exact Nat.le_refl _) hh
    refine ⟨.slice (some ⟨E.w.heap.size, 0, none⟩) n n, E.new o (.arr 0 es rows) (some E.w.heap.size) n [] (E.w.alloc (.cells cs.toArray e)), ?_, ?_, hR.new hno' hz' (fun k hk => by cases hk; exact Nat.le_refl _) hh (hR.keeps.grow _) ?_⟩
    · simp only [execOp]
      rw [Sem.run_bind, show (Array.map (fun x => (x.1, a.eval x.2)) parts.toArray) = (parts.map fun p => (p.1, a.eval p.2)).toArray from by simp, hrun]
      rfl
    · exact ⟨_, .arr (cur := 0) (es := es) (rows := rows) (by simp [Env.new, upd_eq]) (Nat.le_refl _) (fun _ => by simp [Env.new, sliceV, hn]) rfl, rfl⟩
    · refine .inr ⟨E.w.heap.size, cs, [], e, by simp [Env.new], h1.mono he.hz he.imm, hsz, by rw [List.append_nil]; exact alloc_new _ _, ?_, by simp [Env.new, hn]⟩
      simp only [List.append_nil, Env.new, if_true]
      rw [h1.len, sizes_same hsz, hn]

/-- Where the fields of a struct lie. -/
def placesB (P : Program) (T : TypeId) : Option (List (Nat × Nat)) := match P.underlying T with
  | some (.struct fs) => fs.toList.mapM fun f => (szB P f.type).map fun n => (f.offset, n)
  | _ => none

/-- The parts of a struct that is written out. -/
inductive Fills (s : St) (pl : List (Nat × Nat)) : List (Nat × Operand) → List AV → List AV → Prop
  | nil {qs : List AV} : Fills s pl [] qs qs
  | cons {i off sz : Nat} {x : Operand} {y q : AV} {ps : List (Nat × Operand)} {qs rs : List AV} (h : s.val x = some y) (hpl : y.plain = true) (hq : qs[i]? = some q) (hp : pl[i]? = some (off, sz)) (hy : y.size = sz) (hqs : q.size = sz) (ho : AV.sizes (qs.take i) = off)
      (hs : Fills s pl ps (qs.set i y) rs) : Fills s pl ((i, x) :: ps) qs rs

theorem Fills.fill {s s' : St} {cx : Cx} {a : Act} {E : Env} (hR : R0 cx s' a E) {pl : List (Nat × Nat)} : ∀ {ps : List (Nat × Operand)} {qs rs : List AV} {cs : List Value}, Fills s pl ps qs rs → (∀ t ∈ partT ps, s'.slot t = s.slot t) → CRs E qs cs →
    ∃ cs', CRs E rs cs' ∧ Instr.fill (fun i => pl[i]?) cs.toArray (ps.map fun p => (p.1, a.eval p.2)) = some cs'.toArray
  | _, _, _, cs, .nil, _, h => ⟨cs, h, rfl⟩
  | _, _, _, cs, .cons (i := i) (x := x) (y := y) (q := q) (qs := qs) h hpl hq hp hy hqs ho hs, ht, hc => by
    obtain ⟨c, q1, q2⟩ := hR.val ((val_agree (fun t h' => ht t (by simp [partT, h']))).trans h)
    have hcc : (a.eval x).cells = c.toArray := by rw [q2]; exact mkV_cells (q1.ones hpl) (one_cell q1)
    rw [cut_at hq] at hc
    obtain ⟨c1, c2, rfl, k1, k2⟩ := CRs.split _ hc
    cases k2 with
    | cons k2 k3 =>
      rename_i m c3
      have hset : CRs E (qs.set i y) (c1 ++ (c ++ c3)) := by
        rw [set_cut qs i q y hq]
        exact CRs.append k1 (.cons q1 k3)
      obtain ⟨cs', r1, r2⟩ := Fills.fill hR hs (fun t h' => ht t (by simp only [partT, List.flatMap_cons, List.mem_append]; exact .inr h')) hset
      refine ⟨cs', r1, ?_⟩
      simp only [List.map_cons]
      rw [fill_one (c := c) hp hcc (q1.len.trans hy) (k1.len.trans ho) (k2.len.trans hqs)]
      exact r2

/-- A struct that is written out. -/
theorem o_bld {T : Nat} {z : D} {zs ds : List D} {pl : List (Nat × Nat)} {parts : List (Nat × Operand)} (ho : ops[i]? = some ⟨some d, .build T parts.toArray, ty, pos, af, g⟩) (hd : Nat.ble (d + 1) N.1 = true) (hg : G ops s g gs)
    (hZ : Zero P T z) (hz : z = .st zs) (hpl : placesB P T = some pl) (hf : Fills s pl parts (zs.map .d) (ds.map .d)) :
    Valid P N ops i ⟨gs ++ partT parts, [], some (d, some (.d (.st ds))), []⟩ s :=
  valid_pure ho hd hg fun s' hs cx a E hR => by
    subst hz
    obtain ⟨cs, h1, h2⟩ := hZ E.I E.w
    cases h1 with
    | st h1 =>
      obtain ⟨cs', r1, r2⟩ := hf.fill hR hs (CRs.of_drs h1)
      refine ⟨.agg cs'.toArray, ?_, _, .d (.st (CRs.flat r1)), rfl⟩
      unfold placesB at hpl
      cases hu : P.underlying T with
      | none => simp [hu] at hpl
      | some u =>
        cases u <;> simp only [hu] at hpl <;> try (cases hpl; done)
        rename_i fs
        have hm : ∀ (l : List Field) (q : List (Nat × Nat)), (l.mapM fun f => (szB P f.type).map fun n => (f.offset, n)) = some q →
            (l.mapM fun f => (do pure (f.offset, ← sizeOf f.type) : Sem (Nat × Nat))).run P E.w = .ok q E.w := by
          intro l
          induction l with
          | nil => intro q hq; simp at hq; subst hq; rfl
          | cons f l ih =>
            intro q hq
            rw [List.mapM_cons] at hq
            simp only [Option.bind_eq_bind, Option.bind_eq_some_iff, Option.map_eq_some_iff] at hq
            obtain ⟨x, ⟨n, hn, rfl⟩, q', hq', hqq⟩ := hq
            cases hqq
            rw [List.mapM_cons]
            simp only [Sem.run_bind, run_sizeOf_of hn, Result.andThen, Sem.run_pure, ih q' hq']
        have hm' := hm fs.toList pl hpl
        simp only [execOp]
        rw [Sem.run_bind]
        unfold Instr.build
        simp only [Sem.run_bind, run_zero h2, Result.andThen, run_underlying hu, mkV, D.isAgg, if_true, Value.cells, Array.mapM_eq_mapM_toList, Sem.run_map, hm']
        have e1 : (Array.map (fun x => (x.1, a.eval x.2)) parts.toArray).toList = parts.map fun p => (p.1, a.eval p.2) := by simp
        have e2 : (fun i : Nat => (List.toArray pl)[i]?) = fun i => pl[i]? := by funext i; simp
        rw [e1, e2, r2]
        rfl

end
end Go.Val
