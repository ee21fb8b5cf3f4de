/- Single operations, IV: rows that grow, rows that are made, pieces of rows and texts. -/
import Derived.Test.YtlcnkhphgekmeaaVi
import Derived.Deep.AppendSrc
import Derived.Laws.IdiomStrings
import Derived.Laws.CopyRow
set_option linter.unusedSectionVars false
set_option linter.unusedVariables false
set_option linter.unusedSimpArgs false
namespace Go.Val
open Go.RowKit
variable [Drw]

theorem setCells_row {w : World} {b n : Nat} {e : TypeId} {c1 c2 c3 news : List Value} (hl : news.length = c2.length) (h1 : ∀ v ∈ news, one v = true) (hn : c1.length = n)
    (hb : w.heap[b]? = some (.cells (c1 ++ (c2 ++ c3)).toArray e (0, 0))) : w.setCells b n news = w.setRow b (c1 ++ (news ++ c3)).toArray := by
  have hc : ∀ j, j < news.length → (w.cell? ⟨b, n + 0 + j, none⟩).isSome = true := by
    intro j hj
    simp only [World.cell?, hb]
    simp
    omega
  have hf : ∀ j, j < news.length → w.frozen? ⟨b, n + 0 + j, none⟩ = false := by
    intro j hj
    simp [World.frozen?, hb]
  have r1 := run_storeCells_cells (P := default) b n news 0 w hc hf (fun v hv => by rw [one_eq]; exact h1 v hv)
  have r2 := run_storeCells_at default b n e news 0 _ w hb (by simp; omega) (fun v hv => by rw [one_eq]; exact h1 v hv)
  rw [r1] at r2
  simp only [Nat.add_zero, Result.ok.injEq, true_and] at r2
  rw [r2, take_mid hn, hl, drop_mid hn, List.append_assoc]

/-- What an append takes in. -/
inductive Srcs (P : Program) (s : St) (es : Nat) (tx : TypeId) : AV → List D → List Nat → Prop
  | sl {e : TypeId} {rows : List D} (h : slB P tx = some e) : Srcs P s es tx (.d (.sl es rows)) rows []
  | arr {e : TypeId} {o c : Nat} {rows : List D} (h : slB P tx = some e) (ho : s.obj o = some (.arr c es rows)) : Srcs P s es tx (.arr o c) rows [o]
  | str {b : ByteArray} (h : P.underlying tx = some .string) (he : es = 1) : Srcs P s es tx (.d (.v (.string b))) (b.data.toList.map fun x => .v (u8v x)) []

theorem drs_bytes {I : Nat → Prop} {w : World} : ∀ (l : List UInt8), DRs I w (l.map fun x => .v (u8v x)) (l.map u8v)
  | [] => .nil
  | b :: l => by
    have := DRs.cons (I := I) (w := w) (.v (x := u8v b) rfl) (drs_bytes l)
    simpa using this

theorem Srcs.src {P : Program} {s : St} {es : Nat} {tx : TypeId} {y : AV} {rows : List D} {ids : List Nat} (h : Srcs P s es tx y rows ids) {cx : Cx} {a : Act} {E : Env} (hR : R0 cx s a E) {v : Value} (hv : VR E y v)
    (hs : ∀ r ∈ rows, r.size = es) : ∃ news, Src P es tx v rows.length news E.w ∧ DRs E.I E.w rows news := by
  cases h with
  | sl h =>
    obtain ⟨cs, h1, h2⟩ := hv
    cases h1 with
    | d h1 => cases h1 with
      | sl0 =>
        rename_i ad cap
        subst h2
        refine ⟨[], ?_, .nil⟩
        cases ad with
        | none => exact ⟨.inl ⟨_, slB_under h⟩, fun _ => rfl, run_firstCells_none _ _ _ _ _, run_firstCells_none _ _ _ _ _, by simp, fun _ h => by cases h⟩
        | some ad => exact .ofSlice _ (slB_under h) ad 0 cap [] (by simp) (fun j u hj => by simp at hj) (fun _ h => by cases h)
      | sl q1 q2 q3 q4 q5 q6 =>
        subst h2
        refine ⟨_, .ofSlice _ (slB_under h) _ _ _ _ (by rw [q3.len, sizes_same q4]) (fun j u hj => by rw [add_addr]; exact q5 j u hj) (fun u hu => by rw [one_eq]; exact q3.ones u hu), q3⟩
  | arr h ho =>
    obtain ⟨cs, h1, h2⟩ := hv
    cases h1 with
    | arr k1 k2 k3 k4 =>
      rw [hR.obj, ho] at k1; cases k1
      have h3 := k3 rfl
      rcases hR.objs _ _ ho with ⟨q1, q2, q3⟩ | ⟨b, cs, sp, e', q1, q2, q3, q4, q5, q6⟩
      · rw [q1] at h3
        subst h3; subst q2; subst h2
        exact ⟨[], .ofNil _ (slB_under h) 0, .nil⟩
      · rw [q1] at h3
        subst h3; subst h2
        exact ⟨cs, .ofSlice _ (slB_under h) _ _ _ _ (by rw [q2.len, sizes_same q3]) (fun j u hj => by rw [add_addr]; exact cells_at_block q4 j u hj) (fun u hu => by rw [one_eq]; exact q2.ones u hu), q2⟩
  | str h he =>
    subst he
    rename_i b
    have := hv.sc
    subst this
    refine ⟨byteCells b, ?_, drs_bytes _⟩
    have h1 : (List.map (fun x => D.v (u8v x)) b.data.toList).length = b.size := by rw [List.length_map, Array.length_toList]; rfl
    rw [h1]
    exact Src.ofString (P := P) E.w h b

def bytesB (P : Program) (T : TypeId) : Option Nat := (P.info? T).map (·.bytes)

theorem info_of {P : Program} {e es bs : Nat} {z : Value} (hS : szB P e = some es) (hB : bytesB P e = some bs) (hZ : (P.info? e).bind (·.zero) = some z) : ∃ i, P.info? e = some i ∧ i.size = es ∧ i.bytes = bs ∧ i.zero = some z := by
  unfold szB at hS
  unfold bytesB at hB
  cases hi : P.info? e with
  | none => simp [hi] at hS
  | some i => simp [hi] at hS hB hZ; exact ⟨i, rfl, hS, hB, hZ⟩

theorem zeroCells_len {z : Array Value} {n : Nat} : (Builtin.zeroCells z n).toList.length = n * z.size := by
  simp [Builtin.zeroCells]

theorem grown_ge (w : World) (need old : Nat) (e : TypeId) : need ≤ grownCap w need old e := by
  show need ≤ need + _ % (2 ^ 63 - need)
  omega

section
variable {P : Program} {N : Nat × Nat} {ops : Array Oper} {i : Nat} {s : St} {d : Nat} {ty : TypeId} {pos : String} {af : Array Edge} {g : Option (Nat × Bool)} {gs : List Nat}

/-- append to a row that the call owns. -/
theorem o_app {T tx e es bs : Nat} {x y : Operand} {o c : Nat} {rows rows2 rows' : List D} {ids : List Nat} {src : AV} {z : D} (ho : ops[i]? = some ⟨some d, .call ⟨.builtin .append, #[x, y], #[T, tx]⟩, ty, pos, af, g⟩) (hd : Nat.ble (d + 1) N.1 = true) (hg : G ops s g gs)
    (hx : s.val x = some (.arr o c)) (hob : s.obj o = some (.arr c es rows)) (hy : s.val y = some src) (hsrc : Srcs P s es tx src rows2 ids) (hsz : ∀ r ∈ rows2, r.size = es)
    (hT : slB P T = some e) (hS : szB P e = some es) (hB : bytesB P e = some bs) (hZ : Zero P e z) (hzs : z.size = es) (hfit : (rows.length + rows2.length) * bs ≤ 140737488355328) (h63 : rows.length + rows2.length ≤ 9223372036854775807) (hrows : rows ++ rows2 = rows') :
    Valid P N ops i ⟨gs ++ (opTmps x ++ opTmps y), o :: ids, some (d, some (.arr o (c + 1))), [(o, .arr (c + 1) es rows')]⟩ s := by
  subst hrows
  refine valid_core ho rfl hd hg fun s' hs ho' cx a E _ hR => ?_
  have hob' : s'.obj o = some (.arr c es rows) := (ho' o (by simp)).trans hob
  have hsrc' : Srcs P s' es tx src rows2 ids := by
    cases hsrc with
    | sl h => exact .sl h
    | arr h h' => exact .arr h ((ho' _ (by simp)).trans h')
    | str h h' => exact .str h h'
  have hvx := hR.val ((val_agree (mem_app hs).1).trans hx)
  have hvy := hR.val ((val_agree (mem_app hs).2).trans hy)
  obtain ⟨news, hn1, hn2⟩ := hsrc'.src hR hvy hsz
  obtain ⟨zs, hz1, hz2⟩ := hZ E.I E.w
  obtain ⟨inf, hi, hi1, hi2, hi3⟩ := info_of hS hB hz2
  have hzc : (mkV z.isAgg zs).cells = zs.toArray := hz1.mkV_cells
  have hzl : zs.length = es := hz1.len.trans hzs
  obtain ⟨xs, k1, k2⟩ := hvx
  have hnl : news.length = rows2.length * es := by rw [hn2.len, sizes_same hsz]
  cases k1 with
  | arr q1 q2 q3 q4 =>
    rw [hR.obj, hob'] at q1; cases q1
    have h3 := q3 rfl
    subst k2
    have run_of : ∀ (u v : Value) (w' : World), a.eval x = u → (Builtin.append_ #[T, tx] ty #[u, a.eval y]).run P E.w = .ok v w' →
        (execOp a.eval ⟨some d, .call ⟨.builtin .append, #[x, y], #[T, tx]⟩, ty, pos, af, g⟩).run P E.w = .ok (.value v) w' := by
      intro u v w' e1 e2
      simp only [execOp, resolve, Sem.run_bind, Sem.run_pure, Result.andThen, invoke, builtin]
      simp only [List.map_toArray, List.map_cons, List.map_nil, e1]
      rw [e2]
    -- the world behind a new row
    have grow : ∀ (u : Value) (cap : Nat) (olds : List Value) (base : Option Addr), u = .slice base rows.length cap → a.eval x = u → cap < rows.length + rows2.length → DRs E.I E.w rows olds → (∀ r ∈ rows, r.size = es) →
        (Builtin.firstCells inf.size rows.length (.slice base rows.length cap)).run P E.w.drew = .ok olds.toArray E.w.drew →
        ∃ v E', (execOp a.eval ⟨some d, .call ⟨.builtin .append, #[x, y], #[T, tx]⟩, ty, pos, af, g⟩).run P E.w = .ok (.value v) E'.w ∧ VR E' (.arr o (c + 1)) v ∧ R0 cx { s' with obj := setAll s'.obj [(o, .arr (c + 1) es (rows ++ rows2))] } a E' := by
      intro u cap olds base hu hau hcap hol hrs hfc
      have hrun := run_append_grow_src E.w T tx ty e inf (mkV z.isAgg zs) (slB_under hT) hi hi3 base rows.length cap olds hfc (a.eval y) rows2.length news (by rw [hi1]; exact hn1) hcap (by omega)
        (growslice_fits hcap (by rw [hi2]; exact hfit))
      have hge := grown_ge E.w (rows.length + rows2.length) cap e
      generalize hgc : grownCap E.w (rows.length + rows2.length) cap e = gc at hrun hge
      rw [hzc] at hrun
      let sp := (Builtin.zeroCells zs.toArray (gc - (rows.length + rows2.length))).toList
      have hblk : ((olds ++ news).toArray ++ Builtin.zeroCells zs.toArray (gc - (rows.length + rows2.length))) = ((olds ++ news) ++ sp).toArray := by
        apply Array.ext'; simp [sp]
      rw [hblk] at hrun
      let w' := E.w.drew.alloc (.cells ((olds ++ news) ++ sp).toArray e)
      have hsz' : w'.heap.size = E.w.heap.size + 1 := by simp [w']
      have hoth : ∀ k, k < E.w.heap.size → w'.heap[k]? = E.w.heap[k]? := fun k hk => Below.heap_alloc E.w.drew _ _ hk
      have hnew : w'.heap[E.w.heap.size]? = some (.cells ((olds ++ news) ++ sp).toArray e (0, 0)) := alloc_new E.w.drew _
      refine ⟨_, E.turn o (.arr (c + 1) es (rows ++ rows2)) (some E.w.heap.size) gc [] w', run_of u _ _ hau (by rw [hu]; exact hrun), ?_, ?_⟩
      · exact ⟨_, .arr (cur := c + 1) (es := es) (rows := rows ++ rows2) (by simp [Env.turn, Env.new, upd_eq]) (Nat.le_refl _) (fun _ => by simp [Env.turn, Env.new, sliceV]) rfl, rfl⟩
      · refine hR.turn hob' (by omega) (fun k hk => by cases hk; exact .inr (Nat.le_refl _)) (fun k hk _ => hoth k hk) rfl rfl rfl ?_ (fun he => ?_) (fun _ _ e => by cases e)
        · exact ⟨Nat.le_succ _, fun e => by omega⟩
        · refine .inr ⟨E.w.heap.size, olds ++ news, sp, e, by simp [Env.turn, Env.new], (hol.append hn2).mono he.hz he.imm, fun r hr => ?_, hnew, ?_, ?_⟩
          · rcases List.mem_append.1 hr with h | h
            · exact hrs r h
            · exact hsz r h
          · have l1 : olds.length = rows.length * es := by rw [hol.len, sizes_same hrs]
            have l2 : sp.length = (gc - (rows.length + rows2.length)) * es := by simp only [sp, zeroCells_len]; rw [List.size_toArray, hzl]
            simp only [List.length_append, l1, hnl, l2, Env.turn, Env.new, if_true]
            rw [← Nat.add_mul, ← Nat.add_mul]
            congr 1
            omega
          · simp only [List.length_append, Env.turn, Env.new, if_true]; exact hge
    rcases hR.objs _ _ hob' with ⟨p1, p2, p3⟩ | ⟨b, cs, sp, e', p1, p2, p3, p4, p5, p6⟩
    · -- nothing yet
      rw [p1] at h3
      subst p2
      by_cases h0 : rows2.length = 0
      · -- nothing is appended: nil stays nil
        have hr2 : rows2 = [] := List.eq_nil_of_length_eq_zero h0
        subst hr2
        have hrun : (Builtin.append_ #[T, tx] ty #[.slice none 0 0, a.eval y]).run P E.w = .ok (.slice none 0 0) E.w := by
          have hl := hn1.len
          have hc := hn1.cells
          rcases hn1.kind with ⟨e', hk⟩ | hk <;> simp [Builtin.append_, run_underlying (slB_under hT), run_underlying hk, sizeOf, typeInfo, hi, hl, Result.andThen] <;> (rw [hi1]; simp at hc; rw [hc])
        refine ⟨_, E.turn o (.arr (c + 1) es []) none 0 [] E.w, run_of (.slice none 0 0) _ _ (by rw [h3]; rfl) hrun, ?_, ?_⟩
        · exact ⟨_, .arr (cur := c + 1) (es := es) (rows := []) (by simp [Env.turn, Env.new, upd_eq]) (Nat.le_refl _) (fun _ => by simp [Env.turn, Env.new, sliceV]) rfl, rfl⟩
        · refine hR.turn hob' (Nat.le_refl _) (fun k hk => by cases hk) (fun k hk _ => rfl) rfl rfl rfl ⟨Nat.le_succ _, fun e => by omega⟩ (fun he => .inl ?_) (fun _ _ e => by cases e)
          simp [Env.turn, Env.new]
      · refine grow (.slice none 0 0) 0 [] none rfl (by rw [h3]; rfl) (by simp; omega) .nil (fun _ h => by cases h) ?_
        exact run_firstCells_none _ _ _ _ _
    · rw [p1] at h3
      have hu : a.eval x = .slice (some ⟨b, 0, none⟩) rows.length (E.γ o) := by rw [h3]; rfl
      have l1 : cs.length = rows.length * es := by rw [p2.len, sizes_same p3]
      by_cases hroom : rows.length + rows2.length ≤ E.γ o
      · -- there is room
        have hspl : news.length ≤ sp.length := by
          have : (cs ++ sp).length = cs.length + sp.length := List.length_append
          have h4 : (rows.length + rows2.length) * es ≤ E.γ o * es := Nat.mul_le_mul_right _ hroom
          rw [Nat.add_mul] at h4
          omega
        have hsplit : sp = sp.take news.length ++ sp.drop news.length := (List.take_append_drop _ _).symm
        rw [hsplit] at p4
        have hc2 : (sp.take news.length).length = news.length := by simp; omega
        have hrun := run_append_room_src E.w T tx ty e inf (slB_under hT) hi b 0 rows.length (E.γ o) (a.eval y) rows2.length news (by rw [hi1]; exact hn1) hroom
          (fun j hj => by
            simp only [World.cell?, p4, hi1]
            simp
            omega)
          (fun j hj => by simp [World.frozen?, p4])
        rw [hi1, Nat.zero_add, setCells_row hc2.symm (fun v hv => by rw [← one_eq]; exact hn1.one v hv) l1 p4] at hrun
        let w' := E.w.setRow b (cs ++ (news ++ sp.drop news.length)).toArray
        have hrow : w'.heap[b]? = some (.cells (cs ++ (news ++ sp.drop news.length)).toArray e' (0, 0)) := setRow_heap _ _ _ _ _ _ p4
        refine ⟨_, E.turn o (.arr (c + 1) es (rows ++ rows2)) (some b) (E.γ o) [] w', run_of _ _ _ hu hrun, ?_, ?_⟩
        · exact ⟨_, .arr (cur := c + 1) (es := es) (rows := rows ++ rows2) (by simp [Env.turn, Env.new, upd_eq]) (Nat.le_refl _) (fun _ => by simp [Env.turn, Env.new, sliceV]) rfl, rfl⟩
        · refine hR.turn hob' (by simp [w']) (fun k hk => by cases hk; exact .inl p1) (fun k hk hne => setRow_other _ _ _ _ (fun e => hne (by rw [e]; exact p1))) rfl rfl rfl ⟨Nat.le_succ _, fun e => by omega⟩ (fun he => ?_) (fun _ _ e => by cases e)
          refine .inr ⟨b, cs ++ news, sp.drop news.length, e', by simp [Env.turn, Env.new], (p2.append hn2).mono he.hz he.imm, fun r hr => ?_, by rw [List.append_assoc]; exact hrow, ?_, ?_⟩
          · rcases List.mem_append.1 hr with h | h
            · exact p3 r h
            · exact hsz r h
          · simp only [Env.turn, Env.new, if_true]
            rw [← p5]
            simp
            omega
          · simp only [List.length_append, Env.turn, Env.new, if_true]; exact hroom
      · refine grow _ (E.γ o) cs _ rfl hu (by omega) p2 p3 ?_
        rw [hi1]
        exact run_firstCells_some E.w.drew es _ _ _ _ cs l1 (fun j v hj => by rw [add_addr]; exact cells_at_block p4 j v hj)

end
end Go.Val
