/- Rows without room behind them; bytes that are written out; bits; a contract that forgets what nobody needs. -/
import Derived.Test.YtlcnkhphgekmeaaVq
set_option linter.unusedSectionVars false
set_option linter.unusedVariables false
set_option linter.unusedSimpArgs false
namespace Go.Val
open Go.RowKit
variable [Drw]

section
variable {P : Program} {N : Nat × Nat} {ops : Array Oper} {i : Nat} {s : St} {d : Nat} {ty : TypeId} {pos : String} {af : Array Edge} {g : Option (Nat × Bool)} {gs : List Nat}

/-- A row that is written out, and never written again, with nothing behind it. -/
theorem o_bslX {T e es n : Nat} {z : D} {parts : List (Nat × Operand)} {rows : List D} (ho : ops[i]? = some ⟨some d, .buildSlice T n parts.toArray, ty, pos, af, g⟩) (hd : Nat.ble (d + 1) N.1 = true) (hg : G ops s g gs)
    (hp : PartsL s 0 parts rows) (hn : rows.length = n) (hT : slB P T = some e) (hS : szB P e = some es) (hZ : Zero P e z) (hzs : z.size = es) (hsz : ∀ r ∈ rows, r.size = es) (h24 : n * es ≤ 16777216) :
    Valid P N ops i ⟨gs ++ partT parts, [], some (d, some (.sx es rows)), []⟩ s :=
  valid_core ho rfl hd hg fun s' hs _ cx a E _ hR => by
    obtain ⟨cs, h1, h2⟩ := hp.fill hR hs hsz
    have hrun := run_buildSlice (P := P) (w := E.w) (vals := parts.map fun p => (p.1, a.eval p.2)) (cs := cs) hT hS hZ hzs h24 (fun pre rest p1 p2 => h2 pre rest (by simpa using p1) (by rw [hn]; exact p2))
    let E' : Env := { E with w := E.w.alloc (.cells cs.toArray e) }
    have he := ext_alloc E (.cells cs.toArray e)
    refine ⟨.slice (some ⟨E.w.heap.size, 0, none⟩) n n, E', ?_, ?_, r0_same (hR.alloc _)⟩
    · simp only [execOp]
      rw [Sem.run_bind, show (Array.map (fun x => (x.1, a.eval x.2)) parts.toArray) = (parts.map fun p => (p.1, a.eval p.2)).toArray from by simp, hrun]
      rfl
    · have hI : E'.I E.w.heap.size := hR.newI _ (Nat.le_refl _)
      have hb : E'.w.heap[E.w.heap.size]? = some (.cells (cs ++ []).toArray e (0, 0)) := by rw [List.append_nil]; exact alloc_new _ _
      have := CR.sx (E := E') (es := es) (rows := rows) hI (by simp [E']) (h1.mono he.hz he.imm) hsz (cells_at_block hb)
      rw [hn] at this
      exact ⟨_, this, rfl⟩

/-- What is appended to such a row makes a new one. -/
theorem o_appX {T tx e es bs : Nat} {x y : Operand} {α : Type} {enc : α → D} {xs ys : List α} {z : D} (o : Nat) (ho : ops[i]? = some ⟨some d, .call ⟨.builtin .append, #[x, y], #[T, tx]⟩, ty, pos, af, g⟩) (hd : Nat.ble (d + 1) N.1 = true) (hg : G ops s g gs)
    (hx : s.val x = some (.sx es (xs.map enc))) (hno : s.obj o = none) (hy : s.val y = some (.d (.sl es (ys.map enc)))) (h0 : 0 < ys.length) (hsz : ∀ r, (enc r).size = es)
    (hT : slB P T = some e) (hT' : slB P tx = some e) (hS : szB P e = some es) (hB : bytesB P e = some bs) (hZ : Zero P e z) (hzs : z.size = es) (hb0 : 1 ≤ bs) (hfit : (xs.length + ys.length) * bs ≤ 140737488355328) :
    Valid P N ops i ⟨gs ++ (opTmps x ++ opTmps y), [o], some (d, some (.arr o 0)), [(o, .arr 0 es ((xs ++ ys).map enc))]⟩ s := by
  refine valid_core ho rfl hd hg fun s' hs ho' cx a E _ hR => ?_
  have hno' := noObj ho' hno
  have hvx := hR.val ((val_agree (mem_app hs).1).trans hx)
  have hvy := hR.val ((val_agree (mem_app hs).2).trans hy)
  obtain ⟨news, hn1, hn2⟩ := (Srcs.sl (P := P) (s := s') (es := es) (rows := ys.map enc) hT').src hR hvy (map_sz hsz)
  rw [List.length_map] at hn1
  obtain ⟨zs, hz1, hz2⟩ := hZ E.I E.w
  obtain ⟨inf, hi, hi1, hi2, hi3⟩ := info_of hS hB hz2
  have hzc : (mkV z.isAgg zs).cells = zs.toArray := hz1.mkV_cells
  have hzl : zs.length = es := hz1.len.trans hzs
  obtain ⟨_, k1, k2⟩ := hvx
  cases k1 with
  | @sx _ b off _ olds q1 q2 q3 q4 q5 =>
    have hnl : news.length = ys.length * es := by rw [hn2.len, sizes_same (map_sz hsz), List.length_map]
    have l1 : olds.length = xs.length * es := by rw [q3.len, sizes_same (map_sz hsz), List.length_map]
    have hau : a.eval x = .slice (some ⟨b, off, none⟩) xs.length xs.length := by rw [k2]; simp [mkV, AV.isAgg]
    have h63 : xs.length + ys.length ≤ 9223372036854775807 := by
      have : (xs.length + ys.length) * 1 ≤ (xs.length + ys.length) * bs := Nat.mul_le_mul_left _ hb0
      omega
    have hfc : (Builtin.firstCells inf.size xs.length (.slice (some ⟨b, off, none⟩) xs.length xs.length)).run P E.w.drew = .ok olds.toArray E.w.drew := by
      rw [hi1]
      exact run_firstCells_some E.w.drew es _ _ _ _ olds l1 (fun j v hj => by rw [add_addr]; exact q5 j v hj)
    have hrun := run_append_grow_src E.w T tx ty e inf (mkV z.isAgg zs) (slB_under hT) hi hi3 (some ⟨b, off, none⟩) xs.length xs.length olds hfc (a.eval y) ys.length news (by rw [hi1]; exact hn1) (by omega) (by omega)
      (growslice_fits (by omega) (by rw [hi2]; exact hfit))
    have hge := grown_ge E.w (xs.length + ys.length) xs.length e
    generalize hgc : grownCap E.w (xs.length + ys.length) xs.length e = gc at hrun hge
    rw [hzc] at hrun
    let sp := (Builtin.zeroCells zs.toArray (gc - (xs.length + ys.length))).toList
    have hblk : ((olds ++ news).toArray ++ Builtin.zeroCells zs.toArray (gc - (xs.length + ys.length))) = ((olds ++ news) ++ sp).toArray := by
      apply Array.ext'; simp [sp]
    rw [hblk] at hrun
    let w' := E.w.drew.alloc (.cells ((olds ++ news) ++ sp).toArray e)
    have hsz' : w'.heap.size = E.w.heap.size + 1 := by simp [w']
    have hoth : ∀ k, k < E.w.heap.size → w'.heap[k]? = E.w.heap[k]? := fun k hk => Below.heap_alloc E.w.drew _ _ hk
    have hnew : w'.heap[E.w.heap.size]? = some (.cells ((olds ++ news) ++ sp).toArray e (0, 0)) := alloc_new E.w.drew _
    have he := ext_new (ob := .arr 0 es ((xs ++ ys).map enc)) (cap := gc) (births := []) (b := some E.w.heap.size) (w := w') (by rw [hR.obj]; exact hno') (by omega) (fun k hk => by cases hk; exact Nat.le_refl _) hoth
    refine ⟨.slice (some ⟨E.w.heap.size, 0, none⟩) (xs.length + ys.length) gc, E.new o (.arr 0 es ((xs ++ ys).map enc)) (some E.w.heap.size) gc [] w', ?_, ?_, hR.new hno' (by omega) (fun k hk => by cases hk; exact Nat.le_refl _) hoth ?_ ?_⟩
    · simp only [execOp, resolve, Sem.run_bind, Sem.run_pure, Result.andThen, invoke, builtin]
      simp only [List.map_toArray, List.map_cons, List.map_nil, hau]
      rw [hrun]
      rfl
    · exact ⟨_, .arr (cur := 0) (es := es) (rows := (xs ++ ys).map enc) (by simp [Env.new, upd_eq]) (Nat.le_refl _) (fun _ => by simp [Env.new, sliceV]) rfl, rfl⟩
    · exact ⟨hR.keeps.os, hR.keeps.tape, hR.keeps.output, by have := hR.keeps.size; omega, fun bb hb hT => (hoth bb (by have := hR.keeps.size; omega)).trans (hR.keeps.block bb hb hT), fun d => Nat.le_succ_of_le (hR.keeps.drawn d)⟩
    · refine .inr ⟨E.w.heap.size, olds ++ news, sp, e, by simp [Env.new], ?_, map_sz hsz, hnew, ?_, ?_⟩
      · have := (q3.append hn2).mono he.hz he.imm
        rwa [← List.map_append] at this
      · have l2 : sp.length = (gc - (xs.length + ys.length)) * es := by simp only [sp, zeroCells_len]; rw [List.size_toArray, hzl]
        simp only [List.length_append, l1, hnl, l2, Env.new, if_true]
        rw [← Nat.add_mul, ← Nat.add_mul]
        congr 1
        omega
      · simp only [List.length_append, List.length_map, Env.new, if_true]; exact hge


theorem R0.drewI {cx : Cx} {s : St} {a : Act} {E : Env} (h : R0 cx s a E) : Ext E { E with w := E.w.drew } ∧ R0 cx s a { E with w := E.w.drew } := by
  have he : Ext E { E with w := E.w.drew } := by
    refine ⟨Nat.le_refl _, fun b hb _ => ⟨hb, rfl⟩, fun o ob ho => ⟨ob, ho, ?_⟩⟩
    cases ob <;> simp [OExt]
  exact ⟨he, h.trans he rfl rfl h.obj (fun o ob ho => (h.objs o ob ho).ext he rfl rfl rfl (fun _ _ => rfl) (fun m ver l cu e => ⟨rfl, fun es hes => ⟨hes, rfl, rfl⟩, fun h => h⟩)) h.inj h.own (h.keeps.drew (Nat.le_succ _))⟩

/-- What is appended to such a row makes a new one, that nobody writes. -/
theorem o_appXD {T tx e es bs : Nat} {x y : Operand} {α : Type} {enc : α → D} {xs ys : List α} {z : D} (ho : ops[i]? = some ⟨some d, .call ⟨.builtin .append, #[x, y], #[T, tx]⟩, ty, pos, af, g⟩) (hd : Nat.ble (d + 1) N.1 = true) (hg : G ops s g gs)
    (hx : s.val x = some (.sx es (xs.map enc))) (hy : s.val y = some (.d (.sl es (ys.map enc)))) (h0 : 0 < ys.length) (hsz : ∀ r, (enc r).size = es)
    (hT : slB P T = some e) (hT' : slB P tx = some e) (hS : szB P e = some es) (hB : bytesB P e = some bs) (hZ : Zero P e z) (hzs : z.size = es) (hb0 : 1 ≤ bs) (hfit : (xs.length + ys.length) * bs ≤ 140737488355328) :
    Valid P N ops i ⟨gs ++ (opTmps x ++ opTmps y), [], some (d, some (.d (.sl es ((xs ++ ys).map enc)))), []⟩ s := by
  refine valid_core ho rfl hd hg fun s' hs ho' cx a E _ hR => ?_
  have hvx := hR.val ((val_agree (mem_app hs).1).trans hx)
  have hvy := hR.val ((val_agree (mem_app hs).2).trans hy)
  obtain ⟨news, hn1, hn2⟩ := (Srcs.sl (P := P) (s := s') (es := es) (rows := ys.map enc) hT').src hR hvy (map_sz hsz)
  rw [List.length_map] at hn1
  obtain ⟨zs, hz1, hz2⟩ := hZ E.I E.w
  obtain ⟨inf, hi, hi1, hi2, hi3⟩ := info_of hS hB hz2
  have hzc : (mkV z.isAgg zs).cells = zs.toArray := hz1.mkV_cells
  obtain ⟨_, k1, k2⟩ := hvx
  cases k1 with
  | @sx _ b off _ olds q1 q2 q3 q4 q5 =>
    have l1 : olds.length = xs.length * es := by rw [q3.len, sizes_same (map_sz hsz), List.length_map]
    have hau : a.eval x = .slice (some ⟨b, off, none⟩) xs.length xs.length := by rw [k2]; simp [mkV, AV.isAgg]
    have h63 : xs.length + ys.length ≤ 9223372036854775807 := by
      have : (xs.length + ys.length) * 1 ≤ (xs.length + ys.length) * bs := Nat.mul_le_mul_left _ hb0
      omega
    have hfc : (Builtin.firstCells inf.size xs.length (.slice (some ⟨b, off, none⟩) xs.length xs.length)).run P E.w.drew = .ok olds.toArray E.w.drew := by
      rw [hi1]
      exact run_firstCells_some E.w.drew es _ _ _ _ olds l1 (fun j v hj => by rw [add_addr]; exact q5 j v hj)
    have hrun := run_append_grow_src E.w T tx ty e inf (mkV z.isAgg zs) (slB_under hT) hi hi3 (some ⟨b, off, none⟩) xs.length xs.length olds hfc (a.eval y) ys.length news (by rw [hi1]; exact hn1) (by omega) (by omega)
      (growslice_fits (by omega) (by rw [hi2]; exact hfit))
    have hge := grown_ge E.w (xs.length + ys.length) xs.length e
    generalize hgc : grownCap E.w (xs.length + ys.length) xs.length e = gc at hrun hge
    rw [hzc] at hrun
    let sp := (Builtin.zeroCells zs.toArray (gc - (xs.length + ys.length))).toList
    have hblk : ((olds ++ news).toArray ++ Builtin.zeroCells zs.toArray (gc - (xs.length + ys.length))) = ((olds ++ news) ++ sp).toArray := by
      apply Array.ext'; simp [sp]
    rw [hblk] at hrun
    obtain ⟨he1, hR1⟩ := hR.drewI
    have he2 := ext_alloc { E with w := E.w.drew } (.cells ((olds ++ news) ++ sp).toArray e)
    have hR2 := hR1.alloc (.cells ((olds ++ news) ++ sp).toArray e)
    refine ⟨.slice (some ⟨E.w.heap.size, 0, none⟩) (xs.length + ys.length) gc, _, ?_, ?_, r0_same hR2⟩
    · simp only [execOp, resolve, Sem.run_bind, Sem.run_pure, Result.andThen, invoke, builtin]
      simp only [List.map_toArray, List.map_cons, List.map_nil, hau]
      rw [hrun]
    · have hI : Env.I { E with w := E.w.drew.alloc (.cells ((olds ++ news) ++ sp).toArray e) } E.w.heap.size := hR.newI _ (Nat.le_refl _)
      have hb : (E.w.drew.alloc (.cells ((olds ++ news) ++ sp).toArray e)).heap[E.w.heap.size]? = some (.cells ((olds ++ news) ++ sp).toArray e (0, 0)) := alloc_new E.w.drew _
      have hdr := (((q3.append hn2).mono he1.hz he1.imm).mono he2.hz he2.imm)
      rw [← List.map_append] at hdr
      have := DR.sl (es := es) (rows := (xs ++ ys).map enc) (cap := gc) hI (by simp) hdr (map_sz hsz) (cells_at_block hb) (by simpa using hge)
      simp only [List.length_map, List.length_append] at this
      exact ⟨_, .d this, rfl⟩

/-- Bytes that are written into an array. -/
inductive FillB (s : St) : List (Nat × Operand) → List UInt8 → List UInt8 → Prop
  | nil {l : List UInt8} : FillB s [] l l
  | cons {k : Nat} {x : Operand} {n : Int} {ps : List (Nat × Operand)} {l r : List UInt8} (h : s.val x = some (.d (.v (.int .u8 n)))) (hn : 0 ≤ n ∧ n < 256) (hk : Nat.ble (k + 1) l.length = true) (hs : FillB s ps (l.set k (UInt8.ofNat n.toNat)) r) : FillB s ((k, x) :: ps) l r

theorem FillB.fill {s s' : St} {cx : Cx} {a : Act} {E : Env} (hR : R0 cx s' a E) : ∀ {ps : List (Nat × Operand)} {l r : List UInt8}, FillB s ps l r → (∀ t ∈ partT ps, s'.slot t = s.slot t) →
    r.length = l.length ∧ Instr.fill (fun i => some (i * 1, 1)) (l.map u8v).toArray (ps.map fun p => (p.1, a.eval p.2)) = some (r.map u8v).toArray
  | _, _, _, .nil, _ => ⟨rfl, rfl⟩
  | _, _, _, .cons (k := k) (x := x) (n := n) (l := l) h hn hk hs, ht => by
    have hv := (hR.val ((val_agree (fun t h' => ht t (by simp [partT, h']))).trans h)).sc
    obtain ⟨h1, h2⟩ := FillB.fill hR hs (fun t h' => ht t (by simp only [partT, List.flatMap_cons, List.mem_append]; exact .inr h'))
    have hk' := Nat.le_of_ble_eq_true hk
    have hu : u8v (UInt8.ofNat n.toNat) = .int .u8 n := by
      have e : ((UInt8.ofNat n.toNat).toNat : Int) = n := by
        rw [UInt8.toNat_ofNat', Nat.mod_eq_of_lt (by omega)]
        omega
      simp only [u8v, e]
    have hc : l.map u8v = (l.map u8v).take k ++ (((l.map u8v).drop k).take 1 ++ (l.map u8v).drop (k + 1)) := by
      rw [← List.drop_drop, List.take_append_drop, List.take_append_drop]
    have hset : (l.set k (UInt8.ofNat n.toNat)).map u8v = (l.map u8v).take k ++ ([.int .u8 n] ++ (l.map u8v).drop (k + 1)) := by
      rw [← hu, List.map_set, List.set_eq_take_append_cons_drop, if_pos (by simp only [List.length_map]; omega)]
      simp
    refine ⟨by rw [h1]; simp, ?_⟩
    rw [hc]
    simp only [List.map_cons, hv]
    rw [fill_one (off := k * 1) (sz := 1) (c := [.int .u8 n]) rfl rfl rfl (by simp; omega) (by simp; omega), ← hset]
    exact h2

/-- An array of bytes that is written out. -/
theorem o_bldB {T e n : Nat} {l r : List UInt8} {parts : List (Nat × Operand)} (ho : ops[i]? = some ⟨some d, .build T parts.toArray, ty, pos, af, g⟩) (hd : Nat.ble (d + 1) N.1 = true) (hg : G ops s g gs)
    (hZ : Zero P T (.bs n l)) (hT : arB P T = some (n, e)) (hS : szB P e = some 1) (hf : FillB s parts l r) :
    Valid P N ops i ⟨gs ++ partT parts, [], some (d, some (.d (.bs n r))), []⟩ s :=
  valid_pure ho hd hg fun s' hs cx a E hR => by
    obtain ⟨cs, h1, h2⟩ := hZ E.I E.w
    cases h1 with
    | bs h1 =>
      obtain ⟨r1, r2⟩ := hf.fill hR hs
      refine ⟨.agg (r.map u8v).toArray, ?_, _, .d (.bs (r1.trans h1)), rfl⟩
      simp only [execOp]
      rw [Sem.run_bind]
      unfold Instr.build
      simp only [Sem.run_bind, run_zero h2, Result.andThen, run_underlying (arB_under hT), run_sizeOf_of hS, mkV, D.isAgg, if_true, Value.cells]
      have e1 : (Array.map (fun x => (x.1, a.eval x.2)) parts.toArray).toList = parts.map fun p => (p.1, a.eval p.2) := by simp
      rw [e1, r2]
      rfl

variable {T : TypeId} {x y : Operand} {k : IntKind}
def bitsAnd (k : IntKind) (a b : Int) : Int := k.wrap (BitVec.ofInt k.bits a &&& BitVec.ofInt k.bits b).toNat
def bitsOr (k : IntKind) (a b : Int) : Int := k.wrap (BitVec.ofInt k.bits a ||| BitVec.ofInt k.bits b).toNat
def bitsXor (k : IntKind) (a b : Int) : Int := k.wrap (BitVec.ofInt k.bits a ^^^ BitVec.ofInt k.bits b).toNat
theorem b_and (a b : Int) : ∀ w, (eqGuard .and T x y (.int k a) (.int k b) >>= fun _ => binOp .and T (.int k a) (.int k b) : Sem Value).run P w = .ok (.int k (bitsAnd k a b)) w := fun w => by simp [eqGuard, binOp, Op.intBits, Result.andThen, bitsAnd]
theorem b_or (a b : Int) : ∀ w, (eqGuard .or T x y (.int k a) (.int k b) >>= fun _ => binOp .or T (.int k a) (.int k b) : Sem Value).run P w = .ok (.int k (bitsOr k a b)) w := fun w => by simp [eqGuard, binOp, Op.intBits, Result.andThen, bitsOr]
theorem b_xor (a b : Int) : ∀ w, (eqGuard .xor T x y (.int k a) (.int k b) >>= fun _ => binOp .xor T (.int k a) (.int k b) : Sem Value).run P w = .ok (.int k (bitsXor k a b)) w := fun w => by simp [eqGuard, binOp, Op.intBits, Result.andThen, bitsXor]
end

/-- A result of data, without the object beside it. -/
theorem fnOk_forget {P : Program} {f : FuncId} {args : List AV} {x : D} {m : List (Nat × OB)} (h : FnOk P f args 0 (lk []) (fun rr oo => rr = .d x ∧ oo = lk m)) : FnOk P f args 0 (lk []) (fun rr oo => rr = .d x ∧ oo = lk []) := by
  intro hk E vals hE hok hargs
  refine (h hk E vals hE hok hargs).mono ?_
  rintro e w' ⟨v, res, E', h1, h2, ⟨h3, h4⟩, h5, h6, h7, h8, h9, h10⟩
  subst h3
  let E2 : Env := { E' with obj := lk [] }
  have hI : ∀ b, E'.I b → E2.I b := fun b hb => ⟨hb.1, fun o ob (ho : none = some ob) => nomatch ho⟩
  refine ⟨v, .d x, E2, h1, h2, ⟨rfl, rfl⟩, ?_, ⟨fun o ob (ho : none = some ob) => (nomatch ho), fun o o' b ho => absurd rfl ho⟩, fun o b ho => absurd rfl ho, h8, h9, fun o ob ho => by rw [hE] at ho; exact nomatch (show none = some ob from ho)⟩
  obtain ⟨cs, q1, q2⟩ := h5
  cases q1 with
  | d q1 => exact ⟨cs, .d (q1.mono (Nat.le_refl _) (fun b hb _ => ⟨hI b hb, rfl⟩)), q2⟩

end Go.Val
