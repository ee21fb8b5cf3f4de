/- Bytes once more: rows of bytes of one's own, pieces of an array, shifts, results in a variable and a slot. -/
import Derived.Test.YthipaajmgfnagaaGreatDoorXp
import Derived.Laws.MakeOwn
set_option linter.unusedSectionVars false
set_option linter.unusedVariables false
set_option linter.unusedSimpArgs false
namespace Go.Val
open Go.RowKit
variable [Drw]

def u8D (b : UInt8) : D := .v (u8v b)

theorem Hand.bs {s : St} {oin : Nat → Option OB} {σ : Nat → Nat} {o k m n c : Nat} (h : σ o = k) : Hand s oin σ (.bsl k m n c) (.bsl o m n c) false [] := by subst h; exact .same (y := .bsl o m n c)
section
variable {P : Program} {N : Nat × Nat} {ops : Array Oper} {i : Nat} {s : St} {d : Nat} {ty : TypeId} {pos : String} {af : Array Edge} {g : Option (Nat × Bool)} {gs : List Nat}

theorem b_shl {T : TypeId} {x y : Operand} {k kk : IntKind} (a : Int) (n : Int) (h : 0 ≤ n) : ∀ w, (eqGuard .shl T x y (.int k a) (.int kk n) >>= fun _ => binOp .shl T (.int k a) (.int kk n) : Sem Value).run P w = .ok (.int k (k.wrap (a * 2 ^ (min n.toNat k.bits)))) w := fun w => by
  have : ¬ n < 0 := by omega
  simp [eqGuard, binOp, Op.shift, this, Result.andThen]

/-- The length of a piece of a variable's array. -/
theorem o_lenB {T e : Nat} {x : Operand} {o m n cap : Nat} (ho : ops[i]? = some ⟨some d, .call ⟨.builtin .len, #[x], #[T]⟩, ty, pos, af, g⟩) (hd : Nat.ble (d + 1) N.1 = true) (hg : G ops s g gs)
    (hx : s.val x = some (.bsl o m n cap)) (hT : slB P T = some e) :
    Valid P N ops i ⟨gs ++ opTmps x, [], some (d, some (.d (.v (.int .i64 (n : Int))))), []⟩ s :=
  valid_pure ho hd hg fun s' hs cx a E hR => by
    obtain ⟨cs, h1, h2⟩ := hR.val ((val_agree hs).trans hx)
    cases h1 with
    | bsl q1 qb q2 =>
      rename_i b zz
      have e1 : a.eval x = .slice (some ⟨b, m, none⟩) n cap := h2
      refine ⟨.int .i64 n, ?_, .of_sc (E := E) rfl⟩
      simp only [execOp, resolve, Sem.run_bind, Sem.run_pure, Result.andThen, invoke, builtin]
      simp only [List.map_toArray, List.map_cons, List.map_nil, e1]
      simp [Builtin.len_, Builtin.lenOf, run_underlying (slB_under hT), Result.andThen, goInt]

/-- The address of a byte in a piece of a variable's array. -/
theorem o_ixS {T e : Nat} {x z : Operand} {o m c cap : Nat} {k : IntKind} {n : Int} (ho : ops[i]? = some ⟨some d, .indexAddr T x z, ty, pos, af, g⟩) (hd : Nat.ble (d + 1) N.1 = true) (hg : G ops s g gs)
    (hx : s.val x = some (.bsl o m c cap)) (hz : s.val z = some (.d (.v (.int k n)))) (hT : slB P T = some e) (he : szB P e = some 1) (hn : 0 ≤ n ∧ n < c) :
    Valid P N ops i ⟨gs ++ (opTmps x ++ opTmps z), [], some (d, some (.ptr o (m + n.toNat))), []⟩ s :=
  valid_pure ho hd hg fun s' hs cx a E hR => by
    obtain ⟨cs, h1, h2⟩ := hR.val ((val_agree (mem_app hs).1).trans hx)
    have ez := (hR.val ((val_agree (mem_app hs).2).trans hz)).sc
    cases h1 with
    | bsl q1 qb q2 =>
      rename_i b zz
      have e1 : a.eval x = .slice (some ⟨b, m, none⟩) c cap := h2
      refine ⟨.pointer (some ⟨b, m + n.toNat, none⟩), ?_, _, .ptr q1 qb q2, rfl⟩
      simp only [execOp]
      rw [e1, ez, Sem.run_bind, run_indexAt_slice hT he hn.1 hn.2, Nat.mul_one]
      rfl

/-- A piece of a variable's array, its bounds written. -/
theorem o_slC {T e n es : Nat} {x : Operand} {lo hi : Option Operand} {o m lv hv : Nat} (lo' cnt cap : Nat) (ho : ops[i]? = some ⟨some d, .slice T x lo hi none, ty, pos, af, g⟩) (hd : Nat.ble (d + 1) N.1 = true) (hg : G ops s g gs)
    (hx : s.val x = some (.ptr o m)) (hT : arB P T = some (n, e)) (hS : szB P e = some es) (hl : Bd s 0 lo lv) (hh : Bd s n hi hv) (h1 : lv ≤ hv) (h2 : hv ≤ n) (h3 : lv < n) (e1 : lv * es = lo') (e2 : hv - lv = cnt) (e3 : n - lv = cap) :
    Valid P N ops i ⟨gs ++ (opTmps x ++ (bdT lo ++ bdT hi)), [], some (d, some (.bsl o (m + lo') cnt cap)), []⟩ s := by
  subst e1; subst e2; subst e3
  exact o_slP ho hd hg hx hT hS hl hh h1 h2 h3

/-- A row of bytes that is made. -/
theorem o_mksl {T e : Nat} {x y : Operand} {n : Int} (o : Nat) (ho : ops[i]? = some ⟨some d, .makeSlice T x y, ty, pos, af, g⟩) (hd : Nat.ble (d + 1) N.1 = true) (hg : G ops s g gs)
    (hx : s.val x = some (.d (.v (.int .i64 n)))) (hy : s.val y = some (.d (.v (.int .i64 n)))) (hT : slB P T = some e) (hS : szB P e = some 1) (hB : bytesB P e = some 1) (hZ : (P.info? e).bind (·.zero) = some (.int .u8 0))
    (hn : 0 ≤ n ∧ n ≤ 140737488355328) (hno : s.obj o = none) :
    Valid P N ops i ⟨gs ++ (opTmps x ++ opTmps y), [o], some (d, some (.arr o 0)), [(o, .arr 0 1 ((List.replicate n.toNat (0 : UInt8)).map u8D))]⟩ s :=
  valid_core ho rfl hd hg fun s' hs ho' cx a E _ hR => by
    have hno' := noObj ho' hno
    have hnoE : E.obj o = none := by rw [hR.obj]; exact hno'
    have ex := (hR.val ((val_agree (mem_app hs).1).trans hx)).sc
    have ey := (hR.val ((val_agree (mem_app hs).2).trans hy)).sc
    obtain ⟨inf, i1, i2, i3, i4⟩ := info_of hS hB hZ
    have hrun := run_make (P := P) E.w T e inf (.int .u8 0) (slB_under hT) i1 i4 .i64 .i64 n n hn.1 (Int.le_refl _) (by rw [i3]; omega) (by omega)
    have hcs : madeCells (Value.int .u8 0).cells (n.toNat * inf.size) = ((List.replicate n.toNat (0 : UInt8)).map u8v).toArray := by
      rw [i2, Nat.mul_one]
      apply Array.ext
      · simp [size_madeCells]
      · intro j h1 h2
        simp only [madeCells, Array.getElem_map, Array.getElem_range]
        simp [Value.cells, u8v, Nat.mod_one]
    rw [hcs] at hrun
    have hz' : E.w.heap.size ≤ (E.w.alloc (.cells ((List.replicate n.toNat (0 : UInt8)).map u8v).toArray e)).heap.size := by simp
    have hh : ∀ k, k < E.w.heap.size → (E.w.alloc (.cells ((List.replicate n.toNat (0 : UInt8)).map u8v).toArray e)).heap[k]? = E.w.heap[k]? := fun k hk => Below.heap_alloc _ _ _ hk
    have he := ext_new (ob := .arr 0 1 ((List.replicate n.toNat (0 : UInt8)).map u8D)) (cap := n.toNat) (births := []) rfl hnoE hz' (b := some E.w.heap.size) (fun k hk => by cases hk; exact Nat.le_refl _) hh
    refine ⟨.slice (some ⟨E.w.heap.size, 0, none⟩) n.toNat n.toNat, E.new o (.arr 0 1 ((List.replicate n.toNat (0 : UInt8)).map u8D)) (some E.w.heap.size) n.toNat [] (E.w.alloc (.cells ((List.replicate n.toNat (0 : UInt8)).map u8v).toArray e)), ?_, ?_, hR.new hno' hz' (fun k hk => by cases hk; exact Nat.le_refl _) hh (hR.keeps.grow _) ?_⟩
    · simp only [execOp]
      rw [ex, ey, Sem.run_bind, hrun]
      rfl
    · exact ⟨_, .arr (cur := 0) (es := 1) (rows := (List.replicate n.toNat (0 : UInt8)).map u8D) (by simp [Env.new, upd_eq]) (Nat.le_refl _) (fun _ => by simp [Env.new, sliceV]) rfl, rfl⟩
    · refine .inr ⟨E.w.heap.size, (List.replicate n.toNat (0 : UInt8)).map u8v, [], e, by simp [Env.new], drs_u8 _, fun r hr => by obtain ⟨y, _, rfl⟩ := List.mem_map.1 hr; rfl, by rw [List.append_nil]; exact alloc_new _ _, ?_, by simp [Env.new]⟩
      simp [Env.new]

/-- A text copied over the end of a row of bytes of one's own. -/
theorem o_cpA {T Ts e o c k : Nat} {x y : Operand} {xs : List UInt8} {b : ByteArray} (ho : ops[i]? = some ⟨some d, .call ⟨.builtin .copy, #[x, y], #[T, Ts]⟩, ty, pos, af, g⟩) (hd : Nat.ble (d + 1) N.1 = true) (hg : G ops s g gs)
    (hx : s.val x = some (.asl o c k)) (hy : s.val y = some (.d (.v (.string b)))) (hob : s.obj o = some (.arr c 1 (xs.map u8D))) (hT : slB P T = some e) (hS : szB P e = some 1) (hk : k ≤ xs.length) :
    Valid P N ops i ⟨gs ++ (opTmps x ++ opTmps y), [o], some (d, some (.d (.v (.int .i64 ((Nat.min b.size (xs.length - k) : Nat) : Int))))), [(o, .arr c 1 ((xs.take k ++ cpB (xs.drop k) b.data.toList).map u8D))]⟩ s :=
  valid_core ho rfl hd hg fun s' hs ho' cx a E _ hR => by
    have hob' : s'.obj o = some (.arr c 1 (xs.map u8D)) := (ho' o (by simp)).trans hob
    obtain ⟨zs, h1, h2⟩ := hR.val ((val_agree (mem_app hs).1).trans hx)
    have h3 := (hR.val ((val_agree (mem_app hs).2).trans hy)).sc
    have e1 : a.eval y = .string b := h3
    cases h1 with
    | asl q1 q2 q3 q4 =>
      rw [hR.obj, hob'] at q1; cases q1
      rcases q3 rfl with ⟨ad, cap, rfl, hle⟩ | ⟨bb, cap, hb, rfl, hlt⟩
      · rw [List.length_map] at hle
        have hk' : xs.length - k = 0 := by omega
        have hx' : xs.drop k = [] := List.drop_eq_nil_of_le hle
        have he : (xs.take k ++ cpB (xs.drop k) b.data.toList) = xs := by
          rw [hx', List.take_of_length_le hle]; simp [cpB]
        rw [he, hk']
        have hz0 : Nat.min b.size 0 = 0 := Nat.min_eq_right (Nat.zero_le _)
        rw [hz0]
        refine ⟨.int .i64 0, E, ?_, .of_sc rfl, ?_⟩
        · have e0 : a.eval x = .slice ad 0 cap := h2
          simp only [execOp, resolve, Sem.run_bind, Sem.run_pure, Result.andThen, invoke, builtin]
          simp only [List.map_toArray, List.map_cons, List.map_nil, e0, e1]
          cases ad <;> simp [Builtin.copy_, Sem.run_bind, run_underlying (slB_under hT), Builtin.lenOf, Builtin.firstCells, run_sizeOf_of hS, Result.andThen, goInt, storeCells]
        · have es : ({ s' with obj := setAll s'.obj [(o, .arr c 1 (xs.map u8D))] } : St) = s' := by
            have : setAll s'.obj [(o, OB.arr c 1 (xs.map u8D))] = s'.obj := by
              funext t
              by_cases ht : t = o
              · subst ht; simp [setAll, upd_eq, hob']
              · simp [setAll, upd_eq, ht]
            rw [this]
          rw [es]
          exact hR
      · rw [List.length_map] at hlt h2
        rcases hR.objs _ _ hob' with ⟨p1, p2, _⟩ | ⟨b', cs, sp, e', p1, p2, p3, p4, p5, p6⟩
        · have : xs = [] := by simpa using p2
          rw [this] at hlt; simp at hlt
        · rw [hb] at p1; cases p1
          have hcs := drs_bytes_eq p2
          subst hcs
          have hsz : b.data.toList.length = b.size := rfl
          have hrun := run_copy_str (P := P) (w := E.w) (dT := T) (sT := Ts) (ty := ty) (g := bb) (o := k * 1) (dLen := xs.length - k) (dCap := cap) (t := b) hT hS p4 (by simp; omega)
          have harr : ((xs.map u8v ++ sp).toArray.toList.take (k * 1) ++ (b.data.toList.take (Nat.min b.size (xs.length - k))).map u8v ++ (xs.map u8v ++ sp).toArray.toList.drop (k * 1 + Nat.min b.size (xs.length - k))).toArray = ((xs.take k ++ cpB (xs.drop k) b.data.toList).map u8v ++ sp).toArray := by
            congr 1
            simp only [Nat.mul_one]
            rw [List.take_append_of_le_length (by simp; omega), ← List.map_take, List.map_append, List.append_assoc, List.append_assoc]
            congr 1
            have hmin : Nat.min b.size (xs.length - k) ≤ xs.length - k := Nat.min_le_right _ _
            rw [List.drop_append_of_le_length (by simp; omega), ← List.append_assoc]
            congr 1
            unfold cpB
            rw [List.map_append, List.length_drop, ← List.map_drop, List.drop_drop]
            by_cases hc : b.size ≤ xs.length - k
            · have e2 : Nat.min b.size (xs.length - k) = b.size := Nat.min_eq_left hc
              rw [e2, ← hsz, List.take_length, List.take_of_length_le (by omega)]
            · have e2 : Nat.min b.size (xs.length - k) = xs.length - k := Nat.min_eq_right (by omega)
              rw [e2, hsz, List.drop_eq_nil_of_le (as := xs) (i := k + b.size) (by omega), List.drop_eq_nil_of_le (as := xs) (i := k + (xs.length - k)) (by omega)]
          rw [harr] at hrun
          have hlen : (xs.take k ++ cpB (xs.drop k) b.data.toList).length = xs.length := by
            rw [List.length_append, cpB_len, List.length_take, List.length_drop]; omega
          have hrow : (E.w.setRow bb ((xs.take k ++ cpB (xs.drop k) b.data.toList).map u8v ++ sp).toArray).heap[bb]? = some (.cells ((xs.take k ++ cpB (xs.drop k) b.data.toList).map u8v ++ sp).toArray e' (0, 0)) := setRow_heap _ _ _ _ _ _ p4
          refine ⟨goInt (Nat.min b.size (xs.length - k)), E.turn o (.arr c 1 ((xs.take k ++ cpB (xs.drop k) b.data.toList).map u8D)) (some bb) (E.γ o) [] (E.w.setRow bb ((xs.take k ++ cpB (xs.drop k) b.data.toList).map u8v ++ sp).toArray), ?_, .of_sc rfl, ?_⟩
          · have e0 : a.eval x = .slice (some ⟨bb, k * 1, none⟩) (xs.length - k) cap := h2
            simp only [execOp, resolve, Sem.run_bind, Sem.run_pure, Result.andThen, invoke, builtin]
            simp only [List.map_toArray, List.map_cons, List.map_nil, e0, e1, hrun]
            rfl
          · refine hR.turn hob' (by simp) (fun q hq => by cases hq; exact .inl hb) (fun q hq hne => setRow_other _ _ _ _ (fun e => hne (by rw [e]; exact hb))) rfl rfl rfl ?_ (fun he => ?_) (fun _ _ e => by cases e)
            · exact ⟨Nat.le_refl _, fun _ => ⟨by simp [Env.turn, Env.new, hb], by simp [Env.turn, Env.new], by rw [List.length_map, List.length_map]; exact hlen, rfl⟩⟩
            · refine .inr ⟨bb, (xs.take k ++ cpB (xs.drop k) b.data.toList).map u8v, sp, e', by simp [Env.turn, Env.new], drs_u8 _, fun r hr => by obtain ⟨y, _, rfl⟩ := List.mem_map.1 hr; rfl, hrow, ?_, ?_⟩
              · simp only [List.length_append, List.length_map, hlen, Env.turn, Env.new, if_true] at p5 ⊢; omega
              · simp only [List.length_map, hlen, Env.turn, Env.new, if_true] at p6 ⊢; exact p6

/-- A row of bytes of one's own, as a text. -/
theorem o_cvA {S T e o c : Nat} {x : Operand} {xs : List UInt8} (ho : ops[i]? = some ⟨some d, .convert S T x, ty, pos, af, g⟩) (hd : Nat.ble (d + 1) N.1 = true) (hg : G ops s g gs)
    (hx : s.val x = some (.arr o c)) (hob : s.obj o = some (.arr c 1 (xs.map u8D))) (hS : slB P S = some e) (he : P.underlying e = some (.int .u8)) (hT : P.underlying T = some .string) :
    Valid P N ops i ⟨gs ++ opTmps x, [o], some (d, some (.d (.v (.string ⟨xs.toArray⟩)))), []⟩ s :=
  valid_core ho rfl hd hg fun s' hs ho' cx a E _ hR => by
    have hob' : s'.obj o = some (.arr c 1 (xs.map u8D)) := (ho' o (by simp)).trans hob
    obtain ⟨cs, k1, k2⟩ := hR.val ((val_agree hs).trans hx)
    cases k1 with
    | arr q1 q2 q3 q4 =>
      rw [hR.obj, hob'] at q1; cases q1
      have h3 := q3 rfl
      refine ⟨.string ⟨xs.toArray⟩, E, ?_, .of_sc rfl, r0_same hR⟩
      rcases hR.objs _ _ hob' with ⟨p1, p2, p3⟩ | ⟨b, zs, sp, e', p1, p2, p3, p4, p5, p6⟩
      · have : xs = [] := by simpa using p2
        subst this
        rw [p1] at h3
        have e1 : a.eval x = .slice none 0 0 := by rw [k2, h3]; rfl
        simp only [execOp]
        rw [e1, Sem.run_bind, run_convert_bytes_string E.w S T e none 0 0 (slB_under hS) he hT]
        rfl
      · have hcs := drs_bytes_eq p2
        subst hcs
        rw [p1, List.length_map] at h3
        have e1 : a.eval x = .slice (some ⟨b, 0, none⟩) xs.length (E.γ o) := by rw [k2, h3]; rfl
        have hall : CellsAt E.w b 0 (xs.map u8v) := cells_at_block p4
        simp only [execOp]
        rw [e1, Sem.run_bind, run_convert_bytes_back E.w S T e ⟨b, 0, none⟩ _ xs (slB_under hS) he hT (fun j hj => by rw [add_addr]; exact hall j _ (by simp [hj]; rfl))]
        rfl

/-- A byte of a text. -/
theorem o_ixStr {T : Nat} {x z : Operand} {b : ByteArray} {k : IntKind} {n : Int} {y : UInt8} (ho : ops[i]? = some ⟨some d, .index T x z, ty, pos, af, g⟩) (hd : Nat.ble (d + 1) N.1 = true) (hg : G ops s g gs)
    (hx : s.val x = some (.d (.v (.string b)))) (hz : s.val z = some (.d (.v (.int k n)))) (hT : P.underlying T = some .string) (h0 : 0 ≤ n) (hy : b.data.toList[n.toNat]? = some y) :
    Valid P N ops i ⟨gs ++ (opTmps x ++ opTmps z), [], some (d, some (.d (.v (.int .u8 (y.toNat : Int))))), []⟩ s :=
  valid_pure ho hd hg fun s' hs cx a E hR => by
    have ex := (hR.val ((val_agree (mem_app hs).1).trans hx)).sc
    have ez := (hR.val ((val_agree (mem_app hs).2).trans hz)).sc
    refine ⟨.int .u8 y.toNat, ?_, .of_sc (E := E) rfl⟩
    have hlt : n.toNat < b.data.toList.length := (List.getElem?_eq_some_iff.1 hy).1
    have hl : n.toNat < b.size := hlt
    have hge : b.data.toList[n.toNat] = y := (List.getElem?_eq_some_iff.1 hy).2
    have hg : b[n.toNat]? = some y := by
      rw [getElem?_pos b n.toNat hl, ← hge, Array.getElem_toList]
      rfl
    simp only [execOp, ex, ez, Instr.index]
    simp [run_underlying hT, asIntOf, Result.andThen, h0, hg]

/-- A byte of an array, written, at a place beyond its begin. -/
theorem o_stBo {T : TypeId} {x v : Operand} {o m j n : Nat} {z : AV} {l : List UInt8} {q : Int} {off : Nat} (p : List Nat) (ho : ops[i]? = some ⟨none, .store T x v, ty, pos, af, g⟩) (hg : G ops s g gs)
    (hx : s.val x = some (.ptr o (m + off + j))) (hv : s.val v = some (.d (.v (.int .u8 q)))) (hob : s.obj o = some (.box z)) (hp : AV.get p z = some (.d (.bs n l), m)) (hj : off + j < l.length) (hq : 0 ≤ q ∧ q < 256) (hT : szB P T = some 1) :
    Valid P N ops i ⟨gs ++ (opTmps x ++ opTmps v), [o], none, [(o, .box (AV.put p z (.d (.bs n (l.set (off + j) (UInt8.ofNat q.toNat))))))]⟩ s :=
  o_stB p ho hg (by rw [← Nat.add_assoc]; exact hx) hv hob hp hj hq hT

theorem resCT {fn : Func} {t o T n u : Nat} {x y : AV} {b : Bool} (h : fn.results = #[.cell t T, .tmp u]) (hx : s.slot t = some (.ptr o 0)) (hob : s.obj o = some (.box x)) (hT : TA P T b n) (hb : x.isAgg = b) (hn : x.size = n) (hy : s.slot u = some y) : ResOk P fn s (.tup [x, y]) := by
  intro cx a E hR
  subst hb; subst hn
  obtain ⟨cs, h1, h2⟩ := hR.slots t _ hx
  obtain ⟨c2, k1', e2⟩ := hR.slots u y hy
  cases h1 with
  | ptr k1 kb k2 =>
    obtain ⟨b', zs, e, q1, q2, q3, q4⟩ := hR.objs _ _ hob
    rw [k2] at q1; cases q1
    have hall : CellsAt E.w _ 0 zs := cells_at_block (sp := []) (by rw [List.append_nil]; exact q4)
    have hl := run_loadVar_at (P := P) (w := E.w) (by rw [q2.len]; exact hT) hall (fun ha => one_cell q2 ha)
    refine ⟨.tuple #[mkV x.isAgg zs, a.tmps.getD u undef], ?_, _, .tup (.cons q2 (.cons k1' .nil)), by rw [e2]; rfl⟩
    have e1 : a.tmps.getD t undef = .pointer (some ⟨_, 0, none⟩) := h2
    simp only [results, h, List.mapM_toArray, List.mapM_cons, List.mapM_nil, Sem.run_bind, Sem.run_map, e1, asAddr, Sem.run_pure, Result.andThen, hl]
    rfl
end

end Go.Val

