/- Bytes: of a variable's array, of an array in a row, of data; as texts; copied out of texts. -/
import Derived.Test.YtmibkdnmjjdelaaGreatLc
import Derived.Test.YtmibkdnmjjdelaaGreatLb
set_option linter.unusedSectionVars false
set_option linter.unusedVariables false
set_option linter.unusedSimpArgs false
namespace Go.Val
open Go.RowKit
variable [Drw]

theorem flat_mD {u : Nat} {κ β : Type} {ek : κ → D} {ev : β → D} {m : List (κ × β)} (hk : ∀ x, DFlat (ek x)) (hv : ∀ x, DFlat (ev x)) : OB.flat (.map u (mD ek ev m)) := by
  intro p hp
  obtain ⟨q, _, rfl⟩ := List.mem_map.1 hp
  exact ⟨hk q.1, hv q.2⟩

section
variable {P : Program} {N : Nat × Nat} {ops : Array Oper} {i : Nat} {s : St} {d : Nat} {ty : TypeId} {pos : String} {af : Array Edge} {g : Option (Nat × Bool)} {gs : List Nat}

theorem drs_u8 {I : Nat → Prop} {w : World} : ∀ l : List UInt8, DRs I w (l.map fun b => D.v (u8v b)) (l.map u8v)
  | [] => .nil
  | y :: l => DRs.cons (cs := [u8v y]) (.v rfl) (drs_u8 l)

/-- All of an array that lies in data, as a row. -/
theorem o_slAt {T e n : Nat} {x : Operand} {l : List UInt8} (ho : ops[i]? = some ⟨some d, .slice T x none none none, ty, pos, af, g⟩) (hd : Nat.ble (d + 1) N.1 = true) (hg : G ops s g gs)
    (hx : s.val x = some (.d (.at (.bs n l)))) (hT : arB P T = some (n, e)) (hS : szB P e = some 1) (h0 : 0 < n) :
    Valid P N ops i ⟨gs ++ opTmps x, [], some (d, some (.d (bytesD l))), []⟩ s :=
  valid_pure ho hd hg fun s' hs cx a E hR => by
    obtain ⟨cs, k1, k2⟩ := hR.val ((val_agree hs).trans hx)
    have hb := run_bounds (P := P) (w := E.w) (b := false) (len := n) (cap := n) (low := none) (high := none) (lv := 0) (hv := n) (Or.inl ⟨rfl, rfl⟩) (Or.inl ⟨rfl, rfl⟩) (Nat.zero_le _) (Nat.le_refl _)
    cases k1 with
    | d k1 =>
      cases k1 with
      | «at» q1 q2 q3 q4 =>
        rename_i b off cs
        cases q3 with
        | bs hl =>
          have e1 : a.eval x = .pointer (some ⟨b, off, none⟩) := k2
          refine ⟨.slice (some ⟨b, off, none⟩) n n, ?_, [.slice (some ⟨b, off, none⟩) n n], .d ?_, rfl⟩
          · simp only [execOp, Option.map_none]
            rw [e1]
            simp only [Instr.sliceAt, Sem.run_bind, run_underlying (arB_under hT), Result.andThen, Instr.sureAddr, Sem.run_pure, hb, run_sizeOf_of hS]
            rw [if_neg (by omega), add_addr]
            simp
          · have hlen : (l.map fun b => D.v (u8v b)).length = n := by simp [hl]
            have := DR.sl (I := E.I) (w := E.w) (es := 1) (rows := l.map fun b => D.v (u8v b)) (b := b) (off := off) (cap := n) (cs := l.map u8v) q1 q2 ?_ (fun r hr => by obtain ⟨y, _, rfl⟩ := List.mem_map.1 hr; rfl) (fun j v hj => q4 j v hj) (by omega)
            · rw [hlen] at this
              exact this
            · exact drs_u8 l

/-- Data that are bytes, as a text. -/
theorem o_cvD {S T e : Nat} {x : Operand} {l : List UInt8} (ho : ops[i]? = some ⟨some d, .convert S T x, ty, pos, af, g⟩) (hd : Nat.ble (d + 1) N.1 = true) (hg : G ops s g gs)
    (hx : s.val x = some (.d (bytesD l))) (hS : slB P S = some e) (he : P.underlying e = some (.int .u8)) (hT : P.underlying T = some .string) :
    Valid P N ops i ⟨gs ++ opTmps x, [], some (d, some (.d (.v (.string ⟨l.toArray⟩)))), []⟩ s :=
  valid_pure ho hd hg fun s' hs cx a E hR => by
    obtain ⟨cs, k1, k2⟩ := hR.val ((val_agree hs).trans hx)
    refine ⟨.string ⟨l.toArray⟩, ?_, .of_sc (E := E) rfl⟩
    cases k1 with
    | d k1 =>
      unfold bytesD at k1
      generalize hr : l.map (fun b => D.v (u8v b)) = rows at k1
      cases k1 with
      | sl0 =>
        have : l = [] := by simpa using hr
        subst this
        rename_i ad cap
        have e1 : a.eval x = .slice ad 0 cap := k2
        simp only [execOp]
        rw [e1, Sem.run_bind, run_convert_bytes_string E.w S T e ad 0 cap (slB_under hS) he hT]
        cases ad with
        | none => rfl
        | some ad =>
          have hl := run_loadCells_list (P := P) E.w ad [] (by simp)
          rw [run_bytesToString (P := P) E.w ad 0 cap [] (by simpa using hl)]
          rfl
      | sl hI hb h1 hs' hc hcap =>
        subst hr
        have hcs := drs_bytes_eq h1
        subst hcs
        rename_i b off cap
        have e1 : a.eval x = .slice (some ⟨b, off, none⟩) l.length cap := by
          have := k2
          simp only [List.length_map] at this
          exact this
        simp only [execOp]
        rw [e1, Sem.run_bind, run_convert_bytes_back E.w S T e ⟨b, off, none⟩ cap l (slB_under hS) he hT (fun j hj => by rw [add_addr]; exact hc j _ (by simp [hj]; rfl))]
        rfl

/-- All of an array that lies in a row's element, as a row. -/
theorem o_slE {T e n es o c k m : Nat} {rows : List D} {x : Operand} (ho : ops[i]? = some ⟨some d, .slice T x none none none, ty, pos, af, g⟩) (hd : Nat.ble (d + 1) N.1 = true) (hg : G ops s g gs)
    (hx : s.val x = some (.pel o c k m)) (hob : s.obj o = some (.arr c es rows)) (hT : arB P T = some (n, e)) (hS : szB P e = some 1) (h0 : 0 < n) :
    Valid P N ops i ⟨gs ++ opTmps x, [o], some (d, some (.osl o c (k * es + m) n)), []⟩ s :=
  valid_core ho rfl hd hg fun s' hs ho' cx a E _ hR => by
    have hob' : s'.obj o = some (.arr c es rows) := (ho' o (by simp)).trans hob
    obtain ⟨cs, k1, k2⟩ := hR.val ((val_agree hs).trans hx)
    have hb := run_bounds (P := P) (w := E.w) (b := false) (len := n) (cap := n) (low := none) (high := none) (lv := 0) (hv := n) (Or.inl ⟨rfl, rfl⟩) (Or.inl ⟨rfl, rfl⟩) (Nat.zero_le _) (Nat.le_refl _)
    cases k1 with
    | pel q1 q2 q3 q4 =>
      have hobE : E.obj o = some (.arr c es rows) := by rw [hR.obj]; exact hob'
      rw [hobE] at q1; cases q1
      obtain ⟨b, p1, p2⟩ := q3 rfl
      subst p2
      have e1 : a.eval x = .pointer (some ⟨b, k * es + m, none⟩) := k2
      refine ⟨.slice (some ⟨b, k * es + m, none⟩) n n, E, ?_, ⟨_, .osl hobE (Nat.le_refl _) (fun _ => .inr ⟨b, n, p1, rfl, Nat.le_refl _⟩) rfl, rfl⟩, r0_same hR⟩
      simp only [execOp, Option.map_none]
      rw [e1]
      simp only [Instr.sliceAt, Sem.run_bind, run_underlying (arB_under hT), Result.andThen, Instr.sureAddr, Sem.run_pure, hb, run_sizeOf_of hS]
      rw [if_neg (by omega), add_addr]
      simp

/-- Bytes of a row's element, as a text. -/
theorem o_cvO {S T e o c es k m n off : Nat} {α : Type} {enc : α → D} {xs : List α} {r : α} {l : List UInt8} {x : Operand} (p : List Nat) (ho : ops[i]? = some ⟨some d, .convert S T x, ty, pos, af, g⟩) (hd : Nat.ble (d + 1) N.1 = true) (hg : G ops s g gs)
    (hx : s.val x = some (.osl o c off n)) (hob : s.obj o = some (.arr c es (xs.map enc))) (hr : xs[k]? = some r) (hp : AV.get p (.d (enc r)) = some (.d (.bs n l), m)) (hoff : off = k * es + m) (hn : 0 < n)
    (hS : slB P S = some e) (he : P.underlying e = some (.int .u8)) (hT : P.underlying T = some .string) :
    Valid P N ops i ⟨gs ++ opTmps x, [o], some (d, some (.d (.v (.string ⟨l.toArray⟩)))), []⟩ s :=
  valid_core ho rfl hd hg fun s' hs ho' cx a E _ hR => by
    have hob' : s'.obj o = some (.arr c es (xs.map enc)) := (ho' o (by simp)).trans hob
    obtain ⟨cs, k1, k2⟩ := hR.val ((val_agree hs).trans hx)
    have hr' : (xs.map enc)[k]? = some (enc r) := by rw [List.getElem?_map, hr]; rfl
    cases k1 with
    | osl q1 q2 q3 q4 =>
      rw [hR.obj, hob'] at q1; cases q1
      rcases q3 rfl with ⟨_, _, _, h0⟩ | ⟨b, cc, p1, p2, p3⟩
      · omega
      · subst p2
        rcases hR.objs _ _ hob' with ⟨t1, t2, _⟩ | ⟨b', zs, sp, e', t1, t2, t3, t4, t5, t6⟩
        · rw [t2] at hr'; simp at hr'
        · rw [p1] at t1; cases t1
          obtain ⟨rc, u1, u2, u3⟩ := t2.row t3 hr'
          obtain ⟨c1, c2, c3, rfl, r2, r3⟩ := get_cr p (.d u1) hp
          have hall : CellsAt E.w b 0 zs := cells_at_block t4
          have h6 : CellsAt E.w b (k * es + m) c2 := by
            intro j v hj
            have := hall (k * es + (m + j)) v (u3 (m + j) v (by
              rw [List.getElem?_append_right (by omega), r2, show m + j - m = j from by omega, List.getElem?_append_left (List.getElem?_eq_some_iff.1 hj).1]; exact hj))
            rw [Nat.zero_add] at this
            rw [Nat.add_assoc]; exact this
          cases r3 with
          | d r3 =>
            cases r3 with
            | bs hl =>
              have e1 : a.eval x = .slice (some ⟨b, k * es + m, none⟩) l.length cc := by rw [hl, ← hoff]; exact k2
              refine ⟨_, E, ?_, .of_sc rfl, r0_same hR⟩
              simp only [execOp]
              rw [e1, Sem.run_bind, run_convert_bytes_back E.w S T e ⟨b, k * es + m, none⟩ cc l (slB_under hS) he hT (fun j hj => by rw [add_addr]; exact h6 j _ (by simp [hj]; rfl))]
              rfl

/-- A text's bytes over those of an array. -/
def cpB (l b : List UInt8) : List UInt8 := b.take l.length ++ l.drop b.length
theorem cpB_len (l b : List UInt8) : (cpB l b).length = l.length := by
  simp only [cpB, List.length_append, List.length_take, List.length_drop]
  omega

theorem run_copy_str {w : World} {dT sT ty elem : TypeId} {g o dLen dCap : Nat} {t : ByteArray} {cur : Array Value} {et : TypeId} (hu : slB P dT = some elem) (hs : szB P elem = some 1) (hg : w.heap[g]? = some (.cells cur et (0, 0))) (hfit : o + dLen ≤ cur.size) :
    (Builtin.copy_ #[dT, sT] ty #[.slice (some ⟨g, o, none⟩) dLen dCap, .string t]).run P w =
      .ok (goInt (Nat.min t.size dLen)) (w.setRow g (cur.toList.take o ++ (t.data.toList.take (Nat.min t.size dLen)).map u8v ++ cur.toList.drop (o + Nat.min t.size dLen)).toArray) := by
  have hsz : t.data.toList.length = t.size := rfl
  have hlen : ((t.data.toList.take (Nat.min t.size dLen)).map u8v).length = Nat.min t.size dLen := by
    rw [List.length_map, List.length_take, hsz]
    exact Nat.min_eq_left (Nat.min_le_left _ _)
  have hle : Nat.min t.size dLen ≤ dLen := Nat.min_le_right _ _
  have hst := run_storeCells_at P g o et ((t.data.toList.take (Nat.min t.size dLen)).map u8v) 0 cur w hg (by rw [hlen]; simp; omega) (fun v hv => by obtain ⟨b, _, rfl⟩ := List.mem_map.1 hv; rfl)
  rw [hlen] at hst
  simp only [Nat.add_zero] at hst
  have htk : List.take (Nat.min t.size dLen) (List.map (fun b : UInt8 => Value.int IntKind.u8 (b.toNat : Int)) t.data.toList) = (t.data.toList.take (Nat.min t.size dLen)).map u8v := by
    rw [← List.map_take]
    rfl
  simp only [Builtin.copy_, Sem.run_bind]
  simp [run_underlying (slB_under hu), Builtin.lenOf, Builtin.firstCells, run_sizeOf_of hs, Result.andThen]
  rw [htk, hst]
  simp [Result.andThen]

theorem o_cpS {T Ts e o m n cap : Nat} {x y : Operand} {l : List UInt8} {z : AV} {b : ByteArray} (p : List Nat) (ho : ops[i]? = some ⟨some d, .call ⟨.builtin .copy, #[x, y], #[T, Ts]⟩, ty, pos, af, g⟩) (hd : Nat.ble (d + 1) N.1 = true) (hg : G ops s g gs)
    (hx : s.val x = some (.bsl o m n cap)) (hy : s.val y = some (.d (.v (.string b)))) (hob : s.obj o = some (.box z)) (hp : AV.get p z = some (.d (.bs n l), m)) (hT : slB P T = some e) (hS : szB P e = some 1) :
    Valid P N ops i ⟨gs ++ (opTmps x ++ opTmps y), [o], some (d, some (.d (.v (.int .i64 ((Nat.min b.size n : Nat) : Int))))), [(o, .box (AV.put p z (.d (.bs n (cpB l b.data.toList)))))]⟩ s :=
  valid_core ho rfl hd hg fun s' hs ho' cx a E _ hR => by
    have hob' : s'.obj o = some (.box z) := (ho' o (by simp)).trans hob
    obtain ⟨xs, h1, h2⟩ := hR.val ((val_agree (mem_app hs).1).trans hx)
    have h3 := (hR.val ((val_agree (mem_app hs).2).trans hy)).sc
    cases h1 with
    | bsl q1 qb q2 =>
      rename_i bb zz
      obtain ⟨b', zs, et, r1, r2, r3, r4⟩ := hR.objs _ _ hob'
      rw [q2] at r1; cases r1
      have hgl : ∃ ln : l.length = n, True := by
        obtain ⟨_, c2, _, _, _, t3⟩ := get_cr p r2 hp
        cases t3 with
        | d t3 => cases t3 with
          | bs hl => exact ⟨hl, trivial⟩
      obtain ⟨hln, _⟩ := hgl
      have hy' : CR E (.d (.bs n (cpB l b.data.toList))) ((cpB l b.data.toList).map u8v) := .d (.bs (by rw [cpB_len]; exact hln))
      obtain ⟨c1, c2, c3, rfl, t2, t3, t4⟩ := put_cr hy' p r2 hp
      have hc2 : c2 = l.map u8v := by
        cases t3 with
        | d t3 => cases t3 with
          | bs hl => rfl
      subst hc2
      have hrun := run_copy_str (P := P) (w := E.w) (dT := T) (sT := Ts) (ty := ty) (g := bb) (o := m) (dLen := n) (dCap := cap) (t := b) hT hS r4 (by simp; omega)
      have hsz : b.data.toList.length = b.size := rfl
      have harr : ((c1 ++ (l.map u8v ++ c3)).toArray.toList.take m ++ (b.data.toList.take (Nat.min b.size n)).map u8v ++ (c1 ++ (l.map u8v ++ c3)).toArray.toList.drop (m + Nat.min b.size n)).toArray = (c1 ++ ((cpB l b.data.toList).map u8v ++ c3)).toArray := by
        congr 1
        simp only []
        rw [← t2, List.take_left, ← List.drop_drop, List.drop_left, List.append_assoc]
        congr 1
        have hmin : Nat.min b.size n ≤ (l.map u8v).length := by rw [List.length_map, hln]; exact Nat.min_le_right _ _
        rw [List.drop_append_of_le_length hmin, ← List.append_assoc]
        congr 1
        unfold cpB
        rw [List.map_append, hln]
        by_cases hc : b.size ≤ n
        · have e1 : Nat.min b.size n = b.size := Nat.min_eq_left hc
          rw [e1, ← hsz, List.take_length, List.take_of_length_le (by omega), List.map_drop]
        · have e1 : Nat.min b.size n = n := Nat.min_eq_right (by omega)
          rw [e1, hsz, ← List.map_drop, List.drop_eq_nil_of_le (as := l) (by omega), List.drop_eq_nil_of_le (as := l) (by omega)]
      rw [harr] at hrun
      have hrow : (E.w.setRow bb (c1 ++ ((cpB l b.data.toList).map u8v ++ c3)).toArray).heap[bb]? = some (.cells (c1 ++ ((cpB l b.data.toList).map u8v ++ c3)).toArray et (0, 0)) := setRow_heap _ _ _ _ _ _ r4
      refine ⟨goInt (Nat.min b.size n), E.turn o (.box (AV.put p z (.d (.bs n (cpB l b.data.toList))))) (some bb) 0 [] (E.w.setRow bb (c1 ++ ((cpB l b.data.toList).map u8v ++ c3)).toArray), ?_, .of_sc rfl, ?_⟩
      · have e0 : a.eval x = .slice (some ⟨bb, m, none⟩) n cap := h2
        have e1 : a.eval y = .string b := h3
        simp only [execOp, resolve, Sem.run_bind, Sem.run_pure, Result.andThen, invoke, builtin]
        simp only [List.map_toArray, List.map_cons, List.map_nil, e0, e1, hrun]
        rfl
      · refine hR.turn (o := o) (ob := .box z) (ob' := .box (AV.put p z (.d (.bs n (cpB l b.data.toList))))) (b := some bb) (cap := 0) (births := []) (w := E.w.setRow bb (c1 ++ ((cpB l b.data.toList).map u8v ++ c3)).toArray) hob' (by simp) (fun k hk => by cases hk; exact .inl q2) (fun k hk hne => setRow_other _ _ _ _ (fun e => hne (by rw [e]; exact q2))) rfl rfl rfl ?_ (fun he => ?_) (fun _ _ e => by cases e)
        · simp [OExt, Env.turn, Env.new, q2]
        · refine ⟨bb, _, et, by simp [Env.turn, Env.new], t4.ext he, fun u hu => ?_, hrow⟩
          rcases List.mem_append.1 hu with h' | h'
          · exact r3 u (by simp [h'])
          · rcases List.mem_append.1 h' with h'' | h''
            · obtain ⟨q, _, rfl⟩ := List.mem_map.1 h''; rfl
            · exact r3 u (by simp [h''])

/-- A part of an element of a row of one's own, written over. -/
theorem o_stEP {T es n m : Nat} {x v : Operand} {o c k : Nat} {rows : List D} {y r z y0 : D} (p : List Nat) (ho : ops[i]? = some ⟨none, .store T x v, ty, pos, af, g⟩) (hg : G ops s g gs)
    (hx : s.val x = some (.pel o c k m)) (hv : s.val v = some (.d z)) (hob : s.obj o = some (.arr c es rows)) (hr : rows[k]? = some r) (hp : AV.get p (.d r) = some (.d y0, m)) (hput : AV.put p (.d r) (.d z) = .d y)
    (hT : szB P T = some n) (hn : z.size = n) (hn' : y0.size = n) (hy : y.size = es) :
    Valid P N ops i ⟨gs ++ (opTmps x ++ opTmps v), [o], none, [(o, .arr c es (rows.set k y))]⟩ s :=
  valid_skip ho rfl hg fun s' hs ho' cx a E _ hR => by
    have hob' : s'.obj o = some (.arr c es rows) := (ho' o (by simp)).trans hob
    obtain ⟨xs, h1, h2⟩ := hR.val ((val_agree (mem_app hs).1).trans hx)
    obtain ⟨c2', k1, k2⟩ := hR.val ((val_agree (mem_app hs).2).trans hv)
    have hk : k < rows.length := (List.getElem?_eq_some_iff.1 hr).1
    cases k1 with
    | d k1 =>
    cases h1 with
    | pel q1 q2 q3 q4 =>
      rw [hR.obj, hob'] at q1; cases q1
      obtain ⟨b, hb, hvv⟩ := q3 rfl
      subst hvv
      rcases hR.objs _ _ hob' with ⟨p1, p2, _⟩ | ⟨b', cs, sp, e, p1, p2, p3, p4, p5, p6⟩
      · rw [p2] at hk; simp at hk
      · rw [hb] at p1; cases p1
        have hcut : rows = rows.take k ++ (r :: rows.drop (k + 1)) := cut_at hr
        have p2' := p2
        rw [hcut] at p2'
        obtain ⟨c1, c23, rfl, t1, t23⟩ := DRs.split _ p2'
        cases t23 with
        | cons t2 t3 =>
          rename_i c2 c3
          have hrs : r.size = es := p3 r (List.mem_of_getElem? hr)
          obtain ⟨e1, e2, e3, rfl, u1, u2, u3⟩ := put_cr (E := E) (.d k1) p (.d t2) hp
          rw [hput] at u3
          cases u2 with
          | d u2 =>
          cases u3 with
          | d u3 =>
          have l1 : c1.length = k * es := by
            rw [t1.len, sizes_same (fun x hx => p3 x (List.mem_of_mem_take hx)), List.length_take, Nat.min_eq_left (Nat.le_of_lt hk)]
          have l2 : (e1 ++ (e2 ++ e3)).length = es := t2.len.trans hrs
          have l3 : e2.length = n := u2.len.trans hn'
          have l3' : c2'.length = n := k1.len.trans hn
          have l2' : (e1 ++ (c2' ++ e3)).length = es := u3.len.trans hy
          have hblk : E.w.heap[b]? = some (.cells ((c1 ++ e1) ++ (e2 ++ (e3 ++ (c3 ++ sp)))).toArray e (0, 0)) := by rw [p4]; simp
          have hrun := run_storeVar (P := P) (T := T) (b := b) (n := k * es + m) (agg := z.isAgg) (c1 := c1 ++ e1) (c2 := e2) (c3 := e3 ++ (c3 ++ sp)) (c2' := c2') (by rw [l3']; exact hT) (l3'.trans l3.symm) k1.ones (fun ha => one_cell (E := E) (.d k1) ha) (by rw [List.length_append, l1, u1]) hblk
          have hrow : (E.w.setRow b ((c1 ++ e1) ++ (c2' ++ (e3 ++ (c3 ++ sp)))).toArray).heap[b]? = some (.cells ((c1 ++ e1) ++ (c2' ++ (e3 ++ (c3 ++ sp)))).toArray e (0, 0)) := setRow_heap _ _ _ _ _ _ hblk
          have hset : rows.set k y = rows.take k ++ (y :: rows.drop (k + 1)) := set_cut rows k r y hr
          refine ⟨.skip, E.turn o (.arr c es (rows.set k y)) (some b) (E.γ o) [] (E.w.setRow b ((c1 ++ e1) ++ (c2' ++ (e3 ++ (c3 ++ sp)))).toArray), ?_, .inl rfl, ?_⟩
          · simp only [execOp, Instr.storeAt]
            have e0 : a.eval x = .pointer (some ⟨b, k * es + m, none⟩) := h2
            rw [e0, k2]
            simp only [Instr.sureAddr, Sem.run_bind, Sem.run_pure, Result.andThen]
            have : (storeVar T ⟨b, k * es + m, none⟩ (mkV (AV.d z).isAgg c2')).run P E.w = _ := hrun
            rw [this]
            rfl
          · refine hR.turn hob' (by simp) (fun q hq => by cases hq; exact .inl hb) (fun q hq hne => setRow_other _ _ _ _ (fun e => hne (by rw [e]; exact hb))) rfl rfl rfl ?_ (fun he => ?_) (fun _ _ e => by cases e)
            · simp [OExt, Env.turn, Env.new, hb]
            · refine .inr ⟨b, c1 ++ ((e1 ++ (c2' ++ e3)) ++ c3), sp, e, by simp [Env.turn, Env.new], ?_, ?_, by simp only [Env.turn, Env.new]; rw [hrow]; simp, ?_, ?_⟩
              · have := (t1.mono he.hz he.imm).append (.cons (u3.mono he.hz he.imm) (t3.mono he.hz he.imm))
                rw [← hset] at this
                exact this
              · intro q hq
                rcases List.mem_or_eq_of_mem_set hq with h | h
                · exact p3 q h
                · rw [h]; exact hy
              · rw [← List.append_assoc] at p5
                simp only [List.length_append] at p5 l2 l2' ⊢
                simp only [Env.turn, Env.new, if_true]
                omega
              · simp only [List.length_set, Env.turn, Env.new, if_true]; exact p6

theorem o_stEPM {T es n m : Nat} {α : Type} {enc : α → D} {xs : List α} {x v : Operand} {o c k : Nat} {y r : α} {z y0 : D} (p : List Nat) (ho : ops[i]? = some ⟨none, .store T x v, ty, pos, af, g⟩) (hg : G ops s g gs)
    (hx : s.val x = some (.pel o c k m)) (hv : s.val v = some (.d z)) (hob : s.obj o = some (.arr c es (xs.map enc))) (hr : xs[k]? = some r) (hp : AV.get p (.d (enc r)) = some (.d y0, m)) (hput : AV.put p (.d (enc r)) (.d z) = .d (enc y))
    (hT : szB P T = some n) (hn : z.size = n) (hn' : y0.size = n) (hy : (enc y).size = es) :
    Valid P N ops i ⟨gs ++ (opTmps x ++ opTmps v), [o], none, [(o, .arr c es ((xs.set k y).map enc))]⟩ s := by
  rw [List.map_set]
  exact o_stEP (r := enc r) p ho hg hx hv hob (by simp [hr]) hp hput hT hn hn' hy

end
end Go.Val

