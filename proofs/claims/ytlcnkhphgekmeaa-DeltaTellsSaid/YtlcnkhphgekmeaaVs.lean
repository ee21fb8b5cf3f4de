/- Walks over maps: the range, the next entry (whichever), the entry where it stands. -/
import Derived.Test.YtlcnkhphgekmeaaVr
import Derived.Maps.RangeRun
set_option linter.unusedSectionVars false
set_option linter.unusedVariables false
set_option linter.unusedSimpArgs false
namespace Go.Val
open Go.RowKit
variable [Drw]
open Go.ChangeMaps (setBlock)

theorem zip_fst {α β : Type} : ∀ (a : List α) (b : List β), a.length = b.length → (a.zip b).map (·.1) = a
  | [], [], _ => rfl
  | x :: a, y :: b, h => by
    simp only [List.zip_cons_cons, List.map_cons, List.cons.injEq, true_and]
    exact zip_fst a b (by simpa using h)
  | [], _ :: _, h => by simp at h
  | _ :: _, [], h => by simp at h

section
variable {P : Program} {N : Nat × Nat} {ops : Array Oper} {i : Nat} {s : St} {d : Nat} {ty : TypeId} {pos : String} {af : Array Edge} {g : Option (Nat × Bool)} {gs : List Nat}

theorem o_range {T kt vt : TypeId} {x : Operand} {m ver : Nat} {es : List (D × D)} (o : Nat) (ho : ops[i]? = some ⟨some d, .range T x, ty, pos, af, g⟩) (hd : Nat.ble (d + 1) N.1 = true) (hg : G ops s g gs)
    (hx : s.val x = some (.map m)) (hm : s.obj m = some (.map ver es)) (hT : mpB P T = some (kt, vt)) (hn : s.obj o = none) :
    Valid P N ops i ⟨gs ++ opTmps x, [o, m], some (d, some (.it o)), [(o, .iter m ver es none)]⟩ s :=
  valid_core ho rfl hd hg fun s' hs ho' cx a E _ hR => by
    have hno : s'.obj o = none := (ho' o (by simp)).trans hn
    have hm' : s'.obj m = some (.map ver es) := (ho' m (by simp)).trans hm
    have hne : m ≠ o := fun e => by rw [e, hno] at hm'; cases hm'
    obtain ⟨cs, h1, h2⟩ := hR.val ((val_agree hs).trans hx)
    cases h1 with
    | @map _ _ b _ h3 h4 =>
      obtain ⟨b', ents, clock, q1, q2, q3, q4, q5, q6, q7, q8⟩ := hR.objs _ _ hm'
      rw [h4] at q1; cases q1
      refine ⟨.pointer (some ⟨E.w.heap.size, 0, none⟩), E.new o (.iter m ver es none) (some E.w.heap.size) 0 [] (E.w.alloc (.mapIter (some b) clock #[] clock)), ?_, ?_, ?_⟩
      · have : a.eval x = .map (some b) := h2
        simp only [execOp, Instr.range, this, Sem.run_bind, run_underlying (mpB_under hT), Result.andThen, run_getObj q2, Sem.run_pure]
        rfl
      · exact ⟨_, .it (m := m) (ver := ver) (l := es) (cu := none) (by simp [Env.new, upd_eq]) (by simp [Env.new]), rfl⟩
      · refine hR.new hno (by simp) (fun k hk => by cases hk; exact Nat.le_refl _) (fun k hk => Below.heap_alloc _ _ _ hk) (hR.keeps.grow _) ?_
        have hEm : E.obj m = some (.map ver es) := by rw [hR.obj]; exact hm'
        refine ⟨E.w.heap.size, clock, #[], clock, by simp [Env.new], ?_, fun es' hes => ?_, ver, es, by simp only [Env.new, upd_eq, hne, if_false]; exact hEm, Nat.le_refl _⟩
        · simp only [Env.new, hne, if_false, h4]
          exact alloc_new _ _
        · simp only [Env.new, upd_eq, hne, if_false] at hes ⊢
          rw [hEm] at hes
          cases hes
          refine ⟨?_, q7, Nat.le_refl _, Nat.le_of_eq q8, fun kv e => by cases e⟩
          have e1 : (es.zip (E.δ m)).filter (fun x => !(#[] : Array Nat).contains x.2) = es.zip (E.δ m) := by simp
          rw [e1, zip_fst]
          rw [q5]; simp [q3]

theorem filter_push {α : Type} (seen : Array Nat) (n : Nat) : ∀ (Z : List (α × Nat)), (∀ z ∈ Z, z.2 ≠ n) → Z.filter (fun x => !(seen.push n).contains x.2) = Z.filter (fun x => !seen.contains x.2) := by
  intro Z h
  apply List.filter_congr
  intro z hz
  have := h z hz
  simp [Array.contains_push, this]

/-- The next entry, whichever it is, or none where nothing is left. -/
theorem cw_next {id tq d1 d2 o m ver : Nat} {left : List (D × D)} {cu : Option (D × D)} {es : List (D × D)} {t1 t2 : TypeId} {p1 p2 : String} {af1 af2 : Array Edge} {Q : Exit → St → Prop}
    (hd1 : Nat.ble (d1 + 1) N.1 = true) (hd2 : Nat.ble (d2 + 1) N.1 = true) (hx : s.slot tq = some (.it o)) (ho : s.obj o = some (.iter m ver left cu)) (hm : s.obj m = some (.map ver es))
    (hdone : left = [] → Q .normal ⟨upd (upd s.slot d1 (some (.tup [.d (.v (.bool false))]))) d2 (some (.d (.v (.bool false)))), s.obj⟩)
    (hmore : ∀ l1 kv l2, left = l1 ++ kv :: l2 → Q .normal ⟨upd (upd s.slot d1 (some (.tup [.d (.v (.bool true)), .d kv.1, .d kv.2]))) d2 (some (.d (.v (.bool true)))), upd s.obj o (some (.iter m ver (l1 ++ l2) (some kv)))⟩) :
    CWp P N (.region id #[⟨some d1, .next (.tmp tq) false, t1, p1, af1, none⟩, ⟨some d2, .extract (.tmp d1) 0, t2, p2, af2, none⟩] false) Q s := by
  intro cx a w hn hR
  obtain ⟨E, rfl, hR⟩ := hR
  refine wp_region ?_
  rw [show List.range (#[(⟨some d1, .next (.tmp tq) false, t1, p1, af1, none⟩ : Oper), ⟨some d2, .extract (.tmp d1) 0, t2, p2, af2, none⟩] : Array Oper).size = [0, 1] from rfl]
  rw [wpOps_cons]
  generalize hops : (#[(⟨some d1, .next (.tmp tq) false, t1, p1, af1, none⟩ : Oper), ⟨some d2, .extract (.tmp d1) 0, t2, p2, af2, none⟩] : Array Oper) = ops
  have hop0 : ops[0]? = some ⟨some d1, .next (.tmp tq) false, t1, p1, af1, none⟩ := by rw [← hops]; rfl
  have hop1 : ops[1]? = some ⟨some d2, .extract (.tmp d1) 0, t2, p2, af2, none⟩ := by rw [← hops]; rfl
  have hw : Region.wanted (⟨some d1, .next (.tmp tq) false, t1, p1, af1, none⟩ : Oper) (yielded ops a.tmps) = true := (G.no (ops := ops) (s := s)).wanted (fun _ h => by cases h) hR
  have hb1 : d1 < cx.nk.1 := by rw [hn]; exact Nat.le_of_ble_eq_true hd1
  unfold wpOp
  simp only [hop0]
  rw [if_pos hw]
  left
  unfold Oper.wp
  -- what the walk's block holds
  have hit := hR.val (o := .tmp tq) hx
  obtain ⟨_, c1, c2⟩ := hit
  cases c1 with
  | @it _ m' ver' r l' cu' e1 e2 =>
    rw [hR.obj, ho] at e1
    cases e1
    obtain ⟨r', since, seen, last, q1, q2, q3, _⟩ := hR.objs _ _ ho
    rw [e2] at q1; cases q1
    obtain ⟨b, ents, clock, m1, m2, m3, m4, m5, m6, m7, m8⟩ := hR.objs _ _ hm
    obtain ⟨q4, q5, q6, q7, _⟩ := q3 es (by rw [hR.obj]; exact hm)
    rw [m1] at q2
    have hev : a.eval (.tmp tq) = .pointer (some ⟨r, 0, none⟩) := c2
    have hold : ∀ x ∈ ents.toList, x.born < since := fun x hx' => q5 x.born (by rw [m5]; exact List.mem_map.2 ⟨x, hx', rfl⟩)
    have hrlt := (Array.getElem?_eq_some_iff.1 q2).1
    have hlen : es.length = (E.δ m).length := by rw [m5]; simp [m3]
    rcases run_next_at (P := P) E.w t1 r b since last seen ents clock q2 m2 hold q6 with ⟨h0, hrun⟩ | ⟨e, he, w1, hal, hrun⟩
    · -- nothing is left
      have hl : left = [] := by
        rw [q4, List.map_eq_nil_iff, List.filter_eq_nil_iff]
        rintro ⟨p, n⟩ hz
        have hn' : n ∈ E.δ m := (List.of_mem_zip hz).2
        rw [m5] at hn'
        obtain ⟨ent, g1, rfl⟩ := List.mem_map.1 hn'
        simp only [Bool.not_eq_true, Bool.not_eq_false']
        have : ent ∉ (leftOf ents seen).toList := by
          have := Array.eq_empty_of_size_eq_zero h0
          rw [this]; simp
        simp only [leftOf, Array.toList_filter, List.mem_filter, not_and] at this
        have := this g1
        simpa using this
      have hex : (execOp a.eval (⟨some d1, .next (.tmp tq) false, t1, p1, af1, none⟩ : Oper)).run P E.w = .ok (.value (.tuple #[.bool false])) E.w := by
        simp [execOp, hev, hrun, Result.andThen]
      rw [hex]
      simp only [Oper.upon]
      have hR1 := hR.put (d := d1) (x := .tup [.d (.v (.bool false))]) (v := .tuple #[.bool false]) ⟨_, .tup (.cons (.d (.v rfl)) .nil), rfl⟩ hb1
      rw [wpOps_cons]
      refine wpOp_of_valid (i := 1) hn (o_ext hop1 hd2 .no (l := [.d (.v (.bool false))]) (y := .d (.v (.bool false))) (by simp [St.val, St.put, upd_eq]) rfl) ⟨E, rfl, hR1⟩ (fun a' w' hR' => ?_)
      exact ⟨_, hdone hl, hR'⟩
    · -- an entry
      have he' : e ∈ ents.toList ∧ seen.contains e.born = false := by
        simp only [leftOf, Array.toList_filter, List.mem_filter] at he
        exact ⟨he.1, by simpa using he.2⟩
      obtain ⟨j, hj⟩ := List.mem_iff_getElem?.1 he'.1
      have hjl : j < es.length := by
        have := (List.getElem?_eq_some_iff.1 hj).1
        simpa [m3] using this
      obtain ⟨kv, hkv⟩ : ∃ kv, es[j]? = some kv := ⟨es[j], by simp [hjl]⟩
      obtain ⟨k, x⟩ := kv
      obtain ⟨ck, cx', d1', d2', d3, d4⟩ := m4 j k x e hkv (by simpa using hj)
      have hδj : (E.δ m)[j]? = some e.born := by rw [m5]; simp [hj]
      have hZ : (es.zip (E.δ m))[j]? = some ((k, x), e.born) := by rw [List.getElem?_zip_eq_some]; exact ⟨hkv, hδj⟩
      have hcut := cut_at hZ
      generalize hZ1 : (es.zip (E.δ m)).take j = Z1 at hcut
      generalize hZ2 : (es.zip (E.δ m)).drop (j + 1) = Z2 at hcut
      have hnd : ((es.zip (E.δ m)).map (·.2)).Nodup := by
        rw [List.map_snd_zip (by omega)]
        exact m6
      rw [hcut] at hnd
      simp only [List.map_append, List.map_cons, List.nodup_append, List.nodup_cons] at hnd
      have n1 : ∀ z ∈ Z1, z.2 ≠ e.born := fun z hz h => hnd.2.2 z.2 (List.mem_map.2 ⟨z, hz, rfl⟩) e.born (by simp) h
      have n2 : ∀ z ∈ Z2, z.2 ≠ e.born := fun z hz h => hnd.2.1.1 (by rw [← h]; exact List.mem_map.2 ⟨z, hz, rfl⟩)
      have hl : left = (Z1.filter fun x => !seen.contains x.2).map (·.1) ++ (k, x) :: (Z2.filter fun x => !seen.contains x.2).map (·.1) := by
        rw [q4, hcut, List.filter_append, List.filter_cons, if_pos (by simp only [he'.2]; rfl), List.map_append, List.map_cons]
      have hnew : ((es.zip (E.δ m)).filter fun x => !(seen.push e.born).contains x.2).map (·.1) = (Z1.filter fun x => !seen.contains x.2).map (·.1) ++ (Z2.filter fun x => !seen.contains x.2).map (·.1) := by
        rw [hcut, List.filter_append, List.filter_cons, filter_push _ _ _ n1, filter_push _ _ _ n2]
        simp [Array.contains_push]
      have hq := hmore _ _ _ hl
      generalize (Z1.filter fun x => !seen.contains x.2).map (·.1) = l1 at hl hnew hq
      generalize (Z2.filter fun x => !seen.contains x.2).map (·.1) = l2 at hl hnew hq
      have hex : (execOp a.eval (⟨some d1, .next (.tmp tq) false, t1, p1, af1, none⟩ : Oper)).run P E.w = .ok (.value (.tuple #[.bool true, e.key, e.val])) (setBlock w1 r (.mapIter (some b) since (seen.push e.born) clock)) := by
        simp [execOp, hev, hrun, Result.andThen]
      rw [hex]
      simp only [Oper.upon]
      have hR1 := hR.put (d := d1) (x := .tup [.d (.v (.bool true)), .d k, .d x]) (v := .tuple #[.bool true, e.key, e.val])
        ⟨_, .tup (xs := [.bool true, e.key, e.val]) (by rw [d3, d4]; exact .cons (.d (.v rfl)) (.cons (.d d1') (.cons (.d d2') .nil))), rfl⟩ hb1
      have hwh : w1.heap = E.w.heap := by rcases hal with rfl | rfl <;> rfl
      have hne : m ≠ o := fun h => by rw [h, ho] at hm; cases hm
      let w2 := setBlock w1 r (.mapIter (some b) since (seen.push e.born) clock)
      have hother : ∀ k, k ≠ r → w2.heap[k]? = E.w.heap[k]? := fun k hk => by
        simp only [w2, setBlock, hwh]
        rw [Array.getElem?_setIfInBounds_ne (Ne.symm hk)]
      have hR2 := hR1.turn (o := o) (ob := .iter m ver left cu) (ob' := .iter m ver (l1 ++ l2) (some (k, x))) (b := some r) (cap := E.γ o) (births := E.δ o) (w := w2) ho (by simp [w2, setBlock, hwh]) (fun k hk => by cases hk; exact .inl e2)
        (fun k hk hne' => hother k (fun h => hne' (by rw [h]; exact e2))) (by rcases hal with rfl | rfl <;> rfl) (by rcases hal with rfl | rfl <;> rfl) (by rcases hal with rfl | rfl <;> rfl)
        (by simp [OExt, Env.turn, Env.new, e2]) (fun _ => by
          have hEm : E.obj m = some (.map ver es) := by rw [hR.obj]; exact hm
          refine ⟨r, since, seen.push e.born, clock, by simp [Env.turn, Env.new], ?_, fun es' hes => ?_, ver, es, by simp only [Env.turn, Env.new, upd_eq, hne, if_false]; exact hEm, Nat.le_refl _⟩
          · simp only [Env.turn, Env.new, hne, if_false, m1]
            simp only [w2, setBlock, hwh]
            simp [hrlt]
          · simp only [Env.turn, Env.new, upd_eq, hne, if_false] at hes ⊢
            rw [hEm] at hes
            cases hes
            refine ⟨hnew.symm, q5, by rw [m8]; exact q7, q7, fun kv' hkv' => ?_⟩
            cases hkv'
            exact ⟨m8, j, e.born, hkv, hδj, by simp⟩) (fun v es' h => by cases h) (by
          rcases hal with h | h
          · show E.w.drawn ≤ w1.drawn
            rw [h]; exact Nat.le_refl _
          · show E.w.drawn ≤ w1.drawn
            rw [h]; exact Nat.le_succ _)
      rw [wpOps_cons]
      refine wpOp_of_valid (i := 1) hn (o_ext hop1 hd2 .no (l := [.d (.v (.bool true)), .d k, .d x]) (y := .d (.v (.bool true))) (by simp [St.val, St.put, St.set, upd_eq]) rfl) ⟨_, rfl, hR2⟩ (fun a' w' hR' => ?_)
      exact ⟨_, hq, hR'⟩

/-- The entry where the walk stands. -/
theorem o_entry {x : Operand} {o m ver : Nat} {left es : List (D × D)} {kv : D × D} (ho : ops[i]? = some ⟨some d, .entry x, ty, pos, af, g⟩) (hd : Nat.ble (d + 1) N.1 = true) (hg : G ops s g gs)
    (hx : s.val x = some (.it o)) (hob : s.obj o = some (.iter m ver left (some kv))) (hm : s.obj m = some (.map ver es)) :
    Valid P N ops i ⟨gs ++ opTmps x, [o, m], some (d, some (.tup [.d kv.1, .d kv.2])), []⟩ s :=
  valid_core ho rfl hd hg fun s' hs ho' cx a E _ hR => by
    have hob' := (ho' o (by simp)).trans hob
    have hm' := (ho' m (by simp)).trans hm
    obtain ⟨_, c1, c2⟩ := hR.val ((val_agree hs).trans hx)
    cases c1 with
    | @it _ m' ver' r l' cu' e1 e2 =>
      rw [hR.obj, hob'] at e1
      cases e1
      obtain ⟨r', since, seen, last, q1, q2, q3, _⟩ := hR.objs _ _ hob'
      rw [e2] at q1; cases q1
      obtain ⟨b, ents, clock, m1, m2, m3, m4, m5, m6, m7, m8⟩ := hR.objs _ _ hm'
      obtain ⟨_, _, _, _, q4⟩ := q3 es (by rw [hR.obj]; exact hm')
      obtain ⟨q5, j, n, q6, q7, q8⟩ := q4 kv rfl
      rw [m1] at q2
      have hev : a.eval x = .pointer (some ⟨r, 0, none⟩) := c2
      rw [m5, List.getElem?_map, Option.map_eq_some_iff] at q7
      obtain ⟨e, q7, rfl⟩ := q7
      have hf : ents.find? (·.born == e.born) = some e := by
        rw [← Array.find?_toList]
        exact find_born e ents.toList (by rw [← m5]; exact m6) (List.mem_of_getElem? q7)
      obtain ⟨ck, cx', d1', d2', d3, d4⟩ := m4 j kv.1 kv.2 e q6 (by simpa using q7)
      refine ⟨.tuple #[e.key, e.val], E, ?_, ?_, r0_same hR⟩
      · have : (Instr.entry (.pointer (some ⟨r, 0, none⟩))).run P E.w = .ok (.tuple #[e.key, e.val]) E.w := by
          simp [Instr.entry, getObj, Sem.run_bind, Sem.run, q2, m2, Result.andThen, q8, q5, m8, hf]
        simp [execOp, hev, this, Result.andThen]
      · exact ⟨_, .tup (xs := [e.key, e.val]) (by rw [d3, d4]; exact .cons (.d d1') (.cons (.d d2') .nil)), rfl⟩

/-- What the next entry makes of a state. -/
def nextD (d1 d2 : Nat) (s : St) : St := ⟨upd (upd s.slot d1 (some (.tup [.d (.v (.bool false))]))) d2 (some (.d (.v (.bool false)))), s.obj⟩
def nextE (d1 d2 o m ver : Nat) (kv : D × D) (left : List (D × D)) (s : St) : St :=
  ⟨upd (upd s.slot d1 (some (.tup [.d (.v (.bool true)), .d kv.1, .d kv.2]))) d2 (some (.d (.v (.bool true)))), upd s.obj o (some (.iter m ver left (some kv)))⟩

/-- What comes out of a walk in whatever order, where that is one and the same. -/
noncomputable def forOrd {κ β R : Type} (M : List (κ × β)) (k : List (κ × β) → Option R) : Option R :=
  have := Classical.propDecidable (∃ r, ∀ l : List (κ × β), l.Perm M → k l = some r)
  if h : ∃ r, ∀ l : List (κ × β), l.Perm M → k l = some r then some (Classical.choose h) else none
theorem forOrd_some {κ β R : Type} {M : List (κ × β)} {k : List (κ × β) → Option R} {r : R} (h : forOrd M k = some r) : ∀ l : List (κ × β), l.Perm M → k l = some r := by
  unfold forOrd at h
  simp only at h
  split at h
  · rename_i hx
    intro l hl
    rw [Classical.choose_spec hx l hl]
    exact h
  · cases h
theorem forOrd_eq {κ β R : Type} {M : List (κ × β)} {k : List (κ × β) → Option R} {r : R} (h : ∀ l : List (κ × β), l.Perm M → k l = some r) : forOrd M k = some r := by
  have hx : ∃ r, ∀ l : List (κ × β), l.Perm M → k l = some r := ⟨r, h⟩
  unfold forOrd
  simp only [hx, dif_pos]
  rw [← Classical.choose_spec hx M (.refl _), h M (.refl _)]
theorem bind_ex {α β : Type} {e : Option α} {f : α → Option β} {r : β} (h : e.bind f = some r) : ∃ v, e = some v ∧ f v = some r := by
  cases e with
  | none => cases h
  | some v => exact ⟨v, rfl, h⟩

/-- A walk over a map, in whatever order: each round by its step. -/
theorem cw_mapRange {V κ β : Type} {ek : κ → D} {ev : β → D} {body : Code} {id rid tq d1 d2 o m ver : Nat} {es : List (D × D)} {t1 t2 : TypeId} {p1 p2 : String} {af1 af2 : Array Edge} {Q : Exit → St → Prop} {M : List (κ × β)} {step : V → κ × β → Option V} {v0 : V} {R : V → Prop}
    (h : ∀ l : List (κ × β), l.Perm M → ∃ v, l.foldlM step v0 = some v ∧ R v) (st : V → List (κ × β) → St) (stJ : V → St)
    (hd1 : Nat.ble (d1 + 1) N.1 = true) (hd2 : Nat.ble (d2 + 1) N.1 = true) (h0 : Weak N s (st v0 M))
    (hst : ∀ v l, (st v l).slot tq = some (.it o) ∧ (st v l).obj o = some (.iter m ver (mD ek ev l) none) ∧ (st v l).obj m = some (.map ver es))
    (hdone : ∀ v, Weak N (nextD d1 d2 (st v [])) (stJ v)) (hy : ∀ v, R v → Q .normal (stJ v))
    (round : ∀ (Q' : Exit → St → Prop) v kv l l' v', step v kv = some v' → CWp P N body (thenS (fun s' => Weak N s' (st v' l)) Q') (nextE d1 d2 o m ver (ek kv.1, ev kv.2) (mD ek ev l) (st v l'))) :
    CWp P N (.block id (.loop (.seq (.region rid #[⟨some d1, .next (.tmp tq) false, t1, p1, af1, none⟩, ⟨some d2, .extract (.tmp d1) 0, t2, p2, af2, none⟩] false) (.seq (.cond (.tmp d2) .skip (.exit id)) body)))) Q s := by
  refine cw_tail stJ R hy (cw_block ?_)
  refine cw_loop (I := fun n s => ∃ v pre l, Weak N s (st v l) ∧ n = l.length ∧ (pre ++ l).Perm M ∧ pre.foldlM step v0 = some v) (n := M.length) ⟨v0, [], M, h0, rfl, .refl _, rfl⟩ ?_
  rintro n s ⟨v, pre, l, hwk, rfl, hp, hf⟩
  refine cw_weak hwk ?_
  obtain ⟨s1, s2, s3⟩ := hst v l
  refine cw_seq (cw_next hd1 hd2 s1 s2 s3 (fun hl => ?_) (fun l1 kv l2 hl => ?_))
  · -- the end
    have hl' : l = [] := by simpa [mD] using hl
    subst hl'
    refine cw_seq (cw_condF (b := false) (by simp [St.val, upd_eq]) rfl (cw_exit ?_))
    obtain ⟨v', q1, q2⟩ := h pre (by simpa using hp)
    rw [hf] at q1
    cases q1
    simp only [thenS, inBlockS, Nat.beq_refl]
    exact ⟨v, q2, hdone v⟩
  · obtain ⟨l1', l2', k, rfl, rfl, rfl, rfl⟩ : ∃ l1' l2' k, l = l1' ++ k :: l2' ∧ l1 = mD ek ev l1' ∧ kv = (ek k.1, ev k.2) ∧ l2 = mD ek ev l2' := by
      obtain ⟨a1, a2, e1, e2, e3⟩ := List.map_eq_append_iff.1 hl
      obtain ⟨k, a3, e4, e5, e6⟩ := List.map_eq_cons_iff.1 e3
      exact ⟨a1, a3, k, by rw [e1, e4], e2.symm, e5.symm, e6.symm⟩
    have hperm : (pre ++ [k] ++ (l1' ++ l2')).Perm M := by
      refine List.Perm.trans ?_ hp
      rw [List.append_assoc]
      refine List.Perm.append_left pre ?_
      simpa using (List.perm_middle (a := k) (l₁ := l1') (l₂ := l2')).symm
    obtain ⟨v2, q1, _⟩ := h _ hperm
    rw [List.foldlM_append, List.foldlM_append, hf] at q1
    simp only [Option.bind_eq_bind, Option.bind_some, List.foldlM_cons, List.foldlM_nil] at q1
    obtain ⟨v3, q2, q3⟩ := bind_some q1
    obtain ⟨v', q4, q5⟩ := bind_some q2
    cases q5
    refine cw_seq (cw_condT (b := true) (by simp [St.val, upd_eq]) rfl (cw_skip ?_))
    have hr := round (inBlockS id (thenS (fun s' => ∃ v, R v ∧ Weak N s' (stJ v)) Q)) v k (l1' ++ l2') (l1' ++ k :: l2') v3 q4
    have hm : mD ek ev (l1' ++ l2') = mD ek ev l1' ++ mD ek ev l2' := by simp [mD]
    rw [hm] at hr
    refine cw_mono hr (fun e s' hq => ?_)
    cases e with
    | normal => exact ⟨(l1' ++ l2').length, by simp, v3, pre ++ [k], l1' ++ l2', hq, rfl, hperm, by rw [List.foldlM_append, hf]; simp [q4]⟩
    | exit id => exact hq
    | goto l => exact hq
    | ret => exact hq
    | panic ch => exact hq
    | outgrown => exact hq

end
end Go.Val
