/- Abstract values that may name objects, objects, states; what they say of a frame and a world; how it is carried from world to world. -/
import Derived.Test.YtlcnkhphgekmeaaVa
set_option linter.unusedSectionVars false
set_option linter.unusedVariables false
set_option linter.unusedSimpArgs false
namespace Go.Val
open Go.RowKit

/-- What a slot may hold: data; the address of cell n of box o; the whole of row object o, as of a version; the address of cell n of its element k; map o; the walk o of a map; cells n, n + 1, .. of box o as a slice; a struct with such parts; several results; a function with what it has taken; a value in an interface; a row that is never written again and has no room behind it. -/
inductive AV where
  | d (x : D)
  | ptr (o n : Nat)
  | arr (o ver : Nat)
  | pel (o ver k n : Nat)
  | map (o : Nat)
  | it (o : Nat)
  | bsl (o n len cap : Nat)
  | st (ps : List AV)
  | tup (vs : List AV)
  | fn (f : Nat) (first caps : List AV)
  | ifc (t : Nat) (x : AV)
  | sx (es : Nat) (rows : List D)
  deriving Inhabited

def AV.isAgg : AV → Bool
  | .d x => x.isAgg
  | .st _ => true
  | _ => false

mutual
def AV.size : AV → Nat
  | .d x => x.size
  | .st ps => AV.sizes ps
  | _ => 1
def AV.sizes : List AV → Nat
  | [] => 0
  | x :: xs => x.size + AV.sizes xs
end

/-- An object: a variable in memory; a row that the call owns; a map; a walk over a map, with what is left of it, and where it stands. -/
inductive OB where
  | box (x : AV)
  | arr (ver es : Nat) (rows : List D)
  | map (ver : Nat) (es : List (D × D))
  | iter (m ver : Nat) (left : List (D × D)) (cur : Option (D × D))
  deriving Inhabited

structure Env where
  obj : Nat → Option OB
  β : Nat → Option Nat
  γ : Nat → Nat
  δ : Nat → List Nat
  J : Nat → Prop
  w : World

/-- A block of no object (and among those that may be named): nobody writes it any more. -/
def Env.I (E : Env) (b : Nat) : Prop := E.J b ∧ ∀ o ob, E.obj o = some ob → E.β o ≠ some b

def sliceV (b : Option Nat) (n cap : Nat) : Value := match b with
  | none => .slice none 0 0
  | some b => .slice (some ⟨b, 0, none⟩) n cap

mutual
inductive CR (E : Env) : AV → List Value → Prop
  | d {x : D} {cs : List Value} (h : DR E.I E.w x cs) : CR E (.d x) cs
  | ptr {o n b : Nat} {x : AV} (ho : E.obj o = some (.box x)) (hb : E.β o = some b) : CR E (.ptr o n) [.pointer (some ⟨b, n, none⟩)]
  | arr {o ver cur es : Nat} {rows : List D} {v : Value} (ho : E.obj o = some (.arr cur es rows)) (hl : ver ≤ cur)
      (hv : ver = cur → v = sliceV (E.β o) rows.length (E.γ o)) (h1 : one v = true) : CR E (.arr o ver) [v]
  | pel {o ver cur es k n : Nat} {rows : List D} {v : Value} (ho : E.obj o = some (.arr cur es rows)) (hl : ver ≤ cur)
      (hv : ver = cur → ∃ b, E.β o = some b ∧ v = .pointer (some ⟨b, k * es + n, none⟩)) (h1 : one v = true) : CR E (.pel o ver k n) [v]
  | map {o ver b : Nat} {es : List (D × D)} (ho : E.obj o = some (.map ver es)) (hb : E.β o = some b) : CR E (.map o) [.map (some b)]
  | it {o m ver b : Nat} {l : List (D × D)} {cu : Option (D × D)} (ho : E.obj o = some (.iter m ver l cu)) (hb : E.β o = some b) : CR E (.it o) [.pointer (some ⟨b, 0, none⟩)]
  | bsl {o n len cap b : Nat} {x : AV} (ho : E.obj o = some (.box x)) (hb : E.β o = some b) : CR E (.bsl o n len cap) [.slice (some ⟨b, n, none⟩) len cap]
  | st {ps : List AV} {cs : List Value} (h : CRs E ps cs) : CR E (.st ps) cs
  | tup {vs : List AV} {xs : List Value} (h : VRs E vs xs) : CR E (.tup vs) [.tuple xs.toArray]
  | fn {f : Nat} {first caps : List AV} {xs ys : List Value} (h : VRs E first xs) (k : VRs E caps ys) : CR E (.fn f first caps) [.func (.func f) xs.toArray ys.toArray]
  | ifc {t : Nat} {x : AV} {cs : List Value} (h : CR E x cs) : CR E (.ifc t x) [.iface t (mkV x.isAgg cs)]
  | sx {es b off : Nat} {rows : List D} {cs : List Value} (hI : E.I b) (hb : b < E.w.heap.size) (hr : DRs E.I E.w rows cs) (hs : ∀ r ∈ rows, r.size = es) (hc : CellsAt E.w b off cs) : CR E (.sx es rows) [.slice (some ⟨b, off, none⟩) rows.length rows.length]
inductive CRs (E : Env) : List AV → List Value → Prop
  | nil : CRs E [] []
  | cons {x : AV} {xs : List AV} {cs cs' : List Value} (h : CR E x cs) (hs : CRs E xs cs') : CRs E (x :: xs) (cs ++ cs')
inductive VRs (E : Env) : List AV → List Value → Prop
  | nil : VRs E [] []
  | cons {x : AV} {xs : List AV} {cs vs : List Value} (h : CR E x cs) (hs : VRs E xs vs) : VRs E (x :: xs) (mkV x.isAgg cs :: vs)
end

/-- A slot's value. -/
def VR (E : Env) (x : AV) (v : Value) : Prop := ∃ cs, CR E x cs ∧ v = mkV x.isAgg cs

/-- How an object may go on. -/
def OExt (E E' : Env) (o : Nat) : OB → OB → Prop
  | .box _, .box _ => E'.β o = E.β o
  | .arr c es rows, .arr c' es' rows' => c ≤ c' ∧ (c = c' → E'.β o = E.β o ∧ E'.γ o = E.γ o ∧ rows'.length = rows.length ∧ es' = es)
  | .map v es, .map v' es' => E'.β o = E.β o ∧ v ≤ v' ∧ (v = v' → es' = es ∧ E'.δ o = E.δ o ∧ E'.γ o = E.γ o)
  | .iter _ _ _ _, .iter _ _ _ _ => E'.β o = E.β o
  | _, _ => False

structure Ext (E E' : Env) : Prop where
  hz : E.w.heap.size ≤ E'.w.heap.size
  imm : ∀ b, E.I b → b < E.w.heap.size → E'.I b ∧ E'.w.heap[b]? = E.w.heap[b]?
  live : ∀ o ob, E.obj o = some ob → ∃ ob', E'.obj o = some ob' ∧ OExt E E' o ob ob'

theorem oext_box {E E' : Env} (h : Ext E E') {o : Nat} {x : AV} (ho : E.obj o = some (.box x)) : E'.β o = E.β o ∧ ∃ x', E'.obj o = some (.box x') := by
  obtain ⟨ob', h1, h2⟩ := h.live _ _ ho
  cases ob' <;> simp only [OExt] at h2
  exact ⟨h2, _, h1⟩
theorem oext_map {E E' : Env} (h : Ext E E') {o ver : Nat} {es : List (D × D)} (ho : E.obj o = some (.map ver es)) : E'.β o = E.β o ∧ ∃ v' es', E'.obj o = some (.map v' es') := by
  obtain ⟨ob', h1, h2⟩ := h.live _ _ ho
  cases ob' <;> simp only [OExt] at h2
  exact ⟨h2.1, _, _, h1⟩
theorem oext_iter {E E' : Env} (h : Ext E E') {o m ver : Nat} {l : List (D × D)} {cu : Option (D × D)} (ho : E.obj o = some (.iter m ver l cu)) : E'.β o = E.β o ∧ ∃ m' v' l' cu', E'.obj o = some (.iter m' v' l' cu') := by
  obtain ⟨ob', h1, h2⟩ := h.live _ _ ho
  cases ob' <;> simp only [OExt] at h2
  exact ⟨h2, _, _, _, _, h1⟩
theorem oext_arr {E E' : Env} (h : Ext E E') {o c es : Nat} {rows : List D} (ho : E.obj o = some (.arr c es rows)) :
    ∃ c' es' rows', E'.obj o = some (.arr c' es' rows') ∧ c ≤ c' ∧ (c = c' → E'.β o = E.β o ∧ E'.γ o = E.γ o ∧ rows'.length = rows.length ∧ es' = es) := by
  obtain ⟨ob', h1, h2⟩ := h.live _ _ ho
  cases ob' <;> simp only [OExt] at h2
  exact ⟨_, _, _, h1, h2⟩

mutual
theorem CR.ext {E E' : Env} (he : Ext E E') : ∀ {x : AV} {cs : List Value}, CR E x cs → CR E' x cs
  | _, _, .d h => .d (h.mono he.hz he.imm)
  | _, _, .ptr ho hb => by
    obtain ⟨h1, x', h2⟩ := oext_box he ho
    exact .ptr h2 (h1.trans hb)
  | _, _, .arr ho hl hv h1 => by
    obtain ⟨c', es', rows', k1, k2, k3⟩ := oext_arr he ho
    refine .arr k1 (Nat.le_trans hl k2) (fun e => ?_) h1
    obtain ⟨q1, q2, q3, _⟩ := k3 (by omega)
    rw [hv (by omega), q1, q2, q3]
  | _, _, .pel ho hl hv h1 => by
    obtain ⟨c', es', rows', k1, k2, k3⟩ := oext_arr he ho
    refine .pel k1 (Nat.le_trans hl k2) (fun e => ?_) h1
    obtain ⟨q1, q2, q3, q4⟩ := k3 (by omega)
    obtain ⟨b, p1, p2⟩ := hv (by omega)
    exact ⟨b, q1.trans p1, by rw [p2, q4]⟩
  | _, _, .map ho hb => by
    obtain ⟨h1, v', es', h2⟩ := oext_map he ho
    exact .map h2 (h1.trans hb)
  | _, _, .it ho hb => by
    obtain ⟨h1, m', v', l', cu', h2⟩ := oext_iter he ho
    exact .it h2 (h1.trans hb)
  | _, _, .bsl ho hb => by
    obtain ⟨h1, x', h2⟩ := oext_box he ho
    exact .bsl h2 (h1.trans hb)
  | _, _, .st h => .st (CRs.ext he h)
  | _, _, .tup h => .tup (VRs.ext he h)
  | _, _, .fn h k => .fn (VRs.ext he h) (VRs.ext he k)
  | _, _, .ifc h => .ifc (CR.ext he h)
  | _, _, .sx hI hb hr hs hc => .sx (he.imm _ hI hb).1 (Nat.lt_of_lt_of_le hb he.hz) (hr.mono he.hz he.imm) hs (cellsAt_block (he.imm _ hI hb).2 hc)
theorem CRs.ext {E E' : Env} (he : Ext E E') : ∀ {x : List AV} {cs : List Value}, CRs E x cs → CRs E' x cs
  | _, _, .nil => .nil
  | _, _, .cons h hs => .cons (CR.ext he h) (CRs.ext he hs)
theorem VRs.ext {E E' : Env} (he : Ext E E') : ∀ {x : List AV} {cs : List Value}, VRs E x cs → VRs E' x cs
  | _, _, .nil => .nil
  | _, _, .cons h hs => .cons (CR.ext he h) (VRs.ext he hs)
end

theorem VR.ext {E E' : Env} (he : Ext E E') {x : AV} {v : Value} (h : VR E x v) : VR E' x v :=
  let ⟨cs, h1, h2⟩ := h; ⟨cs, h1.ext he, h2⟩

mutual
theorem CR.len {E : Env} : ∀ {x : AV} {cs : List Value}, CR E x cs → cs.length = x.size
  | _, _, .d h => by simp only [AV.size]; exact h.len
  | _, _, .ptr .. => rfl
  | _, _, .arr .. => rfl
  | _, _, .pel .. => rfl
  | _, _, .map .. => rfl
  | _, _, .it .. => rfl
  | _, _, .bsl .. => rfl
  | _, _, .st h => by simp only [AV.size]; exact CRs.len h
  | _, _, .tup .. => rfl
  | _, _, .fn .. => rfl
  | _, _, .ifc .. => rfl
  | _, _, .sx .. => rfl
theorem CRs.len {E : Env} : ∀ {x : List AV} {cs : List Value}, CRs E x cs → cs.length = AV.sizes x
  | _, _, .nil => rfl
  | _, _, .cons h hs => by simp [AV.sizes, CR.len h, CRs.len hs]
end

/-- What an object says. -/
def OR (E : Env) (o : Nat) : OB → Prop
  | .box x => ∃ b cs e, E.β o = some b ∧ CR E x cs ∧ (∀ v ∈ cs, one v = true) ∧ E.w.heap[b]? = some (.cells cs.toArray e (0, 0))
  | .arr _ es rows => (E.β o = none ∧ rows = [] ∧ E.γ o = 0) ∨
      (∃ b cs sp e, E.β o = some b ∧ DRs E.I E.w rows cs ∧ (∀ r ∈ rows, r.size = es) ∧ E.w.heap[b]? = some (.cells (cs ++ sp).toArray e (0, 0)) ∧ (cs ++ sp).length = E.γ o * es ∧ rows.length ≤ E.γ o)
  | .map _ es => ∃ b ents clock, E.β o = some b ∧ E.w.heap[b]? = some (.map ents clock) ∧ ents.size = es.length ∧
      (∀ (i : Nat) k x ent, es[i]? = some (k, x) → ents[i]? = some ent → ∃ ck cx, DR E.I E.w k ck ∧ DR E.I E.w x cx ∧ ent.key = mkV k.isAgg ck ∧ ent.val = mkV x.isAgg cx) ∧
      E.δ o = ents.toList.map (·.born) ∧ (E.δ o).Nodup ∧ (∀ n ∈ E.δ o, n < clock) ∧ clock = E.γ o
  | .iter m ver left cu => ∃ b since seen last, E.β o = some b ∧ E.w.heap[b]? = some (.mapIter (E.β m) since seen last) ∧
      (∀ es, E.obj m = some (.map ver es) → left = ((es.zip (E.δ m)).filter (fun x => !seen.contains x.2)).map (·.1) ∧ (∀ n ∈ E.δ m, n < since) ∧ since ≤ last ∧ since ≤ E.γ m ∧
        (∀ kv, cu = some kv → last = E.γ m ∧ ∃ (i n : Nat), es[i]? = some kv ∧ (E.δ m)[i]? = some n ∧ seen.back? = some n)) ∧
      (∃ cur es, E.obj m = some (.map cur es) ∧ ver ≤ cur)

theorem OR.lt {E : Env} {o b : Nat} {ob : OB} (h : OR E o ob) (hb : E.β o = some b) : b < E.w.heap.size := by
  have key : ∀ {b' : Nat} {x : Obj}, E.β o = some b' → E.w.heap[b']? = some x → b < E.w.heap.size := by
    intro b' x h1 h2
    rw [hb] at h1; cases h1
    exact (Array.getElem?_eq_some_iff.1 h2).1
  cases ob with
  | box x => obtain ⟨b', cs, e, h1, _, _, h2⟩ := h; exact key h1 h2
  | arr c es rows =>
    rcases h with ⟨h1, _⟩ | ⟨b', cs, sp, e, h1, _, _, h2, _⟩
    · rw [hb] at h1; cases h1
    · exact key h1 h2
  | map c es => obtain ⟨b', _, _, h1, h2, _⟩ := h; exact key h1 h2
  | iter m v l cu => obtain ⟨b', _, _, _, h1, h2, _⟩ := h; exact key h1 h2

/-- What an object says stays, where its block, and what is known of it, stays. -/
theorem OR.ext {E E' : Env} (he : Ext E E') {o : Nat} {ob : OB} (h : OR E o ob) (hβ : E'.β o = E.β o) (hγ : E'.γ o = E.γ o) (hδ : E'.δ o = E.δ o)
    (hblk : ∀ b, E.β o = some b → E'.w.heap[b]? = E.w.heap[b]?)
    (hit : ∀ m ver l cu, ob = .iter m ver l cu → E'.β m = E.β m ∧ (∀ es, E'.obj m = some (.map ver es) → E.obj m = some (.map ver es) ∧ E'.δ m = E.δ m ∧ E'.γ m = E.γ m) ∧
      ((∃ cur es, E.obj m = some (.map cur es) ∧ ver ≤ cur) → ∃ cur es, E'.obj m = some (.map cur es) ∧ ver ≤ cur)) : OR E' o ob := by
  cases ob with
  | box x =>
    obtain ⟨b, cs, e, h1, h2, h3, h4⟩ := h
    exact ⟨b, cs, e, hβ.trans h1, h2.ext he, h3, (hblk b h1).trans h4⟩
  | arr c es rows =>
    rcases h with ⟨h1, h2, h3⟩ | ⟨b, cs, sp, e, h1, h2, h3, h4, h5, h6⟩
    · exact .inl ⟨hβ.trans h1, h2, hγ.trans h3⟩
    · exact .inr ⟨b, cs, sp, e, hβ.trans h1, h2.mono he.hz he.imm, h3, (hblk b h1).trans h4, by rw [hγ]; exact h5, by rw [hγ]; exact h6⟩
  | map v es =>
    obtain ⟨b, ents, clock, h1, h2, h3, h4, h5, h6, h7, h8⟩ := h
    refine ⟨b, ents, clock, hβ.trans h1, (hblk b h1).trans h2, h3, fun i k x ent p1 p2 => ?_, hδ.trans h5, by rw [hδ]; exact h6, by rw [hδ]; exact h7, h8.trans hγ.symm⟩
    obtain ⟨ck, cx, q1, q2, q3, q4⟩ := h4 i k x ent p1 p2
    exact ⟨ck, cx, q1.mono he.hz he.imm, q2.mono he.hz he.imm, q3, q4⟩
  | iter m ver l cu =>
    obtain ⟨b, since, seen, last, h1, h2, h3, h4⟩ := h
    obtain ⟨k1, k2, k3⟩ := hit m ver l cu rfl
    refine ⟨b, since, seen, last, hβ.trans h1, by rw [k1, hblk b h1]; exact h2, fun es hes => ?_, k3 h4⟩
    obtain ⟨p1, p2, p3⟩ := k2 es hes
    rw [p2, p3]
    exact h3 es p1

/-- What a proof of a function's body is about: the frame's size and how many objects came in; the environment at its begin; the blocks beside the new ones that it may write; those that what never turns may lie in. -/
structure Cx where
  nk : Nat × Nat
  E0 : Env
  T : Nat → Prop
  J : Nat → Prop

def Cx.w0 (cx : Cx) : World := cx.E0.w

def Cx.own (cx : Cx) (b : Nat) : Prop := cx.w0.heap.size ≤ b ∨ cx.T b

/-- Whether the count of draws is kept track of: it is asked of what the sort calls, and of nothing else. -/
class Drw where
  dm : Prop
variable [Drw]

structure Keeps (cx : Cx) (w : World) : Prop where
  os : w.os = cx.w0.os
  tape : w.tape = cx.w0.tape
  output : w.output = cx.w0.output
  size : cx.w0.heap.size ≤ w.heap.size
  block : ∀ b, b < cx.w0.heap.size → ¬ cx.T b → w.heap[b]? = cx.w0.heap[b]?
  drawn : Drw.dm → cx.w0.drawn ≤ w.drawn

structure St where
  slot : Nat → Option AV
  obj : Nat → Option OB

structure R0 (cx : Cx) (s : St) (a : Act) (E : Env) : Prop where
  obj : E.obj = s.obj
  may : E.J = cx.J
  fresh : ∀ b, cx.own b → cx.J b
  inK : ∀ o, cx.E0.obj o ≠ none → o < cx.nk.2
  hist : ∀ o ob, cx.E0.obj o = some ob → ∃ ob', E.obj o = some ob' ∧ OExt cx.E0 E o ob ob'
  defers : a.defers = []
  size : a.tmps.size = cx.nk.1
  slots : ∀ t x, s.slot t = some x → VR E x (a.tmps.getD t undef)
  objs : ∀ o ob, s.obj o = some ob → OR E o ob
  inj : ∀ o o' b, s.obj o ≠ none → s.obj o' ≠ none → E.β o = some b → E.β o' = some b → o = o'
  own : ∀ o b, s.obj o ≠ none → E.β o = some b → cx.own b
  keeps : Keeps cx E.w

def R (cx : Cx) (s : St) (a : Act) (w : World) : Prop := ∃ E, E.w = w ∧ R0 cx s a E

def upd {α : Type} (f : Nat → Option α) (d : Nat) (x : Option α) : Nat → Option α := fun t => bif Nat.beq t d then x else f t
theorem upd_eq {α : Type} (f : Nat → Option α) (d : Nat) (x : Option α) (t : Nat) : upd f d x t = if t = d then x else f t := by
  unfold upd
  by_cases h : t = d
  · subst h; simp
  · have : Nat.beq t d = false := by
      cases hb : Nat.beq t d
      · rfl
      · exact absurd (Nat.eq_of_beq_eq_true hb) h
    simp [this, h]

def St.put (s : St) (d : Nat) (x : AV) : St := { s with slot := upd s.slot d (some x) }
def St.forget (s : St) (d : Nat) : St := { s with slot := upd s.slot d none }
def St.set (s : St) (o : Nat) (x : OB) : St := { s with obj := upd s.obj o (some x) }

theorem getD_put (a : Act) (d : Nat) (v : Value) (t : Nat) (hd : d < a.tmps.size) : (a.put (some d) v).tmps.getD t undef = if t = d then v else a.tmps.getD t undef := by
  simp only [Act.put]
  by_cases h : t = d
  · subst h; simp [hd]
  · simp [h, Array.getElem?_setIfInBounds_ne (Ne.symm h)]

theorem R0.put {cx : Cx} {s : St} {a : Act} {E : Env} (h : R0 cx s a E) {d : Nat} {x : AV} {v : Value} (hv : VR E x v) (hd : d < cx.nk.1) : R0 cx (s.put d x) (a.put (some d) v) E := by
  refine ⟨h.obj, h.may, h.fresh, h.inK, h.hist, h.defers, by simp [Act.put, h.size], fun t y hy => ?_, h.objs, h.inj, h.own, h.keeps⟩
  rw [getD_put _ _ _ _ (by rw [h.size]; exact hd)]
  simp only [St.put, upd_eq] at hy
  by_cases ht : t = d
  · simp only [ht, if_true, Option.some.injEq] at hy ⊢; subst hy; exact hv
  · simp only [ht, if_false] at hy ⊢; exact h.slots t y hy

theorem R0.forget {cx : Cx} {s : St} {a : Act} {E : Env} (h : R0 cx s a E) {d : Nat} {v : Value} (hd : d < cx.nk.1) : R0 cx (s.forget d) (a.put (some d) v) E := by
  refine ⟨h.obj, h.may, h.fresh, h.inK, h.hist, h.defers, by simp [Act.put, h.size], fun t y hy => ?_, h.objs, h.inj, h.own, h.keeps⟩
  rw [getD_put _ _ _ _ (by rw [h.size]; exact hd)]
  simp only [St.forget, upd_eq] at hy
  by_cases ht : t = d
  · simp [ht] at hy
  · simp only [ht, if_false] at hy ⊢; exact h.slots t y hy

theorem OExt.trans {E0 E E' : Env} {o : Nat} : ∀ {x y z : OB}, OExt E0 E o x y → OExt E E' o y z → OExt E0 E' o x z
  | .box _, .box _, .box _, h, k => Eq.trans k h
  | .map v es, .map v' es', .map v'' es'', h, k => by
    simp only [OExt] at h k ⊢
    refine ⟨k.1.trans h.1, Nat.le_trans h.2.1 k.2.1, fun e => ?_⟩
    obtain ⟨h1, h2, h3⟩ := h
    obtain ⟨k1, k2, k3⟩ := k
    obtain ⟨p1, p2, p3⟩ := h3 (by omega)
    obtain ⟨q1, q2, q3⟩ := k3 (by omega)
    exact ⟨q1.trans p1, q2.trans p2, q3.trans p3⟩
  | .iter _ _ _ _, .iter _ _ _ _, .iter _ _ _ _, h, k => Eq.trans k h
  | .arr c es rows, .arr c' es' rows', .arr c'' es'' rows'', h, k => by
    simp only [OExt] at h k ⊢
    refine ⟨Nat.le_trans h.1 k.1, fun e => ?_⟩
    obtain ⟨h1, h2⟩ := h
    obtain ⟨k1, k2⟩ := k
    obtain ⟨p1, p2, p3, p4⟩ := h2 (by omega)
    obtain ⟨q1, q2, q3, q4⟩ := k2 (by omega)
    exact ⟨q1.trans p1, q2.trans p2, q3.trans p3, q4.trans p4⟩

theorem hist_ext {cx : Cx} {E E' : Env} (h : ∀ o ob, cx.E0.obj o = some ob → ∃ ob', E.obj o = some ob' ∧ OExt cx.E0 E o ob ob') (he : Ext E E') :
    ∀ o ob, cx.E0.obj o = some ob → ∃ ob', E'.obj o = some ob' ∧ OExt cx.E0 E' o ob ob' := by
  intro o ob ho
  obtain ⟨ob', h1, h2⟩ := h o ob ho
  obtain ⟨ob'', k1, k2⟩ := he.live o ob' h1
  exact ⟨ob'', k1, h2.trans k2⟩

/-- On to another environment: what the slots hold is carried by 'Ext'. -/
theorem R0.trans {cx : Cx} {s s' : St} {a : Act} {E E' : Env} (h : R0 cx s a E) (he : Ext E E') (hJ : E'.J = E.J) (hs : s'.slot = s.slot) (ho : E'.obj = s'.obj)
    (hobjs : ∀ o ob, s'.obj o = some ob → OR E' o ob)
    (hinj : ∀ o o' b, s'.obj o ≠ none → s'.obj o' ≠ none → E'.β o = some b → E'.β o' = some b → o = o')
    (hown : ∀ o b, s'.obj o ≠ none → E'.β o = some b → cx.own b) (hk : Keeps cx E'.w) : R0 cx s' a E' :=
  ⟨ho, hJ.trans h.may, h.fresh, h.inK, hist_ext h.hist he, h.defers, h.size, fun t y hy => (h.slots t y (by rw [← hs]; exact hy)).ext he, hobjs, hinj, hown, hk⟩

theorem Keeps.drew {cx : Cx} {w : World} (h : Keeps cx w) {n : Nat} (hn : w.drawn ≤ n) : Keeps cx { w with drawn := n } := ⟨h.os, h.tape, h.output, h.size, h.block, fun d => Nat.le_trans (h.drawn d) hn⟩

/-- A draw turns nothing. -/
theorem R.drew {cx : Cx} {s : St} {a : Act} {w : World} (h : R cx s a w) {n : Nat} (hn : w.drawn ≤ n) : R cx s a { w with drawn := n } := by
  obtain ⟨E, rfl, h⟩ := h
  have he : Ext E { E with w := { E.w with drawn := n } } := by
    refine ⟨Nat.le_refl _, fun b hb _ => ⟨hb, rfl⟩, fun o ob ho => ⟨ob, ho, ?_⟩⟩
    cases ob <;> simp [OExt]
  refine ⟨{ E with w := { E.w with drawn := n } }, rfl, h.trans he rfl rfl h.obj (fun o ob ho => ?_) h.inj h.own (h.keeps.drew hn)⟩
  exact (h.objs o ob ho).ext he rfl rfl rfl (fun _ _ => rfl) (fun m ver l cu e => ⟨rfl, fun es hes => ⟨hes, rfl, rfl⟩, fun h => h⟩)

theorem Keeps.grow {cx : Cx} {w : World} (h : Keeps cx w) (o : Obj) : Keeps cx (w.alloc o) :=
  ⟨h.os, h.tape, h.output, by have := h.size; simp; omega, fun b hb hT => (Below.heap_alloc _ _ _ (by have := h.size; omega)).trans (h.block b hb hT), h.drawn⟩

/-- A new block that no object has: the environment goes on. -/
theorem ext_alloc (E : Env) (x : Obj) : Ext E { E with w := E.w.alloc x } := by
  refine ⟨by simp, fun b hb hlt => ⟨hb, Below.heap_alloc _ _ _ hlt⟩, fun o ob ho => ⟨ob, ho, ?_⟩⟩
  cases ob <;> simp [OExt]

theorem R0.alloc {cx : Cx} {s : St} {a : Act} {E : Env} (h : R0 cx s a E) (x : Obj) : R0 cx s a { E with w := E.w.alloc x } := by
  refine h.trans (ext_alloc E x) rfl rfl h.obj (fun o ob ho => ?_) h.inj h.own (h.keeps.grow x)
  exact (h.objs o ob ho).ext (ext_alloc E x) rfl rfl rfl (fun b hb => Below.heap_alloc _ _ _ ((h.objs o ob ho).lt hb)) (fun m ver l cu e => ⟨rfl, fun es hes => ⟨hes, rfl, rfl⟩, fun h => h⟩)

/-- The new block is nobody's. -/
theorem R0.newI {cx : Cx} {s : St} {a : Act} {E : Env} (h : R0 cx s a E) (b : Nat) (hb : E.w.heap.size ≤ b) : E.I b := by
  refine ⟨by rw [h.may]; exact h.fresh b (.inl (Nat.le_trans h.keeps.size hb)), fun o ob ho e => ?_⟩
  have := (h.objs o ob (by rw [← h.obj]; exact ho)).lt e
  omega

end Go.Val
