/- The call's theorem. -/
import Derived.Test.YtlcnkhphgekmeaaVm
set_option linter.unusedSectionVars false
set_option linter.unusedVariables false
set_option linter.unusedSimpArgs false
namespace Go.Val
open Go.RowKit
variable [Drw]

mutual
def AV.live (f : Nat → Option OB) : AV → Prop
  | .d _ => True
  | .ptr o _ => f o ≠ none
  | .arr o _ => f o ≠ none
  | .pel o _ _ _ => f o ≠ none
  | .map o => f o ≠ none
  | .it o => f o ≠ none
  | .bsl o _ _ _ => f o ≠ none
  | .st ps => AV.lives f ps
  | .tup ps => AV.lives f ps
  | .fn _ p q => AV.lives f p ∧ AV.lives f q
  | .ifc _ x => x.live f
  | .sx _ _ => True
def AV.lives (f : Nat → Option OB) : List AV → Prop
  | [] => True
  | x :: xs => x.live f ∧ AV.lives f xs
end

def OB.live (f : Nat → Option OB) : OB → Prop
  | .box x => x.live f
  | .iter m _ _ _ => f m ≠ none
  | _ => True

/-- The callee's environment (E2) within the caller's (E1). -/
structure Sub (E1 E2 : Env) (σ : Nat → Nat) : Prop where
  w : E2.w = E1.w
  obj : ∀ o ob, E2.obj o = some ob → E1.obj (σ o) = some (ob.ren σ)
  β : ∀ o, E2.β o = E1.β (σ o)
  γ : ∀ o, E2.γ o = E1.γ (σ o)
  δ : ∀ o, E2.δ o = E1.δ (σ o)
  I : ∀ b, E1.I b → E2.I b

section
variable {E1 E2 : Env} {σ : Nat → Nat}

theorem Sub.dr (h : Sub E1 E2 σ) {d : D} {cs : List Value} (hd : DR E1.I E1.w d cs) : DR E2.I E2.w d cs :=
  hd.mono (by rw [h.w]; exact Nat.le_refl _) (fun b hb _ => ⟨h.I b hb, by rw [h.w]⟩)

theorem ren_box {σ : Nat → Nat} {ob : OB} {x : AV} (h : ob.ren σ = .box x) : ∃ y, ob = .box y := by cases ob <;> simp [OB.ren] at h; exact ⟨_, rfl⟩
theorem ren_arr {σ : Nat → Nat} {ob : OB} {c es : Nat} {rows : List D} (h : ob.ren σ = .arr c es rows) : ob = .arr c es rows := by cases ob <;> simp [OB.ren] at h ⊢; exact h
theorem ren_map {σ : Nat → Nat} {ob : OB} {c : Nat} {es : List (D × D)} (h : ob.ren σ = .map c es) : ob = .map c es := by cases ob <;> simp [OB.ren] at h ⊢; exact h
theorem ren_iter {σ : Nat → Nat} {ob : OB} {m c : Nat} {es : List (D × D)} {cu : Option (D × D)} (h : ob.ren σ = .iter m c es cu) : ∃ m', ob = .iter m' c es cu ∧ m = σ m' := by
  cases ob <;> simp [OB.ren] at h
  exact ⟨_, by rw [h.2.1, h.2.2.1, h.2.2.2], h.1.symm⟩

theorem Sub.at_ (h : Sub E1 E2 σ) {o : Nat} (hl : E2.obj o ≠ none) {ob' : OB} (h1 : E1.obj (σ o) = some ob') : ∃ ob, E2.obj o = some ob ∧ ob' = ob.ren σ := by
  obtain ⟨ob, h2⟩ := Option.ne_none_iff_exists'.1 hl
  have := h.obj o ob h2
  rw [h1] at this
  cases this
  exact ⟨ob, h2, rfl⟩

mutual
theorem CR.unren (h : Sub E1 E2 σ) : ∀ (x : AV) {cs : List Value}, x.live E2.obj → CR E1 (x.ren σ) cs → CR E2 x cs
  | .d x, _, _, .d k => .d (h.dr k)
  | .ptr o n, _, hl, .ptr ho hb => by
    obtain ⟨ob, h1, h2⟩ := h.at_ hl ho
    obtain ⟨y, rfl⟩ := ren_box h2.symm
    exact .ptr h1 ((h.β o).trans hb)
  | .arr o v, _, hl, .arr ho h2 h3 h4 => by
    obtain ⟨ob, k1, k2⟩ := h.at_ hl ho
    rw [ren_arr k2.symm] at k1
    exact .arr k1 h2 (fun e => by rw [h.β, h.γ]; exact h3 e) h4
  | .pel o v k n, _, hl, .pel ho h2 h3 h4 => by
    obtain ⟨ob, k1, k2⟩ := h.at_ hl ho
    rw [ren_arr k2.symm] at k1
    exact .pel k1 h2 (fun e => by
      obtain ⟨b, q1, q2⟩ := h3 e
      exact ⟨b, (h.β o).trans q1, q2⟩) h4
  | .map o, _, hl, .map ho hb => by
    obtain ⟨ob, k1, k2⟩ := h.at_ hl ho
    rw [ren_map k2.symm] at k1
    exact .map k1 ((h.β o).trans hb)
  | .it o, _, hl, .it ho hb => by
    obtain ⟨ob, k1, k2⟩ := h.at_ hl ho
    obtain ⟨m', k3, _⟩ := ren_iter k2.symm
    rw [k3] at k1
    exact .it k1 ((h.β o).trans hb)
  | .bsl o n l c, _, hl, .bsl ho hb => by
    obtain ⟨ob, h1, h2⟩ := h.at_ hl ho
    obtain ⟨y, rfl⟩ := ren_box h2.symm
    exact .bsl h1 ((h.β o).trans hb)
  | .st ps, _, hl, .st k => .st (CRs.unren h ps hl k)
  | .tup ps, _, hl, .tup k => .tup (VRs.unren h ps hl k)
  | .fn f p q, _, hl, .fn k k' => .fn (VRs.unren h p hl.1 k) (VRs.unren h q hl.2 k')
  | .ifc t x, _, hl, .ifc k => by rw [ren_isAgg]; exact .ifc (CR.unren h x hl k)
  | .sx _ _, _, _, .sx h1 h2 h3 h4 h5 => .sx (h.I _ h1) (by rw [h.w]; exact h2) (h3.mono (by rw [h.w]; exact Nat.le_refl _) (fun b hb _ => ⟨h.I b hb, by rw [h.w]⟩)) h4 (by rw [h.w]; exact h5)
theorem CRs.unren (h : Sub E1 E2 σ) : ∀ (x : List AV) {cs : List Value}, AV.lives E2.obj x → CRs E1 (AV.rens σ x) cs → CRs E2 x cs
  | [], _, _, .nil => .nil
  | x :: xs, _, hl, .cons k ks => .cons (CR.unren h x hl.1 k) (CRs.unren h xs hl.2 ks)
theorem VRs.unren (h : Sub E1 E2 σ) : ∀ (x : List AV) {cs : List Value}, AV.lives E2.obj x → VRs E1 (AV.rens σ x) cs → VRs E2 x cs
  | [], _, _, .nil => .nil
  | x :: xs, _, hl, .cons k ks => by rw [ren_isAgg]; exact .cons (CR.unren h x hl.1 k) (VRs.unren h xs hl.2 ks)
end

theorem OR.unren (h : Sub E1 E2 σ) {o : Nat} {ob : OB} (hl : ob.live E2.obj) (hinj : ∀ m m', E2.obj m ≠ none → E2.obj m' ≠ none → σ m = σ m' → m = m') (hor : OR E1 (σ o) (ob.ren σ)) : OR E2 o ob := by
  cases ob with
  | box x =>
    obtain ⟨b, cs, e, h1, h2, h3, h4⟩ := hor
    exact ⟨b, cs, e, (h.β o).trans h1, CR.unren h x hl h2, h3, by rw [h.w]; exact h4⟩
  | arr c es rows =>
    rcases hor with ⟨h1, h2, h3⟩ | ⟨b, cs, sp, e, h1, h2, h3, h4, h5, h6⟩
    · exact .inl ⟨(h.β o).trans h1, h2, (h.γ o).trans h3⟩
    · exact .inr ⟨b, cs, sp, e, (h.β o).trans h1, h2.mono (by rw [h.w]; exact Nat.le_refl _) (fun b hb _ => ⟨h.I b hb, by rw [h.w]⟩), h3, by rw [h.w]; exact h4, by rw [h.γ]; exact h5, by rw [h.γ]; exact h6⟩
  | map v es =>
    obtain ⟨b, ents, clock, h1, h2, h3, h4, h5, h6, h7, h8⟩ := hor
    refine ⟨b, ents, clock, (h.β o).trans h1, by rw [h.w]; exact h2, h3, fun i k x ent p1 p2 => ?_, (h.δ o).trans h5, by rw [h.δ]; exact h6, by rw [h.δ]; exact h7, h8.trans (h.γ o).symm⟩
    obtain ⟨ck, cx, q1, q2, q3, q4⟩ := h4 i k x ent p1 p2
    exact ⟨ck, cx, h.dr q1, h.dr q2, q3, q4⟩
  | iter m v l cu =>
    obtain ⟨b, since, seen, last, h1, h2, h3, c5, e5, h4, h5⟩ := hor
    obtain ⟨ob, k1, k2⟩ := h.at_ hl h4
    rw [ren_map k2.symm] at k1
    refine ⟨b, since, seen, last, (h.β o).trans h1, by rw [h.w, h.β]; exact h2, fun es hes => ?_, c5, e5, k1, h5⟩
    rw [h.δ, h.γ]
    exact h3 es (by have := h.obj _ _ hes; exact this)
end

theorem lk_some {α : Type} {x : α} {t : Nat} {l : List (Nat × α)} (h : lk l t = some x) : (t, x) ∈ l := lk_mem h

theorem lk_of_mem {α : Type} : ∀ {l : List (Nat × α)} {t : Nat} {x : α}, (l.map (·.1)).Nodup → (t, x) ∈ l → lk l t = some x
  | (d, y) :: l, t, x, hn, hm => by
    simp only [List.map_cons, List.nodup_cons] at hn
    rcases List.mem_cons.1 hm with e | e
    · cases e; simp [lk]
    · have : t ≠ d := fun h => hn.1 (by rw [← h]; exact List.mem_map.2 ⟨(t, x), e, rfl⟩)
      have hb : Nat.beq t d = false := by
        cases hb : Nat.beq t d
        · rfl
        · exact absurd (Nat.eq_of_beq_eq_true hb) this
      simp only [lk, hb, cond_false]
      exact lk_of_mem hn.2 e

theorem setAll_get : ∀ {l : List (Nat × OB)} {f : Nat → Option OB} {t : Nat} {x : OB}, (l.map (·.1)).Nodup → (t, x) ∈ l → setAll f l t = some x
  | (d, y) :: l, f, t, x, hn, hm => by
    simp only [List.map_cons, List.nodup_cons] at hn
    simp only [setAll]
    rcases List.mem_cons.1 hm with e | e
    · cases e
      rw [setAll_ne hn.1, upd_eq, if_pos rfl]
    · exact setAll_get hn.2 e

theorem setAll_cases {l : List (Nat × OB)} {f : Nat → Option OB} {t : Nat} {x : OB} (hn : (l.map (·.1)).Nodup) (h : setAll f l t = some x) : (t, x) ∈ l ∨ (t ∉ l.map (·.1) ∧ f t = some x) := by
  by_cases hm : t ∈ l.map (·.1)
  · obtain ⟨⟨d, y⟩, h1, h2⟩ := List.mem_map.1 hm
    simp only at h2; subst h2
    rw [setAll_get hn h1] at h
    cases h
    exact .inl h1
  · rw [setAll_ne hm] at h
    exact .inr ⟨hm, h⟩

theorem Hands.vals {s s' : St} {oin : Nat → Option OB} {σ : Nat → Nat} {cx : Cx} {a : Act} {E E2 : Env} (hR : R0 cx s' a E) (hS : Sub E E2 σ) (hE2 : E2.obj = oin) :
    ∀ {os : List Operand} {ys : List AV} {b : Bool} {l : List Nat}, Hands s oin σ os ys b l → (∀ t ∈ tmpsOf os, s'.slot t = s.slot t) → (∀ k ∈ l, s'.obj k = s.obj k) → AV.lives oin ys →
      (b = true → ∀ b', E2.J b') → (∀ c ∈ l, ∀ o, oin o ≠ none → σ o ≠ c) → VRs E2 ys (os.map a.eval)
  | _, _, _, _, .nil, _, _, _, _, _ => .nil
  | _, _, _, _, .cons (o := o) (os := os) (x := x) (y := y) (b := b) (b' := b') (l := l) (l' := l') hx h hs, ht, ho, hl, hJ, hp => by
    have hv := hR.val ((val_agree (fun t h' => ht t (by simp [tmpsOf, h']))).trans hx)
    have hrest := Hands.vals hR hS hE2 hs (fun t h' => ht t (by simp only [tmpsOf, List.flatMap_cons, List.mem_append]; exact .inr h')) (fun k hk => ho k (by simp [hk])) hl.2
      (fun e => hJ (by rw [e]; simp)) (fun c hc => hp c (by simp [hc]))
    obtain ⟨cs, h1, h2⟩ := hv
    simp only [List.map_cons, h2]
    have notIn : ∀ (o' bb : Nat) (ob : OB), o' ∈ l → s'.obj o' = some ob → E.β o' = some bb → b = true → E2.I bb := by
      intro o' bb ob hm hob hb hbt
      refine ⟨hJ (by rw [hbt]; simp) bb, fun o'' ob'' h'' e'' => ?_⟩
      rw [hS.β] at e''
      have hne : s'.obj (σ o'') ≠ none := by rw [← hR.obj, hS.obj _ _ h'']; simp
      have := hR.inj (σ o'') o' bb hne (by rw [hob]; simp) e'' hb
      exact hp o' (by simp [hm]) o'' (by rw [← hE2, h'']; simp) this
    cases h with
    | same =>
      rw [ren_isAgg]
      exact .cons (CR.unren hS y (by rw [hE2]; exact hl.1) h1) hrest
    | nil =>
      cases h1 with
      | d h1 => cases h1 with
        | v _ => exact .cons (x := .d (.sl _ [])) (.d .sl0) hrest
    | sx =>
      cases h1 with
      | sx k1 k2 k3 k4 k5 => exact .cons (x := .d (.sl _ _)) (.d (.sl (hS.I _ k1) (by rw [hS.w]; exact k2) (k3.mono (by rw [hS.w]; exact Nat.le_refl _) (fun b hb _ => ⟨hS.I b hb, by rw [hS.w]⟩)) k4 (by rw [hS.w]; exact k5) (Nat.le_refl _))) hrest
    | arr h =>
      rename_i o' c es rows
      have hob : s'.obj o' = some (.arr c es rows) := (ho o' (by simp)).trans h
      cases h1 with
      | arr k1 k2 k3 k4 =>
        rw [hR.obj, hob] at k1; cases k1
        rw [k3 rfl]
        rcases hR.objs _ _ hob with ⟨q1, q2, q3⟩ | ⟨bb, cs, sp, e, q1, q2, q3, q4, q5, q6⟩
        · rw [q1, q2]
          exact .cons (x := .d (.sl es [])) (.d .sl0) hrest
        · rw [q1]
          refine .cons (x := .d (.sl es rows)) (.d (.sl (notIn o' bb _ (by simp) hob q1 rfl) ?_ (q2.mono (by rw [hS.w]; exact Nat.le_refl _) (fun b hb _ => ⟨hS.I b hb, by rw [hS.w]⟩)) q3 ?_ q6)) hrest
          · rw [hS.w]; exact (hR.objs _ _ hob).lt q1
          · rw [hS.w]; exact cells_at_block q4
    | bsl p h hp' hcc =>
      rename_i o' m cap n z lb
      have hob : s'.obj o' = some (.box z) := (ho o' (by simp)).trans h
      cases h1 with
      | bsl k1 k2 =>
        obtain ⟨b2, zs, e, r1, r2, r3, r4⟩ := hR.objs _ _ hob
        rw [k2] at r1; cases r1
        obtain ⟨c1, c2, c3, rfl, t2, t3⟩ := get_cr p r2 hp'
        have hall : CellsAt E.w _ 0 (c1 ++ (c2 ++ c3)) := cells_at_block (sp := []) (by rw [List.append_nil]; exact r4)
        have h6 := hall.right.left
        rw [t2, Nat.zero_add] at h6
        cases t3 with
        | d t3 =>
          cases t3 with
          | bs hl' =>
            subst hl'
            have hcap : lb.length ≤ cap := Nat.le_of_ble_eq_true hcc
            have := DR.sl (I := E2.I) (w := E2.w) (es := 1) (rows := lb.map fun x => .v (u8v x)) (notIn o' _ _ (by simp) hob k2 rfl) (by rw [hS.w]; exact (hR.objs _ _ hob).lt k2) (drs_bytes lb)
              (fun r hr => by simp at hr; obtain ⟨x, _, rfl⟩ := hr; rfl) (by rw [hS.w]; exact h6) (cap := cap) (by simpa using hcap)
            rw [List.length_map] at this
            exact .cons (x := .d (.sl 1 (lb.map fun x => .v (u8v x)))) (.d this) hrest


/-- What a call is handed and hands back, by lists of objects. -/
structure CallIn (s : St) (σ : Nat → Nat) (k : Nat) (mi mo : List (Nat × OB)) (ys : List AV) (l : List Nat) : Prop where
  lt : ∀ p ∈ mi, p.1 < k
  live : AV.lives (lk mi) ys
  objs : ∀ p ∈ mi, s.obj (σ p.1) = some (p.2.ren σ) ∧ p.2.live (lk mi)
  inj : ∀ p ∈ mi, ∀ q ∈ mi, σ p.1 = σ q.1 → p.1 = q.1
  pres : ∀ c ∈ l, ∀ p ∈ mi, σ p.1 ≠ c
  nodup : (mo.map (·.1)).Nodup
  nodupσ : (mo.map fun p => σ p.1).Nodup
  inmo : ∀ p ∈ mi, ∃ x, (p.1, x) ∈ mo
  new : ∀ p ∈ mo, lk mi p.1 = none → s.obj (σ p.1) = none

section
variable {P : Program} {N : Nat × Nat} {ops : Array Oper} {i : Nat} {s : St} {ty : TypeId} {pos : String} {af : Array Edge} {g : Option (Nat × Bool)} {gs : List Nat}

theorem after_call {s' : St} {σ : Nat → Nat} {k : Nat} {mi mo : List (Nat × OB)} {ys : List AV} {l : List Nat} {b : Bool} {res : AV} {cx : Cx} {a : Act} {E Ec E' : Env} {v : Value} (hR : R0 cx s' a E) (hC : CallIn s' σ k mi mo ys l) (hS : Sub E Ec σ) (hEc : Ec.obj = lk mi)
    (hJc : ∀ bb, Ec.J bb → b = true ∨ E.I bb) (hpost : E'.obj = lk mo) (hv : VR E' res v) (hok : EnvOk E') (hown : ∀ o bb, E'.obj o ≠ none → E'.β o = some bb → Ec.w.heap.size ≤ bb ∨ Ec.T bb)
    (hkeep : Keeps ⟨(0, 0), Ec, Ec.T, Ec.J⟩ E'.w) (hJ' : ∀ bb, E'.J bb → Ec.J bb ∨ Ec.w.heap.size ≤ bb ∨ Ec.T bb) (hlive : ∀ o ob, Ec.obj o = some ob → ∃ ob', E'.obj o = some ob' ∧ OExt Ec E' o ob ob')
    (hflat : b = false ∨ (res.flat ∧ ∀ p ∈ mo, p.2.flat)) :
    ∃ E2, E2.w = E'.w ∧ VR E2 (res.ren σ) v ∧ R0 cx { s' with obj := setAll s'.obj (mo.map fun p => (σ p.1, p.2.ren σ)) } a E2 := by
  have hw : Ec.w = E.w := hS.w
  -- the numbers of the objects that are handed back, and their names at the callee
  let inv : Nat → Option Nat := fun c => (mo.find? fun p => Nat.beq (σ p.1) c).map (·.1)
  have beq : ∀ x y, Nat.beq x y = true ↔ x = y := fun x y => ⟨Nat.eq_of_beq_eq_true, fun h => by subst h; simp⟩
  have inv_of : ∀ o x, (o, x) ∈ mo → inv (σ o) = some o := by
    intro o x hm
    have hs : ∃ p, mo.find? (fun p => Nat.beq (σ p.1) (σ o)) = some p := by
      cases hf : mo.find? (fun p => Nat.beq (σ p.1) (σ o)) with
      | some p => exact ⟨p, rfl⟩
      | none => have := List.find?_eq_none.1 hf (o, x) hm; simp at this
    obtain ⟨p, hp⟩ := hs
    have h0 := List.find?_some hp
    have h1 : σ p.1 = σ o := (beq _ _).1 h0
    have h2 : p ∈ mo := List.mem_of_find?_eq_some hp
    have : p.1 = o := by
      have hn := hC.nodupσ
      obtain ⟨i1, k1, e1⟩ := List.mem_iff_getElem.1 h2
      obtain ⟨i2, k2, e2⟩ := List.mem_iff_getElem.1 hm
      have : i1 = i2 := by
        refine (List.getElem_inj hn (h₀ := by simpa using k1) (h₁ := by simpa using k2)).1 ?_
        simp only [List.getElem_map, e1, e2, h1]
      subst this
      rw [e1] at e2
      rw [e2]
    simp only [inv, hp, Option.map_some, this]
  have inv_some : ∀ c o, inv c = some o → σ o = c ∧ ∃ x, (o, x) ∈ mo := by
    intro c o h
    simp only [inv, Option.map_eq_some_iff] at h
    obtain ⟨p, hp, rfl⟩ := h
    have h0 := List.find?_some hp
    exact ⟨(beq _ _).1 h0, p.2, List.mem_of_find?_eq_some hp⟩
  have inv_none : ∀ c, inv c = none → c ∉ mo.map fun p => σ p.1 := by
    intro c h hm
    obtain ⟨p, hp, rfl⟩ := List.mem_map.1 hm
    rw [inv_of p.1 p.2 hp] at h
    cases h
  let wo := mo.map fun p => (σ p.1, p.2.ren σ)
  have wo1 : wo.map (·.1) = mo.map fun p => σ p.1 := by simp [wo]
  let E2 : Env := { obj := setAll s'.obj wo, β := fun c => match inv c with | some o => E'.β o | none => E.β c, γ := fun c => match inv c with | some o => E'.γ o | none => E.γ c, δ := fun c => match inv c with | some o => E'.δ o | none => E.δ c, J := E.J, w := E'.w }
  have objs2 : ∀ c x, E2.obj c = some x → (∃ o ob, (o, ob) ∈ mo ∧ c = σ o ∧ x = ob.ren σ ∧ E'.obj o = some ob) ∨ (inv c = none ∧ s'.obj c = some x) := by
    intro c x h
    rcases setAll_cases (by rw [wo1]; exact hC.nodupσ) h with h1 | ⟨h1, h2⟩
    · obtain ⟨p, hp, e⟩ := List.mem_map.1 h1
      cases e
      exact .inl ⟨p.1, p.2, hp, rfl, rfl, by rw [hpost]; exact lk_of_mem hC.nodup hp⟩
    · rw [wo1] at h1
      refine .inr ⟨?_, h2⟩
      cases hi : inv c with
      | none => rfl
      | some o => obtain ⟨q1, x', q2⟩ := inv_some c o hi; exact absurd (List.mem_map.2 ⟨(o, x'), q2, q1⟩) h1
  have passed : ∀ bb, Ec.T bb → ∃ o ob, lk mi o = some ob ∧ s'.obj (σ o) = some (ob.ren σ) ∧ E.β (σ o) = some bb := by
    rintro bb ⟨o, h1, h2⟩
    rw [hEc] at h1
    obtain ⟨ob, h3⟩ := Option.ne_none_iff_exists'.1 h1
    exact ⟨o, ob, h3, (hC.objs _ (lk_mem h3)).1, by rw [hS.β] at h2; exact h2⟩
  have ltE : ∀ c x bb, s'.obj c = some x → E.β c = some bb → bb < E.w.heap.size := fun c x bb h1 h2 => (hR.objs _ _ h1).lt h2
  have hsz : E.w.heap.size ≤ E'.w.heap.size := by have := hkeep.size; simp only [Cx.w0] at this; rw [hw] at this; exact this
  have hblk : ∀ bb, bb < E.w.heap.size → ¬ Ec.T bb → E'.w.heap[bb]? = E.w.heap[bb]? := by
    intro bb h1 h2
    have := hkeep.block bb (by simp only [Cx.w0]; rw [hw]; exact h1) h2
    simp only [Cx.w0] at this
    rw [this, hw]
  have notT : ∀ c x bb, s'.obj c = some x → inv c = none → E.β c = some bb → ¬ Ec.T bb := by
    intro c x bb h1 h2 h3 hT
    obtain ⟨o, ob, q1, q2, q3⟩ := passed bb hT
    have := hR.inj c (σ o) bb (by rw [h1]; simp) (by rw [q2]; simp) h3 q3
    subst this
    obtain ⟨x', hx'⟩ := hC.inmo _ (lk_mem q1)
    rw [inv_of o x' hx'] at h2
    cases h2
  have beta2 : ∀ o x, (o, x) ∈ mo → E2.β (σ o) = E'.β o := fun o x h => by simp only [E2, inv_of o x h]
  have gam2 : ∀ o x, (o, x) ∈ mo → E2.γ (σ o) = E'.γ o := fun o x h => by simp only [E2, inv_of o x h]
  have del2 : ∀ o x, (o, x) ∈ mo → E2.δ (σ o) = E'.δ o := fun o x h => by simp only [E2, inv_of o x h]
  have beta0 : ∀ c, inv c = none → E2.β c = E.β c ∧ E2.γ c = E.γ c ∧ E2.δ c = E.δ c := fun c h => by simp only [E2, h]; exact ⟨trivial, trivial, trivial⟩
  have own2 : ∀ o x bb, (o, x) ∈ mo → E'.β o = some bb → E.w.heap.size ≤ bb ∨ Ec.T bb := by
    intro o x bb h1 h2
    have := hown o bb (by rw [hpost, lk_of_mem hC.nodup h1]; simp) h2
    rw [hw] at this
    exact this
  -- what never turned stays so
  have hext : Ext E E2 := by
    refine ⟨hsz, fun bb hb hlt => ⟨⟨hb.1, fun c x h1 h2 => ?_⟩, hblk bb hlt (fun hT => ?_)⟩, fun c x h1 => ?_⟩
    · rcases objs2 c x h1 with ⟨o, ob, q1, rfl, q3, q4⟩ | ⟨q1, q2⟩
      · rw [beta2 o ob q1] at h2
        rcases own2 o ob bb q1 h2 with h3 | h3
        · omega
        · obtain ⟨o', ob', p1, p2, p3⟩ := passed bb h3
          exact hb.2 _ _ (by rw [hR.obj]; exact p2) p3
      · rw [(beta0 c q1).1] at h2
        exact hb.2 _ _ (by rw [hR.obj]; exact q2) h2
    · obtain ⟨o', ob', p1, p2, p3⟩ := passed bb hT
      exact hb.2 _ _ (by rw [hR.obj]; exact p2) p3
    · rw [hR.obj] at h1
      cases hi : inv c with
      | none =>
        have hc : E2.obj c = some x := by
          show setAll s'.obj wo c = some x
          rw [setAll_ne (by rw [wo1]; exact inv_none c hi)]
          exact h1
        obtain ⟨e1, e2, e3⟩ := beta0 c hi
        refine ⟨x, hc, ?_⟩
        cases x <;> first | exact e1 | exact ⟨Nat.le_refl _, fun _ => ⟨e1, e2, rfl, rfl⟩⟩ | exact ⟨e1, Nat.le_refl _, fun _ => ⟨rfl, e3, e2⟩⟩
      | some o =>
        obtain ⟨q1, x', q2⟩ := inv_some c o hi
        subst q1
        cases hm : lk mi o with
        | none => have := hC.new (o, x') q2 hm; rw [h1] at this; cases this
        | some ob =>
          have h3 := (hC.objs _ (lk_mem hm)).1
          rw [h1] at h3
          cases h3
          obtain ⟨ob', h4, h5⟩ := hlive o ob (by rw [hEc]; exact hm)
          rw [hpost, lk_of_mem hC.nodup q2] at h4
          cases h4
          have hc : E2.obj (σ o) = some (x'.ren σ) := setAll_get (by rw [wo1]; exact hC.nodupσ) (List.mem_map.2 ⟨(o, x'), q2, rfl⟩)
          refine ⟨_, hc, ?_⟩
          have eβ := beta2 o x' q2
          have eγ := gam2 o x' q2
          have eδ := del2 o x' q2
          cases ob <;> cases x' <;> simp only [OExt] at h5 <;> simp only [OB.ren, OExt]
          · rw [eβ, h5, hS.β]
          · refine ⟨h5.1, fun e => ?_⟩
            obtain ⟨r1, r2, r3, r4⟩ := h5.2 e
            exact ⟨by rw [eβ, r1, hS.β], by rw [eγ, r2, hS.γ], r3, r4⟩
          · refine ⟨by rw [eβ, h5.1, hS.β], h5.2.1, fun e => ?_⟩
            obtain ⟨r1, r2, r3⟩ := h5.2.2 e
            exact ⟨r1, by rw [eδ, r2, hS.δ], by rw [eγ, r3, hS.γ]⟩
          · rw [eβ, h5, hS.β]
  have hrn : Rn E' E2 σ := by
    refine ⟨rfl, fun o ob h => ?_, fun o h => ?_, fun o h => ?_, fun o h => ?_⟩
    · rw [hpost] at h
      exact setAll_get (by rw [wo1]; exact hC.nodupσ) (List.mem_map.2 ⟨(o, ob), lk_mem h, rfl⟩)
    all_goals
      obtain ⟨ob, h'⟩ := Option.ne_none_iff_exists'.1 h
      rw [hpost] at h'
    · exact beta2 o ob (lk_mem h')
    · exact gam2 o ob (lk_mem h')
    · exact del2 o ob (lk_mem h')
  have hI : b = false → ∀ bb, E'.I bb → bb < E'.w.heap.size → E2.I bb := by
    intro hbf bb hb _
    have hj : E.I bb ∨ E.w.heap.size ≤ bb ∨ Ec.T bb := by
      rcases hJ' bb hb.1 with h | h | h
      · rcases hJc bb h with h' | h'
        · rw [hbf] at h'; cases h'
        · exact .inl h'
      · rw [hw] at h; exact .inr (.inl h)
      · exact .inr (.inr h)
    refine ⟨?_, fun c x h1 h2 => ?_⟩
    · show E.J bb
      rcases hj with h | h | h
      · exact h.1
      · rw [hR.may]; exact hR.fresh bb (.inl (Nat.le_trans hR.keeps.size h))
      · obtain ⟨o', ob', p1, p2, p3⟩ := passed bb h
        rw [hR.may]; exact hR.fresh bb (hR.own _ _ (by rw [p2]; simp) p3)
    · rcases objs2 c x h1 with ⟨o, ob, q1, rfl, q3, q4⟩ | ⟨q1, q2⟩
      · rw [beta2 o ob q1] at h2
        exact hb.2 _ _ q4 h2
      · rw [(beta0 c q1).1] at h2
        rcases hj with h | h | h
        · exact h.2 _ _ (by rw [hR.obj]; exact q2) h2
        · have := ltE _ _ _ q2 h2; omega
        · exact notT _ _ _ q2 q1 h2 h
  have inj' : ∀ m m', E'.obj m ≠ none → E'.obj m' ≠ none → σ m = σ m' → m = m' := by
    intro m m' h1 h2 e
    rw [hpost] at h1 h2
    obtain ⟨x1, h1⟩ := Option.ne_none_iff_exists'.1 h1
    obtain ⟨x2, h2⟩ := Option.ne_none_iff_exists'.1 h2
    have e1 := inv_of m x1 (lk_mem h1)
    have e2 := inv_of m' x2 (lk_mem h2)
    rw [e, e2] at e1
    cases e1; rfl
  refine ⟨E2, rfl, ?_, hR.trans hext rfl rfl rfl (fun c x h1 => ?_) (fun c1 c2 bb h1 h2 e1 e2 => ?_) (fun c bb h1 e1 => ?_) ?_⟩
  · obtain ⟨cs, h1, h2⟩ := hv
    refine ⟨cs, CR.ren hrn (b = false) hI (hflat.imp id (·.1)) h1, by rw [ren_isAgg]; exact h2⟩
  · rcases objs2 c x h1 with ⟨o, ob, q1, rfl, rfl, q4⟩ | ⟨q1, q2⟩
    · exact OR.ren hrn (b = false) hI (hflat.imp id (fun h => h.2 _ q1)) q4 (fun m h e => inj' m o h (by rw [q4]; simp) e) inj' (hok.1 _ _ q4)
    · obtain ⟨e1, e2, e3⟩ := beta0 c q1
      refine (hR.objs _ _ q2).ext hext e1 e2 e3 (fun bb hb => hblk bb (ltE _ _ _ q2 hb) (notT _ _ _ q2 q1 hb)) (fun m ver ll cu e => ?_)
      subst e
      obtain ⟨_, _, _, _, _, _, _, cur, es, hm, hle⟩ := hR.objs _ _ q2
      obtain ⟨ob', h5, h6⟩ := hext.live m _ hm
      cases ob' <;> simp only [OExt] at h6
      rename_i v' es'
      refine ⟨h6.1, fun es2 hes => ?_, fun _ => ⟨v', es', h5, by omega⟩⟩
      rw [h5] at hes
      simp only [Option.some.injEq, OB.map.injEq] at hes
      obtain ⟨r1, r2⟩ := hes
      have : cur = v' := by omega
      obtain ⟨t1, t2, t3⟩ := h6.2.2 this
      refine ⟨?_, t2, t3⟩
      rw [hm, ← r2, t1]
      congr 2
      omega
  · obtain ⟨x1, h1⟩ := Option.ne_none_iff_exists'.1 h1
    obtain ⟨x2, h2⟩ := Option.ne_none_iff_exists'.1 h2
    rcases objs2 c1 x1 h1 with ⟨o, ob, q1, rfl, rfl, q4⟩ | ⟨q1, q2⟩ <;> rcases objs2 c2 x2 h2 with ⟨o', ob', r1, rfl, rfl, r4⟩ | ⟨r1, r2⟩
    · rw [beta2 _ _ q1] at e1
      rw [beta2 _ _ r1] at e2
      rw [hok.2 o o' bb (by rw [q4]; simp) (by rw [r4]; simp) e1 e2]
    · rw [beta2 _ _ q1] at e1
      rw [(beta0 _ r1).1] at e2
      rcases own2 _ _ _ q1 e1 with h | h
      · have := ltE _ _ _ r2 e2; omega
      · exact absurd h (notT _ _ _ r2 r1 e2)
    · rw [(beta0 _ q1).1] at e1
      rw [beta2 _ _ r1] at e2
      rcases own2 _ _ _ r1 e2 with h | h
      · have := ltE _ _ _ q2 e1; omega
      · exact absurd h (notT _ _ _ q2 q1 e1)
    · rw [(beta0 _ q1).1] at e1
      rw [(beta0 _ r1).1] at e2
      exact hR.inj _ _ _ (by rw [q2]; simp) (by rw [r2]; simp) e1 e2
  · obtain ⟨x1, h1⟩ := Option.ne_none_iff_exists'.1 h1
    rcases objs2 c x1 h1 with ⟨o, ob, q1, rfl, rfl, q4⟩ | ⟨q1, q2⟩
    · rw [beta2 _ _ q1] at e1
      rcases own2 _ _ _ q1 e1 with h | h
      · exact .inl (Nat.le_trans hR.keeps.size h)
      · obtain ⟨o', ob', p1, p2, p3⟩ := passed bb h
        exact hR.own _ _ (by rw [p2]; simp) p3
    · rw [(beta0 _ q1).1] at e1
      exact hR.own _ _ (by rw [q2]; simp) e1
  · refine ⟨?_, ?_, ?_, Nat.le_trans hR.keeps.size hsz, fun bb h1 h2 => ?_, fun d => Nat.le_trans (hR.keeps.drawn d) (by have := hkeep.drawn d; simp only [Cx.w0] at this; rw [hw] at this; exact this)⟩
    · have := hkeep.os; simp only [Cx.w0] at this; rw [hw] at this; exact this.trans hR.keeps.os
    · have := hkeep.tape; simp only [Cx.w0] at this; rw [hw] at this; exact this.trans hR.keeps.tape
    · have := hkeep.output; simp only [Cx.w0] at this; rw [hw] at this; exact this.trans hR.keeps.output
    · rw [hblk bb (by have := hR.keeps.size; omega) (fun hT => ?_)]
      · exact hR.keeps.block bb h1 h2
      · obtain ⟨o', ob', p1, p2, p3⟩ := passed bb hT
        rcases hR.own _ _ (by rw [p2]; simp) p3 with h | h
        · omega
        · exact h2 h


theorem callIn_agree {s s' : St} {σ : Nat → Nat} {k : Nat} {mi mo : List (Nat × OB)} {ys : List AV} {l : List Nat} (h : CallIn s σ k mi mo ys l) (ho : ∀ c ∈ l ++ mo.map (fun p => σ p.1), s'.obj c = s.obj c) : CallIn s' σ k mi mo ys l := by
  refine ⟨h.lt, h.live, fun p hp => ⟨?_, (h.objs p hp).2⟩, h.inj, h.pres, h.nodup, h.nodupσ, h.inmo, fun p hp hn => ?_⟩
  · obtain ⟨x, hx⟩ := h.inmo p hp
    rw [ho _ (List.mem_append.2 (.inr (List.mem_map.2 ⟨_, hx, rfl⟩)))]
    exact (h.objs p hp).1
  · rw [ho _ (List.mem_append.2 (.inr (List.mem_map.2 ⟨_, hp, rfl⟩)))]
    exact h.new p hp hn

theorem valid_call {dd : Option Nat} {f : FuncId} {fn : Func} {as : Array Operand} {ats : Array TypeId} {cal : Callee} {b : Bool} {k : Nat} {mi mo : List (Nat × OB)} {ys : List AV} {l fs : List Nat} {res : AV} (σ : Nat → Nat)
    (ho : ops[i]? = some ⟨dd, .call ⟨cal, as, ats⟩, ty, pos, af, g⟩) (hd : ∀ d, dd = some d → d < N.1) (hg : G ops s g gs)
    (hf : P.funcs[f]? = some fn) (hnm : (fn.name == "runtime.NumGoroutine") = false) (hbd : fn.body.isNone = false)
    (os : List Operand) (hos : ∀ (s' : St) (cx : Cx) (a : Act) (E : Env), (∀ t ∈ fs, s'.slot t = s.slot t) → R0 cx s' a E → (execOp a.eval ⟨dd, .call ⟨cal, as, ats⟩, ty, pos, af, g⟩).run P E.w = .ok (.enter f (os.map a.eval).toArray) E.w)
    (hF : FnOk P f ys k (lk mi) (fun r oo => r = res ∧ oo = lk mo)) (hh : Hands s (lk mi) σ os ys b l) (hC : CallIn s σ k mi mo ys l)
    (hflat : b = false ∨ (res.flat ∧ ∀ p ∈ mo, p.2.flat)) :
    Valid P N ops i ⟨gs ++ (fs ++ tmpsOf os), l ++ mo.map (fun p => σ p.1), dd.map fun d => (d, some (res.ren σ)), mo.map fun p => (σ p.1, p.2.ren σ)⟩ s := by
  refine ⟨_, ho, fun s' hs Q cx a w hn hR => ?_⟩
  obtain ⟨E, rfl, hR0⟩ := hR
  have hs1 : ∀ t ∈ gs, s'.slot t = s.slot t := fun t ht => hs.1 t (by simp [ht])
  have hs2 : ∀ t ∈ fs, s'.slot t = s.slot t := fun t ht => hs.1 t (by simp [ht])
  have hs3 : ∀ t ∈ tmpsOf os, s'.slot t = s.slot t := fun t ht => hs.1 t (by simp [ht])
  rw [if_pos (hg.wanted hs1 hR0)]
  have hC' := callIn_agree hC hs.2
  let Ec : Env := { obj := lk mi, β := fun o => E.β (σ o), γ := fun o => E.γ (σ o), δ := fun o => E.δ (σ o), J := fun bb => b = true ∨ E.I bb, w := E.w }
  have hS : Sub E Ec σ := ⟨rfl, fun o ob h => by rw [hR0.obj]; exact (hC'.objs _ (lk_mem h)).1, fun _ => rfl, fun _ => rfl, fun _ => rfl, fun bb hb => ⟨.inr hb, fun o ob h e => hb.2 (σ o) _ (by rw [hR0.obj]; exact (hC'.objs _ (lk_mem h)).1) e⟩⟩
  have inj0 : ∀ m m', lk mi m ≠ none → lk mi m' ≠ none → σ m = σ m' → m = m' := by
    intro m m' h1 h2 e
    obtain ⟨x1, h1⟩ := Option.ne_none_iff_exists'.1 h1
    obtain ⟨x2, h2⟩ := Option.ne_none_iff_exists'.1 h2
    exact hC'.inj _ (lk_mem h1) _ (lk_mem h2) e
  have hok : EnvOk Ec := by
    refine ⟨fun o ob h => ?_, fun o o' bb h1 h2 e1 e2 => ?_⟩
    · obtain ⟨q1, q2⟩ := hC'.objs _ (lk_mem h)
      exact OR.unren hS q2 inj0 (hR0.objs _ _ q1)
    · obtain ⟨x1, h1'⟩ := Option.ne_none_iff_exists'.1 h1
      obtain ⟨x2, h2'⟩ := Option.ne_none_iff_exists'.1 h2
      refine inj0 o o' h1 h2 (hR0.inj _ _ bb ?_ ?_ e1 e2)
      · rw [(hC'.objs _ (lk_mem h1')).1]; simp
      · rw [(hC'.objs _ (lk_mem h2')).1]; simp
  have hvals := Hands.vals hR0 hS (oin := lk mi) rfl hh hs3 (fun c hc => hs.2 c (by simp [hc])) hC'.live (fun e b' => .inl e) (fun c hc o ho' => by
    obtain ⟨x, hx⟩ := Option.ne_none_iff_exists'.1 ho'
    exact hC'.pres c hc _ (lk_mem hx))
  have hcall := hF (fun o ho' => by
    obtain ⟨x, hx⟩ := Option.ne_none_iff_exists'.1 ho'
    exact hC'.lt _ (lk_mem hx)) Ec _ rfl hok hvals
  unfold Oper.wp
  rw [hos s' cx a E hs2 hR0]
  simp only [Oper.upon]
  refine hcall.mono ?_
  rintro e w' ⟨v, r, E', rfl, rfl, ⟨rfl, hpost⟩, hv, hok', hown, hkeep, hJ', hlive⟩
  obtain ⟨E2, q1, q2, q3⟩ := after_call hR0 hC' hS rfl (fun bb h => h) hpost hv hok' hown hkeep hJ' hlive hflat
  refine ⟨E2, q1, ?_⟩
  cases dd with
  | none => exact q3
  | some d => exact q3.put q2 (by rw [hn]; exact hd d rfl)

/-- A function by its name. -/
theorem hos_func {dd : Option Nat} {f : FuncId} {fn : Func} {as : Array Operand} {ats : Array TypeId} (hf : P.funcs[f]? = some fn) (hnm : (fn.name == "runtime.NumGoroutine") = false) (hbd : fn.body.isNone = false) (a : Act) (w : World) :
    (execOp a.eval ⟨dd, .call ⟨.value (.func f), as, ats⟩, ty, pos, af, g⟩).run P w = .ok (.enter f (as.toList.map a.eval).toArray) w := by
  simp only [execOp, resolve, Sem.run_bind, Sem.run_pure, Result.andThen, Act.eval, Deferred.ofValue, invoke, callFunc, run_program, hf, hnm, hbd, Bool.false_eq_true, if_false]
  congr 2
  apply Array.ext'
  simp

theorem callIn0 {s : St} {k : Nat} {ys : List AV} {l : List Nat} (hl : AV.lives (lk []) ys) : CallIn s (fun o => o) k [] [] ys l :=
  ⟨nofun, hl, nofun, nofun, fun _ _ => nofun, by simp, by simp, nofun, nofun⟩

/-- A call that takes and gives data. -/
theorem o_call {d : Nat} {f : FuncId} {fn : Func} {as : List Operand} {ats : Array TypeId} {b : Bool} {ys : List AV} {l : List Nat} {res : AV} (ho : ops[i]? = some ⟨some d, .call ⟨.value (.func f), as.toArray, ats⟩, ty, pos, af, g⟩) (hd : Nat.ble (d + 1) N.1 = true) (hg : G ops s g gs)
    (hf : P.funcs[f]? = some fn) (hnm : (fn.name == "runtime.NumGoroutine") = false) (hbd : fn.body.isNone = false) (hF : FnOk P f ys 0 (lk []) (fun r oo => r = res ∧ oo = lk []))
    (hh : Hands s (lk []) (fun o => o) as ys b l) (hl : AV.lives (lk []) ys) (hflat : b = false ∨ res.flat) : Valid P N ops i ⟨gs ++ ([] ++ tmpsOf as), l ++ [], some (d, some (res.ren fun o => o)), []⟩ s := by
  refine valid_call (fun o => o) ho (fun _ e => by cases e; exact Nat.le_of_ble_eq_true hd) hg hf hnm hbd as (fun s' cx a E _ _ => ?_) hF hh (callIn0 hl) (hflat.imp id fun h => ⟨h, fun _ h => by cases h⟩)
  have := hos_func (P := P) (dd := some d) (as := as.toArray) (ats := ats) (ty := ty) (pos := pos) (af := af) (g := g) hf hnm hbd a E.w
  simpa using this

/-- A call that takes data and gives a new object (and data). -/
theorem o_callO {d : Nat} {f : FuncId} {fn : Func} {as : List Operand} {ats : Array TypeId} {b : Bool} {ys : List AV} {l : List Nat} {res : AV} {ob : OB} (o : Nat) (ho : ops[i]? = some ⟨some d, .call ⟨.value (.func f), as.toArray, ats⟩, ty, pos, af, g⟩) (hd : Nat.ble (d + 1) N.1 = true) (hg : G ops s g gs)
    (hf : P.funcs[f]? = some fn) (hnm : (fn.name == "runtime.NumGoroutine") = false) (hbd : fn.body.isNone = false) (hF : FnOk P f ys 0 (lk []) (fun r oo => r = res ∧ oo = lk [(0, ob)]))
    (hh : Hands s (lk []) (fun _ => o) as ys b l) (hl : AV.lives (lk []) ys) (hn : s.obj o = none) (hflat : b = false ∨ (res.flat ∧ ob.flat)) : Valid P N ops i ⟨gs ++ ([] ++ tmpsOf as), l ++ [o], some (d, some (res.ren fun _ => o)), [(o, ob.ren fun _ => o)]⟩ s := by
  refine valid_call (fun _ => o) (mo := [(0, ob)]) ho (fun _ e => by cases e; exact Nat.le_of_ble_eq_true hd) hg hf hnm hbd as (fun s' cx a E _ _ => ?_) hF hh ?_ (hflat.imp id fun h => ⟨h.1, fun _ h' => by simp at h'; subst h'; exact h.2⟩)
  · have := hos_func (P := P) (dd := some d) (as := as.toArray) (ats := ats) (ty := ty) (pos := pos) (af := af) (g := g) hf hnm hbd a E.w
    simpa using this
  · exact ⟨nofun, hl, nofun, nofun, fun _ _ => nofun, by simp, by simp, nofun, fun p hp _ => by simp at hp; subst hp; exact hn⟩

end
end Go.Val
