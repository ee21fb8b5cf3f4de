/- Single operations, VI: maps; rows and structs that are written out. -/
import Derived.Test.YtlcnkhphgekmeaaVk
set_option linter.unusedSectionVars false
set_option linter.unusedVariables false
set_option linter.unusedSimpArgs false
namespace Go.Val
open Go.RowKit
variable [Drw]

def mD {κ β : Type} (ek : κ → D) (ev : β → D) (m : List (κ × β)) : List (D × D) := m.map fun p => (ek p.1, ev p.2)

theorem find_idx {κ β : Type} [DecidableEq κ] (m : List (κ × β)) (k : κ) : (m.map (·.1)).findIdx? (fun k' => decide (k = k')) = m.findIdx? (fun p => decide (k = p.1)) := by
  rw [List.findIdx?_map]; rfl

/-- What a map's object says, with its entries at hand. -/
structure MapAt (E : Env) (o ver : Nat) {κ β : Type} (ek : κ → D) (ev : β → D) (m : List (κ × β)) (b : Nat) (ents : Array MapEntry) (clock : Nat) : Prop where
  β : E.β o = some b
  heap : E.w.heap[b]? = some (.map ents clock)
  size : ents.size = m.length
  at_ : ∀ (i : Nat) p ent, m[i]? = some p → ents[i]? = some ent → ∃ ck cx, DR E.I E.w (ek p.1) ck ∧ DR E.I E.w (ev p.2) cx ∧ ent.key = mkV (ek p.1).isAgg ck ∧ ent.val = mkV (ev p.2).isAgg cx
  δ : E.δ o = ents.toList.map (·.born)
  nodup : (E.δ o).Nodup
  lt : ∀ n ∈ E.δ o, n < clock
  γ : clock = E.γ o

theorem mapAt_of {E : Env} {o ver : Nat} {κ β : Type} {ek : κ → D} {ev : β → D} {m : List (κ × β)} (h : OR E o (.map ver (mD ek ev m))) : ∃ b ents clock, MapAt E o ver ek ev m b ents clock := by
  obtain ⟨b, ents, clock, h1, h2, h3, h4, h5, h6, h7, h8⟩ := h
  refine ⟨b, ents, clock, h1, h2, by simpa [mD] using h3, fun i p ent p1 p2 => ?_, h5, h6, h7, h8⟩
  exact h4 i (ek p.1) (ev p.2) ent (by simp [mD, p1]) p2

theorem MapAt.or {E : Env} {o ver : Nat} {κ β : Type} {ek : κ → D} {ev : β → D} {m : List (κ × β)} {b : Nat} {ents : Array MapEntry} {clock : Nat} (h : MapAt E o ver ek ev m b ents clock) : OR E o (.map ver (mD ek ev m)) := by
  refine ⟨b, ents, clock, h.β, h.heap, by simp [mD, h.size], fun i k x ent p1 p2 => ?_, h.δ, h.nodup, h.lt, h.γ⟩
  simp only [mD, List.getElem?_map, Option.map_eq_some_iff] at p1
  obtain ⟨p, q1, q2⟩ := p1
  cases q2
  exact h.at_ i p ent q1 p2

section
variable {P : Program}

theorem run_find {T : TypeId} {κ β : Type} [DecidableEq κ] {ek : κ → D} {ev : β → D} (hK : KL P T ek) {E : Env} {o ver b clock : Nat} {m : List (κ × β)} {ents : Array MapEntry} (h : MapAt E o ver ek ev m b ents clock)
    {k : κ} {c : List Value} (hc : DR E.I E.w (ek k) c) :
    (Instr.findKey T (mkV (ek k).isAgg c) ents.toList).run P E.w = .ok ((m.findIdx? fun p => decide (k = p.1)).bind fun i => (ents[i]?).map fun e => (i, e.val)) E.w := by
  have := hK.find ents.toList (m.map (·.1)) hc (by simp [h.size]) (fun i e k' h1 h2 => by
    simp only [List.getElem?_map, Option.map_eq_some_iff] at h2
    obtain ⟨p, q1, rfl⟩ := h2
    obtain ⟨ck, cx, r1, r2, r3, r4⟩ := h.at_ i p e q1 (by simpa using h1)
    exact ⟨ck, r1, r3⟩)
  rw [this, find_idx]
  simp

theorem run_getObj {w : World} {b : Nat} {ents : Array MapEntry} {clock : Nat} (h : w.heap[b]? = some (.map ents clock)) : (getObj b).run P w = .ok (.map ents clock) w := by
  simp [getObj, Sem.run, h]
theorem run_setObj {w : World} {b : Nat} {ents : Array MapEntry} {clock : Nat} (x : Obj) (h : w.heap[b]? = some (.map ents clock)) : (setObj b x).run P w = .ok () { w with heap := w.heap.setIfInBounds b x } := by
  simp [setObj, Sem.run, h]

end

/-- A map's block written anew. -/
theorem R0.setMap {cx : Cx} {s : St} {a : Act} {E : Env} (h : R0 cx s a E) {o ver b clock clock' : Nat} {κ β : Type} {ek : κ → D} {ev : β → D} {m m' : List (κ × β)} {ents ents' : Array MapEntry} (ho : s.obj o = some (.map ver (mD ek ev m)))
    (hm : MapAt E o ver ek ev m b ents clock) (hsz : ents'.size = m'.length)
    (hat : ∀ (i : Nat) p ent, m'[i]? = some p → ents'[i]? = some ent → ∃ ck cx, DR E.I E.w (ek p.1) ck ∧ DR E.I E.w (ev p.2) cx ∧ ent.key = mkV (ek p.1).isAgg ck ∧ ent.val = mkV (ev p.2).isAgg cx)
    (hnd : (ents'.toList.map (·.born)).Nodup) (hlt : ∀ n ∈ ents'.toList.map (·.born), n < clock') :
    ∃ E', E'.w = { E.w with heap := E.w.heap.setIfInBounds b (.map ents' clock') } ∧ R0 cx (s.set o (.map (ver + 1) (mD ek ev m'))) a E' := by
  have hbl : b < E.w.heap.size := (Array.getElem?_eq_some_iff.1 hm.heap).1
  refine ⟨E.turn o (.map (ver + 1) (mD ek ev m')) (some b) clock' (ents'.toList.map (·.born)) { E.w with heap := E.w.heap.setIfInBounds b (.map ents' clock') }, rfl, ?_⟩
  refine h.turn ho (by simp) (fun k hk => by cases hk; exact .inl hm.β) (fun k hk hne => ?_) rfl rfl rfl ?_ (fun he => ?_) (fun v es e => by cases e; exact ⟨_, rfl⟩)
  · have : b ≠ k := fun e => hne (by rw [← e]; exact hm.β)
    simp [Array.getElem?_setIfInBounds_ne this]
  · simp [OExt, Env.turn, Env.new, hm.β]
  · refine MapAt.or (b := b) (ents := ents') (clock := clock') ⟨by simp [Env.turn, Env.new], by simp [Env.turn, Env.new, hbl], hsz, fun i p ent p1 p2 => ?_, by simp [Env.turn, Env.new], by simpa [Env.turn, Env.new] using hnd, by simpa [Env.turn, Env.new] using hlt, by simp [Env.turn, Env.new]⟩
    obtain ⟨ck, cx', r1, r2, r3, r4⟩ := hat i p ent p1 p2
    exact ⟨ck, cx', r1.mono he.hz he.imm, r2.mono he.hz he.imm, r3, r4⟩

section
variable {P : Program} {N : Nat × Nat} {ops : Array Oper} {i : Nat} {s : St} {d : Nat} {ty : TypeId} {pos : String} {af : Array Edge} {g : Option (Nat × Bool)} {gs : List Nat}

theorem o_mkmap {T : TypeId} {κ β : Type} (ek : κ → D) (ev : β → D) (o : Nat) (ho : ops[i]? = some ⟨some d, .makeMap T none, ty, pos, af, g⟩) (hd : Nat.ble (d + 1) N.1 = true) (hg : G ops s g gs) (hn : s.obj o = none) :
    Valid P N ops i ⟨gs ++ [], [o], some (d, some (.map o)), [(o, .map 0 (mD ek ev []))]⟩ s :=
  valid_core ho rfl hd hg fun s' _ ho' cx a E _ hR => by
    have hno := noObj ho' hn
    have hno' : E.obj o = none := by rw [hR.obj]; exact hno
    refine ⟨.map (some E.w.heap.size), E.new o (.map 0 (mD ek ev [])) (some E.w.heap.size) 0 [] (E.w.alloc (.map #[] 0)), ?_, ?_, ?_⟩
    · simp only [execOp, Instr.makeMap, Option.map_none, Sem.run_bind, Sem.run_pure, Result.andThen]
      rfl
    · exact ⟨_, .map (ver := 0) (es := mD ek ev []) (by simp [Env.new, upd_eq]) (by simp [Env.new]), rfl⟩
    · refine hR.new hno (by simp) (fun k hk => by cases hk; exact Nat.le_refl _) (fun k hk => Below.heap_alloc _ _ _ hk) (hR.keeps.grow _) ?_
      exact ⟨E.w.heap.size, #[], 0, by simp [Env.new], alloc_new _ _, by simp [mD], fun i k x ent p1 p2 => by simp at p2, by simp [Env.new], by simp [Env.new], by simp [Env.new]⟩

theorem o_mapset {T kt vt : TypeId} {x k v : Operand} {o ver : Nat} {κ β : Type} [DecidableEq κ] {ek : κ → D} {ev : β → D} {m m' : List (κ × β)} (kk : κ) (vv : β) (ho : ops[i]? = some ⟨none, .mapUpdate T x k v, ty, pos, af, g⟩) (hg : G ops s g gs)
    (hx : s.val x = some (.map o)) (hob : s.obj o = some (.map ver (mD ek ev m))) (hk : s.val k = some (.d (ek kk))) (hv : s.val v = some (.d (ev vv))) (hT : mpB P T = some (kt, vt)) (hK : KL P kt ek) (hm : mset m kk vv = m') :
    Valid P N ops i ⟨gs ++ (opTmps x ++ (opTmps k ++ opTmps v)), [o], none, [(o, .map (ver + 1) (mD ek ev m'))]⟩ s :=
  valid_skip ho rfl hg fun s' hs ho' cx a E _ hR => by
    subst hm
    obtain ⟨m1, m2, m3⟩ := mem_app3 hs
    have hob' : s'.obj o = some (.map ver (mD ek ev m)) := (ho' o (by simp)).trans hob
    obtain ⟨cs, k1, k2⟩ := hR.val ((val_agree m1).trans hx)
    obtain ⟨ck, q1, q2⟩ := hR.val ((val_agree m2).trans hk)
    obtain ⟨cv, r1, r2⟩ := hR.val ((val_agree m3).trans hv)
    obtain ⟨b, ents, clock, hM⟩ := mapAt_of (hR.objs _ _ hob')
    cases q1 with
    | d q1 =>
    cases r1 with
    | d r1 =>
    cases k1 with
    | map t1 t2 =>
      rw [hM.β] at t2; cases t2
      have e1 : a.eval x = .map (some b) := k2
      simp only [AV.isAgg] at q2 r2
      have hfind := run_find hK hM q1
      have hchk := hK.check (P := P) false q1
      have hidx : ∀ j, m.findIdx? (fun p => decide (kk = p.1)) = some j → ∃ p, m[j]? = some p ∧ p.1 = kk ∧ j < ents.size := by
        intro j hj
        obtain ⟨h1, h2, _⟩ := List.findIdx?_eq_some_iff_getElem.1 hj
        exact ⟨m[j], by simp [h1], by simpa using (of_decide_eq_true h2).symm, by rw [hM.size]; exact h1⟩
      cases hf : m.findIdx? (fun p => decide (kk = p.1)) with
      | none =>
        rw [hf] at hfind
        obtain ⟨E', w1, w2⟩ := hR.setMap hob' hM (m' := m ++ [(kk, vv)]) (ents' := ents.push ⟨mkV (ek kk).isAgg ck, mkV (ev vv).isAgg cv, clock⟩) (clock' := clock + 1) (by simp [hM.size])
          (fun j p ent p1 p2 => by
            by_cases hj : j < m.length
            · rw [List.getElem?_append_left hj] at p1
              rw [Array.getElem?_push_lt (by rw [hM.size]; exact hj)] at p2
              exact hM.at_ j p ent p1 (by rw [← p2]; simp [hM.size, hj])
            · rw [List.getElem?_append_right (by omega)] at p1
              have : j - m.length = 0 := by
                have := (List.getElem?_eq_some_iff.1 p1).1
                simp at this; omega
              rw [this] at p1
              cases p1
              have hj' : j = ents.size := by rw [hM.size]; omega
              subst hj'
              rw [Array.getElem?_push_size] at p2
              cases p2
              exact ⟨ck, cv, q1, r1, rfl, rfl⟩)
          (by
            rw [Array.toList_push, List.map_append, List.nodup_append]
            refine ⟨by rw [← hM.δ]; exact hM.nodup, by simp, fun x hx y hy => ?_⟩
            simp at hy
            subst hy
            have := hM.lt x (by rw [hM.δ]; exact hx)
            omega)
          (fun n hn => by
            rw [Array.toList_push, List.map_append, List.mem_append] at hn
            rcases hn with hn | hn
            · have := hM.lt n (by rw [hM.δ]; exact hn); omega
            · simp at hn; omega)
        refine ⟨.skip, E', ?_, .inl rfl, ?_⟩
        · rw [w1]
          simp only [execOp]
          rw [e1, q2, r2]
          simp only [Instr.mapUpdate, Sem.run_bind, run_underlying (mpB_under hT), Result.andThen, run_getObj hM.heap, hchk, hfind, Option.bind_none, run_setObj _ hM.heap]
          rfl
        · simp only [mset, hf]; exact w2
      | some j =>
        obtain ⟨p, hp1, hp2, hp3⟩ := hidx j hf
        rw [hf] at hfind
        obtain ⟨ent, hent⟩ : ∃ ent, ents[j]? = some ent := ⟨ents[j], by simp [hp3]⟩
        obtain ⟨ck', cx', u1, u2, u3, u4⟩ := hM.at_ j p ent hp1 hent
        rw [hp2] at u1 u3
        have hbits := hK.bits u1 q1
        obtain ⟨E', w1, w2⟩ := hR.setMap hob' hM (m' := m.set j (kk, vv)) (ents' := ents.modify j fun e => { e with key := mkV (ek kk).isAgg ck, val := mkV (ev vv).isAgg cv }) (clock' := clock) (by simp [hM.size])
          (fun j' p' ent' p1 p2 => by
            rw [Array.getElem?_modify] at p2
            by_cases hj : j = j'
            · subst hj
              rw [if_pos rfl, hent] at p2
              cases p2
              rw [List.getElem?_set_self (List.getElem?_eq_some_iff.1 hp1).1] at p1
              cases p1
              exact ⟨ck, cv, q1, r1, rfl, rfl⟩
            · rw [if_neg hj] at p2
              rw [List.getElem?_set_ne hj] at p1
              exact hM.at_ j' p' ent' p1 p2)
          (by
            have : (ents.modify j fun e => { e with key := mkV (ek kk).isAgg ck, val := mkV (ev vv).isAgg cv }).toList.map (·.born) = ents.toList.map (·.born) := by
              apply List.ext_getElem?
              intro n
              simp only [List.getElem?_map, Array.getElem?_toList, Array.getElem?_modify]
              split
              · rename_i e; subst e; cases ents[j]? <;> rfl
              · rfl
            rw [this, ← hM.δ]; exact hM.nodup)
          (fun n hn => by
            have : (ents.modify j fun e => { e with key := mkV (ek kk).isAgg ck, val := mkV (ev vv).isAgg cv }).toList.map (·.born) = ents.toList.map (·.born) := by
              apply List.ext_getElem?
              intro n
              simp only [List.getElem?_map, Array.getElem?_toList, Array.getElem?_modify]
              split
              · rename_i e; subst e; cases ents[j]? <;> rfl
              · rfl
            rw [this, ← hM.δ] at hn
            exact hM.lt n hn)
        refine ⟨.skip, E', ?_, .inl rfl, ?_⟩
        · rw [w1]
          simp only [execOp]
          rw [e1, q2, r2]
          simp only [Instr.mapUpdate, Sem.run_bind, run_underlying (mpB_under hT), Result.andThen, run_getObj hM.heap, hchk, hfind, Option.bind_some, hent, Option.map_some, Option.getD_some, u3, Instr.keyThatStays, hbits, if_true, Sem.run_pure, run_setObj _ hM.heap]
        · simp only [mset, hf]; exact w2

theorem o_mapget {T kt vt : TypeId} {x k : Operand} {o ver : Nat} {κ β : Type} [DecidableEq κ] {ek : κ → D} {ev : β → D} {m : List (κ × β)} (kk : κ) (v0 : β) {c : Bool} {r : β} {is : Bool} (ho : ops[i]? = some ⟨some d, .lookup T x k c, ty, pos, af, g⟩) (hd : Nat.ble (d + 1) N.1 = true) (hg : G ops s g gs)
    (hx : s.val x = some (.map o)) (hob : s.obj o = some (.map ver (mD ek ev m))) (hk : s.val k = some (.d (ek kk))) (hT : mpB P T = some (kt, vt)) (hK : KL P kt ek) (hZ : Zero P vt (ev v0)) (hr : (mget m kk).getD v0 = r) (his : (mget m kk).isSome = is) :
    Valid P N ops i ⟨gs ++ (opTmps x ++ opTmps k), [o], some (d, some (bif c then .tup [.d (ev r), .d (.v (.bool is))] else .d (ev r))), []⟩ s :=
  valid_core ho rfl hd hg fun s' hs ho' cx a E _ hR => by
    subst hr; subst his
    obtain ⟨m1, m2⟩ := mem_app hs
    have hob' : s'.obj o = some (.map ver (mD ek ev m)) := (ho' o (by simp)).trans hob
    obtain ⟨cs, k1, k2⟩ := hR.val ((val_agree m1).trans hx)
    obtain ⟨ck, q1, q2⟩ := hR.val ((val_agree m2).trans hk)
    obtain ⟨b, ents, clock, hM⟩ := mapAt_of (hR.objs _ _ hob')
    obtain ⟨zs, z1, z2⟩ := hZ E.I E.w
    cases q1 with
    | d q1 =>
    cases k1 with
    | map t1 t2 =>
      rw [hM.β] at t2; cases t2
      have e1 : a.eval x = .map (some b) := k2
      simp only [AV.isAgg] at q2
      have hfind := run_find hK hM q1
      have hchk := hK.check (P := P) ents.isEmpty q1
      -- what is found
      have fin : ∀ (v : Value) (y : β) (f : Bool), VR E (.d (ev y)) v → (execOp a.eval ⟨some d, .lookup T x k c, ty, pos, af, g⟩).run P E.w = .ok (.value (if c then .tuple #[v, .bool f] else v)) E.w →
          ∃ v E', (execOp a.eval ⟨some d, .lookup T x k c, ty, pos, af, g⟩).run P E.w = .ok (.value v) E'.w ∧ VR E' (bif c then .tup [.d (ev y), .d (.v (.bool f))] else .d (ev y)) v ∧ R0 cx { s' with obj := setAll s'.obj [] } a E' := by
        intro v y f hv hrun
        refine ⟨_, E, hrun, ?_, r0_same hR⟩
        cases c with
        | false => exact hv
        | true =>
          obtain ⟨c1, p1, p2⟩ := hv
          simp only [cond_true, if_true]
          refine ⟨_, .tup (.cons p1 (.cons (.d (.v (x := .bool f) rfl)) .nil)), ?_⟩
          rw [p2]; rfl
      cases hf : m.findIdx? (fun p => decide (kk = p.1)) with
      | none =>
        rw [hf] at hfind
        have hget : mget m kk = none := by
          unfold mget
          rw [Option.map_eq_none_iff, List.find?_eq_none]
          intro p hp
          have := List.findIdx?_eq_none_iff.1 hf p hp
          simpa using this
        rw [hget]
        refine fin _ _ _ ⟨_, .d z1, rfl⟩ ?_
        simp only [execOp]
        rw [e1, q2]
        simp only [Instr.lookup, Sem.run_bind, run_underlying (mpB_under hT), Result.andThen, run_getObj hM.heap, Sem.run_pure, hchk, hfind, Option.bind_none, run_zero z2]
        rfl
      | some j =>
        obtain ⟨h1, h2, h3⟩ := List.findIdx?_eq_some_iff_getElem.1 hf
        have hj : j < ents.size := by rw [hM.size]; exact h1
        obtain ⟨ent, hent⟩ : ∃ ent, ents[j]? = some ent := ⟨ents[j], by simp [hj]⟩
        rw [hf] at hfind
        obtain ⟨ck', cx', u1, u2, u3, u4⟩ := hM.at_ j m[j] ent (by simp [h1]) hent
        have hget : mget m kk = some m[j].2 := by
          unfold mget
          have : m.find? (fun p => decide (kk = p.1)) = some m[j] := List.find?_eq_some_iff_getElem.2 ⟨h2, j, h1, rfl, fun j' hj' => by simpa using h3 j' hj'⟩
          rw [this]
          rfl
        rw [hget]
        refine fin _ _ _ ⟨_, .d u2, rfl⟩ ?_
        simp only [execOp]
        rw [e1, q2]
        simp only [Instr.lookup, Sem.run_bind, run_underlying (mpB_under hT), Result.andThen, run_getObj hM.heap, Sem.run_pure, hchk, hfind, Option.bind_some, hent, Option.map_some, u4, AV.isAgg]
        rfl

theorem mdel_idx {κ β : Type} [DecidableEq κ] (m : List (κ × β)) (k : κ) : mdel m k = match m.findIdx? fun p => decide (k = p.1) with
    | some i => m.eraseIdx i
    | none => m := by
  unfold mdel
  rw [List.eraseP_eq_eraseIdx]
  cases m.findIdx? fun p => decide (k = p.1) <;> rfl

theorem o_mapdel {T kt vt T2 : TypeId} {x k : Operand} {o ver : Nat} {κ β : Type} [DecidableEq κ] {ek : κ → D} {ev : β → D} {m m' : List (κ × β)} (kk : κ) (ho : ops[i]? = some ⟨none, .call ⟨.builtin .delete, #[x, k], #[T, T2]⟩, ty, pos, af, g⟩) (hg : G ops s g gs)
    (hx : s.val x = some (.map o)) (hob : s.obj o = some (.map ver (mD ek ev m))) (hk : s.val k = some (.d (ek kk))) (hT : mpB P T = some (kt, vt)) (hK : KL P kt ek) (hm : mdel m kk = m') :
    Valid P N ops i ⟨gs ++ (opTmps x ++ opTmps k), [o], none, [(o, .map (ver + 1) (mD ek ev m'))]⟩ s :=
  valid_skip ho rfl hg fun s' hs ho' cx a E _ hR => by
    subst hm
    obtain ⟨m1, m2⟩ := mem_app hs
    have hob' : s'.obj o = some (.map ver (mD ek ev m)) := (ho' o (by simp)).trans hob
    obtain ⟨cs, k1, k2⟩ := hR.val ((val_agree m1).trans hx)
    obtain ⟨ck, q1, q2⟩ := hR.val ((val_agree m2).trans hk)
    obtain ⟨b, ents, clock, hM⟩ := mapAt_of (hR.objs _ _ hob')
    cases q1 with
    | d q1 =>
    cases k1 with
    | map t1 t2 =>
      rw [hM.β] at t2; cases t2
      have e1 : a.eval x = .map (some b) := k2
      simp only [AV.isAgg] at q2
      have hfind := run_find hK hM q1
      have hchk := hK.check (P := P) ents.isEmpty q1
      rw [mdel_idx]
      cases hf : m.findIdx? (fun p => decide (kk = p.1)) with
      | none =>
        rw [hf] at hfind
        obtain ⟨E', w1, w2⟩ := hR.setMap hob' hM (m' := m) (ents' := ents) (clock' := clock) hM.size hM.at_ (by rw [← hM.δ]; exact hM.nodup) (fun n hn => hM.lt n (by rw [hM.δ]; exact hn))
        refine ⟨.value (.tuple #[]), E', ?_, .inr ⟨_, rfl⟩, w2⟩
        rw [w1]
        simp only [execOp, resolve, Sem.run_bind, Sem.run_pure, Result.andThen, invoke, builtin, List.map_toArray, List.map_cons, List.map_nil]
        rw [e1, q2]
        simp only [Builtin.delete_, Sem.run_bind, run_underlying (mpB_under hT), Result.andThen, run_getObj hM.heap, Sem.run_pure, hchk, hfind, Option.bind_none, run_setObj _ hM.heap, List.getElem?_toArray, List.getElem?_cons_zero, List.getElem?_cons_succ]
      | some j =>
        obtain ⟨h1, h2, h3⟩ := List.findIdx?_eq_some_iff_getElem.1 hf
        have hj : j < ents.size := by rw [hM.size]; exact h1
        obtain ⟨ent, hent⟩ : ∃ ent, ents[j]? = some ent := ⟨ents[j], by simp [hj]⟩
        rw [hf] at hfind
        have hlist : (ents.eraseIdxIfInBounds j).toList = ents.toList.eraseIdx j := by
          rw [Array.eraseIdxIfInBounds_eq, dif_pos hj, Array.toList_eraseIdx]
        have hsub : ((ents.eraseIdxIfInBounds j).toList.map (·.born)).Sublist (ents.toList.map (·.born)) := by
          rw [hlist]; exact (List.eraseIdx_sublist _ _).map _
        obtain ⟨E', w1, w2⟩ := hR.setMap hob' hM (m' := m.eraseIdx j) (ents' := ents.eraseIdxIfInBounds j) (clock' := clock)
          (by rw [← Array.length_toList, hlist, List.length_eraseIdx, List.length_eraseIdx, Array.length_toList, hM.size])
          (fun j' p' ent' p1 p2 => by
            rw [← Array.getElem?_toList, hlist, List.getElem?_eraseIdx] at p2
            rw [List.getElem?_eraseIdx] at p1
            split at p1
            · rename_i h; rw [if_pos h] at p2; exact hM.at_ j' p' ent' p1 (by simpa using p2)
            · rename_i h; rw [if_neg h] at p2; exact hM.at_ (j' + 1) p' ent' p1 (by simpa using p2))
          (hsub.nodup (by rw [← hM.δ]; exact hM.nodup)) (fun n hn => hM.lt n (by rw [hM.δ]; exact hsub.subset hn))
        refine ⟨.value (.tuple #[]), E', ?_, .inr ⟨_, rfl⟩, w2⟩
        rw [w1]
        simp only [execOp, resolve, Sem.run_bind, Sem.run_pure, Result.andThen, invoke, builtin, List.map_toArray, List.map_cons, List.map_nil]
        rw [e1, q2]
        simp only [Builtin.delete_, Sem.run_bind, run_underlying (mpB_under hT), Result.andThen, run_getObj hM.heap, Sem.run_pure, hchk, hfind, Option.bind_some, hent, Option.map_some, run_setObj _ hM.heap, List.getElem?_toArray, List.getElem?_cons_zero, List.getElem?_cons_succ]

theorem o_maplen {T kt vt : TypeId} {x : Operand} {o ver : Nat} {κ β : Type} {ek : κ → D} {ev : β → D} {m : List (κ × β)} (ho : ops[i]? = some ⟨some d, .call ⟨.builtin .len, #[x], #[T]⟩, ty, pos, af, g⟩) (hd : Nat.ble (d + 1) N.1 = true) (hg : G ops s g gs)
    (hx : s.val x = some (.map o)) (hob : s.obj o = some (.map ver (mD ek ev m))) (hT : mpB P T = some (kt, vt)) :
    Valid P N ops i ⟨gs ++ opTmps x, [o], some (d, some (.d (.v (.int .i64 m.length)))), []⟩ s :=
  valid_core ho rfl hd hg fun s' hs ho' cx a E _ hR => by
    have hob' : s'.obj o = some (.map ver (mD ek ev m)) := (ho' o (by simp)).trans hob
    obtain ⟨cs, k1, k2⟩ := hR.val ((val_agree hs).trans hx)
    obtain ⟨b, ents, clock, hM⟩ := mapAt_of (hR.objs _ _ hob')
    cases k1 with
    | map t1 t2 =>
      rw [hM.β] at t2; cases t2
      have e1 : a.eval x = .map (some b) := k2
      refine ⟨_, E, ?_, .of_sc rfl, r0_same hR⟩
      simp only [execOp, resolve, Sem.run_bind, Sem.run_pure, Result.andThen, invoke, builtin, List.map_toArray, List.map_cons, List.map_nil]
      rw [e1]
      simp only [Builtin.len_, Sem.run_bind, run_underlying (mpB_under hT), Result.andThen, run_getObj hM.heap, Sem.run_pure, List.getElem?_toArray, List.getElem?_cons_zero, goInt, hM.size]

end
end Go.Val
