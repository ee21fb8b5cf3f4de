/- From a contract over data to a row. -/
import Derived.Test.YtlcnkhphgekmeaaRa
set_option linter.unusedSectionVars false
set_option linter.unusedVariables false
set_option linter.unusedSimpArgs false
namespace Go.Val
open Go.RowKit Go.ChangeShapes

theorem post_of_below {H : Type} {enc : TypeId × Value → H} {P : Program} {f : Func} {s : ChangeSpec} {apart fresh handsOn : Bool} {W W' : World} {args : Array Value} {v : Value} {ds gs : List (DataW H)} {before pa pv : List MemPlace}
    (hW : DataW.Whole enc P f.params.toList s.vars apart W args.toList ds gs before) (hb : Below W.heap.size W W')
    (hres : ∀ (b : Nat) (sp : Nat → Bool) (hd : Bool), DataW.TrodAll enc P W' b sp hd f.resultTypes.toList (v.resultList f.resultTypes.size) (s.fn H (ds ++ gs)).results [])
    (hargs : DataW.TrodAll enc P W' 0 (fun b => decide (b < W.heap.size)) true f.params.toList args.toList (s.fn H (ds ++ gs)).args pa)
    (hvars : DataW.TrodVars enc P W' (fun b => decide (b < W.heap.size)) s.vars (s.fn H (ds ++ gs)).vars pv) :
    s.post enc P f apart fresh handsOn false W args v W' :=
  ⟨ds, gs, before, [], pa, pv, hW, hres _ _ _, hargs, hvars, hb.frame _, fun h => (nomatch h)⟩

theorem trodAll_nil_mk {H : Type} {enc : TypeId × Value → H} {P : Program} {W : World} {b : Nat} {sp : Nat → Bool} {hd : Bool} : DataW.TrodAll enc P W b sp hd [] [] [] [] := rfl

theorem trodAll_mkc {H : Type} {enc : TypeId × Value → H} {P : Program} {W : World} {b : Nat} {sp : Nat → Bool} {hd : Bool} {t : TypeId} {ts : List TypeId} {v : Value} {vs : List Value} {d : DataW H} {ds : List (DataW H)} {p p' : List MemPlace}
    (h : DataW.Trod enc P W b sp hd t v d p) (hs : DataW.TrodAll enc P W b sp hd ts vs ds p') : DataW.TrodAll enc P W b sp hd (t :: ts) (v :: vs) (d :: ds) (p ++ p') := ⟨p, p', h, hs, rfl⟩

theorem trodAll_five {H : Type} {enc : TypeId × Value → H} {P : Program} {w : World} {base : Nat} {spare : Nat → Bool} {held : Bool} {t0 t1 t2 t3 t4 : TypeId} {args : Array Value} {ds : List (DataW H)} {ps : List MemPlace} (h : DataW.TrodAll enc P w base spare held [t0, t1, t2, t3, t4] args.toList ds ps) :
    ∃ v0 v1 v2 v3 v4 d0 d1 d2 d3 d4 p0 p1 p2 p3 p4, args = #[v0, v1, v2, v3, v4] ∧ ds = [d0, d1, d2, d3, d4] ∧ ps = p0 ++ (p1 ++ (p2 ++ (p3 ++ p4))) ∧ DataW.Trod enc P w base spare held t0 v0 d0 p0 ∧ DataW.Trod enc P w base spare held t1 v1 d1 p1 ∧
      DataW.Trod enc P w base spare held t2 v2 d2 p2 ∧ DataW.Trod enc P w base spare held t3 v3 d3 p3 ∧ DataW.Trod enc P w base spare held t4 v4 d4 p4 := by
  obtain ⟨v0, vs0, d0, ds0, p0, q0, hargs, rfl, rfl, h0, k0⟩ := trodAll_cons h
  obtain ⟨v1, vs1, d1, ds1, p1, q1, rfl, rfl, rfl, h1, k1⟩ := trodAll_cons k0
  obtain ⟨v2, vs2, d2, ds2, p2, q2, rfl, rfl, rfl, h2, k2⟩ := trodAll_cons k1
  obtain ⟨v3, vs3, d3, ds3, p3, q3, rfl, rfl, rfl, h3, k3⟩ := trodAll_cons k2
  obtain ⟨v4, vs4, d4, ds4, p4, q4, rfl, rfl, rfl, h4, k4⟩ := trodAll_cons k3
  obtain ⟨rfl, rfl, rfl⟩ := trodAll_nil k4
  refine ⟨v0, v1, v2, v3, v4, d0, d1, d2, d3, d4, p0, p1, p2, p3, p4, Array.ext' hargs, rfl, by simp, h0, h1, h2, h3, h4⟩

theorem calls_true {P : Program} {f : FuncId} {vals : List Value} {as : List AV} {W : World} (h : FnOk P f as 0 (lk []) (fun rr oo => rr = .d (.v (.bool true)) ∧ oo = lk []))
    (ha : ∀ E : Env, E.w = W → (∀ b, E.I b ↔ b < W.heap.size) → VRs E as vals) : Calls P f vals.toArray W fun e W' => e = .returned (.bool true) ∧ Below W.heap.size W W' := by
  let E : Env := ⟨lk [], fun _ => none, fun _ => 0, fun _ => [], fun b => b < W.heap.size, W⟩
  have := h (fun o ho => absurd rfl ho) E vals rfl ⟨fun o ob (ho : none = some ob) => (nomatch ho), fun o o' b ho => absurd rfl ho⟩ (ha E rfl fun b => ⟨fun h => h.1, fun h => ⟨h, fun o ob (ho : none = some ob) => (nomatch ho)⟩⟩)
  refine this.mono ?_
  rintro e w' ⟨v, res, E', rfl, rfl, ⟨rfl, _⟩, hv, _, _, hk, _, _⟩
  have hvr := hv.sc
  subst hvr
  exact ⟨rfl, ⟨hk.os, hk.tape, hk.output, hk.size, fun b hb => hk.block b hb (fun ⟨o, ho, _⟩ => ho rfl)⟩⟩

/-- An argument of one cell. -/
theorem arg_one {H : Type} {enc : TypeId × Value → H} {P : Program} {t : TypeId} {κ : Type} {e : κ → D} (hR : Rd P t e) (hag : ∀ a, (e a).isAgg = false) {W : World} {v : Value} {d : DataW H} {ps : List MemPlace} (h1 : one v = true)
    (h : DataW.Trod enc P W 0 (fun _ => true) true t v d ps) : ∃ a : κ, ∀ E : Env, E.w = W → (∀ b, E.I b ↔ b < W.heap.size) → VR E (.d (e a)) v := by
  obtain ⟨fuel, hf⟩ := h
  obtain ⟨a, ha⟩ := hR.get enc W _ _ fuel _ _ hf
  have hc : v.cells.toList = [v] := by cases v <;> first | rfl | (simp [one] at h1)
  rw [hc] at ha
  refine ⟨a, fun E hE hI => ⟨[v], .d ?_, by simp [mkV, AV.isAgg, hag]⟩⟩
  subst hE
  exact ha.mono (Nat.le_refl _) fun b hb _ => ⟨(hI b).2 hb, rfl⟩

theorem vrs_of {E : Env} : ∀ {as : List AV} {vs : List Value}, as.length = vs.length → (∀ (i : Nat) (a : AV) (v : Value), as[i]? = some a → vs[i]? = some v → VR E a v) → VRs E as vs
  | [], [], _, _ => .nil
  | [], _ :: _, h, _ => by simp at h
  | _ :: _, [], h, _ => by simp at h
  | a :: as, v :: vs, hl, h => by
    obtain ⟨cs, h1, h2⟩ := h 0 a v rfl rfl
    subst h2
    exact .cons h1 (vrs_of (by simpa using hl) fun i a v h3 h4 => h (i + 1) a v h3 h4)

theorem one_slice {P : Program} {W : World} {r : Reach} {b : Nat} {t e : TypeId} {v : Value} (un : P.underlying t = some (.slice e)) (h : Value.okWide P W r b t v) : one v = true := by
  cases v <;> first | rfl | (simp [Value.okWide, un, Cell.okWide, Cell.ok] at h)
theorem one_int {P : Program} {W : World} {r : Reach} {b : Nat} {t : TypeId} {k : IntKind} {v : Value} (un : P.underlying t = some (.int k)) (h : Value.okWide P W r b t v) : one v = true := by
  cases v <;> first | rfl | (simp [Value.okWide, un, Cell.okWide, Cell.ok] at h)

theorem VRs.cons_vr {E : Env} {x : AV} {xs : List AV} {v : Value} {vs : List Value} (h : VR E x v) (hs : VRs E xs vs) : VRs E (x :: xs) (v :: vs) := by
  obtain ⟨cs, h1, h2⟩ := h
  subst h2
  exact .cons h1 hs

end Go.Val
