/- slices.Collect(seq), at the world's level. -/
import Derived.Test.YtlcnkhphgekmeaaVv
import Derived.Sort.Grow
set_option linter.unusedSectionVars false
set_option linter.unusedVariables false
set_option linter.unusedSimpArgs false
namespace Go.Val
open Go.RowKit
section
variable [Drw]

section
variable {F : Fence} {n : Nat} {P : Program} {ops : Array Oper} {Q : Exit → Act → World → Prop} {rest : List Nat} {i : Nat} {a : Act} {w w' : World} {o : Oper}
/-- One operation that enters a function. -/
theorem in_enter {f : FuncId} {args : Array Value} (ho : ops[i]? = some o) (hg : o.guard = none) (hd : ∀ c, o.op ≠ .defer c) (hF : ∀ f, F.fn f) (hdp : F.depth = none) (hrun : (execOp a.eval o).run P w = .ok (.enter f args) w')
    (hK : CallsIn F (n - 1) P f args w' (fun e w'' => ∃ v, e = .returned v ∧ wpOpsIn F n P ops Q rest (a.put o.dst v) w'')) : wpOpsIn F n P ops Q (i :: rest) a w := by
  have hw : Region.wanted o (yielded ops a.tmps) = true := by unfold Region.wanted; rw [hg]
  simp only [wpOpsIn, ho, hw, if_true]
  refine ⟨fun f _ => hF f, ?_⟩
  rw [Oper.semAt_eq _ _ _ hd, hrun, Oper.uponIn_enter]
  refine ⟨fun h => (by rw [hdp] at h; cases h), hK.mono ?_⟩
  rintro e w'' ⟨v, rfl, h⟩
  exact h
end

theorem frame_of {P : Program} {fn : Func} {args : Array Value} {k : Nat} (hn : fn.ntmps = k) (hk : args.size ≤ k) :
    ∃ a : Act, a.tmps.size = k ∧ a.defers = [] ∧ (∀ (t : Nat) v, args[t]? = some v → a.eval (.tmp t) = v) ∧ ({ tmps := args ++ Array.replicate (fn.ntmps - args.size) undef, defers := [] } : Act) = a := by
  refine ⟨_, by simp [hn]; omega, rfl, fun t v h => ?_, rfl⟩
  simp only [Act.eval]
  rw [Array.getD_eq_getD_getElem?, Array.getElem?_append_left (Array.getElem?_eq_some_iff.1 h).1, h]
  rfl

/-- slices.Collect(seq). -/
theorem collect {P : Program} {f g1 : FuncId} {fn fn1 : Func} {α : Type} {enc : α → List Value} {k n : Nat} {kt : TypeId} {S : List α → Prop}
    {u0 u1 u2 u3 t0 t1 : TypeId} {p0 p1 p2 p3 : String} {h0 h1 h2 h3 : Array Edge} {c0 c1 : Nat} {g : Nat} {lb : Array Value} {w : World}
    (hf : P.funcs[f]? = some fn) (hb : fn.body = some (.seq (.region c0 #[⟨some 2, .assign (.const (.slice none 0 0)), u0, p0, h0, none⟩] false)
      (.seq (.region c1 #[⟨some 3, .move (.tmp 0), u1, p1, h1, none⟩, ⟨some 4, .call ⟨.value (.func g1), #[.const (.slice none 0 0), .tmp 3], #[t0, t1]⟩, u2, p2, h2, none⟩, ⟨some 2, .assign (.tmp 4), u3, p3, h3, none⟩] false) .ret)))
    (hn : fn.ntmps = 5) (hr : fn.results = #[.tmp 2]) (hf1 : P.funcs[g1]? = some fn1) (hnm : (fn1.name == "runtime.NumGoroutine") = false) (hbd : fn1.body.isNone = false)
    (hA : CallsIn Fence.wide (n - 1) P g1 #[.slice none 0 0, .func (.func g) #[] lb] w fun e w' => ∃ v ss, e = .returned v ∧ S ss ∧ RowAt w.heap.size k kt v (ss.flatMap enc) ss.length w' ∧ Below w.heap.size w w') :
    CallsIn Fence.wide n P f #[.func (.func g) #[] lb] w fun e w' => ∃ v ss, e = .returned v ∧ S ss ∧ RowAt w.heap.size k kt v (ss.flatMap enc) ss.length w' ∧ Below w.heap.size w w' := by
  refine callsIn_of_wp hf hb trivial ?_ rfl
  obtain ⟨a, hsz, hdef, ha0, ha⟩ := frame_of (P := P) (args := #[.func (.func g) #[] lb]) hn (by simp)
  rw [ha]
  have e0 : a.eval (.tmp 0) = .func (.func g) #[] lb := ha0 0 _ rfl
  clear ha ha0
  refine wpIn_seq (wpIn_region ?_)
  refine in_val (o := ⟨some 2, .assign (.const (.slice none 0 0)), u0, p0, h0, none⟩) (v := .slice none 0 0) (w' := w) rfl rfl (by intro c h; cases h) (fun _ => trivial) (by simp [execOp, Act.eval]) ?_
  show (Code.seq _ _).wpIn _ _ _ _ _ _
  refine wpIn_seq (wpIn_region ?_)
  refine in_val (o := ⟨some 3, .move (.tmp 0), u1, p1, h1, none⟩) (v := .func (.func g) #[] lb) (w' := w) rfl rfl (by intro c h; cases h) (fun _ => trivial) ?_ ?_
  · simp only [execOp]
    rw [eval_put (by omega)]
    simp [e0]
  refine in_enter (o := ⟨some 4, .call ⟨.value (.func g1), #[.const (.slice none 0 0), .tmp 3], #[t0, t1]⟩, u2, p2, h2, none⟩) (w' := w) (f := g1) (args := #[.slice none 0 0, .func (.func g) #[] lb]) rfl rfl (by intro c h; cases h) (fun _ => trivial) rfl ?_ (hA.mono ?_)
  · have e3 : ((a.put (some 2) (.slice none 0 0)).put (some 3) (.func (.func g) #[] lb)).eval (.tmp 3) = .func (.func g) #[] lb := by
      rw [eval_put (by rw [size_put]; omega)]; simp
    have := hos_func (P := P) (dd := some 4) (as := #[.const (.slice none 0 0), .tmp 3]) (ats := #[t0, t1]) (ty := u2) (pos := p2) (af := h2) (g := none) hf1 hnm hbd ((a.put (some 2) (.slice none 0 0)).put (some 3) (.func (.func g) #[] lb)) w
    rw [this]
    simp [e3, Act.eval]
    simpa [Act.eval] using e3
  rintro e w' ⟨v, ss, rfl, hS, hrow, hbe⟩
  refine ⟨v, rfl, ?_⟩
  refine in_val (o := ⟨some 2, .assign (.tmp 4), u3, p3, h3, none⟩) (v := v) (w' := w') rfl rfl (by intro c h; cases h) (fun _ => trivial) ?_ ?_
  · simp only [execOp]
    rw [eval_put (by rw [size_put, size_put]; omega)]
    simp
  refine wpIn_ret ?_
  refine ⟨hdef, v, ?_, v, ss, rfl, hS, hrow, hbe⟩
  rw [results_tmp hr]
  have := eval_put (a := (((a.put (some 2) (.slice none 0 0)).put (some 3) (.func (.func g) #[] lb)).put (some 4) v)) (d := 2) (t := 2) (v := v) (by rw [size_put, size_put, size_put]; omega)
  simpa [Act.eval] using this


/-- A world that kept all old blocks is the old one with draws and new blocks. -/
theorem grown_of {W w' : World} (hos : w'.os = W.os) (ht : w'.tape = W.tape) (ho : w'.output = W.output) (hs : W.heap.size ≤ w'.heap.size) (hb : ∀ b, b < W.heap.size → w'.heap[b]? = W.heap[b]?) (hd : W.drawn ≤ w'.drawn) :
    ∃ q os', w' = Go.Sort.grow { W with drawn := W.drawn + q } os' := by
  refine ⟨w'.drawn - W.drawn, w'.heap.extract W.heap.size w'.heap.size, ?_⟩
  obtain ⟨h, t, d, o, p⟩ := w'
  obtain ⟨h0, t0, d0, o0, p0⟩ := W
  simp only at hos ht ho hs hb hd
  subst hos; subst ht; subst ho
  simp only [Go.Sort.grow, World.mk.injEq, true_and, and_true]
  refine ⟨?_, by omega⟩
  apply Array.ext_getElem?
  intro i
  by_cases hi : i < h0.size
  · rw [Array.getElem?_append_left hi, hb i hi]
  · rw [Array.getElem?_append_right (by omega), Array.getElem?_extract]
    by_cases hj : i < h.size
    · rw [if_pos (by omega)]
      congr 1; omega
    · rw [if_neg (by omega)]
      exact Array.getElem?_eq_none (by omega)

end

/-- A contract of data alone, in the form that the sort asks for. -/
theorem calls_grow {P : Program} {f : FuncId} {x y : D} {r : Value} {cx cy : List Value} (h : @FnOk ⟨True⟩ P f [.d x, .d y] 0 (lk []) (fun rr oo => rr = .d (.v r) ∧ oo = lk [])) (W : World) (hx : ∀ I w, DR I w x cx) (hy : ∀ I w, DR I w y cy) :
    Calls P f #[mkV x.isAgg cx, mkV y.isAgg cy] W fun e w' => e = .returned r ∧ ∃ q os', w' = Go.Sort.grow { W with drawn := W.drawn + q } os' := by
  letI : Drw := ⟨True⟩
  let E : Env := ⟨lk [], fun _ => none, fun _ => 0, fun _ => [], fun _ => False, W⟩
  have := h (fun o ho => absurd rfl ho) E [mkV x.isAgg cx, mkV y.isAgg cy] rfl ⟨fun o ob (ho : none = some ob) => (nomatch ho), fun o o' b ho => absurd rfl ho⟩ (.cons (.d (hx _ _)) (.cons (.d (hy _ _)) .nil))
  refine this.mono ?_
  rintro e w' ⟨v, res, E', rfl, rfl, ⟨rfl, _⟩, hv, _, _, hk, _, _⟩
  have hvr := hv.sc
  subst hvr
  exact ⟨rfl, grown_of hk.os hk.tape hk.output hk.size (fun b hb => hk.block b hb (fun ⟨o, ho, _⟩ => ho rfl)) (hk.drawn trivial)⟩

end Go.Val
