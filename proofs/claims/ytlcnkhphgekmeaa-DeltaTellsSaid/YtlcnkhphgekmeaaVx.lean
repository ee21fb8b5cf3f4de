/- slices.SortedFunc(seq, compare), at the world's level, by Collect's and the sort's contracts. -/
import Derived.Test.YtlcnkhphgekmeaaVw
set_option linter.unusedSectionVars false
set_option linter.unusedVariables false
set_option linter.unusedSimpArgs false
namespace Go.Val
open Go.RowKit
variable [Drw]

theorem sorted_func {P : Program} {f g1 g2 : FuncId} {fn fn1 fn2 : Func} {α : Type} {enc : α → List Value} {k n : Nat} {kt : TypeId} {S : List α → Prop} {srt : List α → List α}
    {u0 u1 u2 u3 u4 u5 u6 u7 u8 t0 t1 t2 : TypeId} {p0 p1 p2 p3 p4 p5 p6 p7 p8 : String} {h0 h1 h2 h3 h4 h5 h6 h7 h8 : Array Edge} {c0 c1 c2 c3 : Nat} {sv cv : Value} {w : World}
    (hf : P.funcs[f]? = some fn) (hb : fn.body = some (.seq (.region c0 #[⟨some 4, .assign (.const (.slice none 0 0)), u0, p0, h0, none⟩] false)
      (.seq (.region c1 #[⟨some 6, .move (.tmp 0), u1, p1, h1, none⟩, ⟨some 7, .call ⟨.value (.func g1), #[.tmp 6], #[t0]⟩, u2, p2, h2, none⟩, ⟨some 5, .assign (.tmp 7), u3, p3, h3, none⟩] false)
      (.seq (.region c2 #[⟨some 8, .move (.tmp 5), u4, p4, h4, none⟩, ⟨some 9, .move (.tmp 1), u5, p5, h5, none⟩, ⟨some 10, .call ⟨.value (.func g2), #[.tmp 8, .tmp 9], #[t1, t2]⟩, u6, p6, h6, none⟩] false)
      (.seq (.region c3 #[⟨some 11, .move (.tmp 5), u7, p7, h7, none⟩, ⟨some 4, .assign (.tmp 11), u8, p8, h8, none⟩] false) .ret)))))
    (hn : fn.ntmps = 12) (hr : fn.results = #[.tmp 4]) (hf1 : P.funcs[g1]? = some fn1) (hnm1 : (fn1.name == "runtime.NumGoroutine") = false) (hbd1 : fn1.body.isNone = false)
    (hf2 : P.funcs[g2]? = some fn2) (hnm2 : (fn2.name == "runtime.NumGoroutine") = false) (hbd2 : fn2.body.isNone = false)
    (hC : CallsIn Fence.wide (n - 1) P g1 #[sv] w fun e w' => ∃ v ss, e = .returned v ∧ S ss ∧ RowAt w.heap.size k kt v (ss.flatMap enc) ss.length w' ∧ Below w.heap.size w w')
    (hS : ∀ (W : World) (v : Value) (ss : List α), S ss → RowAt w.heap.size k kt v (ss.flatMap enc) ss.length W → w.heap.size ≤ W.heap.size → CallsIn Fence.wide (n - 1) P g2 #[v, cv] W fun e w' => (∃ u, e = .returned u) ∧ RowAt w.heap.size k kt v ((srt ss).flatMap enc) ss.length w' ∧ Below w.heap.size W w') :
    CallsIn Fence.wide n P f #[sv, cv] w fun e w' => ∃ v ss, e = .returned v ∧ S ss ∧ RowAt w.heap.size k kt v ((srt ss).flatMap enc) ss.length w' ∧ Below w.heap.size w w' := by
  refine callsIn_of_wp hf hb trivial ?_ rfl
  obtain ⟨a, hsz, hdef, ha0, ha⟩ := frame_of (P := P) (args := #[sv, cv]) hn (by simp)
  rw [ha]
  have e0 : a.eval (.tmp 0) = sv := ha0 0 _ rfl
  have e1 : a.eval (.tmp 1) = cv := ha0 1 _ rfl
  clear ha ha0
  refine wpIn_seq (wpIn_region ?_)
  refine in_val (o := ⟨some 4, .assign (.const (.slice none 0 0)), u0, p0, h0, none⟩) (v := .slice none 0 0) (w' := w) rfl rfl (by intro c h; cases h) (fun _ => trivial) (by simp [execOp, Act.eval]) ?_
  show (Code.seq _ _).wpIn _ _ _ _ _ _
  refine wpIn_seq (wpIn_region ?_)
  refine in_val (o := ⟨some 6, .move (.tmp 0), u1, p1, h1, none⟩) (v := sv) (w' := w) rfl rfl (by intro c h; cases h) (fun _ => trivial) ?_ ?_
  · simp only [execOp]
    rw [eval_put (by omega)]
    simp [e0]
  refine in_enter (o := ⟨some 7, .call ⟨.value (.func g1), #[.tmp 6], #[t0]⟩, u2, p2, h2, none⟩) (w' := w) (f := g1) (args := #[sv]) rfl rfl (by intro c h; cases h) (fun _ => trivial) rfl ?_ (hC.mono ?_)
  · have e6 : ((a.put (some 4) (.slice none 0 0)).put (some 6) sv).eval (.tmp 6) = sv := by
      rw [eval_put (by rw [size_put]; omega)]; simp
    have := hos_func (P := P) (dd := some 7) (as := #[.tmp 6]) (ats := #[t0]) (ty := u2) (pos := p2) (af := h2) (g := none) hf1 hnm1 hbd1 ((a.put (some 4) (.slice none 0 0)).put (some 6) sv) w
    rw [this]
    simp only [List.map_cons, List.map_nil, e6]
  rintro e w1 ⟨v, ss, rfl, hSs, hrow, hbe⟩
  refine ⟨v, rfl, ?_⟩
  refine in_val (o := ⟨some 5, .assign (.tmp 7), u3, p3, h3, none⟩) (v := v) (w' := w1) rfl rfl (by intro c h; cases h) (fun _ => trivial) ?_ ?_
  · simp only [execOp]
    rw [eval_put (by rw [size_put, size_put]; omega)]
    simp
  obtain ⟨a2, ha2⟩ : ∃ a2, a2 = ((((a.put (some 4) (.slice none 0 0)).put (some 6) sv).put (some 7) v).put (some 5) v) := ⟨_, rfl⟩
  have f2 : a2.tmps.size = 12 ∧ a2.defers = [] ∧ a2.eval (.tmp 5) = v ∧ a2.eval (.tmp 1) = cv := by
    subst ha2
    refine ⟨by simp only [size_put]; exact hsz, hdef, ?_, ?_⟩
    · rw [eval_put (by simp only [size_put]; omega)]; simp
    · rw [eval_put (by simp only [size_put]; omega), eval_put (by simp only [size_put]; omega), eval_put (by simp only [size_put]; omega), eval_put (by omega)]; simp [e1]
  show (Code.seq _ _).wpIn _ _ _ _ _ _
  rw [← ha2]
  clear ha2 e0 e1 hsz hdef a
  obtain ⟨hsz, hdef, e5, e1⟩ := f2
  refine wpIn_seq (wpIn_region ?_)
  refine in_val (o := ⟨some 8, .move (.tmp 5), u4, p4, h4, none⟩) (v := v) (w' := w1) rfl rfl (by intro c h; cases h) (fun _ => trivial) (by simp [execOp, e5]) ?_
  refine in_val (o := ⟨some 9, .move (.tmp 1), u5, p5, h5, none⟩) (v := cv) (w' := w1) rfl rfl (by intro c h; cases h) (fun _ => trivial) ?_ ?_
  · simp only [execOp]
    rw [eval_put (by omega)]
    simp [e1]
  refine in_enter (o := ⟨some 10, .call ⟨.value (.func g2), #[.tmp 8, .tmp 9], #[t1, t2]⟩, u6, p6, h6, none⟩) (w' := w1) (f := g2) (args := #[v, cv]) rfl rfl (by intro c h; cases h) (fun _ => trivial) rfl ?_ ((hS w1 v ss hSs hrow hbe.size).mono ?_)
  · have e8 : ((a2.put (some 8) v).put (some 9) cv).eval (.tmp 8) = v := by
      rw [eval_put (by rw [size_put]; omega), eval_put (by omega)]; simp
    have e9 : ((a2.put (some 8) v).put (some 9) cv).eval (.tmp 9) = cv := by
      rw [eval_put (by rw [size_put]; omega)]; simp
    have := hos_func (P := P) (dd := some 10) (as := #[.tmp 8, .tmp 9]) (ats := #[t1, t2]) (ty := u6) (pos := p6) (af := h6) (g := none) hf2 hnm2 hbd2 ((a2.put (some 8) v).put (some 9) cv) w1
    rw [this]
    simp only [List.map_cons, List.map_nil, e8, e9]
  rintro e w2 ⟨⟨u, rfl⟩, hrow2, hbe2⟩
  refine ⟨u, rfl, ?_⟩
  show (Code.seq _ _).wpIn _ _ _ _ _ _
  refine wpIn_seq (wpIn_region ?_)
  refine in_val (o := ⟨some 11, .move (.tmp 5), u7, p7, h7, none⟩) (v := v) (w' := w2) rfl rfl (by intro c h; cases h) (fun _ => trivial) ?_ ?_
  · simp only [execOp]
    rw [eval_put (by simp only [size_put]; omega), eval_put (by simp only [size_put]; omega), eval_put (by omega)]
    simp [e5]
  refine in_val (o := ⟨some 4, .assign (.tmp 11), u8, p8, h8, none⟩) (v := v) (w' := w2) rfl rfl (by intro c h; cases h) (fun _ => trivial) ?_ ?_
  · simp only [execOp]
    rw [eval_put (by simp only [size_put]; omega)]
    simp
  refine wpIn_ret ?_
  refine ⟨hdef, v, ?_, v, ss, rfl, hSs, hrow2, hbe.trans hbe2⟩
  rw [results_tmp hr]
  have := eval_put (a := ((((a2.put (some 8) v).put (some 9) cv).put (some 10) u).put (some 11) v)) (d := 4) (t := 4) (v := v) (by simp only [size_put]; omega)
  simpa [Act.eval] using this

end Go.Val
