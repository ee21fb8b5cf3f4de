/- An iterator over a map's keys, at whatever keys: it gives each once, in some order. At the world's level. -/
import Derived.Test.YtlcnkhphgekmeaaVs
import Derived.RangeFuncGives
import Derived.RangeFuncOwn
set_option linter.unusedSectionVars false
set_option linter.unusedVariables false
set_option linter.unusedSimpArgs false
namespace Go.Val
open Go.RowKit
variable [Drw]
open Go.ChangeMaps (setBlock)

section
variable {F : Fence} {n : Nat} {P : Program} {ops : Array Oper} {Q : Exit → Act → World → Prop} {rest : List Nat} {i : Nat} {a : Act} {w w' : World} {o : Oper}

/-- One operation that yields a value. -/
theorem in_val {v : Value} (ho : ops[i]? = some o) (hg : o.guard = none) (hd : ∀ c, o.op ≠ .defer c) (hF : ∀ f, F.fn f) (hrun : (execOp a.eval o).run P w = .ok (.value v) w') (hK : wpOpsIn F n P ops Q rest (a.put o.dst v) w') :
    wpOpsIn F n P ops Q (i :: rest) a w := by
  have hw : Region.wanted o (yielded ops a.tmps) = true := by unfold Region.wanted; rw [hg]
  simp only [wpOpsIn, ho, hw, if_true]
  refine ⟨fun f _ => hF f, ?_⟩
  rw [Oper.semAt_eq _ _ _ hd, hrun]
  exact hK

/-- One operation that yields nothing. -/
theorem in_skip (ho : ops[i]? = some o) (hg : o.guard = none) (hd : ∀ c, o.op ≠ .defer c) (hF : ∀ f, F.fn f) (hrun : (execOp a.eval o).run P w = .ok .skip w') (hK : wpOpsIn F n P ops Q rest (a.put o.dst undef) w') :
    wpOpsIn F n P ops Q (i :: rest) a w := by
  have hw : Region.wanted o (yielded ops a.tmps) = true := by unfold Region.wanted; rw [hg]
  simp only [wpOpsIn, ho, hw, if_true]
  refine ⟨fun f _ => hF f, ?_⟩
  rw [Oper.semAt_eq _ _ _ hd, hrun]
  exact hK

/-- One operation that begins a round. -/
theorem in_round {l : Nat} {fn : FuncId} {tmps : Array Value} {assign body : Code} (ho : ops[i]? = some o) (hg : o.guard = none) (hd : ∀ c, o.op ≠ .defer c) (hF : ∀ f, F.fn f) (hdp : F.depth = none) (hrun : (execOp a.eval o).run P w = .ok (.round l fn tmps assign body) w')
    (hK : RoundIn F (n - 1) P l fn tmps assign body w' (fun e w'' => ∃ v, e = .returned v ∧ wpOpsIn F n P ops Q rest (a.put o.dst v) w'')) : wpOpsIn F n P ops Q (i :: rest) a w := by
  have hw : Region.wanted o (yielded ops a.tmps) = true := by unfold Region.wanted; rw [hg]
  simp only [wpOpsIn, ho, hw, if_true]
  refine ⟨fun f _ => hF f, ?_⟩
  rw [Oper.semAt_eq _ _ _ hd, hrun, Oper.uponIn_round]
  refine ⟨fun h => (by rw [hdp] at h; cases h), hK.mono ?_⟩
  rintro e w'' ⟨v, rfl, h⟩
  exact h

theorem eval_put {d t : Nat} {v : Value} (h : d < a.tmps.size) : (a.put (some d) v).eval (.tmp t) = if t = d then v else a.eval (.tmp t) := by
  show (a.put (some d) v).tmps.getD t undef = _
  rw [getD_put _ _ _ _ h]
  rfl
theorem size_put {d : Nat} {v : Value} : (a.put (some d) v).tmps.size = a.tmps.size := by simp [Act.put]
theorem defers_put {d : Nat} {v : Value} : (a.put (some d) v).defers = a.defers := rfl
theorem put_none {v : Value} : a.put none v = a := rfl
end

/-- What the walk has behind it, and ahead of it. -/
structure Walked {α : Type} (enc : α → Value) (es : Array MapEntry) (seen : Array Nat) (ss : List α) (got lft : List MapEntry) : Prop where
  perm : (got ++ lft).Perm es.toList
  seen : seen.toList = got.map (·.born)
  keys : ss.map enc = got.map (·.key)

theorem Walked.mem {α : Type} {enc : α → Value} {es : Array MapEntry} {seen : Array Nat} {ss : List α} {got lft : List MapEntry} (h : Walked enc es seen ss got lft) (hnd : (es.toList.map (·.born)).Nodup) (e : MapEntry) : e ∈ (leftOf es seen).toList ↔ e ∈ lft := by
  have hnd' : ((got ++ lft).map (·.born)).Nodup := (h.perm.map _).nodup_iff.2 hnd
  rw [List.map_append, List.nodup_append] at hnd'
  simp only [leftOf, Array.toList_filter, List.mem_filter, Bool.not_eq_eq_eq_not, Bool.not_true]
  have hs : ∀ b, seen.contains b = true ↔ b ∈ got.map (·.born) := fun b => by rw [Array.contains_iff_mem, ← h.seen]; simp
  constructor
  · rintro ⟨h1, h2⟩
    rcases List.mem_append.1 (h.perm.mem_iff.2 h1) with h3 | h3
    · have := (hs e.born).2 (List.mem_map.2 ⟨e, h3, rfl⟩)
      rw [h2] at this; cases this
    · exact h3
  · intro h1
    refine ⟨h.perm.mem_iff.1 (List.mem_append.2 (.inr h1)), ?_⟩
    rw [Bool.eq_false_iff]
    intro h2
    exact hnd'.2.2 e.born ((hs e.born).1 h2) e.born (List.mem_map.2 ⟨e, h1, rfl⟩) rfl

theorem Walked.step {α : Type} {enc : α → Value} {es : Array MapEntry} {seen : Array Nat} {ss : List α} {got l1 l2 : List MapEntry} {e : MapEntry} {x : α} (h : Walked enc es seen ss got (l1 ++ e :: l2)) (hx : enc x = e.key) : Walked enc es (seen.push e.born) (ss ++ [x]) (got ++ [e]) (l1 ++ l2) := by
  refine ⟨?_, by simp [h.seen], by simp [h.keys, hx]⟩
  refine List.Perm.trans ?_ h.perm
  rw [List.append_assoc]
  refine List.Perm.append_left got ?_
  simpa using (List.perm_middle (a := e) (l₁ := l1) (l₂ := l2)).symm

/-- 'func(yield func(K) bool) { for k := range m { if !yield(k) { return } } }': each key once, in some order. -/
theorem keys_gives {P : Program} {f : FuncId} {fn : Func} {α : Type} {enc : α → List Value} {k n : Nat} {mt kt vt bt ft : TypeId} {z : Array Value}
    {y0 y1 y2 y3 y4 y5 y6 y7 y8 y9 ya yb : TypeId} {q0 q1 q2 q3 q4 q5 q6 q7 q8 q9 qa qb : String} {g0 g1 g2 g3 g4 g5 g6 g7 g8 g9 ga gb : Array Edge} {r0 r1 r2 r3 i0 i1 : Nat}
    (hf : P.funcs[f]? = some fn) (hb : fn.body = some (.seq (.region r0 #[⟨some 4, .load mt (.tmp 1), y0, q0, g0, none⟩, ⟨some 5, .range mt (.tmp 4), y1, q1, g1, none⟩] false)
      (.block i0 (.loop (.seq (.region r1 #[⟨some 6, .next (.tmp 5) false, y2, q2, g2, none⟩, ⟨some 7, .extract (.tmp 6) 0, y3, q3, g3, none⟩] false) (.seq (.cond (.tmp 7) .skip (.exit i0))
        (.block i1 (.seq (.region r2 #[⟨some 8, .entry (.tmp 5), y4, q4, g4, none⟩, ⟨some 9, .extract (.tmp 8) 0, y5, q5, g5, none⟩, ⟨some 3, .alloc kt, y6, q6, g6, none⟩, ⟨none, .store kt (.tmp 3) (.tmp 9), y7, q7, g7, none⟩] false)
          (.seq (.region r3 #[⟨some 10, .move (.tmp 0), y8, q8, g8, none⟩, ⟨some 11, .load kt (.tmp 3), y9, q9, g9, none⟩, ⟨some 12, .call ⟨.value (.tmp 10), #[.tmp 11], #[ft]⟩, ya, qa, ga, none⟩, ⟨some 13, .unOp .not bt (.tmp 12), yb, qb, gb, none⟩] false)
            (.cond (.tmp 13) .ret .skip))))))))))
    (hn : fn.ntmps = 14) (hr : fn.results = #[]) (hmt : mpB P mt = some (kt, vt)) (hT : TA P mt false 1) (hK : TA P kt true k) (hz : (P.info? kt).bind (·.zero) = some (.agg z)) (hzk : z.size = k)
    (henc : ∀ x, (enc x).length = k ∧ ∀ v ∈ enc x, one v = true) {Bm b clock : Nat} {es : Array MapEntry} {w : World} (hBm : Bm < w.heap.size) (hm : CellsAt w Bm 0 [.map (some b)]) (hbl : w.heap[b]? = some (.map es clock))
    (hnd : (es.toList.map (·.born)).Nodup) (hlt : ∀ e ∈ es.toList, e.born < clock) (hkey : ∀ e ∈ es.toList, ∃ x, Value.agg (enc x).toArray = e.key) :
    SeqGives Fence.wide n P f #[.pointer (some ⟨Bm, 0, none⟩)] (fun x => Value.agg (enc x).toArray) (fun ss => (ss.map fun x => Value.agg (enc x).toArray).Perm (es.toList.map (·.key))) es.size w := by
  intro l J W hW hJ hY h0
  have hbW : W.heap[b]? = some (.map es clock) := (hW.block b (Array.getElem?_eq_some_iff.1 hbl).1).trans hbl
  have hmW : CellsAt W Bm 0 [.map (some b)] := cellsAt_block (hW.block Bm hBm) hm
  refine callsIn_of_wp hf hb trivial ?_ rfl
  obtain ⟨a, hsz, hdef, e0, e1, ha⟩ : ∃ a : Act, a.tmps.size = 14 ∧ a.defers = [] ∧ a.eval (.tmp 0) = .func (.yield l) #[] #[] ∧ a.eval (.tmp 1) = .pointer (some ⟨Bm, 0, none⟩) ∧
      ({ tmps := (#[.func (.yield l) #[] #[]] ++ #[.pointer (some ⟨Bm, 0, none⟩)]) ++ Array.replicate (fn.ntmps - (#[.func (.yield l) #[] #[]] ++ #[.pointer (some ⟨Bm, 0, none⟩)] : Array Value).size) undef, defers := [] } : Act) = a := by
    refine ⟨_, by simp [hn], rfl, ?_, ?_, rfl⟩
    · simp only [Act.eval]
      rw [Array.getD_eq_getD_getElem?, Array.getElem?_append_left (by simp)]
      rfl
    · simp only [Act.eval]
      rw [Array.getD_eq_getD_getElem?, Array.getElem?_append_left (by simp)]
      rfl
  rw [ha]
  clear ha
  have nd : ∀ {o : Op}, (∀ c, o ≠ .defer c) → ∀ c, o ≠ .defer c := fun h => h
  obtain ⟨r, hrdef⟩ : ∃ r, r = W.heap.size := ⟨_, rfl⟩
  refine wpIn_seq (wpIn_region ?_)
  refine in_val (o := ⟨some 4, .load mt (.tmp 1), y0, q0, g0, none⟩) (v := .map (some b)) (w' := W) rfl rfl (by intro c h; cases h) (fun _ => trivial) ?_ ?_
  · simp only [execOp, Instr.loadAt, e1, Sem.run_bind, Instr.sureAddr, Sem.run_pure, Result.andThen]
    rw [run_loadVar_at (cs := [.map (some b)]) hT hmW (fun _ => rfl)]
    rfl
  refine in_val (o := ⟨some 5, .range mt (.tmp 4), y1, q1, g1, none⟩) (v := .pointer (some ⟨r, 0, none⟩)) (w' := W.alloc (.mapIter (some b) clock #[] clock)) rfl rfl (by intro c h; cases h) (fun _ => trivial) ?_ ?_
  · simp only [execOp, Instr.range, eval_put (show 4 < a.tmps.size by omega), if_true, Sem.run_bind, run_underlying (mpB_under hmt), Result.andThen, run_getObj hbW, Sem.run_pure]
    rw [hrdef]
    rfl
  obtain ⟨a1, ha1⟩ : ∃ a1, a1 = ((a.put (some 4) (.map (some b))).put (some 5) (.pointer (some ⟨r, 0, none⟩))) := ⟨_, rfl⟩
  have f1 : a1.tmps.size = 14 ∧ a1.defers = [] ∧ a1.eval (.tmp 0) = .func (.yield l) #[] #[] ∧ a1.eval (.tmp 5) = .pointer (some ⟨r, 0, none⟩) := by
    subst ha1
    refine ⟨by rw [size_put, size_put]; exact hsz, hdef, ?_, ?_⟩
    · rw [eval_put (by rw [size_put]; omega), eval_put (by omega)]; simp [e0]
    · rw [eval_put (by rw [size_put]; omega)]; simp
  show (Code.block i0 _).wpIn _ _ _ _ _ _
  rw [← ha1]
  clear ha1 e0 e1 hsz hdef
  obtain ⟨W1, hW1⟩ : ∃ W1, W1 = W.alloc (.mapIter (some b) clock #[] clock) := ⟨_, rfl⟩
  rw [← hW1]
  have hblt := (Array.getElem?_eq_some_iff.1 hbW).1
  refine wpIn_block (wpIn_loop (fun a' W' => (a'.tmps.size = 14 ∧ a'.defers = [] ∧ a'.eval (.tmp 0) = .func (.yield l) #[] #[] ∧ a'.eval (.tmp 5) = .pointer (some ⟨r, 0, none⟩)) ∧
      ∃ seen last ss got lft, W'.heap[r]? = some (.mapIter (some b) clock seen last) ∧ clock ≤ last ∧ W'.heap[b]? = some (.map es clock) ∧ Walked (fun x => Value.agg (enc x).toArray) es seen ss got lft ∧ J ss W')
    (fun _ W' => match W'.heap[r]? with | some (.mapIter _ _ seen _) => es.size - seen.size | _ => 0) ?_ ?_)
  · refine ⟨f1, #[], clock, [], [], es.toList, ?_, Nat.le_refl _, ?_, ⟨by simp, rfl, rfl⟩, ?_⟩
    · rw [hW1, hrdef]; exact alloc_new _ _
    · rw [hW1]; exact (Below.heap_alloc _ _ _ hblt).trans hbW
    · rw [hW1]; exact hJ [] W _ none h0 (World.grownBy_alloc W _ none) (fun r e => by cases e)
  clear hW1 f1 a1
  rintro a1 W1 ⟨⟨hsz, hdef, e0, e5⟩, seen, last, ss, got, lft, hr1, hlast, hb1, hwk, hJ1⟩
  have hrb : r ≠ b := fun e => by rw [e, hb1] at hr1; cases hr1
  have hrlt := (Array.getElem?_eq_some_iff.1 hr1).1
  refine wpIn_seq (wpIn_region ?_)
  rcases run_next_at (P := P) W1 y2 r b clock last seen es clock hr1 hb1 (fun x hx => hlt x hx) hlast with ⟨hd0, hrun⟩ | ⟨e, he, w1, hal, hrun⟩
  · -- nothing is left
    refine in_val (o := ⟨some 6, .next (.tmp 5) false, y2, q2, g2, none⟩) (v := .tuple #[.bool false]) (w' := W1) rfl rfl (by intro c h; cases h) (fun _ => trivial) (by simp [execOp, e5, hrun, Result.andThen]) ?_
    refine in_val (o := ⟨some 7, .extract (.tmp 6) 0, y3, q3, g3, none⟩) (v := .bool false) (w' := W1) rfl rfl (by intro c h; cases h) (fun _ => trivial) (by simp [execOp, eval_put (show 6 < a1.tmps.size by omega), Instr.extract]) ?_
    refine wpIn_seq (wpIn_cond_false (by rw [eval_put (by rw [size_put]; omega)]; simp) (wpIn_exit ?_))
    have hl : lft = [] := by
      cases hl : lft with
      | nil => rfl
      | cons x lft' =>
        have := (hwk.mem hnd x).2 (by rw [hl]; simp)
        rw [Array.eq_empty_of_size_eq_zero hd0] at this
        simp at this
    subst hl
    simp only [Exit.then, Exit.inBlock, if_true]
    refine ⟨hdef, .tuple #[], by simp [results, hr], ⟨_, rfl⟩, ss, ?_, hJ1⟩
    rw [hwk.keys]
    simpa using (hwk.perm.map (·.key))
  · -- an entry
    obtain ⟨x, hx⟩ := hkey e (by simp only [leftOf, Array.toList_filter, List.mem_filter] at he; exact he.1)
    obtain ⟨hxk, hx1⟩ := henc x
    have hel := (hwk.mem hnd e).1 he
    obtain ⟨l1, l2, hl⟩ := List.append_of_mem hel
    rw [hl] at hwk
    have hwk2 := hwk.step (x := x) hx
    have hwh : w1.heap = W1.heap := by rcases hal with rfl | rfl <;> rfl
    obtain ⟨W2, hW2⟩ : ∃ W2, W2 = setBlock w1 r (.mapIter (some b) clock (seen.push e.born) clock) := ⟨_, rfl⟩
    rw [← hW2] at hrun
    have hr2 : W2.heap[r]? = some (.mapIter (some b) clock (seen.push e.born) clock) := by rw [hW2]; simp [setBlock, hwh, hrlt]
    have ho2 : ∀ k, k ≠ r → W2.heap[k]? = W1.heap[k]? := fun k hk => by rw [hW2]; simp only [setBlock, hwh]; rw [Array.getElem?_setIfInBounds_ne (Ne.symm hk)]
    have hb2 : W2.heap[b]? = some (.map es clock) := (ho2 b (Ne.symm hrb)).trans hb1
    have hsz2 : W2.heap.size = W1.heap.size := by rw [hW2]; simp [setBlock, hwh]
    have hg2 : W1.grownBy W2 (some r) := by
      refine ⟨?_, ?_, ?_, by omega, fun k _ hk => ho2 k (fun h => hk (by rw [h]))⟩ <;> rw [hW2] <;> rcases hal with rfl | rfl <;> rfl
    have hJ2 : J ss W2 := hJ ss W1 W2 (some r) hJ1 hg2 (fun q hq => by cases hq; exact ⟨by omega, _, hr1, rfl⟩)
    have hent := run_entry_at (P := P) W2 r b clock seen es clock e hr2 hb2 (by simp only [leftOf, Array.toList_filter, List.mem_filter] at he; exact he.1) hnd
    clear hW2
    refine in_val (o := ⟨some 6, .next (.tmp 5) false, y2, q2, g2, none⟩) (v := .tuple #[.bool true, e.key, e.val]) (w' := W2) rfl rfl (by intro c h; cases h) (fun _ => trivial) (by simp [execOp, e5, hrun, Result.andThen]) ?_
    refine in_val (o := ⟨some 7, .extract (.tmp 6) 0, y3, q3, g3, none⟩) (v := .bool true) (w' := W2) rfl rfl (by intro c h; cases h) (fun _ => trivial) (by simp [execOp, eval_put (show 6 < a1.tmps.size by omega), Instr.extract]) ?_
    refine wpIn_seq (wpIn_cond_true (by rw [eval_put (by rw [size_put]; omega)]; simp) (wpIn_skip ?_))
    obtain ⟨a2, ha2⟩ : ∃ a2, a2 = ((a1.put (some 6) (.tuple #[.bool true, e.key, e.val])).put (some 7) (.bool true)) := ⟨_, rfl⟩
    have f2 : a2.tmps.size = 14 ∧ a2.defers = [] ∧ a2.eval (.tmp 0) = .func (.yield l) #[] #[] ∧ a2.eval (.tmp 5) = .pointer (some ⟨r, 0, none⟩) := by
      subst ha2
      refine ⟨by rw [size_put, size_put]; exact hsz, hdef, ?_, ?_⟩
      · rw [eval_put (by rw [size_put]; omega), eval_put (by omega)]; simp [e0]
      · rw [eval_put (by rw [size_put]; omega), eval_put (by omega)]; simp [e5]
    show (Code.block i1 _).wpIn _ _ _ _ _ _
    rw [← ha2]
    clear ha2 e0 e5 hsz hdef a1
    obtain ⟨hsz, hdef, e0, e5⟩ := f2
    refine wpIn_block (wpIn_seq (wpIn_region ?_))
    refine in_val (o := ⟨some 8, .entry (.tmp 5), y4, q4, g4, none⟩) (v := .tuple #[e.key, e.val]) (w' := W2) rfl rfl (by intro c h; cases h) (fun _ => trivial) (by simp [execOp, e5, hent, Result.andThen]) ?_
    refine in_val (o := ⟨some 9, .extract (.tmp 8) 0, y5, q5, g5, none⟩) (v := e.key) (w' := W2) rfl rfl (by intro c h; cases h) (fun _ => trivial) (by simp [execOp, eval_put (show 8 < a2.tmps.size by omega), Instr.extract]) ?_
    refine in_val (o := ⟨some 3, .alloc kt, y6, q6, g6, none⟩) (v := .pointer (some ⟨W2.heap.size, 0, none⟩)) (w' := W2.alloc (.cells z kt)) rfl rfl (by intro c h; cases h) (fun _ => trivial) ?_ ?_
    · simp only [execOp, Instr.alloc, newVar, newRow, Sem.run_bind, run_zero hz, Result.andThen, Value.cells, Sem.run_pure]
      rfl
    have hnew : (W2.alloc (.cells z kt)).heap[W2.heap.size]? = some (.cells ([] ++ (z.toList ++ [])).toArray kt (0, 0)) := by simpa using alloc_new W2 (.cells z kt)
    have hst := run_storeVar (P := P) (T := kt) (agg := true) (c2' := enc x) (by rw [hxk]; exact hK.2) (by rw [hxk]; simp [hzk]) hx1 (fun h => by cases h) rfl hnew
    obtain ⟨W4, hW4⟩ : ∃ W4, W4 = (W2.alloc (.cells z kt)).setRow W2.heap.size ([] ++ (enc x ++ [])).toArray := ⟨_, rfl⟩
    rw [← hW4] at hst
    have hc4 : W4.heap[W2.heap.size]? = some (.cells ([] ++ (enc x ++ [])).toArray kt (0, 0)) := by rw [hW4]; exact setRow_heap _ _ _ _ _ _ hnew
    have ho4 : ∀ k, k < W2.heap.size → W4.heap[k]? = W2.heap[k]? := fun k hk => by
      rw [hW4, setRow_other _ _ _ _ (by omega)]
      exact Below.heap_alloc _ _ _ hk
    have hg4 : W2.grownBy W4 none := by
      refine ⟨by rw [hW4]; rfl, by rw [hW4]; rfl, by rw [hW4]; rfl, ?_, fun k hk _ => ho4 k hk⟩
      rw [hW4]; simp
    clear hW4
    refine in_skip (o := ⟨none, .store kt (.tmp 3) (.tmp 9), y7, q7, g7, none⟩) (w' := W4) rfl rfl (by intro c h; cases h) (fun _ => trivial) ?_ ?_
    · rw [← hx]
      simp only [execOp, Instr.storeAt]
      have v3 : (((a2.put (some 8) (.tuple #[.agg (enc x).toArray, e.val])).put (some 9) (.agg (enc x).toArray)).put (some 3) (.pointer (some ⟨W2.heap.size, 0, none⟩))).eval (.tmp 3) = .pointer (some ⟨W2.heap.size, 0, none⟩) := by
        rw [eval_put (by rw [size_put, size_put]; omega)]; simp
      have v9 : (((a2.put (some 8) (.tuple #[.agg (enc x).toArray, e.val])).put (some 9) (.agg (enc x).toArray)).put (some 3) (.pointer (some ⟨W2.heap.size, 0, none⟩))).eval (.tmp 9) = .agg (enc x).toArray := by
        rw [eval_put (by rw [size_put, size_put]; omega), eval_put (by rw [size_put]; omega)]; simp
      rw [v3, v9]
      simp only [Instr.sureAddr, Sem.run_bind, Sem.run_pure, Result.andThen]
      have hst' : (storeVar kt ⟨W2.heap.size, 0, none⟩ (.agg (enc x).toArray)).run P (W2.alloc (.cells z kt)) = .ok () W4 := hst
      rw [hst']
    rw [put_none]
    obtain ⟨a3, ha3⟩ : ∃ a3, a3 = (((a2.put (some 8) (.tuple #[e.key, e.val])).put (some 9) e.key).put (some 3) (.pointer (some ⟨W2.heap.size, 0, none⟩))) := ⟨_, rfl⟩
    have f3 : a3.tmps.size = 14 ∧ a3.defers = [] ∧ a3.eval (.tmp 0) = .func (.yield l) #[] #[] ∧ a3.eval (.tmp 5) = .pointer (some ⟨r, 0, none⟩) ∧ a3.eval (.tmp 3) = .pointer (some ⟨W2.heap.size, 0, none⟩) := by
      subst ha3
      refine ⟨by rw [size_put, size_put, size_put]; exact hsz, hdef, ?_, ?_, ?_⟩
      · rw [eval_put (by rw [size_put, size_put]; omega), eval_put (by rw [size_put]; omega), eval_put (by omega)]; simp [e0]
      · rw [eval_put (by rw [size_put, size_put]; omega), eval_put (by rw [size_put]; omega), eval_put (by omega)]; simp [e5]
      · rw [eval_put (by rw [size_put, size_put]; omega)]; simp
    show (Code.seq (Code.region r3 _ false) _).wpIn _ _ _ _ _ _
    rw [← ha3]
    clear ha3 e0 e5 hsz hdef hst a2
    obtain ⟨hsz, hdef, e0, e5, e3⟩ := f3
    have hJ4 : J ss W4 := hJ ss W2 W4 none hJ2 hg4 (fun q hq => by cases hq)
    have hlen : ss.length < es.size := by
      have h1 : ss.length = got.length := by have := congrArg List.length hwk.keys; simpa using this
      have h2 := hwk.perm.length_eq
      simp at h2
      omega
    obtain ⟨fn', tmps', assign, body, hy, hR⟩ := hY ss x W4 hJ4 hlen
    refine wpIn_seq (wpIn_region ?_)
    refine in_val (o := ⟨some 10, .move (.tmp 0), y8, q8, g8, none⟩) (v := .func (.yield l) #[] #[]) (w' := W4) rfl rfl (by intro c h; cases h) (fun _ => trivial) (by simp [execOp, e0]) ?_
    refine in_val (o := ⟨some 11, .load kt (.tmp 3), y9, q9, g9, none⟩) (v := .agg (enc x).toArray) (w' := W4) rfl rfl (by intro c h; cases h) (fun _ => trivial) ?_ ?_
    · simp only [execOp, Instr.loadAt, eval_put (show 10 < a3.tmps.size by omega), show ¬ (3 = 10) from by omega, if_false, e3, Sem.run_bind, Instr.sureAddr, Sem.run_pure, Result.andThen]
      rw [run_loadVar_at (cs := enc x) (agg := true) (by rw [hxk]; exact hK) (cells_at_block (sp := []) (by simpa using hc4)) (fun h => by cases h)]
      rfl
    refine in_round (o := ⟨some 12, .call ⟨.value (.tmp 10), #[.tmp 11], #[ft]⟩, ya, qa, ga, none⟩) (w' := W4) rfl rfl (by intro c h; cases h) (fun _ => trivial) rfl (l := l) (fn := fn') (tmps := tmps') (assign := assign) (body := body) ?_ (hR.mono ?_)
    · have v10 : ((a3.put (some 10) (.func (.yield l) #[] #[])).put (some 11) (.agg (enc x).toArray)).eval (.tmp 10) = .func (.yield l) #[] #[] := by
        rw [eval_put (by rw [size_put]; omega), eval_put (by omega)]; simp
      have v11 : ((a3.put (some 10) (.func (.yield l) #[] #[])).put (some 11) (.agg (enc x).toArray)).eval (.tmp 11) = .agg (enc x).toArray := by
        rw [eval_put (by rw [size_put]; omega)]; simp
      simp only [execOp, resolve, v10, Deferred.ofValue, Sem.run_bind, Sem.run_pure, Result.andThen, invoke, List.map_toArray, List.map_cons, List.map_nil, v11]
      exact hy
    rintro e' W5 ⟨rfl, hJ5, hk5⟩
    refine ⟨_, rfl, ?_⟩
    refine in_val (o := ⟨some 13, .unOp .not bt (.tmp 12), yb, qb, gb, none⟩) (v := .bool false) (w' := W5) rfl rfl (by intro c h; cases h) (fun _ => trivial) ?_ ?_
    · have v12 : (((a3.put (some 10) (.func (.yield l) #[] #[])).put (some 11) (.agg (enc x).toArray)).put (some 12) (.bool true)).eval (.tmp 12) = .bool true := by
        rw [eval_put (by rw [size_put, size_put]; omega)]; simp
      simp [execOp, v12, Op.unary]
    refine wpIn_cond_false (by rw [eval_put (by rw [size_put, size_put, size_put]; omega)]; simp) (wpIn_skip ?_)
    have hb4 : W4.heap[b]? = some (.map es clock) := (ho4 b (by omega)).trans hb2
    have hr4 : W4.heap[r]? = some (.mapIter (some b) clock (seen.push e.born) clock) := (ho4 r (by omega)).trans hr2
    have hb5 := hk5.same b _ hb4 rfl
    have hr5 := hk5.same r _ hr4 rfl
    refine ⟨⟨⟨by simp only [size_put]; exact hsz, hdef, ?_, ?_⟩, seen.push e.born, clock, ss ++ [x], got ++ [e], l1 ++ l2, hr5, Nat.le_refl _, hb5, hwk2, hJ5⟩, ?_⟩
    · rw [eval_put (by rw [size_put, size_put, size_put]; omega), eval_put (by rw [size_put, size_put]; omega), eval_put (by rw [size_put]; omega), eval_put (by omega)]; simp [e0]
    · rw [eval_put (by rw [size_put, size_put, size_put]; omega), eval_put (by rw [size_put, size_put]; omega), eval_put (by rw [size_put]; omega), eval_put (by omega)]; simp [e5]
    · simp only [hr5, hr1, Array.size_push]
      have h1 : seen.size = got.length := by have := congrArg List.length hwk.seen; simpa using this
      have h2 := hwk.perm.length_eq
      simp at h2
      omega

end Go.Val
