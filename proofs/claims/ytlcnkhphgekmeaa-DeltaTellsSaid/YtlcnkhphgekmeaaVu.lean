/- slices.AppendSeq(nil, seq): what an iterator gives, in a row of one's own. At the world's level. -/
import Derived.Test.YtlcnkhphgekmeaaVt
import Derived.RangeFuncLeaves
set_option linter.unusedSectionVars false
set_option linter.unusedVariables false
set_option linter.unusedSimpArgs false
namespace Go.Val
open Go.RowKit
variable [Drw]

/-- What turned from one world to the next: at most the blocks of S. -/
structure Chg (W W' : World) (S : Nat → Prop) : Prop where
  os : W'.os = W.os
  tape : W'.tape = W.tape
  output : W'.output = W.output
  size : W.heap.size ≤ W'.heap.size
  block : ∀ k, k < W.heap.size → ¬ S k → W'.heap[k]? = W.heap[k]?

theorem Chg.refl (W : World) (S : Nat → Prop) : Chg W W S := ⟨rfl, rfl, rfl, Nat.le_refl _, fun _ _ _ => rfl⟩
theorem Chg.trans {A B C : World} {S T : Nat → Prop} (h : Chg A B S) (k : Chg B C T) (hT : ∀ j, j < A.heap.size → T j → S j) : Chg A C S :=
  ⟨k.os.trans h.os, k.tape.trans h.tape, k.output.trans h.output, Nat.le_trans h.size k.size, fun j hj hs => (k.block j (Nat.lt_of_lt_of_le hj h.size) (fun ht => hs (hT j hj ht))).trans (h.block j hj hs)⟩
theorem Chg.mono3 {A B C : World} {T : Nat → Prop} (h : Chg A B (fun _ => False)) (k : Chg B C T) : Chg A C T :=
  ⟨k.os.trans h.os, k.tape.trans h.tape, k.output.trans h.output, Nat.le_trans h.size k.size, fun j hj hs => (k.block j (Nat.lt_of_lt_of_le hj h.size) hs).trans (h.block j hj (fun h => h))⟩
theorem Chg.alloc (W : World) (o : Obj) (S : Nat → Prop) : Chg W (W.alloc o) S := ⟨rfl, rfl, rfl, by simp, fun k hk _ => Below.heap_alloc _ _ _ hk⟩
theorem Chg.setRow (W : World) (b : Nat) (cs : Array Value) (S : Nat → Prop) (hb : b < W.heap.size → S b) : Chg W (W.setRow b cs) S :=
  ⟨rfl, rfl, rfl, by simp, fun k hk hs => setRow_other _ _ _ _ (fun e => hs (by subst e; exact hb hk))⟩
theorem Chg.putObj (W : World) (l : Nat) (o : Obj) (S : Nat → Prop) (hl : l < W.heap.size → S l) : Chg W (W.putObj l o) S :=
  ⟨rfl, rfl, rfl, by simp, fun k hk hs => World.putObj_heap_other (fun e => hs (by subst e; exact hl hk))⟩

/-- The block of a row. -/
def blkOf : Value → Option Nat
  | .slice (some ⟨g, _, _⟩) _ _ => some g
  | _ => none

/-- A row of one's own: m elements of k cells. -/
def RowAt (base k : Nat) (e : TypeId) (v : Value) (cs : List Value) (m : Nat) (W : World) : Prop :=
  (v = .slice none 0 0 ∧ m = 0 ∧ cs = []) ∨ ∃ g cap sp, v = .slice (some ⟨g, 0, none⟩) m cap ∧ base ≤ g ∧ W.heap[g]? = some (.cells (cs ++ sp).toArray e (0, 0)) ∧ cs.length = m * k ∧ (cs ++ sp).length = cap * k ∧ m ≤ cap

theorem RowAt.kept {base k m : Nat} {e : TypeId} {v : Value} {cs : List Value} {W W' : World} (h : RowAt base k e v cs m W) (hs : ∀ g, blkOf v = some g → W'.heap[g]? = W.heap[g]?) : RowAt base k e v cs m W' := by
  rcases h with h | ⟨g, cap, sp, rfl, h1, h2, h3⟩
  · exact .inl h
  · exact .inr ⟨g, cap, sp, rfl, h1, (hs g rfl).trans h2, h3⟩

theorem RowAt.lt {base k m : Nat} {e : TypeId} {v : Value} {cs : List Value} {W : World} (h : RowAt base k e v cs m W) {g : Nat} (hg : blkOf v = some g) : base ≤ g ∧ g < W.heap.size := by
  rcases h with ⟨rfl, _⟩ | ⟨g', cap, sp, rfl, h1, h2, h3⟩
  · cases hg
  · cases hg; exact ⟨h1, (Array.getElem?_eq_some_iff.1 h2).1⟩

theorem row_append {P : Program} {base k m bs q : Nat} {e T ty : TypeId} {v : Value} {cs c zs : List Value} {W : World} {z : Value} (h : RowAt base k e v cs m W) (hT : slB P T = some e) (hS : szB P e = some k) (hB : bytesB P e = some bs) (hZ : (P.info? e).bind (·.zero) = some z) (hzc : z.cells = zs.toArray) (hzl : zs.length = k)
    (hq : CellsAt W q 0 c) (hck : c.length = k) (hc1 : ∀ u ∈ c, one u = true) (hb0 : 1 ≤ bs) (hfit : (m + 1) * bs ≤ 140737488355328) (hbase : base ≤ W.heap.size) :
    ∃ v' W', (Builtin.append_ #[T, T] ty #[v, .slice (some ⟨q, 0, none⟩) 1 1]).run P W = .ok v' W' ∧ RowAt base k e v' (cs ++ c) (m + 1) W' ∧ Chg W W' (fun j => blkOf v = some j) ∧ (∀ g, blkOf v' = some g → blkOf v = some g ∨ W.heap.size ≤ g) := by
  obtain ⟨inf, hi, hi1, hi2, hi3⟩ := info_of hS hB hZ
  have hsrc : Src P inf.size T (.slice (some ⟨q, 0, none⟩) 1 1) 1 c W := by
    rw [hi1]
    exact .ofSlice W (slB_under hT) _ _ _ _ (by omega) (fun j u hj => by rw [add_addr]; exact hq j u hj) (fun u hu => by rw [one_eq]; exact hc1 u hu)
  have h1bs : m + 1 ≤ 140737488355328 := by
    have : (m + 1) * 1 ≤ (m + 1) * bs := Nat.mul_le_mul_left _ hb0
    omega
  have grow : ∀ (bse : Option Addr) (cap : Nat), cap < m + 1 → cs.length = m * k → (Builtin.firstCells inf.size m (.slice bse m cap)).run P W.drew = .ok cs.toArray W.drew →
      ∃ v' W', (Builtin.append_ #[T, T] ty #[.slice bse m cap, .slice (some ⟨q, 0, none⟩) 1 1]).run P W = .ok v' W' ∧ RowAt base k e v' (cs ++ c) (m + 1) W' ∧ Chg W W' (fun j => blkOf v = some j) ∧ (∀ g, blkOf v' = some g → blkOf v = some g ∨ W.heap.size ≤ g) := by
    intro bse cap hcap hcs hfc
    have hrun := run_append_grow_src W T T ty e inf z (slB_under hT) hi hi3 bse m cap cs hfc _ 1 c hsrc hcap (by omega) (growslice_fits hcap (by rw [hi2]; exact hfit))
    have hge := grown_ge W (m + 1) cap e
    generalize grownCap W (m + 1) cap e = gc at hrun hge
    rw [hzc] at hrun
    let sp := (Builtin.zeroCells zs.toArray (gc - (m + 1))).toList
    have hblk : ((cs ++ c).toArray ++ Builtin.zeroCells zs.toArray (gc - (m + 1))) = ((cs ++ c) ++ sp).toArray := by apply Array.ext'; simp [sp]
    rw [hblk] at hrun
    refine ⟨_, _, hrun, .inr ⟨W.heap.size, gc, sp, rfl, hbase, alloc_new W.drew _, ?_, ?_, hge⟩, ⟨rfl, rfl, rfl, by simp, fun j hj _ => Below.heap_alloc W.drew _ _ hj⟩, fun g hg => .inr (by cases hg; exact Nat.le_refl _)⟩
    · rw [List.length_append, hcs, hck, Nat.add_mul]; omega
    · have l2 : sp.length = (gc - (m + 1)) * k := by simp only [sp, zeroCells_len]; rw [List.size_toArray, hzl]
      rw [List.length_append, List.length_append, hcs, hck, l2]
      have : gc * k = (m + 1) * k + (gc - (m + 1)) * k := by rw [← Nat.add_mul]; congr 1; omega
      rw [this, Nat.add_mul]
      omega
  rcases h with ⟨rfl, rfl, rfl⟩ | ⟨g, cap, sp, rfl, h1, h2, h3, h4, h5⟩
  · exact grow none 0 (by omega) (by simp) (run_firstCells_none _ _ _ _ _)
  · by_cases hroom : m + 1 ≤ cap
    · have hspl : c.length ≤ sp.length := by
        have hl : (cs ++ sp).length = cs.length + sp.length := List.length_append
        have : (m + 1) * k ≤ cap * k := Nat.mul_le_mul_right _ hroom
        rw [Nat.add_mul] at this
        omega
      have hsplit : sp = sp.take c.length ++ sp.drop c.length := (List.take_append_drop _ _).symm
      rw [hsplit] at h2
      have hc2 : (sp.take c.length).length = c.length := by simp; omega
      have hrun := run_append_room_src W T T ty e inf (slB_under hT) hi g 0 m cap (.slice (some ⟨q, 0, none⟩) 1 1) 1 c hsrc hroom
        (fun j hj => by
          simp only [World.cell?, h2, hi1]
          simp
          omega)
        (fun j hj => by simp [World.frozen?, h2])
      rw [hi1, Nat.zero_add, setCells_row hc2.symm hc1 h3 h2] at hrun
      refine ⟨_, _, hrun, .inr ⟨g, cap, sp.drop c.length, rfl, h1, by rw [List.append_assoc]; exact setRow_heap _ _ _ _ _ _ h2, ?_, ?_, hroom⟩, Chg.setRow _ _ _ _ (fun _ => rfl), fun g' hg' => .inl hg'⟩
      · rw [List.length_append, h3, hck, Nat.add_mul]; omega
      · rw [← h4]; simp; omega
    · refine grow _ cap (by omega) h3 ?_
      rw [hi1]
      exact run_firstCells_some W.drew k _ _ _ _ cs h3 (fun j u hj => by rw [add_addr]; exact cells_at_block h2 j u hj)


/-- Between two rounds. -/
structure ApAt {α : Type} (enc : α → List Value) (k : Nat) (kt bt : TypeId) (w0 : World) (Bs l D : Nat) (rec : Loop) (pre : List α) (W : World) : Prop where
  box : ∃ v, W.heap[Bs]? = some (.cells #[v] bt (0, 0)) ∧ one v = true ∧ RowAt w0.heap.size k kt v (pre.flatMap enc) pre.length W ∧ blkOf v ≠ some Bs
  L : W.heap[l]? = some (.loop rec)
  K : W.heap[D]? = some (.deferred (some []))
  below : Below w0.heap.size w0 W

theorem RowAt.ne {base k m : Nat} {e : TypeId} {v : Value} {cs : List Value} {W : World} (h : RowAt base k e v cs m W) {j : Nat} {o : Obj} (hj : W.heap[j]? = some o) (ho : o.isCells = false) : blkOf v ≠ some j := by
  rcases h with ⟨rfl, _⟩ | ⟨g', cap, sp, rfl, h1, h2, h3⟩
  · simp [blkOf]
  · intro e'
    cases e'
    rw [h2] at hj; cases hj; cases ho

theorem RowAt.isCells {base k m : Nat} {e : TypeId} {v : Value} {cs : List Value} {W : World} (h : RowAt base k e v cs m W) {g : Nat} (hg : blkOf v = some g) : ∃ o, W.heap[g]? = some o ∧ o.isWalk = false := by
  rcases h with ⟨rfl, _⟩ | ⟨g', cap, sp, rfl, h1, h2, h3⟩
  · cases hg
  · cases hg; exact ⟨_, h2, rfl⟩

theorem ap_abides {α : Type} {enc : α → List Value} {k : Nat} {kt bt : TypeId} {w0 : World} {Bs l D B : Nat} {rec : Loop} (hB : w0.heap.size ≤ B) : AbidesFrom B (ApAt enc k kt bt w0 Bs l D rec) := fun s W W' row h hg hr => by
  have hr' : ∀ r, row = some r → ∃ o : Obj, W.heap[r]? = some o ∧ o.isWalk = true := fun r e => (hr r e).2
  obtain ⟨v, hv, hv1, hrow, hne⟩ := h.box
  refine ⟨⟨v, (grownBy_keeps hg hr' hv rfl).trans hv, hv1, hrow.kept (fun g hgb => ?_), hne⟩, (grownBy_keeps hg hr' h.L rfl).trans h.L, (grownBy_keeps hg hr' h.K rfl).trans h.K, h.below.grown hg h.below.size (fun k e => Nat.le_trans hB (hr k e).1)⟩
  obtain ⟨o, ho, hw⟩ := hrow.isCells hgb
  exact grownBy_keeps hg hr' ho hw

theorem Chg.below {W W' : World} {S : Nat → Prop} (h : Chg W W' S) {w0 : World} (hb : Below w0.heap.size w0 W) (hS : ∀ j, S j → w0.heap.size ≤ j) : Below w0.heap.size w0 W' := by
  refine ⟨h.os.trans hb.os, h.tape.trans hb.tape, h.output.trans hb.output, Nat.le_trans hb.size h.size, fun j hj => ?_⟩
  exact (h.block j (Nat.lt_of_lt_of_le hj hb.size) (fun hs => by have := hS j hs; omega)).trans (hb.block j hj)

theorem ap_yield {P : Program} {α : Type} {enc : α → List Value} {k m bs : Nat} {kt bt st : TypeId} {w0 : World} {Bs l D : Nat} {rec : Loop} {z : Array Value} {zd : Go.Val.D}
    {y0 y1 y2 y3 y4 y5 y6 : TypeId} {q0 q1 q2 q3 q4 q5 q6 : String} {g0 g1 g2 g3 g4 g5 g6 : Array Edge} {r0 r1 i1 : Nat}
    (hassign : rec.assign = .region r0 #[⟨some 5, .alloc kt, y0, q0, g0, none⟩, ⟨none, .store kt (.tmp 5) (.tmp 7), y1, q1, g1, none⟩] false)
    (hbody : rec.body = .block i1 (.region r1 #[⟨some 8, .load st (.tmp 2), y2, q2, g2, none⟩, ⟨some 9, .load kt (.tmp 5), y3, q3, g3, none⟩, ⟨some 10, .buildSlice st 1 #[(0, .tmp 9)], y4, q4, g4, none⟩, ⟨some 11, .call ⟨.builtin .append, #[.tmp 8, .tmp 10], #[st, st]⟩, y5, q5, g5, none⟩, ⟨none, .store st (.tmp 2) (.tmp 11), y6, q6, g6, none⟩] false))
    (hpar : rec.params = #[7]) (htm : rec.tmps.size = 13) (ht2 : rec.tmps.getD 2 undef = .pointer (some ⟨Bs, 0, none⟩)) (hst : rec.state = .ready) (hpend : rec.pending = none)
    (hT : TA P st false 1) (hsl : slB P st = some kt) (hK : TA P kt true k) (hB : bytesB P kt = some bs) (hz : (P.info? kt).bind (·.zero) = some (.agg z)) (hzk : z.size = k) (hZ : Zero P kt zd) (hzd : zd.size = k) (hk24 : k ≤ 16777216) (hb0 : 1 ≤ bs)
    (henc : ∀ x, (enc x).length = k ∧ ∀ v ∈ enc x, one v = true) (hBl : Bs ≠ l) (hDl : D ≠ l) (hDB : D ≠ Bs) (h0B : w0.heap.size ≤ Bs) (h0l : w0.heap.size ≤ l)
    {N : Nat} (hN : N * bs ≤ 140737488355328) {pre : List α} {x : α} {W : World} (h : ApAt enc k kt bt w0 Bs l D rec pre W) (hlen : pre.length < N) :
    YieldAt Fence.wide m P l #[.agg (enc x).toArray] W fun e W' => e = .returned (.bool true) ∧ ApAt enc k kt bt w0 Bs l D rec (pre ++ [x]) W' ∧ KeepsWalks W W' := by
  obtain ⟨hxk, hx1⟩ := henc x
  obtain ⟨v, hv, hv1, hrow, hvB⟩ := h.box
  refine ⟨rec.fn, _, rec.assign, rec.body, run_yield h.L (by rw [hpar]; rfl), roundIn_of_wpIn trivial ?_⟩
  rw [hassign, hbody, hpar]
  obtain ⟨a, hsz, hdef, e2, e7, ha⟩ : ∃ a : Act, a.tmps.size = 13 ∧ a.defers = [] ∧ a.eval (.tmp 2) = .pointer (some ⟨Bs, 0, none⟩) ∧ a.eval (.tmp 7) = .agg (enc x).toArray ∧
      ({ tmps := ((#[7] : Array Nat).zip #[.agg (enc x).toArray]).foldl (fun tmps (t, a) => tmps.setIfInBounds t a) rec.tmps, defers := [] } : Act) = a := by
    refine ⟨(({ tmps := rec.tmps, defers := [] } : Act).put (some 7) (.agg (enc x).toArray)), by rw [size_put]; exact htm, rfl, ?_, ?_, by simp [Act.put]⟩
    · rw [eval_put (by rw [htm]; omega)]; simpa [Act.eval] using ht2
    · rw [eval_put (by rw [htm]; omega)]; simp
  rw [ha]
  clear ha
  have hlW : l < W.heap.size := (Array.getElem?_eq_some_iff.1 h.L).1
  have hBW : Bs < W.heap.size := (Array.getElem?_eq_some_iff.1 hv).1
  have hDW : D < W.heap.size := (Array.getElem?_eq_some_iff.1 h.K).1
  refine wpIn_region ?_
  refine in_val (o := ⟨some 5, .alloc kt, y0, q0, g0, none⟩) (v := .pointer (some ⟨W.heap.size, 0, none⟩)) (w' := W.alloc (.cells z kt)) rfl rfl (by intro c h; cases h) (fun _ => trivial) ?_ ?_
  · simp only [execOp, Instr.alloc, newVar, newRow, Sem.run_bind, run_zero hz, Result.andThen, Value.cells, Sem.run_pure]
    rfl
  have hnew : (W.alloc (.cells z kt)).heap[W.heap.size]? = some (.cells ([] ++ (z.toList ++ [])).toArray kt (0, 0)) := by simpa using alloc_new W (.cells z kt)
  have hsto := run_storeVar (P := P) (T := kt) (agg := true) (c2' := enc x) (by rw [hxk]; exact hK.2) (by rw [hxk]; simp [hzk]) hx1 (fun h => by cases h) rfl hnew
  obtain ⟨W2, hW2⟩ : ∃ W2, W2 = (W.alloc (.cells z kt)).setRow W.heap.size ([] ++ (enc x ++ [])).toArray := ⟨_, rfl⟩
  rw [← hW2] at hsto
  have hc2 : W2.heap[W.heap.size]? = some (.cells (enc x).toArray kt (0, 0)) := by rw [hW2]; simpa using setRow_heap _ _ _ _ _ _ hnew
  have ch2 : Chg W W2 (fun _ => False) := by
    rw [hW2]
    exact (Chg.alloc W _ _).trans (T := fun j => j = W.heap.size) (Chg.setRow _ _ _ _ (fun _ => rfl)) (fun j hj e => by omega)
  clear hW2
  refine in_skip (o := ⟨none, .store kt (.tmp 5) (.tmp 7), y1, q1, g1, none⟩) (w' := W2) rfl rfl (by intro c h; cases h) (fun _ => trivial) ?_ ?_
  · simp only [execOp, Instr.storeAt]
    rw [eval_put (by omega), eval_put (by omega)]
    simp only [if_true, show ¬ (7 = 5) from by omega, if_false, e7, Instr.sureAddr, Sem.run_bind, Sem.run_pure, Result.andThen]
    have hst' : (storeVar kt ⟨W.heap.size, 0, none⟩ (.agg (enc x).toArray)).run P (W.alloc (.cells z kt)) = .ok () W2 := hsto
    rw [hst']
  rw [put_none]
  have same2 : ∀ j, j < W.heap.size → W2.heap[j]? = W.heap[j]? := fun j hj => ch2.block j hj (fun h => h)
  have hL2 : W2.heap[l]? = some (.loop rec) := (same2 l hlW).trans h.L
  refine ⟨_, run_beginRound hL2 hst, ?_⟩
  obtain ⟨W3, hW3⟩ : ∃ W3, W3 = W2.putObj l (.loop { rec with state := .busy }) := ⟨_, rfl⟩
  rw [← hW3]
  have hL3 : W3.heap[l]? = some (.loop { rec with state := .busy }) := by rw [hW3]; exact World.putObj_heap_same (Nat.lt_of_lt_of_le hlW ch2.size)
  have ho3 : ∀ j, j ≠ l → W3.heap[j]? = W2.heap[j]? := fun j hj => by rw [hW3]; exact World.putObj_heap_other hj
  have hs3 : W3.heap.size = W2.heap.size := by rw [hW3]; simp
  have ch3 : Chg W W3 (fun j => j = l) := by rw [hW3]; exact ch2.mono3 (Chg.putObj _ _ _ _ (fun _ => rfl))
  obtain ⟨a1, ha1⟩ : ∃ a1, a1 = a.put (some 5) (.pointer (some ⟨W.heap.size, 0, none⟩)) := ⟨_, rfl⟩
  have f1 : a1.tmps.size = 13 ∧ a1.eval (.tmp 2) = .pointer (some ⟨Bs, 0, none⟩) ∧ a1.eval (.tmp 5) = .pointer (some ⟨W.heap.size, 0, none⟩) := by
    subst ha1
    refine ⟨by rw [size_put]; exact hsz, ?_, ?_⟩
    · rw [eval_put (by omega)]; simp [e2]
    · rw [eval_put (by omega)]; simp
  rw [← ha1]
  clear ha1 e2 e7 hsz hdef a hW3
  obtain ⟨hsz, e2, e5⟩ := f1
  have hW2s := ch2.size
  have hc2lt : W.heap.size < W2.heap.size := (Array.getElem?_eq_some_iff.1 hc2).1
  have hv3 : W3.heap[Bs]? = some (.cells #[v] bt (0, 0)) := (ho3 Bs hBl).trans ((same2 Bs hBW).trans hv)
  have hc3 : W3.heap[W.heap.size]? = some (.cells (enc x).toArray kt (0, 0)) := (ho3 _ (by omega)).trans hc2
  have hrow3 : RowAt w0.heap.size k kt v (pre.flatMap enc) pre.length W3 := hrow.kept (fun g hg => (ho3 g (fun e => hrow.ne h.L rfl (by rw [← e]; exact hg))).trans (same2 g (hrow.lt hg).2))
  refine wpIn_block (wpIn_region ?_)
  refine in_val (o := ⟨some 8, .load st (.tmp 2), y2, q2, g2, none⟩) (v := v) (w' := W3) rfl rfl (by intro c h; cases h) (fun _ => trivial) ?_ ?_
  · simp only [execOp, Instr.loadAt, e2, Sem.run_bind, Instr.sureAddr, Sem.run_pure, Result.andThen]
    rw [run_loadVar_at (cs := [v]) hT (cells_at_block (sp := []) (by simpa using hv3)) (fun _ => rfl)]
    rfl
  refine in_val (o := ⟨some 9, .load kt (.tmp 5), y3, q3, g3, none⟩) (v := .agg (enc x).toArray) (w' := W3) rfl rfl (by intro c h; cases h) (fun _ => trivial) ?_ ?_
  · simp only [execOp, Instr.loadAt, eval_put (show 8 < a1.tmps.size by omega), show ¬ (5 = 8) from by omega, if_false, e5, Sem.run_bind, Instr.sureAddr, Sem.run_pure, Result.andThen]
    rw [run_loadVar_at (cs := enc x) (agg := true) (by rw [hxk]; exact hK) (cells_at_block (sp := []) (by simpa using hc3)) (fun h => by cases h)]
    rfl
  have hbs := run_buildSlice (P := P) (T := st) (e := kt) (es := k) (n := 1) (w := W3) (vals := [(0, .agg (enc x).toArray)]) (cs := enc x) hsl hK.2 hZ hzd (by omega) (fun pre rest p1 p2 => by
    have := fill_one (place := fun i => some (i * k, k)) (i := 0) (off := 0 * k) (sz := k) (v := .agg (enc x).toArray) (c := enc x) (pre := pre) (mid := rest) (post := []) (rest := []) rfl rfl hxk (by simpa using p1) (by simpa using p2)
    simpa [Instr.fill] using this)
  refine in_val (o := ⟨some 10, .buildSlice st 1 #[(0, .tmp 9)], y4, q4, g4, none⟩) (v := .slice (some ⟨W3.heap.size, 0, none⟩) 1 1) (w' := W3.alloc (.cells (enc x).toArray kt)) rfl rfl (by intro c h; cases h) (fun _ => trivial) ?_ ?_
  · simp only [execOp, List.map_toArray, List.map_cons, List.map_nil]
    rw [eval_put (by rw [size_put]; omega)]
    simp only [if_true, Sem.run_bind]
    rw [hbs]
    rfl
  have hq4 : (W3.alloc (.cells (enc x).toArray kt)).heap[W3.heap.size]? = some (.cells ((enc x) ++ []).toArray kt (0, 0)) := by rw [List.append_nil]; exact alloc_new _ _
  have hrow4 : RowAt w0.heap.size k kt v (pre.flatMap enc) pre.length (W3.alloc (.cells (enc x).toArray kt)) := hrow3.kept (fun g hg => Below.heap_alloc _ _ _ (hrow3.lt hg).2)
  have hbase4 : w0.heap.size ≤ (W3.alloc (.cells (enc x).toArray kt)).heap.size := by have := h.below.size; simp; omega
  obtain ⟨v', W5, hap, hrow5, ch5, hown5⟩ := row_append (P := P) (T := st) (ty := y5) hrow4 hsl hK.2 hB hz (zs := z.toList) (by simp [Value.cells]) (by simpa using hzk) (cells_at_block hq4) hxk hx1 hb0
    (by have : (pre.length + 1) * bs ≤ N * bs := Nat.mul_le_mul_right _ hlen; omega) hbase4
  refine in_val (o := ⟨some 11, .call ⟨.builtin .append, #[.tmp 8, .tmp 10], #[st, st]⟩, y5, q5, g5, none⟩) (v := v') (w' := W5) rfl rfl (by intro c h; cases h) (fun _ => trivial) ?_ ?_
  · simp only [execOp, resolve, Sem.run_bind, Sem.run_pure, Result.andThen, invoke, builtin, List.map_toArray, List.map_cons, List.map_nil]
    rw [eval_put (by rw [size_put, size_put]; omega), eval_put (by rw [size_put]; omega), eval_put (by omega), eval_put (by rw [size_put, size_put]; omega)]
    simp only [show ¬ (8 = 10) from by omega, show ¬ (8 = 9) from by omega, if_false, if_true]
    rw [hap]
  have ch5' : Chg W3 W5 (fun j => blkOf v = some j) := (Chg.alloc W3 _ _).trans ch5 (fun j _ h => h)
  have hv5 : W5.heap[Bs]? = some (.cells ([] ++ ([v] ++ [])).toArray bt (0, 0)) := by
    rw [ch5'.block Bs (Array.getElem?_eq_some_iff.1 hv3).1 hvB]; simpa using hv3
  have hv1' : one v' = true := by rcases hrow5 with ⟨rfl, _⟩ | ⟨g', cap, sp, rfl, _⟩ <;> rfl
  have hst2 := run_storeVar (P := P) (T := st) (agg := false) (c1 := []) (c2 := [v]) (c3 := []) (c2' := [v']) (by simpa using hT.2) rfl (by simpa using hv1') (fun _ => rfl) rfl hv5
  obtain ⟨W6, hW6⟩ : ∃ W6, W6 = W5.setRow Bs ([] ++ ([v'] ++ [])).toArray := ⟨_, rfl⟩
  rw [← hW6] at hst2
  have hv6 : W6.heap[Bs]? = some (.cells #[v'] bt (0, 0)) := by rw [hW6]; simpa using setRow_heap _ _ _ _ _ _ hv5
  have ch6 : Chg W5 W6 (fun j => j = Bs) := by rw [hW6]; exact Chg.setRow _ _ _ _ (fun _ => rfl)
  clear hW6
  refine in_skip (o := ⟨none, .store st (.tmp 2) (.tmp 11), y6, q6, g6, none⟩) (w' := W6) rfl rfl (by intro c h; cases h) (fun _ => trivial) ?_ ?_
  · simp only [execOp, Instr.storeAt]
    rw [eval_put (by rw [size_put, size_put, size_put]; omega), eval_put (by rw [size_put, size_put]; omega), eval_put (by rw [size_put]; omega), eval_put (by omega), eval_put (by rw [size_put, size_put, size_put]; omega)]
    simp only [show ¬ (2 = 11) from by omega, show ¬ (2 = 10) from by omega, show ¬ (2 = 9) from by omega, show ¬ (2 = 8) from by omega, if_false, if_true, e2, Instr.sureAddr, Sem.run_bind, Sem.run_pure, Result.andThen]
    have hst' : (storeVar st ⟨Bs, 0, none⟩ v').run P W5 = .ok () W6 := hst2
    rw [hst']
  have hL6 : W6.heap[l]? = some (.loop { rec with state := .busy }) := by
    have h3l := (Array.getElem?_eq_some_iff.1 hL3).1
    rw [ch6.block l (Nat.lt_of_lt_of_le h3l ch5'.size) (fun e => hBl e.symm), ch5'.block l h3l (hrow3.ne hL3 rfl)]
    exact hL3
  show Exit.inBlock i1 _ .normal _ _
  simp only [Exit.inBlock, roundPost]
  refine ⟨_, _, run_endRound none hL6, rfl, ?_⟩
  have hrec : ({ ({ rec with state := .busy } : Loop) with state := if (none : Option Code).isNone then .ready else .done, pending := none } : Loop) = rec := by
    cases rec; simp_all
  rw [hrec]
  have hl6 : l < W6.heap.size := (Array.getElem?_eq_some_iff.1 hL6).1
  have ch7 : Chg W (W6.putObj l (.loop rec)) (fun j => j = l ∨ j = Bs ∨ blkOf v = some j) := by
    have a1 : Chg W W3 (fun j => j = l ∨ j = Bs ∨ blkOf v = some j) := ⟨ch3.os, ch3.tape, ch3.output, ch3.size, fun j hj hs => ch3.block j hj (fun e => hs (.inl e))⟩
    have a2 := a1.trans ch5' (fun j _ h => .inr (.inr h))
    have a3 := a2.trans ch6 (fun j _ h => .inr (.inl h))
    exact a3.trans (Chg.putObj W6 l (.loop rec) (fun j => j = l) (fun _ => rfl)) (fun j _ h => .inl h)
  have hvB' : blkOf v' ≠ some Bs := fun e => by
    rcases hown5 Bs e with h1 | h1
    · exact hvB h1
    · have : W3.heap.size < (W3.alloc (.cells (enc x).toArray kt)).heap.size := by simp
      have := ch3.size
      omega
  have hrow6 : RowAt w0.heap.size k kt v' (pre.flatMap enc ++ enc x) (pre.length + 1) W6 := hrow5.kept (fun g hg => ch6.block g (hrow5.lt hg).2 (fun e => hvB' (by rw [← e]; exact hg)))
  have hvl' : blkOf v' ≠ some l := hrow6.ne hL6 rfl
  refine ⟨⟨⟨v', (World.putObj_heap_other hBl).trans hv6, hv1', ?_, hvB'⟩, World.putObj_heap_same hl6, ?_, ?_⟩, ⟨ch7.size, fun j o ho hw => ?_⟩⟩
  · have := hrow6.kept (W' := W6.putObj l (.loop rec)) (fun g hg => World.putObj_heap_other (fun e => hvl' (by rw [← e]; exact hg)))
    simpa using this
  · rw [ch7.block D hDW (fun e => e.elim hDl (fun e => e.elim hDB (fun e => hrow.ne h.K rfl e)))]
    exact h.K
  · refine ch7.below h.below ?_
    rintro j (rfl | rfl | e)
    · exact h0l
    · exact h0B
    · exact (hrow.lt e).1
  · rw [ch7.block j (Array.getElem?_eq_some_iff.1 ho).1 ?_]
    · exact ho
    · rintro (rfl | rfl | e)
      · rw [h.L] at ho; cases ho; cases hw
      · rw [hv] at ho; cases ho; cases hw
      · obtain ⟨o', ho', hw'⟩ := hrow.isCells e
        rw [ho] at ho'; cases ho'
        rw [hw] at hw'; cases hw'


def recOf (fn : FuncId) (tmps : Array Value) (as bo : Code) (D : Nat) : Loop := { state := .ready, pending := none, fn := fn, tmps := tmps, params := #[7], assign := as, body := bo, defers := D }

/-- slices.AppendSeq(nil, seq): just what the iterator gave, in that order, in a row of one's own. -/
theorem append_seq {P : Program} {f : FuncId} {fn : Func} {α : Type} {enc : α → List Value} {k n bs : Nat} {kt st : TypeId} {z : Array Value} {zd : Go.Val.D}
    {u0 u1 u2 u3 u4 : TypeId} {p0 p1 p2 p3 p4 : String} {h0 h1 h2 h3 h4 : Array Edge} {c0 c1 c2 b0 : Nat}
    {y0 y1 y2 y3 y4 y5 y6 : TypeId} {q0 q1 q2 q3 q4 q5 q6 : String} {g0 g1 g2 g3 g4 g5 g6 : Array Edge} {r0 r1 i1 : Nat}
    (hf : P.funcs[f]? = some fn) (hb : fn.body = some (.seq (.region c0 #[⟨some 2, .box st (.tmp 0), u0, p0, h0, none⟩, ⟨some 4, .assign (.const (.slice none 0 0)), u1, p1, h1, none⟩] false)
      (.seq (.seq (.region c1 #[⟨some 6, .move (.tmp 1), u2, p2, h2, none⟩] false) (.block b0 (.rangeFunc (.tmp 6) #[7]
        (.region r0 #[⟨some 5, .alloc kt, y0, q0, g0, none⟩, ⟨none, .store kt (.tmp 5) (.tmp 7), y1, q1, g1, none⟩] false)
        (.block i1 (.region r1 #[⟨some 8, .load st (.tmp 2), y2, q2, g2, none⟩, ⟨some 9, .load kt (.tmp 5), y3, q3, g3, none⟩, ⟨some 10, .buildSlice st 1 #[(0, .tmp 9)], y4, q4, g4, none⟩, ⟨some 11, .call ⟨.builtin .append, #[.tmp 8, .tmp 10], #[st, st]⟩, y5, q5, g5, none⟩, ⟨none, .store st (.tmp 2) (.tmp 11), y6, q6, g6, none⟩] false)))))
        (.seq (.region c2 #[⟨some 12, .load st (.tmp 2), u3, p3, h3, none⟩, ⟨some 4, .assign (.tmp 12), u4, p4, h4, none⟩] false) .ret))))
    (hn : fn.ntmps = 13) (hr : fn.results = #[.tmp 4])
    (hT : TA P st false 1) (hsl : slB P st = some kt) (hK : TA P kt true k) (hB : bytesB P kt = some bs) (hz : (P.info? kt).bind (·.zero) = some (.agg z)) (hzk : z.size = k) (hZ : Zero P kt zd) (hzd : zd.size = k) (hk24 : k ≤ 16777216) (hb0 : 1 ≤ bs)
    (henc : ∀ x, (enc x).length = k ∧ ∀ v ∈ enc x, one v = true) {g : Nat} {lb : Array Value} (eg : ∀ args w, (callFunc g args).run P w = .ok (.enter g args) w)
    {S : List α → Prop} {N : Nat} (hN : N * bs ≤ 140737488355328) {w : World} (hseq : SeqGives Fence.wide (n - 1) P g lb (fun x => Value.agg (enc x).toArray) S N w) :
    CallsIn Fence.wide n P f #[.slice none 0 0, .func (.func g) #[] lb] w fun e w' => ∃ v ss, e = .returned v ∧ S ss ∧ RowAt w.heap.size k kt v (ss.flatMap enc) ss.length w' ∧ Below w.heap.size w w' := by
  refine callsIn_of_wp_marks hf hb trivial ?_ rfl
  obtain ⟨a, hsz, hdef, e0, e1, ha⟩ : ∃ a : Act, a.tmps.size = 13 ∧ a.defers = [] ∧ a.eval (.tmp 0) = .slice none 0 0 ∧ a.eval (.tmp 1) = .func (.func g) #[] lb ∧
      ({ tmps := (#[.slice none 0 0, .func (.func g) #[] lb] : Array Value) ++ Array.replicate (fn.ntmps - (#[.slice none 0 0, .func (.func g) #[] lb] : Array Value).size) undef, defers := [] } : Act) = a := by
    refine ⟨_, by simp [hn], rfl, ?_, ?_, rfl⟩
    · simp only [Act.eval]
      rw [Array.getD_eq_getD_getElem?, Array.getElem?_append_left (by simp)]
      rfl
    · simp only [Act.eval]
      rw [Array.getD_eq_getD_getElem?, Array.getElem?_append_left (by simp)]
      rfl
  rw [ha]
  clear ha
  refine wpIn_seq (wpIn_region ?_)
  refine in_val (o := ⟨some 2, .box st (.tmp 0), u0, p0, h0, none⟩) (v := .pointer (some ⟨w.heap.size, 0, none⟩)) (w' := w.alloc (.cells #[.slice none 0 0] st)) rfl rfl (by intro c h; cases h) (fun _ => trivial) ?_ ?_
  · simp only [execOp, Instr.box, newVar, newRow, e0, Sem.run_bind, Result.andThen, Value.cells, Sem.run_pure]
    rfl
  refine in_val (o := ⟨some 4, .assign (.const (.slice none 0 0)), u1, p1, h1, none⟩) (v := .slice none 0 0) (w' := w.alloc (.cells #[.slice none 0 0] st)) rfl rfl (by intro c h; cases h) (fun _ => trivial) (by simp [execOp, Act.eval]) ?_
  show (Code.seq _ _).wpIn _ _ _ _ _ _
  refine wpIn_seq (wpIn_seq (wpIn_region ?_))
  refine in_val (o := ⟨some 6, .move (.tmp 1), u2, p2, h2, none⟩) (v := .func (.func g) #[] lb) (w' := w.alloc (.cells #[.slice none 0 0] st)) rfl rfl (by intro c h; cases h) (fun _ => trivial) ?_ ?_
  · simp only [execOp]
    rw [eval_put (by rw [size_put]; omega), eval_put (by omega)]
    simp [e1]
  obtain ⟨a1, ha1⟩ : ∃ a1, a1 = (((a.put (some 2) (.pointer (some ⟨w.heap.size, 0, none⟩))).put (some 4) (.slice none 0 0)).put (some 6) (.func (.func g) #[] lb)) := ⟨_, rfl⟩
  have f1 : a1.tmps.size = 13 ∧ a1.defers = [] ∧ a1.eval (.tmp 2) = .pointer (some ⟨w.heap.size, 0, none⟩) ∧ a1.eval (.tmp 6) = .func (.func g) #[] lb := by
    subst ha1
    refine ⟨by rw [size_put, size_put, size_put]; exact hsz, hdef, ?_, ?_⟩
    · rw [eval_put (by rw [size_put, size_put]; omega), eval_put (by rw [size_put]; omega), eval_put (by omega)]; simp
    · rw [eval_put (by rw [size_put, size_put]; omega)]; simp
  show (Code.block b0 _).wpIn _ _ _ _ _ _
  rw [← ha1]
  clear ha1 e0 e1 hsz hdef a
  obtain ⟨hsz, hdef, e2, e6⟩ := f1
  refine wpIn_block (wpIn_rangeFunc ?_)
  intro fnid _
  obtain ⟨W0, hW0⟩ : ∃ W0, W0 = w.alloc (.cells #[.slice none 0 0] st) := ⟨_, rfl⟩
  rw [← hW0]
  have hs0 : W0.heap.size = w.heap.size + 1 := by rw [hW0]; simp
  have hv0 : W0.heap[w.heap.size]? = some (.cells #[.slice none 0 0] st (0, 0)) := by rw [hW0]; exact alloc_new _ _
  have hb0' : Below w.heap.size w W0 := by rw [hW0]; exact (Below.refl _ w).alloc (Nat.le_refl _) _
  generalize has : (Code.region r0 #[⟨some 5, .alloc kt, y0, q0, g0, none⟩, ⟨none, .store kt (.tmp 5) (.tmp 7), y1, q1, g1, none⟩] false) = as
  generalize hbo : (Code.block i1 (.region r1 #[⟨some 8, .load st (.tmp 2), y2, q2, g2, none⟩, ⟨some 9, .load kt (.tmp 5), y3, q3, g3, none⟩, ⟨some 10, .buildSlice st 1 #[(0, .tmp 9)], y4, q4, g4, none⟩, ⟨some 11, .call ⟨.builtin .append, #[.tmp 8, .tmp 10], #[st, st]⟩, y5, q5, g5, none⟩, ⟨none, .store st (.tmp 2) (.tmp 11), y6, q6, g6, none⟩] false)) = bo
  obtain ⟨rec, hrec⟩ : ∃ rec : Loop, rec = recOf fnid a1.tmps as bo W0.heap.size := ⟨_, rfl⟩
  obtain ⟨W1, hW1⟩ : ∃ W1, W1 = (W0.alloc (.deferred (some []))).alloc (.loop rec) := ⟨_, rfl⟩
  have hM : ApAt enc k kt st w w.heap.size (W0.heap.size + 1) W0.heap.size rec [] W1 := by
    refine ⟨⟨.slice none 0 0, ?_, rfl, .inl ⟨rfl, rfl, rfl⟩, by simp [blkOf]⟩, ?_, ?_, ?_⟩
    · rw [hW1]; exact (Below.heap_alloc _ _ _ (by simp; omega)).trans ((Below.heap_alloc _ _ _ (by omega)).trans hv0)
    · rw [hW1]
      have := alloc_new (W0.alloc (.deferred (some []))) (.loop rec)
      simpa using this
    · rw [hW1]; exact (Below.heap_alloc _ _ _ (by simp)).trans (alloc_new _ _)
    · rw [hW1]; exact (hb0'.alloc hb0'.size _).alloc (by have := hb0'.size; simp; omega) _
  refine ⟨W0.heap.size + 1, [{ target := .collected W0.heap.size, args := #[] }], W1, { target := .fn (.func g) lb, args := #[.func (.yield (W0.heap.size + 1)) #[] #[]] }, W1, g,
    #[.func (.yield (W0.heap.size + 1)) #[] #[]] ++ lb, W1, ?_, ?_, fun _ _ => trivial, ?_, fun h => (by cases h), ?_⟩
  · rw [hW1, hrec]; exact run_enterLoop_outer _ _ _ _ _
  · simp only [resolve, rangeCall, e6]
    simp [go_sem]
  · simp [invoke, go_sem, eg]
  refine (hseq (W0.heap.size + 1) (ApAt enc k kt st w w.heap.size (W0.heap.size + 1) W0.heap.size rec) W1 hM.below (ap_abides hM.below.size)
    (fun pre x W hJ hl => ap_yield (by rw [hrec, has]; rfl) (by rw [hrec, hbo]; rfl) (by rw [hrec]; rfl) (by rw [hrec]; exact hsz) (by rw [hrec]; exact e2) (by rw [hrec]; rfl) (by rw [hrec]; rfl) hT hsl hK hB hz hzk hZ hzd hk24 hb0 henc (by omega) (by omega) (by omega) (Nat.le_refl _) (by omega) hN hJ hl) hM).mono ?_
  rintro e W2 ⟨⟨v0, rfl⟩, ss, hS, h2'⟩
  obtain ⟨v, hv, hv1, hrow, hvB⟩ := h2'.box
  have hend := run_endLoop (P := P) h2'.L (by rw [hrec]; simp [recOf])
  obtain ⟨W3, hW3⟩ : ∃ W3, W3 = W2.putObj (W0.heap.size + 1) (.loop { rec with state := .exhausted }) := ⟨_, rfl⟩
  rw [← hW3, show rec.pending = none from by rw [hrec]; rfl] at hend
  have hl2 := (Array.getElem?_eq_some_iff.1 h2'.L).1
  have ho3 : ∀ j, j ≠ W0.heap.size + 1 → W3.heap[j]? = W2.heap[j]? := fun j hj => by rw [hW3]; exact World.putObj_heap_other hj
  have ch3 : Chg W2 W3 (fun j => j = W0.heap.size + 1) := by rw [hW3]; exact Chg.putObj _ _ _ _ (fun _ => rfl)
  have hv3 : W3.heap[w.heap.size]? = some (.cells #[v] st (0, 0)) := (ho3 _ (by omega)).trans hv
  have hK3 : W3.heap[W0.heap.size]? = some (.deferred (some [])) := (ho3 _ (by omega)).trans h2'.K
  have hrow3 : RowAt w.heap.size k kt v (ss.flatMap enc) ss.length W3 := hrow.kept (fun g hg => ho3 g (fun e => hrow.ne h2'.L rfl (by rw [← e]; exact hg)))
  have hb3 : Below w.heap.size w W3 := ch3.below h2'.below (fun j e => by omega)
  refine ⟨none, W3, hend, ?_⟩
  show (Code.seq _ _).wpIn _ _ _ _ _ _
  obtain ⟨a2, ha2⟩ : ∃ a2 : Act, a2 = { a1 with defers := [{ target := .collected W0.heap.size, args := #[] }] ++ a1.defers } := ⟨_, rfl⟩
  have f2 : a2.tmps.size = 13 ∧ a2.defers = [{ target := .collected W0.heap.size, args := #[] }] ∧ a2.eval (.tmp 2) = .pointer (some ⟨w.heap.size, 0, none⟩) := by
    subst ha2
    exact ⟨hsz, by simp [hdef], e2⟩
  rw [← ha2]
  clear ha2 hW3
  obtain ⟨hsz2, hdef2, e22⟩ := f2
  refine wpIn_seq (wpIn_region ?_)
  refine in_val (o := ⟨some 12, .load st (.tmp 2), u3, p3, h3, none⟩) (v := v) (w' := W3) rfl rfl (by intro c h; cases h) (fun _ => trivial) ?_ ?_
  · simp only [execOp, Instr.loadAt, e22, Sem.run_bind, Instr.sureAddr, Sem.run_pure, Result.andThen]
    rw [run_loadVar_at (cs := [v]) hT (cells_at_block (sp := []) (by simpa using hv3)) (fun _ => rfl)]
    rfl
  refine in_val (o := ⟨some 4, .assign (.tmp 12), u4, p4, h4, none⟩) (v := v) (w' := W3) rfl rfl (by intro c h; cases h) (fun _ => trivial) ?_ ?_
  · simp only [execOp]
    rw [eval_put (by omega)]
    simp
  refine wpIn_ret ?_
  have hd : ((a2.put (some 12) v).put (some 4) v).defers = [{ target := .collected W0.heap.size, args := #[] }] := hdef2
  have ht : ((a2.put (some 12) v).put (some 4) v).tmps.getD 4 undef = v := by
    have := eval_put (a := a2.put (some 12) v) (d := 4) (t := 4) (v := v) (by rw [size_put]; omega)
    simpa [Act.eval] using this
  simp only [bodyPostM, hd]
  refine ⟨by simp, .inl ⟨_, _, rfl, run_takeDeferred hK3, ?_⟩⟩
  have hbl : blkOf v ≠ some W0.heap.size := hrow3.ne hK3 rfl
  refine ⟨v, ?_, v, ss, rfl, hS, hrow3.kept (fun g hg => World.putObj_heap_other (fun e => hbl (by rw [← e]; exact hg))), (Chg.putObj W3 _ _ (fun j => j = W0.heap.size) (fun _ => rfl)).below hb3 (fun j e => by omega)⟩
  rw [results_tmp hr, ht]

end Go.Val
