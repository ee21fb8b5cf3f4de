/- The relation between values without memory (trees of data, and references to objects by numbers) and the model's values and worlds. -/
import Derived.Orders
import Derived.Below
set_option linter.unusedSectionVars false
set_option linter.unusedVariables false
set_option linter.unusedSimpArgs false
namespace Go.Val
open Go.RowKit

/-- Data without memory: a scalar; bytes in an array; a struct or an array; a slice, by its elements (each of 'es' cells); the address of what is never written again. -/
inductive D where
  | v (x : Value)
  | bs (n : Nat) (l : List UInt8)
  | st (ps : List D)
  | sl (es : Nat) (rows : List D)
  | at (x : D)
  deriving Inhabited

def u8v (b : UInt8) : Value := .int .u8 b.toNat

mutual
def D.size : D → Nat
  | .v _ => 1
  | .bs n _ => n
  | .st ps => D.sizes ps
  | .sl _ _ => 1
  | .at _ => 1
def D.sizes : List D → Nat
  | [] => 0
  | d :: ds => d.size + D.sizes ds
end

def D.isAgg : D → Bool
  | .st _ | .bs _ _ => true
  | _ => false

/-- A value that fills one cell. -/
def one : Value → Bool
  | .agg _ | .tuple _ => false
  | _ => true

/-- Cells from a place on. -/
def CellsAt (w : World) (b off : Nat) (cs : List Value) : Prop := ∀ i v, cs[i]? = some v → w.cell? ⟨b, off + i, none⟩ = some v

mutual
/-- In world w these cells are this datum; all that they lead to lies in blocks that I lets in. -/
inductive DR (I : Nat → Prop) (w : World) : D → List Value → Prop
  | v {x : Value} (h : one x = true) : DR I w (.v x) [x]
  | bs {n : Nat} {l : List UInt8} (h : l.length = n) : DR I w (.bs n l) (l.map u8v)
  | st {ps : List D} {cs : List Value} (h : DRs I w ps cs) : DR I w (.st ps) cs
  | sl0 {es : Nat} {a : Option Addr} {cap : Nat} : DR I w (.sl es []) [.slice a 0 cap]
  | sl {es : Nat} {rows : List D} {b off cap : Nat} {cs : List Value} (hI : I b) (hb : b < w.heap.size) (hr : DRs I w rows cs)
      (hs : ∀ r ∈ rows, r.size = es) (hc : CellsAt w b off cs) (hcap : rows.length ≤ cap) : DR I w (.sl es rows) [.slice (some ⟨b, off, none⟩) rows.length cap]
  | at {x : D} {b off : Nat} {cs : List Value} (hI : I b) (hb : b < w.heap.size) (hr : DR I w x cs) (hc : CellsAt w b off cs) : DR I w (.at x) [.pointer (some ⟨b, off, none⟩)]
/-- One datum behind the other. -/
inductive DRs (I : Nat → Prop) (w : World) : List D → List Value → Prop
  | nil : DRs I w [] []
  | cons {d : D} {ds : List D} {cs cs' : List Value} (h : DR I w d cs) (hs : DRs I w ds cs') : DRs I w (d :: ds) (cs ++ cs')
end

theorem cellsAt_block {w w' : World} {b off : Nat} {cs : List Value} (h : w'.heap[b]? = w.heap[b]?) (hc : CellsAt w b off cs) : CellsAt w' b off cs := by
  intro i v hi
  have := hc i v hi
  rw [← this]
  exact World.cell?_of_block (w := w) h

mutual
theorem DR.mono {I I' : Nat → Prop} {w w' : World} (hz : w.heap.size ≤ w'.heap.size) (hI : ∀ b, I b → b < w.heap.size → I' b ∧ w'.heap[b]? = w.heap[b]?) :
    ∀ {d : D} {cs : List Value}, DR I w d cs → DR I' w' d cs
  | _, _, .v h => .v h
  | _, _, .bs h => .bs h
  | _, _, .st h => .st (DRs.mono hz hI h)
  | _, _, .sl0 => .sl0
  | _, _, .sl h1 h2 h3 h4 h5 h6 => .sl (hI _ h1 h2).1 (by omega) (DRs.mono hz hI h3) h4 (cellsAt_block (hI _ h1 h2).2 h5) h6
  | _, _, .at h1 h2 h3 h4 => .at (hI _ h1 h2).1 (by omega) (DR.mono hz hI h3) (cellsAt_block (hI _ h1 h2).2 h4)
theorem DRs.mono {I I' : Nat → Prop} {w w' : World} (hz : w.heap.size ≤ w'.heap.size) (hI : ∀ b, I b → b < w.heap.size → I' b ∧ w'.heap[b]? = w.heap[b]?) :
    ∀ {ds : List D} {cs : List Value}, DRs I w ds cs → DRs I' w' ds cs
  | _, _, .nil => .nil
  | _, _, .cons h hs => .cons (DR.mono hz hI h) (DRs.mono hz hI hs)
end

mutual
theorem DR.len {I : Nat → Prop} {w : World} : ∀ {d : D} {cs : List Value}, DR I w d cs → cs.length = d.size
  | _, _, .v _ => rfl
  | _, _, .bs h => by simp [D.size, h]
  | _, _, .st h => by simp only [D.size]; exact DRs.len h
  | _, _, .sl0 => rfl
  | _, _, .sl .. => rfl
  | _, _, .at .. => rfl
theorem DRs.len {I : Nat → Prop} {w : World} : ∀ {ds : List D} {cs : List Value}, DRs I w ds cs → cs.length = D.sizes ds
  | _, _, .nil => rfl
  | _, _, .cons h hs => by simp [D.sizes, DR.len h, DRs.len hs]
end

mutual
theorem DR.ones {I : Nat → Prop} {w : World} : ∀ {d : D} {cs : List Value}, DR I w d cs → ∀ v ∈ cs, one v = true
  | _, _, .v h => by simpa using h
  | _, _, .bs h => by intro v hv; simp at hv; obtain ⟨a, _, rfl⟩ := hv; rfl
  | _, _, .st h => DRs.ones h
  | _, _, .sl0 => by simp [one]
  | _, _, .sl .. => by simp [one]
  | _, _, .at .. => by simp [one]
theorem DRs.ones {I : Nat → Prop} {w : World} : ∀ {ds : List D} {cs : List Value}, DRs I w ds cs → ∀ v ∈ cs, one v = true
  | _, _, .nil => by simp
  | _, _, .cons h hs => by
    intro v hv
    rcases List.mem_append.1 hv with h1 | h1
    · exact DR.ones h v h1
    · exact DRs.ones hs v h1
end

/-- A value out of its cells. -/
def mkV (agg : Bool) (cs : List Value) : Value := if agg then .agg cs.toArray else cs.headD (.tuple #[])

theorem DR.mkV_cells {I : Nat → Prop} {w : World} {d : D} {cs : List Value} (h : DR I w d cs) : (mkV d.isAgg cs).cells = cs.toArray := by
  cases h with
  | v h1 => rename_i x; cases x <;> first | rfl | (simp [one] at h1)
  | bs h1 => rfl
  | st h1 => rfl
  | sl0 => rfl
  | sl => rfl
  | «at» => rfl

theorem DRs.append {I : Nat → Prop} {w : World} : ∀ {a b : List D} {cs cs' : List Value}, DRs I w a cs → DRs I w b cs' → DRs I w (a ++ b) (cs ++ cs')
  | _, _, _, _, .nil, h => h
  | _, _, _, _, .cons h hs, k => by rw [List.cons_append, List.append_assoc]; exact .cons h (DRs.append hs k)

/-- A list cut in two is two. -/
theorem DRs.split {I : Nat → Prop} {w : World} : ∀ (a : List D) {b : List D} {cs : List Value}, DRs I w (a ++ b) cs →
    ∃ c1 c2, cs = c1 ++ c2 ∧ DRs I w a c1 ∧ DRs I w b c2
  | [], _, cs, h => ⟨[], cs, rfl, .nil, h⟩
  | d :: a, _, _, h => by
    cases h with
    | cons h1 h2 =>
      obtain ⟨c1, c2, rfl, k1, k2⟩ := DRs.split a h2
      exact ⟨_, c2, by rw [List.append_assoc], .cons h1 k1, k2⟩

theorem DRs.single {I : Nat → Prop} {w : World} {d : D} {cs : List Value} (h : DR I w d cs) : DRs I w [d] cs := by
  have := DRs.cons h .nil
  simpa using this

theorem DRs.of_single {I : Nat → Prop} {w : World} {d : D} {cs : List Value} (h : DRs I w [d] cs) : DR I w d cs := by
  cases h with
  | cons h1 h2 => cases h2; simpa using h1

/-- The sizes of rows of one size. -/
theorem sizes_same {es : Nat} : ∀ {rows : List D}, (∀ r ∈ rows, r.size = es) → D.sizes rows = rows.length * es
  | [], _ => by simp [D.sizes]
  | r :: rows, h => by
    simp only [D.sizes, List.length_cons]
    rw [sizes_same (rows := rows) (fun x hx => h x (by simp [hx])), h r (by simp), Nat.succ_mul, Nat.add_comm]

theorem sizes_append : ∀ (a b : List D), D.sizes (a ++ b) = D.sizes a + D.sizes b
  | [], b => by simp [D.sizes]
  | d :: a, b => by simp [D.sizes, sizes_append a b, Nat.add_assoc]

/-- Element i of rows of one size: its cells. -/
theorem DRs.row {I : Nat → Prop} {w : World} {es : Nat} {rows : List D} {cs : List Value} (h : DRs I w rows cs) (hs : ∀ r ∈ rows, r.size = es) {i : Nat} {r : D} (hi : rows[i]? = some r) :
    ∃ c, DR I w r c ∧ c.length = es ∧ ∀ j v, c[j]? = some v → cs[i * es + j]? = some v := by
  have hlt : i < rows.length := (List.getElem?_eq_some_iff.1 hi).1
  have hr : rows[i] = r := (List.getElem?_eq_some_iff.1 hi).2
  have hcut : rows = rows.take i ++ (r :: rows.drop (i + 1)) := by
    rw [← hr, List.getElem_cons_drop, List.take_append_drop]
  rw [hcut] at h
  obtain ⟨c1, c2, rfl, k1, k2⟩ := DRs.split _ h
  cases k2 with
  | cons h1 h2 =>
    rename_i c c'
    have l1 : c1.length = i * es := by
      rw [DRs.len k1, sizes_same (fun x hx => hs x (List.mem_of_mem_take hx)), List.length_take, Nat.min_eq_left (Nat.le_of_lt hlt)]
    have l2 : c.length = es := by rw [DR.len h1]; exact hs r (by rw [hcut]; simp)
    refine ⟨c, h1, l2, fun j v hj => ?_⟩
    have hjl : j < c.length := (List.getElem?_eq_some_iff.1 hj).1
    rw [List.getElem?_append_right (by omega), l1, show i * es + j - i * es = j from by omega, List.getElem?_append_left hjl]
    exact hj

theorem CellsAt.left {w : World} {b off : Nat} {c1 c2 : List Value} (h : CellsAt w b off (c1 ++ c2)) : CellsAt w b off c1 := by
  intro i v hi
  exact h i v (by rw [List.getElem?_append_left (List.getElem?_eq_some_iff.1 hi).1]; exact hi)

theorem CellsAt.right {w : World} {b off : Nat} {c1 c2 : List Value} (h : CellsAt w b off (c1 ++ c2)) : CellsAt w b (off + c1.length) c2 := by
  intro i v hi
  have := h (c1.length + i) v (by rw [List.getElem?_append_right (by omega)]; simpa using hi)
  rwa [← Nat.add_assoc] at this

end Go.Val
