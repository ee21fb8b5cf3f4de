/- A call, by the callee's contract: the objects' numbers are turned, what is not handed over stays. -/
import Derived.Test.YtlcnkhphgekmeaaVl
set_option linter.unusedSectionVars false
set_option linter.unusedVariables false
set_option linter.unusedSimpArgs false
namespace Go.Val
open Go.RowKit
variable [Drw]

mutual
def AV.ren (σ : Nat → Nat) : AV → AV
  | .d x => .d x
  | .ptr o n => .ptr (σ o) n
  | .arr o v => .arr (σ o) v
  | .pel o v k n => .pel (σ o) v k n
  | .map o => .map (σ o)
  | .it o => .it (σ o)
  | .bsl o n l c => .bsl (σ o) n l c
  | .st ps => .st (AV.rens σ ps)
  | .tup ps => .tup (AV.rens σ ps)
  | .fn f p q => .fn f (AV.rens σ p) (AV.rens σ q)
  | .ifc t x => .ifc t (x.ren σ)
  | .sx es rows => .sx es rows
def AV.rens (σ : Nat → Nat) : List AV → List AV
  | [] => []
  | x :: xs => x.ren σ :: AV.rens σ xs
end

def OB.ren (σ : Nat → Nat) : OB → OB
  | .box x => .box (x.ren σ)
  | .arr v es rows => .arr v es rows
  | .map v es => .map v es
  | .iter m v l cu => .iter (σ m) v l cu

theorem ren_isAgg (σ : Nat → Nat) (x : AV) : (x.ren σ).isAgg = x.isAgg := by cases x <;> rfl

/-- Data in which no memory lies. -/
def DFlat (d : D) : Prop := ∀ (I I' : Nat → Prop) (w w' : World) (cs : List Value), DR I w d cs → DR I' w' d cs

theorem DFlat.v (x : Value) : DFlat (.v x) := fun _ _ _ _ _ h => by cases h with | v h => exact .v h
theorem DFlat.bs (n : Nat) (l : List UInt8) : DFlat (.bs n l) := fun _ _ _ _ _ h => by cases h with | bs h => exact .bs h
theorem drs_flat {I I' : Nat → Prop} {w w' : World} : ∀ {ds : List D} {cs : List Value}, (∀ p ∈ ds, DFlat p) → DRs I w ds cs → DRs I' w' ds cs
  | [], _, _, .nil => .nil
  | _ :: _, _, hp, .cons h1 h2 => .cons (hp _ (by simp) _ _ _ _ _ h1) (drs_flat (fun q hq => hp q (by simp [hq])) h2)

theorem DFlat.st {ps : List D} (hp : ∀ p ∈ ps, DFlat p) : DFlat (.st ps) := fun _ _ _ _ _ h => by
  cases h with
  | st h => exact .st (drs_flat hp h)

mutual
def AV.flat : AV → Prop
  | .d x => DFlat x
  | .st ps => AV.flats ps
  | .tup ps => AV.flats ps
  | .fn _ p q => AV.flats p ∧ AV.flats q
  | .ifc _ x => x.flat
  | .sx _ _ => False
  | _ => True
def AV.flats : List AV → Prop
  | [] => True
  | x :: xs => x.flat ∧ AV.flats xs
end

def OB.flat : OB → Prop
  | .box x => x.flat
  | .arr _ _ rows => ∀ r ∈ rows, DFlat r
  | .map _ es => ∀ p ∈ es, DFlat p.1 ∧ DFlat p.2
  | .iter _ _ l cu => (∀ p ∈ l, DFlat p.1 ∧ DFlat p.2) ∧ ∀ p, cu = some p → DFlat p.1 ∧ DFlat p.2

/-- How one environment's values are another one's, under other numbers. -/
structure Rn (E1 E2 : Env) (σ : Nat → Nat) : Prop where
  w : E2.w = E1.w
  obj : ∀ o ob, E1.obj o = some ob → E2.obj (σ o) = some (ob.ren σ)
  β : ∀ o, E1.obj o ≠ none → E2.β (σ o) = E1.β o
  γ : ∀ o, E1.obj o ≠ none → E2.γ (σ o) = E1.γ o
  δ : ∀ o, E1.obj o ≠ none → E2.δ (σ o) = E1.δ o

section
variable {E1 E2 : Env} {σ : Nat → Nat}

theorem Rn.dr (h : Rn E1 E2 σ) {d : D} {cs : List Value} (hI : (∀ b, E1.I b → b < E1.w.heap.size → E2.I b) ∨ DFlat d) (hd : DR E1.I E1.w d cs) : DR E2.I E2.w d cs := by
  rcases hI with hI | hI
  · exact hd.mono (by rw [h.w]; exact Nat.le_refl _) (fun b hb hlt => ⟨hI b hb hlt, by rw [h.w]⟩)
  · exact hI _ _ _ _ _ hd

mutual
theorem CR.ren (h : Rn E1 E2 σ) (I2 : Prop) (hI : I2 → ∀ b, E1.I b → b < E1.w.heap.size → E2.I b) : ∀ {x : AV} {cs : List Value}, (I2 ∨ x.flat) → CR E1 x cs → CR E2 (x.ren σ) cs
  | _, _, hf, .d k => .d (h.dr (hf.imp hI (fun q => by simpa [AV.flat] using q)) k)
  | _, _, _, .ptr ho hb => .ptr (h.obj _ _ ho) ((h.β _ (by rw [ho]; simp)).trans hb)
  | _, _, _, .arr ho hl hv h1 => .arr (h.obj _ _ ho) hl (fun e => by rw [h.β _ (by rw [ho]; simp), h.γ _ (by rw [ho]; simp)]; exact hv e) h1
  | _, _, _, .pel ho hl hv h1 => .pel (h.obj _ _ ho) hl (fun e => by
      obtain ⟨b, q1, q2⟩ := hv e
      exact ⟨b, (h.β _ (by rw [ho]; simp)).trans q1, q2⟩) h1
  | _, _, _, .map ho hb => .map (h.obj _ _ ho) ((h.β _ (by rw [ho]; simp)).trans hb)
  | _, _, _, .it ho hb => .it (h.obj _ _ ho) ((h.β _ (by rw [ho]; simp)).trans hb)
  | _, _, _, .bsl ho hb => .bsl (h.obj _ _ ho) ((h.β _ (by rw [ho]; simp)).trans hb)
  | _, _, hf, .st k => .st (CRs.ren h I2 hI (hf.imp id (fun q => by simpa [AV.flat] using q)) k)
  | _, _, hf, .tup k => .tup (VRs.ren h I2 hI (hf.imp id (fun q => by simpa [AV.flat] using q)) k)
  | _, _, hf, .fn k k' => .fn (VRs.ren h I2 hI (hf.imp id (fun q => by simp only [AV.flat] at q; exact q.1)) k) (VRs.ren h I2 hI (hf.imp id (fun q => by simp only [AV.flat] at q; exact q.2)) k')
  | .ifc _ x, _, hf, .ifc k => by
    have := CR.ren h I2 hI (hf.imp id (fun q => by simpa [AV.flat] using q)) k
    rw [← ren_isAgg σ x]
    exact .ifc this
  | .sx _ _, _, hf, .sx h1 h2 h3 h4 h5 => by
    have hI2 := hI (hf.resolve_right (fun q => by simp [AV.flat] at q))
    exact .sx (hI2 _ h1 h2) (by rw [h.w]; exact h2) (h3.mono (by rw [h.w]; exact Nat.le_refl _) (fun b hb hlt => ⟨hI2 b hb hlt, by rw [h.w]⟩)) h4 (by rw [h.w]; exact h5)
theorem CRs.ren (h : Rn E1 E2 σ) (I2 : Prop) (hI : I2 → ∀ b, E1.I b → b < E1.w.heap.size → E2.I b) : ∀ {x : List AV} {cs : List Value}, (I2 ∨ AV.flats x) → CRs E1 x cs → CRs E2 (AV.rens σ x) cs
  | _, _, _, .nil => .nil
  | _, _, hf, .cons k ks => .cons (CR.ren h I2 hI (hf.imp id (fun q => by simp only [AV.flats] at q; exact q.1)) k) (CRs.ren h I2 hI (hf.imp id (fun q => by simp only [AV.flats] at q; exact q.2)) ks)
theorem VRs.ren (h : Rn E1 E2 σ) (I2 : Prop) (hI : I2 → ∀ b, E1.I b → b < E1.w.heap.size → E2.I b) : ∀ {x : List AV} {cs : List Value}, (I2 ∨ AV.flats x) → VRs E1 x cs → VRs E2 (AV.rens σ x) cs
  | _, _, _, .nil => .nil
  | x :: _, _, hf, .cons k ks => by
    have h1 := CR.ren h I2 hI (hf.imp id (fun q => by simp only [AV.flats] at q; exact q.1)) k
    have h2 := VRs.ren h I2 hI (hf.imp id (fun q => by simp only [AV.flats] at q; exact q.2)) ks
    rw [← ren_isAgg σ x]
    exact .cons h1 h2
end

theorem OR.ren (h : Rn E1 E2 σ) (I2 : Prop) (hI : I2 → ∀ b, E1.I b → b < E1.w.heap.size → E2.I b) {o : Nat} {ob : OB} (hf : I2 ∨ ob.flat) (ho : E1.obj o = some ob) (hinj : ∀ m, E1.obj m ≠ none → σ m = σ o → m = o)
    (hinj' : ∀ m m', E1.obj m ≠ none → E1.obj m' ≠ none → σ m = σ m' → m = m') (hor : OR E1 o ob) : OR E2 (σ o) (ob.ren σ) := by
  have hne : E1.obj o ≠ none := by rw [ho]; simp
  cases ob with
  | box x =>
    obtain ⟨b, cs, e, h1, h2, h3, h4⟩ := hor
    exact ⟨b, cs, e, (h.β o hne).trans h1, CR.ren h I2 hI (hf.imp id (fun q => by simpa [OB.flat] using q)) h2, h3, by rw [h.w]; exact h4⟩
  | arr c es rows =>
    rcases hor with ⟨h1, h2, h3⟩ | ⟨b, cs, sp, e, h1, h2, h3, h4, h5, h6⟩
    · exact .inl ⟨(h.β o hne).trans h1, h2, (h.γ o hne).trans h3⟩
    · refine .inr ⟨b, cs, sp, e, (h.β o hne).trans h1, ?_, h3, by rw [h.w]; exact h4, by rw [h.γ o hne]; exact h5, by rw [h.γ o hne]; exact h6⟩
      rcases hf with hf | hf
      · exact h2.mono (by rw [h.w]; exact Nat.le_refl _) (fun b hb hlt => ⟨hI hf b hb hlt, by rw [h.w]⟩)
      · exact drs_flat hf h2
  | map v es =>
    obtain ⟨b, ents, clock, h1, h2, h3, h4, h5, h6, h7, h8⟩ := hor
    refine ⟨b, ents, clock, (h.β o hne).trans h1, by rw [h.w]; exact h2, h3, fun i k x ent p1 p2 => ?_, (h.δ o hne).trans h5, by rw [h.δ o hne]; exact h6, by rw [h.δ o hne]; exact h7, h8.trans (h.γ o hne).symm⟩
    obtain ⟨ck, cx, q1, q2, q3, q4⟩ := h4 i k x ent p1 p2
    have hm := List.mem_of_getElem? p1
    exact ⟨ck, cx, h.dr (hf.imp hI (fun q => (q _ hm).1)) q1, h.dr (hf.imp hI (fun q => (q _ hm).2)) q2, q3, q4⟩
  | iter m v l cu =>
    obtain ⟨b, since, seen, last, h1, h2, h3, c5, e5, h4, h5⟩ := hor
    have hm : E1.obj m ≠ none := by rw [h4]; simp
    refine ⟨b, since, seen, last, (h.β o hne).trans h1, by rw [h.w, h.β m hm]; exact h2, fun es hes => ?_, c5, e5, h.obj _ _ h4, h5⟩
    rw [h.obj _ _ h4] at hes
    simp only [OB.ren, Option.some.injEq, OB.map.injEq] at hes
    obtain ⟨q1, q2⟩ := hes
    rw [h.δ m hm, h.γ m hm]
    exact h3 es (by rw [h4, q1, q2])
end

/-- What a caller's value is to the callee. -/
inductive Hand (s : St) (oin : Nat → Option OB) (σ : Nat → Nat) : AV → AV → Bool → List Nat → Prop
  | same {y : AV} : Hand s oin σ (y.ren σ) y false []
  | arr {o c es : Nat} {rows : List D} (h : s.obj o = some (.arr c es rows)) : Hand s oin σ (.arr o c) (.d (.sl es rows)) true [o]
  | nil {es : Nat} : Hand s oin σ (.d (.v (.slice none 0 0))) (.d (.sl es [])) false []
  | bsl {o m cap n : Nat} {z : AV} {l : List UInt8} (p : List Nat) (h : s.obj o = some (.box z)) (hp : AV.get p z = some (.d (.bs n l), m)) (hc : Nat.ble n cap = true) : Hand s oin σ (.bsl o m n cap) (.d (.sl 1 (l.map fun x => .v (u8v x)))) true [o]
  | sx {es : Nat} {rows : List D} : Hand s oin σ (.sx es rows) (.d (.sl es rows)) false []

/- the end of what may be handed -/
inductive Hands (s : St) (oin : Nat → Option OB) (σ : Nat → Nat) : List Operand → List AV → Bool → List Nat → Prop
  | nil : Hands s oin σ [] [] false []
  | cons {o : Operand} {os : List Operand} {x y : AV} {ys : List AV} {b b' : Bool} {l l' : List Nat} (hx : s.val o = some x) (h : Hand s oin σ x y b l) (hs : Hands s oin σ os ys b' l') : Hands s oin σ (o :: os) (y :: ys) (b || b') (l ++ l')

def tmpsOf (os : List Operand) : List Nat := os.flatMap opTmps

end Go.Val
