/- Merged texts: Vm Vn Vo Vp Vq Vr Vs Vt Vu Vv. -/
import Derived.Test.YtfbnhflapgddbaaLa
import Derived.KernelRfl
import Derived.Maps.RangeRun
import Derived.RangeFuncGives
import Derived.RangeFuncOwn
import Derived.RangeFuncLeaves
import Derived.Lib.Bytealg
set_option linter.all false
namespace Go.Val
open Go.RowKit
variable [Drw]
mutual
def AV.ren (σ : Nat → Nat) : AV → AV
 | .d x => .d x
 | .ptr o n => .ptr (σ o) n
 | .arr o v => .arr (σ o) v
 | .pel o v k n => .pel (σ o) v k n
 | .asl o v k => .asl (σ o) v k
 | .osl o v k n => .osl (σ o) v k n
 | .csl o v k n => .csl (σ o) v k n
 | .map o => .map (σ o)
 | .it o => .it (σ o)
 | .bsl o n l c => .bsl (σ o) n l c
 | .st ps => .st (AV.rens σ ps)
 | .tup ps => .tup (AV.rens σ ps)
 | .fn f p q => .fn f (AV.rens σ p) (AV.rens σ q)
 | .ifc t x => .ifc t (x.ren σ)
 | .sx es rows => .sx es rows
def AV.rens (σ : Nat → Nat) : List AV → List AV
 | [] => []
 | x :: xs => x.ren σ :: AV.rens σ xs
end
mutual
def OD.ren (σ : Nat → Nat) : OD → OD
 | .av x => .av (x.ren σ)
 | .st ps => .st (OD.rens σ ps)
 | .map es => .map es
 | .arr es rows => .arr es rows
 | .box x => .box (x.ren σ)
def OD.rens (σ : Nat → Nat) : List OD → List OD
 | [] => []
 | x :: xs => x.ren σ :: OD.rens σ xs
end
def OB.ren (σ : Nat → Nat) : OB → OB
 | .own x => .own (x.ren σ)
 | .box x => .box (x.ren σ)
 | .arr v es rows => .arr v es rows
 | .map v es => .map v es
 | .iter m v l cu => .iter (σ m) v l cu
theorem ren_isB (σ : Nat → Nat) (x : OB) : (x.ren σ).isB = x.isB := by cases x <;> rfl
theorem q14 (σ : Nat → Nat) (x : AV) : (x.ren σ).isAgg = x.isAgg := by cases x <;> rfl
def DFlat (d : D) : Prop := ∀ (I I' : Nat → Prop) (w w' : World) (cs : List Value),DR I w d cs → DR I' w' d cs
theorem DFlat.v (x : Value) : DFlat (.v x) := fun _ _ _ _ _ h => by cases h with | v h => exact .v h
theorem DFlat.bs (n : Nat) (l : List UInt8) : DFlat (.bs n l) := fun _ _ _ _ _ h => by cases h with | bs h => exact .bs h
theorem drs_flat {I I' : Nat → Prop} {w w' : World} : ∀ {ds : List D} {cs : List Value},(∀ p ∈ ds,DFlat p) → DRs I w ds cs → DRs I' w' ds cs
 | [],_,_,.nil => .nil
 | _ :: _,_,hp,.cons h1 h2 => .cons (hp _ (by simp) _ _ _ _ _ h1) (drs_flat (fun q hq => hp q (by simp [hq])) h2)
theorem DFlat.st {ps : List D} (hp : ∀ p ∈ ps,DFlat p) : DFlat (.st ps) := fun _ _ _ _ _ h => by
 cases h with
 | st h => exact .st (drs_flat hp h)
mutual
def AV.flat : AV → Prop
 | .d x => DFlat x
 | .st ps => AV.flats ps
 | .tup ps => AV.flats ps
 | .fn _ p q => AV.flats p ∧ AV.flats q
 | .ifc _ x => x.flat
 | .sx _ _ => False
 | _ => True
def AV.flats : List AV → Prop
 | [] => True
 | x :: xs => x.flat ∧ AV.flats xs
end
mutual
def OD.flat : OD → Prop
 | .av x => x.flat
 | .st ps => OD.flats ps
 | .map es => ∀ p ∈ es,DFlat p.1 ∧ DFlat p.2
 | .arr _ rows => ∀ r ∈ rows,DFlat r
 | .box x => x.flat
def OD.flats : List OD → Prop
 | [] => True
 | x :: xs => x.flat ∧ OD.flats xs
end
def OB.flat : OB → Prop
 | .own x => x.flat
 | .box x => x.flat
 | .arr _ _ rows => ∀ r ∈ rows,DFlat r
 | .map _ es => ∀ p ∈ es,DFlat p.1 ∧ DFlat p.2
 | .iter _ _ l cu => (∀ p ∈ l,DFlat p.1 ∧ DFlat p.2) ∧ ∀ p,cu = some p → DFlat p.1 ∧ DFlat p.2
structure Rn (E1 E2 : Env) (σ : Nat → Nat) : Prop where
 w : E2.w = E1.w
 obj : ∀ o ob,E1.obj o = some ob → E2.obj (σ o) = some (ob.ren σ)
 β : ∀ o,E1.obj o ≠ none → E2.β (σ o) = E1.β o
 γ : ∀ o,E1.obj o ≠ none → E2.γ (σ o) = E1.γ o
 δ : ∀ o,E1.obj o ≠ none → E2.δ (σ o) = E1.δ o
 φ : ∀ o,E1.obj o ≠ none → E2.φ (σ o) = E1.φ o
section
variable {E1 E2 : Env} {σ : Nat → Nat}
theorem Rn.dr (h : Rn E1 E2 σ) {d : D} {cs : List Value} (hI : (∀ b,E1.I b → b < E1.w.heap.size → E2.I b) ∨ DFlat d) (hd : DR E1.I E1.w d cs) : DR E2.I E2.w d cs := by
 rcases hI with hI | hI
 ·exact hd.mono (by rw [h.w]; exact Nat.le_refl _) (fun b hb hlt => ⟨hI b hb hlt,by rw [h.w]⟩)
 ·exact hI _ _ _ _ _ hd
mutual
theorem CR.ren (h : Rn E1 E2 σ) (I2 : Prop) (hI : I2 → ∀ b,E1.I b → b < E1.w.heap.size → E2.I b) : ∀ {x : AV} {cs : List Value},(I2 ∨ x.flat) → CR E1 x cs → CR E2 (x.ren σ) cs
 | _,_,hf,.d k => .d (h.dr (hf.imp hI (fun q => by simpa [AV.flat] using q)) k)
 | _,_,_,.ptr ho hk hb => .ptr (h.obj _ _ ho) (by rw [ren_isB]; exact hk) ((h.β _ (by rw [ho]; simp)).trans hb)
 | _,_,_,.arr ho hl hv h1 => .arr (h.obj _ _ ho) hl (fun e => by rw [h.β _ (by rw [ho]; simp),h.γ _ (by rw [ho]; simp)]; exact hv e) h1
 | _,_,_,.pel ho hl hv h1 => .pel (h.obj _ _ ho) hl (fun e => by
   obtain ⟨b,q1,q2⟩ := hv e
   exact ⟨b,(h.β _ (by rw [ho]; simp)).trans q1,q2⟩) h1
 | _,_,_,.asl ho hl hv h1 => .asl (h.obj _ _ ho) hl (fun e => (hv e).imp id fun ⟨b,c,q1,q2⟩ => ⟨b,c,(h.β _ (by rw [ho]; simp)).trans q1,q2⟩) h1
 | _,_,_,.osl ho hl hv h1 => .osl (h.obj _ _ ho) hl (fun e => (hv e).imp id fun ⟨b,c,q1,q2⟩ => ⟨b,c,(h.β _ (by rw [ho]; simp)).trans q1,q2⟩) h1
 | _,_,_,.csl ho hl hv h1 => .csl (h.obj _ _ ho) hl (fun e => by rw [h.β _ (by rw [ho]; simp),h.γ _ (by rw [ho]; simp)]; exact hv e) h1
 | _,_,_,.map ho hb => .map (h.obj _ _ ho) ((h.β _ (by rw [ho]; simp)).trans hb)
 | _,_,_,.it ho hb => .it (h.obj _ _ ho) ((h.β _ (by rw [ho]; simp)).trans hb)
 | _,_,_,.bsl ho hk hb => .bsl (h.obj _ _ ho) (by rw [ren_isB]; exact hk) ((h.β _ (by rw [ho]; simp)).trans hb)
 | _,_,hf,.st k => .st (CRs.ren h I2 hI (hf.imp id (fun q => by simpa [AV.flat] using q)) k)
 | _,_,hf,.tup k => .tup (VRs.ren h I2 hI (hf.imp id (fun q => by simpa [AV.flat] using q)) k)
 | _,_,hf,.fn k k' => .fn (VRs.ren h I2 hI (hf.imp id (fun q => by simp only [AV.flat] at q; exact q.1)) k) (VRs.ren h I2 hI (hf.imp id (fun q => by simp only [AV.flat] at q; exact q.2)) k')
 | .ifc _ x,_,hf,.ifc k => by
  have := CR.ren h I2 hI (hf.imp id (fun q => by simpa [AV.flat] using q)) k
  rw [← q14 σ x]
  exact .ifc this
 | .sx _ _,_,hf,.sx h1 h2 h3 h4 h5 => by
  have hI2 := hI (hf.resolve_right (fun q => by simp [AV.flat] at q))
  exact .sx (hI2 _ h1 h2) (by rw [h.w]; exact h2) (h3.mono (by rw [h.w]; exact Nat.le_refl _) (fun b hb hlt => ⟨hI2 b hb hlt,by rw [h.w]⟩)) h4 (by rw [h.w]; exact h5)
theorem CRs.ren (h : Rn E1 E2 σ) (I2 : Prop) (hI : I2 → ∀ b,E1.I b → b < E1.w.heap.size → E2.I b) : ∀ {x : List AV} {cs : List Value},(I2 ∨ AV.flats x) → CRs E1 x cs → CRs E2 (AV.rens σ x) cs
 | _,_,_,.nil => .nil
 | _,_,hf,.cons k ks => .cons (CR.ren h I2 hI (hf.imp id (fun q => by simp only [AV.flats] at q; exact q.1)) k) (CRs.ren h I2 hI (hf.imp id (fun q => by simp only [AV.flats] at q; exact q.2)) ks)
theorem VRs.ren (h : Rn E1 E2 σ) (I2 : Prop) (hI : I2 → ∀ b,E1.I b → b < E1.w.heap.size → E2.I b) : ∀ {x : List AV} {cs : List Value},(I2 ∨ AV.flats x) → VRs E1 x cs → VRs E2 (AV.rens σ x) cs
 | _,_,_,.nil => .nil
 | x :: _,_,hf,.cons k ks => by
  have h1 := CR.ren h I2 hI (hf.imp id (fun q => by simp only [AV.flats] at q; exact q.1)) k
  have h2 := VRs.ren h I2 hI (hf.imp id (fun q => by simp only [AV.flats] at q; exact q.2)) ks
  rw [← q14 σ x]
  exact .cons h1 h2
end
mutual
theorem ODR.ren (h : Rn E1 E2 σ) (I2 : Prop) (hI : I2 → ∀ b,E1.I b → b < E1.w.heap.size → E2.I b) : ∀ {x : OD} {cs : List Value} {F : List Nat},(I2 ∨ x.flat) → ODR E1 x cs F → ODR E2 (x.ren σ) cs F
 | _,_,_,hf,.av k h1 => .av (CR.ren h I2 hI (hf.imp id (fun q => by simpa [OD.flat] using q)) k) h1
 | _,_,_,hf,.st k => .st (ODRs.ren h I2 hI (hf.imp id (fun q => by simpa [OD.flat] using q)) k)
 | _,_,_,hf,.map hb hl hm hn ht => by
  refine .map (by rw [h.w]; exact hb) hl (fun i k x ent p1 p2 => ?_) hn ht
  obtain ⟨ck,cx,q1,q2,q3,q4⟩ := hm i k x ent p1 p2
  have hmm := List.mem_of_getElem? p1
  exact ⟨ck,cx,h.dr (hf.imp hI (fun q => by simp only [OD.flat] at q; exact (q _ hmm).1)) q1,h.dr (hf.imp hI (fun q => by simp only [OD.flat] at q; exact (q _ hmm).2)) q2,q3,q4⟩
 | _,_,_,_,.arr0 => .arr0
 | _,_,_,hf,.arr hr hs hb hl hc => by
  refine .arr ?_ hs (by rw [h.w]; exact hb) hl hc
  rcases hf with hf | hf
  ·exact hr.mono (by rw [h.w]; exact Nat.le_refl _) (fun b hb hlt => ⟨hI hf b hb hlt,by rw [h.w]⟩)
  ·exact drs_flat (by simpa [OD.flat] using hf) hr
 | _,_,_,hf,.box k hb => .box (ODR.ren h I2 hI (hf.imp id (fun q => by simpa [OD.flat] using q)) k) (by rw [h.w]; exact hb)
theorem ODRs.ren (h : Rn E1 E2 σ) (I2 : Prop) (hI : I2 → ∀ b,E1.I b → b < E1.w.heap.size → E2.I b) : ∀ {x : List OD} {cs : List Value} {F : List Nat},(I2 ∨ OD.flats x) → ODRs E1 x cs F → ODRs E2 (OD.rens σ x) cs F
 | _,_,_,_,.nil => .nil
 | _,_,_,hf,.cons k ks => .cons (ODR.ren h I2 hI (hf.imp id (fun q => by simp only [OD.flats] at q; exact q.1)) k) (ODRs.ren h I2 hI (hf.imp id (fun q => by simp only [OD.flats] at q; exact q.2)) ks)
end
theorem OR.ren (h : Rn E1 E2 σ) (I2 : Prop) (hI : I2 → ∀ b,E1.I b → b < E1.w.heap.size → E2.I b) {o : Nat} {ob : OB} (hf : I2 ∨ ob.flat) (ho : E1.obj o = some ob) (hinj : ∀ m,E1.obj m ≠ none → σ m = σ o → m = o)
  (hinj' : ∀ m m',E1.obj m ≠ none → E1.obj m' ≠ none → σ m = σ m' → m = m') (hor : OR E1 o ob) : OR E2 (σ o) (ob.ren σ) := by
 have hne : E1.obj o ≠ none := by rw [ho]; simp
 cases ob with
 | box x =>
  obtain ⟨b,cs,e,h1,h2,h3,h4⟩ := hor
  exact ⟨b,cs,e,(h.β o hne).trans h1,CR.ren h I2 hI (hf.imp id (fun q => by simpa [OB.flat] using q)) h2,h3,by rw [h.w]; exact h4⟩
 | own x =>
  obtain ⟨b,cs,e,h1,h2,h3,h4,h5,h6⟩ := hor
  exact ⟨b,cs,e,(h.β o hne).trans h1,by rw [h.φ o hne]; exact ODR.ren h I2 hI (hf.imp id (fun q => by simpa [OB.flat] using q)) h2,h3,by rw [h.w]; exact h4,by rw [h.φ o hne]; exact h5,by rw [h.φ o hne]; exact h6⟩
 | arr c es rows =>
  rcases hor with ⟨h1,h2,h3⟩ | ⟨b,cs,sp,e,h1,h2,h3,h4,h5,h6⟩
  ·exact .inl ⟨(h.β o hne).trans h1,h2,(h.γ o hne).trans h3⟩
  ·refine .inr ⟨b,cs,sp,e,(h.β o hne).trans h1,?_,h3,by rw [h.w]; exact h4,by rw [h.γ o hne]; exact h5,by rw [h.γ o hne]; exact h6⟩
   rcases hf with hf | hf
   ·exact h2.mono (by rw [h.w]; exact Nat.le_refl _) (fun b hb hlt => ⟨hI hf b hb hlt,by rw [h.w]⟩)
   ·exact drs_flat hf h2
 | map v es =>
  obtain ⟨b,ents,clock,h1,h2,h3,h4,h5,h6,h7,h8⟩ := hor
  refine ⟨b,ents,clock,(h.β o hne).trans h1,by rw [h.w]; exact h2,h3,fun i k x ent p1 p2 => ?_,(h.δ o hne).trans h5,by rw [h.δ o hne]; exact h6,by rw [h.δ o hne]; exact h7,h8.trans (h.γ o hne).symm⟩
  obtain ⟨ck,cx,q1,q2,q3,q4⟩ := h4 i k x ent p1 p2
  have hm := List.mem_of_getElem? p1
  exact ⟨ck,cx,h.dr (hf.imp hI (fun q => (q _ hm).1)) q1,h.dr (hf.imp hI (fun q => (q _ hm).2)) q2,q3,q4⟩
 | iter m v l cu =>
  obtain ⟨b,since,seen,last,h1,h2,h3,c5,e5,h4,h5⟩ := hor
  have hm : E1.obj m ≠ none := by rw [h4]; simp
  refine ⟨b,since,seen,last,(h.β o hne).trans h1,by rw [h.w,h.β m hm]; exact h2,fun es hes => ?_,c5,e5,h.obj _ _ h4,h5⟩
  rw [h.obj _ _ h4] at hes
  simp only [OB.ren,Option.some.injEq,OB.map.injEq] at hes
  obtain ⟨q1,q2⟩ := hes
  rw [h.δ m hm,h.γ m hm]
  exact h3 es (by rw [h4,q1,q2])
end
inductive Hand (s : St) (oin : Nat → Option OB) (σ : Nat → Nat) : AV → AV → Bool → List Nat → Prop
 | same {y : AV} : Hand s oin σ (y.ren σ) y false []
 | arr {o c es : Nat} {rows : List D} (h : s.obj o = some (.arr c es rows)) : Hand s oin σ (.arr o c) (.d (.sl es rows)) true [o]
 | nil {es : Nat} : Hand s oin σ (.d (.v (.slice none 0 0))) (.d (.sl es [])) false []
 | bsl {o m cap n : Nat} {z : AV} {l : List UInt8} (p : List Nat) (h : s.obj o = some (.box z)) (hp : AV.get p z = some (.d (.bs n l),m)) (hc : Nat.ble n cap = true) : Hand s oin σ (.bsl o m n cap) (.d (.sl 1 (l.map fun x => .v (u8v x)))) true [o]
 | sx {es : Nat} {rows : List D} : Hand s oin σ (.sx es rows) (.d (.sl es rows)) false []
 | bag {T o c es : Nat} {rows : List D} (h : s.obj o = some (.arr c es rows)) : Hand s oin σ (.ifc T (.st [.arr o c])) (.ifc T (.d (.st [.sl es rows]))) true [o]
 | bslP {o m0 lo cnt cap n : Nat} {z : AV} {l : List UInt8} (p : List Nat) (h : s.obj o = some (.box z)) (hp : AV.get p z = some (.d (.bs n l),m0)) (hc : Nat.ble cnt cap = true) (hl : Nat.ble (lo + cnt) n = true) : Hand s oin σ (.bsl o (m0 + lo) cnt cap) (.d (.sl 1 (((l.drop lo).take cnt).map fun x => .v (u8v x)))) true [o]
inductive Hands (s : St) (oin : Nat → Option OB) (σ : Nat → Nat) : List Operand → List AV → Bool → List Nat → Prop
 | nil : Hands s oin σ [] [] false []
 | cons {o : Operand} {os : List Operand} {x y : AV} {ys : List AV} {b b' : Bool} {l l' : List Nat} (hx : s.val o = some x) (h : Hand s oin σ x y b l) (hs : Hands s oin σ os ys b' l') : Hands s oin σ (o :: os) (y :: ys) (b || b') (l ++ l')
def qS4 (os : List Operand) : List Nat := os.flatMap opT
end Go.Val
namespace Go.Val
open Go.RowKit
variable [Drw]
mutual
def AV.live (f : Nat → Option OB) : AV → Prop
 | .d _ => True
 | .ptr o _ => f o ≠ none
 | .arr o _ => f o ≠ none
 | .pel o _ _ _ => f o ≠ none
 | .asl o _ _ => f o ≠ none
 | .osl o _ _ _ => f o ≠ none
 | .csl o _ _ _ => f o ≠ none
 | .map o => f o ≠ none
 | .it o => f o ≠ none
 | .bsl o _ _ _ => f o ≠ none
 | .st ps => AV.lives f ps
 | .tup ps => AV.lives f ps
 | .fn _ p q => AV.lives f p ∧ AV.lives f q
 | .ifc _ x => x.live f
 | .sx _ _ => True
def AV.lives (f : Nat → Option OB) : List AV → Prop
 | [] => True
 | x :: xs => x.live f ∧ AV.lives f xs
end
mutual
def OD.live (f : Nat → Option OB) : OD → Prop
 | .av x => x.live f
 | .st ps => OD.lives f ps
 | .box x => x.live f
 | _ => True
def OD.lives (f : Nat → Option OB) : List OD → Prop
 | [] => True
 | x :: xs => x.live f ∧ OD.lives f xs
end
def OB.live (f : Nat → Option OB) : OB → Prop
 | .own x => x.live f
 | .box x => x.live f
 | .iter m _ _ _ => f m ≠ none
 | _ => True
structure Sub (E1 E2 : Env) (σ : Nat → Nat) : Prop where
 w : E2.w = E1.w
 obj : ∀ o ob,E2.obj o = some ob → E1.obj (σ o) = some (ob.ren σ)
 β : ∀ o,E2.β o = E1.β (σ o)
 γ : ∀ o,E2.γ o = E1.γ (σ o)
 δ : ∀ o,E2.δ o = E1.δ (σ o)
 φ : ∀ o,E2.φ o = E1.φ (σ o)
 I : ∀ b,E1.I b → E2.I b
section
variable {E1 E2 : Env} {σ : Nat → Nat}
theorem Sub.dr (h : Sub E1 E2 σ) {d : D} {cs : List Value} (hd : DR E1.I E1.w d cs) : DR E2.I E2.w d cs :=
 hd.mono (by rw [h.w]; exact Nat.le_refl _) (fun b hb _ => ⟨h.I b hb,by rw [h.w]⟩)
theorem ren_arr {σ : Nat → Nat} {ob : OB} {c es : Nat} {rows : List D} (h : ob.ren σ = .arr c es rows) : ob = .arr c es rows := by cases ob <;> simp [OB.ren] at h ⊢; exact h
theorem ren_map {σ : Nat → Nat} {ob : OB} {c : Nat} {es : List (D × D)} (h : ob.ren σ = .map c es) : ob = .map c es := by cases ob <;> simp [OB.ren] at h ⊢; exact h
theorem ren_iter {σ : Nat → Nat} {ob : OB} {m c : Nat} {es : List (D × D)} {cu : Option (D × D)} (h : ob.ren σ = .iter m c es cu) : ∃ m',ob = .iter m' c es cu ∧ m = σ m' := by
 cases ob <;> simp [OB.ren] at h
 exact ⟨_,by rw [h.2.1,h.2.2.1,h.2.2.2],h.1.symm⟩
theorem Sub.at_ (h : Sub E1 E2 σ) {o : Nat} (hl : E2.obj o ≠ none) {ob' : OB} (h1 : E1.obj (σ o) = some ob') : ∃ ob,E2.obj o = some ob ∧ ob' = ob.ren σ := by
 obtain ⟨ob,h2⟩ := Option.ne_none_iff_exists'.1 hl
 have := h.obj o ob h2
 rw [h1] at this
 cases this
 exact ⟨ob,h2,rfl⟩
mutual
theorem CR.unren (h : Sub E1 E2 σ) : ∀ (x : AV) {cs : List Value},x.live E2.obj → CR E1 (x.ren σ) cs → CR E2 x cs
 | .d x,_,_,.d k => .d (h.dr k)
 | .ptr o n,_,hl,.ptr ho hk hb => by
  obtain ⟨ob,h1,h2⟩ := h.at_ hl ho
  exact .ptr h1 (by rw [h2,ren_isB] at hk; exact hk) ((h.β o).trans hb)
 | .arr o v,_,hl,.arr ho h2 h3 h4 => by
  obtain ⟨ob,k1,k2⟩ := h.at_ hl ho
  rw [ren_arr k2.symm] at k1
  exact .arr k1 h2 (fun e => by rw [h.β,h.γ]; exact h3 e) h4
 | .pel o v k n,_,hl,.pel ho h2 h3 h4 => by
  obtain ⟨ob,k1,k2⟩ := h.at_ hl ho
  rw [ren_arr k2.symm] at k1
  exact .pel k1 h2 (fun e => by
   obtain ⟨b,q1,q2⟩ := h3 e
   exact ⟨b,(h.β o).trans q1,q2⟩) h4
 | .asl o v k,_,hl,.asl ho h2 h3 h4 => by
  obtain ⟨ob,k1,k2⟩ := h.at_ hl ho
  rw [ren_arr k2.symm] at k1
  exact .asl k1 h2 (fun e => (h3 e).imp id fun ⟨b,c,q1,q2⟩ => ⟨b,c,(h.β o).trans q1,q2⟩) h4
 | .osl o v k n,_,hl,.osl ho h2 h3 h4 => by
  obtain ⟨ob,k1,k2⟩ := h.at_ hl ho
  rw [ren_arr k2.symm] at k1
  exact .osl k1 h2 (fun e => (h3 e).imp id fun ⟨b,c,q1,q2⟩ => ⟨b,c,(h.β o).trans q1,q2⟩) h4
 | .csl o v k n,_,hl,.csl ho h2 h3 h4 => by
  obtain ⟨ob,k1,k2⟩ := h.at_ hl ho
  rw [ren_arr k2.symm] at k1
  exact .csl k1 h2 (fun e => by rw [h.β,h.γ]; exact h3 e) h4
 | .map o,_,hl,.map ho hb => by
  obtain ⟨ob,k1,k2⟩ := h.at_ hl ho
  rw [ren_map k2.symm] at k1
  exact .map k1 ((h.β o).trans hb)
 | .it o,_,hl,.it ho hb => by
  obtain ⟨ob,k1,k2⟩ := h.at_ hl ho
  obtain ⟨m',k3,_⟩ := ren_iter k2.symm
  rw [k3] at k1
  exact .it k1 ((h.β o).trans hb)
 | .bsl o n l c,_,hl,.bsl ho hk hb => by
  obtain ⟨ob,h1,h2⟩ := h.at_ hl ho
  exact .bsl h1 (by rw [h2,ren_isB] at hk; exact hk) ((h.β o).trans hb)
 | .st ps,_,hl,.st k => .st (CRs.unren h ps hl k)
 | .tup ps,_,hl,.tup k => .tup (VRs.unren h ps hl k)
 | .fn f p q,_,hl,.fn k k' => .fn (VRs.unren h p hl.1 k) (VRs.unren h q hl.2 k')
 | .ifc t x,_,hl,.ifc k => by rw [q14]; exact .ifc (CR.unren h x hl k)
 | .sx _ _,_,_,.sx h1 h2 h3 h4 h5 => .sx (h.I _ h1) (by rw [h.w]; exact h2) (h3.mono (by rw [h.w]; exact Nat.le_refl _) (fun b hb _ => ⟨h.I b hb,by rw [h.w]⟩)) h4 (by rw [h.w]; exact h5)
theorem CRs.unren (h : Sub E1 E2 σ) : ∀ (x : List AV) {cs : List Value},AV.lives E2.obj x → CRs E1 (AV.rens σ x) cs → CRs E2 x cs
 | [],_,_,.nil => .nil
 | x :: xs,_,hl,.cons k ks => .cons (CR.unren h x hl.1 k) (CRs.unren h xs hl.2 ks)
theorem VRs.unren (h : Sub E1 E2 σ) : ∀ (x : List AV) {cs : List Value},AV.lives E2.obj x → VRs E1 (AV.rens σ x) cs → VRs E2 x cs
 | [],_,_,.nil => .nil
 | x :: xs,_,hl,.cons k ks => by rw [q14]; exact .cons (CR.unren h x hl.1 k) (VRs.unren h xs hl.2 ks)
end
mutual
theorem ODR.unren (h : Sub E1 E2 σ) : ∀ (x : OD) {cs : List Value} {F : List Nat},x.live E2.obj → ODR E1 (x.ren σ) cs F → ODR E2 x cs F
 | .av x,_,_,hl,.av k h1 => .av (CR.unren h x hl k) h1
 | .st ps,_,_,hl,.st k => .st (ODRs.unren h ps hl k)
 | .map es,_,_,_,.map hb hl hm hn ht => by
  refine .map (by rw [h.w]; exact hb) hl (fun i k x ent p1 p2 => ?_) hn ht
  obtain ⟨ck,cx,q1,q2,q3,q4⟩ := hm i k x ent p1 p2
  exact ⟨ck,cx,h.dr q1,h.dr q2,q3,q4⟩
 | .arr _ _,_,_,_,.arr0 => .arr0
 | .arr _ _,_,_,_,.arr hr hs hb hl hc => .arr (hr.mono (by rw [h.w]; exact Nat.le_refl _) (fun b hb _ => ⟨h.I b hb,by rw [h.w]⟩)) hs (by rw [h.w]; exact hb) hl hc
 | .box x,_,_,hl,.box k hb => .box (ODR.unren h x hl k) (by rw [h.w]; exact hb)
theorem ODRs.unren (h : Sub E1 E2 σ) : ∀ (x : List OD) {cs : List Value} {F : List Nat},OD.lives E2.obj x → ODRs E1 (OD.rens σ x) cs F → ODRs E2 x cs F
 | [],_,_,_,.nil => .nil
 | x :: xs,_,_,hl,.cons k ks => .cons (ODR.unren h x hl.1 k) (ODRs.unren h xs hl.2 ks)
end
theorem OR.unren (h : Sub E1 E2 σ) {o : Nat} {ob : OB} (hl : ob.live E2.obj) (hinj : ∀ m m',E2.obj m ≠ none → E2.obj m' ≠ none → σ m = σ m' → m = m') (hor : OR E1 (σ o) (ob.ren σ)) : OR E2 o ob := by
 cases ob with
 | box x =>
  obtain ⟨b,cs,e,h1,h2,h3,h4⟩ := hor
  exact ⟨b,cs,e,(h.β o).trans h1,CR.unren h x hl h2,h3,by rw [h.w]; exact h4⟩
 | own x =>
  obtain ⟨b,cs,e,h1,h2,h3,h4,h5,h6⟩ := hor
  exact ⟨b,cs,e,(h.β o).trans h1,by rw [h.φ]; exact ODR.unren h x hl h2,h3,by rw [h.w]; exact h4,by rw [h.φ]; exact h5,by rw [h.φ]; exact h6⟩
 | arr c es rows =>
  rcases hor with ⟨h1,h2,h3⟩ | ⟨b,cs,sp,e,h1,h2,h3,h4,h5,h6⟩
  ·exact .inl ⟨(h.β o).trans h1,h2,(h.γ o).trans h3⟩
  ·exact .inr ⟨b,cs,sp,e,(h.β o).trans h1,h2.mono (by rw [h.w]; exact Nat.le_refl _) (fun b hb _ => ⟨h.I b hb,by rw [h.w]⟩),h3,by rw [h.w]; exact h4,by rw [h.γ]; exact h5,by rw [h.γ]; exact h6⟩
 | map v es =>
  obtain ⟨b,ents,clock,h1,h2,h3,h4,h5,h6,h7,h8⟩ := hor
  refine ⟨b,ents,clock,(h.β o).trans h1,by rw [h.w]; exact h2,h3,fun i k x ent p1 p2 => ?_,(h.δ o).trans h5,by rw [h.δ]; exact h6,by rw [h.δ]; exact h7,h8.trans (h.γ o).symm⟩
  obtain ⟨ck,cx,q1,q2,q3,q4⟩ := h4 i k x ent p1 p2
  exact ⟨ck,cx,h.dr q1,h.dr q2,q3,q4⟩
 | iter m v l cu =>
  obtain ⟨b,since,seen,last,h1,h2,h3,c5,e5,h4,h5⟩ := hor
  obtain ⟨ob,k1,k2⟩ := h.at_ hl h4
  rw [ren_map k2.symm] at k1
  refine ⟨b,since,seen,last,(h.β o).trans h1,by rw [h.w,h.β]; exact h2,fun es hes => ?_,c5,e5,k1,h5⟩
  rw [h.δ,h.γ]
  exact h3 es (by have := h.obj _ _ hes; exact this)
end
theorem Sub.has {E1 E2 : Env} {σ : Nat → Nat} (h : Sub E1 E2 σ) {o b : Nat} (hb : E2.has o b) : E1.has (σ o) b := by
 rcases hb with hb | ⟨hb,x,hx⟩
 ·exact .inl ((h.β o).symm.trans hb)
 ·exact .inr ⟨by rw [← h.φ]; exact hb,_,h.obj _ _ hx⟩
theorem lk_some {α : Type} {x : α} {t : Nat} {l : List (Nat × α)} (h : lk l t = some x) : (t,x) ∈ l := q61 h
theorem qx5 {α : Type} : ∀ {l : List (Nat × α)} {t : Nat} {x : α},(l.map (·.1)).Nodup → (t,x) ∈ l → lk l t = some x
 | (d,y) :: l,t,x,hn,hm => by
  simp only [List.map_cons,List.nodup_cons] at hn
  rcases zM.1 hm with e | e
  ·cases e; simp [lk]
  ·have : t ≠ d := fun h => hn.1 (by rw [← h]; exact List.mem_map.2 ⟨(t,x),e,rfl⟩)
   have hb : Nat.beq t d = false := by
    cases hb : Nat.beq t d
    ·rfl
    ·exact absurd (Nat.eq_of_beq_eq_true hb) this
   simp only [lk,hb,zD]
   exact qx5 hn.2 e
theorem qu5 : ∀ {l : List (Nat × OB)} {f : Nat → Option OB} {t : Nat} {x : OB},(l.map (·.1)).Nodup → (t,x) ∈ l → q52 f l t = some x
 | (d,y) :: l,f,t,x,hn,hm => by
  simp only [List.map_cons,List.nodup_cons] at hn
  simp only [q52]
  rcases zM.1 hm with e | e
  ·cases e
   rw [q54 hn.1,qf1,if_pos rfl]
  ·exact qu5 hn.2 e
theorem setAll_cases {l : List (Nat × OB)} {f : Nat → Option OB} {t : Nat} {x : OB} (hn : (l.map (·.1)).Nodup) (h : q52 f l t = some x) : (t,x) ∈ l ∨ (t ∉ l.map (·.1) ∧ f t = some x) := by
 by_cases hm : t ∈ l.map (·.1)
 ·obtain ⟨⟨d,y⟩,h1,h2⟩ := List.mem_map.1 hm
  simp only at h2; subst h2
  rw [qu5 hn h1] at h
  cases h
  exact .inl h1
 ·rw [q54 hm] at h
  exact .inr ⟨hm,h⟩
theorem Hands.vals {s s' : St} {oin : Nat → Option OB} {σ : Nat → Nat} {cx : Cx} {a : Act} {E E2 : Env} (hR : R0 cx s' a E) (hS : Sub E E2 σ) (hE2 : E2.obj = oin) :
  ∀ {os : List Operand} {ys : List AV} {b : Bool} {l : List Nat},Hands s oin σ os ys b l → (∀ t ∈ qS4 os,s'.slot t = s.slot t) → (∀ k ∈ l,s'.obj k = s.obj k) → AV.lives oin ys →
   (b = true → ∀ b',E2.J b') → (∀ c ∈ l,∀ o,oin o ≠ none → σ o ≠ c) → VRs E2 ys (os.map a.eval)
 | _,_,_,_,.nil,_,_,_,_,_ => .nil
 | _,_,_,_,.cons (o := o) (os := os) (x := x) (y := y) (b := b) (b' := b') (l := l) (l' := l') hx h hs,ht,ho,hl,hJ,hp => by
  have hv := hR.val ((vAg (fun t h' => ht t (by simp [qS4,h']))).trans hx)
  have hrest := Hands.vals hR hS hE2 hs (fun t h' => ht t (by simp only [qS4,List.flatMap_cons,zL]; exact .inr h')) (fun k hk => ho k (by simp [hk])) hl.2
   (fun e => hJ (by rw [e]; simp)) (fun c hc => hp c (by simp [hc]))
  obtain ⟨cs,h1,h2⟩ := hv
  simp only [List.map_cons,h2]
  have notIn : ∀ (o' bb : Nat) (ob : OB),o' ∈ l → s'.obj o' = some ob → E.has o' bb → b = true → E2.I bb := by
   intro o' bb ob hm hob hb hbt
   refine ⟨hJ (by rw [hbt]; simp) bb,fun o'' ob'' h'' e'' => ?_⟩
   have e'' := hS.has e''
   have hne : s'.obj (σ o'') ≠ none := by rw [← hR.obj,hS.obj _ _ h'']; simp
   have := hR.inj (σ o'') o' bb hne (by rw [hob]; simp) e'' hb
   exact hp o' (by simp [hm]) o'' (by rw [← hE2,h'']; simp) this
  cases h with
  | same =>
   rw [q14]
   exact .cons (CR.unren hS y (by rw [hE2]; exact hl.1) h1) hrest
  | nil =>
   cases h1 with
   | d h1 => cases h1 with
    | v _ => exact .cons (x := .d (.sl _ [])) (.d .sl0) hrest
  | sx =>
   cases h1 with
   | sx k1 k2 k3 k4 k5 => exact .cons (x := .d (.sl _ _)) (.d (.sl (hS.I _ k1) (by rw [hS.w]; exact k2) (k3.mono (by rw [hS.w]; exact Nat.le_refl _) (fun b hb _ => ⟨hS.I b hb,by rw [hS.w]⟩)) k4 (by rw [hS.w]; exact k5) (Nat.le_refl _))) hrest
  | arr h =>
   rename_i o' c es rows
   have hob : s'.obj o' = some (.arr c es rows) := (ho o' (by simp)).trans h
   cases h1 with
   | arr k1 k2 k3 k4 =>
    rw [hR.obj,hob] at k1; cases k1
    rw [k3 rfl]
    rcases hR.objs _ _ hob with ⟨q1,q2,q3⟩ | ⟨bb,cs,sp,e,q1,q2,q3,q4,q5,q6⟩
    ·rw [q1,q2]
     exact .cons (x := .d (.sl es [])) (.d .sl0) hrest
    ·rw [q1]
     refine .cons (x := .d (.sl es rows)) (.d (.sl (notIn o' bb _ (by simp) hob (.inl q1) rfl) ?_ (q2.mono (by rw [hS.w]; exact Nat.le_refl _) (fun b hb _ => ⟨hS.I b hb,by rw [hS.w]⟩)) q3 ?_ q6)) hrest
     ·rw [hS.w]; exact (hR.objs _ _ hob).lt q1
     ·rw [hS.w]; exact caB q4
  | bag h =>
   rename_i T o' c es rows
   have hob : s'.obj o' = some (.arr c es rows) := (ho o' (by simp)).trans h
   cases h1 with
   | ifc h1 =>
   cases h1 with
   | st h1 =>
   cases h1 with
   | cons h1 hn =>
   cases hn
   cases h1 with
   | arr k1 k2 k3 k4 =>
    rw [hR.obj,hob] at k1; cases k1
    rw [k3 rfl]
    have bag1 : ∀ {v : Value},DR E2.I E2.w (.sl es rows) [v] → VRs E2 (.ifc T (.d (.st [.sl es rows])) :: _) (mkV (AV.ifc T (.st [.arr o' c])).isAgg [.iface T (mkV (AV.st [.arr o' c]).isAgg ([v] ++ []))] :: _) := fun hv =>
     .cons (x := .ifc T (.d (.st [.sl es rows]))) (.ifc (.d (.st (.cons hv .nil)))) hrest
    rcases hR.objs _ _ hob with ⟨q1,q2,q3⟩ | ⟨bb,cs,sp,e,q1,q2,q3,q4,q5,q6⟩
    ·rw [q1]
     subst q2
     exact bag1 .sl0
    ·rw [q1]
     exact bag1 (.sl (notIn o' bb _ (by simp) hob (.inl q1) rfl) (by rw [hS.w]; exact (hR.objs _ _ hob).lt q1) (q2.mono (by rw [hS.w]; exact Nat.le_refl _) (fun b hb _ => ⟨hS.I b hb,by rw [hS.w]⟩)) q3 (by rw [hS.w]; exact caB q4) q6)
  | bsl p h hp' hcc =>
   rename_i o' m cap n z lb
   have hob : s'.obj o' = some (.box z) := (ho o' (by simp)).trans h
   cases h1 with
   | bsl k1 kb k2 =>
    obtain ⟨b2,zs,e,r1,r2,r3,r4⟩ := hR.objs _ _ hob
    rw [k2] at r1; cases r1
    obtain ⟨c1,c2,c3,rfl,t2,t3⟩ := get_cr p r2 hp'
    have hall : CellsAt E.w _ 0 (c1 ++ (c2 ++ c3)) := caB (sp := []) (by rw [zJ]; exact r4)
    have h6 := hall.right.left
    rw [t2,Nat.zero_add] at h6
    cases t3 with
    | d t3 =>
     cases t3 with
     | bs hl' =>
      subst hl'
      have hcap : lb.length ≤ cap := Nat.le_of_ble_eq_true hcc
      have := DR.sl (I := E2.I) (w := E2.w) (es := 1) (rows := lb.map fun x => .v (u8v x)) (notIn o' _ _ (by simp) hob (.inl k2) rfl) (by rw [hS.w]; exact (hR.objs _ _ hob).lt k2) (drs_bytes lb)
       (fun r hr => by simp at hr; obtain ⟨x,_,rfl⟩ := hr; rfl) (by rw [hS.w]; exact h6) (cap := cap) (by simpa using hcap)
      rw [List.length_map] at this
      exact .cons (x := .d (.sl 1 (lb.map fun x => .v (u8v x)))) (.d this) hrest
  | bslP p h hp' hcc hlo =>
   rename_i o' m lo cnt cap n z lb
   have hob : s'.obj o' = some (.box z) := (ho o' (by simp)).trans h
   cases h1 with
   | bsl k1 kb k2 =>
    rename_i bb0 xx0
    obtain ⟨b2,zs,e,r1,r2,r3,r4⟩ := hR.objs _ _ hob
    rw [k2] at r1; cases r1
    obtain ⟨c1,c2,c3,rfl,t2,t3⟩ := get_cr p r2 hp'
    have hall : CellsAt E.w _ 0 (c1 ++ (c2 ++ c3)) := caB (sp := []) (by rw [zJ]; exact r4)
    have h6 := hall.right.left
    rw [t2,Nat.zero_add] at h6
    cases t3 with
    | d t3 =>
     cases t3 with
     | bs hl' =>
      subst hl'
      have hcap : cnt ≤ cap := Nat.le_of_ble_eq_true hcc
      have hlo' : lo + cnt ≤ lb.length := Nat.le_of_ble_eq_true hlo
      have hlen : ((lb.drop lo).take cnt).length = cnt := by rw [List.length_take,List.length_drop]; omega
      have h7 : CellsAt E2.w bb0 (m + lo) (((lb.drop lo).take cnt).map u8v) := by
       intro i v hi
       rw [hS.w,Nat.add_assoc]
       refine h6 (lo + i) v ?_
       rw [List.getElem?_map] at hi ⊢
       rw [← List.getElem?_drop]
       cases hq : ((lb.drop lo).take cnt)[i]? with
       | none => rw [hq] at hi; cases hi
       | some q =>
        rw [hq] at hi
        rw [List.getElem?_take] at hq
        split at hq
        ·rw [hq]; exact hi
        ·cases hq
      have := DR.sl (I := E2.I) (w := E2.w) (es := 1) (rows := ((lb.drop lo).take cnt).map fun x => .v (u8v x)) (notIn o' _ _ (by simp) hob (.inl k2) rfl) (by rw [hS.w]; exact (hR.objs _ _ hob).lt k2) (drs_bytes _)
       (fun r hr => by obtain ⟨x,_,rfl⟩ := List.mem_map.1 hr; rfl) h7 (cap := cap) (by rw [List.length_map,hlen]; exact hcap)
      rw [List.length_map,hlen] at this
      exact .cons (x := .d (.sl 1 (((lb.drop lo).take cnt).map fun x => .v (u8v x)))) (.d this) hrest
structure CallIn (s : St) (σ : Nat → Nat) (k : Nat) (mi mo : List (Nat × OB)) (ys : List AV) (l : List Nat) : Prop where
 lt : ∀ p ∈ mi,p.1 < k
 live : AV.lives (lk mi) ys
 objs : ∀ p ∈ mi,s.obj (σ p.1) = some (p.2.ren σ) ∧ p.2.live (lk mi)
 inj : ∀ p ∈ mi,∀ q ∈ mi,σ p.1 = σ q.1 → p.1 = q.1
 pres : ∀ c ∈ l,∀ p ∈ mi,σ p.1 ≠ c
 nodup : (mo.map (·.1)).Nodup
 nodupσ : (mo.map fun p => σ p.1).Nodup
 inmo : ∀ p ∈ mi,∃ x,(p.1,x) ∈ mo
 new : ∀ p ∈ mo,lk mi p.1 = none → s.obj (σ p.1) = none
section
variable {P : Program} {N : Nat × Nat} {ops : Array Oper} {i : Nat} {s : St} {ty : TypeId} {pos : String} {af : Array Edge} {g : Option (Nat × Bool)} {gs : List Nat}
theorem after_call {s' : St} {σ : Nat → Nat} {k : Nat} {mi mo : List (Nat × OB)} {ys : List AV} {l : List Nat} {b : Bool} {res : AV} {cx : Cx} {a : Act} {E Ec E' : Env} {v : Value} (hR : R0 cx s' a E) (hC : CallIn s' σ k mi mo ys l) (hS : Sub E Ec σ) (hEc : Ec.obj = lk mi)
  (hJc : ∀ bb,Ec.J bb → b = true ∨ E.I bb) (hpost : E'.obj = lk mo) (hv : VR E' res v) (hok : q96 E') (hown : ∀ o bb,E'.obj o ≠ none → E'.has o bb → Ec.w.heap.size ≤ bb ∨ Ec.T bb)
  (hkeep : Keeps ⟨(0,0),Ec,Ec.T,Ec.J⟩ E'.w) (hJ' : ∀ bb,E'.J bb → Ec.J bb ∨ Ec.w.heap.size ≤ bb ∨ Ec.T bb) (hlive : ∀ o ob,Ec.obj o = some ob → ∃ ob',E'.obj o = some ob' ∧ OExt Ec E' o ob ob')
  (hflat : b = false ∨ (res.flat ∧ ∀ p ∈ mo,p.2.flat)) :
  ∃ E2,E2.w = E'.w ∧ VR E2 (res.ren σ) v ∧ R0 cx { s' with obj := q52 s'.obj (mo.map fun p => (σ p.1,p.2.ren σ)) } a E2 := by
 have hw : Ec.w = E.w := hS.w
 let inv : Nat → Option Nat := fun c => (mo.find? fun p => Nat.beq (σ p.1) c).map (·.1)
 have beq : ∀ x y,Nat.beq x y = true ↔ x = y := fun x y => ⟨Nat.eq_of_beq_eq_true,fun h => by subst h; simp⟩
 have inv_of : ∀ o x,(o,x) ∈ mo → inv (σ o) = some o := by
  intro o x hm
  have hs : ∃ p,mo.find? (fun p => Nat.beq (σ p.1) (σ o)) = some p := by
   cases hf : mo.find? (fun p => Nat.beq (σ p.1) (σ o)) with
   | some p => exact ⟨p,rfl⟩
   | none => have := List.find?_eq_none.1 hf (o,x) hm; simp at this
  obtain ⟨p,hp⟩ := hs
  have h0 := List.find?_some hp
  have h1 : σ p.1 = σ o := (beq _ _).1 h0
  have h2 : p ∈ mo := List.mem_of_find?_eq_some hp
  have : p.1 = o := by
   have hn := hC.nodupσ
   obtain ⟨i1,k1,e1⟩ := List.mem_iff_getElem.1 h2
   obtain ⟨i2,k2,e2⟩ := List.mem_iff_getElem.1 hm
   have : i1 = i2 := by
    refine (List.getElem_inj hn (h₀ := by simpa using k1) (h₁ := by simpa using k2)).1 ?_
    simp only [List.getElem_map,e1,e2,h1]
   subst this
   rw [e1] at e2
   rw [e2]
  simp only [inv,hp,Option.map_some,this]
 have inv_some : ∀ c o,inv c = some o → σ o = c ∧ ∃ x,(o,x) ∈ mo := by
  intro c o h
  simp only [inv,Option.map_eq_some_iff] at h
  obtain ⟨p,hp,rfl⟩ := h
  have h0 := List.find?_some hp
  exact ⟨(beq _ _).1 h0,p.2,List.mem_of_find?_eq_some hp⟩
 have inv_none : ∀ c,inv c = none → c ∉ mo.map fun p => σ p.1 := by
  intro c h hm
  obtain ⟨p,hp,rfl⟩ := List.mem_map.1 hm
  rw [inv_of p.1 p.2 hp] at h
  cases h
 let wo := mo.map fun p => (σ p.1,p.2.ren σ)
 have wo1 : wo.map (·.1) = mo.map fun p => σ p.1 := by simp [wo]
 let E2 : Env := { obj := q52 s'.obj wo,β := fun c => match inv c with | some o => E'.β o | none => E.β c,γ := fun c => match inv c with | some o => E'.γ o | none => E.γ c,δ := fun c => match inv c with | some o => E'.δ o | none => E.δ c,φ := fun c => match inv c with | some o => E'.φ o | none => E.φ c,J := E.J,w := E'.w }
 have objs2 : ∀ c x,E2.obj c = some x → (∃ o ob,(o,ob) ∈ mo ∧ c = σ o ∧ x = ob.ren σ ∧ E'.obj o = some ob) ∨ (inv c = none ∧ s'.obj c = some x) := by
  intro c x h
  rcases setAll_cases (by rw [wo1]; exact hC.nodupσ) h with h1 | ⟨h1,h2⟩
  ·obtain ⟨p,hp,e⟩ := List.mem_map.1 h1
   cases e
   exact .inl ⟨p.1,p.2,hp,rfl,rfl,by rw [hpost]; exact qx5 hC.nodup hp⟩
  ·rw [wo1] at h1
   refine .inr ⟨?_,h2⟩
   cases hi : inv c with
   | none => rfl
   | some o => obtain ⟨q1,x',q2⟩ := inv_some c o hi; exact absurd (List.mem_map.2 ⟨(o,x'),q2,q1⟩) h1
 have passed : ∀ bb,Ec.T bb → ∃ o ob,lk mi o = some ob ∧ s'.obj (σ o) = some (ob.ren σ) ∧ E.has (σ o) bb := by
  rintro bb ⟨o,h1,h2⟩
  rw [hEc] at h1
  obtain ⟨ob,h3⟩ := Option.ne_none_iff_exists'.1 h1
  exact ⟨o,ob,h3,(hC.objs _ (q61 h3)).1,hS.has h2⟩
 have ltE : ∀ c x bb,s'.obj c = some x → E.has c bb → bb < E.w.heap.size := fun c x bb h1 h2 => (hR.objs _ _ h1).lth (by rw [hR.obj]; exact h1) h2
 have hsz : E.w.heap.size ≤ E'.w.heap.size := by have := hkeep.size; simp only [Cx.w0] at this; rw [hw] at this; exact this
 have hblk : ∀ bb,bb < E.w.heap.size → ¬ Ec.T bb → E'.w.heap[bb]? = E.w.heap[bb]? := by
  intro bb h1 h2
  have := hkeep.block bb (by simp only [Cx.w0]; rw [hw]; exact h1) h2
  simp only [Cx.w0] at this
  rw [this,hw]
 have notT : ∀ c x bb,s'.obj c = some x → inv c = none → E.has c bb → ¬ Ec.T bb := by
  intro c x bb h1 h2 h3 hT
  obtain ⟨o,ob,q1,q2,q3⟩ := passed bb hT
  have := hR.inj c (σ o) bb (by rw [h1]; simp) (by rw [q2]; simp) h3 q3
  subst this
  obtain ⟨x',hx'⟩ := hC.inmo _ (q61 q1)
  rw [inv_of o x' hx'] at h2
  cases h2
 have beta2 : ∀ o x,(o,x) ∈ mo → E2.β (σ o) = E'.β o := fun o x h => by simp only [E2,inv_of o x h]
 have gam2 : ∀ o x,(o,x) ∈ mo → E2.γ (σ o) = E'.γ o := fun o x h => by simp only [E2,inv_of o x h]
 have del2 : ∀ o x,(o,x) ∈ mo → E2.δ (σ o) = E'.δ o := fun o x h => by simp only [E2,inv_of o x h]
 have phi2 : ∀ o x,(o,x) ∈ mo → E2.φ (σ o) = E'.φ o := fun o x h => by simp only [E2,inv_of o x h]
 have beta0 : ∀ c,inv c = none → E2.β c = E.β c ∧ E2.γ c = E.γ c ∧ E2.δ c = E.δ c ∧ E2.φ c = E.φ c := fun c h => by simp only [E2,h]; exact ⟨tV,tV,tV,tV⟩
 have has2 : ∀ c x bb,E2.obj c = some x → E2.has c bb → (∃ o ob,(o,ob) ∈ mo ∧ c = σ o ∧ x = ob.ren σ ∧ E'.obj o = some ob ∧ E'.has o bb) ∨ (inv c = none ∧ s'.obj c = some x ∧ E.has c bb) := by
  intro c x bb h1 h2
  rcases objs2 c x h1 with ⟨o,ob,q1,rfl,rfl,q4⟩ | ⟨q1,q2⟩
  ·refine .inl ⟨o,ob,q1,rfl,rfl,q4,?_⟩
   rcases h2 with h2 | ⟨h2,y,h3⟩
   ·exact .inl ((beta2 o ob q1).symm.trans h2)
   ·rw [h1] at h3
    refine .inr ⟨by rw [← phi2 o ob q1]; exact h2,?_⟩
    cases ob <;> simp [OB.ren] at h3
    exact ⟨_,q4⟩
  ·refine .inr ⟨q1,q2,?_⟩
   obtain ⟨e1,_,_,e4⟩ := beta0 c q1
   rcases h2 with h2 | ⟨h2,y,h3⟩
   ·exact .inl (e1.symm.trans h2)
   ·rw [h1] at h3; cases h3
    exact .inr ⟨by rw [← e4]; exact h2,y,by rw [hR.obj]; exact q2⟩
 have own2 : ∀ o x bb,(o,x) ∈ mo → E'.has o bb → E.w.heap.size ≤ bb ∨ Ec.T bb := by
  intro o x bb h1 h2
  have := hown o bb (by rw [hpost,qx5 hC.nodup h1]; simp) h2
  rw [hw] at this
  exact this
 have hext : Ext E E2 := by
  refine ⟨hsz,fun bb hb hlt => ⟨⟨hb.1,fun c x h1 h2 => ?_⟩,hblk bb hlt (fun hT => ?_)⟩,fun c x h1 => ?_⟩
  ·rcases has2 c x bb h1 h2 with ⟨o,ob,q1,rfl,q3,q4,h2⟩ | ⟨q1,q2,h2⟩
   ·rcases own2 o ob bb q1 h2 with h3 | h3
    ·omega
    ·obtain ⟨o',ob',p1,p2,p3⟩ := passed bb h3
     exact hb.2 _ _ (by rw [hR.obj]; exact p2) p3
   ·exact hb.2 _ _ (by rw [hR.obj]; exact q2) h2
  ·obtain ⟨o',ob',p1,p2,p3⟩ := passed bb hT
   exact hb.2 _ _ (by rw [hR.obj]; exact p2) p3
  ·rw [hR.obj] at h1
   cases hi : inv c with
   | none =>
    have hc : E2.obj c = some x := by
     show q52 s'.obj wo c = some x
     rw [q54 (by rw [wo1]; exact inv_none c hi)]
     exact h1
    obtain ⟨e1,e2,e3,_⟩ := beta0 c hi
    refine ⟨x,hc,?_⟩
    cases x <;> first | exact e1 | exact ⟨Nat.le_refl _,fun _ => ⟨e1,e2,rfl,rfl⟩⟩ | exact ⟨e1,Nat.le_refl _,fun _ => ⟨rfl,e3,e2⟩⟩
   | some o =>
    obtain ⟨q1,x',q2⟩ := inv_some c o hi
    subst q1
    cases hm : lk mi o with
    | none => have := hC.new (o,x') q2 hm; rw [h1] at this; cases this
    | some ob =>
     have h3 := (hC.objs _ (q61 hm)).1
     rw [h1] at h3
     cases h3
     obtain ⟨ob',h4,h5⟩ := hlive o ob (by rw [hEc]; exact hm)
     rw [hpost,qx5 hC.nodup q2] at h4
     cases h4
     have hc : E2.obj (σ o) = some (x'.ren σ) := qu5 (by rw [wo1]; exact hC.nodupσ) (List.mem_map.2 ⟨(o,x'),q2,rfl⟩)
     refine ⟨_,hc,?_⟩
     have eβ := beta2 o x' q2
     have eγ := gam2 o x' q2
     have eδ := del2 o x' q2
     cases ob <;> cases x' <;> simp only [OExt] at h5 <;> simp only [OB.ren,OExt]
     ·rw [eβ,h5,hS.β]
     ·rw [eβ,h5,hS.β]
     ·refine ⟨h5.1,fun e => ?_⟩
      obtain ⟨r1,r2,r3,r4⟩ := h5.2 e
      exact ⟨by rw [eβ,r1,hS.β],by rw [eγ,r2,hS.γ],r3,r4⟩
     ·refine ⟨by rw [eβ,h5.1,hS.β],h5.2.1,fun e => ?_⟩
      obtain ⟨r1,r2,r3⟩ := h5.2.2 e
      exact ⟨r1,by rw [eδ,r2,hS.δ],by rw [eγ,r3,hS.γ]⟩
     ·rw [eβ,h5,hS.β]
     ·rw [eβ,h5,hS.β]
     ·rw [eβ,h5,hS.β]
 have hrn : Rn E' E2 σ := by
  refine ⟨rfl,fun o ob h => ?_,fun o h => ?_,fun o h => ?_,fun o h => ?_,fun o h => ?_⟩
  ·rw [hpost] at h
   exact qu5 (by rw [wo1]; exact hC.nodupσ) (List.mem_map.2 ⟨(o,ob),q61 h,rfl⟩)
  all_goals
   obtain ⟨ob,h'⟩ := Option.ne_none_iff_exists'.1 h
   rw [hpost] at h'
  ·exact beta2 o ob (q61 h')
  ·exact gam2 o ob (q61 h')
  ·exact del2 o ob (q61 h')
  ·exact phi2 o ob (q61 h')
 have hI : b = false → ∀ bb,E'.I bb → bb < E'.w.heap.size → E2.I bb := by
  intro hbf bb hb _
  have hj : E.I bb ∨ E.w.heap.size ≤ bb ∨ Ec.T bb := by
   rcases hJ' bb hb.1 with h | h | h
   ·rcases hJc bb h with h' | h'
    ·rw [hbf] at h'; cases h'
    ·exact .inl h'
   ·rw [hw] at h; exact .inr (.inl h)
   ·exact .inr (.inr h)
  refine ⟨?_,fun c x h1 h2 => ?_⟩
  ·show E.J bb
   rcases hj with h | h | h
   ·exact h.1
   ·rw [hR.may]; exact hR.fresh bb (.inl (Nat.le_trans hR.keeps.size h))
   ·obtain ⟨o',ob',p1,p2,p3⟩ := passed bb h
    rw [hR.may]; exact hR.fresh bb (hR.own _ _ (by rw [p2]; simp) p3)
  ·rcases has2 c x bb h1 h2 with ⟨o,ob,q1,rfl,q3,q4,h2⟩ | ⟨q1,q2,h2⟩
   ·exact hb.2 _ _ q4 h2
   ·rcases hj with h | h | h
    ·exact h.2 _ _ (by rw [hR.obj]; exact q2) h2
    ·have := ltE _ _ _ q2 h2; omega
    ·exact notT _ _ _ q2 q1 h2 h
 have inj' : ∀ m m',E'.obj m ≠ none → E'.obj m' ≠ none → σ m = σ m' → m = m' := by
  intro m m' h1 h2 e
  rw [hpost] at h1 h2
  obtain ⟨x1,h1⟩ := Option.ne_none_iff_exists'.1 h1
  obtain ⟨x2,h2⟩ := Option.ne_none_iff_exists'.1 h2
  have e1 := inv_of m x1 (q61 h1)
  have e2 := inv_of m' x2 (q61 h2)
  rw [e,e2] at e1
  cases e1; rfl
 refine ⟨E2,rfl,?_,hR.trans hext rfl rfl rfl (fun c x h1 => ?_) (fun c1 c2 bb h1 h2 e1 e2 => ?_) (fun c bb h1 e1 => ?_) ?_⟩
 ·obtain ⟨cs,h1,h2⟩ := hv
  refine ⟨cs,CR.ren hrn (b = false) hI (hflat.imp id (·.1)) h1,by rw [q14]; exact h2⟩
 ·rcases objs2 c x h1 with ⟨o,ob,q1,rfl,rfl,q4⟩ | ⟨q1,q2⟩
  ·exact OR.ren hrn (b = false) hI (hflat.imp id (fun h => h.2 _ q1)) q4 (fun m h e => inj' m o h (by rw [q4]; simp) e) inj' (hok.1 _ _ q4)
  ·obtain ⟨e1,e2,e3,e4⟩ := beta0 c q1
   refine (hR.objs _ _ q2).ext hext (by rw [hR.obj]; exact q2) e1 e2 e3 e4 (fun bb hb => hblk bb (ltE _ _ _ q2 hb) (notT _ _ _ q2 q1 hb)) (fun m ver ll cu e => ?_)
   subst e
   obtain ⟨_,_,_,_,_,_,_,cur,es,hm,hle⟩ := hR.objs _ _ q2
   obtain ⟨ob',h5,h6⟩ := hext.live m _ hm
   cases ob' <;> simp only [OExt] at h6
   rename_i v' es'
   refine ⟨h6.1,fun es2 hes => ?_,fun _ => ⟨v',es',h5,by omega⟩⟩
   rw [h5] at hes
   simp only [Option.some.injEq,OB.map.injEq] at hes
   obtain ⟨r1,r2⟩ := hes
   have : cur = v' := by omega
   obtain ⟨t1,t2,t3⟩ := h6.2.2 this
   refine ⟨?_,t2,t3⟩
   rw [hm,← r2,t1]
   congr 2
   omega
 ·obtain ⟨x1,h1⟩ := Option.ne_none_iff_exists'.1 h1
  obtain ⟨x2,h2⟩ := Option.ne_none_iff_exists'.1 h2
  rcases has2 c1 x1 bb h1 e1 with ⟨o,ob,q1,rfl,rfl,q4,e1⟩ | ⟨q1,q2,e1⟩ <;> rcases has2 c2 x2 bb h2 e2 with ⟨o',ob',r1,rfl,rfl,r4,e2⟩ | ⟨r1,r2,e2⟩
  ·rw [hok.2 o o' bb (by rw [q4]; simp) (by rw [r4]; simp) e1 e2]
  ·rcases own2 _ _ _ q1 e1 with h | h
   ·have := ltE _ _ _ r2 e2; omega
   ·exact absurd h (notT _ _ _ r2 r1 e2)
  ·rcases own2 _ _ _ r1 e2 with h | h
   ·have := ltE _ _ _ q2 e1; omega
   ·exact absurd h (notT _ _ _ q2 q1 e1)
  ·exact hR.inj _ _ _ (by rw [q2]; simp) (by rw [r2]; simp) e1 e2
 ·obtain ⟨x1,h1⟩ := Option.ne_none_iff_exists'.1 h1
  rcases has2 c x1 bb h1 e1 with ⟨o,ob,q1,rfl,rfl,q4,e1⟩ | ⟨q1,q2,e1⟩
  ·rcases own2 _ _ _ q1 e1 with h | h
   ·exact .inl (Nat.le_trans hR.keeps.size h)
   ·obtain ⟨o',ob',p1,p2,p3⟩ := passed bb h
    exact hR.own _ _ (by rw [p2]; simp) p3
  ·exact hR.own _ _ (by rw [q2]; simp) e1
 ·refine ⟨?_,?_,?_,Nat.le_trans hR.keeps.size hsz,fun bb h1 h2 => ?_,fun d => Nat.le_trans (hR.keeps.drawn d) (by have := hkeep.drawn d; simp only [Cx.w0] at this; rw [hw] at this; exact this)⟩
  ·have := hkeep.os; simp only [Cx.w0] at this; rw [hw] at this; exact this.trans hR.keeps.os
  ·have := hkeep.tape; simp only [Cx.w0] at this; rw [hw] at this; exact this.trans hR.keeps.tape
  ·have := hkeep.output; simp only [Cx.w0] at this; rw [hw] at this; exact this.trans hR.keeps.output
  ·rw [hblk bb (by have := hR.keeps.size; omega) (fun hT => ?_)]
   ·exact hR.keeps.block bb h1 h2
   ·obtain ⟨o',ob',p1,p2,p3⟩ := passed bb hT
    rcases hR.own _ _ (by rw [p2]; simp) p3 with h | h
    ·omega
    ·exact h2 h
theorem callIn_agree {s s' : St} {σ : Nat → Nat} {k : Nat} {mi mo : List (Nat × OB)} {ys : List AV} {l : List Nat} (h : CallIn s σ k mi mo ys l) (ho : ∀ c ∈ l ++ mo.map (fun p => σ p.1),s'.obj c = s.obj c) : CallIn s' σ k mi mo ys l := by
 refine ⟨h.lt,h.live,fun p hp => ⟨?_,(h.objs p hp).2⟩,h.inj,h.pres,h.nodup,h.nodupσ,h.inmo,fun p hp hn => ?_⟩
 ·obtain ⟨x,hx⟩ := h.inmo p hp
  rw [ho _ (zL.2 (.inr (List.mem_map.2 ⟨_,hx,rfl⟩)))]
  exact (h.objs p hp).1
 ·rw [ho _ (zL.2 (.inr (List.mem_map.2 ⟨_,hp,rfl⟩)))]
  exact h.new p hp hn
theorem qA5 {dd : Option Nat} {f : FuncId} {fn : Func} {as : Array Operand} {ats : Array TypeId} {cal : Callee} {b : Bool} {k : Nat} {mi mo : List (Nat × OB)} {ys : List AV} {l fs : List Nat} {res : AV} (σ : Nat → Nat)
  (ho : ops[i]? = some ⟨dd,.call ⟨cal,as,ats⟩,ty,pos,af,g⟩) (hd : ∀ d,dd = some d → d < N.1) (hg : G ops s g gs)
  (hf : P.funcs[f]? = some fn) (hnm : (fn.name == "runtime.NumGoroutine") = false) (hbd : fn.body.isNone = false)
  (os : List Operand) (hos : ∀ (s' : St) (cx : Cx) (a : Act) (E : Env),(∀ t ∈ fs,s'.slot t = s.slot t) → R0 cx s' a E → (execOp a.eval ⟨dd,.call ⟨cal,as,ats⟩,ty,pos,af,g⟩).run P E.w = .ok (.enter f (os.map a.eval).toArray) E.w)
  (hF : FnOk P f ys k (lk mi) (fun r oo => r = res ∧ oo = lk mo)) (hh : Hands s (lk mi) σ os ys b l) (hC : CallIn s σ k mi mo ys l)
  (hflat : b = false ∨ (res.flat ∧ ∀ p ∈ mo,p.2.flat)) :
  Valid P N ops i ⟨gs ++ (fs ++ qS4 os),l ++ mo.map (fun p => σ p.1),dd.map fun d => (d,some (res.ren σ)),mo.map fun p => (σ p.1,p.2.ren σ)⟩ s := by
 refine ⟨_,ho,fun s' hs Q cx a w hn hR => ?_⟩
 obtain ⟨E,rfl,hR0⟩ := hR
 have hs1 : ∀ t ∈ gs,s'.slot t = s.slot t := fun t ht => hs.1 t (by simp [ht])
 have hs2 : ∀ t ∈ fs,s'.slot t = s.slot t := fun t ht => hs.1 t (by simp [ht])
 have hs3 : ∀ t ∈ qS4 os,s'.slot t = s.slot t := fun t ht => hs.1 t (by simp [ht])
 rw [if_pos (hg.wanted hs1 hR0)]
 have hC' := callIn_agree hC hs.2
 let Ec : Env := { obj := lk mi,β := fun o => E.β (σ o),γ := fun o => E.γ (σ o),δ := fun o => E.δ (σ o),φ := fun o => E.φ (σ o),J := fun bb => b = true ∨ E.I bb,w := E.w }
 have hEo : ∀ o ob,Ec.obj o = some ob → E.obj (σ o) = some (ob.ren σ) := fun o ob h => by rw [hR0.obj]; exact (hC'.objs _ (q61 h)).1
 have hS : Sub E Ec σ := ⟨rfl,hEo,fun _ => rfl,fun _ => rfl,fun _ => rfl,fun _ => rfl,fun bb hb => ⟨.inr hb,fun o ob h e => hb.2 (σ o) _ (hEo o ob h) (by
  rcases e with e | ⟨e,x,hx⟩
  ·exact .inl e
  ·exact .inr ⟨e,_,hEo _ _ hx⟩)⟩⟩
 have inj0 : ∀ m m',lk mi m ≠ none → lk mi m' ≠ none → σ m = σ m' → m = m' := by
  intro m m' h1 h2 e
  obtain ⟨x1,h1⟩ := Option.ne_none_iff_exists'.1 h1
  obtain ⟨x2,h2⟩ := Option.ne_none_iff_exists'.1 h2
  exact hC'.inj _ (q61 h1) _ (q61 h2) e
 have hok : q96 Ec := by
  refine ⟨fun o ob h => ?_,fun o o' bb h1 h2 e1 e2 => ?_⟩
  ·obtain ⟨q1,q2⟩ := hC'.objs _ (q61 h)
   exact OR.unren hS q2 inj0 (hR0.objs _ _ q1)
  ·obtain ⟨x1,h1'⟩ := Option.ne_none_iff_exists'.1 h1
   obtain ⟨x2,h2'⟩ := Option.ne_none_iff_exists'.1 h2
   refine inj0 o o' h1 h2 (hR0.inj _ _ bb ?_ ?_ (hS.has e1) (hS.has e2))
   ·rw [(hC'.objs _ (q61 h1')).1]; simp
   ·rw [(hC'.objs _ (q61 h2')).1]; simp
 have hvals := Hands.vals hR0 hS (oin := lk mi) rfl hh hs3 (fun c hc => hs.2 c (by simp [hc])) hC'.live (fun e b' => .inl e) (fun c hc o ho' => by
  obtain ⟨x,hx⟩ := Option.ne_none_iff_exists'.1 ho'
  exact hC'.pres c hc _ (q61 hx))
 have hcall := hF (fun o ho' => by
  obtain ⟨x,hx⟩ := Option.ne_none_iff_exists'.1 ho'
  exact hC'.lt _ (q61 hx)) Ec _ rfl hok hvals
 unfold Oper.wp
 rw [hos s' cx a E hs2 hR0]
 simp only [Oper.upon]
 refine hcall.mono ?_
 rintro e w' ⟨v,r,E',rfl,rfl,⟨rfl,hpost⟩,hv,hok',hown,hkeep,hJ',hlive⟩
 obtain ⟨E2,q1,q2,q3⟩ := after_call hR0 hC' hS rfl (fun bb h => h) hpost hv hok' hown hkeep hJ' hlive hflat
 refine ⟨E2,q1,?_⟩
 cases dd with
 | none => exact q3
 | some d => exact q3.put q2 (by rw [hn]; exact hd d rfl)
theorem hos_func {dd : Option Nat} {f : FuncId} {fn : Func} {as : Array Operand} {ats : Array TypeId} (hf : P.funcs[f]? = some fn) (hnm : (fn.name == "runtime.NumGoroutine") = false) (hbd : fn.body.isNone = false) (a : Act) (w : World) :
  (execOp a.eval ⟨dd,.call ⟨.value (.func f),as,ats⟩,ty,pos,af,g⟩).run P w = .ok (.enter f (as.toList.map a.eval).toArray) w := by
 simp only [execOp,resolve,Sem.run_bind,Sem.run_pure,Result.andThen,Act.eval,Deferred.ofValue,invoke,callFunc,run_program,hf,hnm,hbd,Bool.false_eq_true,if_false]
 congr 2
 apply Array.ext'
 simp
theorem callIn0 {s : St} {k : Nat} {ys : List AV} {l : List Nat} (hl : AV.lives (lk []) ys) : CallIn s (fun o => o) k [] [] ys l :=
 ⟨nofun,hl,nofun,nofun,fun _ _ => nofun,by simp,by simp,nofun,nofun⟩
theorem qc0 {d : Nat} {f : FuncId} {fn : Func} {as : List Operand} {ats : Array TypeId} {b : Bool} {ys : List AV} {l : List Nat} {res : AV} (ho : ops[i]? = some ⟨some d,.call ⟨.value (.func f),as.toArray,ats⟩,ty,pos,af,g⟩) (hd : Nat.ble (d + 1) N.1 = true) (hg : G ops s g gs)
  (hf : P.funcs[f]? = some fn) (hnm : (fn.name == "runtime.NumGoroutine") = false) (hbd : fn.body.isNone = false) (hF : FnOk P f ys 0 (lk []) (fun r oo => r = res ∧ oo = lk []))
  (hh : Hands s (lk []) (fun o => o) as ys b l) (hl : AV.lives (lk []) ys) (hflat : b = false ∨ res.flat) : Valid P N ops i ⟨gs ++ ([] ++ qS4 as),l ++ [],some (d,some (res.ren fun o => o)),[]⟩ s := by
 refine qA5 (fun o => o) ho (fun _ e => by cases e; exact Nat.le_of_ble_eq_true hd) hg hf hnm hbd as (fun s' cx a E _ _ => ?_) hF hh (callIn0 hl) (hflat.imp id fun h => ⟨h,fun _ h => by cases h⟩)
 have := hos_func (P := P) (dd := some d) (as := as.toArray) (ats := ats) (ty := ty) (pos := pos) (af := af) (g := g) hf hnm hbd a E.w
 simpa using this
theorem qW5 {d : Nat} {f : FuncId} {fn : Func} {as : List Operand} {ats : Array TypeId} {b : Bool} {ys : List AV} {l : List Nat} {res : AV} {ob : OB} (o : Nat) (ho : ops[i]? = some ⟨some d,.call ⟨.value (.func f),as.toArray,ats⟩,ty,pos,af,g⟩) (hd : Nat.ble (d + 1) N.1 = true) (hg : G ops s g gs)
  (hf : P.funcs[f]? = some fn) (hnm : (fn.name == "runtime.NumGoroutine") = false) (hbd : fn.body.isNone = false) (hF : FnOk P f ys 0 (lk []) (fun r oo => r = res ∧ oo = lk [(0,ob)]))
  (hh : Hands s (lk []) (fun _ => o) as ys b l) (hl : AV.lives (lk []) ys) (hn : s.obj o = none) (hflat : b = false ∨ (res.flat ∧ ob.flat)) : Valid P N ops i ⟨gs ++ ([] ++ qS4 as),l ++ [o],some (d,some (res.ren fun _ => o)),[(o,ob.ren fun _ => o)]⟩ s := by
 refine qA5 (fun _ => o) (mo := [(0,ob)]) ho (fun _ e => by cases e; exact Nat.le_of_ble_eq_true hd) hg hf hnm hbd as (fun s' cx a E _ _ => ?_) hF hh ?_ (hflat.imp id fun h => ⟨h.1,fun _ h' => by simp at h'; subst h'; exact h.2⟩)
 ·have := hos_func (P := P) (dd := some d) (as := as.toArray) (ats := ats) (ty := ty) (pos := pos) (af := af) (g := g) hf hnm hbd a E.w
  simpa using this
 ·exact ⟨nofun,hl,nofun,nofun,fun _ _ => nofun,by simp,by simp,nofun,fun p hp _ => by simp at hp; subst hp; exact hn⟩
end
end Go.Val
namespace Go.Val
open Go.RowKit
variable [Drw]
def ck (b : Bool) : Option Unit := cond b (some ()) none
theorem ck_true {b : Bool} {u : Unit} (h : ck b = some u) : b = true := by cases b <;> simp_all [ck]
theorem qU4 {p : Prop} [Decidable p] {u : Unit} (h : ck (decide p) = some u) : p := by simpa using ck_true h
theorem ck_of {p : Prop} [Decidable p] (h : p) : ck (decide p) = some () := by simp [ck,h]
theorem bdS {α β : Type} {x : Option α} {f : α → Option β} {r : β} (h : x.bind f = some r) : ∃ a,x = some a ∧ f a = some r := Option.bind_eq_some_iff.1 h
theorem cdS {α : Type} {b : Bool} {x y : Option α} {r : α} (h : cond b x y = some r) : (b = true ∧ x = some r) ∨ (b = false ∧ y = some r) := by cases b <;> simp_all
def iter {V O : Type} (body : V → Option (V ⊕ O)) : Nat → V → Option O
 | 0,_ => none
 | n + 1,v => (body v).bind fun o => match o with
  | .inl v' => iter body n v'
  | .inr o => some o
theorem iter_mono {V O : Type} {body : V → Option (V ⊕ O)} {o : O} : ∀ (n m : Nat) (v : V),n ≤ m → iter body n v = some o → iter body m v = some o
 | 0,_,_,_,h => by cases h
 | n + 1,0,_,hm,_ => by omega
 | n + 1,m + 1,v,hm,h => by
  simp only [iter] at h ⊢
  obtain ⟨x,h1,h2⟩ := bdS h
  rw [h1]
  cases x with
  | inl v' => exact iter_mono n m v' (by omega) h2
  | inr o' => exact h2
noncomputable def qN {V O : Type} (body : V → Option (V ⊕ O)) (v : V) : Option O :=
 open Classical in if h : ∃ n o,iter body n v = some o then some h.choose_spec.choose else none
theorem whileO_of {V O : Type} {body : V → Option (V ⊕ O)} {v : V} {n : Nat} {o : O} (h : iter body n v = some o) : qN body v = some o := by
 have hx : ∃ n o,iter body n v = some o := ⟨n,o,h⟩
 unfold qN
 rw [dif_pos hx]
 have h1 := hx.choose_spec.choose_spec
 have h2 := iter_mono n (max n hx.choose) v (Nat.le_max_left _ _) h
 have h3 := iter_mono hx.choose (max n hx.choose) v (Nat.le_max_right _ _) h1
 rw [h2] at h3
 exact h3.symm
theorem qT1 {V O : Type} {body : V → Option (V ⊕ O)} {v : V} {o : O} (h : qN body v = some o) : ∃ n,iter body n v = some o := by
 unfold qN at h
 split at h
 ·rename_i hx
  have h1 := hx.choose_spec.choose_spec
  cases h
  exact ⟨_,h1⟩
 ·cases h
theorem qI {V O : Type} (body : V → Option (V ⊕ O)) (v : V) : qN body v = (body v).bind fun o => match o with
  | .inl v' => qN body v'
  | .inr o => some o := by
 cases hb : body v with
 | none =>
  cases hw : qN body v with
  | none => rfl
  | some o =>
   obtain ⟨n,h⟩ := qT1 hw
   cases n with
   | zero => cases h
   | succ n => simp [iter,hb] at h
 | some x =>
  simp only [zA]
  cases x with
  | inr o => exact whileO_of (n := 1) (by simp [iter,hb])
  | inl v' =>
   simp only
   cases hw : qN body v' with
   | some o =>
    obtain ⟨n,h⟩ := qT1 hw
    exact whileO_of (n := n + 1) (by simp [iter,hb,h])
   | none =>
    cases hw' : qN body v with
    | none => rfl
    | some o =>
     obtain ⟨n,h⟩ := qT1 hw'
     cases n with
     | zero => cases h
     | succ n =>
      simp [iter,hb] at h
      rw [whileO_of h] at hw
      cases hw
section
variable {P : Program} {N : Nat × Nat}
theorem cwT {c : Operand} {x y : Code} {Q : Exit → St → Prop} {s : St} {b : Bool} (hc : s.val c = some (.d (.v (.bool b)))) (hb : b = true) (h : CWp P N x Q s) : CWp P N (.cond c x y) Q s :=
 cw_cond hc (fun _ => h) (fun e => by rw [hb] at e; cases e)
theorem cwF {c : Operand} {x y : Code} {Q : Exit → St → Prop} {s : St} {b : Bool} (hc : s.val c = some (.d (.v (.bool b)))) (hb : b = false) (h : CWp P N y Q s) : CWp P N (.cond c x y) Q s :=
 cw_cond hc (fun e => by rw [hb] at e; cases e) (fun _ => h)
theorem cwJ {ι : Type} {x y : Code} {Q : Exit → St → Prop} {s : St} (st : ι → St) (φ : ι → Prop) (hy : ∀ v,φ v → CWp P N y Q (st v))
  (hx : CWp P N x (thenS (fun s' => ∃ v,φ v ∧ Leads N s' (st v)) Q) s) : CWp P N (.seq x y) Q s :=
 cwS (cw_mono hx fun e s' h => by
  cases e with
  | normal => obtain ⟨v,h1,h2⟩ := h; exact cwL h2 (hy v h1)
  | _ => exact h)
theorem qK {V O : Type} {c : Code} {Q : Exit → St → Prop} {s : St} {body : V → Option (V ⊕ O)} {v : V} {o : O} (st : V → St) (hw : qN body v = some o) (h0 : Leads N s (st v))
  (round : ∀ v x,body v = some x → (∀ o',x = .inr o' → o' = o) → CWp P N c (thenS (fun s' => ∃ v',x = .inl v' ∧ Leads N s' (st v')) Q) (st v)) : CWp P N (.loop c) Q s := by
 obtain ⟨n,hn⟩ := qT1 hw
 refine cwL h0 ?_
 refine cw_loop (I := fun n s => ∃ v,s = st v ∧ iter body n v = some o) (n := n) ⟨v,rfl,hn⟩ ?_
 rintro n s ⟨v,rfl,hv⟩
 cases n with
 | zero => cases hv
 | succ n =>
  simp only [iter] at hv
  obtain ⟨x,h1,h2⟩ := bdS hv
  have hr := round v x h1 (fun o' e => by subst e; simpa using h2)
  intro cx a w hcx hR
  refine wp_mono (hr cx a w hcx hR) ?_
  rintro e a' w' ⟨s',hq,hR'⟩
  cases e with
  | normal =>
   obtain ⟨v',rfl,hwk⟩ := hq
   exact ⟨st v',⟨n,Nat.lt_succ_self _,v',rfl,h2⟩,hwk cx a' w' hcx hR'⟩
  | exit id => exact ⟨s',hq,hR'⟩
  | goto l => exact ⟨s',hq,hR'⟩
  | ret => exact ⟨s',hq,hR'⟩
  | panic ch => exact ⟨s',hq,hR'⟩
  | outgrown => exact ⟨s',hq,hR'⟩
section
variable {op : BinOp} {T : TypeId} {x y : Operand} {k : IntKind}
theorem qR0 (a b : Int) : ∀ w,(eqGuard .add T x y (.int k a) (.int k b) >>= fun _ => binOp .add T (.int k a) (.int k b) : Sem Value).run P w = .ok (.int k (k.wrap (a + b))) w := fun w => by simp [eqGuard,binOp,Op.intArith,Result.andThen]
theorem qS3 (a b : Int) : ∀ w,(eqGuard .sub T x y (.int k a) (.int k b) >>= fun _ => binOp .sub T (.int k a) (.int k b) : Sem Value).run P w = .ok (.int k (k.wrap (a - b))) w := fun w => by simp [eqGuard,binOp,Op.intArith,Result.andThen]
theorem b_mul (a b : Int) : ∀ w,(eqGuard .mul T x y (.int k a) (.int k b) >>= fun _ => binOp .mul T (.int k a) (.int k b) : Sem Value).run P w = .ok (.int k (k.wrap (a * b))) w := fun w => by simp [eqGuard,binOp,Op.intArith,Result.andThen]
theorem b_quo (a b : Int) (h : b ≠ 0) : ∀ w,(eqGuard .quo T x y (.int k a) (.int k b) >>= fun _ => binOp .quo T (.int k a) (.int k b) : Sem Value).run P w = .ok (.int k (k.wrap (a.tdiv b))) w := fun w => by simp [eqGuard,binOp,Op.intDiv,Result.andThen,h]
theorem qO0 (a b : Int) : ∀ w,(eqGuard .lss T x y (.int k a) (.int k b) >>= fun _ => binOp .lss T (.int k a) (.int k b) : Sem Value).run P w = .ok (.bool (decide (a < b))) w := fun w => by simp [eqGuard,binOp,Op.intCmp,Result.andThen]
theorem b_leq (a b : Int) : ∀ w,(eqGuard .leq T x y (.int k a) (.int k b) >>= fun _ => binOp .leq T (.int k a) (.int k b) : Sem Value).run P w = .ok (.bool (decide (a ≤ b))) w := fun w => by simp [eqGuard,binOp,Op.intCmp,Result.andThen]
theorem qT3 (a b : Int) : ∀ w,(eqGuard .gtr T x y (.int k a) (.int k b) >>= fun _ => binOp .gtr T (.int k a) (.int k b) : Sem Value).run P w = .ok (.bool (decide (a > b))) w := fun w => by simp [eqGuard,binOp,Op.intCmp,Result.andThen]
theorem qf6 (a b : Int) : ∀ w,(eqGuard .geq T x y (.int k a) (.int k b) >>= fun _ => binOp .geq T (.int k a) (.int k b) : Sem Value).run P w = .ok (.bool (decide (a ≥ b))) w := fun w => by simp [eqGuard,binOp,Op.intCmp,Result.andThen]
theorem qh0 (a b : Int) : ∀ w,(eqGuard .eql T x y (.int k a) (.int k b) >>= fun _ => binOp .eql T (.int k a) (.int k b) : Sem Value).run P w = .ok (.bool (decide (a = b))) w := fun w => by
 have : (a == b) = decide (a = b) := rfl
 simp [eqGuard,binOp,Op.intCmp,Result.andThen,this]
theorem qT2 (a b : Int) : ∀ w,(eqGuard .neq T x y (.int k a) (.int k b) >>= fun _ => binOp .neq T (.int k a) (.int k b) : Sem Value).run P w = .ok (.bool (decide (a ≠ b))) w := fun w => by
 have : (a != b) = decide (a ≠ b) := by rw [Bool.eq_iff_iff]; simp
 simp [eqGuard,binOp,Op.intCmp,Result.andThen,this]
theorem s_eql (a b : ByteArray) : ∀ w,(eqGuard .eql T x y (.string a) (.string b) >>= fun _ => binOp .eql T (.string a) (.string b) : Sem Value).run P w = .ok (.bool (decide (a = b))) w := fun w => by
 simp [eqGuard,binOp,Op.stringOp,toList_beq]
end
end
section
variable {P : Program} {fn : Func} {s : St}
theorem res0 (h : fn.results = #[]) : ResOk P fn s (.tup []) := by
 intro cx a E hR
 exact ⟨.tuple #[],by simp [results,h],_,.tup .nil,rfl⟩
theorem res1 {t : Nat} {x : AV} (h : fn.results = #[.tmp t]) (hx : s.slot t = some x) : ResOk P fn s x := by
 intro cx a E hR
 exact ⟨_,by simp [results,h],hR.slots t x hx⟩
theorem res2 {t u : Nat} {x y : AV} (h : fn.results = #[.tmp t,.tmp u]) (hx : s.slot t = some x) (hy : s.slot u = some y) : ResOk P fn s (.tup [x,y]) := by
 intro cx a E hR
 obtain ⟨c1,k1,e1⟩ := hR.slots t x hx
 obtain ⟨c2,k2,e2⟩ := hR.slots u y hy
 exact ⟨.tuple #[a.tmps.getD t undef,a.tmps.getD u undef],by simp [results,h],_,.tup (.cons k1 (.cons k2 .nil)),by rw [e1,e2]; rfl⟩
theorem res3 {t u v : Nat} {x y z : AV} (h : fn.results = #[.tmp t,.tmp u,.tmp v]) (hx : s.slot t = some x) (hy : s.slot u = some y) (hz : s.slot v = some z) : ResOk P fn s (.tup [x,y,z]) := by
 intro cx a E hR
 obtain ⟨c1,k1,e1⟩ := hR.slots t x hx
 obtain ⟨c2,k2,e2⟩ := hR.slots u y hy
 obtain ⟨c3,k3,e3⟩ := hR.slots v z hz
 exact ⟨.tuple #[a.tmps.getD t undef,a.tmps.getD u undef,a.tmps.getD v undef],by simp [results,h],_,.tup (.cons k1 (.cons k2 (.cons k3 .nil))),by rw [e1,e2,e3]; rfl⟩
theorem resC {t o T n : Nat} {x : AV} {b : Bool} (h : fn.results = #[.cell t T]) (hx : s.slot t = some (.ptr o 0)) (hob : s.obj o = some (.box x)) (hT : TA P T b n) (hb : x.isAgg = b) (hn : x.size = n) : ResOk P fn s x := by
 intro cx a E hR
 subst hb; subst hn
 obtain ⟨cs,h1,h2⟩ := hR.slots t _ hx
 cases h1 with
 | ptr k1 kb k2 =>
  obtain ⟨b',zs,e,q1,q2,q3,q4⟩ := hR.objs _ _ hob
  rw [k2] at q1; cases q1
  have hall : CellsAt E.w _ 0 zs := caB (sp := []) (by rw [zJ]; exact q4)
  have hl := qv1 (P := P) (w := E.w) (by rw [q2.len]; exact hT) hall (fun ha => qe3 q2 ha)
  refine ⟨_,?_,_,q2,rfl⟩
  have e1 : a.tmps.getD t undef = .pointer (some ⟨_,0,none⟩) := h2
  simp only [results,h,List.mapM_toArray,List.mapM_cons,List.mapM_nil,Sem.run_bind,Sem.run_map,e1,asAddr,Sem.run_pure,Result.andThen,hl]
  rfl
end
theorem map_get {α : Type} {xs : List α} {f : α → D} {n : Nat} {x : α} (h : xs[n]? = some x) : (xs.map f)[n]? = some (f x) := by simp [h]
theorem map_cut {α : Type} {xs : List α} {f : α → D} (a b : Nat) : ((xs.map f).take b).drop a = ((xs.take b).drop a).map f := by simp
theorem map_app {α : Type} {xs ys : List α} {f : α → D} : xs.map f ++ ys.map f = (xs ++ ys).map f := by simp
theorem q51 {α : Type} {xs : List α} {f : α → D} {n : Nat} (h : ∀ x,(f x).size = n) : ∀ r ∈ xs.map f,r.size = n := by
 intro r hr
 obtain ⟨x,_,rfl⟩ := List.mem_map.1 hr
 exact h x
end Go.Val
namespace Go.Val
open Go.RowKit
variable [Drw]
theorem foldSet (off : Nat) : ∀ (vs : List Value) (j : Nat) (pre mid post : List Value),pre.length = off + j → mid.length = vs.length →
  (vs.zipIdx j).foldl (fun (cs : Array Value) p => cs.setIfInBounds (off + p.2) p.1) (pre ++ (mid ++ post)).toArray = (pre ++ (vs ++ post)).toArray
 | [],j,pre,mid,post,h1,h2 => by
  have : mid = [] := List.eq_nil_of_length_eq_zero h2
  subst this
  rfl
 | v :: vs,j,pre,[],post,h1,h2 => by cases h2
 | v :: vs,j,pre,m :: mid,post,h1,h2 => by
  simp only [List.zipIdx_cons,List.foldl_cons]
  have e : (pre ++ (m :: mid ++ post)).toArray.setIfInBounds (off + j) v = ((pre ++ [v]) ++ (mid ++ post)).toArray := by
   apply Array.ext'
   simp [← h1]
  rw [e,foldSet off vs (j + 1) (pre ++ [v]) mid post (by simp; omega) (by simpa using h2)]
  simp
theorem fill_one {place : Nat → Option (Nat × Nat)} {i off sz : Nat} {v : Value} {c pre mid post : List Value} {rest : List (Nat × Value)} (hp : place i = some (off,sz)) (hc : v.cells = c.toArray) (hl : c.length = sz) (h1 : pre.length = off) (h2 : mid.length = sz) :
  Instr.fill place (pre ++ (mid ++ post)).toArray ((i,v) :: rest) = Instr.fill place (pre ++ (c ++ post)).toArray rest := by
 rw [Instr.fill,hp]
 simp only [hc,List.size_toArray]
 rw [if_neg (by simp; omega)]
 congr 1
 rw [← Array.foldl_toList,Array.toList_zipIdx]
 exact foldSet off c 0 pre mid post (by rw [h1]; rfl) (by rw [h2,hl])
inductive PartsL (s : St) : Nat → List (Nat × Operand) → List D → Prop
 | nil {k : Nat} : PartsL s k [] []
 | cons {k : Nat} {x : Operand} {y : D} {ps : List (Nat × Operand)} {ys : List D} (h : s.val x = some (.d y)) (hs : PartsL s (k + 1) ps ys) : PartsL s k ((k,x) :: ps) (y :: ys)
def partT (ps : List (Nat × Operand)) : List Nat := ps.flatMap fun p => opT p.2
theorem PartsL.fill {s s' : St} {cx : Cx} {a : Act} {E : Env} (hR : R0 cx s' a E) {es : Nat} : ∀ {k : Nat} {ps : List (Nat × Operand)} {ys : List D},PartsL s k ps ys → (∀ t ∈ partT ps,s'.slot t = s.slot t) → (∀ y ∈ ys,y.size = es) →
  ∃ cs,DRs E.I E.w ys cs ∧ ∀ (pre rest : List Value),pre.length = k * es → rest.length = ys.length * es →
   Instr.fill (fun i => some (i * es,es)) (pre ++ rest).toArray (ps.map fun p => (p.1,a.eval p.2)) = some (pre ++ cs).toArray
 | _,_,_,.nil,_,_ => ⟨[],.nil,fun pre rest _ h => by
   have : rest = [] := List.eq_nil_of_length_eq_zero (by simpa using h)
   subst this; rfl⟩
 | k,_,_,.cons (x := x) (y := y) (ys := ys) h hs,ht,hsz => by
  obtain ⟨cs,h1,h2⟩ := PartsL.fill hR hs (fun t h' => ht t (by simp only [partT,List.flatMap_cons,zL]; exact .inr h')) (fun q hq => hsz q (by simp [hq]))
  obtain ⟨c,q1,q2⟩ := hR.val ((vAg (fun t h' => ht t (by simp [partT,h']))).trans h)
  cases q1 with
  | d q1 =>
   have hc : (a.eval x).cells = c.toArray := by rw [q2]; exact q1.mkV_cells
   have hl : c.length = es := q1.len.trans (hsz y (by simp))
   refine ⟨c ++ cs,.cons q1 h1,fun pre rest p1 p2 => ?_⟩
   simp only [zG,Nat.succ_mul] at p2
   have hsplit : rest = rest.take es ++ rest.drop es := (List.take_append_drop _ _).symm
   rw [hsplit]
   simp only [List.map_cons]
   rw [fill_one (off := k * es) (sz := es) (c := c) rfl hc hl p1 (by simp; omega)]
   have := h2 (pre ++ c) (rest.drop es) (by simp [p1,hl,Nat.succ_mul]) (by simp; omega)
   rw [zI] at this
   rw [this]
   simp
section
variable {P : Program} {N : Nat × Nat} {ops : Array Oper} {i : Nat} {s : St} {d : Nat} {ty : TypeId} {pos : String} {af : Array Edge} {g : Option (Nat × Bool)} {gs : List Nat}
theorem qd5 {T e es n : Nat} {z : D} {w : World} {vals : List (Nat × Value)} {cs : List Value} (hT : slB P T = some e) (hS : szB P e = some es) (hZ : Zero P e z) (_ : z.size = es) (hn : n * es ≤ 16777216)
  (hf : ∀ (pre rest : List Value),pre.length = 0 → rest.length = n * es → Instr.fill (fun i => some (i * es,es)) (pre ++ rest).toArray vals = some (pre ++ cs).toArray) :
  (Instr.buildSlice T n vals.toArray).run P w = .ok (.slice (some ⟨w.heap.size,0,none⟩) n n) (w.alloc (.cells cs.toArray e)) := by
 obtain ⟨zs,z1,z2⟩ := hZ (fun _ => True) w
 have hzc : (mkV z.isAgg zs).cells = zs.toArray := z1.mkV_cells
 unfold Instr.buildSlice
 simp only [Sem.run_bind,run_underlying (qa0 hT),Result.andThen,rSO hS]
 rw [if_neg (by omega)]
 have hfill : ∀ (Z : Array Value),Instr.fill (fun i => some (i * es,es)) ((Array.range (n * es)).map fun x => Z[x % Z.size]!) vals = some cs.toArray := by
  intro Z
  have := hf [] ((Array.range (n * es)).map fun x => Z[x % Z.size]!).toList rfl (by simp)
  rw [List.nil_append,List.nil_append,Array.toArray_toList] at this
  exact this
 by_cases h0 : n * es = 0
 ·rw [if_pos h0]
  simp only [Sem.run_pure,hfill,newRow,Sem.run_bind,Result.andThen]
  rfl
 ·rw [if_neg h0]
  simp only [Sem.run_bind,q55 z2,Result.andThen,Sem.run_pure,hfill,newRow]
  rfl
theorem ql4 {T e es n : Nat} {z : D} {parts : List (Nat × Operand)} {rows : List D} (ho : ops[i]? = some ⟨some d,.buildSlice T n parts.toArray,ty,pos,af,g⟩) (hd : Nat.ble (d + 1) N.1 = true) (hg : G ops s g gs)
  (hp : PartsL s 0 parts rows) (hn : rows.length = n) (hT : slB P T = some e) (hS : szB P e = some es) (hZ : Zero P e z) (hzs : z.size = es) (hsz : ∀ r ∈ rows,r.size = es) (h24 : n * es ≤ 16777216) :
  Valid P N ops i ⟨gs ++ partT parts,[],some (d,some (.d (.sl es rows))),[]⟩ s :=
 vCo ho rfl hd hg fun s' hs _ cx a E _ hR => by
  obtain ⟨cs,h1,h2⟩ := hp.fill hR hs hsz
  have hrun := qd5 (P := P) (w := E.w) (vals := parts.map fun p => (p.1,a.eval p.2)) (cs := cs) hT hS hZ hzs h24 (fun pre rest p1 p2 => h2 pre rest (by simpa using p1) (by rw [hn]; exact p2))
  let E' : Env := { E with w := E.w.alloc (.cells cs.toArray e) }
  have he := ext_alloc E (.cells cs.toArray e)
  refine ⟨.slice (some ⟨E.w.heap.size,0,none⟩) n n,E',?_,?_,qg3 (hR.alloc _)⟩
  ·simp only [execOp]
   rw [Sem.run_bind,show (Array.map (fun x => (x.1,a.eval x.2)) parts.toArray) = (parts.map fun p => (p.1,a.eval p.2)).toArray from by simp,hrun]
   rfl
  ·have hI : E'.I E.w.heap.size := hR.newI _ (Nat.le_refl _)
   have hb : E'.w.heap[E.w.heap.size]? = some (.cells (cs ++ []).toArray e (0,0)) := by rw [zJ]; exact qr2 _ _
   have := DR.sl (I := E'.I) (w := E'.w) (es := es) (rows := rows) (cap := n) hI (by simp [E']) (h1.mono he.hz he.imm) hsz (caB hb) (by omega)
   rw [hn] at this
   exact ⟨_,.d this,rfl⟩
theorem o_bslO {T e es n : Nat} {z : D} {parts : List (Nat × Operand)} {rows : List D} (o : Nat) (ho : ops[i]? = some ⟨some d,.buildSlice T n parts.toArray,ty,pos,af,g⟩) (hd : Nat.ble (d + 1) N.1 = true) (hg : G ops s g gs)
  (hp : PartsL s 0 parts rows) (hn : rows.length = n) (hT : slB P T = some e) (hS : szB P e = some es) (hZ : Zero P e z) (hzs : z.size = es) (hsz : ∀ r ∈ rows,r.size = es) (h24 : n * es ≤ 16777216) (hno : s.obj o = none) :
  Valid P N ops i ⟨gs ++ partT parts,[o],some (d,some (.arr o 0)),[(o,.arr 0 es rows)]⟩ s :=
 vCo ho rfl hd hg fun s' hs ho' cx a E _ hR => by
  have hno' := noObj ho' hno
  have hnoE : E.obj o = none := by rw [hR.obj]; exact hno'
  obtain ⟨cs,h1,h2⟩ := hp.fill hR hs hsz
  have hrun := qd5 (P := P) (w := E.w) (vals := parts.map fun p => (p.1,a.eval p.2)) (cs := cs) hT hS hZ hzs h24 (fun pre rest p1 p2 => h2 pre rest (by simpa using p1) (by rw [hn]; exact p2))
  have hz' : E.w.heap.size ≤ (E.w.alloc (.cells cs.toArray e)).heap.size := by simp
  have hh : ∀ k,k < E.w.heap.size → (E.w.alloc (.cells cs.toArray e)).heap[k]? = E.w.heap[k]? := fun k hk => Below.heap_alloc _ _ _ hk
  have he := ext_new (ob := .arr 0 es rows) (cap := n) (births := []) rfl hnoE hz' (b := some E.w.heap.size) (fun k hk => by cases hk; exact Nat.le_refl _) hh
  refine ⟨.slice (some ⟨E.w.heap.size,0,none⟩) n n,E.new o (.arr 0 es rows) (some E.w.heap.size) n [] (E.w.alloc (.cells cs.toArray e)),?_,?_,hR.new hno' hz' (fun k hk => by cases hk; exact Nat.le_refl _) hh (hR.keeps.grow _) ?_⟩
  ·simp only [execOp]
   rw [Sem.run_bind,show (Array.map (fun x => (x.1,a.eval x.2)) parts.toArray) = (parts.map fun p => (p.1,a.eval p.2)).toArray from by simp,hrun]
   rfl
  ·exact ⟨_,.arr (cur := 0) (es := es) (rows := rows) (by simp [Env.new,qf1]) (Nat.le_refl _) (fun _ => by simp [Env.new,q66,hn]) rfl,rfl⟩
  ·refine .inr ⟨E.w.heap.size,cs,[],e,by simp [Env.new],h1.mono he.hz he.imm,hsz,by rw [zJ]; exact qr2 _ _,?_,by simp [Env.new,hn]⟩
   simp only [zJ,Env.new,if_true]
   rw [h1.len,qA0 hsz,hn]
def q13 (P : Program) (T : TypeId) : Option (List (Nat × Nat)) := match P.underlying T with
 | some (.struct fs) => fs.toList.mapM fun f => (szB P f.type).map fun n => (f.offset,n)
 | _ => none
inductive Fills (s : St) (pl : List (Nat × Nat)) : List (Nat × Operand) → List AV → List AV → Prop
 | nil {qs : List AV} : Fills s pl [] qs qs
 | cons {i off sz : Nat} {x : Operand} {y q : AV} {ps : List (Nat × Operand)} {qs rs : List AV} (h : s.val x = some y) (hpl : y.plain = true) (hq : qs[i]? = some q) (hp : pl[i]? = some (off,sz)) (hy : y.size = sz) (hqs : q.size = sz) (ho : AV.sizes (qs.take i) = off)
   (hs : Fills s pl ps (qs.set i y) rs) : Fills s pl ((i,x) :: ps) qs rs
theorem Fills.fill {s s' : St} {cx : Cx} {a : Act} {E : Env} (hR : R0 cx s' a E) {pl : List (Nat × Nat)} : ∀ {ps : List (Nat × Operand)} {qs rs : List AV} {cs : List Value},Fills s pl ps qs rs → (∀ t ∈ partT ps,s'.slot t = s.slot t) → CRs E qs cs →
  ∃ cs',CRs E rs cs' ∧ Instr.fill (fun i => pl[i]?) cs.toArray (ps.map fun p => (p.1,a.eval p.2)) = some cs'.toArray
 | _,_,_,cs,.nil,_,h => ⟨cs,h,rfl⟩
 | _,_,_,cs,.cons (i := i) (x := x) (y := y) (q := q) (qs := qs) h hpl hq hp hy hqs ho hs,ht,hc => by
  obtain ⟨c,q1,q2⟩ := hR.val ((vAg (fun t h' => ht t (by simp [partT,h']))).trans h)
  have hcc : (a.eval x).cells = c.toArray := by rw [q2]; exact mkV_cells (q1.ones hpl) (qe3 q1)
  rw [cut_at hq] at hc
  obtain ⟨c1,c2,rfl,k1,k2⟩ := CRs.split _ hc
  cases k2 with
  | cons k2 k3 =>
   rename_i m c3
   have hset : CRs E (qs.set i y) (c1 ++ (c ++ c3)) := by
    rw [set_cut qs i q y hq]
    exact CRs.append k1 (.cons q1 k3)
   obtain ⟨cs',r1,r2⟩ := Fills.fill hR hs (fun t h' => ht t (by simp only [partT,List.flatMap_cons,zL]; exact .inr h')) hset
   refine ⟨cs',r1,?_⟩
   simp only [List.map_cons]
   rw [fill_one (c := c) hp hcc (q1.len.trans hy) (k1.len.trans ho) (k2.len.trans hqs)]
   exact r2
theorem qa6 {T : Nat} {z : D} {zs ds : List D} {pl : List (Nat × Nat)} {parts : List (Nat × Operand)} (ho : ops[i]? = some ⟨some d,.build T parts.toArray,ty,pos,af,g⟩) (hd : Nat.ble (d + 1) N.1 = true) (hg : G ops s g gs)
  (hZ : Zero P T z) (hz : z = .st zs) (hpl : q13 P T = some pl) (hf : Fills s pl parts (zs.map .d) (ds.map .d)) :
  Valid P N ops i ⟨gs ++ partT parts,[],some (d,some (.d (.st ds))),[]⟩ s :=
 vPu ho hd hg fun s' hs cx a E hR => by
  subst hz
  obtain ⟨cs,h1,h2⟩ := hZ E.I E.w
  cases h1 with
  | st h1 =>
   obtain ⟨cs',r1,r2⟩ := hf.fill hR hs (CRs.of_drs h1)
   refine ⟨.agg cs'.toArray,?_,_,.d (.st (CRs.flat r1)),rfl⟩
   unfold q13 at hpl
   cases hu : P.underlying T with
   | none => simp [hu] at hpl
   | some u =>
    cases u <;> simp only [hu] at hpl <;> try (cases hpl; done)
    rename_i fs
    have hm : ∀ (l : List Field) (q : List (Nat × Nat)),(l.mapM fun f => (szB P f.type).map fun n => (f.offset,n)) = some q →
      (l.mapM fun f => (do pure (f.offset,← sizeOf f.type) : Sem (Nat × Nat))).run P E.w = .ok q E.w := by
     intro l
     induction l with
     | nil => intro q hq; simp at hq; subst hq; rfl
     | cons f l ih =>
      intro q hq
      rw [List.mapM_cons] at hq
      simp only [Option.bind_eq_bind,Option.bind_eq_some_iff,Option.map_eq_some_iff] at hq
      obtain ⟨x,⟨n,hn,rfl⟩,q',hq',hqq⟩ := hq
      cases hqq
      rw [List.mapM_cons]
      simp only [Sem.run_bind,rSO hn,Result.andThen,Sem.run_pure,ih q' hq']
    have hm' := hm fs.toList pl hpl
    simp only [execOp]
    rw [Sem.run_bind]
    unfold Instr.build
    simp only [Sem.run_bind,q55 h2,Result.andThen,run_underlying hu,mkV,D.isAgg,if_true,Value.cells,Array.mapM_eq_mapM_toList,Sem.run_map,hm']
    have e1 : (Array.map (fun x => (x.1,a.eval x.2)) parts.toArray).toList = parts.map fun p => (p.1,a.eval p.2) := by simp
    have e2 : (fun i : Nat => (List.toArray pl)[i]?) = fun i => pl[i]? := by funext i; simp
    rw [e1,e2,r2]
    rfl
end
end Go.Val
namespace Go.Val
open Go.RowKit
variable [Drw]
theorem Hand.d {s : St} {oin : Nat → Option OB} {σ : Nat → Nat} {x : D} : Hand s oin σ (.d x) (.d x) false [] := .same (y := .d x)
theorem Hand.m {s : St} {oin : Nat → Option OB} {σ : Nat → Nat} {o k : Nat} (h : σ o = k) : Hand s oin σ (.map k) (.map o) false [] := by subst h; exact .same (y := .map o)
theorem Hand.p {s : St} {oin : Nat → Option OB} {σ : Nat → Nat} {o n k : Nat} (h : σ o = k) : Hand s oin σ (.ptr k n) (.ptr o n) false [] := by subst h; exact .same (y := .ptr o n)
theorem Hand.f0 {s : St} {oin : Nat → Option OB} {σ : Nat → Nat} {f : Nat} : Hand s oin σ (.fn f [] []) (.fn f [] []) false [] := .same (y := .fn f [] [])
theorem Hand.f1 {s : St} {oin : Nat → Option OB} {σ : Nat → Nat} {f o n k : Nat} (h : σ o = k) : Hand s oin σ (.fn f [] [.ptr k n]) (.fn f [] [.ptr o n]) false [] := by subst h; exact .same (y := .fn f [] [.ptr o n])
theorem Zero.of {P : Program} {T : TypeId} {z : D} (cs : List Value) (hd : ∀ (I : Nat → Prop) (w : World),DR I w z cs) (hz : (P.info? T).bind (·.zero) = some (mkV z.isAgg cs)) : Zero P T z := fun I w => ⟨cs,hd I w,hz⟩
section
variable {P : Program} {N : Nat × Nat} {ops : Array Oper} {i : Nat} {s : St} {d : Nat} {ty : TypeId} {pos : String} {af : Array Edge} {g : Option (Nat × Bool)} {gs : List Nat} {α : Type} {enc : α → D} {xs ys : List α}
theorem qU {T e : TypeId} {x : Operand} {es : Nat} (ho : ops[i]? = some ⟨some d,.call ⟨.builtin .len,#[x],#[T]⟩,ty,pos,af,g⟩) (hd : Nat.ble (d + 1) N.1 = true) (hg : G ops s g gs)
  (hx : s.val x = some (.d (.sl es (xs.map enc)))) (hT : slB P T = some e) : Valid P N ops i ⟨gs ++ opT x,[],some (d,some (.d (.v (.int .i64 xs.length)))),[]⟩ s := by
 have := o_len ho hd hg hx (qa0 hT)
 rwa [List.length_map] at this
theorem q56 {T e : TypeId} {x : Operand} {o c es : Nat} (ho : ops[i]? = some ⟨some d,.call ⟨.builtin .len,#[x],#[T]⟩,ty,pos,af,g⟩) (hd : Nat.ble (d + 1) N.1 = true) (hg : G ops s g gs)
  (hx : s.val x = some (.arr o c)) (hob : s.obj o = some (.arr c es (xs.map enc))) (hT : slB P T = some e) :
  Valid P N ops i ⟨gs ++ opT x,[o],some (d,some (.d (.v (.int .i64 xs.length)))),[]⟩ s := by
 have := o_lenA ho hd hg hx hob (qa0 hT)
 rwa [List.length_map] at this
theorem qs1 {T e es : Nat} {x z : Operand} {k : IntKind} {n : Int} {r : α} (ho : ops[i]? = some ⟨some d,.indexAddr T x z,ty,pos,af,g⟩) (hd : Nat.ble (d + 1) N.1 = true) (hg : G ops s g gs)
  (hx : s.val x = some (.d (.sl es (xs.map enc)))) (hz : s.val z = some (.d (.v (.int k n)))) (hT : slB P T = some e) (he : szB P e = some es) (h0 : 0 ≤ n) (hr : xs[n.toNat]? = some r) :
  Valid P N ops i ⟨gs ++ (opT x ++ opT z),[],some (d,some (.d (.at (enc r)))),[]⟩ s :=
 o_ix ho hd hg hx hz hT he h0 (map_get hr)
theorem qU1 {T e es : Nat} {x z : Operand} {o c : Nat} {k : IntKind} {n : Int} {r : α} (ho : ops[i]? = some ⟨some d,.indexAddr T x z,ty,pos,af,g⟩) (hd : Nat.ble (d + 1) N.1 = true) (hg : G ops s g gs)
  (hx : s.val x = some (.arr o c)) (hob : s.obj o = some (.arr c es (xs.map enc))) (hz : s.val z = some (.d (.v (.int k n)))) (hT : slB P T = some e) (he : szB P e = some es) (h0 : 0 ≤ n) (hr : xs[n.toNat]? = some r) :
  Valid P N ops i ⟨gs ++ (opT x ++ opT z),[o],some (d,some (.pel o c n.toNat 0)),[]⟩ s := by
 refine o_ixA ho hd hg hx hob hz hT he h0 ?_
 have := (List.getElem?_eq_some_iff.1 hr).1
 rw [List.length_map]
 omega
theorem q73 {T : TypeId} {x : Operand} {o c k m es : Nat} {r : α} {y : AV} {b : Bool} {n : Nat} (p : List Nat) (ho : ops[i]? = some ⟨some d,.load T x,ty,pos,af,g⟩) (hd : Nat.ble (d + 1) N.1 = true) (hg : G ops s g gs)
  (hx : s.val x = some (.pel o c k m)) (hob : s.obj o = some (.arr c es (xs.map enc))) (hr : xs[k]? = some r) (hp : AV.get p (.d (enc r)) = some (y,m)) (hT : TA P T b n) (hb : y.isAgg = b) (hn : y.size = n) :
  Valid P N ops i ⟨gs ++ opT x,[o],some (d,some y),[]⟩ s :=
 o_ldE p ho hd hg hx hob (map_get hr) hp hT hb hn
theorem o_slM {T e es : Nat} {x : Operand} {lo hi : Option Operand} {lv hv : Nat} (ho : ops[i]? = some ⟨some d,.slice T x lo hi none,ty,pos,af,g⟩) (hd : Nat.ble (d + 1) N.1 = true) (hg : G ops s g gs)
  (hx : s.val x = some (.d (.sl es (xs.map enc)))) (hT : slB P T = some e) (hS : szB P e = some es) (hl : Bd s 0 lo lv) (hh : Bd s xs.length hi hv) (h1 : lv ≤ hv) (h2 : hv ≤ xs.length) :
  Valid P N ops i ⟨gs ++ (opT x ++ (bdT lo ++ bdT hi)),[],some (d,some (.d (.sl es (((xs.take hv).drop lv).map enc)))),[]⟩ s :=
 o_sl ho hd hg hx hT hS hl (by rw [List.length_map]; exact hh) h1 (by rw [List.length_map]; exact h2) (map_cut lv hv)
theorem q02 {T tx e es bs : Nat} {x y : Operand} {o c : Nat} {z : D} (ho : ops[i]? = some ⟨some d,.call ⟨.builtin .append,#[x,y],#[T,tx]⟩,ty,pos,af,g⟩) (hd : Nat.ble (d + 1) N.1 = true) (hg : G ops s g gs)
  (hx : s.val x = some (.arr o c)) (hob : s.obj o = some (.arr c es (xs.map enc))) (hy : s.val y = some (.d (.sl es (ys.map enc)))) (hsz : ∀ r,(enc r).size = es)
  (hT : slB P T = some e) (hT' : slB P tx = some e) (hS : szB P e = some es) (hB : qw5 P e = some bs) (hZ : Zero P e z) (hzs : z.size = es) (hb0 : 1 ≤ bs) (hfit : (xs.length + ys.length) * bs ≤ 140737488355328) :
  Valid P N ops i ⟨gs ++ (opT x ++ opT y),[o],some (d,some (.arr o (c + 1))),[(o,.arr (c + 1) es ((xs ++ ys).map enc))]⟩ s := by
 have h1 : (xs.length + ys.length) * 1 ≤ (xs.length + ys.length) * bs := Nat.mul_le_mul_left _ hb0
 exact o_app ho hd hg hx hob hy (.sl hT') (q51 hsz) hT hS hB hZ hzs (by rw [List.length_map,List.length_map]; exact hfit) (by rw [List.length_map,List.length_map]; omega) map_app
theorem o_min {T T' : TypeId} {x y : Operand} {k : IntKind} {m n : Int} (ho : ops[i]? = some ⟨some d,.call ⟨.builtin .min,#[x,y],#[T,T']⟩,ty,pos,af,g⟩) (hd : Nat.ble (d + 1) N.1 = true) (hg : G ops s g gs)
  (hx : s.val x = some (.d (.v (.int k m)))) (hy : s.val y = some (.d (.v (.int k n)))) :
  Valid P N ops i ⟨gs ++ (opT x ++ opT y),[],some (d,some (.d (.v (.int k (min m n))))),[]⟩ s :=
 vPu ho hd hg fun s' hs cx a E hR => by
  obtain ⟨h1,h2⟩ := qt0 hs
  have e1 := (hR.val ((vAg h1).trans hx)).sc
  have e2 := (hR.val ((vAg h2).trans hy)).sc
  refine ⟨.int k (min m n),?_,.of_sc (E := E) rfl⟩
  simp [execOp,resolve,invoke,builtin,e1,e2,Builtin.min_,Builtin.min2]
  omega
variable {f : FuncId} {fn : Func} {as : List Operand} {ats : Array TypeId} {b : Bool} {vs : List AV} {l : List Nat} {res : AV}
theorem q20 {σ : Nat → Nat} {k : Nat} {x x' : OB} (hk : Nat.ble 1 k = true) (hl : AV.lives (lk [(0,x)]) vs) (ho : s.obj (σ 0) = some (x.ren σ)) (hx : x.live (lk [(0,x)])) (hp : ∀ c ∈ l,c ≠ σ 0) : CallIn s σ k [(0,x)] [(0,x')] vs l :=
 ⟨fun p hp => by simp at hp; subst hp; exact Nat.le_of_ble_eq_true hk,hl,by simpa using ⟨ho,hx⟩,by simp,fun c hc p hp' => by simp at hp'; subst hp'; exact fun e => hp c hc e.symm,by simp,by simp,by simp,fun p hp' hn => by simp at hp'; subst hp'; simp [lk] at hn⟩
theorem qu2 {σ : Nat → Nat} {k : Nat} {x x' y y' : OB} (hk : Nat.ble 2 k = true) (hl : AV.lives (lk [(0,x),(1,y)]) vs) (hne : σ 0 ≠ σ 1) (ho : s.obj (σ 0) = some (x.ren σ)) (hx : x.live (lk [(0,x),(1,y)])) (ho' : s.obj (σ 1) = some (y.ren σ)) (hy : y.live (lk [(0,x),(1,y)]))
  (hp : ∀ c ∈ l,c ≠ σ 0 ∧ c ≠ σ 1) : CallIn s σ k [(0,x),(1,y)] [(0,x'),(1,y')] vs l := by
 have := Nat.le_of_ble_eq_true hk
 refine ⟨?_,hl,?_,?_,?_,by simp,by simpa using hne,by simp,?_⟩
 ·intro p hp'; simp at hp'; rcases hp' with rfl | rfl <;> simp <;> omega
 ·intro p hp'; simp at hp'; rcases hp' with rfl | rfl
  ·exact ⟨ho,hx⟩
  ·exact ⟨ho',hy⟩
 ·intro p hp' q hq' e; simp at hp' hq'
  rcases hp' with rfl | rfl <;> rcases hq' with rfl | rfl <;> first | rfl | exact absurd e hne | exact absurd e.symm hne
 ·intro c hc p hp'; simp at hp'
  rcases hp' with rfl | rfl
  ·exact fun e => (hp c hc).1 e.symm
  ·exact fun e => (hp c hc).2 e.symm
 ·intro p hp' hn; simp at hp'; rcases hp' with rfl | rfl <;> cases hn
theorem qG {k : Nat} {mi mo : List (Nat × OB)} (σ : Nat → Nat) (ho : ops[i]? = some ⟨some d,.call ⟨.value (.func f),as.toArray,ats⟩,ty,pos,af,g⟩) (hd : Nat.ble (d + 1) N.1 = true) (hg : G ops s g gs)
  (hf : P.funcs[f]? = some fn) (hnm : (fn.name == "runtime.NumGoroutine") = false) (hbd : fn.body.isNone = false) (hF : FnOk P f vs k (lk mi) (fun r oo => r = res ∧ oo = lk mo))
  (hh : Hands s (lk mi) σ as vs b l) (hC : CallIn s σ k mi mo vs l) (hflat : b = false ∨ (res.flat ∧ ∀ p ∈ mo,p.2.flat)) :
  Valid P N ops i ⟨gs ++ ([] ++ qS4 as),l ++ mo.map (fun p => σ p.1),some (d,some (res.ren σ)),mo.map fun p => (σ p.1,p.2.ren σ)⟩ s := by
 refine qA5 (dd := some d) σ ho (fun _ e => by cases e; exact Nat.le_of_ble_eq_true hd) hg hf hnm hbd as (fun s' cx a E _ _ => ?_) hF hh hC hflat
 have := hos_func (P := P) (dd := some d) (as := as.toArray) (ats := ats) (ty := ty) (pos := pos) (af := af) (g := g) hf hnm hbd a E.w
 simpa using this
end
section
variable {P : Program} {N : Nat × Nat}
theorem cw_tail {ι : Type} {x : Code} {Q : Exit → St → Prop} {s : St} (st : ι → St) (φ : ι → Prop) (hy : ∀ v,φ v → Q .normal (st v))
  (hx : CWp P N x (thenS (fun s' => ∃ v,φ v ∧ Leads N s' (st v)) Q) s) : CWp P N x Q s := by
 intro cx a w hn hR
 refine wp_mono (hx cx a w hn hR) ?_
 rintro e a' w' ⟨s',hq,hR'⟩
 cases e with
 | normal =>
  obtain ⟨v,h1,h2⟩ := hq
  exact ⟨st v,hy v h1,h2 cx a' w' hn hR'⟩
 | exit id => exact ⟨s',hq,hR'⟩
 | goto l => exact ⟨s',hq,hR'⟩
 | ret => exact ⟨s',hq,hR'⟩
 | panic ch => exact ⟨s',hq,hR'⟩
 | outgrown => exact ⟨s',hq,hR'⟩
theorem qq {s : St} {m : List (Nat × OB)} {N : Nat × Nat} (h : (List.range N.2).all (fun o => (lk m o).isSome) = true) : ∀ o,o < N.2 → s.obj o ≠ none → lk m o ≠ none := by
 intro o ho _ e
 have := List.all_eq_true.1 h o (List.mem_range.2 ho)
 rw [e] at this
 cases this
def itOf : OB → Option Nat
 | .iter m _ _ _ => some m
 | _ => none
theorem noIter {m : List (Nat × OB)} {o : Nat} (h : m.all (fun p => match itOf p.2 with | some k => !(Nat.beq k o) | none => true) = true) : ∀ k m' u l cu,lk m k = some (.iter m' u l cu) → m' ≠ o := by
 intro k m' u l cu hk e
 have := List.all_eq_true.1 h _ (lk_some hk)
 subst e
 simp [itOf] at this
def gx {α : Type} (xs : List α) (i : Int) : Option α := cond (decide (0 ≤ i)) xs[i.toNat]? none
theorem qB {α : Type} {xs : List α} {i : Int} {x : α} (h : gx xs i = some x) : 0 ≤ i ∧ xs[i.toNat]? = some x := by
 unfold gx at h
 rcases cdS h with ⟨h1,h2⟩ | ⟨_,h2⟩
 ·exact ⟨of_decide_eq_true h1,h2⟩
 ·cases h2
def fits (n bs : Nat) : Option Unit := ck (decide (n * bs ≤ 140737488355328))
theorem qV {n bs : Nat} {u : Unit} (h : fits n bs = some u) : n * bs ≤ 140737488355328 := qU4 h
def cutB (lo hi : Int) (n : Nat) : Option Unit := ck (decide (0 ≤ lo ∧ lo ≤ hi ∧ hi ≤ n))
theorem qJ2 {lo hi : Int} {n : Nat} {u : Unit} (h : cutB lo hi n = some u) : 0 ≤ lo ∧ 0 ≤ hi ∧ lo.toNat ≤ hi.toNat ∧ hi.toNat ≤ n := by
 have := qU4 h
 omega
def qR1 {α : Type} (xs : List α) (lo hi : Int) : List α := (xs.take hi.toNat).drop lo.toNat
end
end Go.Val
namespace Go.Val
open Go.RowKit
variable [Drw]
section
variable {P : Program} {N : Nat × Nat} {ops : Array Oper} {i : Nat} {s : St} {d : Nat} {ty : TypeId} {pos : String} {af : Array Edge} {g : Option (Nat × Bool)} {gs : List Nat}
inductive FillB (s : St) : List (Nat × Operand) → List UInt8 → List UInt8 → Prop
 | nil {l : List UInt8} : FillB s [] l l
 | cons {k : Nat} {x : Operand} {n : Int} {ps : List (Nat × Operand)} {l r : List UInt8} (h : s.val x = some (.d (.v (.int .u8 n)))) (hn : 0 ≤ n ∧ n < 256) (hk : Nat.ble (k + 1) l.length = true) (hs : FillB s ps (l.set k (UInt8.ofNat n.toNat)) r) : FillB s ((k,x) :: ps) l r
theorem FillB.fill {s s' : St} {cx : Cx} {a : Act} {E : Env} (hR : R0 cx s' a E) : ∀ {ps : List (Nat × Operand)} {l r : List UInt8},FillB s ps l r → (∀ t ∈ partT ps,s'.slot t = s.slot t) →
  r.length = l.length ∧ Instr.fill (fun i => some (i * 1,1)) (l.map u8v).toArray (ps.map fun p => (p.1,a.eval p.2)) = some (r.map u8v).toArray
 | _,_,_,.nil,_ => ⟨rfl,rfl⟩
 | _,_,_,.cons (k := k) (x := x) (n := n) (l := l) h hn hk hs,ht => by
  have hv := (hR.val ((vAg (fun t h' => ht t (by simp [partT,h']))).trans h)).sc
  obtain ⟨h1,h2⟩ := FillB.fill hR hs (fun t h' => ht t (by simp only [partT,List.flatMap_cons,zL]; exact .inr h'))
  have hk' := Nat.le_of_ble_eq_true hk
  have hu : u8v (UInt8.ofNat n.toNat) = .int .u8 n := by
   have e : ((UInt8.ofNat n.toNat).toNat : Int) = n := by
    rw [UInt8.toNat_ofNat',Nat.mod_eq_of_lt (by omega)]
    omega
   simp only [u8v,e]
  have hc : l.map u8v = (l.map u8v).take k ++ (((l.map u8v).drop k).take 1 ++ (l.map u8v).drop (k + 1)) := by
   rw [← List.drop_drop,List.take_append_drop,List.take_append_drop]
  have hset : (l.set k (UInt8.ofNat n.toNat)).map u8v = (l.map u8v).take k ++ ([.int .u8 n] ++ (l.map u8v).drop (k + 1)) := by
   rw [← hu,List.map_set,List.set_eq_take_append_cons_drop,if_pos (by simp only [List.length_map]; omega)]
   simp
  refine ⟨by rw [h1]; simp,?_⟩
  rw [hc]
  simp only [List.map_cons,hv]
  rw [fill_one (off := k * 1) (sz := 1) (c := [.int .u8 n]) rfl rfl rfl (by simp; omega) (by simp; omega),← hset]
  exact h2
theorem o_bldB {T e n : Nat} {l r : List UInt8} {parts : List (Nat × Operand)} (ho : ops[i]? = some ⟨some d,.build T parts.toArray,ty,pos,af,g⟩) (hd : Nat.ble (d + 1) N.1 = true) (hg : G ops s g gs)
  (hZ : Zero P T (.bs n l)) (hT : arB P T = some (n,e)) (hS : szB P e = some 1) (hf : FillB s parts l r) :
  Valid P N ops i ⟨gs ++ partT parts,[],some (d,some (.d (.bs n r))),[]⟩ s :=
 vPu ho hd hg fun s' hs cx a E hR => by
  obtain ⟨cs,h1,h2⟩ := hZ E.I E.w
  cases h1 with
  | bs h1 =>
   obtain ⟨r1,r2⟩ := hf.fill hR hs
   refine ⟨.agg (r.map u8v).toArray,?_,_,.d (.bs (r1.trans h1)),rfl⟩
   simp only [execOp]
   rw [Sem.run_bind]
   unfold Instr.build
   simp only [Sem.run_bind,q55 h2,Result.andThen,run_underlying (qp5 hT),rSO hS,mkV,D.isAgg,if_true,Value.cells]
   have e1 : (Array.map (fun x => (x.1,a.eval x.2)) parts.toArray).toList = parts.map fun p => (p.1,a.eval p.2) := by simp
   rw [e1,r2]
   rfl
variable {T : TypeId} {x y : Operand} {k : IntKind}
def qR4 (k : IntKind) (a b : Int) : Int := k.wrap (BitVec.ofInt k.bits a &&& BitVec.ofInt k.bits b).toNat
theorem b_and (a b : Int) : ∀ w,(eqGuard .and T x y (.int k a) (.int k b) >>= fun _ => binOp .and T (.int k a) (.int k b) : Sem Value).run P w = .ok (.int k (qR4 k a b)) w := fun w => by simp [eqGuard,binOp,Op.intBits,Result.andThen,qR4]
end
theorem q93 {P : Program} {f : FuncId} {args : List AV} {x : D} {m : List (Nat × OB)} (h : FnOk P f args 0 (lk []) (fun rr oo => rr = .d x ∧ oo = lk m)) : FnOk P f args 0 (lk []) (fun rr oo => rr = .d x ∧ oo = lk []) := by
 intro hk E vals hE hok hargs
 refine (h hk E vals hE hok hargs).mono ?_
 rintro e w' ⟨v,res,E',h1,h2,⟨h3,h4⟩,h5,h6,h7,h8,h9,h10⟩
 subst h3
 let E2 : Env := { E' with obj := lk [] }
 have hI : ∀ b,E'.I b → E2.I b := fun b hb => ⟨hb.1,fun o ob (ho : none = some ob) => nomatch ho⟩
 refine ⟨v,.d x,E2,h1,h2,⟨rfl,rfl⟩,?_,⟨fun o ob (ho : none = some ob) => (nomatch ho),fun o o' b ho => absurd rfl ho⟩,fun o b ho => absurd rfl ho,h8,h9,fun o ob ho => by rw [hE] at ho; exact nomatch (show none = some ob from ho)⟩
 obtain ⟨cs,q1,q2⟩ := h5
 cases q1 with
 | d q1 => exact ⟨cs,.d (q1.mono (Nat.le_refl _) (fun b hb _ => ⟨hI b hb,rfl⟩)),q2⟩
end Go.Val
namespace Go.Val
open Go.RowKit
variable [Drw]
open Go.ChangeMaps (setBlock)
section
variable {P : Program} {N : Nat × Nat} {ops : Array Oper} {i : Nat} {s : St} {d : Nat} {ty : TypeId} {pos : String} {af : Array Edge} {g : Option (Nat × Bool)} {gs : List Nat}
end
end Go.Val
namespace Go.Val
open Go.RowKit
variable [Drw]
open Go.ChangeMaps (setBlock)
section
variable {F : Fence} {n : Nat} {P : Program} {ops : Array Oper} {Q : Exit → Act → World → Prop} {rest : List Nat} {i : Nat} {a : Act} {w w' : World} {o : Oper}
theorem in_round {l : Nat} {fn : FuncId} {tmps : Array Value} {assign body : Code} (ho : ops[i]? = some o) (hg : o.guard = none) (hd : ∀ c,o.op ≠ .defer c) (hF : ∀ f,F.fn f) (hdp : F.depth = none) (hrun : (execOp a.eval o).run P w = .ok (.round l fn tmps assign body) w')
  (hK : RoundIn F (n - 1) P l fn tmps assign body w' (fun e w'' => ∃ v,e = .returned v ∧ wpOpsIn F n P ops Q rest (a.put o.dst v) w'')) : wpOpsIn F n P ops Q (i :: rest) a w := by
 have hw : Region.wanted o (yielded ops a.tmps) = true := by unfold Region.wanted; rw [hg]
 simp only [wpOpsIn,ho,hw,if_true]
 refine ⟨fun f _ => hF f,?_⟩
 rw [Oper.semAt_eq _ _ _ hd,hrun,Oper.uponIn_round]
 refine ⟨fun h => (by rw [hdp] at h; cases h),hK.mono ?_⟩
 rintro e w'' ⟨v,rfl,h⟩
 exact h
end
structure Walked {α : Type} (enc : α → Value) (es : Array MapEntry) (seen : Array Nat) (ss : List α) (got lft : List MapEntry) : Prop where
 perm : (got ++ lft).Perm es.toList
 seen : seen.toList = got.map (·.born)
 keys : ss.map enc = got.map (·.key)
theorem Walked.mem {α : Type} {enc : α → Value} {es : Array MapEntry} {seen : Array Nat} {ss : List α} {got lft : List MapEntry} (h : Walked enc es seen ss got lft) (hnd : (es.toList.map (·.born)).Nodup) (e : MapEntry) : e ∈ (leftOf es seen).toList ↔ e ∈ lft := by
 have hnd' : ((got ++ lft).map (·.born)).Nodup := (h.perm.map _).nodup_iff.2 hnd
 rw [List.map_append,List.nodup_append] at hnd'
 simp only [leftOf,Array.toList_filter,List.mem_filter,Bool.not_eq_eq_eq_not,Bool.not_true]
 have hs : ∀ b,seen.contains b = true ↔ b ∈ got.map (·.born) := fun b => by rw [Array.contains_iff_mem,← h.seen]; simp
 constructor
 ·rintro ⟨h1,h2⟩
  rcases zL.1 (h.perm.mem_iff.2 h1) with h3 | h3
  ·have := (hs e.born).2 (List.mem_map.2 ⟨e,h3,rfl⟩)
   rw [h2] at this; cases this
  ·exact h3
 ·intro h1
  refine ⟨h.perm.mem_iff.1 (zL.2 (.inr h1)),?_⟩
  rw [Bool.eq_false_iff]
  intro h2
  exact hnd'.2.2 e.born ((hs e.born).1 h2) e.born (List.mem_map.2 ⟨e,h1,rfl⟩) rfl
theorem Walked.step {α : Type} {enc : α → Value} {es : Array MapEntry} {seen : Array Nat} {ss : List α} {got l1 l2 : List MapEntry} {e : MapEntry} {x : α} (h : Walked enc es seen ss got (l1 ++ e :: l2)) (hx : enc x = e.key) : Walked enc es (seen.push e.born) (ss ++ [x]) (got ++ [e]) (l1 ++ l2) := by
 refine ⟨?_,by simp [h.seen],by simp [h.keys,hx]⟩
 refine List.Perm.trans ?_ h.perm
 rw [zI]
 refine List.Perm.append_left got ?_
 simpa using (List.perm_middle (a := e) (l₁ := l1) (l₂ := l2)).symm
end Go.Val
namespace Go.Val
open Go.RowKit
variable [Drw]
structure Chg (W W' : World) (S : Nat → Prop) : Prop where
 os : W'.os = W.os
 tape : W'.tape = W.tape
 output : W'.output = W.output
 size : W.heap.size ≤ W'.heap.size
 block : ∀ k,k < W.heap.size → ¬ S k → W'.heap[k]? = W.heap[k]?
theorem Chg.refl (W : World) (S : Nat → Prop) : Chg W W S := ⟨rfl,rfl,rfl,Nat.le_refl _,fun _ _ _ => rfl⟩
theorem Chg.trans {A B C : World} {S T : Nat → Prop} (h : Chg A B S) (k : Chg B C T) (hT : ∀ j,j < A.heap.size → T j → S j) : Chg A C S :=
 ⟨k.os.trans h.os,k.tape.trans h.tape,k.output.trans h.output,Nat.le_trans h.size k.size,fun j hj hs => (k.block j (Nat.lt_of_lt_of_le hj h.size) (fun ht => hs (hT j hj ht))).trans (h.block j hj hs)⟩
theorem Chg.alloc (W : World) (o : Obj) (S : Nat → Prop) : Chg W (W.alloc o) S := ⟨rfl,rfl,rfl,by simp,fun k hk _ => Below.heap_alloc _ _ _ hk⟩
theorem Chg.setRow (W : World) (b : Nat) (cs : Array Value) (S : Nat → Prop) (hb : b < W.heap.size → S b) : Chg W (W.setRow b cs) S :=
 ⟨rfl,rfl,rfl,by simp,fun k hk hs => setRow_other _ _ _ _ (fun e => hs (by subst e; exact hb hk))⟩
theorem Chg.putObj (W : World) (l : Nat) (o : Obj) (S : Nat → Prop) (hl : l < W.heap.size → S l) : Chg W (W.putObj l o) S :=
 ⟨rfl,rfl,rfl,by simp,fun k hk hs => World.putObj_heap_other (fun e => hs (by subst e; exact hl hk))⟩
def blkOf : Value → Option Nat
 | .slice (some ⟨g,_,_⟩) _ _ => some g
 | _ => none
def RowAt (base k : Nat) (e : TypeId) (v : Value) (cs : List Value) (m : Nat) (W : World) : Prop :=
 (v = .slice none 0 0 ∧ m = 0 ∧ cs = []) ∨ ∃ g cap sp,v = .slice (some ⟨g,0,none⟩) m cap ∧ base ≤ g ∧ W.heap[g]? = some (.cells (cs ++ sp).toArray e (0,0)) ∧ cs.length = m * k ∧ (cs ++ sp).length = cap * k ∧ m ≤ cap
theorem RowAt.kept {base k m : Nat} {e : TypeId} {v : Value} {cs : List Value} {W W' : World} (h : RowAt base k e v cs m W) (hs : ∀ g,blkOf v = some g → W'.heap[g]? = W.heap[g]?) : RowAt base k e v cs m W' := by
 rcases h with h | ⟨g,cap,sp,rfl,h1,h2,h3⟩
 ·exact .inl h
 ·exact .inr ⟨g,cap,sp,rfl,h1,(hs g rfl).trans h2,h3⟩
theorem RowAt.lt {base k m : Nat} {e : TypeId} {v : Value} {cs : List Value} {W : World} (h : RowAt base k e v cs m W) {g : Nat} (hg : blkOf v = some g) : base ≤ g ∧ g < W.heap.size := by
 rcases h with ⟨rfl,_⟩ | ⟨g',cap,sp,rfl,h1,h2,h3⟩
 ·cases hg
 ·cases hg; exact ⟨h1,(Array.getElem?_eq_some_iff.1 h2).1⟩
structure ApAt {α : Type} (enc : α → List Value) (k : Nat) (kt bt : TypeId) (w0 : World) (Bs l D : Nat) (rec : Loop) (pre : List α) (W : World) : Prop where
 box : ∃ v,W.heap[Bs]? = some (.cells #[v] bt (0,0)) ∧ one v = true ∧ RowAt w0.heap.size k kt v (pre.flatMap enc) pre.length W ∧ blkOf v ≠ some Bs
 L : W.heap[l]? = some (.loop rec)
 K : W.heap[D]? = some (.deferred (some []))
 below : Below w0.heap.size w0 W
theorem RowAt.ne {base k m : Nat} {e : TypeId} {v : Value} {cs : List Value} {W : World} (h : RowAt base k e v cs m W) {j : Nat} {o : Obj} (hj : W.heap[j]? = some o) (ho : o.isCells = false) : blkOf v ≠ some j := by
 rcases h with ⟨rfl,_⟩ | ⟨g',cap,sp,rfl,h1,h2,h3⟩
 ·simp [blkOf]
 ·intro e'
  cases e'
  rw [h2] at hj; cases hj; cases ho
theorem RowAt.isCells {base k m : Nat} {e : TypeId} {v : Value} {cs : List Value} {W : World} (h : RowAt base k e v cs m W) {g : Nat} (hg : blkOf v = some g) : ∃ o,W.heap[g]? = some o ∧ o.isWalk = false := by
 rcases h with ⟨rfl,_⟩ | ⟨g',cap,sp,rfl,h1,h2,h3⟩
 ·cases hg
 ·cases hg; exact ⟨_,h2,rfl⟩
theorem Chg.below {W W' : World} {S : Nat → Prop} (h : Chg W W' S) {w0 : World} (hb : Below w0.heap.size w0 W) (hS : ∀ j,S j → w0.heap.size ≤ j) : Below w0.heap.size w0 W' := by
 refine ⟨h.os.trans hb.os,h.tape.trans hb.tape,h.output.trans hb.output,Nat.le_trans hb.size h.size,fun j hj => ?_⟩
 exact (h.block j (Nat.lt_of_lt_of_le hj hb.size) (fun hs => by have := hS j hs; omega)).trans (hb.block j hj)
end Go.Val
namespace Go.Val
open Go.RowKit
variable [Drw]
def bytesD (l : List UInt8) : D := .sl 1 (l.map fun b => .v (u8v b))
theorem run_loadBytes {P : Program} {w : World} {b : Nat} : ∀ (l : List UInt8) (off : Nat) (acc : List UInt8),CellsAt w b off (l.map u8v) → (Extern.Bytes.loadBytes ⟨b,off,none⟩ l.length ⟨acc.toArray⟩).run P w = .ok ⟨(acc ++ l).toArray⟩ w
 | [],off,acc,_ => by simp [Extern.Bytes.loadBytes,Sem.run_pure]
 | x :: l,off,acc,h => by
  have hc := h 0 (u8v x) (by simp)
  have hl : (load ⟨b,off,none⟩).run P w = .ok (u8v x) w := by
   rw [Nat.add_zero] at hc
   rw [run_load,hc]
  have ht : CellsAt w b (off + 1) (l.map u8v) := fun i v hi => by
   have := h (i + 1) v (by simpa using hi)
   rw [show off + 1 + i = off + (i + 1) from by omega]
   exact this
  have ih := run_loadBytes (P := P) l (off + 1) (acc ++ [x]) ht
  simp only [zG,Extern.Bytes.loadBytes,Sem.run_bind,hl,Result.andThen,u8v]
  have e1 : (⟨b,off,none⟩ : Addr).add 1 = ⟨b,off + 1,none⟩ := rfl
  have e2 : (ByteArray.mk acc.toArray).push (Int.toNat (x.toNat : Int)).toUInt8 = ByteArray.mk (acc ++ [x]).toArray := by
   simp [ByteArray.push,Nat.toUInt8]
  rw [e1,e2,ih]
  simp
theorem drs_bytes_eq {I : Nat → Prop} {w : World} : ∀ {l : List UInt8} {cs : List Value},DRs I w (l.map fun b => D.v (u8v b)) cs → cs = l.map u8v
 | [],_,.nil => rfl
 | _ :: _,_,.cons (.v _) hs => by rw [drs_bytes_eq hs]; rfl
theorem run_bytesOf {P : Program} {I : Nat → Prop} {w : World} {l : List UInt8} {cs : List Value} (h : DR I w (bytesD l) cs) : (Extern.Bytes.bytesOf (mkV false cs)).run P w = .ok ⟨l.toArray⟩ w := by
 unfold bytesD at h
 generalize hr : l.map (fun b => D.v (u8v b)) = rows at h
 cases h with
 | sl0 =>
  have : l = [] := by simpa using hr
  subst this
  rename_i a cap
  cases a with
  | none => rfl
  | some a => rfl
 | sl hI hb h1 hs hc hcap =>
  subst hr
  have hcs := drs_bytes_eq h1
  subst hcs
  have := run_loadBytes (P := P) l _ [] hc
  rw [List.nil_append] at this
  show (Extern.Bytes.loadBytes _ (l.map fun b => D.v (u8v b)).length (ByteArray.mk #[])).run P w = _
  rw [List.length_map]
  exact this
section
variable {P : Program} {N : Nat × Nat} {ops : Array Oper} {i : Nat} {s : St} {d : Nat} {ty : TypeId} {pos : String} {af : Array Edge} {g : Option (Nat × Bool)} {gs : List Nat}
theorem o_bcmp {f : FuncId} {x y : Operand} {ats : Array TypeId} {a b : List UInt8} (ho : ops[i]? = some ⟨some d,.call ⟨.value (.func f),#[x,y],ats⟩,ty,pos,af,g⟩) (hd : Nat.ble (d + 1) N.1 = true) (hg : G ops s g gs)
  (hcf : ∀ args w v,(Extern.BytealgCompare.compare args).run P w = .ok v w → (callFunc f args).run P w = .ok (.value v) w)
  (hx : s.val x = some (.d (bytesD a))) (hy : s.val y = some (.d (bytesD b))) :
  Valid P N ops i ⟨gs ++ (opT x ++ opT y),[],some (d,some (.d (.v (.int .i64 (Lib.compareBytes a b))))),[]⟩ s :=
 vPu ho hd hg fun s' hs cx ac E hR => by
  obtain ⟨h1,h2⟩ := qt0 hs
  obtain ⟨c1,k1,e1⟩ := hR.val ((vAg h1).trans hx)
  obtain ⟨c2,k2,e2⟩ := hR.val ((vAg h2).trans hy)
  cases k1 with
  | d k1 => cases k2 with
   | d k2 =>
    have r1 := run_bytesOf (P := P) k1
    have r2 := run_bytesOf (P := P) k2
    have hc : (Extern.BytealgCompare.compare #[ac.eval x,ac.eval y]).run P E.w = .ok (.int .i64 (Lib.compareBytes a b)) E.w := by
     change Sem.run P (do pure (goInt (Extern.BytealgCompare.cmp (← Extern.Bytes.bytesOf (ac.eval x)) (← Extern.Bytes.bytesOf (ac.eval y))))) E.w = _
     rw [e1,e2]
     have r1' : (Extern.Bytes.bytesOf (mkV (AV.d (bytesD a)).isAgg c1)).run P E.w = .ok ⟨a.toArray⟩ E.w := r1
     have r2' : (Extern.Bytes.bytesOf (mkV (AV.d (bytesD b)).isAgg c2)).run P E.w = .ok ⟨b.toArray⟩ E.w := r2
     simp only [Sem.run_bind,r1',r2',Sem.run_pure,Result.andThen]
     rw [Lib.cmp_eq]
     rfl
    refine ⟨.int .i64 (Lib.compareBytes a b),?_,.of_sc rfl⟩
    have := hcf _ _ _ hc
    have ef : ac.eval (.func f) = .func (.func f) #[] #[] := rfl
    simp only [execOp,resolve,ef,Deferred.ofValue,Sem.run_bind,Sem.run_pure,Result.andThen,invoke,List.map_toArray,List.map_cons,List.map_nil]
    simpa using this
end
theorem callFunc_ext {P : Program} {f : FuncId} {fn : Func} {e : Array Value → Sem Value} (hf : P.funcs[f]? = some fn) (h1 : (fn.name == "runtime.NumGoroutine") = false) (h2 : fn.body.isNone = true) (h3 : Extern.findNext fn = none) (h4 : Extern.find fn = some e) :
  ∀ args w v,(e args).run P w = .ok v w → (callFunc f args).run P w = .ok (.value v) w := by
 intro args w v h
 simp only [callFunc,Sem.run_bind,run_program,Result.andThen,hf,h1,h2,h3,h4,Bool.false_eq_true,if_false,if_true]
 simp [h,Result.andThen]
section
variable {P : Program} {N : Nat × Nat} {ops : Array Oper} {i : Nat} {s : St} {d : Nat} {ty : TypeId} {pos : String} {af : Array Edge} {g : Option (Nat × Bool)} {gs : List Nat}
theorem o_fn1 {f : FuncId} {x : Operand} {y : AV} (ho : ops[i]? = some ⟨some d,.makeFunc (.func f) #[] #[x],ty,pos,af,g⟩) (hd : Nat.ble (d + 1) N.1 = true) (hg : G ops s g gs) (hx : s.val x = some y) :
  Valid P N ops i ⟨gs ++ opT x,[],some (d,some (.fn f [] [y])),[]⟩ s :=
 vPu ho hd hg fun s' hs cx a E hR => by
  obtain ⟨c,h1,h2⟩ := hR.val ((vAg hs).trans hx)
  refine ⟨.func (.func f) #[] #[a.eval x],?_,_,.fn (xs := []) (ys := [a.eval x]) .nil (by rw [h2]; exact .cons h1 .nil),rfl⟩
  simp [execOp,Instr.makeFunc]
end
end Go.Val
