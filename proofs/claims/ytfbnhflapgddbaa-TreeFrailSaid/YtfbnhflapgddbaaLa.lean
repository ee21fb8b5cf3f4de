/- Merged texts: Va Vb Vc Vd Ve Vf Vg Vh Vi Vj Vk Vl. -/
import Derived.Orders
import Derived.Below
import Derived.WalkKit
import Derived.Laws.Strings
import Derived.Deep.AppendSrc
import Derived.Laws.IdiomStrings
import Derived.Laws.CopyRow
import Derived.WideKeyRuns
set_option linter.all false
namespace Go.Val
theorem tV : True := trivial
theorem zA.{u,v} {α : Type u} {β : Type v} (a : α) (f : α → Option β) : (some a).bind f = f a := rfl
theorem zB (h : Decidable False) : @decide False h = false := decide_false h
theorem zC (h : Decidable True) : @decide True h = true := decide_true h
theorem zD.{u} {α : Sort u} (a b : α) : cond false a b = b := rfl
theorem zE.{u} {α : Sort u} (a b : α) : cond true a b = a := rfl
theorem zF.{u} {α : Type u} {as bs : List α} : (as ++ bs).length = as.length + bs.length := List.length_append
theorem zG.{u} {α : Type u} {a : α} {as : List α} : (a :: as).length = as.length + 1 := rfl
theorem zH.{u} {α : Type u} : ([] : List α).length = 0 := rfl
theorem zI.{u} {α : Type u} (as bs cs : List α) : as ++ bs ++ cs = as ++ (bs ++ cs) := List.append_assoc as bs cs
theorem zJ.{u} {α : Type u} (as : List α) : as ++ [] = as := List.append_nil as
theorem zL.{u} {α : Type u} {a : α} {s t : List α} : a ∈ s ++ t ↔ a ∈ s ∨ a ∈ t := List.mem_append
theorem zM.{u} {α : Type u} {b : α} {l : List α} {a : α} : a ∈ b :: l ↔ a = b ∨ a ∈ l := List.mem_cons
theorem zN.{u,v,w} {α : Type u} {γ : Sort v} {β : Type w} (f : α → γ) (g : β → γ) (x : α) : Sum.elim f g (Sum.inl x) = f x := rfl
theorem zO.{u,v,w} {α : Type u} {γ : Sort v} {β : Type w} (f : α → γ) (g : β → γ) (x : β) : Sum.elim f g (Sum.inr x) = g x := rfl
theorem zP : (¬True) = False := not_true_eq_false
theorem zQ.{u} {α : Type u} {a b : α} (h : some a = some b) : a = b := Option.some.inj h
open Go.RowKit
inductive D where
 | v (x : Value)
 | bs (n : Nat) (l : List UInt8)
 | st (ps : List D)
 | sl (es : Nat) (rows : List D)
 | at (x : D)
 | mp (ks xs : List D)
 deriving Inhabited
def u8v (b : UInt8) : Value := .int .u8 b.toNat
mutual
def D.size : D → Nat
 | .v _ => 1
 | .bs n _ => n
 | .st ps => D.sizes ps
 | .sl _ _ => 1
 | .at _ => 1
 | .mp _ _ => 1
def D.sizes : List D → Nat
 | [] => 0
 | d :: ds => d.size + D.sizes ds
end
def D.isAgg : D → Bool
 | .st _ | .bs _ _ => true
 | _ => false
def one : Value → Bool
 | .agg _ | .tuple _ => false
 | _ => true
def CellsAt (w : World) (b off : Nat) (cs : List Value) : Prop := ∀ i v,cs[i]? = some v → w.cell? ⟨b,off + i,none⟩ = some v
def mkV (agg : Bool) (cs : List Value) : Value := if agg then .agg cs.toArray else cs.headD (.tuple #[])
def zipV (ds : List D) (css : List (List Value)) : List Value := List.zipWith (fun d c => mkV d.isAgg c) ds css
mutual
inductive DR (I : Nat → Prop) (w : World) : D → List Value → Prop
 | v {x : Value} (h : one x = true) : DR I w (.v x) [x]
 | bs {n : Nat} {l : List UInt8} (h : l.length = n) : DR I w (.bs n l) (l.map u8v)
 | st {ps : List D} {cs : List Value} (h : DRs I w ps cs) : DR I w (.st ps) cs
 | sl0 {es : Nat} {a : Option Addr} {cap : Nat} : DR I w (.sl es []) [.slice a 0 cap]
 | sl {es : Nat} {rows : List D} {b off cap : Nat} {cs : List Value} (hI : I b) (hb : b < w.heap.size) (hr : DRs I w rows cs)
   (hs : ∀ r ∈ rows,r.size = es) (hc : CellsAt w b off cs) (hcap : rows.length ≤ cap) : DR I w (.sl es rows) [.slice (some ⟨b,off,none⟩) rows.length cap]
 | at {x : D} {b off : Nat} {cs : List Value} (hI : I b) (hb : b < w.heap.size) (hr : DR I w x cs) (hc : CellsAt w b off cs) : DR I w (.at x) [.pointer (some ⟨b,off,none⟩)]
 | mp {ks xs : List D} {kcs xcs : List (List Value)} {b clock : Nat} {ents : Array MapEntry} (hI : I b) (hb : w.heap[b]? = some (.map ents clock)) (hk : DRl I w ks kcs) (hx : DRl I w xs xcs)
   (ek : ents.toList.map (·.key) = zipV ks kcs) (ex : ents.toList.map (·.val) = zipV xs xcs) (hl : ents.size = ks.length ∧ ents.size = xs.length) (hn : (ents.toList.map (·.born)).Nodup) (ht : ∀ e ∈ ents.toList,e.born < clock) : DR I w (.mp ks xs) [.map (some b)]
inductive DRs (I : Nat → Prop) (w : World) : List D → List Value → Prop
 | nil : DRs I w [] []
 | cons {d : D} {ds : List D} {cs cs' : List Value} (h : DR I w d cs) (hs : DRs I w ds cs') : DRs I w (d :: ds) (cs ++ cs')
inductive DRl (I : Nat → Prop) (w : World) : List D → List (List Value) → Prop
 | nil : DRl I w [] []
 | cons {d : D} {ds : List D} {cs : List Value} {css : List (List Value)} (h : DR I w d cs) (hs : DRl I w ds css) : DRl I w (d :: ds) (cs :: css)
end
theorem qo4 {w w' : World} {b off : Nat} {cs : List Value} (h : w'.heap[b]? = w.heap[b]?) (hc : CellsAt w b off cs) : CellsAt w' b off cs := by
 intro i v hi
 have := hc i v hi
 rw [← this]
 exact World.cell?_of_block (w := w) h
mutual
theorem DR.mono {I I' : Nat → Prop} {w w' : World} (hz : w.heap.size ≤ w'.heap.size) (hI : ∀ b,I b → b < w.heap.size → I' b ∧ w'.heap[b]? = w.heap[b]?) :
  ∀ {d : D} {cs : List Value},DR I w d cs → DR I' w' d cs
 | _,_,.v h => .v h
 | _,_,.bs h => .bs h
 | _,_,.st h => .st (DRs.mono hz hI h)
 | _,_,.sl0 => .sl0
 | _,_,.sl h1 h2 h3 h4 h5 h6 => .sl (hI _ h1 h2).1 (by omega) (DRs.mono hz hI h3) h4 (qo4 (hI _ h1 h2).2 h5) h6
 | _,_,.at h1 h2 h3 h4 => .at (hI _ h1 h2).1 (by omega) (DR.mono hz hI h3) (qo4 (hI _ h1 h2).2 h4)
 | _,_,.mp h1 h2 h3 h4 h5 h6 h7 h8 h9 =>
  have hlt := (Array.getElem?_eq_some_iff.1 h2).1
  .mp (hI _ h1 hlt).1 ((hI _ h1 hlt).2.trans h2) (DRl.mono hz hI h3) (DRl.mono hz hI h4) h5 h6 h7 h8 h9
theorem DRs.mono {I I' : Nat → Prop} {w w' : World} (hz : w.heap.size ≤ w'.heap.size) (hI : ∀ b,I b → b < w.heap.size → I' b ∧ w'.heap[b]? = w.heap[b]?) :
  ∀ {ds : List D} {cs : List Value},DRs I w ds cs → DRs I' w' ds cs
 | _,_,.nil => .nil
 | _,_,.cons h hs => .cons (DR.mono hz hI h) (DRs.mono hz hI hs)
theorem DRl.mono {I I' : Nat → Prop} {w w' : World} (hz : w.heap.size ≤ w'.heap.size) (hI : ∀ b,I b → b < w.heap.size → I' b ∧ w'.heap[b]? = w.heap[b]?) :
  ∀ {ds : List D} {css : List (List Value)},DRl I w ds css → DRl I' w' ds css
 | _,_,.nil => .nil
 | _,_,.cons h hs => .cons (DR.mono hz hI h) (DRl.mono hz hI hs)
end
mutual
theorem DR.len {I : Nat → Prop} {w : World} : ∀ {d : D} {cs : List Value},DR I w d cs → cs.length = d.size
 | _,_,.v _ => rfl
 | _,_,.bs h => by simp [D.size,h]
 | _,_,.st h => by simp only [D.size]; exact DRs.len h
 | _,_,.sl0 => rfl
 | _,_,.sl .. => rfl
 | _,_,.at .. => rfl
 | _,_,.mp .. => rfl
theorem DRs.len {I : Nat → Prop} {w : World} : ∀ {ds : List D} {cs : List Value},DRs I w ds cs → cs.length = D.sizes ds
 | _,_,.nil => rfl
 | _,_,.cons h hs => by simp [D.sizes,DR.len h,DRs.len hs]
end
mutual
theorem DR.ones {I : Nat → Prop} {w : World} : ∀ {d : D} {cs : List Value},DR I w d cs → ∀ v ∈ cs,one v = true
 | _,_,.v h => by simpa using h
 | _,_,.bs h => by intro v hv; simp at hv; obtain ⟨a,_,rfl⟩ := hv; rfl
 | _,_,.st h => DRs.ones h
 | _,_,.sl0 => by simp [one]
 | _,_,.sl .. => by simp [one]
 | _,_,.at .. => by simp [one]
 | _,_,.mp .. => by simp [one]
theorem DRs.ones {I : Nat → Prop} {w : World} : ∀ {ds : List D} {cs : List Value},DRs I w ds cs → ∀ v ∈ cs,one v = true
 | _,_,.nil => by simp
 | _,_,.cons h hs => by
  intro v hv
  rcases zL.1 hv with h1 | h1
  ·exact DR.ones h v h1
  ·exact DRs.ones hs v h1
end
theorem DR.mkV_cells {I : Nat → Prop} {w : World} {d : D} {cs : List Value} (h : DR I w d cs) : (mkV d.isAgg cs).cells = cs.toArray := by
 cases h with
 | v h1 => rename_i x; cases x <;> first | rfl | (simp [one] at h1)
 | bs h1 => rfl
 | st h1 => rfl
 | sl0 => rfl
 | sl => rfl
 | «at» => rfl
 | mp => rfl
theorem DRs.append {I : Nat → Prop} {w : World} : ∀ {a b : List D} {cs cs' : List Value},DRs I w a cs → DRs I w b cs' → DRs I w (a ++ b) (cs ++ cs')
 | _,_,_,_,.nil,h => h
 | _,_,_,_,.cons h hs,k => by rw [List.cons_append,zI]; exact .cons h (DRs.append hs k)
theorem DRs.split {I : Nat → Prop} {w : World} : ∀ (a : List D) {b : List D} {cs : List Value},DRs I w (a ++ b) cs →
  ∃ c1 c2,cs = c1 ++ c2 ∧ DRs I w a c1 ∧ DRs I w b c2
 | [],_,cs,h => ⟨[],cs,rfl,.nil,h⟩
 | d :: a,_,_,h => by
  cases h with
  | cons h1 h2 =>
   obtain ⟨c1,c2,rfl,k1,k2⟩ := DRs.split a h2
   exact ⟨_,c2,by rw [zI],.cons h1 k1,k2⟩
theorem DRs.single {I : Nat → Prop} {w : World} {d : D} {cs : List Value} (h : DR I w d cs) : DRs I w [d] cs := by
 have := DRs.cons h .nil
 simpa using this
theorem qA0 {es : Nat} : ∀ {rows : List D},(∀ r ∈ rows,r.size = es) → D.sizes rows = rows.length * es
 | [],_ => by simp [D.sizes]
 | r :: rows,h => by
  simp only [D.sizes,zG]
  rw [qA0 (rows := rows) (fun x hx => h x (by simp [hx])),h r (by simp),Nat.succ_mul,Nat.add_comm]
theorem DRs.row {I : Nat → Prop} {w : World} {es : Nat} {rows : List D} {cs : List Value} (h : DRs I w rows cs) (hs : ∀ r ∈ rows,r.size = es) {i : Nat} {r : D} (hi : rows[i]? = some r) :
  ∃ c,DR I w r c ∧ c.length = es ∧ ∀ j v,c[j]? = some v → cs[i * es + j]? = some v := by
 have hlt : i < rows.length := (List.getElem?_eq_some_iff.1 hi).1
 have hr : rows[i] = r := (List.getElem?_eq_some_iff.1 hi).2
 have hcut : rows = rows.take i ++ (r :: rows.drop (i + 1)) := by
  rw [← hr,List.getElem_cons_drop,List.take_append_drop]
 rw [hcut] at h
 obtain ⟨c1,c2,rfl,k1,k2⟩ := DRs.split _ h
 cases k2 with
 | cons h1 h2 =>
  rename_i c c'
  have l1 : c1.length = i * es := by
   rw [DRs.len k1,qA0 (fun x hx => hs x (List.mem_of_mem_take hx)),List.length_take,Nat.min_eq_left (Nat.le_of_lt hlt)]
  have l2 : c.length = es := by rw [DR.len h1]; exact hs r (by rw [hcut]; simp)
  refine ⟨c,h1,l2,fun j v hj => ?_⟩
  have hjl : j < c.length := (List.getElem?_eq_some_iff.1 hj).1
  rw [List.getElem?_append_right (by omega),l1,show i * es + j - i * es = j from by omega,List.getElem?_append_left hjl]
  exact hj
theorem CellsAt.left {w : World} {b off : Nat} {c1 c2 : List Value} (h : CellsAt w b off (c1 ++ c2)) : CellsAt w b off c1 := by
 intro i v hi
 exact h i v (by rw [List.getElem?_append_left (List.getElem?_eq_some_iff.1 hi).1]; exact hi)
theorem CellsAt.right {w : World} {b off : Nat} {c1 c2 : List Value} (h : CellsAt w b off (c1 ++ c2)) : CellsAt w b (off + c1.length) c2 := by
 intro i v hi
 have := h (c1.length + i) v (by rw [List.getElem?_append_right (by omega)]; simpa using hi)
 rwa [← Nat.add_assoc] at this
end Go.Val
namespace Go.Val
open Go.RowKit
inductive AV where
 | d (x : D)
 | ptr (o n : Nat)
 | arr (o ver : Nat)
 | pel (o ver k n : Nat)
 | asl (o ver k : Nat)
 | osl (o ver off len : Nat)
 | csl (o ver k len : Nat)
 | map (o : Nat)
 | it (o : Nat)
 | bsl (o n len cap : Nat)
 | st (ps : List AV)
 | tup (vs : List AV)
 | fn (f : Nat) (first caps : List AV)
 | ifc (t : Nat) (x : AV)
 | sx (es : Nat) (rows : List D)
 deriving Inhabited
def AV.isAgg : AV → Bool
 | .d x => x.isAgg
 | .st _ => true
 | _ => false
mutual
def AV.size : AV → Nat
 | .d x => x.size
 | .st ps => AV.sizes ps
 | _ => 1
def AV.sizes : List AV → Nat
 | [] => 0
 | x :: xs => x.size + AV.sizes xs
end
inductive OD where
 | av (x : AV)
 | st (ps : List OD)
 | map (es : List (D × D))
 | arr (es : Nat) (rows : List D)
 | box (x : OD)
 deriving Inhabited
inductive OB where
 | box (x : AV)
 | arr (ver es : Nat) (rows : List D)
 | map (ver : Nat) (es : List (D × D))
 | iter (m ver : Nat) (left : List (D × D)) (cur : Option (D × D))
 | own (x : OD)
 deriving Inhabited
def OB.isOwn : OB → Bool
 | .own _ => true
 | _ => false
def OB.isB : OB → Bool
 | .own _ | .box _ => true
 | _ => false
structure Env where
 obj : Nat → Option OB
 β : Nat → Option Nat
 γ : Nat → Nat
 δ : Nat → List Nat
 φ : Nat → List Nat
 J : Nat → Prop
 w : World
def Env.has (E : Env) (o b : Nat) : Prop := E.β o = some b ∨ (b ∈ E.φ o ∧ ∃ x,E.obj o = some (.own x))
theorem Env.has_of {E : Env} {o b : Nat} {ob : OB} (ho : E.obj o = some ob) (hn : ob.isOwn = false) (h : E.has o b) : E.β o = some b := by
 rcases h with h | ⟨_,x,h⟩
 ·exact h
 ·rw [ho] at h; cases h; cases hn
def Env.I (E : Env) (b : Nat) : Prop := E.J b ∧ ∀ o ob,E.obj o = some ob → ¬ E.has o b
def q66 (b : Option Nat) (n cap : Nat) : Value := match b with
 | none => .slice none 0 0
 | some b => .slice (some ⟨b,0,none⟩) n cap
mutual
inductive CR (E : Env) : AV → List Value → Prop
 | d {x : D} {cs : List Value} (h : DR E.I E.w x cs) : CR E (.d x) cs
 | ptr {o n b : Nat} {x : OB} (ho : E.obj o = some x) (hk : x.isB = true) (hb : E.β o = some b) : CR E (.ptr o n) [.pointer (some ⟨b,n,none⟩)]
 | arr {o ver cur es : Nat} {rows : List D} {v : Value} (ho : E.obj o = some (.arr cur es rows)) (hl : ver ≤ cur)
   (hv : ver = cur → v = q66 (E.β o) rows.length (E.γ o)) (h1 : one v = true) : CR E (.arr o ver) [v]
 | pel {o ver cur es k n : Nat} {rows : List D} {v : Value} (ho : E.obj o = some (.arr cur es rows)) (hl : ver ≤ cur)
   (hv : ver = cur → ∃ b,E.β o = some b ∧ v = .pointer (some ⟨b,k * es + n,none⟩)) (h1 : one v = true) : CR E (.pel o ver k n) [v]
 | asl {o ver cur es k : Nat} {rows : List D} {v : Value} (ho : E.obj o = some (.arr cur es rows)) (hl : ver ≤ cur)
   (hv : ver = cur → (∃ a c,v = .slice a 0 c ∧ rows.length ≤ k) ∨ ∃ b c,E.β o = some b ∧ v = .slice (some ⟨b,k * es,none⟩) (rows.length - k) c ∧ k < rows.length) (h1 : one v = true) : CR E (.asl o ver k) [v]
 | osl {o ver cur es off len : Nat} {rows : List D} {v : Value} (ho : E.obj o = some (.arr cur es rows)) (hl : ver ≤ cur)
   (hv : ver = cur → (∃ a c,v = .slice a 0 c ∧ len = 0) ∨ ∃ b c,E.β o = some b ∧ v = .slice (some ⟨b,off,none⟩) len c ∧ len ≤ c) (h1 : one v = true) : CR E (.osl o ver off len) [v]
 | csl {o ver cur es k len : Nat} {rows : List D} {v : Value} (ho : E.obj o = some (.arr cur es rows)) (hl : ver ≤ cur)
   (hv : ver = cur → k + len ≤ E.γ o ∧ ((E.β o = none ∧ v = .slice none 0 0) ∨ ∃ b off,E.β o = some b ∧ v = .slice (some ⟨b,off,none⟩) len (E.γ o - k) ∧ (k < E.γ o ∨ k = 0 → off = k * es))) (h1 : one v = true) : CR E (.csl o ver k len) [v]
 | map {o ver b : Nat} {es : List (D × D)} (ho : E.obj o = some (.map ver es)) (hb : E.β o = some b) : CR E (.map o) [.map (some b)]
 | it {o m ver b : Nat} {l : List (D × D)} {cu : Option (D × D)} (ho : E.obj o = some (.iter m ver l cu)) (hb : E.β o = some b) : CR E (.it o) [.pointer (some ⟨b,0,none⟩)]
 | bsl {o n len cap b : Nat} {x : OB} (ho : E.obj o = some x) (hk : x.isB = true) (hb : E.β o = some b) : CR E (.bsl o n len cap) [.slice (some ⟨b,n,none⟩) len cap]
 | st {ps : List AV} {cs : List Value} (h : CRs E ps cs) : CR E (.st ps) cs
 | tup {vs : List AV} {xs : List Value} (h : VRs E vs xs) : CR E (.tup vs) [.tuple xs.toArray]
 | fn {f : Nat} {first caps : List AV} {xs ys : List Value} (h : VRs E first xs) (k : VRs E caps ys) : CR E (.fn f first caps) [.func (.func f) xs.toArray ys.toArray]
 | ifc {t : Nat} {x : AV} {cs : List Value} (h : CR E x cs) : CR E (.ifc t x) [.iface t (mkV x.isAgg cs)]
 | sx {es b off : Nat} {rows : List D} {cs : List Value} (hI : E.I b) (hb : b < E.w.heap.size) (hr : DRs E.I E.w rows cs) (hs : ∀ r ∈ rows,r.size = es) (hc : CellsAt E.w b off cs) : CR E (.sx es rows) [.slice (some ⟨b,off,none⟩) rows.length rows.length]
inductive CRs (E : Env) : List AV → List Value → Prop
 | nil : CRs E [] []
 | cons {x : AV} {xs : List AV} {cs cs' : List Value} (h : CR E x cs) (hs : CRs E xs cs') : CRs E (x :: xs) (cs ++ cs')
inductive VRs (E : Env) : List AV → List Value → Prop
 | nil : VRs E [] []
 | cons {x : AV} {xs : List AV} {cs vs : List Value} (h : CR E x cs) (hs : VRs E xs vs) : VRs E (x :: xs) (mkV x.isAgg cs :: vs)
end
def VR (E : Env) (x : AV) (v : Value) : Prop := ∃ cs,CR E x cs ∧ v = mkV x.isAgg cs
def OExt (E E' : Env) (o : Nat) : OB → OB → Prop
 | .box _,.box _ => E'.β o = E.β o
 | .box _,.own _ => E'.β o = E.β o
 | .own _,.box _ => E'.β o = E.β o
 | .own _,.own _ => E'.β o = E.β o
 | .arr c es rows,.arr c' es' rows' => c ≤ c' ∧ (c = c' → E'.β o = E.β o ∧ E'.γ o = E.γ o ∧ rows'.length = rows.length ∧ es' = es)
 | .map v es,.map v' es' => E'.β o = E.β o ∧ v ≤ v' ∧ (v = v' → es' = es ∧ E'.δ o = E.δ o ∧ E'.γ o = E.γ o)
 | .iter _ _ _ _,.iter _ _ _ _ => E'.β o = E.β o
 | _,_ => False
structure Ext (E E' : Env) : Prop where
 hz : E.w.heap.size ≤ E'.w.heap.size
 imm : ∀ b,E.I b → b < E.w.heap.size → E'.I b ∧ E'.w.heap[b]? = E.w.heap[b]?
 live : ∀ o ob,E.obj o = some ob → ∃ ob',E'.obj o = some ob' ∧ OExt E E' o ob ob'
theorem oext_box {E E' : Env} (h : Ext E E') {o : Nat} {x : OB} (ho : E.obj o = some x) (hk : x.isB = true) : E'.β o = E.β o ∧ ∃ x',E'.obj o = some x' ∧ x'.isB = true := by
 obtain ⟨ob',h1,h2⟩ := h.live _ _ ho
 cases x <;> simp only [OB.isB,Bool.false_eq_true] at hk <;> cases ob' <;> simp only [OExt] at h2 <;> exact ⟨h2,_,h1,rfl⟩
theorem oext_map {E E' : Env} (h : Ext E E') {o ver : Nat} {es : List (D × D)} (ho : E.obj o = some (.map ver es)) : E'.β o = E.β o ∧ ∃ v' es',E'.obj o = some (.map v' es') := by
 obtain ⟨ob',h1,h2⟩ := h.live _ _ ho
 cases ob' <;> simp only [OExt] at h2
 exact ⟨h2.1,_,_,h1⟩
theorem oext_iter {E E' : Env} (h : Ext E E') {o m ver : Nat} {l : List (D × D)} {cu : Option (D × D)} (ho : E.obj o = some (.iter m ver l cu)) : E'.β o = E.β o ∧ ∃ m' v' l' cu',E'.obj o = some (.iter m' v' l' cu') := by
 obtain ⟨ob',h1,h2⟩ := h.live _ _ ho
 cases ob' <;> simp only [OExt] at h2
 exact ⟨h2,_,_,_,_,h1⟩
theorem oext_arr {E E' : Env} (h : Ext E E') {o c es : Nat} {rows : List D} (ho : E.obj o = some (.arr c es rows)) :
  ∃ c' es' rows',E'.obj o = some (.arr c' es' rows') ∧ c ≤ c' ∧ (c = c' → E'.β o = E.β o ∧ E'.γ o = E.γ o ∧ rows'.length = rows.length ∧ es' = es) := by
 obtain ⟨ob',h1,h2⟩ := h.live _ _ ho
 cases ob' <;> simp only [OExt] at h2
 exact ⟨_,_,_,h1,h2⟩
mutual
theorem CR.ext {E E' : Env} (he : Ext E E') : ∀ {x : AV} {cs : List Value},CR E x cs → CR E' x cs
 | _,_,.d h => .d (h.mono he.hz he.imm)
 | _,_,.ptr ho hk hb => by
  obtain ⟨h1,x',h2,h3⟩ := oext_box he ho hk
  exact .ptr h2 h3 (h1.trans hb)
 | _,_,.arr ho hl hv h1 => by
  obtain ⟨c',es',rows',k1,k2,k3⟩ := oext_arr he ho
  refine .arr k1 (Nat.le_trans hl k2) (fun e => ?_) h1
  obtain ⟨q1,q2,q3,_⟩ := k3 (by omega)
  rw [hv (by omega),q1,q2,q3]
 | _,_,.pel ho hl hv h1 => by
  obtain ⟨c',es',rows',k1,k2,k3⟩ := oext_arr he ho
  refine .pel k1 (Nat.le_trans hl k2) (fun e => ?_) h1
  obtain ⟨q1,q2,q3,q4⟩ := k3 (by omega)
  obtain ⟨b,p1,p2⟩ := hv (by omega)
  exact ⟨b,q1.trans p1,by rw [p2,q4]⟩
 | _,_,.asl ho hl hv h1 => by
  obtain ⟨c',es',rows',k1,k2,k3⟩ := oext_arr he ho
  refine .asl k1 (Nat.le_trans hl k2) (fun e => ?_) h1
  obtain ⟨q1,q2,q3,q4⟩ := k3 (by omega)
  rcases hv (by omega) with ⟨a,c,p1,p2⟩ | ⟨b,c,p1,p2,p3⟩
  ·exact .inl ⟨a,c,p1,by rw [q3]; exact p2⟩
  ·exact .inr ⟨b,c,q1.trans p1,by rw [p2,q3,q4],by rw [q3]; exact p3⟩
 | _,_,.osl ho hl hv h1 => by
  obtain ⟨c',es',rows',k1,k2,k3⟩ := oext_arr he ho
  refine .osl k1 (Nat.le_trans hl k2) (fun e => ?_) h1
  obtain ⟨q1,_,_,_⟩ := k3 (by omega)
  exact (hv (by omega)).imp id fun ⟨b,c,p1,p2⟩ => ⟨b,c,q1.trans p1,p2⟩
 | _,_,.csl ho hl hv h1 => by
  obtain ⟨c',es',rows',k1,k2,k3⟩ := oext_arr he ho
  refine .csl k1 (Nat.le_trans hl k2) (fun e => ?_) h1
  obtain ⟨q1,q2,q3,q4⟩ := k3 (by omega)
  obtain ⟨p0,p⟩ := hv (by omega)
  refine ⟨by rw [q2]; exact p0,p.imp (fun ⟨p1,p2⟩ => ⟨q1.trans p1,p2⟩) fun ⟨b,off,p1,p2,p3⟩ => ⟨b,off,q1.trans p1,by rw [q2]; exact p2,by rw [q2,q4]; exact p3⟩⟩
 | _,_,.map ho hb => by
  obtain ⟨h1,v',es',h2⟩ := oext_map he ho
  exact .map h2 (h1.trans hb)
 | _,_,.it ho hb => by
  obtain ⟨h1,m',v',l',cu',h2⟩ := oext_iter he ho
  exact .it h2 (h1.trans hb)
 | _,_,.bsl ho hk hb => by
  obtain ⟨h1,x',h2,h3⟩ := oext_box he ho hk
  exact .bsl h2 h3 (h1.trans hb)
 | _,_,.st h => .st (CRs.ext he h)
 | _,_,.tup h => .tup (VRs.ext he h)
 | _,_,.fn h k => .fn (VRs.ext he h) (VRs.ext he k)
 | _,_,.ifc h => .ifc (CR.ext he h)
 | _,_,.sx hI hb hr hs hc => .sx (he.imm _ hI hb).1 (Nat.lt_of_lt_of_le hb he.hz) (hr.mono he.hz he.imm) hs (qo4 (he.imm _ hI hb).2 hc)
theorem CRs.ext {E E' : Env} (he : Ext E E') : ∀ {x : List AV} {cs : List Value},CRs E x cs → CRs E' x cs
 | _,_,.nil => .nil
 | _,_,.cons h hs => .cons (CR.ext he h) (CRs.ext he hs)
theorem VRs.ext {E E' : Env} (he : Ext E E') : ∀ {x : List AV} {cs : List Value},VRs E x cs → VRs E' x cs
 | _,_,.nil => .nil
 | _,_,.cons h hs => .cons (CR.ext he h) (VRs.ext he hs)
end
theorem VR.ext {E E' : Env} (he : Ext E E') {x : AV} {v : Value} (h : VR E x v) : VR E' x v :=
 let ⟨cs,h1,h2⟩ := h; ⟨cs,h1.ext he,h2⟩
mutual
theorem CR.len {E : Env} : ∀ {x : AV} {cs : List Value},CR E x cs → cs.length = x.size
 | _,_,.d h => by simp only [AV.size]; exact h.len
 | _,_,.ptr .. => rfl
 | _,_,.arr .. => rfl
 | _,_,.pel .. => rfl
 | _,_,.asl .. => rfl
 | _,_,.osl .. => rfl
 | _,_,.csl .. => rfl
 | _,_,.map .. => rfl
 | _,_,.it .. => rfl
 | _,_,.bsl .. => rfl
 | _,_,.st h => by simp only [AV.size]; exact CRs.len h
 | _,_,.tup .. => rfl
 | _,_,.fn .. => rfl
 | _,_,.ifc .. => rfl
 | _,_,.sx .. => rfl
theorem CRs.len {E : Env} : ∀ {x : List AV} {cs : List Value},CRs E x cs → cs.length = AV.sizes x
 | _,_,.nil => rfl
 | _,_,.cons h hs => by simp [AV.sizes,CR.len h,CRs.len hs]
end
mutual
inductive ODR (E : Env) : OD → List Value → List Nat → Prop
 | av {x : AV} {cs : List Value} (h : CR E x cs) (h1 : ∀ v ∈ cs,one v = true) : ODR E (.av x) cs []
 | st {ps : List OD} {cs : List Value} {F : List Nat} (h : ODRs E ps cs F) : ODR E (.st ps) cs F
 | map {es : List (D × D)} {b clock : Nat} {ents : Array MapEntry} (hb : E.w.heap[b]? = some (.map ents clock)) (hl : ents.size = es.length)
   (he : ∀ (i : Nat) k x ent,es[i]? = some (k,x) → ents[i]? = some ent → ∃ ck cx,DR E.I E.w k ck ∧ DR E.I E.w x cx ∧ ent.key = mkV k.isAgg ck ∧ ent.val = mkV x.isAgg cx)
   (hn : (ents.toList.map (·.born)).Nodup) (ht : ∀ n ∈ ents.toList.map (·.born),n < clock) : ODR E (.map es) [.map (some b)] [b]
 | arr0 {es : Nat} : ODR E (.arr es []) [.slice none 0 0] []
 | arr {es b cap : Nat} {rows : List D} {cs sp : List Value} {e : TypeId} (hr : DRs E.I E.w rows cs) (hs : ∀ r ∈ rows,r.size = es) (hb : E.w.heap[b]? = some (.cells (cs ++ sp).toArray e (0,0)))
   (hl : (cs ++ sp).length = cap * es) (hc : rows.length ≤ cap) : ODR E (.arr es rows) [.slice (some ⟨b,0,none⟩) rows.length cap] [b]
 | box {x : OD} {b : Nat} {cs : List Value} {F : List Nat} {e : TypeId} (hx : ODR E x cs F) (hb : E.w.heap[b]? = some (.cells cs.toArray e (0,0))) : ODR E (.box x) [.pointer (some ⟨b,0,none⟩)] (b :: F)
inductive ODRs (E : Env) : List OD → List Value → List Nat → Prop
 | nil : ODRs E [] [] []
 | cons {x : OD} {xs : List OD} {cs cs' : List Value} {F F' : List Nat} (h : ODR E x cs F) (hs : ODRs E xs cs' F') : ODRs E (x :: xs) (cs ++ cs') (F ++ F')
end
mutual
theorem ODR.lt {E : Env} : ∀ {x : OD} {cs : List Value} {F : List Nat},ODR E x cs F → ∀ b ∈ F,b < E.w.heap.size
 | _,_,_,.av _ _ => by simp
 | _,_,_,.st h => ODRs.lt h
 | _,_,_,.map hb _ _ _ _ => by simp only [List.mem_singleton]; rintro _ rfl; exact (Array.getElem?_eq_some_iff.1 hb).1
 | _,_,_,.arr0 => by simp
 | _,_,_,.arr _ _ hb _ _ => by simp only [List.mem_singleton]; rintro _ rfl; exact (Array.getElem?_eq_some_iff.1 hb).1
 | _,_,_,.box hx hb => by
  intro b hm
  rcases zM.1 hm with e | e
  ·subst e; exact (Array.getElem?_eq_some_iff.1 hb).1
  ·exact ODR.lt hx b e
theorem ODRs.lt {E : Env} : ∀ {x : List OD} {cs : List Value} {F : List Nat},ODRs E x cs F → ∀ b ∈ F,b < E.w.heap.size
 | _,_,_,.nil => by simp
 | _,_,_,.cons h hs => by
  intro b hm
  rcases zL.1 hm with e | e
  ·exact ODR.lt h b e
  ·exact ODRs.lt hs b e
end
mutual
theorem ODR.ext {E E' : Env} (he : Ext E E') : ∀ {x : OD} {cs : List Value} {F : List Nat},(∀ b ∈ F,E'.w.heap[b]? = E.w.heap[b]?) → ODR E x cs F → ODR E' x cs F
 | _,_,_,_,.av h h1 => .av (h.ext he) h1
 | _,_,_,hF,.st h => .st (ODRs.ext he hF h)
 | _,_,_,hF,.map hb hl hm hn ht => by
  refine .map ((hF _ (by simp)).trans hb) hl (fun i k x ent p1 p2 => ?_) hn ht
  obtain ⟨ck,cx,q1,q2,q3,q4⟩ := hm i k x ent p1 p2
  exact ⟨ck,cx,q1.mono he.hz he.imm,q2.mono he.hz he.imm,q3,q4⟩
 | _,_,_,_,.arr0 => .arr0
 | _,_,_,hF,.arr hr hs hb hl hc => .arr (hr.mono he.hz he.imm) hs ((hF _ (by simp)).trans hb) hl hc
 | _,_,_,hF,.box hx hb => .box (ODR.ext he (fun b hm => hF b (by simp [hm])) hx) ((hF _ (by simp)).trans hb)
theorem ODRs.ext {E E' : Env} (he : Ext E E') : ∀ {x : List OD} {cs : List Value} {F : List Nat},(∀ b ∈ F,E'.w.heap[b]? = E.w.heap[b]?) → ODRs E x cs F → ODRs E' x cs F
 | _,_,_,_,.nil => .nil
 | _,_,_,hF,.cons h hs => .cons (ODR.ext he (fun b hm => hF b (by simp [hm])) h) (ODRs.ext he (fun b hm => hF b (by simp [hm])) hs)
end
def OR (E : Env) (o : Nat) : OB → Prop
 | .own x => ∃ b cs e,E.β o = some b ∧ ODR E x cs (E.φ o) ∧ (∀ v ∈ cs,one v = true) ∧ E.w.heap[b]? = some (.cells cs.toArray e (0,0)) ∧ b ∉ E.φ o ∧ (E.φ o).Nodup
 | .box x => ∃ b cs e,E.β o = some b ∧ CR E x cs ∧ (∀ v ∈ cs,one v = true) ∧ E.w.heap[b]? = some (.cells cs.toArray e (0,0))
 | .arr _ es rows => (E.β o = none ∧ rows = [] ∧ E.γ o = 0) ∨
   (∃ b cs sp e,E.β o = some b ∧ DRs E.I E.w rows cs ∧ (∀ r ∈ rows,r.size = es) ∧ E.w.heap[b]? = some (.cells (cs ++ sp).toArray e (0,0)) ∧ (cs ++ sp).length = E.γ o * es ∧ rows.length ≤ E.γ o)
 | .map _ es => ∃ b ents clock,E.β o = some b ∧ E.w.heap[b]? = some (.map ents clock) ∧ ents.size = es.length ∧
   (∀ (i : Nat) k x ent,es[i]? = some (k,x) → ents[i]? = some ent → ∃ ck cx,DR E.I E.w k ck ∧ DR E.I E.w x cx ∧ ent.key = mkV k.isAgg ck ∧ ent.val = mkV x.isAgg cx) ∧
   E.δ o = ents.toList.map (·.born) ∧ (E.δ o).Nodup ∧ (∀ n ∈ E.δ o,n < clock) ∧ clock = E.γ o
 | .iter m ver left cu => ∃ b since seen last,E.β o = some b ∧ E.w.heap[b]? = some (.mapIter (E.β m) since seen last) ∧
   (∀ es,E.obj m = some (.map ver es) → left = ((es.zip (E.δ m)).filter (fun x => !seen.contains x.2)).map (·.1) ∧ (∀ n ∈ E.δ m,n < since) ∧ since ≤ last ∧ since ≤ E.γ m ∧
    (∀ kv,cu = some kv → last = E.γ m ∧ ∃ (i n : Nat),es[i]? = some kv ∧ (E.δ m)[i]? = some n ∧ seen.back? = some n)) ∧
   (∃ cur es,E.obj m = some (.map cur es) ∧ ver ≤ cur)
theorem OR.lt {E : Env} {o b : Nat} {ob : OB} (h : OR E o ob) (hb : E.β o = some b) : b < E.w.heap.size := by
 have key : ∀ {b' : Nat} {x : Obj},E.β o = some b' → E.w.heap[b']? = some x → b < E.w.heap.size := by
  intro b' x h1 h2
  rw [hb] at h1; cases h1
  exact (Array.getElem?_eq_some_iff.1 h2).1
 cases ob with
 | box x => obtain ⟨b',cs,e,h1,_,_,h2⟩ := h; exact key h1 h2
 | arr c es rows =>
  rcases h with ⟨h1,_⟩ | ⟨b',cs,sp,e,h1,_,_,h2,_⟩
  ·rw [hb] at h1; cases h1
  ·exact key h1 h2
 | map c es => obtain ⟨b',_,_,h1,h2,_⟩ := h; exact key h1 h2
 | iter m v l cu => obtain ⟨b',_,_,_,h1,h2,_⟩ := h; exact key h1 h2
 | own x => obtain ⟨b',cs,e,h1,_,_,h2,_⟩ := h; exact key h1 h2
theorem OR.lth {E : Env} {o b : Nat} {ob : OB} (h : OR E o ob) (ho : E.obj o = some ob) (hb : E.has o b) : b < E.w.heap.size := by
 rcases hb with hb | ⟨hb,x,hx⟩
 ·exact h.lt hb
 ·rw [ho] at hx; cases hx
  obtain ⟨b',cs,e,h1,h2,_⟩ := h
  exact h2.lt b hb
theorem OR.ext {E E' : Env} (he : Ext E E') {o : Nat} {ob : OB} (ho : E.obj o = some ob) (h : OR E o ob) (hβ : E'.β o = E.β o) (hγ : E'.γ o = E.γ o) (hδ : E'.δ o = E.δ o) (hφ : E'.φ o = E.φ o)
  (hblk : ∀ b,E.has o b → E'.w.heap[b]? = E.w.heap[b]?)
  (hit : ∀ m ver l cu,ob = .iter m ver l cu → E'.β m = E.β m ∧ (∀ es,E'.obj m = some (.map ver es) → E.obj m = some (.map ver es) ∧ E'.δ m = E.δ m ∧ E'.γ m = E.γ m) ∧
   ((∃ cur es,E.obj m = some (.map cur es) ∧ ver ≤ cur) → ∃ cur es,E'.obj m = some (.map cur es) ∧ ver ≤ cur)) : OR E' o ob := by
 cases ob with
 | box x =>
  obtain ⟨b,cs,e,h1,h2,h3,h4⟩ := h
  exact ⟨b,cs,e,hβ.trans h1,h2.ext he,h3,(hblk b (.inl h1)).trans h4⟩
 | own x =>
  obtain ⟨b,cs,e,h1,h2,h3,h4,h5,h6⟩ := h
  exact ⟨b,cs,e,hβ.trans h1,by rw [hφ]; exact h2.ext he (fun b hb => hblk b (.inr ⟨hb,_,ho⟩)),h3,(hblk b (.inl h1)).trans h4,by rw [hφ]; exact h5,by rw [hφ]; exact h6⟩
 | arr c es rows =>
  rcases h with ⟨h1,h2,h3⟩ | ⟨b,cs,sp,e,h1,h2,h3,h4,h5,h6⟩
  ·exact .inl ⟨hβ.trans h1,h2,hγ.trans h3⟩
  ·exact .inr ⟨b,cs,sp,e,hβ.trans h1,h2.mono he.hz he.imm,h3,(hblk b (.inl h1)).trans h4,by rw [hγ]; exact h5,by rw [hγ]; exact h6⟩
 | map v es =>
  obtain ⟨b,ents,clock,h1,h2,h3,h4,h5,h6,h7,h8⟩ := h
  refine ⟨b,ents,clock,hβ.trans h1,(hblk b (.inl h1)).trans h2,h3,fun i k x ent p1 p2 => ?_,hδ.trans h5,by rw [hδ]; exact h6,by rw [hδ]; exact h7,h8.trans hγ.symm⟩
  obtain ⟨ck,cx,q1,q2,q3,q4⟩ := h4 i k x ent p1 p2
  exact ⟨ck,cx,q1.mono he.hz he.imm,q2.mono he.hz he.imm,q3,q4⟩
 | iter m ver l cu =>
  obtain ⟨b,since,seen,last,h1,h2,h3,h4⟩ := h
  obtain ⟨k1,k2,k3⟩ := hit m ver l cu rfl
  refine ⟨b,since,seen,last,hβ.trans h1,by rw [k1,hblk b (.inl h1)]; exact h2,fun es hes => ?_,k3 h4⟩
  obtain ⟨p1,p2,p3⟩ := k2 es hes
  rw [p2,p3]
  exact h3 es p1
structure Cx where
 nk : Nat × Nat
 E0 : Env
 T : Nat → Prop
 J : Nat → Prop
def Cx.w0 (cx : Cx) : World := cx.E0.w
def Cx.own (cx : Cx) (b : Nat) : Prop := cx.w0.heap.size ≤ b ∨ cx.T b
class Drw where
 dm : Prop
variable [Drw]
structure Keeps (cx : Cx) (w : World) : Prop where
 os : w.os = cx.w0.os
 tape : w.tape = cx.w0.tape
 output : w.output = cx.w0.output
 size : cx.w0.heap.size ≤ w.heap.size
 block : ∀ b,b < cx.w0.heap.size → ¬ cx.T b → w.heap[b]? = cx.w0.heap[b]?
 drawn : Drw.dm → cx.w0.drawn ≤ w.drawn
structure St where
 slot : Nat → Option AV
 obj : Nat → Option OB
structure R0 (cx : Cx) (s : St) (a : Act) (E : Env) : Prop where
 obj : E.obj = s.obj
 may : E.J = cx.J
 fresh : ∀ b,cx.own b → cx.J b
 inK : ∀ o,cx.E0.obj o ≠ none → o < cx.nk.2
 hist : ∀ o ob,cx.E0.obj o = some ob → ∃ ob',E.obj o = some ob' ∧ OExt cx.E0 E o ob ob'
 defers : a.defers = []
 size : a.tmps.size = cx.nk.1
 slots : ∀ t x,s.slot t = some x → VR E x (a.tmps.getD t undef)
 objs : ∀ o ob,s.obj o = some ob → OR E o ob
 inj : ∀ o o' b,s.obj o ≠ none → s.obj o' ≠ none → E.has o b → E.has o' b → o = o'
 own : ∀ o b,s.obj o ≠ none → E.has o b → cx.own b
 keeps : Keeps cx E.w
def R (cx : Cx) (s : St) (a : Act) (w : World) : Prop := ∃ E,E.w = w ∧ R0 cx s a E
def upd {α : Type} (f : Nat → Option α) (d : Nat) (x : Option α) : Nat → Option α := fun t => bif Nat.beq t d then x else f t
theorem qf1 {α : Type} (f : Nat → Option α) (d : Nat) (x : Option α) (t : Nat) : upd f d x t = if t = d then x else f t := by
 unfold upd
 by_cases h : t = d
 ·subst h; simp
 ·have : Nat.beq t d = false := by
   cases hb : Nat.beq t d
   ·rfl
   ·exact absurd (Nat.eq_of_beq_eq_true hb) h
  simp [this,h]
def St.put (s : St) (d : Nat) (x : AV) : St := { s with slot := upd s.slot d (some x) }
def St.forget (s : St) (d : Nat) : St := { s with slot := upd s.slot d none }
def St.set (s : St) (o : Nat) (x : OB) : St := { s with obj := upd s.obj o (some x) }
theorem qG5 (a : Act) (d : Nat) (v : Value) (t : Nat) (hd : d < a.tmps.size) : (a.put (some d) v).tmps.getD t undef = if t = d then v else a.tmps.getD t undef := by
 simp only [Act.put]
 by_cases h : t = d
 ·subst h; simp [hd]
 ·simp [h,Array.getElem?_setIfInBounds_ne (Ne.symm h)]
theorem R0.put {cx : Cx} {s : St} {a : Act} {E : Env} (h : R0 cx s a E) {d : Nat} {x : AV} {v : Value} (hv : VR E x v) (hd : d < cx.nk.1) : R0 cx (s.put d x) (a.put (some d) v) E := by
 refine ⟨h.obj,h.may,h.fresh,h.inK,h.hist,h.defers,by simp [Act.put,h.size],fun t y hy => ?_,h.objs,h.inj,h.own,h.keeps⟩
 rw [qG5 _ _ _ _ (by rw [h.size]; exact hd)]
 simp only [St.put,qf1] at hy
 by_cases ht : t = d
 ·simp only [ht,if_true,Option.some.injEq] at hy ⊢; subst hy; exact hv
 ·simp only [ht,if_false] at hy ⊢; exact h.slots t y hy
theorem R0.forget {cx : Cx} {s : St} {a : Act} {E : Env} (h : R0 cx s a E) {d : Nat} {v : Value} (hd : d < cx.nk.1) : R0 cx (s.forget d) (a.put (some d) v) E := by
 refine ⟨h.obj,h.may,h.fresh,h.inK,h.hist,h.defers,by simp [Act.put,h.size],fun t y hy => ?_,h.objs,h.inj,h.own,h.keeps⟩
 rw [qG5 _ _ _ _ (by rw [h.size]; exact hd)]
 simp only [St.forget,qf1] at hy
 by_cases ht : t = d
 ·simp [ht] at hy
 ·simp only [ht,if_false] at hy ⊢; exact h.slots t y hy
theorem OExt.trans {E0 E E' : Env} {o : Nat} : ∀ {x y z : OB},OExt E0 E o x y → OExt E E' o y z → OExt E0 E' o x z
 | .box _,.box _,.box _,h,k => Eq.trans k h
 | .box _,.box _,.own _,h,k => Eq.trans k h
 | .box _,.own _,.box _,h,k => Eq.trans k h
 | .box _,.own _,.own _,h,k => Eq.trans k h
 | .own _,.box _,.box _,h,k => Eq.trans k h
 | .own _,.box _,.own _,h,k => Eq.trans k h
 | .own _,.own _,.box _,h,k => Eq.trans k h
 | .own _,.own _,.own _,h,k => Eq.trans k h
 | .map v es,.map v' es',.map v'' es'',h,k => by
  simp only [OExt] at h k ⊢
  refine ⟨k.1.trans h.1,Nat.le_trans h.2.1 k.2.1,fun e => ?_⟩
  obtain ⟨h1,h2,h3⟩ := h
  obtain ⟨k1,k2,k3⟩ := k
  obtain ⟨p1,p2,p3⟩ := h3 (by omega)
  obtain ⟨q1,q2,q3⟩ := k3 (by omega)
  exact ⟨q1.trans p1,q2.trans p2,q3.trans p3⟩
 | .iter _ _ _ _,.iter _ _ _ _,.iter _ _ _ _,h,k => Eq.trans k h
 | .arr c es rows,.arr c' es' rows',.arr c'' es'' rows'',h,k => by
  simp only [OExt] at h k ⊢
  refine ⟨Nat.le_trans h.1 k.1,fun e => ?_⟩
  obtain ⟨h1,h2⟩ := h
  obtain ⟨k1,k2⟩ := k
  obtain ⟨p1,p2,p3,p4⟩ := h2 (by omega)
  obtain ⟨q1,q2,q3,q4⟩ := k2 (by omega)
  exact ⟨q1.trans p1,q2.trans p2,q3.trans p3,q4.trans p4⟩
theorem hist_ext {cx : Cx} {E E' : Env} (h : ∀ o ob,cx.E0.obj o = some ob → ∃ ob',E.obj o = some ob' ∧ OExt cx.E0 E o ob ob') (he : Ext E E') :
  ∀ o ob,cx.E0.obj o = some ob → ∃ ob',E'.obj o = some ob' ∧ OExt cx.E0 E' o ob ob' := by
 intro o ob ho
 obtain ⟨ob',h1,h2⟩ := h o ob ho
 obtain ⟨ob'',k1,k2⟩ := he.live o ob' h1
 exact ⟨ob'',k1,h2.trans k2⟩
theorem R0.trans {cx : Cx} {s s' : St} {a : Act} {E E' : Env} (h : R0 cx s a E) (he : Ext E E') (hJ : E'.J = E.J) (hs : s'.slot = s.slot) (ho : E'.obj = s'.obj)
  (hobjs : ∀ o ob,s'.obj o = some ob → OR E' o ob)
  (hinj : ∀ o o' b,s'.obj o ≠ none → s'.obj o' ≠ none → E'.has o b → E'.has o' b → o = o')
  (hown : ∀ o b,s'.obj o ≠ none → E'.has o b → cx.own b) (hk : Keeps cx E'.w) : R0 cx s' a E' :=
 ⟨ho,hJ.trans h.may,h.fresh,h.inK,hist_ext h.hist he,h.defers,h.size,fun t y hy => (h.slots t y (by rw [← hs]; exact hy)).ext he,hobjs,hinj,hown,hk⟩
theorem Keeps.drew {cx : Cx} {w : World} (h : Keeps cx w) {n : Nat} (hn : w.drawn ≤ n) : Keeps cx { w with drawn := n } := ⟨h.os,h.tape,h.output,h.size,h.block,fun d => Nat.le_trans (h.drawn d) hn⟩
theorem R.drew {cx : Cx} {s : St} {a : Act} {w : World} (h : R cx s a w) {n : Nat} (hn : w.drawn ≤ n) : R cx s a { w with drawn := n } := by
 obtain ⟨E,rfl,h⟩ := h
 have he : Ext E { E with w := { E.w with drawn := n } } := by
  refine ⟨Nat.le_refl _,fun b hb _ => ⟨hb,rfl⟩,fun o ob ho => ⟨ob,ho,?_⟩⟩
  cases ob <;> simp [OExt]
 refine ⟨{ E with w := { E.w with drawn := n } },rfl,h.trans he rfl rfl h.obj (fun o ob ho => ?_) h.inj h.own (h.keeps.drew hn)⟩
 exact (h.objs o ob ho).ext he (by rw [h.obj]; exact ho) rfl rfl rfl rfl (fun _ _ => rfl) (fun m ver l cu e => ⟨rfl,fun es hes => ⟨hes,rfl,rfl⟩,fun h => h⟩)
theorem Keeps.grow {cx : Cx} {w : World} (h : Keeps cx w) (o : Obj) : Keeps cx (w.alloc o) :=
 ⟨h.os,h.tape,h.output,by have := h.size; simp; omega,fun b hb hT => (Below.heap_alloc _ _ _ (by have := h.size; omega)).trans (h.block b hb hT),h.drawn⟩
theorem ext_alloc (E : Env) (x : Obj) : Ext E { E with w := E.w.alloc x } := by
 refine ⟨by simp,fun b hb hlt => ⟨hb,Below.heap_alloc _ _ _ hlt⟩,fun o ob ho => ⟨ob,ho,?_⟩⟩
 cases ob <;> simp [OExt]
theorem R0.alloc {cx : Cx} {s : St} {a : Act} {E : Env} (h : R0 cx s a E) (x : Obj) : R0 cx s a { E with w := E.w.alloc x } := by
 refine h.trans (ext_alloc E x) rfl rfl h.obj (fun o ob ho => ?_) h.inj h.own (h.keeps.grow x)
 exact (h.objs o ob ho).ext (ext_alloc E x) (by rw [h.obj]; exact ho) rfl rfl rfl rfl (fun b hb => Below.heap_alloc _ _ _ ((h.objs o ob ho).lth (by rw [h.obj]; exact ho) hb)) (fun m ver l cu e => ⟨rfl,fun es hes => ⟨hes,rfl,rfl⟩,fun h => h⟩)
theorem R0.newI {cx : Cx} {s : St} {a : Act} {E : Env} (h : R0 cx s a E) (b : Nat) (hb : E.w.heap.size ≤ b) : E.I b := by
 refine ⟨by rw [h.may]; exact h.fresh b (.inl (Nat.le_trans h.keeps.size hb)),fun o ob ho e => ?_⟩
 have := (h.objs o ob (by rw [← h.obj]; exact ho)).lth ho e
 omega
end Go.Val
namespace Go.Val
open Go.RowKit
variable [Drw]
theorem upd_ne {α : Type} (f : Nat → Option α) {d t : Nat} (x : Option α) (h : t ≠ d) : upd f d x t = f t := by simp [qf1,h]
def Env.new (E : Env) (o : Nat) (ob : OB) (b : Option Nat) (cap : Nat) (births : List Nat) (w : World) : Env :=
 { obj := upd E.obj o (some ob),β := fun t => if t = o then b else E.β t,γ := fun t => if t = o then cap else E.γ t,δ := fun t => if t = o then births else E.δ t,φ := E.φ,J := E.J,w := w }
theorem qV5 {E : Env} {o : Nat} {ob : OB} {b : Option Nat} {cap : Nat} {births : List Nat} {w : World} (hno : ob.isOwn = false) {o' k : Nat} (h : (E.new o ob b cap births w).has o' k) : (o' = o ∧ b = some k) ∨ (o' ≠ o ∧ E.has o' k) := by
 by_cases q : o' = o
 ·rcases h with h | ⟨_,x,h⟩
  ·simp only [Env.new,q,if_true] at h; exact .inl ⟨q,h⟩
  ·simp only [Env.new,qf1,q,if_true,Option.some.injEq] at h; subst h; cases hno
 ·refine .inr ⟨q,?_⟩
  rcases h with h | ⟨h1,x,h⟩
  ·simp only [Env.new,q,if_false] at h; exact .inl h
  ·simp only [Env.new,qf1,q,if_false] at h h1; exact .inr ⟨h1,x,h⟩
theorem ext_new {E : Env} {o : Nat} {ob : OB} {b : Option Nat} {cap : Nat} {births : List Nat} {w : World} (hno : ob.isOwn = false) (ho : E.obj o = none) (hz : E.w.heap.size ≤ w.heap.size)
  (hb : ∀ k,b = some k → E.w.heap.size ≤ k) (hh : ∀ k,k < E.w.heap.size → w.heap[k]? = E.w.heap[k]?) : Ext E (E.new o ob b cap births w) := by
 refine ⟨hz,fun k hk hlt => ⟨⟨hk.1,fun o' ob' h' e => ?_⟩,hh k hlt⟩,fun o' ob' h' => ?_⟩
 ·rcases qV5 hno e with ⟨_,e⟩ | ⟨h,e⟩
  ·have := hb k e; omega
  ·simp only [Env.new,qf1,h,if_false] at h'
   exact hk.2 _ _ h' e
 ·have hne : o' ≠ o := fun e => by subst e; rw [ho] at h'; cases h'
  refine ⟨ob',by simp only [Env.new]; rw [upd_ne _ _ hne]; exact h',?_⟩
  cases ob' <;> simp [OExt,Env.new,hne]
theorem R0.new {cx : Cx} {s : St} {a : Act} {E : Env} (h : R0 cx s a E) {o : Nat} {ob : OB} {b : Option Nat} {cap : Nat} {births : List Nat} {w : World}
  (ho : s.obj o = none) (hz : E.w.heap.size ≤ w.heap.size) (hb : ∀ k,b = some k → E.w.heap.size ≤ k) (hh : ∀ k,k < E.w.heap.size → w.heap[k]? = E.w.heap[k]?)
  (hk : Keeps cx w) (hor : OR (E.new o ob b cap births w) o ob) (hno : ob.isOwn = false := by rfl) : R0 cx (s.set o ob) a (E.new o ob b cap births w) := by
 have ho' : E.obj o = none := by rw [h.obj]; exact ho
 have he := ext_new (ob := ob) (cap := cap) (births := births) hno ho' hz hb hh
 have lt : ∀ o' k,s.obj o' ≠ none → E.has o' k → k < E.w.heap.size := by
  intro o' k h1 h2
  obtain ⟨x,hx⟩ := Option.ne_none_iff_exists'.1 h1
  exact (h.objs _ _ hx).lth (by rw [h.obj]; exact hx) h2
 refine h.trans he rfl rfl (by simp [Env.new,St.set,h.obj]) (fun o' ob' h' => ?_) (fun o1 o2 k h1 h2 e1 e2 => ?_) (fun o1 k h1 e1 => ?_) hk
 ·simp only [St.set,qf1] at h'
  by_cases hne : o' = o
  ·simp only [hne,if_true,Option.some.injEq] at h'; subst hne; subst h'; exact hor
  ·simp only [hne,if_false] at h'
   refine (h.objs _ _ h').ext he (by rw [h.obj]; exact h') (by simp [Env.new,hne]) (by simp [Env.new,hne]) (by simp [Env.new,hne]) rfl (fun k hk' => hh k (lt o' k (by rw [h']; simp) hk')) (fun m ver l cu e => ?_)
   by_cases hm : m = o
   ·
    subst hm
    have := h.objs _ _ h'
    subst e
    obtain ⟨b1,since,seen,last,q1,q2,q3,c5,e5,q5,q6⟩ := this
    rw [ho'] at q5
    cases q5
   ·refine ⟨by simp [Env.new,hm],fun es hes => ?_,fun ⟨cur,es,q,q'⟩ => ⟨cur,es,by simp only [Env.new,qf1,hm,if_false]; exact q,q'⟩⟩
    simp only [Env.new,qf1,hm,if_false] at hes ⊢; exact ⟨hes,tV,tV⟩
 ·simp only [St.set,qf1] at h1 h2
  rcases qV5 hno e1 with ⟨q1,e1⟩ | ⟨q1,e1⟩ <;> rcases qV5 hno e2 with ⟨q2,e2⟩ | ⟨q2,e2⟩
  ·rw [q1,q2]
  ·simp only [q2,if_false] at h2
   have := hb _ e1; have := lt _ _ h2 e2; omega
  ·simp only [q1,if_false] at h1
   have := hb _ e2; have := lt _ _ h1 e1; omega
  ·simp only [q1,q2,if_false] at h1 h2
   exact h.inj _ _ _ h1 h2 e1 e2
 ·simp only [St.set,qf1] at h1
  rcases qV5 hno e1 with ⟨q1,e1⟩ | ⟨q1,e1⟩
  ·exact .inl (by have := hb _ e1; have := h.keeps.size; omega)
  ·simp only [q1,if_false] at h1; exact h.own _ _ h1 e1
def Env.turn (E : Env) (o : Nat) (ob : OB) (b : Option Nat) (cap : Nat) (births : List Nat) (w : World) : Env := E.new o ob b cap births w
theorem R0.turn {cx : Cx} {s : St} {a : Act} {E : Env} (h : R0 cx s a E) {o : Nat} {ob ob' : OB} {b : Option Nat} {cap : Nat} {births : List Nat} {w : World}
  (ho : s.obj o = some ob) (hz : E.w.heap.size ≤ w.heap.size) (hb : ∀ k,b = some k → E.β o = some k ∨ E.w.heap.size ≤ k)
  (hh : ∀ k,k < E.w.heap.size → E.β o ≠ some k → w.heap[k]? = E.w.heap[k]?) (hos : w.os = E.w.os) (htape : w.tape = E.w.tape) (hout : w.output = E.w.output)
  (hx : OExt E (E.turn o ob' b cap births w) o ob ob') (hor : Ext E (E.turn o ob' b cap births w) → OR (E.turn o ob' b cap births w) o ob')
  (hmap : ∀ v es,ob = .map v es → ∃ es',ob' = .map (v + 1) es') (hdr : E.w.drawn ≤ w.drawn := by first | exact Nat.le_refl _ | exact Nat.le_succ _) (hno : ob.isOwn = false := by rfl) (hno' : ob'.isOwn = false := by rfl) : R0 cx (s.set o ob') a (E.turn o ob' b cap births w) := by
 have ho' : E.obj o = some ob := by rw [h.obj]; exact ho
 have ne : s.obj o ≠ none := by rw [ho]; simp
 have lt : ∀ o' k,s.obj o' ≠ none → E.has o' k → k < E.w.heap.size := by
  intro o' k h1 h2
  obtain ⟨x,hx⟩ := Option.ne_none_iff_exists'.1 h1
  exact (h.objs _ _ hx).lth (by rw [h.obj]; exact hx) h2
 have hblk : ∀ o' k,o' ≠ o → s.obj o' ≠ none → E.has o' k → w.heap[k]? = E.w.heap[k]? := by
  intro o' k hne h1 h2
  exact hh k (lt _ _ h1 h2) (fun e => hne (h.inj _ _ _ h1 ne h2 (.inl e)))
 have he : Ext E (E.turn o ob' b cap births w) := by
  refine ⟨hz,fun k hk hlt => ⟨⟨hk.1,fun o' x h' e => ?_⟩,hh k hlt (fun e => hk.2 _ _ ho' (.inl e))⟩,fun o' x h' => ?_⟩
  ·rcases qV5 hno' e with ⟨_,e⟩ | ⟨q,e⟩
   ·rcases hb k e with e1 | e1
    ·exact hk.2 _ _ ho' (.inl e1)
    ·omega
   ·simp only [Env.turn,Env.new,qf1,q,if_false] at h'
    exact hk.2 _ _ h' e
  ·by_cases q : o' = o
   ·subst q; rw [ho'] at h'; cases h'
    exact ⟨ob',by simp [Env.turn,Env.new,qf1],hx⟩
   ·refine ⟨x,by simp only [Env.turn,Env.new]; rw [upd_ne _ _ q]; exact h',?_⟩
    cases x <;> simp [OExt,Env.turn,Env.new,q]
 refine h.trans he rfl rfl (by simp [Env.turn,Env.new,St.set,h.obj]) (fun o' x h' => ?_) (fun o1 o2 k h1 h2 e1 e2 => ?_) (fun o1 k h1 e1 => ?_) ?_
 ·simp only [St.set,qf1] at h'
  by_cases hne : o' = o
  ·simp only [hne,if_true,Option.some.injEq] at h'; subst hne; subst h'; exact hor he
  ·simp only [hne,if_false] at h'
   refine (h.objs _ _ h').ext he (by rw [h.obj]; exact h') (by simp [Env.turn,Env.new,hne]) (by simp [Env.turn,Env.new,hne]) (by simp [Env.turn,Env.new,hne]) rfl
    (fun k hk' => hblk _ _ hne (by rw [h']; simp) hk') (fun m ver l cu e => ?_)
   by_cases hm : m = o
   ·subst hm
    subst e
    obtain ⟨b1,since,seen,last,q1,q2,q3,c5,e5,q5,q6⟩ := h.objs _ _ h'
    rw [ho'] at q5
    cases q5
    obtain ⟨es',he'⟩ := hmap _ _ rfl
    subst he'
    refine ⟨?_,fun es hes => ?_,fun _ => ⟨c5 + 1,es',by simp [Env.turn,Env.new,qf1],by omega⟩⟩
    ·simp only [OExt] at hx; exact hx.1
    ·simp only [Env.turn,Env.new,qf1,if_true,Option.some.injEq,OB.map.injEq] at hes
     omega
   ·refine ⟨by simp [Env.turn,Env.new,hm],fun es hes => ?_,fun ⟨cur,es,q,q'⟩ => ⟨cur,es,by simp only [Env.turn,Env.new,qf1,hm,if_false]; exact q,q'⟩⟩
    simp only [Env.turn,Env.new,qf1,hm,if_false] at hes ⊢; exact ⟨hes,tV,tV⟩
 ·simp only [St.set,qf1] at h1 h2
  rcases qV5 hno' e1 with ⟨q1,e1⟩ | ⟨q1,e1⟩ <;> rcases qV5 hno' e2 with ⟨q2,e2⟩ | ⟨q2,e2⟩
  ·rw [q1,q2]
  ·simp only [q2,if_false] at h2
   rcases hb _ e1 with e3 | e3
   ·rw [q1]; exact (h.inj _ _ _ h2 ne e2 (.inl e3)).symm
   ·have := lt _ _ h2 e2; omega
  ·simp only [q1,if_false] at h1
   rcases hb _ e2 with e3 | e3
   ·rw [q2]; exact h.inj _ _ _ h1 ne e1 (.inl e3)
   ·have := lt _ _ h1 e1; omega
  ·simp only [q1,q2,if_false] at h1 h2
   exact h.inj _ _ _ h1 h2 e1 e2
 ·simp only [St.set,qf1] at h1
  rcases qV5 hno' e1 with ⟨q1,e1⟩ | ⟨q1,e1⟩
  ·rcases hb _ e1 with e3 | e3
   ·exact h.own _ _ ne (.inl e3)
   ·exact .inl (by have := h.keeps.size; omega)
  ·simp only [q1,if_false] at h1; exact h.own _ _ h1 e1
 ·refine ⟨hos.trans h.keeps.os,htape.trans h.keeps.tape,hout.trans h.keeps.output,Nat.le_trans h.keeps.size hz,fun k hk hT => ?_,fun d => Nat.le_trans (h.keeps.drawn d) hdr⟩
  rw [← h.keeps.block k hk hT]
  refine hh k (by have := h.keeps.size; omega) (fun e => ?_)
  rcases h.own _ _ ne (.inl e) with e3 | e3
  ·omega
  ·exact hT e3
end Go.Val
namespace Go.Val
open Go.RowKit
variable [Drw]
structure SR where
 rs : List Nat
 ro : List Nat
 d : Option (Nat × Option AV)
 wo : List (Nat × OB)
def SR.wids (r : SR) : List Nat := r.wo.map (·.1)
def SR.dst (r : SR) : List Nat := (r.d.map (·.1)).toList
def q52 (f : Nat → Option OB) : List (Nat × OB) → Nat → Option OB
 | [] => f
 | (o,x) :: l => q52 (upd f o (some x)) l
def putD (f : Nat → Option AV) : Option (Nat × Option AV) → Nat → Option AV
 | none => f
 | some (d,x) => upd f d x
def SR.apply (r : SR) (s : St) : St := { slot := putD s.slot r.d,obj := q52 s.obj r.wo }
def SR.agree (r : SR) (s s' : St) : Prop := (∀ t ∈ r.rs,s'.slot t = s.slot t) ∧ (∀ o ∈ r.ro,s'.obj o = s.obj o)
def GStep (P : Program) (N : Nat × Nat) (ops : Array Oper) (o : Oper) (s s' : St) : Prop := ∀ (Q : Exit → Act → World → Prop) (cx : Cx) (a : Act) (w : World),cx.nk = N → R cx s a w →
 if Region.wanted o (yielded ops a.tmps) then o.wp P a w (fun a' w' => R cx s' a' w') Q else R cx s' (a.put o.dst undef) w
def Valid (P : Program) (N : Nat × Nat) (ops : Array Oper) (i : Nat) (r : SR) (s : St) : Prop := ∃ o,ops[i]? = some o ∧ ∀ s',r.agree s s' → GStep P N ops o s' (r.apply s')
def Run (P : Program) (N : Nat × Nat) (ops : Array Oper) : List (Nat × SR) → St → St → Prop
 | [],s,s' => s' = s
 | (i,r) :: l,s,s' => Valid P N ops i r s ∧ Run P N ops l (r.apply s) s'
def SR.disj (x y : SR) : Bool :=
 x.dst.all (fun d => !y.rs.contains d && !y.dst.contains d) && y.dst.all (fun d => !x.rs.contains d) &&
 x.wids.all (fun d => !y.ro.contains d && !y.wids.contains d) && y.wids.all (fun d => !x.ro.contains d)
theorem putD_ne {f : Nat → Option AV} {d : Option (Nat × Option AV)} {t : Nat} (h : t ∉ (d.map (·.1)).toList) : putD f d t = f t := by
 cases d with
 | none => rfl
 | some p => obtain ⟨d,x⟩ := p; simp at h; simp [putD,qf1,h]
theorem q54 {l : List (Nat × OB)} {t : Nat} : ∀ {f : Nat → Option OB},t ∉ l.map (·.1) → q52 f l t = f t := by
 induction l with
 | nil => intro f _; rfl
 | cons p l ih =>
  obtain ⟨o,x⟩ := p
  intro f h
  simp only [List.map_cons,zM,not_or] at h
  simp only [q52]
  rw [ih h.2,qf1,if_neg h.1]
theorem setAll_congr {l : List (Nat × OB)} {t : Nat} : ∀ {f g : Nat → Option OB},(t ∉ l.map (·.1) → f t = g t) → q52 f l t = q52 g l t := by
 induction l with
 | nil => intro f g h; exact h (by simp)
 | cons p l ih =>
  obtain ⟨o,x⟩ := p
  intro f g h
  simp only [q52]
  refine ih (fun hn => ?_)
  simp only [qf1]
  by_cases ht : t = o
  ·simp [ht]
  ·simp only [ht,if_false]; exact h (by simp [ht] at hn ⊢; exact hn)
theorem qJ1 {r : SR} {s : St} {t : Nat} (h : t ∉ r.dst) : (r.apply s).slot t = s.slot t := putD_ne h
theorem q04 {r : SR} {s : St} {t : Nat} (h : t ∉ r.wids) : (r.apply s).obj t = s.obj t := q54 h
structure SR.Apart (x y : SR) : Prop where
 a1 : ∀ d ∈ x.dst,d ∉ y.rs
 a2 : ∀ d ∈ x.dst,d ∉ y.dst
 a3 : ∀ d ∈ y.dst,d ∉ x.rs
 b1 : ∀ d ∈ x.wids,d ∉ y.ro
 b2 : ∀ d ∈ x.wids,d ∉ y.wids
 b3 : ∀ d ∈ y.wids,d ∉ x.ro
theorem SR.apart_of_disj {x y : SR} (h : x.disj y = true) : x.Apart y := by
 simp only [SR.disj,Bool.and_eq_true,List.all_eq_true,Bool.not_eq_true',List.contains_eq_mem,decide_eq_false_iff_not] at h
 obtain ⟨⟨⟨h1,h2⟩,h3⟩,h4⟩ := h
 exact ⟨fun d hd => (h1 d hd).1,fun d hd => (h1 d hd).2,h2,fun d hd => (h3 d hd).1,fun d hd => (h3 d hd).2,h4⟩
theorem apply_comm {x y : SR} (h : x.Apart y) (s : St) : y.apply (x.apply s) = x.apply (y.apply s) := by
 have e1 : (y.apply (x.apply s)).slot = (x.apply (y.apply s)).slot := by
  funext t
  by_cases hx : t ∈ x.dst
  ·rw [qJ1 (r := y) (h.a2 t hx)]
   simp only [SR.dst] at hx
   cases hd : x.d with
   | none => simp [hd] at hx
   | some p => obtain ⟨d,v⟩ := p; simp [hd] at hx; subst hx; simp [SR.apply,putD,hd,qf1]
  ·rw [qJ1 (r := x) hx]
   by_cases hy : t ∈ y.dst
   ·simp only [SR.dst] at hy
    cases hd : y.d with
    | none => simp [hd] at hy
    | some p => obtain ⟨d,v⟩ := p; simp [hd] at hy; subst hy; simp [SR.apply,putD,hd,qf1]
   ·rw [qJ1 hy,qJ1 hx,qJ1 hy]
 have e2 : (y.apply (x.apply s)).obj = (x.apply (y.apply s)).obj := by
  funext t
  by_cases hx : t ∈ x.wids
  ·rw [q04 (r := y) (h.b2 t hx)]
   simp only [SR.apply]
   exact setAll_congr (fun hn => absurd hx hn)
  ·rw [q04 (r := x) hx]
   simp only [SR.apply]
   exact setAll_congr (fun hn => q54 hx)
 cases hq : y.apply (x.apply s)
 cases hr : x.apply (y.apply s)
 rw [hq,hr] at e1 e2
 simp only at e1 e2
 rw [e1,e2]
theorem Valid.of_apart {P : Program} {N : Nat × Nat} {ops : Array Oper} {i : Nat} {x y : SR} {s : St} (h : x.Apart y) (hv : Valid P N ops i y (x.apply s)) : Valid P N ops i y s := by
 obtain ⟨o,ho,hv⟩ := hv
 refine ⟨o,ho,fun s' hs => hv s' ⟨fun t ht => ?_,fun t ht => ?_⟩⟩
 ·rw [qJ1 (fun hd => h.a1 t hd ht)]; exact hs.1 t ht
 ·rw [q04 (fun hd => h.b1 t hd ht)]; exact hs.2 t ht
theorem Valid.to_apart {P : Program} {N : Nat × Nat} {ops : Array Oper} {i : Nat} {x y : SR} {s : St} (h : x.Apart y) (hv : Valid P N ops i x s) : Valid P N ops i x (y.apply s) := by
 obtain ⟨o,ho,hv⟩ := hv
 refine ⟨o,ho,fun s' hs => hv s' ⟨fun t ht => ?_,fun t ht => ?_⟩⟩
 ·rw [hs.1 t ht,qJ1 (fun hd => h.a3 t hd ht)]
 ·rw [hs.2 t ht,q04 (fun hd => h.b3 t hd ht)]
theorem Run.first {P : Program} {N : Nat × Nat} {ops : Array Oper} {i : Nat} {r : SR} {l2 : List (Nat × SR)} {s' : St} : ∀ (l1 : List (Nat × SR)) (s : St),(∀ p ∈ l1,p.2.Apart r) →
  Run P N ops (l1 ++ (i,r) :: l2) s s' → Valid P N ops i r s ∧ Run P N ops (l1 ++ l2) (r.apply s) s'
 | [],s,_,h => h
 | (j,x) :: l1,s,ha,h => by
  obtain ⟨hv,h⟩ := h
  obtain ⟨k1,k2⟩ := Run.first l1 (x.apply s) (fun p hp => ha p (by simp [hp])) h
  have hx := ha (j,x) (by simp)
  refine ⟨k1.of_apart hx,hv.to_apart hx,?_⟩
  rw [← apply_comm hx]
  exact k2
def q42 (ops : Array Oper) (i j : Nat) : Bool := match ops[i]? with
 | some o => o.after.any fun e => Region.binds .any e && e.on == j
 | none => false
def waitsN (ops : Array Oper) : Nat → Nat → Nat → Bool
 | 0,i,j => q42 ops i j
 | n + 1,i,j => q42 ops i j || match ops[i]? with
  | some o => o.after.any fun e => Region.binds .any e && waitsN ops n e.on j
  | none => false
theorem waitsN_none {ops : Array Oper} {l : List (Nat × SR)} (hup : ∀ j k,q42 ops j k = true → (∃ r,(k,r) ∈ l) → ∃ r,(j,r) ∈ l) {k : Nat} {r : SR} (hk : (k,r) ∈ l) : ∀ (n i : Nat),(∀ k' r',(k',r') ∈ l → q42 ops i k' = false) → waitsN ops n i k = false
 | 0,i,h => h k r hk
 | n + 1,i,h => by
  simp only [waitsN,h k r hk,Bool.false_or]
  cases ho : ops[i]? with
  | none => rfl
  | some o =>
   simp only
   rw [Bool.eq_false_iff]
   intro hany
   simp only [Array.any_eq_true',Bool.and_eq_true] at hany
   obtain ⟨e,he,hb,hw⟩ := hany
   have hie : q42 ops i e.on = true := by
    simp only [q42,ho,Array.any_eq_true',Bool.and_eq_true,beq_iff_eq]
    exact ⟨e,he,hb,rfl⟩
   have hm : ¬ ∃ r',(e.on,r') ∈ l := fun ⟨r',h'⟩ => by
    rw [h _ _ h'] at hie; cases hie
   have := waitsN_none hup hk n e.on (fun k' r' h' => by
    cases hq : q42 ops e.on k' with
    | false => rfl
    | true => exact absurd (hup _ _ hq ⟨r',h'⟩) hm)
   rw [this] at hw
   cases hw
def qC5 (ops : Array Oper) : List (Nat × SR) → Bool
 | [] => true
 | (j,x) :: l => l.all (fun p => q42 ops p.1 j || x.disj p.2 || waitsN ops 8 p.1 j) && qC5 ops l
theorem orderOk_erase {ops : Array Oper} {p : Nat × SR} {l2 : List (Nat × SR)} : ∀ (l1 : List (Nat × SR)),qC5 ops (l1 ++ p :: l2) = true → qC5 ops (l1 ++ l2) = true
 | [],h => by obtain ⟨i,r⟩ := p; simp only [List.nil_append,qC5,Bool.and_eq_true] at h ⊢; exact h.2
 | (j,x) :: l1,h => by
  simp only [List.cons_append,qC5,Bool.and_eq_true,List.all_eq_true] at h ⊢
  refine ⟨fun q hq => h.1 q ?_,orderOk_erase l1 h.2⟩
  rcases zL.1 hq with h1 | h1
  ·exact zL.2 (.inl h1)
  ·exact zL.2 (.inr (List.mem_cons_of_mem _ h1))
theorem orderOk_spec {ops : Array Oper} {i : Nat} {r : SR} {l2 : List (Nat × SR)} : ∀ (l1 : List (Nat × SR)),qC5 ops (l1 ++ (i,r) :: l2) = true →
  (∀ p ∈ l1,waitsN ops 8 i p.1 = false) → ∀ p ∈ l1,p.2.Apart r
 | [],_,_,p,hp => by cases hp
 | (j,x) :: l1,h,hw,p,hp => by
  simp only [List.cons_append,qC5,Bool.and_eq_true,List.all_eq_true] at h
  rcases zM.1 hp with e | hp'
  ·subst e
   have := h.1 (i,r) (by simp)
   have hw' := hw (j,x) (by simp)
   have hw0 : q42 ops i j = false := by
    simp only [waitsN,Bool.or_eq_false_iff] at hw'
    exact hw'.1
   rw [hw',hw0] at this
   exact SR.apart_of_disj (by simpa using this)
  ·exact orderOk_spec l1 h.2 (fun q hq => hw q (by simp [hq])) p hp'
theorem qk4 {P : Program} {N : Nat × Nat} {ops : Array Oper} {i : Nat} {r : SR} {s : St} {Q : Exit → Act → World → Prop} {cx : Cx} {a : Act} {w : World} {K : Act → World → Prop}
  (hn : cx.nk = N) (hv : Valid P N ops i r s) (hR : R cx s a w) (hK : ∀ a w,R cx (r.apply s) a w → K a w) : wpOp P ops Q i K a w := by
 obtain ⟨o,ho,hv⟩ := hv
 have := hv s ⟨fun _ _ => rfl,fun _ _ => rfl⟩ Q cx a w hn hR
 unfold wpOp
 simp only [ho]
 split
 ·rename_i hw
  simp only [hw,if_true] at this
  exact .inl (Oper.wp_mono hK this)
 ·rename_i hw
  simp only [hw] at this
  exact hK _ _ this
def edgesOk (ops : Array Oper) : Bool := (List.range ops.size).all fun i => match ops[i]? with
 | some o => o.after.all fun e => !Region.binds .any e || decide (e.on < i)
 | none => true
theorem edgesOk_spec {ops : Array Oper} (h : edgesOk ops = true) {i : Nat} {o : Oper} (ho : ops[i]? = some o) {e : Edge} (he : e ∈ o.after) (hb : Region.binds .any e = true) : e.on < i := by
 have hlt : i < ops.size := (Array.getElem?_eq_some_iff.1 ho).1
 simp only [edgesOk,List.all_eq_true,List.mem_range] at h
 have := h i hlt
 simp only [ho,Array.all_eq_true_iff_forall_mem] at this
 have := this e he
 simpa [hb] using this
theorem getD_in {listed : Array Bool} {j : Nat} (h : j < listed.size) (d d' : Bool) : listed.getD j d = listed.getD j d' := by
 simp [Array.getD,h]
theorem wpAny_of_run {P : Program} {N : Nat × Nat} {ops : Array Oper} {Q : Exit → Act → World → Prop} {cx : Cx} {sf : St} (hn : cx.nk = N) (hE : edgesOk ops = true) (hQ : ∀ a w,R cx sf a w → Q .normal a w) :
  ∀ (fuel : Nat) (l : List (Nat × SR)) (listed : Array Bool) (s : St) (a : Act) (w : World),l.length = fuel →
   (∀ j,listed.getD j true = false ↔ ∃ r,(j,r) ∈ l) → listed.size = ops.size → l.Pairwise (fun p q => p.1 < q.1) → (∀ p ∈ l,p.1 < ops.size) →
   (∀ j k,q42 ops j k = true → (∃ r,(k,r) ∈ l) → ∃ r,(j,r) ∈ l) → qC5 ops l = true → Run P N ops l s sf → R cx s a w → wpAny P .any ops Q fuel listed a w
 | 0,l,listed,s,a,w,hl,hin,hsz,_,_,_,_,hrun,hR => by
  have hnil : l = [] := List.eq_nil_of_length_eq_zero hl
  subst hnil
  simp only [Run] at hrun
  subst hrun
  refine ⟨?_,hQ _ _ hR⟩
  cases hr : Region.ready .any ops listed with
  | nil => rfl
  | cons j js =>
   have hj : j ∈ Region.ready .any ops listed := by rw [hr]; simp
   obtain ⟨r,h⟩ := (hin j).1 (mem_ready.1 hj).1
   cases h
 | fuel + 1,l,listed,s,a,w,hl,hin,hsz,hsort,hlt,hup,hord,hrun,hR => by
  refine ⟨fun hnone => ?_,fun i hi => ?_⟩
  ·exfalso
   cases l with
   | nil => simp at hl
   | cons p l =>
    obtain ⟨i,r⟩ := p
    have hil : i < ops.size := hlt (i,r) (by simp)
    have : i ∈ Region.ready .any ops listed := by
     refine mem_ready.2 ⟨(hin i).2 ⟨r,by simp⟩,ops[i],by simp [hil],fun e he hb => ?_⟩
     have hei := edgesOk_spec hE (i := i) (o := ops[i]) (by simp [hil]) he hb
     have hnot : ¬ listed.getD e.on true = false := fun h => by
      obtain ⟨r',h'⟩ := (hin e.on).1 h
      rcases zM.1 h' with h1 | h1
      ·cases h1; omega
      ·have := (List.pairwise_cons.1 hsort).1 _ h1
       simp only at this; omega
     rw [getD_in (by omega) false true]
     simpa using hnot
    rw [hnone] at this
    cases this
  ·obtain ⟨h0,o,ho,hall⟩ := mem_ready.1 hi
   obtain ⟨r,hir⟩ := (hin i).1 h0
   obtain ⟨l1,l2,rfl⟩ := List.append_of_mem hir
   have hw1 : ∀ k r',(k,r') ∈ l1 ++ (i,r) :: l2 → q42 ops i k = false := by
    intro k r' hp
    generalize hpk : (k,r') = p at hp
    obtain rfl : k = p.1 := by rw [← hpk]
    cases hq : q42 ops i p.1 with
    | false => rfl
    | true =>
     simp only [q42,ho,Array.any_eq_true',Bool.and_eq_true,beq_iff_eq] at hq
     obtain ⟨e,he,hb,hon⟩ := hq
     have h1 := hall e he hb
     have h2 := (hin p.1).2 ⟨p.2,hp⟩
     rw [hon] at h1
     have hps : p.1 < listed.size := by rw [hsz]; exact hlt p hp
     rw [getD_in hps false true,h2] at h1
     cases h1
   have hw : ∀ p ∈ l1,waitsN ops 8 i p.1 = false := fun p hp => waitsN_none hup (k := p.1) (r := p.2) (by simp [hp]) 8 i hw1
   obtain ⟨hv,hrun'⟩ := Run.first l1 s (orderOk_spec l1 hord hw) hrun
   refine qk4 hn hv hR (fun a' w' hR' => ?_)
   have hord' := orderOk_erase l1 hord
   have hup' : ∀ j k,q42 ops j k = true → (∃ r,(k,r) ∈ l1 ++ l2) → ∃ r,(j,r) ∈ l1 ++ l2 := by
    rintro j k hjk ⟨r',hk⟩
    have hk' : (k,r') ∈ l1 ++ (i,r) :: l2 := by
     rcases zL.1 hk with h1 | h1
     ·simp [h1]
     ·simp [h1]
    obtain ⟨r2,h2⟩ := hup j k hjk ⟨r',hk'⟩
    rcases zL.1 h2 with h1 | h1
    ·exact ⟨r2,by simp [h1]⟩
    ·rcases zM.1 h1 with h3 | h3
     ·cases h3
      rw [hw1 k r' hk'] at hjk
      cases hjk
     ·exact ⟨r2,by simp [h3]⟩
   have hsort' : (l1 ++ l2).Pairwise (fun p q => p.1 < q.1) := by
    refine hsort.sublist ?_
    exact List.Sublist.append (List.Sublist.refl _) (List.sublist_cons_self _ _)
   refine wpAny_of_run hn hE hQ fuel (l1 ++ l2) (listed.setIfInBounds i true) _ a' w' (by simp at hl ⊢; omega) (fun j => ?_) (by simp [hsz]) hsort' (fun p hp => hlt p (by
    rcases zL.1 hp with h1 | h1
    ·simp [h1]
    ·simp [h1])) hup' hord' hrun' hR'
   have hil : i < listed.size := by rw [hsz]; exact hlt (i,r) (by simp)
   by_cases hji : j = i
   ·subst hji
    constructor
    ·intro h; simp [Array.getD,hil] at h
    ·rintro ⟨r',h'⟩
     exfalso
     rcases zL.1 h' with h1 | h1
     ·have := (List.pairwise_append.1 hsort).2.2 _ h1 (j,r) (by simp)
      simp only at this; omega
     ·have := (List.pairwise_cons.1 (List.pairwise_append.1 hsort).2.1).1 _ h1
      simp only at this; omega
   ·rw [getD_set_ne true (Ne.symm hji),hin j]
    constructor
    ·rintro ⟨r',h'⟩
     refine ⟨r',?_⟩
     rcases zL.1 h' with h1 | h1
     ·simp [h1]
     ·rcases zM.1 h1 with h2 | h2
      ·cases h2; exact absurd rfl hji
      ·simp [h2]
    ·rintro ⟨r',h'⟩
     refine ⟨r',?_⟩
     rcases zL.1 h' with h1 | h1
     ·simp [h1]
     ·simp [h1]
inductive Chain (P : Program) (N : Nat × Nat) (ops : Array Oper) : Nat → St → List (Nat × SR) → St → Prop
 | nil {n : Nat} {s : St} (h : Nat.beq n ops.size = true) : Chain P N ops n s [] s
 | cons {n : Nat} {s s' : St} {r : SR} {l : List (Nat × SR)} (h : Valid P N ops n r s) (c : Chain P N ops (n + 1) (r.apply s) l s') : Chain P N ops n s ((n,r) :: l) s'
theorem Chain.run {P : Program} {N : Nat × Nat} {ops : Array Oper} {n : Nat} {s s' : St} {l : List (Nat × SR)} (c : Chain P N ops n s l s') : Run P N ops l s s' := by
 induction c with
 | nil => rfl
 | cons h c ih => exact ⟨h,ih⟩
theorem Chain.mems {P : Program} {N : Nat × Nat} {ops : Array Oper} {n : Nat} {s s' : St} {l : List (Nat × SR)} (c : Chain P N ops n s l s') :
  n ≤ ops.size ∧ l.length = ops.size - n ∧ (∀ j,(n ≤ j ∧ j < ops.size) ↔ ∃ r,(j,r) ∈ l) ∧ l.Pairwise (fun p q => p.1 < q.1) := by
 induction c with
 | @nil n s h =>
  have : n = ops.size := Nat.eq_of_beq_eq_true h
  subst this
  refine ⟨Nat.le_refl _,by simp,fun j => ⟨fun h => by omega,fun ⟨r,h⟩ => by cases h⟩,.nil⟩
 | @cons n s s' r l h c ih =>
  obtain ⟨h1,h2,h3,h4⟩ := ih
  refine ⟨by omega,by simp [h2]; omega,fun j => ?_,?_⟩
  ·constructor
   ·intro hj
    by_cases e : j = n
    ·exact ⟨r,by simp [e]⟩
    ·obtain ⟨r',h'⟩ := (h3 j).1 ⟨by omega,hj.2⟩
     exact ⟨r',by simp [h']⟩
   ·rintro ⟨r',h'⟩
    rcases zM.1 h' with e | e
    ·cases e; omega
    ·have := (h3 j).2 ⟨r',e⟩; omega
  ·refine List.pairwise_cons.2 ⟨fun q hq => ?_,h4⟩
   have := (h3 q.1).2 ⟨q.2,hq⟩
   simp only; omega
theorem wpOps_of_run {P : Program} {N : Nat × Nat} {ops : Array Oper} {Q : Exit → Act → World → Prop} {cx : Cx} {sf : St} (hn : cx.nk = N) (hQ : ∀ a w,R cx sf a w → Q .normal a w) :
  ∀ (l : List (Nat × SR)) (s : St) (a : Act) (w : World),Run P N ops l s sf → R cx s a w → wpOps P ops Q (l.map (·.1)) a w
 | [],s,a,w,h,hR => by simp only [Run] at h; subst h; exact hQ _ _ hR
 | (i,r) :: l,s,a,w,⟨hv,h⟩,hR => by
  simp only [List.map_cons]
  rw [wpOps_cons]
  exact qk4 hn hv hR (fun a' w' hR' => wpOps_of_run hn hQ l _ a' w' h hR')
def CWp (P : Program) (N : Nat × Nat) (c : Code) (Q : Exit → St → Prop) (s : St) : Prop := ∀ (cx : Cx) (a : Act) (w : World),cx.nk = N → R cx s a w → c.wp P (fun e a' w' => ∃ s',Q e s' ∧ R cx s' a' w') a w
theorem range_map {P : Program} {N : Nat × Nat} {ops : Array Oper} {s s' : St} {l : List (Nat × SR)} (c : Chain P N ops 0 s l s') : l.map (·.1) = List.range ops.size := by
 have key : ∀ {n : Nat} {s s' : St} {l : List (Nat × SR)},Chain P N ops n s l s' → l.map (·.1) = List.range' n (ops.size - n) := by
  intro n s s' l c
  induction c with
  | @nil n s h => have := Nat.eq_of_beq_eq_true h; subst this; simp
  | @cons n s s' r l h c ih =>
   have := c.mems.1
   rw [List.map_cons,ih,show ops.size - n = (ops.size - (n + 1)) + 1 from by omega,List.range'_succ]
 rw [key c,List.range_eq_range']; simp
theorem cwR {P : Program} {N : Nat × Nat} {id : Nat} {ops : Array Oper} {s s' : St} {l : List (Nat × SR)} {Q : Exit → St → Prop} (c : Chain P N ops 0 s l s') (h : Q .normal s') : CWp P N (.region id ops false) Q s := by
 intro cx a w hn hR
 refine wp_region ?_
 rw [← range_map c]
 exact wpOps_of_run hn (fun a' w' hR' => ⟨s',h,hR'⟩) l s a w c.run hR
theorem cwRA {P : Program} {N : Nat × Nat} {id : Nat} {ops : Array Oper} {s s' : St} {l : List (Nat × SR)} {Q : Exit → St → Prop} (hm : P.follows .mixedOrders = true) (hE : edgesOk ops = true)
  (c : Chain P N ops 0 s l s') (ho : qC5 ops l = true) (h : Q .normal s') : CWp P N (.region id ops true) Q s := by
 intro cx a w hn hR
 refine wp_region_any hm ?_
 obtain ⟨_,h2,h3,h4⟩ := c.mems
 refine wpAny_of_run hn hE (fun a' w' hR' => ⟨s',h,hR'⟩) ops.size l _ s a _ (by omega) (fun j => ?_) (by simp) h4 (fun p hp => ((h3 p.1).2 ⟨p.2,hp⟩).2) (fun j k hjk _ => ?_) ho c.run (hR.drew (Nat.le_succ _))
 ·rw [← h3 j]
  by_cases hj : j < ops.size <;> simp [Array.getD,hj]
 ·refine (h3 j).1 ⟨Nat.zero_le _,?_⟩
  cases ho' : ops[j]? with
  | none => simp [q42,ho'] at hjk
  | some o => exact (Array.getElem?_eq_some_iff.1 ho').1
theorem cw_mono {P : Program} {N : Nat × Nat} {c : Code} {Q Q' : Exit → St → Prop} {s : St} (h : CWp P N c Q s) (hq : ∀ e s,Q e s → Q' e s) : CWp P N c Q' s :=
 fun cx a w hn hR => wp_mono (h cx a w hn hR) fun _ _ _ ⟨s',h1,h2⟩ => ⟨s',hq _ _ h1,h2⟩
theorem cwK {P : Program} {N : Nat × Nat} {Q : Exit → St → Prop} {s : St} (h : Q .normal s) : CWp P N .skip Q s := fun _ _ _ _ hR => wp_skip ⟨s,h,hR⟩
theorem qR {P : Program} {N : Nat × Nat} {Q : Exit → St → Prop} {s : St} {id : Nat} (h : Q (.exit id) s) : CWp P N (.exit id) Q s := fun _ _ _ _ hR => wp_exit ⟨s,h,hR⟩
theorem qv {P : Program} {N : Nat × Nat} {Q : Exit → St → Prop} {s : St} (h : Q .ret s) : CWp P N .ret Q s := fun _ _ _ _ hR => wp_ret ⟨s,h,hR⟩
def thenS (next : St → Prop) (Q : Exit → St → Prop) : Exit → St → Prop
 | .normal,s => next s
 | e,s => Q e s
theorem cwS {P : Program} {N : Nat × Nat} {x y : Code} {Q : Exit → St → Prop} {s : St} (h : CWp P N x (thenS (CWp P N y Q) Q) s) : CWp P N (.seq x y) Q s := by
 intro cx a w hn hR
 refine wp_seq (wp_mono (h cx a w hn hR) fun e a' w' ⟨s',h1,h2⟩ => ?_)
 cases e with
 | normal => exact h1 cx a' w' hn h2
 | exit id => exact ⟨s',h1,h2⟩
 | goto l => exact ⟨s',h1,h2⟩
 | ret => exact ⟨s',h1,h2⟩
 | panic c => exact ⟨s',h1,h2⟩
 | outgrown => exact ⟨s',h1,h2⟩
def inBlockS (id : Nat) (Q : Exit → St → Prop) : Exit → St → Prop
 | .exit id',s => bif Nat.beq id' id then Q .normal s else Q (.exit id') s
 | e,s => Q e s
theorem cwB {P : Program} {N : Nat × Nat} {id : Nat} {c : Code} {Q : Exit → St → Prop} {s : St} (h : CWp P N c (inBlockS id Q) s) : CWp P N (.block id c) Q s := by
 intro cx a w hn hR
 refine wp_block (wp_mono (h cx a w hn hR) fun e a' w' ⟨s',h1,h2⟩ => ?_)
 cases e with
 | exit id' =>
  simp only [inBlockS] at h1
  simp only [Exit.inBlock]
  by_cases hq : id' = id
  ·subst hq; simp at h1 ⊢; exact ⟨s',h1,h2⟩
  ·have : Nat.beq id' id = false := by
    cases hb : Nat.beq id' id
    ·rfl
    ·exact absurd (Nat.eq_of_beq_eq_true hb) hq
   simp only [this,zD] at h1
   simp only [hq,if_false]
   exact ⟨s',h1,h2⟩
 | normal => exact ⟨s',h1,h2⟩
 | goto l => exact ⟨s',h1,h2⟩
 | ret => exact ⟨s',h1,h2⟩
 | panic c => exact ⟨s',h1,h2⟩
 | outgrown => exact ⟨s',h1,h2⟩
theorem wp_loop_n {P : Program} {Q : Exit → Act → World → Prop} {a : Act} {w : World} {c : Code} (I : Nat → Act → World → Prop) (n : Nat) (h₀ : I n a w)
  (round : ∀ n a w,I n a w → c.wp P (Exit.then (fun a' w' => ∃ m,m < n ∧ I m a' w') Q) a w) : (Code.loop c).wp P Q a w := by
 intro b k cs
 have key : ∀ n a w,I n a w →
   ∃ e a' w',Q e a' w' ∧ Arrives P (lone (b.at a (.code c :: .inLoop c :: k)) cs w) b k cs e a' w' := by
  intro n
  induction n using Nat.strongRecOn with
  | _ n ih =>
   intro a w hI
   obtain ⟨e,a₁,w₁,hq,harr⟩ := round n a w hI b (.inLoop c :: k) cs
   cases e with
   | normal =>
    obtain ⟨m,hlt,hI₁⟩ := hq
    obtain ⟨e₂,a₂,w₂,hq₂,harr₂⟩ := ih m hlt a₁ w₁ hI₁
    exact ⟨e₂,a₂,w₂,hq₂,.of_steps (Steps.trans harr (.one step_inLoop)) harr₂⟩
   | exit id => exact ⟨_,a₁,w₁,hq,.pass (x := .inLoop c) rfl (fun _ _ => .inl (by simp)) harr⟩
   | goto l => exact ⟨_,a₁,w₁,hq,.pass (x := .inLoop c) rfl (fun _ _ => .inl (by simp)) harr⟩
   | ret => exact ⟨_,a₁,w₁,hq,.pass (x := .inLoop c) rfl (fun _ _ => .inl (by simp)) harr⟩
   | panic ch => exact ⟨_,a₁,w₁,hq,.pass (x := .inLoop c) rfl (fun _ _ => .inl (by simp)) harr⟩
   | outgrown => exact ⟨_,a₁,w₁,hq,.pass (x := .inLoop c) rfl (fun _ _ => .inl (by simp)) harr⟩
 obtain ⟨e,a',w',hq,harr⟩ := key n a w h₀
 exact ⟨e,a',w',hq,.of_steps (.one step_loop) harr⟩
theorem cw_loop {P : Program} {N : Nat × Nat} {c : Code} {Q : Exit → St → Prop} (I : Nat → St → Prop) {n : Nat} {s : St} (h0 : I n s)
  (round : ∀ n s,I n s → CWp P N c (thenS (fun s' => ∃ m,m < n ∧ I m s') Q) s) : CWp P N (.loop c) Q s := by
 intro cx a w hn hR
 refine wp_loop_n (fun n a w => ∃ s,I n s ∧ R cx s a w) n ⟨s,h0,hR⟩ (fun n a w ⟨s,h1,h2⟩ => ?_)
 refine wp_mono (round n s h1 cx a w hn h2) fun e a' w' ⟨s',q1,q2⟩ => ?_
 cases e with
 | normal => obtain ⟨m,hm,hI⟩ := q1; exact ⟨m,hm,s',hI,q2⟩
 | exit id => exact ⟨s',q1,q2⟩
 | goto l => exact ⟨s',q1,q2⟩
 | ret => exact ⟨s',q1,q2⟩
 | panic c => exact ⟨s',q1,q2⟩
 | outgrown => exact ⟨s',q1,q2⟩
end Go.Val
namespace Go.Val
open Go.RowKit
variable [Drw]
def St.val (s : St) : Operand → Option AV
 | .tmp t => s.slot t
 | .const v => bif one v then some (.d (.v v)) else none
 | .func f => some (.fn f [] [])
 | .global _ => none
def opT : Operand → List Nat
 | .tmp t => [t]
 | _ => []
theorem R0.val {cx : Cx} {s : St} {a : Act} {E : Env} (h : R0 cx s a E) {o : Operand} {x : AV} (hx : s.val o = some x) : VR E x (a.eval o) := by
 cases o with
 | tmp t => exact h.slots t x hx
 | const v =>
  simp only [St.val] at hx
  cases hv : one v with
  | false => simp [hv] at hx
  | true =>
   simp only [hv,zE,Option.some.injEq] at hx
   subst hx
   exact ⟨[v],.d (.v hv),rfl⟩
 | func f => simp only [St.val,Option.some.injEq] at hx; subst hx; exact ⟨_,.fn .nil .nil,rfl⟩
 | global g => simp [St.val] at hx
theorem VR.sc {E : Env} {x v : Value} (h : VR E (.d (.v x)) v) : v = x := by
 obtain ⟨cs,h1,h2⟩ := h
 cases h1 with
 | d h => cases h with
  | v h => subst h2; rfl
theorem VR.of_sc {E : Env} {x : Value} (h : one x = true) : VR E (.d (.v x)) x := ⟨[x],.d (.v h),rfl⟩
theorem cw_cond {P : Program} {N : Nat × Nat} {c : Operand} {x y : Code} {Q : Exit → St → Prop} {s : St} {b : Bool} (hc : s.val c = some (.d (.v (.bool b))))
  (ht : b = true → CWp P N x Q s) (hf : b = false → CWp P N y Q s) : CWp P N (.cond c x y) Q s := by
 intro cx a w hn hR
 obtain ⟨E,rfl,hR0⟩ := hR
 refine wp_cond_split (hR0.val hc).sc (fun h => ht h cx a _ hn ⟨E,rfl,hR0⟩) (fun h => hf h cx a _ hn ⟨E,rfl,hR0⟩)
mutual
inductive Conv (s s' : St) : AV → AV → Prop
 | d {x x' : D} (h : x = x') : Conv s s' (.d x) (.d x')
 | nil0 {es : Nat} : Conv s s' (.d (.v (.slice none 0 0))) (.d (.sl es []))
 | nila {o es : Nat} (h : s.obj o = none) (h' : s'.obj o = some (.arr 0 es [])) : Conv s s' (.d (.v (.slice none 0 0))) (.arr o 0)
 | ptr {o n : Nat} {x x' : AV} (h : s.obj o = some (.box x)) (h' : s'.obj o = some (.box x')) : Conv s s' (.ptr o n) (.ptr o n)
 | bsl {o n l c : Nat} {x x' : AV} (h : s.obj o = some (.box x)) (h' : s'.obj o = some (.box x')) : Conv s s' (.bsl o n l c) (.bsl o n l c)
 | ptro {o n : Nat} {x x' : OD} (h : s.obj o = some (.own x)) (h' : s'.obj o = some (.own x')) : Conv s s' (.ptr o n) (.ptr o n)
 | arr {o c c' es es' : Nat} {rows rows' : List D} (h : s.obj o = some (.arr c es rows)) (h' : s'.obj o = some (.arr c' es' rows')) : Conv s s' (.arr o c) (.arr o c')
 | csl {o c c' k len es : Nat} {rows rows' : List D} (h : s.obj o = some (.arr c es rows)) (h' : s'.obj o = some (.arr c' es rows')) : Conv s s' (.csl o c k len) (.csl o c' k len)
 | frz {o c es : Nat} {rows rows' : List D} (h : s.obj o = some (.arr c es rows)) (h' : s'.obj o = none) (hr : rows = rows') : Conv s s' (.arr o c) (.d (.sl es rows'))
 | map {o v v' : Nat} {es es' : List (D × D)} (h : s.obj o = some (.map v es)) (h' : s'.obj o = some (.map v' es')) : Conv s s' (.map o) (.map o)
 | it {o m v m' v' : Nat} {l l' : List (D × D)} {cu cu' : Option (D × D)} (h : s.obj o = some (.iter m v l cu)) (h' : s'.obj o = some (.iter m' v' l' cu')) : Conv s s' (.it o) (.it o)
 | pin {o : Nat} {x : D} (h : s.obj o = some (.box (.d x))) (h' : s'.obj o = none) : Conv s s' (.ptr o 0) (.d (.at x))
 | st {ps qs : List AV} (h : Convs s s' ps qs) : Conv s s' (.st ps) (.st qs)
 | flat {ps : List AV} {ds : List D} (h : Convs s s' ps (ds.map .d)) : Conv s s' (.st ps) (.d (.st ds))
 | tup {ps qs : List AV} (h : Convs s s' ps qs) : Conv s s' (.tup ps) (.tup qs)
 | fn {f : Nat} {ps qs ps' qs' : List AV} (h : Convs s s' ps qs) (k : Convs s s' ps' qs') : Conv s s' (.fn f ps ps') (.fn f qs qs')
 | ifc {t : Nat} {x y : AV} (h : Conv s s' x y) : Conv s s' (.ifc t x) (.ifc t y)
 | sx {es : Nat} {rows rows' : List D} (h : rows = rows') : Conv s s' (.sx es rows) (.sx es rows')
 | sxd {es : Nat} {rows rows' : List D} (h : rows = rows') : Conv s s' (.sx es rows) (.d (.sl es rows'))
inductive Convs (s s' : St) : List AV → List AV → Prop
 | nil : Convs s s' [] []
 | cons {x y : AV} {xs ys : List AV} (h : Conv s s' x y) (hs : Convs s s' xs ys) : Convs s s' (x :: xs) (y :: ys)
end
mutual
inductive ODC (s s' : St) : OD → OD → Prop
 | av {x x' : AV} (h : Conv s s' x x') : ODC s s' (.av x) (.av x')
 | st {ps qs : List OD} (h : ODCs s s' ps qs) : ODC s s' (.st ps) (.st qs)
 | map {es es' : List (D × D)} (h : es = es') : ODC s s' (.map es) (.map es')
 | arr {es : Nat} {rows rows' : List D} (h : rows = rows') : ODC s s' (.arr es rows) (.arr es rows')
 | box {x x' : OD} (h : ODC s s' x x') : ODC s s' (.box x) (.box x')
inductive ODCs (s s' : St) : List OD → List OD → Prop
 | nil : ODCs s s' [] []
 | cons {x y : OD} {xs ys : List OD} (h : ODC s s' x y) (hs : ODCs s s' xs ys) : ODCs s s' (x :: xs) (y :: ys)
end
inductive OConv (N : Nat × Nat) (s s' : St) (o : Nat) : OB → Prop
 | box {x x' : AV} (h : s.obj o = some (.box x)) (hx : Conv s s' x x') : OConv N s s' o (.box x')
 | arr {c es : Nat} {rows rows' : List D} (h : s.obj o = some (.arr c es rows)) (hr : rows = rows') : OConv N s s' o (.arr c es rows')
 | arrU {c c' es : Nat} {rows rows' : List D} (h : s.obj o = some (.arr c es rows)) (hc : c ≤ c') (hr : rows = rows') : OConv N s s' o (.arr c' es rows')
 | arr0 {c c' es : Nat} {rows rows' : List D} (h : s.obj o = some (.arr c es rows)) (hk : Nat.ble N.2 o = true) (hr : rows = rows') : OConv N s s' o (.arr c' es rows')
 | map {v : Nat} {es es' : List (D × D)} (h : s.obj o = some (.map v es)) (he : es = es') : OConv N s s' o (.map v es')
 | map0 {v v' : Nat} {es es' : List (D × D)} (h : s.obj o = some (.map v es)) (hk' : Nat.ble N.2 o = true) (he : es = es') (hk : ∀ k m u l cu,s'.obj k = some (.iter m u l cu) → m ≠ o) : OConv N s s' o (.map v' es')
 | iter {m v : Nat} {l l' : List (D × D)} {es es' : List (D × D)} {cu cu' : Option (D × D)} (h : s.obj o = some (.iter m v l cu)) (hm : s.obj m = some (.map v es)) (hm' : s'.obj m = some (.map v es')) (hl : l = l') (he : es = es') (hcu : cu' = none ∨ cu = cu') : OConv N s s' o (.iter m v l' cu')
 | nil {es : Nat} (h : s.obj o = none) : OConv N s s' o (.arr 0 es [])
 | own {x x' : OD} (h : s.obj o = some (.own x)) (hx : ODC s s' x x') : OConv N s s' o (.own x')
structure Weak (N : Nat × Nat) (s s' : St) : Prop where
 slots : ∀ t x',s'.slot t = some x' → ∃ x,s.slot t = some x ∧ Conv s s' x x'
 objs : ∀ o ob',s'.obj o = some ob' → OConv N s s' o ob'
 drop : ∀ o,o < N.2 → s.obj o ≠ none → s'.obj o ≠ none
def wenv (s s' : St) (E : Env) : Env :=
 { E with obj := s'.obj,β := fun o => bif (s.obj o).isSome then E.β o else none,γ := fun o => bif (s.obj o).isSome then E.γ o else 0 }
theorem qS2 {s s' : St} {E : Env} {o : Nat} {ob : OB} (h : s.obj o = some ob) : (wenv s s' E).β o = E.β o := by simp [wenv,h]
theorem qv4 {s s' : St} {E : Env} {o : Nat} {ob : OB} (h : s.obj o = some ob) : (wenv s s' E).γ o = E.γ o := by simp [wenv,h]
theorem qI5 {s s' : St} {E : Env} {o : Nat} (h : s.obj o = none) : (wenv s s' E).β o = none := by simp [wenv,h]
theorem wenv_has {N : Nat × Nat} {s s' : St} {E : Env} (hw : Weak N s s') (ho : E.obj = s.obj) {o b : Nat} (h : (wenv s s' E).has o b) : s.obj o ≠ none ∧ E.has o b := by
 rcases h with e | ⟨e,x,hx⟩
 ·cases hs : s.obj o with
  | none => rw [qI5 hs] at e; cases e
  | some x => rw [qS2 hs] at e; exact ⟨by simp,.inl e⟩
 ·have h1 := hw.objs o _ hx
  cases h1 with
  | own h2 _ => exact ⟨by rw [h2]; simp,.inr ⟨e,_,by rw [ho]; exact h2⟩⟩
theorem wenv_I {N : Nat × Nat} {s s' : St} {E : Env} (hw : Weak N s s') (ho : E.obj = s.obj) {b : Nat} (hb : E.I b) : (wenv s s' E).I b := by
 refine ⟨hb.1,fun o ob _ e => ?_⟩
 obtain ⟨h1,h2⟩ := wenv_has hw ho e
 obtain ⟨x,hx⟩ := Option.ne_none_iff_exists'.1 h1
 exact hb.2 o x (by rw [ho]; exact hx) h2
theorem Conv.isAgg {s s' : St} {x x' : AV} (h : Conv s s' x x') : x'.isAgg = x.isAgg := by
 cases h with
 | d h => rw [h]
 | _ => rfl
theorem frozen_I {cx : Cx} {N : Nat × Nat} {s s' : St} {a : Act} {E : Env} (h : R0 cx s a E) (hw : Weak N s s') {o b : Nat} {ob : OB} (ho : s.obj o = some ob) (ho' : s'.obj o = none) (hb : E.has o b) : (wenv s s' E).I b := by
 have hne : s.obj o ≠ none := by rw [ho]; simp
 refine ⟨?_,fun o' ob' h' e => ?_⟩
 ·show E.J b
  rw [h.may]
  exact h.fresh b (h.own o b hne hb)
 ·obtain ⟨h1,h2⟩ := wenv_has hw h.obj e
  have := h.inj o' o b h1 hne h2 hb
  subst this
  have h'' : s'.obj o' = some ob' := h'
  rw [ho'] at h''; cases h''
theorem qz1 {N : Nat × Nat} {s s' : St} {E : Env} (hw : Weak N s s') (ho : E.obj = s.obj) : ∀ b,E.I b → b < E.w.heap.size → (wenv s s' E).I b ∧ (wenv s s' E).w.heap[b]? = E.w.heap[b]? :=
 fun b hb _ => ⟨wenv_I hw ho hb,rfl⟩
theorem caB {w : World} {b : Nat} {cs sp : List Value} {e : TypeId} {fz : Nat × Nat} (h : w.heap[b]? = some (.cells (cs ++ sp).toArray e fz)) : CellsAt w b 0 cs := by
 intro i v hi
 simp only [World.cell?,h,Nat.zero_add]
 have hlt := (List.getElem?_eq_some_iff.1 hi).1
 simp [List.getElem?_append_left hlt,hi]
mutual
theorem CR.conv {cx : Cx} {N : Nat × Nat} {s s' : St} {a : Act} {E : Env} (h : R0 cx s a E) (hw : Weak N s s') : ∀ {x x' : AV} {cs : List Value},Conv s s' x x' → CR E x cs → CR (wenv s s' E) x' cs
 | _,_,_,.d e,.d k => by subst e; exact .d (k.mono (Nat.le_refl _) (qz1 hw h.obj))
 | _,_,_,.nil0,.d k => by
  cases k with
  | v _ => exact .d .sl0
 | _,_,_,.nila h1 h2,.d k => by
  cases k with
  | v _ => exact .arr (E := wenv s s' E) h2 (Nat.le_refl _) (fun _ => by rw [qI5 h1]; rfl) rfl
 | _,_,_,.ptr h1 h2,.ptr ho _ hb => .ptr (E := wenv s s' E) h2 rfl ((qS2 h1).trans hb)
 | _,_,_,.ptro h1 h2,.ptr ho _ hb => .ptr (E := wenv s s' E) h2 rfl ((qS2 h1).trans hb)
 | _,_,_,.bsl h1 h2,.bsl ho _ hb => .bsl (E := wenv s s' E) h2 rfl ((qS2 h1).trans hb)
 | _,_,_,.arr (rows := rows) (rows' := rows') h1 h2,.arr ho hl hv k1 => by
  rw [h.obj,h1] at ho
  cases ho
  have key : rows.length = rows'.length := by
   have := hw.objs _ _ h2
   cases this with
   | arr h3 hr => rw [h1] at h3; cases h3; rw [hr]
   | arr0 h3 hk hr => rw [h1] at h3; cases h3; rw [hr]
   | arrU h3 hk hr => rw [h1] at h3; cases h3; rw [hr]
   | nil h3 => rw [h1] at h3; cases h3
  refine .arr (E := wenv s s' E) h2 (Nat.le_refl _) (fun _ => ?_) k1
  rw [qS2 h1,qv4 h1,← key]
  exact hv rfl
 | _,_,_,.csl (rows := rows) (rows' := rows') h1 h2,.csl ho hl hv k1 => by
  rw [h.obj,h1] at ho
  cases ho
  refine .csl (E := wenv s s' E) h2 (Nat.le_refl _) (fun _ => ?_) k1
  rw [qS2 h1,qv4 h1]
  exact hv rfl
 | _,_,_,.frz (o := o) h1 h2 hr,.arr ho hl hv k1 => by
  subst hr
  rw [h.obj,h1] at ho
  cases ho
  rw [hv rfl]
  rcases h.objs _ _ h1 with ⟨q1,q2,q3⟩ | ⟨b,cs,sp,e,q1,q2,q3,q4,q5,q6⟩
  ·rw [q1,q2]; exact .d .sl0
  ·rw [q1]
   refine .d (.sl (frozen_I h hw h1 h2 (.inl q1)) ((h.objs _ _ h1).lt q1) (q2.mono (Nat.le_refl _) (qz1 hw h.obj)) q3 (caB q4) q6)
 | _,_,_,.map h1 h2,.map ho hb => .map (E := wenv s s' E) h2 ((qS2 h1).trans hb)
 | _,_,_,.it h1 h2,.it ho hb => .it (E := wenv s s' E) h2 ((qS2 h1).trans hb)
 | _,_,_,.pin (o := o) h1 h2,.ptr ho _ hb => by
  obtain ⟨b',cs,e,q1,q2,q3,q4⟩ := h.objs _ _ h1
  rw [hb] at q1; cases q1
  cases q2 with
  | d q2 => exact .d (.at (frozen_I h hw h1 h2 (.inl hb)) ((h.objs _ _ h1).lt hb) (q2.mono (Nat.le_refl _) (qz1 hw h.obj)) (caB (sp := []) (by rw [zJ]; exact q4)))
 | _,_,_,.st k,.st c => .st (CRs.conv h hw k c)
 | _,_,_,.flat k,.st c => .d (.st (CRs.flat (CRs.conv h hw k c)))
 | _,_,_,.tup k,.tup c => .tup (VRs.conv h hw k c)
 | _,_,_,.fn k k',.fn c c' => .fn (VRs.conv h hw k c) (VRs.conv h hw k' c')
 | _,_,_,.ifc k,.ifc c => by rw [← k.isAgg]; exact .ifc (CR.conv h hw k c)
 | _,_,_,.sx e,.sx hI hb hr hs hc => by subst e; exact .sx (wenv_I hw h.obj hI) hb (hr.mono (Nat.le_refl _) (qz1 hw h.obj)) hs hc
 | _,_,_,.sxd e,.sx hI hb hr hs hc => by subst e; exact .d (.sl (wenv_I hw h.obj hI) hb (hr.mono (Nat.le_refl _) (qz1 hw h.obj)) hs hc (Nat.le_refl _))
theorem CRs.conv {cx : Cx} {N : Nat × Nat} {s s' : St} {a : Act} {E : Env} (h : R0 cx s a E) (hw : Weak N s s') : ∀ {x x' : List AV} {cs : List Value},Convs s s' x x' → CRs E x cs → CRs (wenv s s' E) x' cs
 | _,_,_,.nil,.nil => .nil
 | _,_,_,.cons k ks,.cons c cs => .cons (CR.conv h hw k c) (CRs.conv h hw ks cs)
theorem VRs.conv {cx : Cx} {N : Nat × Nat} {s s' : St} {a : Act} {E : Env} (h : R0 cx s a E) (hw : Weak N s s') : ∀ {x x' : List AV} {cs : List Value},Convs s s' x x' → VRs E x cs → VRs (wenv s s' E) x' cs
 | _,_,_,.nil,.nil => .nil
 | _,_,_,.cons k ks,.cons c cs => by rw [← k.isAgg]; exact .cons (CR.conv h hw k c) (VRs.conv h hw ks cs)
theorem CRs.flat {E : Env} : ∀ {ds : List D} {cs : List Value},CRs E (ds.map .d) cs → DRs E.I E.w ds cs
 | [],_,.nil => .nil
 | _ :: _,_,.cons (.d c) cs => .cons c (CRs.flat cs)
end
mutual
theorem ODR.conv {cx : Cx} {N : Nat × Nat} {s s' : St} {a : Act} {E : Env} (h : R0 cx s a E) (hw : Weak N s s') : ∀ {x x' : OD} {cs : List Value} {F : List Nat},ODC s s' x x' → ODR E x cs F → ODR (wenv s s' E) x' cs F
 | _,_,_,_,.av k,.av c h1 => .av (CR.conv h hw k c) h1
 | _,_,_,_,.st k,.st c => .st (ODRs.conv h hw k c)
 | _,_,_,_,.map e,.map hb hl hm hn ht => by
  subst e
  refine .map hb hl (fun i k x ent p1 p2 => ?_) hn ht
  obtain ⟨ck,cx,r1,r2,r3,r4⟩ := hm i k x ent p1 p2
  exact ⟨ck,cx,r1.mono (Nat.le_refl _) (qz1 hw h.obj),r2.mono (Nat.le_refl _) (qz1 hw h.obj),r3,r4⟩
 | _,_,_,_,.arr e,.arr0 => by subst e; exact .arr0
 | _,_,_,_,.arr e,.arr hr hs hb hl hc => by subst e; exact .arr (hr.mono (Nat.le_refl _) (qz1 hw h.obj)) hs hb hl hc
 | _,_,_,_,.box k,.box c hb => .box (ODR.conv h hw k c) hb
theorem ODRs.conv {cx : Cx} {N : Nat × Nat} {s s' : St} {a : Act} {E : Env} (h : R0 cx s a E) (hw : Weak N s s') : ∀ {x x' : List OD} {cs : List Value} {F : List Nat},ODCs s s' x x' → ODRs E x cs F → ODRs (wenv s s' E) x' cs F
 | _,_,_,_,.nil,.nil => .nil
 | _,_,_,_,.cons k ks,.cons c cs => .cons (ODR.conv h hw k c) (ODRs.conv h hw ks cs)
end
theorem OConv.or {cx : Cx} {N : Nat × Nat} {s s' : St} {a : Act} {E : Env} (h : R0 cx s a E) (hw : Weak N s s') {o : Nat} {ob' : OB} (ho' : s'.obj o = some ob') : OConv N s s' o ob' → OR (wenv s s' E) o ob'
 | .box h1 hx => by
  obtain ⟨b,cs,e,q1,q2,q3,q4⟩ := h.objs _ _ h1
  exact ⟨b,cs,e,(qS2 h1).trans q1,q2.conv h hw hx,q3,q4⟩
 | .arr h1 hr => by
  subst hr
  rcases h.objs _ _ h1 with ⟨q1,q2,q3⟩ | ⟨b,cs,sp,e,q1,q2,q3,q4,q5,q6⟩
  ·exact .inl ⟨(qS2 h1).trans q1,q2,(qv4 h1).trans q3⟩
  ·exact .inr ⟨b,cs,sp,e,(qS2 h1).trans q1,q2.mono (Nat.le_refl _) (qz1 hw h.obj),q3,q4,by rw [qv4 h1]; exact q5,by rw [qv4 h1]; exact q6⟩
 | .arr0 h1 _ hr => by
  subst hr
  rcases h.objs _ _ h1 with ⟨q1,q2,q3⟩ | ⟨b,cs,sp,e,q1,q2,q3,q4,q5,q6⟩
  ·exact .inl ⟨(qS2 h1).trans q1,q2,(qv4 h1).trans q3⟩
  ·exact .inr ⟨b,cs,sp,e,(qS2 h1).trans q1,q2.mono (Nat.le_refl _) (qz1 hw h.obj),q3,q4,by rw [qv4 h1]; exact q5,by rw [qv4 h1]; exact q6⟩
 | .arrU h1 _ hr => by
  subst hr
  rcases h.objs _ _ h1 with ⟨q1,q2,q3⟩ | ⟨b,cs,sp,e,q1,q2,q3,q4,q5,q6⟩
  ·exact .inl ⟨(qS2 h1).trans q1,q2,(qv4 h1).trans q3⟩
  ·exact .inr ⟨b,cs,sp,e,(qS2 h1).trans q1,q2.mono (Nat.le_refl _) (qz1 hw h.obj),q3,q4,by rw [qv4 h1]; exact q5,by rw [qv4 h1]; exact q6⟩
 | .map h1 he => by
  subst he
  obtain ⟨b,ents,clock,q1,q2,q3,q4,q5,q6,q7,q8⟩ := h.objs _ _ h1
  refine ⟨b,ents,clock,(qS2 h1).trans q1,q2,q3,fun i k x ent p1 p2 => ?_,q5,q6,q7,q8.trans (qv4 h1).symm⟩
  obtain ⟨ck,cx,r1,r2,r3,r4⟩ := q4 i k x ent p1 p2
  exact ⟨ck,cx,r1.mono (Nat.le_refl _) (qz1 hw h.obj),r2.mono (Nat.le_refl _) (qz1 hw h.obj),r3,r4⟩
 | .map0 h1 _ he _ => by
  subst he
  obtain ⟨b,ents,clock,q1,q2,q3,q4,q5,q6,q7,q8⟩ := h.objs _ _ h1
  refine ⟨b,ents,clock,(qS2 h1).trans q1,q2,q3,fun i k x ent p1 p2 => ?_,q5,q6,q7,q8.trans (qv4 h1).symm⟩
  obtain ⟨ck,cx,r1,r2,r3,r4⟩ := q4 i k x ent p1 p2
  exact ⟨ck,cx,r1.mono (Nat.le_refl _) (qz1 hw h.obj),r2.mono (Nat.le_refl _) (qz1 hw h.obj),r3,r4⟩
 | .iter h1 hm hm' hl he hcu => by
  subst hl; subst he
  obtain ⟨b,since,seen,last,q1,q2,q3,q4⟩ := h.objs _ _ h1
  refine ⟨b,since,seen,last,(qS2 h1).trans q1,by rw [qS2 hm]; exact q2,fun es hes => ?_,_,_,hm',Nat.le_refl _⟩
  have hes' : s'.obj _ = _ := hes
  rw [hm'] at hes'
  cases hes'
  rw [qv4 hm]
  obtain ⟨r1,r2,r3,r4,r5⟩ := q3 _ (by rw [h.obj]; exact hm)
  refine ⟨r1,r2,r3,r4,fun kv e => ?_⟩
  rcases hcu with hcu | hcu
  ·rw [hcu] at e; cases e
  ·exact r5 kv (hcu.trans e)
 | .nil h1 => .inl ⟨qI5 h1,rfl,by simp [wenv,h1]⟩
 | .own h1 hx => by
  obtain ⟨b,cs,e,q1,q2,q3,q4,q5,q6⟩ := h.objs _ _ h1
  exact ⟨b,cs,e,(qS2 h1).trans q1,q2.conv h hw hx,q3,q4,q5,q6⟩
theorem R.weak {cx : Cx} {s s' : St} {a : Act} {w : World} (hR : R cx s a w) (hw : Weak cx.nk s s') : R cx s' a w := by
 obtain ⟨E,rfl,h⟩ := hR
 have live : ∀ o b,s'.obj o ≠ none → (wenv s s' E).has o b → s.obj o ≠ none ∧ E.has o b := fun o b _ h2 => wenv_has hw h.obj h2
 refine ⟨wenv s s' E,rfl,rfl,h.may,h.fresh,h.inK,fun o ob ho => ?_,h.defers,h.size,fun t x' hx => ?_,fun o ob' ho => (hw.objs o ob' ho).or h hw ho,fun o o' b h1 h2 e1 e2 => ?_,fun o b h1 e1 => ?_,h.keeps⟩
 ·obtain ⟨ob',h1,h2⟩ := h.hist o ob ho
  rw [h.obj] at h1
  have hlt := h.inK o (by rw [ho]; simp)
  have hne := hw.drop o hlt (by rw [h1]; simp)
  obtain ⟨ob'',h3⟩ := Option.ne_none_iff_exists'.1 hne
  refine ⟨ob'',h3,h2.trans (E := E) ?_⟩
  have hc := hw.objs _ _ h3
  cases hc with
  | box q _ => rw [q] at h1; cases h1; exact qS2 q
  | arr q hr => subst hr; rw [q] at h1; cases h1; exact ⟨Nat.le_refl _,fun _ => ⟨qS2 q,qv4 q,rfl,rfl⟩⟩
  | arr0 q hk _ => have := Nat.le_of_ble_eq_true hk; omega
  | arrU q hc hr => subst hr; rw [q] at h1; cases h1; exact ⟨hc,fun _ => ⟨qS2 q,qv4 q,rfl,rfl⟩⟩
  | map q he => subst he; rw [q] at h1; cases h1; exact ⟨qS2 q,Nat.le_refl _,fun _ => ⟨rfl,rfl,qv4 q⟩⟩
  | map0 q hk _ _ => have := Nat.le_of_ble_eq_true hk; omega
  | iter q _ _ _ _ _ => rw [q] at h1; cases h1; exact qS2 q
  | nil q => rw [q] at h1; cases h1
  | own q _ => rw [q] at h1; cases h1; exact qS2 q
 ·obtain ⟨x,h1,h2⟩ := hw.slots t x' hx
  obtain ⟨cs,k1,k2⟩ := h.slots t x h1
  exact ⟨cs,k1.conv h hw h2,by rw [h2.isAgg]; exact k2⟩
 ·obtain ⟨p1,p2⟩ := live o b h1 e1
  obtain ⟨q1,q2⟩ := live o' b h2 e2
  exact h.inj _ _ _ p1 q1 p2 q2
 ·obtain ⟨p1,p2⟩ := live o b h1 e1
  exact h.own _ _ p1 p2
theorem cwW {P : Program} {N : Nat × Nat} {c : Code} {Q : Exit → St → Prop} {s s' : St} (hw : Weak N s s') (h : CWp P N c Q s') : CWp P N c Q s :=
 fun cx a w hn hR => h cx a w hn (hR.weak (by rw [hn]; exact hw))
def Leads (N : Nat × Nat) (s s' : St) : Prop := ∀ (cx : Cx) (a : Act) (w : World),cx.nk = N → R cx s a w → R cx s' a w
theorem Leads.w {N : Nat × Nat} {s s' : St} (h : Weak N s s') : Leads N s s' := fun _ _ _ hn hR => hR.weak (by rw [hn]; exact h)
theorem Leads.trans {N : Nat × Nat} {s s' s'' : St} (h : Leads N s s') (k : Leads N s' s'') : Leads N s s'' := fun cx a w hn hR => k cx a w hn (h cx a w hn hR)
theorem cwL {P : Program} {N : Nat × Nat} {c : Code} {Q : Exit → St → Prop} {s s' : St} (hw : Leads N s s') (h : CWp P N c Q s') : CWp P N c Q s :=
 fun cx a w hn hR => h cx a w hn (hw cx a w hn hR)
theorem cwP {P : Program} {N : Nat × Nat} {c : Code} {Q : Exit → St → Prop} {s : St} (h : CWp P N c (fun e s' => ∃ s'',Leads N s' s'' ∧ Q e s'') s) : CWp P N c Q s := fun cx a w hn hR => by
 refine wp_mono (h cx a w hn hR) ?_
 rintro e a' w' ⟨s',⟨s'',h1,h2⟩,hR'⟩
 exact ⟨s'',h2,h1 cx a' w' hn hR'⟩
def lk {α : Type} : List (Nat × α) → Nat → Option α
 | [],_ => none
 | (d,x) :: l,t => bif Nat.beq t d then some x else lk l t
def St.of (l : List (Nat × AV)) (m : List (Nat × OB)) : St := ⟨lk l,lk m⟩
def wkS (s s' : St) : List (Nat × AV) → Prop
 | [] => True
 | (t,x) :: l => (∃ y,s.slot t = some y ∧ Conv s s' y x) ∧ wkS s s' l
def wkO (N : Nat × Nat) (s s' : St) : List (Nat × OB) → Prop
 | [] => True
 | (o,x) :: l => OConv N s s' o x ∧ wkO N s s' l
theorem q61 {α : Type} {x : α} {t : Nat} : ∀ {l : List (Nat × α)},lk l t = some x → (t,x) ∈ l
 | (d,y) :: l,h => by
  simp only [lk] at h
  cases hb : Nat.beq t d with
  | true => simp only [hb,zE,Option.some.injEq] at h; rw [h,Nat.eq_of_beq_eq_true hb]; simp
  | false => simp only [hb,zD] at h; exact List.mem_cons_of_mem _ (q61 h)
theorem wkS_mem {s s' : St} {t : Nat} {x : AV} : ∀ {l : List (Nat × AV)},wkS s s' l → (t,x) ∈ l → ∃ y,s.slot t = some y ∧ Conv s s' y x
 | (d,y) :: l,h,hm => by
  rcases zM.1 hm with e | e
  ·cases e; exact h.1
  ·exact wkS_mem h.2 e
theorem wkO_mem {N : Nat × Nat} {s s' : St} {t : Nat} {x : OB} : ∀ {l : List (Nat × OB)},wkO N s s' l → (t,x) ∈ l → OConv N s s' t x
 | (d,y) :: l,h,hm => by
  rcases zM.1 hm with e | e
  ·cases e; exact h.1
  ·exact wkO_mem h.2 e
theorem wkF {N : Nat × Nat} {s : St} {l : List (Nat × AV)} {m : List (Nat × OB)} (h1 : wkS s (.of l m) l) (h2 : wkO N s (.of l m) m) (h3 : ∀ o,o < N.2 → s.obj o ≠ none → lk m o ≠ none) : Weak N s (.of l m) :=
 ⟨fun _ _ h => wkS_mem h1 (q61 h),fun _ _ h => wkO_mem h2 (q61 h),h3⟩
theorem qM {s : St} {m : List (Nat × OB)} {n : Nat} : ∀ o,o < (n,0).2 → s.obj o ≠ none → lk m o ≠ none := fun _ h => absurd h (Nat.not_lt_zero _)
def q96 (E : Env) : Prop := (∀ o ob,E.obj o = some ob → OR E o ob) ∧ ∀ o o' b,E.obj o ≠ none → E.obj o' ≠ none → E.has o b → E.has o' b → o = o'
def Env.T (E : Env) (b : Nat) : Prop := ∃ o,E.obj o ≠ none ∧ E.has o b
def Ret (E : Env) (Post : AV → (Nat → Option OB) → Prop) (e : Ending) (w' : World) : Prop :=
 ∃ v res E',e = .returned v ∧ E'.w = w' ∧ Post res E'.obj ∧ VR E' res v ∧ q96 E' ∧ (∀ o b,E'.obj o ≠ none → E'.has o b → E.w.heap.size ≤ b ∨ E.T b) ∧
  Keeps ⟨(0,0),E,E.T,E.J⟩ w' ∧ (∀ b,E'.J b → E.J b ∨ E.w.heap.size ≤ b ∨ E.T b) ∧ (∀ o ob,E.obj o = some ob → ∃ ob',E'.obj o = some ob' ∧ OExt E E' o ob ob')
def FnOk (P : Program) (f : FuncId) (args : List AV) (k : Nat) (oin : Nat → Option OB) (Post : AV → (Nat → Option OB) → Prop) : Prop :=
 (∀ o,oin o ≠ none → o < k) → ∀ (E : Env) (vals : List Value),E.obj = oin → q96 E → VRs E args vals → Calls P f vals.toArray E.w (Ret E Post)
def ResOk (P : Program) (fn : Func) (s : St) (res : AV) : Prop := ∀ (cx : Cx) (a : Act) (E : Env),R0 cx s a E → ∃ v,(results fn a.tmps).run P E.w = .ok v E.w ∧ VR E res v
theorem VRs.get {E : Env} : ∀ {xs : List AV} {vs : List Value},VRs E xs vs → xs.length = vs.length ∧ ∀ (t : Nat) (x : AV),xs[t]? = some x → ∃ v,vs[t]? = some v ∧ VR E x v
 | _,_,.nil => ⟨rfl,fun _ _ h => by simp at h⟩
 | _,_,.cons h hs => by
  obtain ⟨h1,h2⟩ := VRs.get hs
  refine ⟨by simp [h1],fun t x ht => ?_⟩
  cases t with
  | zero => simp at ht; subst ht; exact ⟨_,rfl,_,h,rfl⟩
  | succ t => simp at ht; obtain ⟨v,k1,k2⟩ := h2 t x ht; exact ⟨v,by simpa using k1,k2⟩
theorem fnO {P : Program} {f : FuncId} {fn : Func} {c : Code} {args : List AV} {k : Nat} {oin : Nat → Option OB} {Post : AV → (Nat → Option OB) → Prop} (hf : P.funcs[f]? = some fn) (hb : fn.body = some c)
  (hn : Nat.ble args.length fn.ntmps = true)
  (h : CWp P (fn.ntmps,k) c (fun e s' => (e = .normal ∨ e = .ret) ∧ ∃ res,ResOk P fn s' res ∧ Post res s'.obj) ⟨fun t => args[t]?,oin⟩) : FnOk P f args k oin Post := by
 intro hk E vals hE hok hargs
 obtain ⟨hl,hget⟩ := hargs.get
 have hn' := Nat.le_of_ble_eq_true hn
 refine calls_of_wp hf hb ?_
 let J' : Nat → Prop := fun b => E.J b ∨ E.w.heap.size ≤ b ∨ E.T b
 let E0 : Env := { E with J := J' }
 have ext : Ext E E0 := by
  refine ⟨Nat.le_refl _,fun b hb _ => ⟨⟨.inl hb.1,hb.2⟩,rfl⟩,fun o ob ho => ⟨ob,ho,?_⟩⟩
  cases ob <;> simp [OExt,E0]
 have ext0 : ∀ o ob,E.obj o = some ob → ∃ ob',E0.obj o = some ob' ∧ OExt E E0 o ob ob' := ext.live
 have hR : R0 ⟨(fn.ntmps,k),E,E.T,J'⟩ ⟨fun t => args[t]?,oin⟩ { tmps := vals.toArray ++ Array.replicate (fn.ntmps - vals.toArray.size) undef,defers := [] } E0 := by
  refine ⟨hE,rfl,fun b hb => .inr hb,fun o ho => hk o (by rw [← hE]; exact ho),ext0,rfl,by simp; omega,fun t x ht => ?_,fun o ob ho => ?_,fun o o' b h1 h2 e1 e2 => hok.2 o o' b (by rw [hE]; exact h1) (by rw [hE]; exact h2) e1 e2,
   fun o b h1 e1 => .inr ⟨o,by rw [hE]; exact h1,e1⟩,⟨rfl,rfl,rfl,Nat.le_refl _,fun _ _ _ => rfl,fun _ => Nat.le_refl _⟩⟩
  ·obtain ⟨v,h1,h2⟩ := hget t x ht
   have hlt := (List.getElem?_eq_some_iff.1 h1).1
   have : (vals.toArray ++ Array.replicate (fn.ntmps - vals.toArray.size) undef).getD t undef = v := by
    rw [Array.getD_eq_getD_getElem?,Array.getElem?_append_left (by simpa using hlt)]
    simp [h1]
   simp only [this]
   exact h2.ext ext
  ·have := hok.1 o ob (by rw [hE]; exact ho)
   exact this.ext ext (by rw [hE]; exact ho) rfl rfl rfl rfl (fun _ _ => rfl) (fun m ver l cu e => ⟨rfl,fun es hes => ⟨hes,rfl,rfl⟩,fun h => h⟩)
 refine wp_mono (h ⟨(fn.ntmps,k),E,E.T,J'⟩ _ _ rfl ⟨E0,rfl,hR⟩) ?_
 rintro e a w' ⟨s',⟨he,res,hres,hpost⟩,E',rfl,hR'⟩
 obtain ⟨v,h1,h2⟩ := hres _ _ _ hR'
 have fin : Ret E Post (.returned v) E'.w := by
  refine ⟨v,res,E',rfl,rfl,by rw [hR'.obj]; exact hpost,h2,⟨fun o ob ho => hR'.objs o ob (by rw [← hR'.obj]; exact ho),fun o o' b p1 p2 e1 e2 => hR'.inj o o' b (by rw [← hR'.obj]; exact p1) (by rw [← hR'.obj]; exact p2) e1 e2⟩,
   fun o b p1 e1 => hR'.own o b (by rw [← hR'.obj]; exact p1) e1,⟨hR'.keeps.os,hR'.keeps.tape,hR'.keeps.output,hR'.keeps.size,hR'.keeps.block,hR'.keeps.drawn⟩,fun b hb => ?_,hR'.hist⟩
  have := hR'.may
  rw [this] at hb
  exact hb
 rcases he with rfl | rfl
 ·exact ⟨hR'.defers,v,h1,fin⟩
 ·exact ⟨hR'.defers,v,h1,fin⟩
end Go.Val
namespace Go.Val
open Go.RowKit
variable [Drw]
inductive G (ops : Array Oper) (s : St) : Option (Nat × Bool) → List Nat → Prop
 | no : G ops s none []
 | yes {j dj : Nat} {want b : Bool} (hj : (ops[j]?).bind (·.dst) = some dj) (hs : s.slot dj = some (.d (.v (.bool b)))) (hb : b = want) : G ops s (some (j,want)) [dj]
theorem yielded_of {ops : Array Oper} {cx : Cx} {s : St} {a : Act} {E : Env} (h : R0 cx s a E) {j dj : Nat} {b : Bool} (hj : (ops[j]?).bind (·.dst) = some dj) (hs : s.slot dj = some (.d (.v (.bool b)))) :
  yielded ops a.tmps j = some b := by
 have hv := (h.slots _ _ hs).sc
 unfold yielded
 rw [hj]
 simp only [zA]
 rw [Array.getD_eq_getD_getElem?] at hv
 cases hq : a.tmps[dj]? with
 | none => simp [hq,undef] at hv
 | some v => simp [hq] at hv; subst hv; rfl
theorem G.wanted {ops : Array Oper} {s s' : St} {o : Oper} {gs : List Nat} (hg : G ops s o.guard gs) (hs : ∀ t ∈ gs,s'.slot t = s.slot t) {cx : Cx} {a : Act} {E : Env} (h : R0 cx s' a E) :
  Region.wanted o (yielded ops a.tmps) = true := by
 unfold Region.wanted
 generalize o.guard = g at hg
 cases hg with
 | no => rfl
 | yes hj h1 hb =>
  simp only
  rw [yielded_of h hj (by rw [hs _ (by simp)]; exact h1),hb]
  simp
section
variable {P : Program} {N : Nat × Nat} {ops : Array Oper} {i : Nat} {s : St}
theorem vCo {o : Oper} {d : Nat} {gs rs ro : List Nat} {x : AV} {wo : List (Nat × OB)} (ho : ops[i]? = some o) (hdst : o.dst = some d) (hd : Nat.ble (d + 1) N.1 = true) (hg : G ops s o.guard gs)
  (h : ∀ s',(∀ t ∈ rs,s'.slot t = s.slot t) → (∀ k ∈ ro,s'.obj k = s.obj k) → ∀ (cx : Cx) (a : Act) (E : Env),cx.nk = N → R0 cx s' a E →
   ∃ v E',(execOp a.eval o).run P E.w = .ok (.value v) E'.w ∧ VR E' x v ∧ R0 cx { s' with obj := q52 s'.obj wo } a E') :
  Valid P N ops i ⟨gs ++ rs,ro,some (d,some x),wo⟩ s := by
 refine ⟨o,ho,fun s' hs Q cx a w hn hR => ?_⟩
 obtain ⟨E,rfl,hR0⟩ := hR
 rw [if_pos (hg.wanted (fun t ht => hs.1 t (zL.2 (.inl ht))) hR0)]
 obtain ⟨v,E',h1,h2,h3⟩ := h s' (fun t ht => hs.1 t (zL.2 (.inr ht))) hs.2 cx a E hn hR0
 unfold Oper.wp
 rw [h1]
 simp only [Oper.upon,hdst]
 refine ⟨E',rfl,?_⟩
 have := h3.put h2 (d := d) (by rw [hn]; exact Nat.le_of_ble_eq_true hd)
 exact this
theorem qs4 {o : Oper} {gs rs ro : List Nat} {wo : List (Nat × OB)} (ho : ops[i]? = some o) (hdst : o.dst = none) (hg : G ops s o.guard gs)
  (h : ∀ s',(∀ t ∈ rs,s'.slot t = s.slot t) → (∀ k ∈ ro,s'.obj k = s.obj k) → ∀ (cx : Cx) (a : Act) (E : Env),cx.nk = N → R0 cx s' a E →
   ∃ r E',(execOp a.eval o).run P E.w = .ok r E'.w ∧ (r = .skip ∨ ∃ v,r = .value v) ∧ R0 cx { s' with obj := q52 s'.obj wo } a E') :
  Valid P N ops i ⟨gs ++ rs,ro,none,wo⟩ s := by
 refine ⟨o,ho,fun s' hs Q cx a w hn hR => ?_⟩
 obtain ⟨E,rfl,hR0⟩ := hR
 rw [if_pos (hg.wanted (fun t ht => hs.1 t (zL.2 (.inl ht))) hR0)]
 obtain ⟨r,E',h1,h2,h3⟩ := h s' (fun t ht => hs.1 t (zL.2 (.inr ht))) hs.2 cx a E hn hR0
 unfold Oper.wp
 rw [h1]
 rcases h2 with rfl | ⟨v,rfl⟩
 ·simp only [Oper.upon,hdst]; exact ⟨E',rfl,h3⟩
 ·simp only [Oper.upon,hdst]; exact ⟨E',rfl,h3⟩
theorem yielded_undef {ops : Array Oper} {cx : Cx} {s : St} {a : Act} {E : Env} (h : R0 cx s a E) {j dj : Nat} (hj : (ops[j]?).bind (·.dst) = some dj) (hs : s.slot dj = some (.tup [])) :
  yielded ops a.tmps j = none := by
 obtain ⟨cs,h1,h2⟩ := h.slots _ _ hs
 have hv : a.tmps.getD dj undef = .tuple #[] := by
  rw [h2]
  cases h1 with
  | tup h => cases h; rfl
 unfold yielded
 rw [hj]
 rw [Array.getD_eq_getD_getElem?] at hv
 simp only [Option.bind]
 cases hq : a.tmps[dj]? with
 | none => rfl
 | some v => simp [hq] at hv; subst hv; rfl
theorem qj {d j dj : Nat} {want b : Bool} {op : Op} {ty : TypeId} {pos : String} {af : Array Edge} (ho : ops[i]? = some ⟨some d,op,ty,pos,af,some (j,want)⟩) (hd : Nat.ble (d + 1) N.1 = true)
  (hj : (ops[j]?).bind (·.dst) = some dj) (hs : s.slot dj = some (.d (.v (.bool b)))) (hb : b = !want) : Valid P N ops i ⟨[dj],[],some (d,some (.tup [])),[]⟩ s := by
 refine ⟨_,ho,fun s' hs' Q cx a w hn hR => ?_⟩
 obtain ⟨E,rfl,hR0⟩ := hR
 have hy := yielded_of hR0 hj (by rw [hs'.1 _ (by simp)]; exact hs)
 have : Region.wanted (⟨some d,op,ty,pos,af,some (j,want)⟩ : Oper) (yielded ops a.tmps) = false := by
  simp only [Region.wanted,hy,hb]; cases want <;> rfl
 rw [if_neg (by rw [this]; simp)]
 exact ⟨E,rfl,hR0.put (d := d) ⟨[undef],.tup .nil,rfl⟩ (by rw [hn]; exact Nat.le_of_ble_eq_true hd)⟩
theorem q45 {d j dj : Nat} {want : Bool} {op : Op} {ty : TypeId} {pos : String} {af : Array Edge} (ho : ops[i]? = some ⟨some d,op,ty,pos,af,some (j,want)⟩) (hd : Nat.ble (d + 1) N.1 = true)
  (hj : (ops[j]?).bind (·.dst) = some dj) (hs : s.slot dj = some (.tup [])) : Valid P N ops i ⟨[dj],[],some (d,some (.tup [])),[]⟩ s := by
 refine ⟨_,ho,fun s' hs' Q cx a w hn hR => ?_⟩
 obtain ⟨E,rfl,hR0⟩ := hR
 have hy := yielded_undef hR0 hj (by rw [hs'.1 _ (by simp)]; exact hs)
 have : Region.wanted (⟨some d,op,ty,pos,af,some (j,want)⟩ : Oper) (yielded ops a.tmps) = false := by
  simp only [Region.wanted,hy]; cases want <;> rfl
 rw [if_neg (by rw [this]; simp)]
 exact ⟨E,rfl,hR0.put (d := d) ⟨[undef],.tup .nil,rfl⟩ (by rw [hn]; exact Nat.le_of_ble_eq_true hd)⟩
theorem vAg {s s' : St} {x : Operand} (h : ∀ t ∈ opT x,s'.slot t = s.slot t) : s'.val x = s.val x := by
 cases x with
 | tmp t => exact h t (by simp [opT])
 | _ => rfl
theorem qg3 {cx : Cx} {s : St} {a : Act} {E : Env} (h : R0 cx s a E) : R0 cx { s with obj := q52 s.obj [] } a E := h
variable {d : Nat} {ty : TypeId} {pos : String} {af : Array Edge} {g : Option (Nat × Bool)} {gs : List Nat}
theorem vPu {op : Op} {rs : List Nat} {x : AV} (ho : ops[i]? = some ⟨some d,op,ty,pos,af,g⟩) (hd : Nat.ble (d + 1) N.1 = true) (hg : G ops s g gs)
  (h : ∀ s',(∀ t ∈ rs,s'.slot t = s.slot t) → ∀ (cx : Cx) (a : Act) (E : Env),R0 cx s' a E → ∃ v,(execOp a.eval ⟨some d,op,ty,pos,af,g⟩).run P E.w = .ok (.value v) E.w ∧ VR E x v) :
  Valid P N ops i ⟨gs ++ rs,[],some (d,some x),[]⟩ s :=
 vCo ho rfl hd hg fun s' hs _ cx a E _ hR => let ⟨v,h1,h2⟩ := h s' hs cx a E hR; ⟨v,E,h1,h2,qg3 hR⟩
theorem o_mv {x : Operand} {y : AV} (ho : ops[i]? = some ⟨some d,.move x,ty,pos,af,g⟩) (hd : Nat.ble (d + 1) N.1 = true) (hg : G ops s g gs) (hx : s.val x = some y) :
  Valid P N ops i ⟨gs ++ opT x,[],some (d,some y),[]⟩ s :=
 vPu ho hd hg fun s' hs cx a E hR => ⟨a.eval x,rfl,hR.val ((vAg hs).trans hx)⟩
theorem o_as {x : Operand} {y : AV} (ho : ops[i]? = some ⟨some d,.assign x,ty,pos,af,g⟩) (hd : Nat.ble (d + 1) N.1 = true) (hg : G ops s g gs) (hx : s.val x = some y) :
  Valid P N ops i ⟨gs ++ opT x,[],some (d,some y),[]⟩ s :=
 vPu ho hd hg fun s' hs cx a E hR => ⟨a.eval x,rfl,hR.val ((vAg hs).trans hx)⟩
theorem qt0 {p q : List Nat} {f g : Nat → Option AV} (h : ∀ t ∈ p ++ q,f t = g t) : (∀ t ∈ p,f t = g t) ∧ (∀ t ∈ q,f t = g t) :=
 ⟨fun t ht => h t (zL.2 (.inl ht)),fun t ht => h t (zL.2 (.inr ht))⟩
theorem qm {c x z : Operand} {b : Bool} {y : AV} (ho : ops[i]? = some ⟨some d,.pick c x z,ty,pos,af,g⟩) (hd : Nat.ble (d + 1) N.1 = true) (hg : G ops s g gs) (hc : s.val c = some (.d (.v (.bool b)))) (hb : b = true)
  (hx : s.val x = some y) : Valid P N ops i ⟨gs ++ (opT c ++ opT x),[],some (d,some y),[]⟩ s :=
 vPu ho hd hg fun s' hs cx a E hR => by
  have h1 := (hR.val ((vAg (qt0 hs).1).trans hc)).sc
  refine ⟨a.eval x,?_,hR.val ((vAg (qt0 hs).2).trans hx)⟩
  simp [execOp,h1,hb,asBool,Result.andThen]
theorem qk {c x z : Operand} {b : Bool} {y : AV} (ho : ops[i]? = some ⟨some d,.pick c x z,ty,pos,af,g⟩) (hd : Nat.ble (d + 1) N.1 = true) (hg : G ops s g gs) (hc : s.val c = some (.d (.v (.bool b)))) (hb : b = false)
  (hx : s.val z = some y) : Valid P N ops i ⟨gs ++ (opT c ++ opT z),[],some (d,some y),[]⟩ s :=
 vPu ho hd hg fun s' hs cx a E hR => by
  have h1 := (hR.val ((vAg (qt0 hs).1).trans hc)).sc
  refine ⟨a.eval z,?_,hR.val ((vAg (qt0 hs).2).trans hx)⟩
  simp [execOp,h1,hb,asBool,Result.andThen]
theorem qn {op : BinOp} {T T' : TypeId} {x z : Operand} {u v r : Value} (ho : ops[i]? = some ⟨some d,.binOp op T x z T',ty,pos,af,g⟩) (hd : Nat.ble (d + 1) N.1 = true) (hg : G ops s g gs)
  (hx : s.val x = some (.d (.v u))) (hz : s.val z = some (.d (.v v))) (hr : ∀ w,(eqGuard op T x z u v >>= fun _ => binOp op T u v : Sem Value).run P w = .ok r w) (h1 : one r = true) :
  Valid P N ops i ⟨gs ++ (opT x ++ opT z),[],some (d,some (.d (.v r))),[]⟩ s :=
 vPu ho hd hg fun s' hs cx a E hR => by
  have h1' := (hR.val ((vAg (qt0 hs).1).trans hx)).sc
  have h2' := (hR.val ((vAg (qt0 hs).2).trans hz)).sc
  refine ⟨r,?_,.of_sc h1⟩
  have := hr E.w
  simp only [execOp,h1',h2']
  rw [Sem.run_bind,this]
  rfl
theorem qb5 {T : TypeId} {x : Operand} {b : Bool} (ho : ops[i]? = some ⟨some d,.unOp .not T x,ty,pos,af,g⟩) (hd : Nat.ble (d + 1) N.1 = true) (hg : G ops s g gs) (hx : s.val x = some (.d (.v (.bool b)))) :
  Valid P N ops i ⟨gs ++ opT x,[],some (d,some (.d (.v (.bool (!b))))),[]⟩ s :=
 vPu ho hd hg fun s' hs cx a E hR => by
  have h1' := (hR.val ((vAg hs).trans hx)).sc
  exact ⟨.bool (!b),by simp [execOp,h1',Op.unary,Result.andThen],.of_sc rfl⟩
theorem qX5 {S T : TypeId} {x : Operand} {k k' : IntKind} {n : Int} (ho : ops[i]? = some ⟨some d,.convert S T x,ty,pos,af,g⟩) (hd : Nat.ble (d + 1) N.1 = true) (hg : G ops s g gs)
  (hx : s.val x = some (.d (.v (.int k n)))) (hS : P.underlying S = some (.int k)) (hT : P.underlying T = some (.int k')) :
  Valid P N ops i ⟨gs ++ opT x,[],some (d,some (.d (.v (.int k' (k'.wrap n))))),[]⟩ s :=
 vPu ho hd hg fun s' hs cx a E hR => by
  have h1' := (hR.val ((vAg hs).trans hx)).sc
  exact ⟨_,by simp [execOp,h1',convert,run_underlying hS,run_underlying hT,Result.andThen,Conv.intToInt],.of_sc rfl⟩
theorem qK0 {x : Operand} {k : Nat} {l : List AV} {y : AV} (ho : ops[i]? = some ⟨some d,.extract x k,ty,pos,af,g⟩) (hd : Nat.ble (d + 1) N.1 = true) (hg : G ops s g gs) (hx : s.val x = some (.tup l)) (hk : l[k]? = some y) :
  Valid P N ops i ⟨gs ++ opT x,[],some (d,some y),[]⟩ s :=
 vPu ho hd hg fun s' hs cx a E hR => by
  obtain ⟨cs,h1,h2⟩ := hR.val ((vAg hs).trans hx)
  cases h1 with
  | tup h1 =>
   obtain ⟨_,h3⟩ := h1.get
   obtain ⟨v,h4,h5⟩ := h3 k y hk
   refine ⟨v,?_,h5⟩
   simp [execOp,h2,mkV,AV.isAgg,Instr.extract,h4,Result.andThen]
theorem o_lenS {T : TypeId} {x : Operand} {b : ByteArray} (ho : ops[i]? = some ⟨some d,.call ⟨.builtin .len,#[x],#[T]⟩,ty,pos,af,g⟩) (hd : Nat.ble (d + 1) N.1 = true) (hg : G ops s g gs)
  (hx : s.val x = some (.d (.v (.string b)))) (hT : P.underlying T = some .string) : Valid P N ops i ⟨gs ++ opT x,[],some (d,some (.d (.v (.int .i64 b.size)))),[]⟩ s :=
 vPu ho hd hg fun s' hs cx a E hR => by
  have h1' := (hR.val ((vAg hs).trans hx)).sc
  exact ⟨_,by simp [execOp,resolve,invoke,builtin,Builtin.len_,h1',run_underlying hT,Result.andThen,goInt],.of_sc rfl⟩
theorem VR.sl_val {E : Env} {es : Nat} {rows : List D} {v : Value} (h : VR E (.d (.sl es rows)) v) : ∃ a cap,v = .slice a rows.length cap := by
 obtain ⟨cs,h1,h2⟩ := h
 cases h1 with
 | d h => cases h with
  | sl0 => exact ⟨_,_,h2⟩
  | sl => exact ⟨_,_,h2⟩
theorem o_len {T e : TypeId} {x : Operand} {es : Nat} {rows : List D} (ho : ops[i]? = some ⟨some d,.call ⟨.builtin .len,#[x],#[T]⟩,ty,pos,af,g⟩) (hd : Nat.ble (d + 1) N.1 = true) (hg : G ops s g gs)
  (hx : s.val x = some (.d (.sl es rows))) (hT : P.underlying T = some (.slice e)) : Valid P N ops i ⟨gs ++ opT x,[],some (d,some (.d (.v (.int .i64 rows.length)))),[]⟩ s :=
 vPu ho hd hg fun s' hs cx a E hR => by
  obtain ⟨b,cap,h1⟩ := (hR.val ((vAg hs).trans hx)).sl_val
  exact ⟨_,by simp [execOp,resolve,invoke,builtin,Builtin.len_,h1,run_underlying hT,Result.andThen,goInt],.of_sc rfl⟩
theorem o_lenA {T e : TypeId} {x : Operand} {o c es : Nat} {rows : List D} (ho : ops[i]? = some ⟨some d,.call ⟨.builtin .len,#[x],#[T]⟩,ty,pos,af,g⟩) (hd : Nat.ble (d + 1) N.1 = true) (hg : G ops s g gs)
  (hx : s.val x = some (.arr o c)) (hob : s.obj o = some (.arr c es rows)) (hT : P.underlying T = some (.slice e)) :
  Valid P N ops i ⟨gs ++ opT x,[o],some (d,some (.d (.v (.int .i64 rows.length)))),[]⟩ s :=
 vCo ho rfl hd hg fun s' hs ho' cx a E _ hR => by
  have hob' : s'.obj o = some (.arr c es rows) := (ho' o (by simp)).trans hob
  obtain ⟨cs,h1,h2⟩ := hR.val ((vAg hs).trans hx)
  cases h1 with
  | arr k1 k2 k3 k4 =>
   rw [hR.obj,hob'] at k1; cases k1
   have h3 : a.eval x = q66 (E.β o) rows.length (E.γ o) := by rw [h2]; exact k3 rfl
   have h4 : ∃ b cap,a.eval x = .slice b rows.length cap := by
    rw [h3]
    rcases hR.objs _ _ hob' with ⟨q1,q2,_⟩ | ⟨b,_,_,_,q1,_⟩
    ·rw [q1,q2]; exact ⟨_,_,rfl⟩
    ·rw [q1]; exact ⟨_,_,rfl⟩
   obtain ⟨b,cap,h5⟩ := h4
   exact ⟨_,E,by simp [execOp,resolve,invoke,builtin,Builtin.len_,h5,run_underlying hT,Result.andThen,goInt],.of_sc rfl,qg3 hR⟩
end
end Go.Val
namespace Go.Val
open Go.RowKit
variable [Drw]
def isAggDesc : TypeDesc → Bool
 | .struct _ | .array _ _ => true
 | _ => false
def aggB (P : Program) (T : TypeId) : Option Bool := (P.underlying T).map isAggDesc
def szB (P : Program) (T : TypeId) : Option Nat := (P.info? T).map (·.size)
def TA (P : Program) (T : TypeId) (b : Bool) (n : Nat) : Prop := aggB P T = some b ∧ szB P T = some n
def fldB (P : Program) (S : TypeId) (f : Nat) : Option (Nat × Nat) := match P.underlying S with
 | some (.struct fs) => (fs[f]?).bind fun x => (szB P x.type).map fun n => (x.offset,n)
 | _ => none
def slB (P : Program) (T : TypeId) : Option TypeId := match P.underlying T with
 | some (.slice e) => some e
 | _ => none
def arB (P : Program) (T : TypeId) : Option (Nat × TypeId) := match P.underlying T with
 | some (.array n e) => some (n,e)
 | _ => none
section
variable {P : Program} {w : World}
theorem q35 {T : TypeId} {b : Bool} (h : aggB P T = some b) : (isAgg T).run P w = .ok b w := by
 unfold aggB at h
 cases hu : P.underlying T with
 | none => simp [hu] at h
 | some d =>
  simp [hu] at h
  subst h
  unfold isAgg
  rw [Sem.run_bind,run_underlying hu]
  simp only [Result.andThen]
  cases d <;> rfl
theorem rSO {T n : Nat} (h : szB P T = some n) : (sizeOf T).run P w = .ok n w := by
 unfold szB at h
 cases hi : P.info? T with
 | none => simp [hi] at h
 | some i => simp [hi] at h; subst h; simp [sizeOf,typeInfo,hi,Result.andThen]
theorem qa0 {T e : TypeId} (h : slB P T = some e) : P.underlying T = some (.slice e) := by
 unfold slB at h
 split at h <;> simp_all
theorem qp5 {T : TypeId} {n : Nat} {e : TypeId} (h : arB P T = some (n,e)) : P.underlying T = some (.array n e) := by
 unfold arB at h
 split at h <;> simp_all
theorem q82 (b off j : Nat) : (⟨b,off,none⟩ : Addr).add j = ⟨b,off + j,none⟩ := by
 unfold Addr.add
 split <;> simp_all
theorem qv1 {T b off : Nat} {agg : Bool} {cs : List Value} (hT : TA P T agg cs.length) (hc : CellsAt w b off cs) (h1 : agg = false → cs.length = 1) :
  (loadVar T ⟨b,off,none⟩).run P w = .ok (mkV agg cs) w := by
 unfold loadVar
 rw [Sem.run_bind,q35 hT.1]
 simp only [Result.andThen]
 cases agg with
 | true =>
  simp only [if_true]
  rw [Sem.run_bind,rSO hT.2]
  simp only [Result.andThen]
  rw [Sem.run_bind,run_loadCells_list w _ cs (fun j v hj => by rw [q82]; exact hc j v hj)]
  rfl
 | false =>
  have hl := h1 rfl
  match cs,hl with
  | [v],_ =>
   have := hc 0 v rfl
   simp only [Bool.false_eq_true,if_false]
   rw [run_load,show w.cell? ⟨b,off,none⟩ = some v from this]
   rfl
theorem qM5 {S f off n b k : Nat} (h : fldB P S f = some (off,n)) (hn : n ≠ 0) : (Instr.fieldAt S (.pointer (some ⟨b,k,none⟩)) f).run P w = .ok (.pointer (some ⟨b,k + off,none⟩)) w := by
 unfold fldB at h
 cases hu : P.underlying S with
 | none => simp [hu] at h
 | some d =>
  cases d <;> simp only [hu] at h <;> try (cases h; done)
  rename_i fs
  obtain ⟨x,hx,h⟩ := Option.bind_eq_some_iff.1 h
  obtain ⟨n',hn',h⟩ := Option.map_eq_some_iff.1 h
  cases h
  simp only [Instr.fieldAt,Sem.run_bind,run_underlying hu,Result.andThen,hx,Instr.sureAddr,Sem.run_pure,fieldPlace,rSO hn',hn,if_false]
  rw [q82]
end
def AV.get : List Nat → AV → Option (AV × Nat)
 | [],x => some (x,0)
 | i :: p,.st ps => match ps[i]? with
  | some q => (AV.get p q).map fun r => (r.1,AV.sizes (ps.take i) + r.2)
  | none => none
 | i :: p,.d (.st ds) => match ds[i]? with
  | some q => (AV.get p (.d q)).map fun r => (r.1,D.sizes (ds.take i) + r.2)
  | none => none
 | _,_ => none
theorem CRs.split {E : Env} : ∀ (a : List AV) {b : List AV} {cs : List Value},CRs E (a ++ b) cs → ∃ c1 c2,cs = c1 ++ c2 ∧ CRs E a c1 ∧ CRs E b c2
 | [],_,cs,h => ⟨[],cs,rfl,.nil,h⟩
 | d :: a,_,_,h => by
  cases h with
  | cons h1 h2 =>
   obtain ⟨c1,c2,rfl,k1,k2⟩ := CRs.split a h2
   exact ⟨_,c2,by rw [zI],.cons h1 k1,k2⟩
theorem CRs.append {E : Env} : ∀ {a b : List AV} {cs cs' : List Value},CRs E a cs → CRs E b cs' → CRs E (a ++ b) (cs ++ cs')
 | _,_,_,_,.nil,h => h
 | _,_,_,_,.cons h hs,k => by rw [List.cons_append,zI]; exact .cons h (CRs.append hs k)
theorem cut_at {α : Type} {l : List α} {i : Nat} {x : α} (h : l[i]? = some x) : l = l.take i ++ (x :: l.drop (i + 1)) := by
 obtain ⟨hlt,hr⟩ := List.getElem?_eq_some_iff.1 h
 rw [← hr,List.getElem_cons_drop,List.take_append_drop]
theorem get_cr {E : Env} {y : AV} : ∀ (p : List Nat) {x : AV} {n : Nat} {cs : List Value},CR E x cs → AV.get p x = some (y,n) → ∃ c1 c2 c3,cs = c1 ++ (c2 ++ c3) ∧ c1.length = n ∧ CR E y c2
 | [],x,n,cs,h,hg => by
  simp only [AV.get,Option.some.injEq,Prod.mk.injEq] at hg
  obtain ⟨rfl,rfl⟩ := hg
  exact ⟨[],cs,[],by simp,rfl,h⟩
 | i :: p,x,n,cs,h,hg => by
  unfold AV.get at hg
  split at hg
  ·rename_i heq; cases heq
  ·rename_i ps heq
   cases heq
   cases hq : ps[i]? with
   | none => simp [hq] at hg
   | some q =>
    simp only [hq,Option.map_eq_some_iff] at hg
    obtain ⟨⟨y',m⟩,h1,h2⟩ := hg
    simp only [Prod.mk.injEq] at h2
    obtain ⟨rfl,rfl⟩ := h2
    cases h with
    | st h =>
     rw [cut_at hq] at h
     obtain ⟨c1,c2,rfl,k1,k2⟩ := CRs.split _ h
     cases k2 with
     | cons k2 k3 =>
      obtain ⟨d1,d2,d3,rfl,e2,e3⟩ := get_cr p k2 h1
      exact ⟨c1 ++ d1,d2,_,by simp [zI]; rfl,by simp [e2,CRs.len k1],e3⟩
  ·rename_i ds heq
   cases heq
   cases hq : ds[i]? with
   | none => simp [hq] at hg
   | some q =>
    simp only [hq,Option.map_eq_some_iff] at hg
    obtain ⟨⟨y',m⟩,h1,h2⟩ := hg
    simp only [Prod.mk.injEq] at h2
    obtain ⟨rfl,rfl⟩ := h2
    cases h with
    | d h =>
     cases h with
     | st h =>
      rw [cut_at hq] at h
      obtain ⟨c1,c2,rfl,k1,k2⟩ := DRs.split _ h
      cases k2 with
      | cons k2 k3 =>
       obtain ⟨d1,d2,d3,rfl,e2,e3⟩ := get_cr p (.d k2) h1
       exact ⟨c1 ++ d1,d2,_,by simp [zI]; rfl,by simp [e2,DRs.len k1],e3⟩
  ·cases hg
theorem qe3 {E : Env} {y : AV} {cs : List Value} (h : CR E y cs) (ha : y.isAgg = false) : cs.length = 1 := by
 rw [h.len]
 cases y <;> simp_all [AV.isAgg,AV.size]
 rename_i x
 cases x <;> simp_all [D.isAgg,D.size]
section
variable {P : Program} {N : Nat × Nat} {ops : Array Oper} {i : Nat} {s : St} {d : Nat} {ty : TypeId} {pos : String} {af : Array Edge} {g : Option (Nat × Bool)} {gs : List Nat}
theorem VR.at_val {E : Env} {x : D} {v : Value} (h : VR E (.d (.at x)) v) : ∃ b off cs,v = .pointer (some ⟨b,off,none⟩) ∧ E.I b ∧ b < E.w.heap.size ∧ DR E.I E.w x cs ∧ CellsAt E.w b off cs := by
 obtain ⟨cs,h1,h2⟩ := h
 cases h1 with
 | d h => cases h with
  | «at» q1 q2 q3 q4 => exact ⟨_,_,_,h2,q1,q2,q3,q4⟩
theorem qO1 {S f off n : Nat} {x : Operand} {ps : List D} {y : D} (ho : ops[i]? = some ⟨some d,.fieldAddr S x f,ty,pos,af,g⟩) (hd : Nat.ble (d + 1) N.1 = true) (hg : G ops s g gs)
  (hx : s.val x = some (.d (.at (.st ps)))) (hf : fldB P S f = some (off,n)) (hn : n ≠ 0) (hy : ps[f]? = some y) (hoff : D.sizes (ps.take f) = off) :
  Valid P N ops i ⟨gs ++ opT x,[],some (d,some (.d (.at y))),[]⟩ s :=
 vPu ho hd hg fun s' hs cx a E hR => by
  obtain ⟨b,k,cs,h1,h2,h3,h4,h5⟩ := (hR.val ((vAg hs).trans hx)).at_val
  refine ⟨_,by simp only [execOp]; rw [h1,Sem.run_bind,qM5 hf hn]; rfl,?_⟩
  cases h4 with
  | st h4 =>
   rw [cut_at hy] at h4
   obtain ⟨c1,c2,rfl,k1,k2⟩ := DRs.split _ h4
   have hl : c1.length = off := by rw [k1.len]; exact hoff
   have h6 := h5.right
   rw [hl] at h6
   cases k2 with
   | cons k2 k3 => exact ⟨_,.d (.at h2 h3 k2 h6.left),rfl⟩
theorem qu {S f off n : Nat} {x : Operand} {o m : Nat} (ho : ops[i]? = some ⟨some d,.fieldAddr S x f,ty,pos,af,g⟩) (hd : Nat.ble (d + 1) N.1 = true) (hg : G ops s g gs)
  (hx : s.val x = some (.ptr o m)) (hf : fldB P S f = some (off,n)) (hn : n ≠ 0) :
  Valid P N ops i ⟨gs ++ opT x,[],some (d,some (.ptr o (m + off))),[]⟩ s :=
 vPu ho hd hg fun s' hs cx a E hR => by
  obtain ⟨cs,h1,h2⟩ := hR.val ((vAg hs).trans hx)
  cases h1 with
  | ptr k1 kb k2 => exact ⟨_,by simp only [execOp]; rw [h2,Sem.run_bind]; simp only [mkV,AV.isAgg,Bool.false_eq_true,if_false,List.headD_cons]; rw [qM5 hf hn]; rfl,_,.ptr k1 kb k2,rfl⟩
theorem o_fldE {S f off n : Nat} {x : Operand} {o c k m : Nat} (ho : ops[i]? = some ⟨some d,.fieldAddr S x f,ty,pos,af,g⟩) (hd : Nat.ble (d + 1) N.1 = true) (hg : G ops s g gs)
  (hx : s.val x = some (.pel o c k m)) {es : Nat} {rows : List D} (hob : s.obj o = some (.arr c es rows)) (hf : fldB P S f = some (off,n)) (hn : n ≠ 0) :
  Valid P N ops i ⟨gs ++ opT x,[o],some (d,some (.pel o c k (m + off))),[]⟩ s :=
 vCo ho rfl hd hg fun s' hs ho' cx a E _ hR => by
  have hob' : s'.obj o = some (.arr c es rows) := (ho' o (by simp)).trans hob
  obtain ⟨cs,h1,h2⟩ := hR.val ((vAg hs).trans hx)
  cases h1 with
  | pel k1 k2 k3 k4 =>
   rw [hR.obj,hob'] at k1; cases k1
   obtain ⟨b,q1,q2⟩ := k3 rfl
   subst q2
   refine ⟨_,E,by simp only [execOp]; rw [h2,Sem.run_bind]; simp only [mkV,AV.isAgg,Bool.false_eq_true,if_false,List.headD_cons]; rw [qM5 hf hn]; rfl,⟨_,.pel (by rw [hR.obj]; exact hob') (Nat.le_refl _) (fun _ => ⟨b,q1,by rw [Nat.add_assoc]⟩) rfl,rfl⟩,qg3 hR⟩
theorem o_ld {T : TypeId} {x : Operand} {y : D} {b : Bool} {n : Nat} (ho : ops[i]? = some ⟨some d,.load T x,ty,pos,af,g⟩) (hd : Nat.ble (d + 1) N.1 = true) (hg : G ops s g gs)
  (hx : s.val x = some (.d (.at y))) (hT : TA P T b n) (hb : y.isAgg = b) (hn : y.size = n) :
  Valid P N ops i ⟨gs ++ opT x,[],some (d,some (.d y)),[]⟩ s :=
 vPu ho hd hg fun s' hs cx a E hR => by
  subst hb; subst hn
  obtain ⟨b,k,cs,h1,h2,h3,h4,h5⟩ := (hR.val ((vAg hs).trans hx)).at_val
  refine ⟨_,?_,_,.d h4,rfl⟩
  simp only [execOp,Instr.loadAt]
  rw [h1,Sem.run_bind,Sem.run_bind]
  simp only [Instr.sureAddr,Sem.run_pure,Result.andThen]
  rw [qv1 (by rw [h4.len]; exact hT) h5 (fun ha => qe3 (E := E) (.d h4) ha)]
theorem qC {T : TypeId} {x : Operand} {o m : Nat} {z y : AV} {b : Bool} {n : Nat} (p : List Nat) (ho : ops[i]? = some ⟨some d,.load T x,ty,pos,af,g⟩) (hd : Nat.ble (d + 1) N.1 = true) (hg : G ops s g gs)
  (hx : s.val x = some (.ptr o m)) (hob : s.obj o = some (.box z)) (hp : AV.get p z = some (y,m)) (hT : TA P T b n) (hb : y.isAgg = b) (hn : y.size = n) :
  Valid P N ops i ⟨gs ++ opT x,[o],some (d,some y),[]⟩ s :=
 vCo ho rfl hd hg fun s' hs ho' cx a E _ hR => by
  subst hb; subst hn
  have hob' : s'.obj o = some (.box z) := (ho' o (by simp)).trans hob
  obtain ⟨cs,h1,h2⟩ := hR.val ((vAg hs).trans hx)
  cases h1 with
  | ptr k1 kb k2 =>
   obtain ⟨b,zs,e,q1,q2,q3,q4⟩ := hR.objs _ _ hob'
   rw [k2] at q1; cases q1
   obtain ⟨c1,c2,c3,rfl,r2,r3⟩ := get_cr p q2 hp
   have hall : CellsAt E.w _ 0 (c1 ++ (c2 ++ c3)) := caB (sp := []) (by rw [zJ]; exact q4)
   have h6 := hall.right.left
   rw [r2,Nat.zero_add] at h6
   refine ⟨_,E,?_,⟨_,r3,rfl⟩,qg3 hR⟩
   simp only [execOp,Instr.loadAt]
   rw [h2,Sem.run_bind,Sem.run_bind]
   simp only [mkV,AV.isAgg,Bool.false_eq_true,if_false,List.headD_cons,Instr.sureAddr,Sem.run_pure,Result.andThen]
   rw [qv1 (by rw [r3.len]; exact hT) h6 (fun ha => qe3 r3 ha)]
   rfl
theorem o_ldE {T : TypeId} {x : Operand} {o c k m es : Nat} {rows : List D} {r : D} {y : AV} {b : Bool} {n : Nat} (p : List Nat) (ho : ops[i]? = some ⟨some d,.load T x,ty,pos,af,g⟩) (hd : Nat.ble (d + 1) N.1 = true) (hg : G ops s g gs)
  (hx : s.val x = some (.pel o c k m)) (hob : s.obj o = some (.arr c es rows)) (hr : rows[k]? = some r) (hp : AV.get p (.d r) = some (y,m)) (hT : TA P T b n) (hb : y.isAgg = b) (hn : y.size = n) :
  Valid P N ops i ⟨gs ++ opT x,[o],some (d,some y),[]⟩ s :=
 vCo ho rfl hd hg fun s' hs ho' cx a E _ hR => by
  subst hb; subst hn
  have hob' : s'.obj o = some (.arr c es rows) := (ho' o (by simp)).trans hob
  obtain ⟨cs,h1,h2⟩ := hR.val ((vAg hs).trans hx)
  cases h1 with
  | pel k1 k2 k3 k4 =>
   rw [hR.obj,hob'] at k1; cases k1
   obtain ⟨b,q1,q2⟩ := k3 rfl
   subst q2
   rcases hR.objs _ _ hob' with ⟨p1,p2,_⟩ | ⟨b',zs,sp,e,p1,p2,p3,p4,p5,p6⟩
   ·rw [p2] at hr; simp at hr
   ·rw [q1] at p1; cases p1
    obtain ⟨rc,t1,t2,t3⟩ := p2.row p3 hr
    obtain ⟨c1,c2,c3,rfl,r2,r3⟩ := get_cr p (.d t1) hp
    have hall : CellsAt E.w b 0 zs := caB p4
    have h6 : CellsAt E.w b (k * es + m) c2 := by
     intro j v hj
     have := hall (k * es + (m + j)) v (t3 (m + j) v (by
      rw [List.getElem?_append_right (by omega),r2,show m + j - m = j from by omega,List.getElem?_append_left (List.getElem?_eq_some_iff.1 hj).1]; exact hj))
     rw [Nat.zero_add] at this
     rw [Nat.add_assoc]; exact this
    refine ⟨_,E,?_,⟨_,r3,rfl⟩,qg3 hR⟩
    simp only [execOp,Instr.loadAt]
    rw [h2,Sem.run_bind,Sem.run_bind]
    simp only [mkV,AV.isAgg,Bool.false_eq_true,if_false,List.headD_cons,Instr.sureAddr,Sem.run_pure,Result.andThen]
    rw [qv1 (by rw [r3.len]; exact hT) h6 (fun ha => qe3 r3 ha)]
    rfl
theorem qV2 {P : Program} {w : World} {T e es b off len cap : Nat} {k : IntKind} {n : Int} (hT : slB P T = some e) (he : szB P e = some es) (h0 : 0 ≤ n) (h1 : n < len) :
  (Instr.indexAt T (.slice (some ⟨b,off,none⟩) len cap) (.int k n)).run P w = .ok (.pointer (some ⟨b,off + n.toNat * es,none⟩)) w := by
 simp only [Instr.indexAt,asIntOf,Sem.run_bind,Sem.run_pure,Result.andThen,run_underlying (qa0 hT)]
 simp only [Bool.and_false,Bool.false_eq_true,if_false]
 rw [if_pos ⟨h0,h1⟩]
 simp only [Sem.run_bind,rSO he,Result.andThen,Sem.run_pure]
 rw [q82]
theorem o_ix {T e es : Nat} {x z : Operand} {rows : List D} {k : IntKind} {n : Int} {r : D} (ho : ops[i]? = some ⟨some d,.indexAddr T x z,ty,pos,af,g⟩) (hd : Nat.ble (d + 1) N.1 = true) (hg : G ops s g gs)
  (hx : s.val x = some (.d (.sl es rows))) (hz : s.val z = some (.d (.v (.int k n)))) (hT : slB P T = some e) (he : szB P e = some es) (h0 : 0 ≤ n) (hr : rows[n.toNat]? = some r) :
  Valid P N ops i ⟨gs ++ (opT x ++ opT z),[],some (d,some (.d (.at r))),[]⟩ s :=
 vPu ho hd hg fun s' hs cx a E hR => by
  have h2 := (hR.val ((vAg (qt0 hs).2).trans hz)).sc
  obtain ⟨cs,h1,h1'⟩ := hR.val ((vAg (qt0 hs).1).trans hx)
  have hlt := (List.getElem?_eq_some_iff.1 hr).1
  cases h1 with
  | d h1 =>
   cases h1 with
   | sl0 => simp at hr
   | sl q1 q2 q3 q4 q5 q6 =>
    obtain ⟨rc,t1,t2,t3⟩ := q3.row q4 hr
    rename_i b off cap cs
    refine ⟨.pointer (some ⟨b,off + n.toNat * es,none⟩),?_,_,.d (.at (off := off + n.toNat * es) q1 q2 t1 (fun j v hj => ?_)),rfl⟩
    ·simp only [execOp]
     rw [h1',h2,Sem.run_bind]
     simp only [mkV,AV.isAgg,D.isAgg,Bool.false_eq_true,if_false,List.headD_cons]
     rw [qV2 hT he h0 (by omega)]
     rfl
    ·have := q5 _ v (t3 j v hj)
     rw [Nat.add_assoc]; exact this
theorem o_ixA {T e es : Nat} {x z : Operand} {o c : Nat} {rows : List D} {k : IntKind} {n : Int} (ho : ops[i]? = some ⟨some d,.indexAddr T x z,ty,pos,af,g⟩) (hd : Nat.ble (d + 1) N.1 = true) (hg : G ops s g gs)
  (hx : s.val x = some (.arr o c)) (hob : s.obj o = some (.arr c es rows)) (hz : s.val z = some (.d (.v (.int k n)))) (hT : slB P T = some e) (he : szB P e = some es) (h0 : 0 ≤ n) (hr : n < rows.length) :
  Valid P N ops i ⟨gs ++ (opT x ++ opT z),[o],some (d,some (.pel o c n.toNat 0)),[]⟩ s :=
 vCo ho rfl hd hg fun s' hs ho' cx a E _ hR => by
  have hob' : s'.obj o = some (.arr c es rows) := (ho' o (by simp)).trans hob
  have h2 := (hR.val ((vAg (qt0 hs).2).trans hz)).sc
  obtain ⟨cs,h1,h1'⟩ := hR.val ((vAg (qt0 hs).1).trans hx)
  cases h1 with
  | arr k1 k2 k3 k4 =>
   rw [hR.obj,hob'] at k1; cases k1
   have h3 := k3 rfl
   rcases hR.objs _ _ hob' with ⟨p1,p2,_⟩ | ⟨b,zs,sp,e',p1,p2,p3,p4,p5,p6⟩
   ·rw [p2] at hr; simp at hr; omega
   ·rw [p1] at h3
    subst h3
    refine ⟨_,E,?_,⟨_,.pel (by rw [hR.obj]; exact hob') (Nat.le_refl _) (fun _ => ⟨b,p1,rfl⟩) rfl,rfl⟩,qg3 hR⟩
    simp only [execOp]
    rw [h1',h2,Sem.run_bind]
    simp only [mkV,AV.isAgg,Bool.false_eq_true,if_false,List.headD_cons,q66]
    rw [qV2 hT he h0 hr]
    simp only [Result.andThen,Nat.zero_add,Nat.add_zero]
    rfl
end
end Go.Val
namespace Go.Val
open Go.RowKit
variable [Drw]
section
variable {P : Program} {w : World}
theorem run_all {α : Type} (body : α → (Option Bool × Unit) → Sem (ForInStep (Option Bool × Unit))) (g : α → Bool) : ∀ (l : List α),
  (∀ x ∈ l,(body x (none,())).run P w = .ok (if g x then .yield (none,()) else .done (some false,())) w) →
  (forIn l (none,()) body).run P w = .ok (if l.all g then (none,()) else (some false,())) w
 | [],_ => rfl
 | x :: l,h => by
  rw [List.forIn_cons,Sem.run_bind,h x (by simp)]
  cases hg : g x with
  | true =>
   simp only [if_true,Result.andThen,List.all_cons,hg,Bool.true_and]
   exact run_all body g l (fun y hy => h y (by simp [hy]))
  | false => simp [Result.andThen,hg]
theorem run_each {α : Type} (body : α → PUnit → Sem (ForInStep PUnit)) : ∀ (l : List α),
  (∀ x ∈ l,(body x ⟨⟩).run P w = .ok (.yield ⟨⟩) w) → (forIn l PUnit.unit body).run P w = .ok PUnit.unit w
 | [],_ => rfl
 | x :: l,h => by
  rw [List.forIn_cons,Sem.run_bind,h x (by simp)]
  simp only [Result.andThen]
  exact run_each body l (fun y hy => h y (by simp [hy]))
theorem q44 {e : TypeId} (hA : aggB P e = some false) {cs : Array Value} {i : Nat} {v : Value} (h : cs[i]? = some v) : (part e cs i).run P w = .ok v w := by
 simp [part,q35 hA,Result.andThen,h]
theorem run_part_agg {e n : TypeId} (hA : TA P e true n) {cs : Array Value} {i : Nat} : (part e cs i).run P w = .ok (.agg (cs.extract i (i + n))) w := by
 simp [part,q35 hA.1,rSO hA.2,Result.andThen]
def fldsB (P : Program) (T : TypeId) : Option (List (Nat × TypeId)) := match P.underlying T with
 | some (.struct fs) => if fs.toList.all (fun f => f.name != "_") && !P.stoodInHeld T then some (fs.toList.map fun f => (f.offset,f.type)) else none
 | _ => none
theorem bytes_beq (a b : ByteArray) : (a == b) = decide (a = b) := by
 rw [Bool.eq_iff_iff]
 show (a.data == b.data) = true ↔ _
 simp only [beq_iff_eq,decide_eq_true_eq]
 constructor
 ·intro h; cases a; cases b; simp_all
 ·rintro rfl; rfl
theorem toList_beq (a b : ByteArray) : (a.toList == b.toList) = decide (a = b) := by
 rw [Bool.eq_iff_iff,ByteArray.toList_eq,ByteArray.toList_eq]
 simp only [beq_iff_eq,decide_eq_true_eq]
 constructor
 ·intro h; cases a; cases b; simp_all
 ·rintro rfl; rfl
mutual
inductive EqD (P : Program) : Nat → TypeId → D → D → Bool → Prop
 | bool {n : Nat} {T : TypeId} {a b : Bool} (h : P.underlying T = some .bool) : EqD P (n + 1) T (.v (.bool a)) (.v (.bool b)) (a == b)
 | int {n : Nat} {T : TypeId} {k : IntKind} {a b : Int} (h : P.underlying T = some (.int k)) : EqD P (n + 1) T (.v (.int k a)) (.v (.int k b)) (a == b)
 | str {n : Nat} {T : TypeId} {a b : ByteArray} (h : P.underlying T = some .string) : EqD P (n + 1) T (.v (.string a)) (.v (.string b)) (decide (a = b))
 | bs {n m : Nat} {T e : TypeId} {a b : List UInt8} (h : arB P T = some (m,e)) (he : P.underlying e = some (.int .u8)) (hs : szB P e = some 1) : EqD P (n + 2) T (.bs m a) (.bs m b) (decide (a = b))
 | st {n : Nat} {T : TypeId} {fs : List (Nat × TypeId)} {ps qs : List D} {r : Bool} (h : fldsB P T = some fs) (hf : EqF P n 0 fs ps qs r) : EqD P (n + 1) T (.st ps) (.st qs) r
inductive EqF (P : Program) : Nat → Nat → List (Nat × TypeId) → List D → List D → Bool → Prop
 | nil {n off : Nat} : EqF P n off [] [] [] true
 | cons {n off sz : Nat} {T : TypeId} {fs : List (Nat × TypeId)} {p q : D} {ps qs : List D} {r r' : Bool} {b : Bool} (hT : TA P T b sz) (hp : p.isAgg = b) (hq : q.isAgg = b) (hp' : p.size = sz) (hq' : q.size = sz)
   (h : EqD P n T p q r) (hs : EqF P n (off + sz) fs ps qs r') : EqF P n off ((off,T) :: fs) (p :: ps) (q :: qs) (r && r')
end
theorem all_eq_bytes : ∀ (a b : List UInt8),a.length = b.length → (List.range a.length).all (fun i => decide (a[i]? = b[i]?)) = decide (a = b)
 | a,b,h => by
  rw [Bool.eq_iff_iff]
  simp only [List.all_eq_true,List.mem_range,decide_eq_true_eq]
  constructor
  ·intro hall
   apply List.ext_getElem?
   intro i
   by_cases hi : i < a.length
   ·exact hall i hi
   ·rw [List.getElem?_eq_none (by omega),List.getElem?_eq_none (by omega)]
  ·rintro rfl i _; rfl
theorem u8v_inj {a b : UInt8} (h : a.toNat = b.toNat) : a = b := UInt8.toNat_inj.1 h
mutual
theorem run_eqD {I : Nat → Prop} : ∀ {n : Nat} {T : TypeId} {x y : D} {r : Bool} {cx cy : List Value},EqD P n T x y r → DR I w x cx → DR I w y cy →
  (Op.equalIn n T (mkV x.isAgg cx) (mkV y.isAgg cy)).run P w = .ok r w
 | _,_,_,_,_,_,_,.bool h,.v _,.v _ => by
  simp only [mkV,D.isAgg,Bool.false_eq_true,if_false,List.headD_cons,Op.equalIn,Sem.run_bind,run_underlying h,Result.andThen,Sem.run_pure]
 | _,_,_,_,_,_,_,.int h,.v _,.v _ => by
  simp only [mkV,D.isAgg,Bool.false_eq_true,if_false,List.headD_cons,Op.equalIn,Sem.run_bind,run_underlying h,Result.andThen,Sem.run_pure,if_true]
 | _,_,_,_,_,_,_,.str (a := a) (b := b) h,.v _,.v _ => by
  rw [← bytes_beq]
  simp only [mkV,D.isAgg,Bool.false_eq_true,if_false,List.headD_cons,Op.equalIn,Sem.run_bind,run_underlying h,Result.andThen,Sem.run_pure]
 | _,_,_,_,_,_,_,.bs (n := n) (a := a) (b := b) h he hs,.bs ha,.bs hb => by
  have hu := qp5 h
  simp only [mkV,D.isAgg,if_true]
  unfold Op.equalIn
  simp only [Sem.run_bind,run_underlying hu,Result.andThen,rSO hs,Nat.mul_one]
  rw [Std.Legacy.Range.forIn_eq_forIn_range']
  have hA : aggB P _ = some false := show aggB P _ = _ by unfold aggB; rw [he]; rfl
  rw [run_all _ (fun i => decide (a[i]? = b[i]?))]
  ·have e1 : (List.range' (0 : Nat) a.length 1) = List.range a.length := by rw [List.range_eq_range']
   simp only [Std.Legacy.Range.size,Nat.sub_zero,Nat.add_sub_cancel,Nat.div_one]
   rw [← ha,e1,all_eq_bytes a b (ha.trans hb.symm)]
   by_cases hab : a = b
   ·simp [hab]
   ·simp [hab]
  ·intro i hi
   have hi' : i < a.length := by
    simp [Std.Legacy.Range.size] at hi
    omega
   have hi'' : i < b.length := by omega
   simp only [Sem.run_bind]
   rw [q44 hA (v := u8v a[i]) (by simp [hi'])]
   simp only [Result.andThen]
   rw [q44 hA (v := u8v b[i]) (by simp [hi''])]
   simp only [Result.andThen,u8v,Op.equalIn,Sem.run_bind,run_underlying he,Sem.run_pure,if_true]
   have : ((a[i].toNat : Int) == (b[i].toNat : Int)) = decide (a[i]? = b[i]?) := by
    rw [Bool.eq_iff_iff]
    simp only [beq_iff_eq,decide_eq_true_eq,List.getElem?_eq_getElem hi',List.getElem?_eq_getElem hi'',Option.some.injEq]
    constructor
    ·intro h; exact u8v_inj (by omega)
    ·intro h; rw [h]
   rw [this]
   cases decide (a[i]? = b[i]?) <;> rfl
 | _,_,_,_,_,_,_,.st (T := T) (fs := fs) (r := r) h hf,.st hx,.st hy => by
  unfold fldsB at h
  cases hu : P.underlying T with
  | none => simp [hu] at h
  | some d =>
   cases d <;> simp only [hu] at h <;> try (cases h; done)
   rename_i F
   split at h
   ·rename_i hc
    simp only [Bool.and_eq_true,List.all_eq_true,Bool.not_eq_true'] at hc
    simp only [Option.some.injEq] at h
    simp only [mkV,D.isAgg,if_true]
    unfold Op.equalIn
    simp only [Sem.run_bind,run_underlying hu,Result.andThen,run_program,hc.2,Bool.false_eq_true,if_false,Sem.run_pure]
    rw [← Array.forIn_toList]
    have key := run_eqF (L := F.toList) (pre := []) (pre' := []) (fun f hf' => hc.1 f hf') (by rw [h]; exact hf) hx hy rfl rfl
    simp only [List.nil_append] at key
    rw [key]
    cases r <;> rfl
   ·cases h
theorem run_eqF {I : Nat → Prop} : ∀ {n off : Nat} {L : List Field} {ps qs : List D} {r : Bool} {pre pre' cx cy : List Value},(∀ f ∈ L,(f.name != "_") = true) → EqF P n off (L.map fun f => (f.offset,f.type)) ps qs r →
  DRs I w ps cx → DRs I w qs cy → pre.length = off → pre'.length = off →
  (forIn L ((none : Option Bool),()) (fun (f : Field) (_ : Option Bool × Unit) => do
   if f.name ≠ "_" then do
    let a ← part f.type (pre ++ cx).toArray f.offset
    let b ← part f.type (pre' ++ cy).toArray f.offset
    let c ← Op.equalIn n f.type a b
    if (!c) = true then pure (ForInStep.done (some false,())) else pure (ForInStep.yield (none,()))
   else pure (ForInStep.yield (none,())))).run P w = .ok (if r then (none,()) else (some false,())) w
 | _,_,[],_,_,_,_,_,_,_,_,hf,_,_,_,_ => by cases hf; rfl
 | n,off,f :: L,_,_,_,pre,pre',_,_,hn,hf,hx,hy,hp,hp' => by
  simp only [List.map_cons] at hf
  generalize ho : f.offset = fo at hf
  cases hf with
  | cons hT k1 k2 k3 k4 h hs =>
   rename_i sz p q ps qs r r' b
   cases hx with
   | cons hx hxs =>
    cases hy with
    | cons hy hys =>
     rename_i c1 c1' c2 c2'
     have l1 : c1.length = sz := hx.len.trans k3
     have l2 : c2.length = sz := hy.len.trans k4
     have hname := hn f (by simp)
     have hname' : f.name ≠ "_" := by simpa using hname
     have hpart : ∀ (a c z : List Value) (x : D),a.length = off → c.length = sz → DR I w x c → x.isAgg = b → x.size = sz → (part f.type (a ++ (c ++ z)).toArray off).run P w = .ok (mkV x.isAgg c) w := by
      intro a c z x ha hc hx hb hsz
      cases b with
      | true =>
       rw [run_part_agg hT,hb]
       simp only [mkV,if_true]
       congr 2
       apply Array.ext'
       simp [Array.toList_extract,List.extract,← ha,hc]
      | false =>
       have h1 : c.length = 1 := qe3 (E := ⟨fun _ => none,fun _ => none,fun _ => 0,fun _ => [],fun _ => [],fun _ => True,w⟩) (.d (hx.mono (Nat.le_refl _) (fun _ _ _ => ⟨⟨tV,fun _ _ h => by cases h⟩,rfl⟩))) hb
       match c,h1 with
       | [v],_ =>
        rw [q44 hT.1 (v := v) (by simp [← ha]),hb]
        rfl
     rw [List.forIn_cons]
     simp only [hname',ne_eq,not_false_eq_true,if_true,Sem.run_bind]
     rw [ho,hpart pre c1 c1' _ hp l1 hx k1 k3]
     simp only [Result.andThen]
     rw [hpart pre' c2 c2' _ hp' l2 hy k2 k4]
     simp only [Result.andThen]
     rw [run_eqD h hx hy]
     simp only [Result.andThen]
     cases r with
     | false => simp [Sem.run_pure,Result.andThen]
     | true =>
      simp only [Bool.not_true,Bool.false_eq_true,if_false,Sem.run_pure,Result.andThen,Bool.true_and]
      have := run_eqF (L := L) (pre := pre ++ c1) (pre' := pre' ++ c2) (fun g hg => hn g (by simp [hg])) hs hxs hys (by simp [hp,l1]) (by simp [hp',l2])
      simp only [zI] at this
      exact this
end
end
end Go.Val
namespace Go.Val
open Go.RowKit
variable [Drw]
theorem mkV_cells {agg : Bool} {cs : List Value} (h1 : ∀ v ∈ cs,one v = true) (hl : agg = false → cs.length = 1) : (mkV agg cs).cells = cs.toArray := by
 cases agg with
 | true => rfl
 | false =>
  match cs,hl rfl with
  | [v],_ =>
   have := h1 v (by simp)
   cases v <;> first | rfl | (simp [one] at this)
mutual
def AV.plain : AV → Bool
 | .tup _ => false
 | .st ps => AV.plains ps
 | _ => true
def AV.plains : List AV → Bool
 | [] => true
 | x :: xs => x.plain && AV.plains xs
end
mutual
theorem CR.ones {E : Env} : ∀ {x : AV} {cs : List Value},x.plain = true → CR E x cs → ∀ v ∈ cs,one v = true
 | _,_,_,.d h => h.ones
 | _,_,_,.ptr .. => by simp [one]
 | _,_,_,.arr _ _ _ h => by simpa using h
 | _,_,_,.pel _ _ _ h => by simpa using h
 | _,_,_,.asl _ _ _ h => by simpa using h
 | _,_,_,.osl _ _ _ h => by simpa using h
 | _,_,_,.csl _ _ _ h => by simpa using h
 | _,_,_,.map .. => by simp [one]
 | _,_,_,.it .. => by simp [one]
 | _,_,_,.bsl .. => by simp [one]
 | _,_,hp,.st h => CRs.ones (by simpa [AV.plain] using hp) h
 | _,_,hp,.tup _ => by simp [AV.plain] at hp
 | _,_,_,.fn .. => by simp [one]
 | _,_,_,.ifc .. => by simp [one]
 | _,_,_,.sx .. => by simp [one]
theorem CRs.ones {E : Env} : ∀ {x : List AV} {cs : List Value},AV.plains x = true → CRs E x cs → ∀ v ∈ cs,one v = true
 | _,_,_,.nil => by simp
 | _,_,hp,.cons h hs => by
  simp only [AV.plains,Bool.and_eq_true] at hp
  intro v hv
  rcases zL.1 hv with h1 | h1
  ·exact CR.ones hp.1 h v h1
  ·exact CRs.ones hp.2 hs v h1
end
def AV.put : List Nat → AV → AV → AV
 | [],_,y => y
 | i :: p,.st ps,y => .st (ps.set i (AV.put p (ps.getD i default) y))
 | i :: p,.d (.st ds),y => match AV.put p (.d (ds.getD i default)) y with
  | .d z => .d (.st (ds.set i z))
  | z => .st ((ds.map .d).set i z)
 | _,x,_ => x
theorem CRs.of_drs {E : Env} : ∀ {ds : List D} {cs : List Value},DRs E.I E.w ds cs → CRs E (ds.map .d) cs
 | _,_,.nil => .nil
 | _,_,.cons h hs => .cons (.d h) (CRs.of_drs hs)
theorem set_cut {α : Type} : ∀ (l : List α) (i : Nat) (x y : α),l[i]? = some x → l.set i y = l.take i ++ (y :: l.drop (i + 1))
 | [],i,x,y,h => by simp at h
 | a :: l,0,x,y,h => by simp
 | a :: l,i + 1,x,y,h => by simp at h; simp [set_cut l i x y h]
theorem put_cr {E : Env} {y y' : AV} {c2' : List Value} (hy : CR E y' c2') : ∀ (p : List Nat) {x : AV} {n : Nat} {cs : List Value},CR E x cs → AV.get p x = some (y,n) →
  ∃ c1 c2 c3,cs = c1 ++ (c2 ++ c3) ∧ c1.length = n ∧ CR E y c2 ∧ CR E (AV.put p x y') (c1 ++ (c2' ++ c3))
 | [],x,n,cs,h,hg => by
  simp only [AV.get,Option.some.injEq,Prod.mk.injEq] at hg
  obtain ⟨rfl,rfl⟩ := hg
  exact ⟨[],cs,[],by simp,rfl,h,by simpa [AV.put] using hy⟩
 | i :: p,x,n,cs,h,hg => by
  unfold AV.get at hg
  split at hg
  ·rename_i heq; cases heq
  ·rename_i ps heq
   cases heq
   cases hq : ps[i]? with
   | none => simp [hq] at hg
   | some q =>
    simp only [hq,Option.map_eq_some_iff] at hg
    obtain ⟨⟨y'',m⟩,h1,h2⟩ := hg
    simp only [Prod.mk.injEq] at h2
    obtain ⟨rfl,rfl⟩ := h2
    cases h with
    | st h =>
     have hgd : ps.getD i default = q := by simp [List.getD,hq]
     rw [cut_at hq] at h
     obtain ⟨c1,c2,rfl,k1,k2⟩ := CRs.split _ h
     cases k2 with
     | cons k2 k3 =>
      obtain ⟨d1,d2,d3,rfl,e2,e3,e4⟩ := put_cr hy p k2 h1
      refine ⟨c1 ++ d1,d2,_,by simp [zI]; rfl,by simp [e2,CRs.len k1],e3,?_⟩
      simp only [AV.put,hgd]
      rw [set_cut ps i q _ hq]
      have := CR.st (CRs.append k1 (.cons e4 k3))
      simpa [zI] using this
  ·rename_i ds heq
   cases heq
   cases hq : ds[i]? with
   | none => simp [hq] at hg
   | some q =>
    simp only [hq,Option.map_eq_some_iff] at hg
    obtain ⟨⟨y'',m⟩,h1,h2⟩ := hg
    simp only [Prod.mk.injEq] at h2
    obtain ⟨rfl,rfl⟩ := h2
    cases h with
    | d h =>
     cases h with
     | st h =>
      have hgd : ds.getD i default = q := by simp [List.getD,hq]
      rw [cut_at hq] at h
      obtain ⟨c1,c2,rfl,k1,k2⟩ := DRs.split _ h
      cases k2 with
      | cons k2 k3 =>
       obtain ⟨d1,d2,d3,rfl,e2,e3,e4⟩ := put_cr hy p (.d k2) h1
       refine ⟨c1 ++ d1,d2,_,by simp [zI]; rfl,by simp [e2,DRs.len k1],e3,?_⟩
       simp only [AV.put,hgd]
       split
       ·rename_i z hz
        rw [hz] at e4
        cases e4 with
        | d e4 =>
         rw [set_cut ds i q _ hq]
         have := CR.d (E := E) (.st (DRs.append k1 (.cons e4 k3)))
         simpa [zI] using this
       ·rename_i z hz
        rw [set_cut (ds.map AV.d) i (AV.d q) _ (by simp [hq])]
        have := CR.st (CRs.append (CRs.of_drs k1) (.cons e4 (CRs.of_drs k3)))
        simpa [zI,List.map_take,List.map_drop] using this
  ·cases hg
section
variable {P : Program} {N : Nat × Nat} {ops : Array Oper} {i : Nat} {s : St} {d : Nat} {ty : TypeId} {pos : String} {af : Array Edge} {g : Option (Nat × Bool)} {gs : List Nat}
theorem run_eqGuard {P : Program} {w : World} {op : BinOp} {T : TypeId} {x y : Operand} {a b : Array Value} (hE : P.eqGuardType P.depth T = false) : (eqGuard op T x y (.agg a) (.agg b)).run P w = .ok () w := by
 unfold eqGuard
 cases op <;> simp [hE,Result.andThen]
theorem o_eq {T T' : TypeId} {x z : Operand} {p q : D} {r : Bool} (ho : ops[i]? = some ⟨some d,.binOp .eql T x z T',ty,pos,af,g⟩) (hd : Nat.ble (d + 1) N.1 = true) (hg : G ops s g gs)
  (hx : s.val x = some (.d p)) (hz : s.val z = some (.d q)) (hp : p.isAgg = true) (hq : q.isAgg = true) (hE : P.eqGuardType P.depth T = false) (hr : EqD P 10000 T p q r) :
  Valid P N ops i ⟨gs ++ (opT x ++ opT z),[],some (d,some (.d (.v (.bool r)))),[]⟩ s :=
 vPu ho hd hg fun s' hs cx a E hR => by
  obtain ⟨c1,k1,e1⟩ := hR.val ((vAg (qt0 hs).1).trans hx)
  obtain ⟨c2,k2,e2⟩ := hR.val ((vAg (qt0 hs).2).trans hz)
  cases k1 with
  | d k1 => cases k2 with
   | d k2 =>
    have := run_eqD hr k1 k2
    simp only [AV.isAgg] at e1 e2
    refine ⟨_,?_,.of_sc rfl⟩
    simp only [execOp]
    rw [e1,e2]
    rw [hp,hq] at this ⊢
    simp only [mkV,if_true] at this ⊢
    simp only [Sem.run_bind,run_eqGuard hE,Result.andThen,binOp,Op.equal,Op.maxDepth]
    rw [this]
    rfl
theorem o_ne {T T' : TypeId} {x z : Operand} {p q : D} {r : Bool} (ho : ops[i]? = some ⟨some d,.binOp .neq T x z T',ty,pos,af,g⟩) (hd : Nat.ble (d + 1) N.1 = true) (hg : G ops s g gs)
  (hx : s.val x = some (.d p)) (hz : s.val z = some (.d q)) (hp : p.isAgg = true) (hq : q.isAgg = true) (hE : P.eqGuardType P.depth T = false) (hr : EqD P 10000 T p q r) :
  Valid P N ops i ⟨gs ++ (opT x ++ opT z),[],some (d,some (.d (.v (.bool (!r))))),[]⟩ s :=
 vPu ho hd hg fun s' hs cx a E hR => by
  obtain ⟨c1,k1,e1⟩ := hR.val ((vAg (qt0 hs).1).trans hx)
  obtain ⟨c2,k2,e2⟩ := hR.val ((vAg (qt0 hs).2).trans hz)
  cases k1 with
  | d k1 => cases k2 with
   | d k2 =>
    have := run_eqD hr k1 k2
    simp only [AV.isAgg] at e1 e2
    refine ⟨_,?_,.of_sc rfl⟩
    simp only [execOp]
    rw [e1,e2]
    rw [hp,hq] at this ⊢
    simp only [mkV,if_true] at this ⊢
    simp only [Sem.run_bind,run_eqGuard hE,Result.andThen,binOp,Op.equal,Op.maxDepth]
    rw [this]
    rfl
theorem noObj {s s' : St} {o : Nat} (ho : ∀ k ∈ [o],s'.obj k = s.obj k) (h : s.obj o = none) : s'.obj o = none := (ho o (by simp)).trans h
theorem qr2 (w : World) (o : Obj) : (w.alloc o).heap[w.heap.size]? = some o := by
 show (w.heap.push o)[w.heap.size]? = _
 simp
theorem R0.newBox {cx : Cx} {s : St} {a : Act} {E : Env} (h : R0 cx s a E) {o : Nat} {x : AV} {cs : List Value} {T : TypeId} (ho : s.obj o = none) (hx : CR E x cs) (h1 : ∀ v ∈ cs,one v = true) :
  ∃ E',E'.w = E.w.alloc (.cells cs.toArray T) ∧ R0 cx (s.set o (.box x)) a E' ∧ VR E' (.ptr o 0) (.pointer (some ⟨E.w.heap.size,0,none⟩)) := by
 have ho' : E.obj o = none := by rw [h.obj]; exact ho
 have hz : E.w.heap.size ≤ (E.w.alloc (.cells cs.toArray T)).heap.size := by simp
 have hh : ∀ k,k < E.w.heap.size → (E.w.alloc (.cells cs.toArray T)).heap[k]? = E.w.heap[k]? := fun k hk => Below.heap_alloc _ _ _ hk
 have he := ext_new (ob := .box x) (cap := 0) (births := []) rfl ho' hz (b := some E.w.heap.size) (fun k hk => by cases hk; exact Nat.le_refl _) hh
 refine ⟨E.new o (.box x) (some E.w.heap.size) 0 [] (E.w.alloc (.cells cs.toArray T)),rfl,h.new ho hz (fun k hk => by cases hk; exact Nat.le_refl _) hh (h.keeps.grow _) ?_,?_⟩
 ·exact ⟨E.w.heap.size,cs,T,by simp [Env.new],hx.ext he,h1,qr2 _ _⟩
 ·exact ⟨_,.ptr (x := .box x) (by simp [Env.new,qf1]) rfl (by simp [Env.new]),rfl⟩
theorem q63 {T : TypeId} {x : Operand} {y : AV} (o : Nat) (ho : ops[i]? = some ⟨some d,.box T x,ty,pos,af,g⟩) (hd : Nat.ble (d + 1) N.1 = true) (hg : G ops s g gs) (hx : s.val x = some y) (hp : y.plain = true) (hn : s.obj o = none) :
  Valid P N ops i ⟨gs ++ opT x,[o],some (d,some (.ptr o 0)),[(o,.box y)]⟩ s :=
 vCo ho rfl hd hg fun s' hs ho' cx a E _ hR => by
  obtain ⟨cs,h1,h2⟩ := hR.val ((vAg hs).trans hx)
  have h3 := h1.ones hp
  obtain ⟨E',k1,k2,k3⟩ := hR.newBox (T := T) (noObj ho' hn) h1 h3
  refine ⟨_,E',?_,k3,k2⟩
  rw [k1]
  have : (a.eval x).cells = cs.toArray := by rw [h2]; exact mkV_cells h3 (qe3 h1)
  simp only [execOp,Instr.box,newVar,newRow,this,Sem.run_bind,Sem.run_pure,Result.andThen]
  rfl
def Zero (P : Program) (T : TypeId) (z : D) : Prop := ∀ (I : Nat → Prop) (w : World),∃ cs,DR I w z cs ∧ (P.info? T).bind (·.zero) = some (mkV z.isAgg cs)
theorem q55 {T : TypeId} {v : Value} (h : (P.info? T).bind (·.zero) = some v) (w : World) : (zeroValue T).run P w = .ok v w := by
 cases hi : P.info? T with
 | none => simp [hi] at h
 | some i => simp [hi] at h; simp [zeroValue,typeInfo,hi,h,Result.andThen]
theorem qb0 {T : TypeId} {z : D} (o : Nat) (ho : ops[i]? = some ⟨some d,.alloc T,ty,pos,af,g⟩) (hd : Nat.ble (d + 1) N.1 = true) (hg : G ops s g gs) (hz : Zero P T z) (hn : s.obj o = none) :
  Valid P N ops i ⟨gs ++ [],[o],some (d,some (.ptr o 0)),[(o,.box (.d z))]⟩ s :=
 vCo ho rfl hd hg fun s' _ ho' cx a E _ hR => by
  obtain ⟨cs,h1,h2⟩ := hz E.I E.w
  have h3 := h1.ones
  obtain ⟨E',k1,k2,k3⟩ := hR.newBox (T := T) (noObj ho' hn) (.d h1) h3
  refine ⟨_,E',?_,k3,k2⟩
  rw [k1]
  have : (mkV z.isAgg cs).cells = cs.toArray := h1.mkV_cells
  simp only [execOp,Instr.alloc,newVar,newRow,Sem.run_bind,q55 h2,Result.andThen,this,Sem.run_pure]
  rfl
theorem one_eq (v : Value) : v.oneCell' = one v := by cases v <;> rfl
theorem take_mid {c1 c2 c3 : List Value} {n : Nat} (h : c1.length = n) : (c1 ++ (c2 ++ c3)).take n = c1 := by subst h; simp
theorem drop_mid {c1 c2 c3 : List Value} {n : Nat} (h : c1.length = n) : (c1 ++ (c2 ++ c3)).drop (n + c2.length) = c3 := by subst h; simp [← List.drop_drop]
theorem run_storeVar {w : World} {T b n : Nat} {agg : Bool} {e : TypeId} {c1 c2 c3 c2' : List Value} (hS : szB P T = some c2'.length) (hl : c2'.length = c2.length) (h1 : ∀ v ∈ c2',one v = true) (ha : agg = false → c2'.length = 1)
  (hn : c1.length = n) (hb : w.heap[b]? = some (.cells (c1 ++ (c2 ++ c3)).toArray e (0,0))) :
  (storeVar T ⟨b,n,none⟩ (mkV agg c2')).run P w = .ok () (w.setRow b (c1 ++ (c2' ++ c3)).toArray) := by
 unfold storeVar
 rw [mkV_cells h1 ha,Sem.run_bind,rSO hS]
 simp only [Result.andThen,List.size_toArray,ne_eq,zP,if_false]
 rw [run_storeCells_at P b n e c2' 0 _ w hb (by simp; omega) (fun v hv => by rw [one_eq]; exact h1 v hv)]
 congr 2
 simp only [Nat.add_zero]
 rw [take_mid hn,hl,drop_mid hn,zI]
theorem o_st {T : TypeId} {x v : Operand} {o m : Nat} {z y y' : AV} {n : Nat} (p : List Nat) (ho : ops[i]? = some ⟨none,.store T x v,ty,pos,af,g⟩) (hg : G ops s g gs)
  (hx : s.val x = some (.ptr o m)) (hv : s.val v = some y') (hob : s.obj o = some (.box z)) (hp : AV.get p z = some (y,m)) (hpl : y'.plain = true) (hT : szB P T = some n) (hn : y'.size = n) (hn' : y.size = n) :
  Valid P N ops i ⟨gs ++ (opT x ++ opT v),[o],none,[(o,.box (AV.put p z y'))]⟩ s :=
 qs4 ho rfl hg fun s' hs ho' cx a E _ hR => by
  have hob' : s'.obj o = some (.box z) := (ho' o (by simp)).trans hob
  obtain ⟨xs,h1,h2⟩ := hR.val ((vAg (qt0 hs).1).trans hx)
  obtain ⟨c2',k1,k2⟩ := hR.val ((vAg (qt0 hs).2).trans hv)
  cases h1 with
  | ptr q1 qb q2 =>
   rename_i b zz
   obtain ⟨b',zs,e,r1,r2,r3,r4⟩ := hR.objs _ _ hob'
   rw [q2] at r1; cases r1
   obtain ⟨c1,c2,c3,rfl,t2,t3,t4⟩ := put_cr k1 p r2 hp
   have l1 : c2'.length = n := k1.len.trans hn
   have l2 : c2.length = n := t3.len.trans hn'
   have hones := k1.ones hpl
   have hrun := run_storeVar (P := P) (T := T) (b := b) (agg := y'.isAgg) (c2' := c2') (by rw [l1]; exact hT) (l1.trans l2.symm) hones (qe3 k1) t2 r4
   have hrow : (E.w.setRow b (c1 ++ (c2' ++ c3)).toArray).heap[b]? = some (.cells (c1 ++ (c2' ++ c3)).toArray e (0,0)) := setRow_heap _ _ _ _ _ _ r4
   refine ⟨.skip,E.turn o (.box (AV.put p z y')) (some b) 0 [] (E.w.setRow b (c1 ++ (c2' ++ c3)).toArray),?_,.inl rfl,?_⟩
   ·simp only [execOp,Instr.storeAt]
    have e0 : a.eval x = .pointer (some ⟨b,m,none⟩) := h2
    rw [e0,k2]
    simp only [Instr.sureAddr,Sem.run_bind,Sem.run_pure,Result.andThen]
    rw [hrun]
    rfl
   ·refine hR.turn hob' (by simp) (fun k hk => by cases hk; exact .inl q2) (fun k hk hne => setRow_other _ _ _ _ (fun e => hne (by rw [e]; exact q2))) rfl rfl rfl ?_ (fun he => ?_) (fun _ _ e => by cases e)
    ·simp [OExt,Env.turn,Env.new,q2]
    ·refine ⟨b,_,e,by simp [Env.turn,Env.new],t4.ext he,fun u hu => ?_,hrow⟩
     rcases zL.1 hu with h' | h'
     ·exact r3 u (by simp [h'])
     ·rcases zL.1 h' with h'' | h''
      ·exact hones u h''
      ·exact r3 u (by simp [h''])
end
end Go.Val
namespace Go.Val
open Go.RowKit
variable [Drw]
theorem setCells_row {w : World} {b n : Nat} {e : TypeId} {c1 c2 c3 news : List Value} (hl : news.length = c2.length) (h1 : ∀ v ∈ news,one v = true) (hn : c1.length = n)
  (hb : w.heap[b]? = some (.cells (c1 ++ (c2 ++ c3)).toArray e (0,0))) : w.setCells b n news = w.setRow b (c1 ++ (news ++ c3)).toArray := by
 have hc : ∀ j,j < news.length → (w.cell? ⟨b,n + 0 + j,none⟩).isSome = true := by
  intro j hj
  simp only [World.cell?,hb]
  simp
  omega
 have hf : ∀ j,j < news.length → w.frozen? ⟨b,n + 0 + j,none⟩ = false := by
  intro j hj
  simp [World.frozen?,hb]
 have r1 := run_storeCells_cells (P := default) b n news 0 w hc hf (fun v hv => by rw [one_eq]; exact h1 v hv)
 have r2 := run_storeCells_at default b n e news 0 _ w hb (by simp; omega) (fun v hv => by rw [one_eq]; exact h1 v hv)
 rw [r1] at r2
 simp only [Nat.add_zero,Result.ok.injEq,true_and] at r2
 rw [r2,take_mid hn,hl,drop_mid hn,zI]
inductive Srcs (P : Program) (s : St) (es : Nat) (tx : TypeId) : AV → List D → List Nat → Prop
 | sl {e : TypeId} {rows : List D} (h : slB P tx = some e) : Srcs P s es tx (.d (.sl es rows)) rows []
 | arr {e : TypeId} {o c : Nat} {rows : List D} (h : slB P tx = some e) (ho : s.obj o = some (.arr c es rows)) : Srcs P s es tx (.arr o c) rows [o]
 | str {b : ByteArray} (h : P.underlying tx = some .string) (he : es = 1) : Srcs P s es tx (.d (.v (.string b))) (b.data.toList.map fun x => .v (u8v x)) []
theorem drs_bytes {I : Nat → Prop} {w : World} : ∀ (l : List UInt8),DRs I w (l.map fun x => .v (u8v x)) (l.map u8v)
 | [] => .nil
 | b :: l => by
  have := DRs.cons (I := I) (w := w) (.v (x := u8v b) rfl) (drs_bytes l)
  simpa using this
theorem Srcs.src {P : Program} {s : St} {es : Nat} {tx : TypeId} {y : AV} {rows : List D} {ids : List Nat} (h : Srcs P s es tx y rows ids) {cx : Cx} {a : Act} {E : Env} (hR : R0 cx s a E) {v : Value} (hv : VR E y v)
  (hs : ∀ r ∈ rows,r.size = es) : ∃ news,Src P es tx v rows.length news E.w ∧ DRs E.I E.w rows news := by
 cases h with
 | sl h =>
  obtain ⟨cs,h1,h2⟩ := hv
  cases h1 with
  | d h1 => cases h1 with
   | sl0 =>
    rename_i ad cap
    subst h2
    refine ⟨[],?_,.nil⟩
    cases ad with
    | none => exact ⟨.inl ⟨_,qa0 h⟩,fun _ => rfl,run_firstCells_none _ _ _ _ _,run_firstCells_none _ _ _ _ _,by simp,fun _ h => by cases h⟩
    | some ad => exact .ofSlice _ (qa0 h) ad 0 cap [] (by simp) (fun j u hj => by simp at hj) (fun _ h => by cases h)
   | sl q1 q2 q3 q4 q5 q6 =>
    subst h2
    refine ⟨_,.ofSlice _ (qa0 h) _ _ _ _ (by rw [q3.len,qA0 q4]) (fun j u hj => by rw [q82]; exact q5 j u hj) (fun u hu => by rw [one_eq]; exact q3.ones u hu),q3⟩
 | arr h ho =>
  obtain ⟨cs,h1,h2⟩ := hv
  cases h1 with
  | arr k1 k2 k3 k4 =>
   rw [hR.obj,ho] at k1; cases k1
   have h3 := k3 rfl
   rcases hR.objs _ _ ho with ⟨q1,q2,q3⟩ | ⟨b,cs,sp,e',q1,q2,q3,q4,q5,q6⟩
   ·rw [q1] at h3
    subst h3; subst q2; subst h2
    exact ⟨[],.ofNil _ (qa0 h) 0,.nil⟩
   ·rw [q1] at h3
    subst h3; subst h2
    exact ⟨cs,.ofSlice _ (qa0 h) _ _ _ _ (by rw [q2.len,qA0 q3]) (fun j u hj => by rw [q82]; exact caB q4 j u hj) (fun u hu => by rw [one_eq]; exact q2.ones u hu),q2⟩
 | str h he =>
  subst he
  rename_i b
  have := hv.sc
  subst this
  refine ⟨byteCells b,?_,drs_bytes _⟩
  have h1 : (List.map (fun x => D.v (u8v x)) b.data.toList).length = b.size := by rw [List.length_map,Array.length_toList]; rfl
  rw [h1]
  exact Src.ofString (P := P) E.w h b
def qw5 (P : Program) (T : TypeId) : Option Nat := (P.info? T).map (·.bytes)
theorem info_of {P : Program} {e es bs : Nat} {z : Value} (hS : szB P e = some es) (hB : qw5 P e = some bs) (hZ : (P.info? e).bind (·.zero) = some z) : ∃ i,P.info? e = some i ∧ i.size = es ∧ i.bytes = bs ∧ i.zero = some z := by
 unfold szB at hS
 unfold qw5 at hB
 cases hi : P.info? e with
 | none => simp [hi] at hS
 | some i => simp [hi] at hS hB hZ; exact ⟨i,rfl,hS,hB,hZ⟩
theorem qx4 {z : Array Value} {n : Nat} : (Builtin.zeroCells z n).toList.length = n * z.size := by
 simp [Builtin.zeroCells]
theorem grown_ge (w : World) (need old : Nat) (e : TypeId) : need ≤ grownCap w need old e := by
 show need ≤ need + _ % (2 ^ 63 - need)
 omega
section
variable {P : Program} {N : Nat × Nat} {ops : Array Oper} {i : Nat} {s : St} {d : Nat} {ty : TypeId} {pos : String} {af : Array Edge} {g : Option (Nat × Bool)} {gs : List Nat}
theorem o_app {T tx e es bs : Nat} {x y : Operand} {o c : Nat} {rows rows2 rows' : List D} {ids : List Nat} {src : AV} {z : D} (ho : ops[i]? = some ⟨some d,.call ⟨.builtin .append,#[x,y],#[T,tx]⟩,ty,pos,af,g⟩) (hd : Nat.ble (d + 1) N.1 = true) (hg : G ops s g gs)
  (hx : s.val x = some (.arr o c)) (hob : s.obj o = some (.arr c es rows)) (hy : s.val y = some src) (hsrc : Srcs P s es tx src rows2 ids) (hsz : ∀ r ∈ rows2,r.size = es)
  (hT : slB P T = some e) (hS : szB P e = some es) (hB : qw5 P e = some bs) (hZ : Zero P e z) (hzs : z.size = es) (hfit : (rows.length + rows2.length) * bs ≤ 140737488355328) (h63 : rows.length + rows2.length ≤ 9223372036854775807) (hrows : rows ++ rows2 = rows') :
  Valid P N ops i ⟨gs ++ (opT x ++ opT y),o :: ids,some (d,some (.arr o (c + 1))),[(o,.arr (c + 1) es rows')]⟩ s := by
 subst hrows
 refine vCo ho rfl hd hg fun s' hs ho' cx a E _ hR => ?_
 have hob' : s'.obj o = some (.arr c es rows) := (ho' o (by simp)).trans hob
 have hsrc' : Srcs P s' es tx src rows2 ids := by
  cases hsrc with
  | sl h => exact .sl h
  | arr h h' => exact .arr h ((ho' _ (by simp)).trans h')
  | str h h' => exact .str h h'
 have hvx := hR.val ((vAg (qt0 hs).1).trans hx)
 have hvy := hR.val ((vAg (qt0 hs).2).trans hy)
 obtain ⟨news,hn1,hn2⟩ := hsrc'.src hR hvy hsz
 obtain ⟨zs,hz1,hz2⟩ := hZ E.I E.w
 obtain ⟨inf,hi,hi1,hi2,hi3⟩ := info_of hS hB hz2
 have hzc : (mkV z.isAgg zs).cells = zs.toArray := hz1.mkV_cells
 have hzl : zs.length = es := hz1.len.trans hzs
 obtain ⟨xs,k1,k2⟩ := hvx
 have hnl : news.length = rows2.length * es := by rw [hn2.len,qA0 hsz]
 cases k1 with
 | arr q1 q2 q3 q4 =>
  rw [hR.obj,hob'] at q1; cases q1
  have h3 := q3 rfl
  subst k2
  have run_of : ∀ (u v : Value) (w' : World),a.eval x = u → (Builtin.append_ #[T,tx] ty #[u,a.eval y]).run P E.w = .ok v w' →
    (execOp a.eval ⟨some d,.call ⟨.builtin .append,#[x,y],#[T,tx]⟩,ty,pos,af,g⟩).run P E.w = .ok (.value v) w' := by
   intro u v w' e1 e2
   simp only [execOp,resolve,Sem.run_bind,Sem.run_pure,Result.andThen,invoke,builtin]
   simp only [List.map_toArray,List.map_cons,List.map_nil,e1]
   rw [e2]
  have grow : ∀ (u : Value) (cap : Nat) (olds : List Value) (base : Option Addr),u = .slice base rows.length cap → a.eval x = u → cap < rows.length + rows2.length → DRs E.I E.w rows olds → (∀ r ∈ rows,r.size = es) →
    (Builtin.firstCells inf.size rows.length (.slice base rows.length cap)).run P E.w.drew = .ok olds.toArray E.w.drew →
    ∃ v E',(execOp a.eval ⟨some d,.call ⟨.builtin .append,#[x,y],#[T,tx]⟩,ty,pos,af,g⟩).run P E.w = .ok (.value v) E'.w ∧ VR E' (.arr o (c + 1)) v ∧ R0 cx { s' with obj := q52 s'.obj [(o,.arr (c + 1) es (rows ++ rows2))] } a E' := by
   intro u cap olds base hu hau hcap hol hrs hfc
   have hrun := run_append_grow_src E.w T tx ty e inf (mkV z.isAgg zs) (qa0 hT) hi hi3 base rows.length cap olds hfc (a.eval y) rows2.length news (by rw [hi1]; exact hn1) hcap (by omega)
    (growslice_fits hcap (by rw [hi2]; exact hfit))
   have hge := grown_ge E.w (rows.length + rows2.length) cap e
   generalize hgc : grownCap E.w (rows.length + rows2.length) cap e = gc at hrun hge
   rw [hzc] at hrun
   let sp := (Builtin.zeroCells zs.toArray (gc - (rows.length + rows2.length))).toList
   have hblk : ((olds ++ news).toArray ++ Builtin.zeroCells zs.toArray (gc - (rows.length + rows2.length))) = ((olds ++ news) ++ sp).toArray := by
    apply Array.ext'; simp [sp]
   rw [hblk] at hrun
   let w' := E.w.drew.alloc (.cells ((olds ++ news) ++ sp).toArray e)
   have hsz' : w'.heap.size = E.w.heap.size + 1 := by simp [w']
   have hoth : ∀ k,k < E.w.heap.size → w'.heap[k]? = E.w.heap[k]? := fun k hk => Below.heap_alloc E.w.drew _ _ hk
   have hnew : w'.heap[E.w.heap.size]? = some (.cells ((olds ++ news) ++ sp).toArray e (0,0)) := qr2 E.w.drew _
   refine ⟨_,E.turn o (.arr (c + 1) es (rows ++ rows2)) (some E.w.heap.size) gc [] w',run_of u _ _ hau (by rw [hu]; exact hrun),?_,?_⟩
   ·exact ⟨_,.arr (cur := c + 1) (es := es) (rows := rows ++ rows2) (by simp [Env.turn,Env.new,qf1]) (Nat.le_refl _) (fun _ => by simp [Env.turn,Env.new,q66]) rfl,rfl⟩
   ·refine hR.turn hob' (by omega) (fun k hk => by cases hk; exact .inr (Nat.le_refl _)) (fun k hk _ => hoth k hk) rfl rfl rfl ?_ (fun he => ?_) (fun _ _ e => by cases e)
    ·exact ⟨Nat.le_succ _,fun e => by omega⟩
    ·refine .inr ⟨E.w.heap.size,olds ++ news,sp,e,by simp [Env.turn,Env.new],(hol.append hn2).mono he.hz he.imm,fun r hr => ?_,hnew,?_,?_⟩
     ·rcases zL.1 hr with h | h
      ·exact hrs r h
      ·exact hsz r h
     ·have l1 : olds.length = rows.length * es := by rw [hol.len,qA0 hrs]
      have l2 : sp.length = (gc - (rows.length + rows2.length)) * es := by simp only [sp,qx4]; rw [List.size_toArray,hzl]
      simp only [zF,l1,hnl,l2,Env.turn,Env.new,if_true]
      rw [← Nat.add_mul,← Nat.add_mul]
      congr 1
      omega
     ·simp only [zF,Env.turn,Env.new,if_true]; exact hge
  rcases hR.objs _ _ hob' with ⟨p1,p2,p3⟩ | ⟨b,cs,sp,e',p1,p2,p3,p4,p5,p6⟩
  ·
   rw [p1] at h3
   subst p2
   by_cases h0 : rows2.length = 0
   ·
    have hr2 : rows2 = [] := List.eq_nil_of_length_eq_zero h0
    subst hr2
    have hrun : (Builtin.append_ #[T,tx] ty #[.slice none 0 0,a.eval y]).run P E.w = .ok (.slice none 0 0) E.w := by
     have hl := hn1.len
     have hc := hn1.cells
     rcases hn1.kind with ⟨e',hk⟩ | hk <;> simp [Builtin.append_,run_underlying (qa0 hT),run_underlying hk,sizeOf,typeInfo,hi,hl,Result.andThen] <;> (rw [hi1]; simp at hc; rw [hc])
    refine ⟨_,E.turn o (.arr (c + 1) es []) none 0 [] E.w,run_of (.slice none 0 0) _ _ (by rw [h3]; rfl) hrun,?_,?_⟩
    ·exact ⟨_,.arr (cur := c + 1) (es := es) (rows := []) (by simp [Env.turn,Env.new,qf1]) (Nat.le_refl _) (fun _ => by simp [Env.turn,Env.new,q66]) rfl,rfl⟩
    ·refine hR.turn hob' (Nat.le_refl _) (fun k hk => by cases hk) (fun k hk _ => rfl) rfl rfl rfl ⟨Nat.le_succ _,fun e => by omega⟩ (fun he => .inl ?_) (fun _ _ e => by cases e)
     simp [Env.turn,Env.new]
   ·refine grow (.slice none 0 0) 0 [] none rfl (by rw [h3]; rfl) (by simp; omega) .nil (fun _ h => by cases h) ?_
    exact run_firstCells_none _ _ _ _ _
  ·rw [p1] at h3
   have hu : a.eval x = .slice (some ⟨b,0,none⟩) rows.length (E.γ o) := by rw [h3]; rfl
   have l1 : cs.length = rows.length * es := by rw [p2.len,qA0 p3]
   by_cases hroom : rows.length + rows2.length ≤ E.γ o
   ·
    have hspl : news.length ≤ sp.length := by
     have : (cs ++ sp).length = cs.length + sp.length := zF
     have h4 : (rows.length + rows2.length) * es ≤ E.γ o * es := Nat.mul_le_mul_right _ hroom
     rw [Nat.add_mul] at h4
     omega
    have hsplit : sp = sp.take news.length ++ sp.drop news.length := (List.take_append_drop _ _).symm
    rw [hsplit] at p4
    have hc2 : (sp.take news.length).length = news.length := by simp; omega
    have hrun := run_append_room_src E.w T tx ty e inf (qa0 hT) hi b 0 rows.length (E.γ o) (a.eval y) rows2.length news (by rw [hi1]; exact hn1) hroom
     (fun j hj => by
      simp only [World.cell?,p4,hi1]
      simp
      omega)
     (fun j hj => by simp [World.frozen?,p4])
    rw [hi1,Nat.zero_add,setCells_row hc2.symm (fun v hv => by rw [← one_eq]; exact hn1.one v hv) l1 p4] at hrun
    let w' := E.w.setRow b (cs ++ (news ++ sp.drop news.length)).toArray
    have hrow : w'.heap[b]? = some (.cells (cs ++ (news ++ sp.drop news.length)).toArray e' (0,0)) := setRow_heap _ _ _ _ _ _ p4
    refine ⟨_,E.turn o (.arr (c + 1) es (rows ++ rows2)) (some b) (E.γ o) [] w',run_of _ _ _ hu hrun,?_,?_⟩
    ·exact ⟨_,.arr (cur := c + 1) (es := es) (rows := rows ++ rows2) (by simp [Env.turn,Env.new,qf1]) (Nat.le_refl _) (fun _ => by simp [Env.turn,Env.new,q66]) rfl,rfl⟩
    ·refine hR.turn hob' (by simp [w']) (fun k hk => by cases hk; exact .inl p1) (fun k hk hne => setRow_other _ _ _ _ (fun e => hne (by rw [e]; exact p1))) rfl rfl rfl ⟨Nat.le_succ _,fun e => by omega⟩ (fun he => ?_) (fun _ _ e => by cases e)
     refine .inr ⟨b,cs ++ news,sp.drop news.length,e',by simp [Env.turn,Env.new],(p2.append hn2).mono he.hz he.imm,fun r hr => ?_,by rw [zI]; exact hrow,?_,?_⟩
     ·rcases zL.1 hr with h | h
      ·exact p3 r h
      ·exact hsz r h
     ·simp only [Env.turn,Env.new,if_true]
      rw [← p5]
      simp
      omega
     ·simp only [zF,Env.turn,Env.new,if_true]; exact hroom
   ·refine grow _ (E.γ o) cs _ rfl hu (by omega) p2 p3 ?_
    rw [hi1]
    exact run_firstCells_some E.w.drew es _ _ _ _ cs l1 (fun j v hj => by rw [q82]; exact caB p4 j v hj)
end
end Go.Val
namespace Go.Val
open Go.RowKit
variable [Drw]
inductive Bd (s : St) (dflt : Nat) : Option Operand → Nat → Prop
 | no : Bd s dflt none dflt
 | val {o : Operand} {k : IntKind} {n : Int} (h : s.val o = some (.d (.v (.int k n)))) (h0 : 0 ≤ n) : Bd s dflt (some o) n.toNat
def bdT : Option Operand → List Nat
 | some o => opT o
 | none => []
theorem Bd.vals {s s' : St} {dflt v : Nat} {x : Option Operand} (h : Bd s dflt x v) (hs : ∀ t ∈ bdT x,s'.slot t = s.slot t) {cx : Cx} {a : Act} {E : Env} (hR : R0 cx s' a E) :
  (x.map a.eval = none ∧ v = dflt) ∨ ∃ k n,x.map a.eval = some (.int k n) ∧ 0 ≤ n ∧ n.toNat = v := by
 cases h with
 | no => exact .inl ⟨rfl,rfl⟩
 | val h h0 => exact .inr ⟨_,_,by rw [Option.map_some,(hR.val ((vAg hs).trans h)).sc],h0,rfl⟩
theorem qm5 {P : Program} {w : World} {b : Bool} {len cap lv hv : Nat} {low high : Option Value} (hl : (low = none ∧ lv = 0) ∨ ∃ k n,low = some (.int k n) ∧ 0 ≤ n ∧ n.toNat = lv)
  (hh : (high = none ∧ hv = len) ∨ ∃ k n,high = some (.int k n) ∧ 0 ≤ n ∧ n.toNat = hv) (h1 : lv ≤ hv) (h2 : hv ≤ cap) : (Instr.sliceBounds b len cap low high none).run P w = .ok (lv,hv,cap) w := by
 have sb : ∀ (k : IntKind) (n : Int) (y : Nat) (c : BoundsCode),0 ≤ n → n.toNat ≤ y → (Instr.sliceBound (.int k n) y c).run P w = .ok n.toNat w := by
  intro k n y c h0 hy
  simp only [Instr.sliceBound,asIntOf,Sem.run_bind,Sem.run_pure,Result.andThen]
  rw [if_pos ⟨h0,by omega⟩]
  rfl
 unfold Instr.sliceBounds
 rcases hl with ⟨rfl,rfl⟩ | ⟨k,n,rfl,h0,rfl⟩ <;> rcases hh with ⟨rfl,rfl⟩ | ⟨k',n',rfl,h0',rfl⟩
 ·simp [Result.andThen]
 ·simp [Result.andThen,sb k' n' cap _ h0' h2]
 ·simp [Result.andThen,sb k n _ _ h0 h1]
 ·simp [Result.andThen,sb k n _ _ h0 h1,sb k' n' cap _ h0' h2]
def mpB (P : Program) (T : TypeId) : Option (TypeId × TypeId) := match P.underlying T with
 | some (.map k e) => some (k,e)
 | _ => none
theorem q24 {P : Program} {T k e : TypeId} (h : mpB P T = some (k,e)) : P.underlying T = some (.map k e) := by
 unfold mpB at h
 split at h <;> simp_all
def mget {κ β : Type} [DecidableEq κ] (m : List (κ × β)) (k : κ) : Option β := (m.find? fun p => decide (k = p.1)).map (·.2)
def mset {κ β : Type} [DecidableEq κ] (m : List (κ × β)) (k : κ) (v : β) : List (κ × β) := match m.findIdx? fun p => decide (k = p.1) with
 | some i => m.set i (k,v)
 | none => m ++ [(k,v)]
def mdel {κ β : Type} [DecidableEq κ] (m : List (κ × β)) (k : κ) : List (κ × β) := m.eraseP fun p => decide (k = p.1)
structure KL (P : Program) (T : TypeId) {κ : Type} [DecidableEq κ] (ek : κ → D) : Prop where
 check : ∀ {I : Nat → Prop} {w : World} {k : κ} {c : List Value} (em : Bool),DR I w (ek k) c → (Instr.checkKey em 10000 T (mkV (ek k).isAgg c)).run P w = .ok () w
 find : ∀ {I : Nat → Prop} {w : World} {k : κ} {c : List Value} (ents : List MapEntry) (ks : List κ),DR I w (ek k) c → ents.length = ks.length →
  (∀ (i : Nat) e k',ents[i]? = some e → ks[i]? = some k' → ∃ c',DR I w (ek k') c' ∧ e.key = mkV (ek k').isAgg c') →
  (Instr.findKey T (mkV (ek k).isAgg c) ents).run P w = .ok ((ks.findIdx? fun k' => decide (k = k')).bind fun i => (ents[i]?).map fun e => (i,e.val)) w
 bits : ∀ {I : Nat → Prop} {w w' : World} {k : κ} {c c' : List Value},DR I w (ek k) c → DR I w' (ek k) c' → Instr.sameBits 10000 (mkV (ek k).isAgg c) (mkV (ek k).isAgg c') = true
section
variable {P : Program}
theorem findAsking_of {T : TypeId} {κ : Type} [DecidableEq κ] {w : World} {v : Value} {k : κ} : ∀ (ents : List MapEntry) (ks : List κ) (j : Nat),ents.length = ks.length →
  (∀ (i : Nat) e k',ents[i]? = some e → ks[i]? = some k' → (Op.equal T v e.key).run P w = .ok (decide (k = k')) w) →
  (Instr.findAsking T v ents j).run P w = .ok ((ks.findIdx? fun k' => decide (k = k')).bind fun i => (ents[i]?).map fun e => (i + j,e.val)) w
 | [],[],j,_,_ => rfl
 | [],_ :: _,_,h,_ => by cases h
 | _ :: _,[],_,h,_ => by cases h
 | e :: ents,k' :: ks,j,hl,h => by
  have h0 := h 0 e k' rfl rfl
  unfold Instr.findAsking
  rw [Sem.run_bind,h0]
  simp only [Result.andThen]
  by_cases hk : k = k'
  ·simp [hk,List.findIdx?_cons]
  ·have ih := findAsking_of ents ks (j + 1) (by simpa using hl) (fun i e k' h1 h2 => h (i + 1) e k' (by simpa using h1) (by simpa using h2))
   simp only [hk,zB,Bool.false_eq_true,if_false,ih,List.findIdx?_cons]
   congr 1
   cases ks.findIdx? fun k' => decide (k = k') with
   | none => rfl
   | some i => simp [Nat.add_assoc,Nat.add_comm 1 j]
theorem qv5 (n : Nat) : ∀ (l : List UInt8),((l.map u8v).zip (l.map u8v)).all (fun x => Instr.sameBits (n + 1) x.1 x.2) = true
 | [] => rfl
 | b :: l => by
  simp only [List.map_cons,List.zip_cons_cons,List.all_cons,qv5 n l,Bool.and_true]
  simp [u8v,Instr.sameBits]
theorem check_bytes {T e n : TypeId} (hT : arB P T = some (n,e)) (he : P.underlying e = some (.int .u8)) (hs : szB P e = some 1) (q : Nat) (em : Bool) {w : World} {k : List UInt8} (hk : k.length = n) :
  (Instr.checkKey em (q + 2) T (.agg (k.map u8v).toArray)).run P w = .ok () w := by
 have hA : aggB P e = some false := by unfold aggB; rw [he]; rfl
 unfold Instr.checkKey
 simp only [Sem.run_bind,run_underlying (qp5 hT),Result.andThen]
 rw [Std.Legacy.Range.forIn_eq_forIn_range']
 rw [run_each (P := P) (w := w) _ _ (fun i hi => ?_)]
 ·rfl
 have hi' : i < k.length := by
  simp [Std.Legacy.Range.size] at hi
  omega
 simp only [Sem.run_bind,rSO hs,Result.andThen,Nat.mul_one]
 rw [q44 hA (v := u8v k[i]) (by simp [hi'])]
 simp only [Result.andThen,u8v,Instr.checkKey,Sem.run_bind,run_underlying he,Sem.run_pure]
theorem KL.bytes {T e n : TypeId} (hT : arB P T = some (n,e)) (he : P.underlying e = some (.int .u8)) (hs : szB P e = some 1) : KL P T (fun k : List UInt8 => .bs n k) := by
 refine ⟨fun {I w k c} em hc => ?_,fun {I w k c} ents ks hc hl hk => ?_,fun {I w w' k c c'} hc hc' => ?_⟩
 ·cases hc with
  | bs hc =>
   exact check_bytes hT he hs 9998 em hc
 ·rw [run_findKey_eq w (by rw [qp5 hT])]
  have := findAsking_of (P := P) (T := T) (w := w) (v := mkV (D.bs n k).isAgg c) (k := k) ents ks 0 hl (fun i e' k' h1 h2 => by
   obtain ⟨c',q1,q2⟩ := hk i e' k' h1 h2
   rw [q2]
   exact run_eqD (.bs hT he hs) hc q1)
  simpa using this
 ·cases hc with
  | bs _ => cases hc' with
   | bs _ =>
    simp only [mkV,D.isAgg,if_true,Instr.sameBits]
    simp only [List.size_toArray,beq_self_eq_true,Bool.true_and]
    exact qv5 9998 k
theorem KL.int {T : TypeId} {q : IntKind} (hT : P.underlying T = some (.int q)) : KL P T (fun k : Int => .v (.int q k)) := by
 refine ⟨fun {I w k c} em hc => ?_,fun {I w k c} ents ks hc hl hk => ?_,fun {I w w' k c c'} hc hc' => ?_⟩
 ·cases hc with
  | v _ =>
   simp only [mkV,D.isAgg,Bool.false_eq_true,if_false,List.headD_cons]
   unfold Instr.checkKey
   simp only [Sem.run_bind,run_underlying hT,Result.andThen,Sem.run_pure]
 ·cases hc with
  | v _ =>
   simp only [mkV,D.isAgg,Bool.false_eq_true,if_false,List.headD_cons]
   have now : ∀ (ents : List MapEntry) (ks : List Int) (j : Nat),ents.length = ks.length → (∀ (i : Nat) e k',ents[i]? = some e → ks[i]? = some k' → e.key = .int q k') →
     Instr.findNow (.int q) (.int q k) ents j = some ((ks.findIdx? fun k' => decide (k = k')).bind fun i => (ents[i]?).map fun e => (i + j,e.val)) := by
    intro ents
    induction ents with
    | nil => intro ks j hl _; cases ks with
     | nil => rfl
     | cons => cases hl
    | cons e ents ih =>
     intro ks j hl h
     cases ks with
     | nil => cases hl
     | cons k' ks =>
      have h0 := h 0 e k' rfl rfl
      simp only [Instr.findNow,h0,Instr.sameNow,if_true]
      by_cases hkk : k = k'
      ·simp [hkk,List.findIdx?_cons]
      ·have := ih ks (j + 1) (by simpa using hl) (fun i e k' h1 h2 => h (i + 1) e k' (by simpa using h1) (by simpa using h2))
       have hb : (k == k') = false := by simpa using hkk
       simp only [hb,this,List.findIdx?_cons,hkk,zB,Bool.false_eq_true,if_false]
       congr 1
       cases ks.findIdx? fun k' => decide (k = k') with
       | none => rfl
       | some i => simp [Nat.add_assoc,Nat.add_comm 1 j]
   have := now ents ks 0 hl (fun i e k' h1 h2 => by
    obtain ⟨c',q1,q2⟩ := hk i e k' h1 h2
    cases q1 with
    | v _ => exact q2)
   unfold Instr.findKey
   simp only [Sem.run_bind,run_underlying hT,Result.andThen,this,Sem.run_pure]
   simp
 ·cases hc with
  | v _ => cases hc' with
   | v _ => simp [mkV,D.isAgg,Instr.sameBits]
end
section
variable {P : Program} {N : Nat × Nat} {ops : Array Oper} {i : Nat} {s : St} {d : Nat} {ty : TypeId} {pos : String} {af : Array Edge} {g : Option (Nat × Bool)} {gs : List Nat}
theorem mem_app3 {p q r : List Nat} {f g : Nat → Option AV} (h : ∀ t ∈ p ++ (q ++ r),f t = g t) : (∀ t ∈ p,f t = g t) ∧ (∀ t ∈ q,f t = g t) ∧ (∀ t ∈ r,f t = g t) :=
 ⟨(qt0 h).1,(qt0 (qt0 h).2).1,(qt0 (qt0 h).2).2⟩
theorem o_slS {T : TypeId} {x : Operand} {lo hi : Option Operand} {b : ByteArray} {lv hv : Nat} (ho : ops[i]? = some ⟨some d,.slice T x lo hi none,ty,pos,af,g⟩) (hd : Nat.ble (d + 1) N.1 = true) (hg : G ops s g gs)
  (hx : s.val x = some (.d (.v (.string b)))) (hT : P.underlying T = some .string) (hl : Bd s 0 lo lv) (hh : Bd s b.size hi hv) (h1 : lv ≤ hv) (h2 : hv ≤ b.size) :
  Valid P N ops i ⟨gs ++ (opT x ++ (bdT lo ++ bdT hi)),[],some (d,some (.d (.v (.string (b.extract lv hv))))),[]⟩ s :=
 vPu ho hd hg fun s' hs cx a E hR => by
  obtain ⟨m1,m2,m3⟩ := mem_app3 hs
  have e1 := (hR.val ((vAg m1).trans hx)).sc
  refine ⟨_,?_,.of_sc rfl⟩
  have hb := qm5 (P := P) (w := E.w) (b := false) (len := b.size) (cap := b.size) (hl.vals m2 hR) (hh.vals m3 hR) h1 h2
  simp only [execOp,Option.map_none]
  rw [e1]
  simp only [Instr.sliceAt,Instr.slice,Sem.run_bind,run_underlying hT,Result.andThen,Option.isSome_none,Bool.false_eq_true,if_false,Sem.run_pure,hb]
theorem o_sl {T e es : Nat} {x : Operand} {lo hi : Option Operand} {rows rows' : List D} {lv hv : Nat} (ho : ops[i]? = some ⟨some d,.slice T x lo hi none,ty,pos,af,g⟩) (hd : Nat.ble (d + 1) N.1 = true) (hg : G ops s g gs)
  (hx : s.val x = some (.d (.sl es rows))) (hT : slB P T = some e) (hS : szB P e = some es) (hl : Bd s 0 lo lv) (hh : Bd s rows.length hi hv) (h1 : lv ≤ hv) (h2 : hv ≤ rows.length) (hr : (rows.take hv).drop lv = rows') :
  Valid P N ops i ⟨gs ++ (opT x ++ (bdT lo ++ bdT hi)),[],some (d,some (.d (.sl es rows'))),[]⟩ s :=
 vPu ho hd hg fun s' hs cx a E hR => by
  subst hr
  obtain ⟨m1,m2,m3⟩ := mem_app3 hs
  obtain ⟨cs,k1,k2⟩ := hR.val ((vAg m1).trans hx)
  have hl' := hl.vals m2 hR
  have hh' := hh.vals m3 hR
  have run_of : ∀ (ad : Option Addr) (cap : Nat),a.eval x = .slice ad rows.length cap → rows.length ≤ cap → (execOp a.eval ⟨some d,.slice T x lo hi none,ty,pos,af,g⟩).run P E.w =
    .ok (.value (.slice (if cap = lv then ad else ad.map (·.add (lv * es))) (hv - lv) (cap - lv))) E.w := by
   intro ad cap e1 hcap
   have hb := qm5 (P := P) (w := E.w) (b := true) (len := rows.length) (cap := cap) hl' hh' h1 (by omega)
   simp only [execOp,Option.map_none]
   rw [e1]
   simp only [Instr.sliceAt,Instr.slice,Sem.run_bind,run_underlying (qa0 hT),Result.andThen,hb,rSO hS,Sem.run_pure]
  cases k1 with
  | d k1 =>
   cases k1 with
   | sl0 =>
    rename_i ad cap
    simp at h2
    refine ⟨_,run_of ad cap k2 (Nat.zero_le _),[.slice (if cap = lv then ad else ad.map (·.add (lv * es))) (hv - lv) (cap - lv)],.d ?_,rfl⟩
    ·have e1 : hv - lv = 0 := by omega
     rw [e1]
     simp only [List.take_nil,List.drop_nil]
     exact .sl0
   | sl q1 q2 q3 q4 q5 q6 =>
    rename_i b off cap cs
    refine ⟨_,run_of _ cap k2 q6,[.slice (if cap = lv then some ⟨b,off,none⟩ else (some (⟨b,off,none⟩ : Addr)).map (·.add (lv * es))) (hv - lv) (cap - lv)],.d ?_,rfl⟩
    have hlen : ((rows.take hv).drop lv).length = hv - lv := by simp; omega
    by_cases hc : cap = lv
    ·have : hv - lv = 0 := by omega
     rw [this] at hlen ⊢
     rw [List.eq_nil_of_length_eq_zero hlen]
     exact .sl0
    ·rw [if_neg hc,Option.map_some,q82]
     have hsplit : rows = rows.take lv ++ ((rows.take hv).drop lv ++ rows.drop hv) := by
      have : (rows.take hv).take lv = rows.take lv := by rw [List.take_take]; congr 1; omega
      rw [← zI,← this,List.take_append_drop,List.take_append_drop]
     rw [hsplit] at q3
     obtain ⟨c1,c2,rfl,t1,t2⟩ := DRs.split _ q3
     obtain ⟨c3,c4,rfl,t3,t4⟩ := DRs.split _ t2
     have l1 : c1.length = lv * es := by
      rw [t1.len,qA0 (fun r hr => q4 r (List.mem_of_mem_take hr)),List.length_take,Nat.min_eq_left (by omega)]
     have h6 := q5.right.left
     rw [l1] at h6
     rw [← hlen]
     exact .sl q1 q2 t3 (fun r hr => q4 r (List.mem_of_mem_take (List.mem_of_mem_drop hr))) h6 (by rw [hlen]; omega)
theorem o_slP {T e n es : Nat} {x : Operand} {lo hi : Option Operand} {o m lv hv : Nat} (ho : ops[i]? = some ⟨some d,.slice T x lo hi none,ty,pos,af,g⟩) (hd : Nat.ble (d + 1) N.1 = true) (hg : G ops s g gs)
  (hx : s.val x = some (.ptr o m)) (hT : arB P T = some (n,e)) (hS : szB P e = some es) (hl : Bd s 0 lo lv) (hh : Bd s n hi hv) (h1 : lv ≤ hv) (h2 : hv ≤ n) (h3 : lv < n) :
  Valid P N ops i ⟨gs ++ (opT x ++ (bdT lo ++ bdT hi)),[],some (d,some (.bsl o (m + lv * es) (hv - lv) (n - lv))),[]⟩ s :=
 vPu ho hd hg fun s' hs cx a E hR => by
  obtain ⟨m1,m2,m3⟩ := mem_app3 hs
  obtain ⟨cs,k1,k2⟩ := hR.val ((vAg m1).trans hx)
  have hb := qm5 (P := P) (w := E.w) (b := false) (len := n) (cap := n) (hl.vals m2 hR) (hh.vals m3 hR) h1 h2
  cases k1 with
  | ptr q1 qb q2 =>
   rename_i b z
   have e1 : a.eval x = .pointer (some ⟨b,m,none⟩) := k2
   refine ⟨_,?_,_,.bsl q1 qb q2,rfl⟩
   simp only [execOp,Option.map_none]
   rw [e1]
   simp only [Instr.sliceAt,Sem.run_bind,run_underlying (qp5 hT),Result.andThen,Instr.sureAddr,Sem.run_pure,hb,rSO hS]
   rw [if_neg (by omega),q82]
   rfl
end
end Go.Val
namespace Go.Val
open Go.RowKit
variable [Drw]
def mD {κ β : Type} (ek : κ → D) (ev : β → D) (m : List (κ × β)) : List (D × D) := m.map fun p => (ek p.1,ev p.2)
theorem find_idx {κ β : Type} [DecidableEq κ] (m : List (κ × β)) (k : κ) : (m.map (·.1)).findIdx? (fun k' => decide (k = k')) = m.findIdx? (fun p => decide (k = p.1)) := by
 rw [List.findIdx?_map]; rfl
structure MapAt (E : Env) (o ver : Nat) {κ β : Type} (ek : κ → D) (ev : β → D) (m : List (κ × β)) (b : Nat) (ents : Array MapEntry) (clock : Nat) : Prop where
 β : E.β o = some b
 heap : E.w.heap[b]? = some (.map ents clock)
 size : ents.size = m.length
 at_ : ∀ (i : Nat) p ent,m[i]? = some p → ents[i]? = some ent → ∃ ck cx,DR E.I E.w (ek p.1) ck ∧ DR E.I E.w (ev p.2) cx ∧ ent.key = mkV (ek p.1).isAgg ck ∧ ent.val = mkV (ev p.2).isAgg cx
 δ : E.δ o = ents.toList.map (·.born)
 nodup : (E.δ o).Nodup
 lt : ∀ n ∈ E.δ o,n < clock
 γ : clock = E.γ o
theorem mapAt_of {E : Env} {o ver : Nat} {κ β : Type} {ek : κ → D} {ev : β → D} {m : List (κ × β)} (h : OR E o (.map ver (mD ek ev m))) : ∃ b ents clock,MapAt E o ver ek ev m b ents clock := by
 obtain ⟨b,ents,clock,h1,h2,h3,h4,h5,h6,h7,h8⟩ := h
 refine ⟨b,ents,clock,h1,h2,by simpa [mD] using h3,fun i p ent p1 p2 => ?_,h5,h6,h7,h8⟩
 exact h4 i (ek p.1) (ev p.2) ent (by simp [mD,p1]) p2
theorem MapAt.or {E : Env} {o ver : Nat} {κ β : Type} {ek : κ → D} {ev : β → D} {m : List (κ × β)} {b : Nat} {ents : Array MapEntry} {clock : Nat} (h : MapAt E o ver ek ev m b ents clock) : OR E o (.map ver (mD ek ev m)) := by
 refine ⟨b,ents,clock,h.β,h.heap,by simp [mD,h.size],fun i k x ent p1 p2 => ?_,h.δ,h.nodup,h.lt,h.γ⟩
 simp only [mD,List.getElem?_map,Option.map_eq_some_iff] at p1
 obtain ⟨p,q1,q2⟩ := p1
 cases q2
 exact h.at_ i p ent q1 p2
section
variable {P : Program}
theorem run_find {T : TypeId} {κ β : Type} [DecidableEq κ] {ek : κ → D} {ev : β → D} (hK : KL P T ek) {E : Env} {o ver b clock : Nat} {m : List (κ × β)} {ents : Array MapEntry} (h : MapAt E o ver ek ev m b ents clock)
  {k : κ} {c : List Value} (hc : DR E.I E.w (ek k) c) :
  (Instr.findKey T (mkV (ek k).isAgg c) ents.toList).run P E.w = .ok ((m.findIdx? fun p => decide (k = p.1)).bind fun i => (ents[i]?).map fun e => (i,e.val)) E.w := by
 have := hK.find ents.toList (m.map (·.1)) hc (by simp [h.size]) (fun i e k' h1 h2 => by
  simp only [List.getElem?_map,Option.map_eq_some_iff] at h2
  obtain ⟨p,q1,rfl⟩ := h2
  obtain ⟨ck,cx,r1,r2,r3,r4⟩ := h.at_ i p e q1 (by simpa using h1)
  exact ⟨ck,r1,r3⟩)
 rw [this,find_idx]
 simp
theorem qq3 {w : World} {b : Nat} {ents : Array MapEntry} {clock : Nat} (h : w.heap[b]? = some (.map ents clock)) : (getObj b).run P w = .ok (.map ents clock) w := by
 simp [getObj,Sem.run,h]
theorem qq5 {w : World} {b : Nat} {ents : Array MapEntry} {clock : Nat} (x : Obj) (h : w.heap[b]? = some (.map ents clock)) : (setObj b x).run P w = .ok () { w with heap := w.heap.setIfInBounds b x } := by
 simp [setObj,Sem.run,h]
end
theorem R0.setMap {cx : Cx} {s : St} {a : Act} {E : Env} (h : R0 cx s a E) {o ver b clock clock' : Nat} {κ β : Type} {ek : κ → D} {ev : β → D} {m m' : List (κ × β)} {ents ents' : Array MapEntry} (ho : s.obj o = some (.map ver (mD ek ev m)))
  (hm : MapAt E o ver ek ev m b ents clock) (hsz : ents'.size = m'.length)
  (hat : ∀ (i : Nat) p ent,m'[i]? = some p → ents'[i]? = some ent → ∃ ck cx,DR E.I E.w (ek p.1) ck ∧ DR E.I E.w (ev p.2) cx ∧ ent.key = mkV (ek p.1).isAgg ck ∧ ent.val = mkV (ev p.2).isAgg cx)
  (hnd : (ents'.toList.map (·.born)).Nodup) (hlt : ∀ n ∈ ents'.toList.map (·.born),n < clock') :
  ∃ E',E'.w = { E.w with heap := E.w.heap.setIfInBounds b (.map ents' clock') } ∧ R0 cx (s.set o (.map (ver + 1) (mD ek ev m'))) a E' := by
 have hbl : b < E.w.heap.size := (Array.getElem?_eq_some_iff.1 hm.heap).1
 refine ⟨E.turn o (.map (ver + 1) (mD ek ev m')) (some b) clock' (ents'.toList.map (·.born)) { E.w with heap := E.w.heap.setIfInBounds b (.map ents' clock') },rfl,?_⟩
 refine h.turn ho (by simp) (fun k hk => by cases hk; exact .inl hm.β) (fun k hk hne => ?_) rfl rfl rfl ?_ (fun he => ?_) (fun v es e => by cases e; exact ⟨_,rfl⟩)
 ·have : b ≠ k := fun e => hne (by rw [← e]; exact hm.β)
  simp [Array.getElem?_setIfInBounds_ne this]
 ·simp [OExt,Env.turn,Env.new,hm.β]
 ·refine MapAt.or (b := b) (ents := ents') (clock := clock') ⟨by simp [Env.turn,Env.new],by simp [Env.turn,Env.new,hbl],hsz,fun i p ent p1 p2 => ?_,by simp [Env.turn,Env.new],by simpa [Env.turn,Env.new] using hnd,by simpa [Env.turn,Env.new] using hlt,by simp [Env.turn,Env.new]⟩
  obtain ⟨ck,cx',r1,r2,r3,r4⟩ := hat i p ent p1 p2
  exact ⟨ck,cx',r1.mono he.hz he.imm,r2.mono he.hz he.imm,r3,r4⟩
section
variable {P : Program} {N : Nat × Nat} {ops : Array Oper} {i : Nat} {s : St} {d : Nat} {ty : TypeId} {pos : String} {af : Array Edge} {g : Option (Nat × Bool)} {gs : List Nat}
theorem o_mkmap {T : TypeId} {κ β : Type} (ek : κ → D) (ev : β → D) (o : Nat) (ho : ops[i]? = some ⟨some d,.makeMap T none,ty,pos,af,g⟩) (hd : Nat.ble (d + 1) N.1 = true) (hg : G ops s g gs) (hn : s.obj o = none) :
  Valid P N ops i ⟨gs ++ [],[o],some (d,some (.map o)),[(o,.map 0 (mD ek ev []))]⟩ s :=
 vCo ho rfl hd hg fun s' _ ho' cx a E _ hR => by
  have hno := noObj ho' hn
  have hno' : E.obj o = none := by rw [hR.obj]; exact hno
  refine ⟨.map (some E.w.heap.size),E.new o (.map 0 (mD ek ev [])) (some E.w.heap.size) 0 [] (E.w.alloc (.map #[] 0)),?_,?_,?_⟩
  ·simp only [execOp,Instr.makeMap,Option.map_none,Sem.run_bind,Sem.run_pure,Result.andThen]
   rfl
  ·exact ⟨_,.map (ver := 0) (es := mD ek ev []) (by simp [Env.new,qf1]) (by simp [Env.new]),rfl⟩
  ·refine hR.new hno (by simp) (fun k hk => by cases hk; exact Nat.le_refl _) (fun k hk => Below.heap_alloc _ _ _ hk) (hR.keeps.grow _) ?_
   exact ⟨E.w.heap.size,#[],0,by simp [Env.new],qr2 _ _,by simp [mD],fun i k x ent p1 p2 => by simp at p2,by simp [Env.new],by simp [Env.new],by simp [Env.new]⟩
theorem o_mapset {T kt vt : TypeId} {x k v : Operand} {o ver : Nat} {κ β : Type} [DecidableEq κ] {ek : κ → D} {ev : β → D} {m m' : List (κ × β)} (kk : κ) (vv : β) (ho : ops[i]? = some ⟨none,.mapUpdate T x k v,ty,pos,af,g⟩) (hg : G ops s g gs)
  (hx : s.val x = some (.map o)) (hob : s.obj o = some (.map ver (mD ek ev m))) (hk : s.val k = some (.d (ek kk))) (hv : s.val v = some (.d (ev vv))) (hT : mpB P T = some (kt,vt)) (hK : KL P kt ek) (hm : mset m kk vv = m') :
  Valid P N ops i ⟨gs ++ (opT x ++ (opT k ++ opT v)),[o],none,[(o,.map (ver + 1) (mD ek ev m'))]⟩ s :=
 qs4 ho rfl hg fun s' hs ho' cx a E _ hR => by
  subst hm
  obtain ⟨m1,m2,m3⟩ := mem_app3 hs
  have hob' : s'.obj o = some (.map ver (mD ek ev m)) := (ho' o (by simp)).trans hob
  obtain ⟨cs,k1,k2⟩ := hR.val ((vAg m1).trans hx)
  obtain ⟨ck,q1,q2⟩ := hR.val ((vAg m2).trans hk)
  obtain ⟨cv,r1,r2⟩ := hR.val ((vAg m3).trans hv)
  obtain ⟨b,ents,clock,hM⟩ := mapAt_of (hR.objs _ _ hob')
  cases q1 with
  | d q1 =>
  cases r1 with
  | d r1 =>
  cases k1 with
  | map t1 t2 =>
   rw [hM.β] at t2; cases t2
   have e1 : a.eval x = .map (some b) := k2
   simp only [AV.isAgg] at q2 r2
   have hfind := run_find hK hM q1
   have hchk := hK.check (P := P) false q1
   have hidx : ∀ j,m.findIdx? (fun p => decide (kk = p.1)) = some j → ∃ p,m[j]? = some p ∧ p.1 = kk ∧ j < ents.size := by
    intro j hj
    obtain ⟨h1,h2,_⟩ := List.findIdx?_eq_some_iff_getElem.1 hj
    exact ⟨m[j],by simp [h1],by simpa using (of_decide_eq_true h2).symm,by rw [hM.size]; exact h1⟩
   cases hf : m.findIdx? (fun p => decide (kk = p.1)) with
   | none =>
    rw [hf] at hfind
    obtain ⟨E',w1,w2⟩ := hR.setMap hob' hM (m' := m ++ [(kk,vv)]) (ents' := ents.push ⟨mkV (ek kk).isAgg ck,mkV (ev vv).isAgg cv,clock⟩) (clock' := clock + 1) (by simp [hM.size])
     (fun j p ent p1 p2 => by
      by_cases hj : j < m.length
      ·rw [List.getElem?_append_left hj] at p1
       rw [Array.getElem?_push_lt (by rw [hM.size]; exact hj)] at p2
       exact hM.at_ j p ent p1 (by rw [← p2]; simp [hM.size,hj])
      ·rw [List.getElem?_append_right (by omega)] at p1
       have : j - m.length = 0 := by
        have := (List.getElem?_eq_some_iff.1 p1).1
        simp at this; omega
       rw [this] at p1
       cases p1
       have hj' : j = ents.size := by rw [hM.size]; omega
       subst hj'
       rw [Array.getElem?_push_size] at p2
       cases p2
       exact ⟨ck,cv,q1,r1,rfl,rfl⟩)
     (by
      rw [Array.toList_push,List.map_append,List.nodup_append]
      refine ⟨by rw [← hM.δ]; exact hM.nodup,by simp,fun x hx y hy => ?_⟩
      simp at hy
      subst hy
      have := hM.lt x (by rw [hM.δ]; exact hx)
      omega)
     (fun n hn => by
      rw [Array.toList_push,List.map_append,zL] at hn
      rcases hn with hn | hn
      ·have := hM.lt n (by rw [hM.δ]; exact hn); omega
      ·simp at hn; omega)
    refine ⟨.skip,E',?_,.inl rfl,?_⟩
    ·rw [w1]
     simp only [execOp]
     rw [e1,q2,r2]
     simp only [Instr.mapUpdate,Sem.run_bind,run_underlying (q24 hT),Result.andThen,qq3 hM.heap,hchk,hfind,Option.bind_none,qq5 _ hM.heap]
     rfl
    ·simp only [mset,hf]; exact w2
   | some j =>
    obtain ⟨p,hp1,hp2,hp3⟩ := hidx j hf
    rw [hf] at hfind
    obtain ⟨ent,hent⟩ : ∃ ent,ents[j]? = some ent := ⟨ents[j],by simp [hp3]⟩
    obtain ⟨ck',cx',u1,u2,u3,u4⟩ := hM.at_ j p ent hp1 hent
    rw [hp2] at u1 u3
    have hbits := hK.bits u1 q1
    obtain ⟨E',w1,w2⟩ := hR.setMap hob' hM (m' := m.set j (kk,vv)) (ents' := ents.modify j fun e => { e with key := mkV (ek kk).isAgg ck,val := mkV (ev vv).isAgg cv }) (clock' := clock) (by simp [hM.size])
     (fun j' p' ent' p1 p2 => by
      rw [Array.getElem?_modify] at p2
      by_cases hj : j = j'
      ·subst hj
       rw [if_pos rfl,hent] at p2
       cases p2
       rw [List.getElem?_set_self (List.getElem?_eq_some_iff.1 hp1).1] at p1
       cases p1
       exact ⟨ck,cv,q1,r1,rfl,rfl⟩
      ·rw [if_neg hj] at p2
       rw [List.getElem?_set_ne hj] at p1
       exact hM.at_ j' p' ent' p1 p2)
     (by
      have : (ents.modify j fun e => { e with key := mkV (ek kk).isAgg ck,val := mkV (ev vv).isAgg cv }).toList.map (·.born) = ents.toList.map (·.born) := by
       apply List.ext_getElem?
       intro n
       simp only [List.getElem?_map,Array.getElem?_toList,Array.getElem?_modify]
       split
       ·rename_i e; subst e; cases ents[j]? <;> rfl
       ·rfl
      rw [this,← hM.δ]; exact hM.nodup)
     (fun n hn => by
      have : (ents.modify j fun e => { e with key := mkV (ek kk).isAgg ck,val := mkV (ev vv).isAgg cv }).toList.map (·.born) = ents.toList.map (·.born) := by
       apply List.ext_getElem?
       intro n
       simp only [List.getElem?_map,Array.getElem?_toList,Array.getElem?_modify]
       split
       ·rename_i e; subst e; cases ents[j]? <;> rfl
       ·rfl
      rw [this,← hM.δ] at hn
      exact hM.lt n hn)
    refine ⟨.skip,E',?_,.inl rfl,?_⟩
    ·rw [w1]
     simp only [execOp]
     rw [e1,q2,r2]
     simp only [Instr.mapUpdate,Sem.run_bind,run_underlying (q24 hT),Result.andThen,qq3 hM.heap,hchk,hfind,zA,hent,Option.map_some,Option.getD_some,u3,Instr.keyThatStays,hbits,if_true,Sem.run_pure,qq5 _ hM.heap]
    ·simp only [mset,hf]; exact w2
theorem qL5 {T kt vt : TypeId} {x k : Operand} {o ver : Nat} {κ β : Type} [DecidableEq κ] {ek : κ → D} {ev : β → D} {m : List (κ × β)} (kk : κ) (v0 : β) {c : Bool} {r : β} {is : Bool} (ho : ops[i]? = some ⟨some d,.lookup T x k c,ty,pos,af,g⟩) (hd : Nat.ble (d + 1) N.1 = true) (hg : G ops s g gs)
  (hx : s.val x = some (.map o)) (hob : s.obj o = some (.map ver (mD ek ev m))) (hk : s.val k = some (.d (ek kk))) (hT : mpB P T = some (kt,vt)) (hK : KL P kt ek) (hZ : Zero P vt (ev v0)) (hr : (mget m kk).getD v0 = r) (his : (mget m kk).isSome = is) :
  Valid P N ops i ⟨gs ++ (opT x ++ opT k),[o],some (d,some (bif c then .tup [.d (ev r),.d (.v (.bool is))] else .d (ev r))),[]⟩ s :=
 vCo ho rfl hd hg fun s' hs ho' cx a E _ hR => by
  subst hr; subst his
  obtain ⟨m1,m2⟩ := qt0 hs
  have hob' : s'.obj o = some (.map ver (mD ek ev m)) := (ho' o (by simp)).trans hob
  obtain ⟨cs,k1,k2⟩ := hR.val ((vAg m1).trans hx)
  obtain ⟨ck,q1,q2⟩ := hR.val ((vAg m2).trans hk)
  obtain ⟨b,ents,clock,hM⟩ := mapAt_of (hR.objs _ _ hob')
  obtain ⟨zs,z1,z2⟩ := hZ E.I E.w
  cases q1 with
  | d q1 =>
  cases k1 with
  | map t1 t2 =>
   rw [hM.β] at t2; cases t2
   have e1 : a.eval x = .map (some b) := k2
   simp only [AV.isAgg] at q2
   have hfind := run_find hK hM q1
   have hchk := hK.check (P := P) ents.isEmpty q1
   have fin : ∀ (v : Value) (y : β) (f : Bool),VR E (.d (ev y)) v → (execOp a.eval ⟨some d,.lookup T x k c,ty,pos,af,g⟩).run P E.w = .ok (.value (if c then .tuple #[v,.bool f] else v)) E.w →
     ∃ v E',(execOp a.eval ⟨some d,.lookup T x k c,ty,pos,af,g⟩).run P E.w = .ok (.value v) E'.w ∧ VR E' (bif c then .tup [.d (ev y),.d (.v (.bool f))] else .d (ev y)) v ∧ R0 cx { s' with obj := q52 s'.obj [] } a E' := by
    intro v y f hv hrun
    refine ⟨_,E,hrun,?_,qg3 hR⟩
    cases c with
    | false => exact hv
    | true =>
     obtain ⟨c1,p1,p2⟩ := hv
     simp only [zE,if_true]
     refine ⟨_,.tup (.cons p1 (.cons (.d (.v (x := .bool f) rfl)) .nil)),?_⟩
     rw [p2]; rfl
   cases hf : m.findIdx? (fun p => decide (kk = p.1)) with
   | none =>
    rw [hf] at hfind
    have hget : mget m kk = none := by
     unfold mget
     rw [Option.map_eq_none_iff,List.find?_eq_none]
     intro p hp
     have := List.findIdx?_eq_none_iff.1 hf p hp
     simpa using this
    rw [hget]
    refine fin _ _ _ ⟨_,.d z1,rfl⟩ ?_
    simp only [execOp]
    rw [e1,q2]
    simp only [Instr.lookup,Sem.run_bind,run_underlying (q24 hT),Result.andThen,qq3 hM.heap,Sem.run_pure,hchk,hfind,Option.bind_none,q55 z2]
    rfl
   | some j =>
    obtain ⟨h1,h2,h3⟩ := List.findIdx?_eq_some_iff_getElem.1 hf
    have hj : j < ents.size := by rw [hM.size]; exact h1
    obtain ⟨ent,hent⟩ : ∃ ent,ents[j]? = some ent := ⟨ents[j],by simp [hj]⟩
    rw [hf] at hfind
    obtain ⟨ck',cx',u1,u2,u3,u4⟩ := hM.at_ j m[j] ent (by simp [h1]) hent
    have hget : mget m kk = some m[j].2 := by
     unfold mget
     have : m.find? (fun p => decide (kk = p.1)) = some m[j] := List.find?_eq_some_iff_getElem.2 ⟨h2,j,h1,rfl,fun j' hj' => by simpa using h3 j' hj'⟩
     rw [this]
     rfl
    rw [hget]
    refine fin _ _ _ ⟨_,.d u2,rfl⟩ ?_
    simp only [execOp]
    rw [e1,q2]
    simp only [Instr.lookup,Sem.run_bind,run_underlying (q24 hT),Result.andThen,qq3 hM.heap,Sem.run_pure,hchk,hfind,zA,hent,Option.map_some,u4,AV.isAgg]
    rfl
theorem mdel_idx {κ β : Type} [DecidableEq κ] (m : List (κ × β)) (k : κ) : mdel m k = match m.findIdx? fun p => decide (k = p.1) with
  | some i => m.eraseIdx i
  | none => m := by
 unfold mdel
 rw [List.eraseP_eq_eraseIdx]
 cases m.findIdx? fun p => decide (k = p.1) <;> rfl
theorem o_mapdel {T kt vt T2 : TypeId} {x k : Operand} {o ver : Nat} {κ β : Type} [DecidableEq κ] {ek : κ → D} {ev : β → D} {m m' : List (κ × β)} (kk : κ) (ho : ops[i]? = some ⟨none,.call ⟨.builtin .delete,#[x,k],#[T,T2]⟩,ty,pos,af,g⟩) (hg : G ops s g gs)
  (hx : s.val x = some (.map o)) (hob : s.obj o = some (.map ver (mD ek ev m))) (hk : s.val k = some (.d (ek kk))) (hT : mpB P T = some (kt,vt)) (hK : KL P kt ek) (hm : mdel m kk = m') :
  Valid P N ops i ⟨gs ++ (opT x ++ opT k),[o],none,[(o,.map (ver + 1) (mD ek ev m'))]⟩ s :=
 qs4 ho rfl hg fun s' hs ho' cx a E _ hR => by
  subst hm
  obtain ⟨m1,m2⟩ := qt0 hs
  have hob' : s'.obj o = some (.map ver (mD ek ev m)) := (ho' o (by simp)).trans hob
  obtain ⟨cs,k1,k2⟩ := hR.val ((vAg m1).trans hx)
  obtain ⟨ck,q1,q2⟩ := hR.val ((vAg m2).trans hk)
  obtain ⟨b,ents,clock,hM⟩ := mapAt_of (hR.objs _ _ hob')
  cases q1 with
  | d q1 =>
  cases k1 with
  | map t1 t2 =>
   rw [hM.β] at t2; cases t2
   have e1 : a.eval x = .map (some b) := k2
   simp only [AV.isAgg] at q2
   have hfind := run_find hK hM q1
   have hchk := hK.check (P := P) ents.isEmpty q1
   rw [mdel_idx]
   cases hf : m.findIdx? (fun p => decide (kk = p.1)) with
   | none =>
    rw [hf] at hfind
    obtain ⟨E',w1,w2⟩ := hR.setMap hob' hM (m' := m) (ents' := ents) (clock' := clock) hM.size hM.at_ (by rw [← hM.δ]; exact hM.nodup) (fun n hn => hM.lt n (by rw [hM.δ]; exact hn))
    refine ⟨.value (.tuple #[]),E',?_,.inr ⟨_,rfl⟩,w2⟩
    rw [w1]
    simp only [execOp,resolve,Sem.run_bind,Sem.run_pure,Result.andThen,invoke,builtin,List.map_toArray,List.map_cons,List.map_nil]
    rw [e1,q2]
    simp only [Builtin.delete_,Sem.run_bind,run_underlying (q24 hT),Result.andThen,qq3 hM.heap,Sem.run_pure,hchk,hfind,Option.bind_none,qq5 _ hM.heap,List.getElem?_toArray,List.getElem?_cons_zero,List.getElem?_cons_succ]
   | some j =>
    obtain ⟨h1,h2,h3⟩ := List.findIdx?_eq_some_iff_getElem.1 hf
    have hj : j < ents.size := by rw [hM.size]; exact h1
    obtain ⟨ent,hent⟩ : ∃ ent,ents[j]? = some ent := ⟨ents[j],by simp [hj]⟩
    rw [hf] at hfind
    have hlist : (ents.eraseIdxIfInBounds j).toList = ents.toList.eraseIdx j := by
     rw [Array.eraseIdxIfInBounds_eq,dif_pos hj,Array.toList_eraseIdx]
    have hsub : ((ents.eraseIdxIfInBounds j).toList.map (·.born)).Sublist (ents.toList.map (·.born)) := by
     rw [hlist]; exact (List.eraseIdx_sublist _ _).map _
    obtain ⟨E',w1,w2⟩ := hR.setMap hob' hM (m' := m.eraseIdx j) (ents' := ents.eraseIdxIfInBounds j) (clock' := clock)
     (by rw [← Array.length_toList,hlist,List.length_eraseIdx,List.length_eraseIdx,Array.length_toList,hM.size])
     (fun j' p' ent' p1 p2 => by
      rw [← Array.getElem?_toList,hlist,List.getElem?_eraseIdx] at p2
      rw [List.getElem?_eraseIdx] at p1
      split at p1
      ·rename_i h; rw [if_pos h] at p2; exact hM.at_ j' p' ent' p1 (by simpa using p2)
      ·rename_i h; rw [if_neg h] at p2; exact hM.at_ (j' + 1) p' ent' p1 (by simpa using p2))
     (hsub.nodup (by rw [← hM.δ]; exact hM.nodup)) (fun n hn => hM.lt n (by rw [hM.δ]; exact hsub.subset hn))
    refine ⟨.value (.tuple #[]),E',?_,.inr ⟨_,rfl⟩,w2⟩
    rw [w1]
    simp only [execOp,resolve,Sem.run_bind,Sem.run_pure,Result.andThen,invoke,builtin,List.map_toArray,List.map_cons,List.map_nil]
    rw [e1,q2]
    simp only [Builtin.delete_,Sem.run_bind,run_underlying (q24 hT),Result.andThen,qq3 hM.heap,Sem.run_pure,hchk,hfind,zA,hent,Option.map_some,qq5 _ hM.heap,List.getElem?_toArray,List.getElem?_cons_zero,List.getElem?_cons_succ]
theorem o_maplen {T kt vt : TypeId} {x : Operand} {o ver : Nat} {κ β : Type} {ek : κ → D} {ev : β → D} {m : List (κ × β)} (ho : ops[i]? = some ⟨some d,.call ⟨.builtin .len,#[x],#[T]⟩,ty,pos,af,g⟩) (hd : Nat.ble (d + 1) N.1 = true) (hg : G ops s g gs)
  (hx : s.val x = some (.map o)) (hob : s.obj o = some (.map ver (mD ek ev m))) (hT : mpB P T = some (kt,vt)) :
  Valid P N ops i ⟨gs ++ opT x,[o],some (d,some (.d (.v (.int .i64 m.length)))),[]⟩ s :=
 vCo ho rfl hd hg fun s' hs ho' cx a E _ hR => by
  have hob' : s'.obj o = some (.map ver (mD ek ev m)) := (ho' o (by simp)).trans hob
  obtain ⟨cs,k1,k2⟩ := hR.val ((vAg hs).trans hx)
  obtain ⟨b,ents,clock,hM⟩ := mapAt_of (hR.objs _ _ hob')
  cases k1 with
  | map t1 t2 =>
   rw [hM.β] at t2; cases t2
   have e1 : a.eval x = .map (some b) := k2
   refine ⟨_,E,?_,.of_sc rfl,qg3 hR⟩
   simp only [execOp,resolve,Sem.run_bind,Sem.run_pure,Result.andThen,invoke,builtin,List.map_toArray,List.map_cons,List.map_nil]
   rw [e1]
   simp only [Builtin.len_,Sem.run_bind,run_underlying (q24 hT),Result.andThen,qq3 hM.heap,Sem.run_pure,List.getElem?_toArray,List.getElem?_cons_zero,goInt,hM.size]
end
end Go.Val
