/- Merged texts: Xp Xq Xv Xw Xy Xz. -/
import Derived.Test.YtfbnhflapgddbaaLc
import Derived.Test.YtfbnhflapgddbaaLb
import Derived.Laws.MakeOwn
set_option linter.all false
namespace Go.Val
open Go.RowKit
variable [Drw]
section
variable {P : Program} {N : Nat × Nat} {ops : Array Oper} {i : Nat} {s : St} {d : Nat} {ty : TypeId} {pos : String} {af : Array Edge} {g : Option (Nat × Bool)} {gs : List Nat}
end
end Go.Val
namespace Go.Val
open Go.RowKit
variable [Drw]
def ciO (s : St) (σ : Nat → Nat) (f : Nat → Option OB) : List (Nat × OB) → Prop
 | [] => True
 | (o,x) :: l => (s.obj (σ o) = some (x.ren σ) ∧ x.live f) ∧ ciO s σ f l
theorem ciO_mem {s : St} {σ : Nat → Nat} {f : Nat → Option OB} : ∀ {l : List (Nat × OB)},ciO s σ f l → ∀ {o x},(o,x) ∈ l → s.obj (σ o) = some (x.ren σ) ∧ x.live f
 | (t',x') :: l,h,t,x,hm => by
  rcases zM.1 hm with e | hm
  ·cases e; exact h.1
  ·exact ciO_mem h.2 hm
theorem lk_none_not {α : Type} : ∀ {l : List (Nat × α)} {t : Nat},lk l t = none → ∀ x,(t,x) ∉ l
 | (d,y) :: l,t,h,x,hm => by
  simp only [lk] at h
  cases hb : Nat.beq t d with
  | true => rw [hb] at h; cases h
  | false =>
   rw [hb] at h
   rcases zM.1 hm with e | hm
   ·cases e
    simp at hb
   ·exact lk_none_not h x hm
theorem ql1 {s : St} {σ : Nat → Nat} {k : Nat} {mi mo : List (Nat × OB)} {ys : List AV} {l : List Nat} (ns : List Nat) (hk : mi.all (fun p => Nat.ble (p.1 + 1) k) = true) (hl : AV.lives (lk mi) ys) (ho : ciO s σ (lk mi) mi)
  (h1 : nodupB (mo.map (·.1)) = true) (h2 : nodupB (mo.map fun p => σ p.1) = true) (h3 : mo.map (·.1) = mi.map (·.1) ++ ns) (h4 : noneAll s.obj (ns.map σ)) (h5 : l.all (fun c => mi.all fun p => !Nat.beq (σ p.1) c) = true) : CallIn s σ k mi mo ys l := by
 have n1 := qp3 h1
 have n2 := qp3 h2
 have key : ∀ p ∈ mi,∃ x,(p.1,x) ∈ mo := by
  intro p hp
  have : p.1 ∈ mo.map (·.1) := by rw [h3]; exact zL.2 (.inl (List.mem_map.2 ⟨p,hp,rfl⟩))
  obtain ⟨q,hq,e⟩ := List.mem_map.1 this
  exact ⟨q.2,by rw [← e]; exact hq⟩
 refine ⟨fun p hp => Nat.le_of_ble_eq_true (List.all_eq_true.1 hk p hp),hl,fun p hp => ciO_mem ho hp,fun p hp q hq e => ?_,fun c hc p hp e => ?_,n1,n2,key,fun p hp hn => ?_⟩
 ·obtain ⟨x,hx⟩ := key p hp
  obtain ⟨y,hy⟩ := key q hq
  have e2 : ((p.1,x) : Nat × OB) = (q.1,y) := map_inj_mem (g := fun p : Nat × OB => σ p.1) n2 hx hy e
  exact (Prod.mk.inj e2).1
 ·have := List.all_eq_true.1 (List.all_eq_true.1 h5 c hc) p hp
  rw [e] at this
  simp at this
 ·have hm : p.1 ∈ mo.map (·.1) := List.mem_map.2 ⟨p,hp,rfl⟩
  rw [h3] at hm
  rcases zL.1 hm with hm | hm
  ·obtain ⟨q,hq,e⟩ := List.mem_map.1 hm
   exact absurd (by rw [← e]; exact hq) (lk_none_not hn q.2)
  ·exact qF4 h4 _ (List.mem_map.2 ⟨_,hm,rfl⟩)
end Go.Val
namespace Go.Val
open Go.RowKit
variable [Drw]
theorem Hand.bs {s : St} {oin : Nat → Option OB} {σ : Nat → Nat} {o k m n c : Nat} (h : σ o = k) : Hand s oin σ (.bsl k m n c) (.bsl o m n c) false [] := by subst h; exact .same (y := .bsl o m n c)
section
variable {P : Program} {N : Nat × Nat} {ops : Array Oper} {i : Nat} {s : St} {d : Nat} {ty : TypeId} {pos : String} {af : Array Edge} {g : Option (Nat × Bool)} {gs : List Nat}
theorem resCT {fn : Func} {t o T n u : Nat} {x y : AV} {b : Bool} (h : fn.results = #[.cell t T,.tmp u]) (hx : s.slot t = some (.ptr o 0)) (hob : s.obj o = some (.box x)) (hT : TA P T b n) (hb : x.isAgg = b) (hn : x.size = n) (hy : s.slot u = some y) : ResOk P fn s (.tup [x,y]) := by
 intro cx a E hR
 subst hb; subst hn
 obtain ⟨cs,h1,h2⟩ := hR.slots t _ hx
 obtain ⟨c2,k1',e2⟩ := hR.slots u y hy
 cases h1 with
 | ptr k1 kb k2 =>
  obtain ⟨b',zs,e,q1,q2,q3,q4⟩ := hR.objs _ _ hob
  rw [k2] at q1; cases q1
  have hall : CellsAt E.w _ 0 zs := caB (sp := []) (by rw [zJ]; exact q4)
  have hl := qv1 (P := P) (w := E.w) (by rw [q2.len]; exact hT) hall (fun ha => qe3 q2 ha)
  refine ⟨.tuple #[mkV x.isAgg zs,a.tmps.getD u undef],?_,_,.tup (.cons q2 (.cons k1' .nil)),by rw [e2]; rfl⟩
  have e1 : a.tmps.getD t undef = .pointer (some ⟨_,0,none⟩) := h2
  simp only [results,h,List.mapM_toArray,List.mapM_cons,List.mapM_nil,Sem.run_bind,Sem.run_map,e1,asAddr,Sem.run_pure,Result.andThen,hl]
  rfl
end
end Go.Val
namespace Go.Val
section
variable [Drw] {P : Program} {N : Nat × Nat} {ops : Array Oper} {i : Nat} {s : St} {d : Nat} {ty : TypeId} {pos : String} {af : Array Edge}
theorem Chain.c {n : Nat} {s s' : St} {r : SR} {l : List (Nat × SR)} (h : Valid P N ops n r s) (c : Chain P N ops (n + 1) (r.apply s) l s') : Chain P N ops n s ((n,r) :: l) s' := .cons h c
theorem ChainA.c {Φ : St → Prop} {n : Nat} {s : St} {r : SR} (hv : Valid P N ops n r s) (hs : ChainA P N ops Φ (n + 1) (r.apply s)) : ChainA P N ops Φ n s := .cons hv hs
theorem sJ {α : Type} {a b : α} (h : some a = some b) : b = a := (zQ h).symm
theorem pk2 {α β : Type} {a a' : α} {b b' : β} (h : (a,b) = (a',b')) : a = a' ∧ b = b' := ⟨congrArg Prod.fst h,congrArg Prod.snd h⟩
theorem uM {x : Operand} {y : AV} (h : (ops[i]?,Nat.ble (d + 1) N.1,s.val x) = (some ⟨some d,.move x,ty,pos,af,none⟩,true,some y)) : Valid P N ops i ⟨[] ++ opT x,[],some (d,some y),[]⟩ s :=
 o_mv (pk2 h).1 (pk2 (pk2 h).2).1 .no (pk2 (pk2 h).2).2
theorem uA {x : Operand} {y : AV} (h : (ops[i]?,Nat.ble (d + 1) N.1,s.val x) = (some ⟨some d,.assign x,ty,pos,af,none⟩,true,some y)) : Valid P N ops i ⟨[] ++ opT x,[],some (d,some y),[]⟩ s :=
 o_as (pk2 h).1 (pk2 (pk2 h).2).1 .no (pk2 (pk2 h).2).2
theorem uB {op : BinOp} {T T' : TypeId} {x z : Operand} {u v r : Value} (h : (ops[i]?,Nat.ble (d + 1) N.1,s.val x,s.val z) = (some ⟨some d,.binOp op T x z T',ty,pos,af,none⟩,true,some (.d (.v u)),some (.d (.v v))))
  (hr : ∀ w,(eqGuard op T x z u v >>= fun _ => binOp op T u v : Sem Value).run P w = .ok r w) (h1 : one r = true) : Valid P N ops i ⟨[] ++ (opT x ++ opT z),[],some (d,some (.d (.v r))),[]⟩ s :=
 qn (pk2 h).1 (pk2 (pk2 h).2).1 .no (pk2 (pk2 (pk2 h).2).2).1 (pk2 (pk2 (pk2 h).2).2).2 hr h1
theorem uN {j dj : Nat} {want b : Bool} {op : Op} (h : (ops[i]?,Nat.ble (d + 1) N.1) = (some ⟨some d,op,ty,pos,af,some (j,want)⟩,true)) (h' : ((ops[j]?).bind (·.dst),s.slot dj) = (some dj,some (.d (.v (.bool b))))) (hb : b = !want) : Valid P N ops i ⟨[dj],[],some (d,some (.tup [])),[]⟩ s :=
 qj (pk2 h).1 (pk2 h).2 (pk2 h').1 (pk2 h').2 hb
theorem uL {T : TypeId} {x : Operand} {o m : Nat} {z y : AV} {b : Bool} {n : Nat} (p : List Nat) (h : (ops[i]?,Nat.ble (d + 1) N.1,s.val x,s.obj o,AV.get p z) = (some ⟨some d,.load T x,ty,pos,af,none⟩,true,some (.ptr o m),some (.box z),some (y,m)))
  (hT : TA P T b n) (hb : (y.isAgg,y.size) = (b,n)) : Valid P N ops i ⟨[] ++ opT x,[o],some (d,some y),[]⟩ s :=
 qC p (pk2 h).1 (pk2 (pk2 h).2).1 .no (pk2 (pk2 (pk2 h).2).2).1 (pk2 (pk2 (pk2 (pk2 h).2).2).2).1 (pk2 (pk2 (pk2 (pk2 h).2).2).2).2 hT (pk2 hb).1 (pk2 hb).2
theorem uF {S f off n : Nat} {x : Operand} {o m : Nat} (h : (ops[i]?,Nat.ble (d + 1) N.1,s.val x) = (some ⟨some d,.fieldAddr S x f,ty,pos,af,none⟩,true,some (.ptr o m))) (hf : fldB P S f = some (off,n)) (hn : Nat.beq n 0 = false) :
  Valid P N ops i ⟨[] ++ opT x,[],some (d,some (.ptr o (m + off))),[]⟩ s :=
 qu (pk2 h).1 (pk2 (pk2 h).2).1 .no (pk2 (pk2 h).2).2 hf (fun e => by rw [e] at hn; cases hn)
theorem uS {T : TypeId} {x v : Operand} {o m : Nat} {z y y' : AV} {n : Nat} (p : List Nat) (h : (ops[i]?,s.val x,s.val v,s.obj o,AV.get p z,y'.plain) = (some ⟨none,.store T x v,ty,pos,af,none⟩,some (.ptr o m),some y',some (.box z),some (y,m),true))
  (hT : szB P T = some n) (hn : (y'.size,y.size) = (n,n)) : Valid P N ops i ⟨[] ++ (opT x ++ opT v),[o],none,[(o,.box (AV.put p z y'))]⟩ s :=
 o_st p (pk2 h).1 .no (pk2 (pk2 h).2).1 (pk2 (pk2 (pk2 h).2).2).1 (pk2 (pk2 (pk2 (pk2 h).2).2).2).1 (pk2 (pk2 (pk2 (pk2 (pk2 h).2).2).2).2).1 (pk2 (pk2 (pk2 (pk2 (pk2 h).2).2).2).2).2 hT (pk2 hn).1 (pk2 hn).2
theorem uE {x : Operand} {k : Nat} {l : List AV} {y : AV} (h : (ops[i]?,Nat.ble (d + 1) N.1,s.val x,l[k]?) = (some ⟨some d,.extract x k,ty,pos,af,none⟩,true,some (.tup l),some y)) : Valid P N ops i ⟨[] ++ opT x,[],some (d,some y),[]⟩ s :=
 qK0 (pk2 h).1 (pk2 (pk2 h).2).1 .no (pk2 (pk2 (pk2 h).2).2).1 (pk2 (pk2 (pk2 h).2).2).2
theorem uT {T : TypeId} {x : Operand} {b : Bool} (h : (ops[i]?,Nat.ble (d + 1) N.1,s.val x) = (some ⟨some d,.unOp .not T x,ty,pos,af,none⟩,true,some (.d (.v (.bool b))))) : Valid P N ops i ⟨[] ++ opT x,[],some (d,some (.d (.v (.bool (!b))))),[]⟩ s :=
 qb5 (pk2 h).1 (pk2 (pk2 h).2).1 .no (pk2 (pk2 h).2).2
theorem uP {x : Operand} {o n : Nat} (h : (ops[i]?,Nat.ble (d + 1) N.1,s.val x) = (some ⟨some d,.nilCheck x,ty,pos,af,none⟩,true,some (.ptr o n))) : Valid P N ops i ⟨[] ++ opT x,[],some (d,some (.ptr o n)),[]⟩ s :=
 qz0 (pk2 h).1 (pk2 (pk2 h).2).1 .no (pk2 (pk2 h).2).2
theorem uPT {c x z : Operand} {b : Bool} {y : AV} (h : (ops[i]?,Nat.ble (d + 1) N.1,s.val c,s.val x) = (some ⟨some d,.pick c x z,ty,pos,af,none⟩,true,some (.d (.v (.bool b))),some y)) (hb : b = true) : Valid P N ops i ⟨[] ++ (opT c ++ opT x),[],some (d,some y),[]⟩ s :=
 qm (pk2 h).1 (pk2 (pk2 h).2).1 .no (pk2 (pk2 (pk2 h).2).2).1 hb (pk2 (pk2 (pk2 h).2).2).2
theorem uPF {c x z : Operand} {b : Bool} {y : AV} (h : (ops[i]?,Nat.ble (d + 1) N.1,s.val c,s.val z) = (some ⟨some d,.pick c x z,ty,pos,af,none⟩,true,some (.d (.v (.bool b))),some y)) (hb : b = false) : Valid P N ops i ⟨[] ++ (opT c ++ opT z),[],some (d,some y),[]⟩ s :=
 qk (pk2 h).1 (pk2 (pk2 h).2).1 .no (pk2 (pk2 (pk2 h).2).2).1 hb (pk2 (pk2 (pk2 h).2).2).2
theorem uX {T : TypeId} {x : Operand} {y : AV} (o : Nat) (h : (ops[i]?,Nat.ble (d + 1) N.1,s.val x,y.plain,s.obj o) = (some ⟨some d,.box T x,ty,pos,af,none⟩,true,some y,true,none)) : Valid P N ops i ⟨[] ++ opT x,[o],some (d,some (.ptr o 0)),[(o,.box y)]⟩ s :=
 q63 o (pk2 h).1 (pk2 (pk2 h).2).1 .no (pk2 (pk2 (pk2 h).2).2).1 (pk2 (pk2 (pk2 (pk2 h).2).2).2).1 (pk2 (pk2 (pk2 (pk2 h).2).2).2).2
theorem Chain.M {s9 : St} {ll : List (Nat × SR)} {x : Operand} {y : AV} (h : (ops[i]?,Nat.ble (d + 1) N.1,s.val x) = (some ⟨some d,.move x,ty,pos,af,none⟩,true,some y)) (cc : Chain P N ops (i + 1) (SR.apply ⟨[] ++ opT x,[],some (d,some y),[]⟩ s) ll s9) : Chain P N ops i s ((i,⟨[] ++ opT x,[],some (d,some y),[]⟩) :: ll) s9 := .c (uM h) cc
theorem ChainA.M {Φ : St → Prop} {x : Operand} {y : AV} (h : (ops[i]?,Nat.ble (d + 1) N.1,s.val x) = (some ⟨some d,.move x,ty,pos,af,none⟩,true,some y)) (cc : ChainA P N ops Φ (i + 1) (SR.apply ⟨[] ++ opT x,[],some (d,some y),[]⟩ s)) : ChainA P N ops Φ i s := .c (uM h) cc
theorem Chain.A {s9 : St} {ll : List (Nat × SR)} {x : Operand} {y : AV} (h : (ops[i]?,Nat.ble (d + 1) N.1,s.val x) = (some ⟨some d,.assign x,ty,pos,af,none⟩,true,some y)) (cc : Chain P N ops (i + 1) (SR.apply ⟨[] ++ opT x,[],some (d,some y),[]⟩ s) ll s9) : Chain P N ops i s ((i,⟨[] ++ opT x,[],some (d,some y),[]⟩) :: ll) s9 := .c (uA h) cc
theorem ChainA.A {Φ : St → Prop} {x : Operand} {y : AV} (h : (ops[i]?,Nat.ble (d + 1) N.1,s.val x) = (some ⟨some d,.assign x,ty,pos,af,none⟩,true,some y)) (cc : ChainA P N ops Φ (i + 1) (SR.apply ⟨[] ++ opT x,[],some (d,some y),[]⟩ s)) : ChainA P N ops Φ i s := .c (uA h) cc
theorem Chain.B {s9 : St} {ll : List (Nat × SR)} {op : BinOp} {T T' : TypeId} {x z : Operand} {u v r : Value} (h : (ops[i]?,Nat.ble (d + 1) N.1,s.val x,s.val z) = (some ⟨some d,.binOp op T x z T',ty,pos,af,none⟩,true,some (.d (.v u)),some (.d (.v v))))
  (hr : ∀ w,(eqGuard op T x z u v >>= fun _ => binOp op T u v : Sem Value).run P w = .ok r w) (h1 : one r = true) (cc : Chain P N ops (i + 1) (SR.apply ⟨[] ++ (opT x ++ opT z),[],some (d,some (.d (.v r))),[]⟩ s) ll s9) : Chain P N ops i s ((i,⟨[] ++ (opT x ++ opT z),[],some (d,some (.d (.v r))),[]⟩) :: ll) s9 := .c (uB h hr h1) cc
theorem ChainA.B {Φ : St → Prop} {op : BinOp} {T T' : TypeId} {x z : Operand} {u v r : Value} (h : (ops[i]?,Nat.ble (d + 1) N.1,s.val x,s.val z) = (some ⟨some d,.binOp op T x z T',ty,pos,af,none⟩,true,some (.d (.v u)),some (.d (.v v))))
  (hr : ∀ w,(eqGuard op T x z u v >>= fun _ => binOp op T u v : Sem Value).run P w = .ok r w) (h1 : one r = true) (cc : ChainA P N ops Φ (i + 1) (SR.apply ⟨[] ++ (opT x ++ opT z),[],some (d,some (.d (.v r))),[]⟩ s)) : ChainA P N ops Φ i s := .c (uB h hr h1) cc
theorem Chain.G {s9 : St} {ll : List (Nat × SR)} {j dj : Nat} {want b : Bool} {op : Op} (h : (ops[i]?,Nat.ble (d + 1) N.1) = (some ⟨some d,op,ty,pos,af,some (j,want)⟩,true)) (h' : ((ops[j]?).bind (·.dst),s.slot dj) = (some dj,some (.d (.v (.bool b))))) (hb : b = !want) (cc : Chain P N ops (i + 1) (SR.apply ⟨[dj],[],some (d,some (.tup [])),[]⟩ s) ll s9) : Chain P N ops i s ((i,⟨[dj],[],some (d,some (.tup [])),[]⟩) :: ll) s9 := .c (uN h h' hb) cc
theorem ChainA.G {Φ : St → Prop} {j dj : Nat} {want b : Bool} {op : Op} (h : (ops[i]?,Nat.ble (d + 1) N.1) = (some ⟨some d,op,ty,pos,af,some (j,want)⟩,true)) (h' : ((ops[j]?).bind (·.dst),s.slot dj) = (some dj,some (.d (.v (.bool b))))) (hb : b = !want) (cc : ChainA P N ops Φ (i + 1) (SR.apply ⟨[dj],[],some (d,some (.tup [])),[]⟩ s)) : ChainA P N ops Φ i s := .c (uN h h' hb) cc
theorem Chain.L {s9 : St} {ll : List (Nat × SR)} {T : TypeId} {x : Operand} {o m : Nat} {z y : AV} {b : Bool} {n : Nat} (p : List Nat) (h : (ops[i]?,Nat.ble (d + 1) N.1,s.val x,s.obj o,AV.get p z) = (some ⟨some d,.load T x,ty,pos,af,none⟩,true,some (.ptr o m),some (.box z),some (y,m)))
  (hT : TA P T b n) (hb : (y.isAgg,y.size) = (b,n)) (cc : Chain P N ops (i + 1) (SR.apply ⟨[] ++ opT x,[o],some (d,some y),[]⟩ s) ll s9) : Chain P N ops i s ((i,⟨[] ++ opT x,[o],some (d,some y),[]⟩) :: ll) s9 := .c (uL p h hT hb) cc
theorem ChainA.L {Φ : St → Prop} {T : TypeId} {x : Operand} {o m : Nat} {z y : AV} {b : Bool} {n : Nat} (p : List Nat) (h : (ops[i]?,Nat.ble (d + 1) N.1,s.val x,s.obj o,AV.get p z) = (some ⟨some d,.load T x,ty,pos,af,none⟩,true,some (.ptr o m),some (.box z),some (y,m)))
  (hT : TA P T b n) (hb : (y.isAgg,y.size) = (b,n)) (cc : ChainA P N ops Φ (i + 1) (SR.apply ⟨[] ++ opT x,[o],some (d,some y),[]⟩ s)) : ChainA P N ops Φ i s := .c (uL p h hT hb) cc
theorem Chain.F {s9 : St} {ll : List (Nat × SR)} {S f off n : Nat} {x : Operand} {o m : Nat} (h : (ops[i]?,Nat.ble (d + 1) N.1,s.val x) = (some ⟨some d,.fieldAddr S x f,ty,pos,af,none⟩,true,some (.ptr o m))) (hf : fldB P S f = some (off,n)) (hn : Nat.beq n 0 = false) (cc : Chain P N ops (i + 1) (SR.apply ⟨[] ++ opT x,[],some (d,some (.ptr o (m + off))),[]⟩ s) ll s9) : Chain P N ops i s ((i,⟨[] ++ opT x,[],some (d,some (.ptr o (m + off))),[]⟩) :: ll) s9 := .c (uF h hf hn) cc
theorem ChainA.F {Φ : St → Prop} {S f off n : Nat} {x : Operand} {o m : Nat} (h : (ops[i]?,Nat.ble (d + 1) N.1,s.val x) = (some ⟨some d,.fieldAddr S x f,ty,pos,af,none⟩,true,some (.ptr o m))) (hf : fldB P S f = some (off,n)) (hn : Nat.beq n 0 = false) (cc : ChainA P N ops Φ (i + 1) (SR.apply ⟨[] ++ opT x,[],some (d,some (.ptr o (m + off))),[]⟩ s)) : ChainA P N ops Φ i s := .c (uF h hf hn) cc
theorem Chain.S {s9 : St} {ll : List (Nat × SR)} {T : TypeId} {x v : Operand} {o m : Nat} {z y y' : AV} {n : Nat} (p : List Nat) (h : (ops[i]?,s.val x,s.val v,s.obj o,AV.get p z,y'.plain) = (some ⟨none,.store T x v,ty,pos,af,none⟩,some (.ptr o m),some y',some (.box z),some (y,m),true))
  (hT : szB P T = some n) (hn : (y'.size,y.size) = (n,n)) (cc : Chain P N ops (i + 1) (SR.apply ⟨[] ++ (opT x ++ opT v),[o],none,[(o,.box (AV.put p z y'))]⟩ s) ll s9) : Chain P N ops i s ((i,⟨[] ++ (opT x ++ opT v),[o],none,[(o,.box (AV.put p z y'))]⟩) :: ll) s9 := .c (uS p h hT hn) cc
theorem ChainA.S {Φ : St → Prop} {T : TypeId} {x v : Operand} {o m : Nat} {z y y' : AV} {n : Nat} (p : List Nat) (h : (ops[i]?,s.val x,s.val v,s.obj o,AV.get p z,y'.plain) = (some ⟨none,.store T x v,ty,pos,af,none⟩,some (.ptr o m),some y',some (.box z),some (y,m),true))
  (hT : szB P T = some n) (hn : (y'.size,y.size) = (n,n)) (cc : ChainA P N ops Φ (i + 1) (SR.apply ⟨[] ++ (opT x ++ opT v),[o],none,[(o,.box (AV.put p z y'))]⟩ s)) : ChainA P N ops Φ i s := .c (uS p h hT hn) cc
theorem Chain.E {s9 : St} {ll : List (Nat × SR)} {x : Operand} {k : Nat} {l : List AV} {y : AV} (h : (ops[i]?,Nat.ble (d + 1) N.1,s.val x,l[k]?) = (some ⟨some d,.extract x k,ty,pos,af,none⟩,true,some (.tup l),some y)) (cc : Chain P N ops (i + 1) (SR.apply ⟨[] ++ opT x,[],some (d,some y),[]⟩ s) ll s9) : Chain P N ops i s ((i,⟨[] ++ opT x,[],some (d,some y),[]⟩) :: ll) s9 := .c (uE h) cc
theorem ChainA.E {Φ : St → Prop} {x : Operand} {k : Nat} {l : List AV} {y : AV} (h : (ops[i]?,Nat.ble (d + 1) N.1,s.val x,l[k]?) = (some ⟨some d,.extract x k,ty,pos,af,none⟩,true,some (.tup l),some y)) (cc : ChainA P N ops Φ (i + 1) (SR.apply ⟨[] ++ opT x,[],some (d,some y),[]⟩ s)) : ChainA P N ops Φ i s := .c (uE h) cc
theorem Chain.T {s9 : St} {ll : List (Nat × SR)} {T : TypeId} {x : Operand} {b : Bool} (h : (ops[i]?,Nat.ble (d + 1) N.1,s.val x) = (some ⟨some d,.unOp .not T x,ty,pos,af,none⟩,true,some (.d (.v (.bool b))))) (cc : Chain P N ops (i + 1) (SR.apply ⟨[] ++ opT x,[],some (d,some (.d (.v (.bool (!b))))),[]⟩ s) ll s9) : Chain P N ops i s ((i,⟨[] ++ opT x,[],some (d,some (.d (.v (.bool (!b))))),[]⟩) :: ll) s9 := .c (uT h) cc
theorem ChainA.T {Φ : St → Prop} {T : TypeId} {x : Operand} {b : Bool} (h : (ops[i]?,Nat.ble (d + 1) N.1,s.val x) = (some ⟨some d,.unOp .not T x,ty,pos,af,none⟩,true,some (.d (.v (.bool b))))) (cc : ChainA P N ops Φ (i + 1) (SR.apply ⟨[] ++ opT x,[],some (d,some (.d (.v (.bool (!b))))),[]⟩ s)) : ChainA P N ops Φ i s := .c (uT h) cc
theorem Chain.K {s9 : St} {ll : List (Nat × SR)} {x : Operand} {o n : Nat} (h : (ops[i]?,Nat.ble (d + 1) N.1,s.val x) = (some ⟨some d,.nilCheck x,ty,pos,af,none⟩,true,some (.ptr o n))) (cc : Chain P N ops (i + 1) (SR.apply ⟨[] ++ opT x,[],some (d,some (.ptr o n)),[]⟩ s) ll s9) : Chain P N ops i s ((i,⟨[] ++ opT x,[],some (d,some (.ptr o n)),[]⟩) :: ll) s9 := .c (uP h) cc
theorem ChainA.K {Φ : St → Prop} {x : Operand} {o n : Nat} (h : (ops[i]?,Nat.ble (d + 1) N.1,s.val x) = (some ⟨some d,.nilCheck x,ty,pos,af,none⟩,true,some (.ptr o n))) (cc : ChainA P N ops Φ (i + 1) (SR.apply ⟨[] ++ opT x,[],some (d,some (.ptr o n)),[]⟩ s)) : ChainA P N ops Φ i s := .c (uP h) cc
theorem Chain.I {s9 : St} {ll : List (Nat × SR)} {c x z : Operand} {b : Bool} {y : AV} (h : (ops[i]?,Nat.ble (d + 1) N.1,s.val c,s.val x) = (some ⟨some d,.pick c x z,ty,pos,af,none⟩,true,some (.d (.v (.bool b))),some y)) (hb : b = true) (cc : Chain P N ops (i + 1) (SR.apply ⟨[] ++ (opT c ++ opT x),[],some (d,some y),[]⟩ s) ll s9) : Chain P N ops i s ((i,⟨[] ++ (opT c ++ opT x),[],some (d,some y),[]⟩) :: ll) s9 := .c (uPT h hb) cc
theorem ChainA.I {Φ : St → Prop} {c x z : Operand} {b : Bool} {y : AV} (h : (ops[i]?,Nat.ble (d + 1) N.1,s.val c,s.val x) = (some ⟨some d,.pick c x z,ty,pos,af,none⟩,true,some (.d (.v (.bool b))),some y)) (hb : b = true) (cc : ChainA P N ops Φ (i + 1) (SR.apply ⟨[] ++ (opT c ++ opT x),[],some (d,some y),[]⟩ s)) : ChainA P N ops Φ i s := .c (uPT h hb) cc
theorem Chain.J {s9 : St} {ll : List (Nat × SR)} {c x z : Operand} {b : Bool} {y : AV} (h : (ops[i]?,Nat.ble (d + 1) N.1,s.val c,s.val z) = (some ⟨some d,.pick c x z,ty,pos,af,none⟩,true,some (.d (.v (.bool b))),some y)) (hb : b = false) (cc : Chain P N ops (i + 1) (SR.apply ⟨[] ++ (opT c ++ opT z),[],some (d,some y),[]⟩ s) ll s9) : Chain P N ops i s ((i,⟨[] ++ (opT c ++ opT z),[],some (d,some y),[]⟩) :: ll) s9 := .c (uPF h hb) cc
theorem ChainA.J {Φ : St → Prop} {c x z : Operand} {b : Bool} {y : AV} (h : (ops[i]?,Nat.ble (d + 1) N.1,s.val c,s.val z) = (some ⟨some d,.pick c x z,ty,pos,af,none⟩,true,some (.d (.v (.bool b))),some y)) (hb : b = false) (cc : ChainA P N ops Φ (i + 1) (SR.apply ⟨[] ++ (opT c ++ opT z),[],some (d,some y),[]⟩ s)) : ChainA P N ops Φ i s := .c (uPF h hb) cc
theorem Chain.X {s9 : St} {ll : List (Nat × SR)} {T : TypeId} {x : Operand} {y : AV} (o : Nat) (h : (ops[i]?,Nat.ble (d + 1) N.1,s.val x,y.plain,s.obj o) = (some ⟨some d,.box T x,ty,pos,af,none⟩,true,some y,true,none)) (cc : Chain P N ops (i + 1) (SR.apply ⟨[] ++ opT x,[o],some (d,some (.ptr o 0)),[(o,.box y)]⟩ s) ll s9) : Chain P N ops i s ((i,⟨[] ++ opT x,[o],some (d,some (.ptr o 0)),[(o,.box y)]⟩) :: ll) s9 := .c (uX o h) cc
theorem ChainA.X {Φ : St → Prop} {T : TypeId} {x : Operand} {y : AV} (o : Nat) (h : (ops[i]?,Nat.ble (d + 1) N.1,s.val x,y.plain,s.obj o) = (some ⟨some d,.box T x,ty,pos,af,none⟩,true,some y,true,none)) (cc : ChainA P N ops Φ (i + 1) (SR.apply ⟨[] ++ opT x,[o],some (d,some (.ptr o 0)),[(o,.box y)]⟩ s)) : ChainA P N ops Φ i s := .c (uX o h) cc
end
theorem wD {s s' : St} {t : Nat} {x : D} (h : s.slot t = some (.d x)) : ∃ y,s.slot t = some y ∧ Conv s s' y (.d x) := ⟨_,h,.d rfl⟩
theorem wP [Drw] {s s' : St} {t o n : Nat} {x x' : AV} (h : (s.slot t,s.obj o,s'.obj o) = (some (.ptr o n),some (.box x),some (.box x'))) : ∃ y,s.slot t = some y ∧ Conv s s' y (.ptr o n) := ⟨_,(pk2 h).1,.ptr (pk2 (pk2 h).2).1 (pk2 (pk2 h).2).2⟩
theorem wO [Drw] {s s' : St} {t o n : Nat} {x x' : OD} (h : (s.slot t,s.obj o,s'.obj o) = (some (.ptr o n),some (.own x),some (.own x'))) : ∃ y,s.slot t = some y ∧ Conv s s' y (.ptr o n) := ⟨_,(pk2 h).1,.ptro (pk2 (pk2 h).2).1 (pk2 (pk2 h).2).2⟩
theorem oF [Drw] {N : Nat × Nat} {s s' : St} {o k : Nat} {x y : D} {z z' : OD} (h : (s.obj o,s.obj k,s'.obj k) = (some (.own (.st [.av (.ptr k 0),.av (.d x),.av (.d y)])),some (.own z),some (.own z'))) : OConv N s s' o (.own (.st [.av (.ptr k 0),.av (.d x),.av (.d y)])) :=
 .own (pk2 h).1 (.st (.cons (.av (.ptro (pk2 (pk2 h).2).1 (pk2 (pk2 h).2).2)) (.cons (.av (.d rfl)) (.cons (.av (.d rfl)) .nil))))
theorem oE [Drw] {N : Nat × Nat} {s s' : St} {o k T es : Nat} {rows : List D} {z z' : OD} (h : (s.obj o,s.obj k,s'.obj k) = (some (.own (.st [.av (.ifc T (.ptr k 0)),.arr es rows])),some (.own z),some (.own z'))) : OConv N s s' o (.own (.st [.av (.ifc T (.ptr k 0)),.arr es rows])) :=
 .own (pk2 h).1 (.st (.cons (.av (.ifc (.ptro (pk2 (pk2 h).2).1 (pk2 (pk2 h).2).2))) (.cons (.arr rfl) .nil)))
def zipO {α : Type} (f : α → α → Option (α × α)) : List α → List α → Option (List α × List α)
 | [],[] => some ([],[])
 | x :: xs,y :: ys => (f x y).bind fun z => (zipO f xs ys).bind fun zs => some (z.1 :: zs.1,z.2 :: zs.2)
 | _,_ => none
def cvP (s s' : St) (o n : Nat) : Option (AV × AV) :=
 match s.obj o,s'.obj o with
 | some (.box _),some (.box _) => some (.ptr o n,.ptr o n)
 | some (.own _),some (.own _) => some (.ptr o n,.ptr o n)
 | _,_ => none
def cvA (s s' : St) (o : Nat) : Option (AV × AV) :=
 match s.obj o,s'.obj o with
 | some (.arr d _ _),some (.arr e _ _) => some (.arr o d,.arr o e)
 | some (.arr d es rows),none => some (.arr o d,.d (.sl es rows))
 | _,_ => none
def cvM (s s' : St) (o : Nat) : Option (AV × AV) :=
 match s.obj o,s'.obj o with
 | some (.map _ _),some (.map _ _) => some (.map o,.map o)
 | _,_ => none
def cv (s s' : St) : Nat → AV → AV → Option (AV × AV)
 | 0,_,_ => none
 | n + 1,.d a,.d _ => some (.d a,.d a)
 | n + 1,.ptr o k,.ptr _ _ => cvP s s' o k
 | n + 1,.arr o _,_ => cvA s s' o
 | n + 1,.map o,.map _ => cvM s s' o
 | n + 1,.fn f ps ps',.fn _ qs qs' => (zipO (cv s s' n) ps qs).bind fun a => (zipO (cv s s' n) ps' qs').bind fun b => some (.fn f a.1 b.1,.fn f a.2 b.2)
 | n + 1,.ifc t y,.ifc _ x => (cv s s' n y x).bind fun z => some (.ifc t z.1,.ifc t z.2)
 | n + 1,.st ps,.st qs => (zipO (cv s s' n) ps qs).bind fun a => some (.st a.1,.st a.2)
 | _,_,_ => none
theorem bO {α β : Type} {x : Option α} {f : α → Option β} {b : β} (h : x.bind f = some b) : ∃ a,x = some a ∧ f a = some b := by
 cases x with
 | none => cases h
 | some a => exact ⟨a,rfl,h⟩
theorem zipO_ok {s s' : St} {f : AV → AV → Option (AV × AV)} (hf : ∀ y x r,f y x = some r → r.1 = y → Conv s s' y r.2) : ∀ (ps qs : List AV) {r},zipO f ps qs = some r → r.1 = ps → Convs s s' ps r.2
 | [],[],_,h,_ => by cases h; exact .nil
 | y :: ps,x :: qs,_,h,e => by
  have ⟨z,h1,h2⟩ := bO h
  have ⟨zs,h3,h4⟩ := bO h2
  cases h4; injection e with e1 e2; exact .cons (hf _ _ _ h1 e1) (zipO_ok hf ps qs h3 e2)
 | [],_ :: _,_,h,_ => by cases h
 | _ :: _,[],_,h,_ => by cases h
theorem cv_ok {s s' : St} : ∀ (n : Nat) (y x : AV) (r : AV × AV),cv s s' n y x = some r → r.1 = y → Conv s s' y r.2 := by
 intro n
 induction n with
 | zero => intro y x r h; simp [cv] at h
 | succ n ih =>
  intro y x r h e
  unfold cv at h
  split at h
  ·cases h
  ·cases h; exact .d rfl
  ·unfold cvP at h; split at h
   ·cases h; exact .ptr (by assumption) (by assumption)
   ·cases h; exact .ptro (by assumption) (by assumption)
   ·cases h
  ·unfold cvA at h; split at h
   ·cases h; injection e with _ e; subst e; exact .arr (by assumption) (by assumption)
   ·cases h; injection e with _ e; subst e; exact .frz (by assumption) (by assumption) rfl
   ·cases h
  ·unfold cvM at h; split at h
   ·cases h; exact .map (by assumption) (by assumption)
   ·cases h
  ·have ⟨a,h1,h2⟩ := bO h
   have ⟨b,h3,h4⟩ := bO h2
   cases h4; injections; subst_vars; exact .fn (zipO_ok ih _ _ h1 rfl) (zipO_ok ih _ _ h3 rfl)
  ·have ⟨a,h1,h2⟩ := bO h
   cases h2; injections; subst_vars; exact .ifc (ih _ _ _ h1 rfl)
  ·have ⟨a,h1,h2⟩ := bO h
   cases h2; injections; subst_vars; exact .st (zipO_ok ih _ _ h1 rfl)
  ·cases h
def cvS (s s' : St) : List (Nat × AV) → Option (List (Nat × AV) × List AV × List AV)
 | [] => some ([],[],[])
 | (t,x) :: l => (s.slot t).bind fun y => (cv s s' 3 y x).bind fun z => (cvS s s' l).bind fun r => some ((t,z.2) :: r.1,z.1 :: r.2.1,y :: r.2.2)
theorem cvS_ok {s s' : St} : ∀ (l : List (Nat × AV)) {r},cvS s s' l = some r → r.2.1 = r.2.2 → wkS s s' r.1
 | [],_,h,_ => by cases h; trivial
 | (t,x) :: l,_,h,e => by
  have ⟨y,h1,h2⟩ := bO h
  have ⟨z,h3,h4⟩ := bO h2
  have ⟨r,h5,h6⟩ := bO h4
  cases h6; injection e with e1 e2; exact ⟨⟨y,h1,cv_ok _ _ _ _ h3 e1⟩,cvS_ok l h5 e2⟩
def cvD (s s' : St) : Nat → OD → OD → Option (OD × OD)
 | n + 1,.av y,.av x => (cv s s' 3 y x).bind fun z => some (.av z.1,.av z.2)
 | n + 1,.st ps,.st qs => (zipO (cvD s s' n) ps qs).bind fun a => some (.st a.1,.st a.2)
 | n + 1,.box y,.box x => (cvD s s' n y x).bind fun z => some (.box z.1,.box z.2)
 | _,.map es,_ => some (.map es,.map es)
 | _,.arr es rows,_ => some (.arr es rows,.arr es rows)
 | _,_,_ => none
theorem zipD_ok {s s' : St} {f : OD → OD → Option (OD × OD)} (hf : ∀ y x r,f y x = some r → r.1 = y → ODC s s' y r.2) : ∀ (ps qs : List OD) {r},zipO f ps qs = some r → r.1 = ps → ODCs s s' ps r.2
 | [],[],_,h,_ => by cases h; exact .nil
 | y :: ps,x :: qs,_,h,e => by
  have ⟨z,h1,h2⟩ := bO h
  have ⟨zs,h3,h4⟩ := bO h2
  cases h4; injection e with e1 e2; exact .cons (hf _ _ _ h1 e1) (zipD_ok hf ps qs h3 e2)
 | [],_ :: _,_,h,_ => by cases h
 | _ :: _,[],_,h,_ => by cases h
theorem cvD_ok {s s' : St} : ∀ (n : Nat) (y x : OD) (r : OD × OD),cvD s s' n y x = some r → r.1 = y → ODC s s' y r.2 := by
 intro n
 induction n with
 | zero => intro y x r h; cases y <;> simp [cvD] at h <;> subst h <;> intro <;> first | exact .map rfl | exact .arr rfl
 | succ n ih =>
  intro y x r h e
  unfold cvD at h
  split at h
  ·have ⟨a,h1,h2⟩ := bO h
   cases h2; injection e with e; exact .av (cv_ok _ _ _ _ h1 e)
  ·have ⟨a,h1,h2⟩ := bO h
   cases h2; injections; subst_vars; exact .st (zipD_ok ih _ _ h1 rfl)
  ·have ⟨a,h1,h2⟩ := bO h
   cases h2; injections; subst_vars; exact .box (ih _ _ _ h1 rfl)
  ·cases h; exact .map rfl
  ·cases h; exact .arr rfl
  ·cases h
def cvO (N : Nat × Nat) (s s' : St) (o : Nat) (x : OB) : Option (OB × Option OB) :=
 match s.obj o,x with
 | some (.box y),.box x => (cv s s' 3 y x).bind fun z => some (.box z.2,some (.box z.1))
 | some (.arr c es rows),.arr c' _ _ => some (.arr (bif Nat.ble N.2 o then c' else c) es rows,some (.arr c es rows))
 | some (.map v es),_ => some (.map v es,some (.map v es))
 | some (.own y),.own x => (cvD s s' 5 y x).bind fun z => some (.own z.2,some (.own z.1))
 | none,.arr _ es _ => some (.arr 0 es [],none)
 | _,_ => none
theorem cvO_ok {N : Nat × Nat} {s s' : St} {o : Nat} {x : OB} {r} (h : cvO N s s' o x = some r) (e : r.2 = s.obj o) : OConv N s s' o r.1 := by
 unfold cvO at h
 split at h
 ·have ⟨a,h1,h2⟩ := bO h
  rename_i k; cases h2; rw [k] at e; injections; subst_vars; exact .box k (cv_ok _ _ _ _ h1 rfl)
 ·cases h
  cases hb : Nat.ble N.2 o with
  | true => exact .arr0 (by assumption) hb rfl
  | false => exact .arr (by assumption) rfl
 ·cases h; exact .map (by assumption) rfl
 ·have ⟨a,h1,h2⟩ := bO h
  rename_i k; cases h2; rw [k] at e; injections; subst_vars; exact .own k (cvD_ok _ _ _ _ h1 rfl)
 ·cases h; exact .nil (by assumption)
 ·cases h
def cvOs (N : Nat × Nat) (s s' : St) : List (Nat × OB) → Option (List (Nat × OB) × List (Option OB) × List (Option OB))
 | [] => some ([],[],[])
 | (o,x) :: l => (cvO N s s' o x).bind fun z => (cvOs N s s' l).bind fun r => some ((o,z.1) :: r.1,z.2 :: r.2.1,s.obj o :: r.2.2)
theorem cvOs_ok {N : Nat × Nat} {s s' : St} : ∀ (l : List (Nat × OB)) {r},cvOs N s s' l = some r → r.2.1 = r.2.2 → wkO N s s' r.1
 | [],_,h,_ => by cases h; trivial
 | (t,x) :: l,_,h,e => by
  have ⟨z,h3,h4⟩ := bO h
  have ⟨r,h5,h6⟩ := bO h4
  cases h6; injection e with e1 e2; exact ⟨cvO_ok h3 e1,cvOs_ok l h5 e2⟩
abbrev cvW (N : Nat × Nat) (s : St) (l : List (Nat × AV)) (m : List (Nat × OB)) (a : List AV) (b : List (Option OB)) : Prop := (cvS s (.of l m) l,cvOs N s (.of l m) m,(List.range N.2).all (fun o => (lk m o).isSome)) = (some (l,a,a),some (m,b,b),true)
theorem wA0 [Drw] {N : Nat × Nat} {s : St} {l : List (Nat × AV)} {m : List (Nat × OB)} {a b} (h : cvW N s l m a b) : Weak N s (.of l m) :=
 wkF (cvS_ok l (congrArg (·.1) h) rfl) (cvOs_ok m (congrArg (·.2.1) h) rfl) (qq (congrArg (·.2.2) h))
theorem wA1 [Drw] {N : Nat × Nat} {s : St} {l : List (Nat × AV)} {m : List (Nat × OB)} {a b} (h : cvW N s l m a b) : Leads N s (.of l m) := .w (wA0 h)
theorem wA2 [Drw] {N : Nat × Nat} {s : St} (l : List (Nat × AV)) (m : List (Nat × OB)) {a b} (h : cvW N s l m a b) : Leads N s (.of l m) := .w (wA0 h)
theorem cwC [Drw] {P : Program} {N : Nat × Nat} {c : Operand} {x y : Code} {Q : Exit → St → Prop} {s : St} {b : Bool} {α : Type} {u v : Option α} {r : α} (h : cond b u v = some r) (hc : s.val c = some (.d (.v (.bool b)))) (k : b = true → u = some r → CWp P N x Q s) (l : b = false → v = some r → CWp P N y Q s) : CWp P N (.cond c x y) Q s := by
 rcases cdS h with ⟨e,h⟩ | ⟨e,h⟩
 ·exact cwT hc e (k e h)
 ·exact cwF hc e (l e h)
theorem rt1 [Drw] {P : Program} {N : Nat × Nat} {s : St} {Q : Exit → St → Prop} {fn : Func} {t : Nat} {x : AV} {m : List (Nat × OB)} {a b} (hq : Q .ret s = ∃ s'',Leads N s s'' ∧ (Exit.ret = .normal ∨ Exit.ret = .ret) ∧ ∃ res,ResOk P fn s'' res ∧ res = x ∧ s''.obj = lk m) (hf : fn.results = #[.tmp t]) (h : cvW N s [(t,x)] m a b) : CWp P N .ret Q s :=
 qv (hq.mpr ⟨_,wA2 [(t,x)] m h,.inr rfl,_,res1 hf (show lk [(t,x)] t = some x by simp [lk]),rfl,rfl⟩)
theorem rt2 [Drw] {P : Program} {N : Nat × Nat} {s : St} {Q : Exit → St → Prop} {fn : Func} {t u : Nat} {x y : AV} {m : List (Nat × OB)} {a b} (hq : Q .ret s = ∃ s'',Leads N s s'' ∧ (Exit.ret = .normal ∨ Exit.ret = .ret) ∧ ∃ res,ResOk P fn s'' res ∧ res = .tup [x,y] ∧ s''.obj = lk m) (hf : fn.results = #[.tmp t,.tmp u]) (hu : Nat.beq u t = false) (h : cvW N s [(t,x),(u,y)] m a b) : CWp P N .ret Q s :=
 qv (hq.mpr ⟨_,wA2 [(t,x),(u,y)] m h,.inr rfl,_,res2 hf (show lk [(t,x),(u,y)] t = some x by simp [lk]) (show lk [(t,x),(u,y)] u = some y by simp [lk,hu]),rfl,rfl⟩)
theorem cSR [Drw] {P : Program} {N : Nat × Nat} {id : Nat} {ops : Array Oper} {s s' : St} {l : List (Nat × SR)} {Q : Exit → St → Prop} {y : Code} (c : Chain P N ops 0 s l s') (h : CWp P N y Q s') : CWp P N (.seq (.region id ops false) y) Q s := cwS (cwR c h)
end Go.Val
namespace Go.Val
open Go.RowKit
section
variable [Drw] {P : Program} {N : Nat × Nat} {ops : Array Oper} {i : Nat} {s : St} {d : Nat} {ty : TypeId} {pos : String} {af : Array Edge} {g : Option (Nat × Bool)} {gs : List Nat}
theorem Hand.re {s : St} {oin : Nat → Option OB} {σ : Nat → Nat} {x y : AV} (h : y.ren σ = x) : Hand s oin σ x y false [] := by subst h; exact .same
theorem lives_app {f : Nat → Option OB} : ∀ {xs ys : List AV},AV.lives f (xs ++ ys) → AV.lives f xs ∧ AV.lives f ys
 | [],_,h => ⟨tV,h⟩
 | _ :: xs,_,h => ⟨⟨h.1,(lives_app (xs := xs) h.2).1⟩,(lives_app (xs := xs) h.2).2⟩
theorem VRs.app {E : Env} : ∀ {xs ys : List AV} {us vs : List Value},VRs E xs us → VRs E ys vs → VRs E (xs ++ ys) (us ++ vs)
 | _,_,_,_,.nil,k => k
 | _,_,_,_,.cons h hs,k => .cons h (VRs.app hs k)
theorem o_fn2 {f : FuncId} {x z : Operand} {y u : AV} (ho : ops[i]? = some ⟨some d,.makeFunc (.func f) #[] #[x,z],ty,pos,af,g⟩) (hd : Nat.ble (d + 1) N.1 = true) (hg : G ops s g gs) (hx : s.val x = some y) (hz : s.val z = some u) :
  Valid P N ops i ⟨gs ++ (opT x ++ opT z),[],some (d,some (.fn f [] [y,u])),[]⟩ s :=
 vPu ho hd hg fun s' hs cx a E hR => by
  obtain ⟨hs1,hs2⟩ := qt0 hs
  obtain ⟨c,h1,h2⟩ := hR.val ((vAg hs1).trans hx)
  obtain ⟨c',h1',h2'⟩ := hR.val ((vAg hs2).trans hz)
  refine ⟨.func (.func f) #[] #[a.eval x,a.eval z],?_,_,.fn (xs := []) (ys := [a.eval x,a.eval z]) .nil (by rw [h2,h2']; exact .cons h1 (.cons h1' .nil)),rfl⟩
  simp [execOp,Instr.makeFunc]
theorem hos_fvalC {dd : Option Nat} {f : FuncId} {fn : Func} {q : Operand} {as : Array Operand} {ats : Array TypeId} {cs : List Value} (hf : P.funcs[f]? = some fn) (hnm : (fn.name == "runtime.NumGoroutine") = false) (hbd : fn.body.isNone = false) (a : Act) (w : World)
  (hq : a.eval q = .func (.func f) #[] cs.toArray) : (execOp a.eval ⟨dd,.call ⟨.value q,as,ats⟩,ty,pos,af,g⟩).run P w = .ok (.enter f (as.toList.map a.eval ++ cs).toArray) w := by
 simp only [execOp,resolve,Sem.run_bind,Sem.run_pure,Result.andThen,hq,Deferred.ofValue,invoke,callFunc,run_program,hf,hnm,hbd,Bool.false_eq_true,if_false]
 congr 2
 apply Array.ext'
 simp
theorem o_callVX {f : FuncId} {fn : Func} {q : Operand} {as : List Operand} {ats : Array TypeId} {b : Bool} {k : Nat} {mi mo : List (Nat × OB)} {ys zs zs' : List AV} {l : List Nat} {res : AV} (σ : Nat → Nat)
  (ho : ops[i]? = some ⟨some d,.call ⟨.value q,as.toArray,ats⟩,ty,pos,af,g⟩) (hd : Nat.ble (d + 1) N.1 = true) (hg : G ops s g gs)
  (hq : s.val q = some (.fn f [] zs')) (hz : AV.rens σ zs = zs')
  (hf : P.funcs[f]? = some fn) (hnm : (fn.name == "runtime.NumGoroutine") = false) (hbd : fn.body.isNone = false) (hF : FnOk P f (ys ++ zs) k (lk mi) (fun r oo => r = res ∧ oo = lk mo))
  (hh : Hands s (lk mi) σ as ys b l) (hC : CallIn s σ k mi mo (ys ++ zs) l) (hflat : b = false ∨ (res.flat ∧ ∀ p ∈ mo,p.2.flat)) :
  Valid P N ops i ⟨gs ++ (opT q ++ qS4 as),l ++ mo.map (fun p => σ p.1),some (d,some (res.ren σ)),mo.map fun p => (σ p.1,p.2.ren σ)⟩ s := by
 subst hz
 refine valid_callG (dd := some d) σ ho (fun _ e => by cases e; exact Nat.le_of_ble_eq_true hd) hg (fun s' cx a E Ec hn hfs hfo hR hS hE hJ hp => ?_) hF hC hflat
 obtain ⟨cs,h1,h2⟩ := hR.val ((vAg fun t ht => hfs t (zL.2 (.inl ht))).trans hq)
 cases h1 with
 | fn k1 k2 =>
  rename_i xs cv
  cases k1
  have e : a.eval q = .func (.func f) #[] cv.toArray := h2
  have hl := lives_app hC.live
  have hv := Hands.vals hR hS hE hh (fun t ht => hfs t (zL.2 (.inr ht))) hfo hl.1 hJ hp
  refine ⟨as.map a.eval ++ cv,?_,VRs.app hv (VRs.unren hS zs (by rw [hE]; exact hl.2) k2)⟩
  have := hos_fvalC (P := P) (dd := some d) (as := as.toArray) (ats := ats) (ty := ty) (pos := pos) (af := af) (g := g) hf hnm hbd a E.w e
  simpa using this
end
end Go.Val
namespace Go.Val
open Go.RowKit
inductive Fr where
 | mk (level : Int) (pairs : List (List UInt8 × ByteArray)) (kids : List (List UInt8 × Int × Option Fr)) : Fr
mutual
def eFr : Fr → D
 | .mk l ps ks => .st [.v (.int .i64 l),.sl 25 (ps.map fun p => .st [.bs 24 p.1,.v (.string p.2)]),.sl 26 (eFks ks)]
def eFks : List (List UInt8 × Int × Option Fr) → List D
 | [] => []
 | (k,b,f) :: t => .st [.bs 24 k,.v (.int .i64 b),eFo f] :: eFks t
def eFo : Option Fr → D
 | none => .v (.pointer none)
 | some f => .at (eFr f)
end
theorem eFks_map : ∀ ks : List (List UInt8 × Int × Option Fr),eFks ks = ks.map fun p => .st [.bs 24 p.1,.v (.int .i64 p.2.1),eFo p.2.2]
 | [] => by rw [eFks]; rfl
 | (k,b,f) :: t => by rw [eFks,eFks_map t]; rfl
def frMk (x : Int × List (List UInt8 × ByteArray) × List (List UInt8 × Int × Option Fr)) : Fr := .mk x.1 x.2.1 x.2.2
def frOf : Option Fr → Option (Int × List (List UInt8 × ByteArray) × List (List UInt8 × Int × Option Fr))
 | none => none
 | some (.mk a b c) => some (a,b,c)
theorem eFo_none : eFo none = .v (.pointer none) := by rw [eFo]
theorem eFo_mk (x : Int × List (List UInt8 × ByteArray) × List (List UInt8 × Int × Option Fr)) : eFo (some (frMk x)) = .at (.st [.v (.int .i64 x.1),.sl 25 (x.2.1.map fun p => .st [.bs 24 p.1,.v (.string p.2)]),.sl 26 (x.2.2.map fun p => .st [.bs 24 p.1,.v (.int .i64 p.2.1),eFo p.2.2])]) := by
 rw [eFo,frMk,eFr,eFks_map]
theorem qx1 {e : Option Fr} {x : Int × List (List UInt8 × ByteArray) × List (List UInt8 × Int × Option Fr)} (h : frOf e = some x) : eFo e = .at (.st [.v (.int .i64 x.1),.sl 25 (x.2.1.map fun p => .st [.bs 24 p.1,.v (.string p.2)]),.sl 26 (x.2.2.map fun p => .st [.bs 24 p.1,.v (.int .i64 p.2.1),eFo p.2.2])]) := by
 match e,h with
 | some (.mk a b c),h =>
  have h' : (a,b,c) = x := zQ h
  subst h'
  exact eFo_mk (a,b,c)
theorem eFo_agg : ∀ e : Option Fr,(eFo e).isAgg = false
 | none => by rw [eFo]; rfl
 | some f => by rw [eFo]; rfl
theorem eFo_size : ∀ e : Option Fr,(eFo e).size = 1
 | none => by rw [eFo]; rfl
 | some f => by rw [eFo]; rfl
section
variable [Drw] {P : Program} {N : Nat × Nat} {ops : Array Oper} {i : Nat} {s : St} {d : Nat} {ty : TypeId} {pos : String} {af : Array Edge} {g : Option (Nat × Bool)} {gs : List Nat}
theorem o_boxAt {T : TypeId} {x : Operand} {y : D} (ho : ops[i]? = some ⟨some d,.box T x,ty,pos,af,g⟩) (hd : Nat.ble (d + 1) N.1 = true) (hg : G ops s g gs) (hx : s.val x = some (.d y)) :
  Valid P N ops i ⟨gs ++ opT x,[],some (d,some (.d (.at y))),[]⟩ s :=
 vCo ho rfl hd hg fun s' hs _ cx a E _ hR => by
  obtain ⟨cs,h1,h2⟩ := hR.val ((vAg hs).trans hx)
  cases h1 with
  | d h1 =>
   let E' : Env := { E with w := E.w.alloc (.cells cs.toArray T) }
   have he := ext_alloc E (.cells cs.toArray T)
   refine ⟨.pointer (some ⟨E.w.heap.size,0,none⟩),E',?_,?_,qg3 (hR.alloc _)⟩
   ·have : (a.eval x).cells = cs.toArray := by rw [h2]; exact h1.mkV_cells
    simp only [execOp,Instr.box,newVar,newRow,this,Sem.run_bind,Sem.run_pure,Result.andThen]
    rfl
   ·have hI : E'.I E.w.heap.size := hR.newI _ (Nat.le_refl _)
    have hb : E'.w.heap[E.w.heap.size]? = some (.cells (cs ++ []).toArray T (0,0)) := by rw [zJ]; exact qr2 _ _
    exact ⟨_,.d (.at hI (by simp [E']) (h1.mono he.hz he.imm) (caB hb)),rfl⟩
theorem o_boxFr {T : TypeId} {x : Operand} {y z : D} (ho : ops[i]? = some ⟨some d,.box T x,ty,pos,af,g⟩) (hd : Nat.ble (d + 1) N.1 = true) (hg : G ops s g gs) (hx : s.val x = some (.d y)) (hz : z = .at y) :
  Valid P N ops i ⟨gs ++ opT x,[],some (d,some (.d z)),[]⟩ s := by subst hz; exact o_boxAt ho hd hg hx
theorem qy1 {x : Operand} {y z : D} (ho : ops[i]? = some ⟨some d,.nilCheck x,ty,pos,af,g⟩) (hd : Nat.ble (d + 1) N.1 = true) (hg : G ops s g gs) (hx : s.val x = some (.d z)) (hz : z = .at y) :
  Valid P N ops i ⟨gs ++ opT x,[],some (d,some (.d (.at y))),[]⟩ s := by subst hz; exact o_nilA ho hd hg hx
theorem eqIn_pnil0 {T e : TypeId} (hT : P.underlying T = some (.pointer e)) (n : Nat) (w : World) : (Op.equalIn (n + 1) T (.pointer none) (.pointer none)).run P w = .ok true w := by
 unfold Op.equalIn
 rw [Sem.run_bind,run_underlying hT]
 rfl
theorem run_pcmp {T E0 : TypeId} (hT : P.underlying T = some (.pointer E0)) {x : Operand} {T' : TypeId} {a : Act} {q : Option Addr} {E : Env} (hx : a.eval x = .pointer q) {dd : Option Nat} (neq : Bool) :
  (execOp a.eval ⟨dd,.binOp (bif neq then .neq else .eql) T x (.const (.pointer none)) T',ty,pos,af,g⟩).run P E.w = .ok (.value (.bool (bif neq then q.isSome else q.isNone))) E.w := by
 have hq : ∀ b w,(Op.equalIn Op.maxDepth T (.pointer (some b)) (.pointer none)).run P w = .ok false w := fun b w => eqIn_pnil hT 9999 b w
 have hq0 : ∀ w,(Op.equalIn Op.maxDepth T (.pointer none) (.pointer none)).run P w = .ok true w := fun w => eqIn_pnil0 hT 9999 w
 simp only [execOp,hx]
 cases neq <;> cases q <;> simp [eqGuard,binOp,Op.equal,hq,hq0,Act.eval,Result.andThen]
theorem o_pO {T T' E0 : TypeId} {x : Operand} {e : Option Fr} {z : D} (neq : Bool) (ho : ops[i]? = some ⟨some d,.binOp (bif neq then .neq else .eql) T x (.const (.pointer none)) T',ty,pos,af,g⟩) (hd : Nat.ble (d + 1) N.1 = true) (hg : G ops s g gs)
  (hx : s.val x = some (.d z)) (hz : z = eFo e) (hT : P.underlying T = some (.pointer E0)) :
  Valid P N ops i ⟨gs ++ opT x,[],some (d,some (.d (.v (.bool (bif neq then e.isSome else e.isNone))))),[]⟩ s :=
 vPu ho hd hg fun s' hs cx a E hR => by
  subst hz
  have h0 := hR.val ((vAg hs).trans hx)
  cases e with
  | none =>
   rw [eFo] at h0
   exact ⟨_,run_pcmp hT h0.sc neq,.of_sc (by cases neq <;> rfl)⟩
  | some f =>
   rw [eFo] at h0
   obtain ⟨cs,h1,h2⟩ := h0
   cases h1 with
   | d h1 => cases h1 with
    | «at» => exact ⟨_,run_pcmp hT h2 neq,.of_sc (by cases neq <;> rfl)⟩
theorem o_ixPc {T e len : Nat} {x z : Operand} {o m : Nat} {k : IntKind} {n : Int} (c : Nat) (ho : ops[i]? = some ⟨some d,.indexAddr T x z,ty,pos,af,g⟩) (hd : Nat.ble (d + 1) N.1 = true) (hg : G ops s g gs)
  (hx : s.val x = some (.ptr o m)) (hz : s.val z = some (.d (.v (.int k n)))) (hT : arB P T = some (len,e)) (he : szB P e = some 1) (hn : 0 ≤ n ∧ n < len) (hc : n.toNat = c) :
  Valid P N ops i ⟨gs ++ (opT x ++ opT z),[],some (d,some (.ptr o (m + c))),[]⟩ s := by subst hc; exact qd6 ho hd hg hx hz hT he hn
theorem ixc0 {n : Int} (h : decide (n = 0) = true) (_ : 0 ≤ n ∧ n < 2) : n.toNat = 0 := by have := of_decide_eq_true h; omega
theorem ixc1 {n : Int} (h : decide (n = 0) = false) (_ : 0 ≤ n ∧ n < 2) : n.toNat = 1 := by have := of_decide_eq_false h; omega
theorem resCTT {fn : Func} {t o T n u v : Nat} {x y z : AV} {b : Bool} (h : fn.results = #[.cell t T,.tmp u,.tmp v]) (hx : s.slot t = some (.ptr o 0)) (hob : s.obj o = some (.box x)) (hT : TA P T b n) (hb : x.isAgg = b) (hn : x.size = n) (hy : s.slot u = some y) (hz : s.slot v = some z) : ResOk P fn s (.tup [x,y,z]) := by
 intro cx a E hR
 subst hb; subst hn
 obtain ⟨cs,h1,h2⟩ := hR.slots t _ hx
 obtain ⟨c2,k1',e2⟩ := hR.slots u y hy
 obtain ⟨c3,k3',e3⟩ := hR.slots v z hz
 cases h1 with
 | ptr k1 kb k2 =>
  obtain ⟨b',zs,e,q1,q2,q3,q4⟩ := hR.objs _ _ hob
  rw [k2] at q1; cases q1
  have hall : CellsAt E.w _ 0 zs := caB (sp := []) (by rw [zJ]; exact q4)
  have hl := qv1 (P := P) (w := E.w) (by rw [q2.len]; exact hT) hall (fun ha => qe3 q2 ha)
  refine ⟨.tuple #[mkV x.isAgg zs,a.tmps.getD u undef,a.tmps.getD v undef],?_,_,.tup (.cons q2 (.cons k1' (.cons k3' .nil))),by rw [e2,e3]; rfl⟩
  have e1 : a.tmps.getD t undef = .pointer (some ⟨_,0,none⟩) := h2
  simp only [results,h,List.mapM_toArray,List.mapM_cons,List.mapM_nil,Sem.run_bind,Sem.run_map,e1,asAddr,Sem.run_pure,Result.andThen,hl]
  rfl
end
theorem fnOk_forget3 [Drw] {P : Program} {f : FuncId} {args : List AV} {x y y2 : D} {m : List (Nat × OB)} (h : FnOk P f args 0 (lk []) (fun rr oo => rr = .tup [.d x,.d y,.d y2] ∧ oo = lk m)) : FnOk P f args 0 (lk []) (fun rr oo => rr = .tup [.d x,.d y,.d y2] ∧ oo = lk []) := by
 intro hk E vals hE hok hargs
 refine (h hk E vals hE hok hargs).mono ?_
 rintro e w' ⟨v,res,E',h1,h2,⟨h3,h4⟩,h5,h6,h7,h8,h9,h10⟩
 subst h3
 let E2 : Env := { E' with obj := lk [] }
 have hI : ∀ b,E'.I b → E2.I b := fun b hb => ⟨hb.1,fun o ob (ho : none = some ob) => nomatch ho⟩
 refine ⟨v,.tup [.d x,.d y,.d y2],E2,h1,h2,⟨rfl,rfl⟩,?_,⟨fun o ob (ho : none = some ob) => (nomatch ho),fun o o' b ho => absurd rfl ho⟩,fun o b ho => absurd rfl ho,h8,h9,fun o ob ho => by rw [hE] at ho; exact nomatch (show none = some ob from ho)⟩
 obtain ⟨cs,q1,q2⟩ := h5
 have mono : ∀ {z : D} {c : List Value},CR E' (.d z) c → CR E2 (.d z) c := fun h => by
  cases h with
  | d h => exact .d (h.mono (Nat.le_refl _) (fun b hb _ => ⟨hI b hb,rfl⟩))
 cases q1 with
 | tup k =>
  cases k with
  | cons k1 k2 =>
   cases k2 with
   | cons k3 k4 =>
    cases k4 with
    | cons k5 k6 =>
     cases k6
     exact ⟨_,.tup (.cons (mono k1) (.cons (mono k3) (.cons (mono k5) .nil))),q2⟩
end Go.Val
