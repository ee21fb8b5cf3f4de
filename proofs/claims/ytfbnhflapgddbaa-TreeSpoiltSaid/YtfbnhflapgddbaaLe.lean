/- Merged texts: Xp Xq Xv Xw Xy Xz. -/
import Derived.Test.YtfbnhflapgddbaaLc
import Derived.Test.YtfbnhflapgddbaaLb
import Derived.Laws.MakeOwn
set_option linter.unusedSectionVars false
set_option linter.unusedVariables false
set_option linter.unusedSimpArgs false
namespace Go.Val
open Go.RowKit
variable [Drw]
section
variable {P : Program} {N : Nat × Nat} {ops : Array Oper} {i : Nat} {s : St} {d : Nat} {ty : TypeId} {pos : String} {af : Array Edge} {g : Option (Nat × Bool)} {gs : List Nat}
theorem o_stEP {T es n m : Nat} {x v : Operand} {o c k : Nat} {rows : List D} {y r z y0 : D} (p : List Nat) (ho : ops[i]? = some ⟨none,.store T x v,ty,pos,af,g⟩) (hg : G ops s g gs)
  (hx : s.val x = some (.pel o c k m)) (hv : s.val v = some (.d z)) (hob : s.obj o = some (.arr c es rows)) (hr : rows[k]? = some r) (hp : AV.get p (.d r) = some (.d y0,m)) (hput : AV.put p (.d r) (.d z) = .d y)
  (hT : szB P T = some n) (hn : z.size = n) (hn' : y0.size = n) (hy : y.size = es) :
  Valid P N ops i ⟨gs ++ (opT x ++ opT v),[o],none,[(o,.arr c es (rows.set k y))]⟩ s :=
 qa3 ho rfl hg fun s' hs ho' cx a E _ hR => by
  have hob' : s'.obj o = some (.arr c es rows) := (ho' o (by simp)).trans hob
  obtain ⟨xs,h1,h2⟩ := hR.val ((vAg (qg0 hs).1).trans hx)
  obtain ⟨c2',k1,k2⟩ := hR.val ((vAg (qg0 hs).2).trans hv)
  have hk : k < rows.length := (List.getElem?_eq_some_iff.1 hr).1
  cases k1 with
  | d k1 =>
  cases h1 with
  | pel q1 q2 q3 q4 =>
   rw [hR.obj,hob'] at q1; cases q1
   obtain ⟨b,hb,hvv⟩ := q3 rfl
   subst hvv
   rcases hR.objs _ _ hob' with ⟨p1,p2,_⟩ | ⟨b',cs,sp,e,p1,p2,p3,p4,p5,p6⟩
   ·rw [p2] at hk; simp at hk
   ·rw [hb] at p1; cases p1
    have hcut : rows = rows.take k ++ (r :: rows.drop (k + 1)) := cut_at hr
    have p2' := p2
    rw [hcut] at p2'
    obtain ⟨c1,c23,rfl,t1,t23⟩ := DRs.split _ p2'
    cases t23 with
    | cons t2 t3 =>
     rename_i c2 c3
     have hrs : r.size = es := p3 r (List.mem_of_getElem? hr)
     obtain ⟨e1,e2,e3,rfl,u1,u2,u3⟩ := put_cr (E := E) (.d k1) p (.d t2) hp
     rw [hput] at u3
     cases u2 with
     | d u2 =>
     cases u3 with
     | d u3 =>
     have l1 : c1.length = k * es := by
      rw [t1.len,qy0 (fun x hx => p3 x (List.mem_of_mem_take hx)),List.length_take,Nat.min_eq_left (Nat.le_of_lt hk)]
     have l2 : (e1 ++ (e2 ++ e3)).length = es := t2.len.trans hrs
     have l3 : e2.length = n := u2.len.trans hn'
     have l3' : c2'.length = n := k1.len.trans hn
     have l2' : (e1 ++ (c2' ++ e3)).length = es := u3.len.trans hy
     have hblk : E.w.heap[b]? = some (.cells ((c1 ++ e1) ++ (e2 ++ (e3 ++ (c3 ++ sp)))).toArray e (0,0)) := by rw [p4]; simp
     have hrun := qk4 (P := P) (T := T) (b := b) (n := k * es + m) (agg := z.isAgg) (c1 := c1 ++ e1) (c2 := e2) (c3 := e3 ++ (c3 ++ sp)) (c2' := c2') (by rw [l3']; exact hT) (l3'.trans l3.symm) k1.ones (fun ha => qk2 (E := E) (.d k1) ha) (by rw [List.length_append,l1,u1]) hblk
     have hrow : (E.w.setRow b ((c1 ++ e1) ++ (c2' ++ (e3 ++ (c3 ++ sp)))).toArray).heap[b]? = some (.cells ((c1 ++ e1) ++ (c2' ++ (e3 ++ (c3 ++ sp)))).toArray e (0,0)) := setRow_heap _ _ _ _ _ _ hblk
     have hset : rows.set k y = rows.take k ++ (y :: rows.drop (k + 1)) := ql5 rows k r y hr
     refine ⟨.skip,E.turn o (.arr c es (rows.set k y)) (some b) (E.γ o) [] (E.w.setRow b ((c1 ++ e1) ++ (c2' ++ (e3 ++ (c3 ++ sp)))).toArray),?_,.inl rfl,?_⟩
     ·simp only [execOp,Instr.storeAt]
      have e0 : a.eval x = .pointer (some ⟨b,k * es + m,none⟩) := h2
      rw [e0,k2]
      simp only [Instr.sureAddr,Sem.run_bind,Sem.run_pure,Result.andThen]
      have : (storeVar T ⟨b,k * es + m,none⟩ (mkV (AV.d z).isAgg c2')).run P E.w = _ := hrun
      rw [this]
      rfl
     ·refine hR.turn hob' (by simp) (fun q hq => by cases hq; exact .inl hb) (fun q hq hne => setRow_other _ _ _ _ (fun e => hne (by rw [e]; exact hb))) rfl rfl rfl ?_ (fun he => ?_) (fun _ _ e => by cases e)
      ·simp [OExt,Env.turn,Env.new,hb]
      ·refine .inr ⟨b,c1 ++ ((e1 ++ (c2' ++ e3)) ++ c3),sp,e,by simp [Env.turn,Env.new],?_,?_,by simp only [Env.turn,Env.new]; rw [hrow]; simp,?_,?_⟩
       ·have := (t1.mono he.hz he.imm).append (.cons (u3.mono he.hz he.imm) (t3.mono he.hz he.imm))
        rw [← hset] at this
        exact this
       ·intro q hq
        rcases List.mem_or_eq_of_mem_set hq with h | h
        ·exact p3 q h
        ·rw [h]; exact hy
       ·rw [← List.append_assoc] at p5
        simp only [List.length_append] at p5 l2 l2' ⊢
        simp only [Env.turn,Env.new,if_true]
        omega
       ·simp only [List.length_set,Env.turn,Env.new,if_true]; exact p6
theorem o_stEPM {T es n m : Nat} {α : Type} {enc : α → D} {xs : List α} {x v : Operand} {o c k : Nat} {y r : α} {z y0 : D} (p : List Nat) (ho : ops[i]? = some ⟨none,.store T x v,ty,pos,af,g⟩) (hg : G ops s g gs)
  (hx : s.val x = some (.pel o c k m)) (hv : s.val v = some (.d z)) (hob : s.obj o = some (.arr c es (xs.map enc))) (hr : xs[k]? = some r) (hp : AV.get p (.d (enc r)) = some (.d y0,m)) (hput : AV.put p (.d (enc r)) (.d z) = .d (enc y))
  (hT : szB P T = some n) (hn : z.size = n) (hn' : y0.size = n) (hy : (enc y).size = es) :
  Valid P N ops i ⟨gs ++ (opT x ++ opT v),[o],none,[(o,.arr c es ((xs.set k y).map enc))]⟩ s := by
 rw [List.map_set]
 exact o_stEP (r := enc r) p ho hg hx hv hob (by simp [hr]) hp hput hT hn hn' hy
end
end Go.Val
set_option linter.unusedSectionVars false
set_option linter.unusedVariables false
set_option linter.unusedSimpArgs false
namespace Go.Val
open Go.RowKit
variable [Drw]
def ciO (s : St) (σ : Nat → Nat) (f : Nat → Option OB) : List (Nat × OB) → Prop
 | [] => True
 | (o,x) :: l => (s.obj (σ o) = some (x.ren σ) ∧ x.live f) ∧ ciO s σ f l
theorem ciO_mem {s : St} {σ : Nat → Nat} {f : Nat → Option OB} : ∀ {l : List (Nat × OB)},ciO s σ f l → ∀ {o x},(o,x) ∈ l → s.obj (σ o) = some (x.ren σ) ∧ x.live f
 | (t',x') :: l,h,t,x,hm => by
  rcases List.mem_cons.1 hm with e | hm
  ·cases e; exact h.1
  ·exact ciO_mem h.2 hm
theorem lk_none_not {α : Type} : ∀ {l : List (Nat × α)} {t : Nat},lk l t = none → ∀ x,(t,x) ∉ l
 | (d,y) :: l,t,h,x,hm => by
  simp only [lk] at h
  cases hb : Nat.beq t d with
  | true => rw [hb] at h; cases h
  | false =>
   rw [hb] at h
   rcases List.mem_cons.1 hm with e | hm
   ·cases e
    simp at hb
   ·exact lk_none_not h x hm
theorem qP2 {s : St} {σ : Nat → Nat} {k : Nat} {mi mo : List (Nat × OB)} {ys : List AV} {l : List Nat} (ns : List Nat) (hk : mi.all (fun p => Nat.ble (p.1 + 1) k) = true) (hl : AV.lives (lk mi) ys) (ho : ciO s σ (lk mi) mi)
  (h1 : nodupB (mo.map (·.1)) = true) (h2 : nodupB (mo.map fun p => σ p.1) = true) (h3 : mo.map (·.1) = mi.map (·.1) ++ ns) (h4 : noneAll s.obj (ns.map σ)) (h5 : l.all (fun c => mi.all fun p => !Nat.beq (σ p.1) c) = true) : CallIn s σ k mi mo ys l := by
 have n1 := qF2 h1
 have n2 := qF2 h2
 have key : ∀ p ∈ mi,∃ x,(p.1,x) ∈ mo := by
  intro p hp
  have : p.1 ∈ mo.map (·.1) := by rw [h3]; exact List.mem_append.2 (.inl (List.mem_map.2 ⟨p,hp,rfl⟩))
  obtain ⟨q,hq,e⟩ := List.mem_map.1 this
  exact ⟨q.2,by rw [← e]; exact hq⟩
 refine ⟨fun p hp => Nat.le_of_ble_eq_true (List.all_eq_true.1 hk p hp),hl,fun p hp => ciO_mem ho hp,fun p hp q hq e => ?_,fun c hc p hp e => ?_,n1,n2,key,fun p hp hn => ?_⟩
 ·obtain ⟨x,hx⟩ := key p hp
  obtain ⟨y,hy⟩ := key q hq
  have e2 : ((p.1,x) : Nat × OB) = (q.1,y) := map_inj_mem (g := fun p : Nat × OB => σ p.1) n2 hx hy e
  exact (Prod.mk.inj e2).1
 ·have := List.all_eq_true.1 (List.all_eq_true.1 h5 c hc) p hp
  rw [e] at this
  simp at this
 ·have hm : p.1 ∈ mo.map (·.1) := List.mem_map.2 ⟨p,hp,rfl⟩
  rw [h3] at hm
  rcases List.mem_append.1 hm with hm | hm
  ·obtain ⟨q,hq,e⟩ := List.mem_map.1 hm
   exact absurd (by rw [← e]; exact hq) (lk_none_not hn q.2)
  ·exact q04 h4 _ (List.mem_map.2 ⟨_,hm,rfl⟩)
end Go.Val
set_option linter.unusedSectionVars false
set_option linter.unusedVariables false
set_option linter.unusedSimpArgs false
namespace Go.Val
open Go.RowKit
variable [Drw]
theorem Hand.bs {s : St} {oin : Nat → Option OB} {σ : Nat → Nat} {o k m n c : Nat} (h : σ o = k) : Hand s oin σ (.bsl k m n c) (.bsl o m n c) false [] := by subst h; exact .same (y := .bsl o m n c)
section
variable {P : Program} {N : Nat × Nat} {ops : Array Oper} {i : Nat} {s : St} {d : Nat} {ty : TypeId} {pos : String} {af : Array Edge} {g : Option (Nat × Bool)} {gs : List Nat}
theorem resCT {fn : Func} {t o T n u : Nat} {x y : AV} {b : Bool} (h : fn.results = #[.cell t T,.tmp u]) (hx : s.slot t = some (.ptr o 0)) (hob : s.obj o = some (.box x)) (hT : TA P T b n) (hb : x.isAgg = b) (hn : x.size = n) (hy : s.slot u = some y) : ResOk P fn s (.tup [x,y]) := by
 intro cx a E hR
 subst hb; subst hn
 obtain ⟨cs,h1,h2⟩ := hR.slots t _ hx
 obtain ⟨c2,k1',e2⟩ := hR.slots u y hy
 cases h1 with
 | ptr k1 kb k2 =>
  obtain ⟨b',zs,e,q1,q2,q3,q4⟩ := hR.objs _ _ hob
  rw [k2] at q1; cases q1
  have hall : CellsAt E.w _ 0 zs := caB (sp := []) (by rw [List.append_nil]; exact q4)
  have hl := qo1 (P := P) (w := E.w) (by rw [q2.len]; exact hT) hall (fun ha => qk2 q2 ha)
  refine ⟨.tuple #[mkV x.isAgg zs,a.tmps.getD u undef],?_,_,.tup (.cons q2 (.cons k1' .nil)),by rw [e2]; rfl⟩
  have e1 : a.tmps.getD t undef = .pointer (some ⟨_,0,none⟩) := h2
  simp only [results,h,List.mapM_toArray,List.mapM_cons,List.mapM_nil,Sem.run_bind,Sem.run_map,e1,asAddr,Sem.run_pure,Result.andThen,hl]
  rfl
end
end Go.Val
namespace Go.Val
section
variable [Drw] {P : Program} {N : Nat × Nat} {ops : Array Oper} {i : Nat} {s : St} {d : Nat} {ty : TypeId} {pos : String} {af : Array Edge}
theorem Chain.c {n : Nat} {s s' : St} {r : SR} {l : List (Nat × SR)} (h : Valid P N ops n r s) (c : Chain P N ops (n + 1) (r.apply s) l s') : Chain P N ops n s ((n,r) :: l) s' := .cons h c
theorem ChainA.c {Φ : St → Prop} {n : Nat} {s : St} {r : SR} (hv : Valid P N ops n r s) (hs : ChainA P N ops Φ (n + 1) (r.apply s)) : ChainA P N ops Φ n s := .cons hv hs
theorem sJ {α : Type} {a b : α} (h : some a = some b) : b = a := (Option.some.inj h).symm
theorem pk2 {α β : Type} {a a' : α} {b b' : β} (h : (a,b) = (a',b')) : a = a' ∧ b = b' := ⟨congrArg Prod.fst h,congrArg Prod.snd h⟩
theorem uM {x : Operand} {y : AV} (h : (ops[i]?,Nat.ble (d + 1) N.1,s.val x) = (some ⟨some d,.move x,ty,pos,af,none⟩,true,some y)) : Valid P N ops i ⟨[] ++ opT x,[],some (d,some y),[]⟩ s :=
 o_mv (pk2 h).1 (pk2 (pk2 h).2).1 .no (pk2 (pk2 h).2).2
theorem uA {x : Operand} {y : AV} (h : (ops[i]?,Nat.ble (d + 1) N.1,s.val x) = (some ⟨some d,.assign x,ty,pos,af,none⟩,true,some y)) : Valid P N ops i ⟨[] ++ opT x,[],some (d,some y),[]⟩ s :=
 o_as (pk2 h).1 (pk2 (pk2 h).2).1 .no (pk2 (pk2 h).2).2
theorem uB {op : BinOp} {T T' : TypeId} {x z : Operand} {u v r : Value} (h : (ops[i]?,Nat.ble (d + 1) N.1,s.val x,s.val z) = (some ⟨some d,.binOp op T x z T',ty,pos,af,none⟩,true,some (.d (.v u)),some (.d (.v v))))
  (hr : ∀ w,(eqGuard op T x z u v >>= fun _ => binOp op T u v : Sem Value).run P w = .ok r w) (h1 : one r = true) : Valid P N ops i ⟨[] ++ (opT x ++ opT z),[],some (d,some (.d (.v r))),[]⟩ s :=
 qj (pk2 h).1 (pk2 (pk2 h).2).1 .no (pk2 (pk2 (pk2 h).2).2).1 (pk2 (pk2 (pk2 h).2).2).2 hr h1
theorem uN {j dj : Nat} {want b : Bool} {op : Op} (h : (ops[i]?,Nat.ble (d + 1) N.1) = (some ⟨some d,op,ty,pos,af,some (j,want)⟩,true)) (h' : ((ops[j]?).bind (·.dst),s.slot dj) = (some dj,some (.d (.v (.bool b))))) (hb : b = !want) : Valid P N ops i ⟨[dj],[],some (d,some (.tup [])),[]⟩ s :=
 qh (pk2 h).1 (pk2 h).2 (pk2 h').1 (pk2 h').2 hb
theorem uL {T : TypeId} {x : Operand} {o m : Nat} {z y : AV} {b : Bool} {n : Nat} (p : List Nat) (h : (ops[i]?,Nat.ble (d + 1) N.1,s.val x,s.obj o,AV.get p z) = (some ⟨some d,.load T x,ty,pos,af,none⟩,true,some (.ptr o m),some (.box z),some (y,m)))
  (hT : TA P T b n) (hb : (y.isAgg,y.size) = (b,n)) : Valid P N ops i ⟨[] ++ opT x,[o],some (d,some y),[]⟩ s :=
 qA p (pk2 h).1 (pk2 (pk2 h).2).1 .no (pk2 (pk2 (pk2 h).2).2).1 (pk2 (pk2 (pk2 (pk2 h).2).2).2).1 (pk2 (pk2 (pk2 (pk2 h).2).2).2).2 hT (pk2 hb).1 (pk2 hb).2
theorem uF {S f off n : Nat} {x : Operand} {o m : Nat} (h : (ops[i]?,Nat.ble (d + 1) N.1,s.val x) = (some ⟨some d,.fieldAddr S x f,ty,pos,af,none⟩,true,some (.ptr o m))) (hf : fldB P S f = some (off,n)) (hn : Nat.beq n 0 = false) :
  Valid P N ops i ⟨[] ++ opT x,[],some (d,some (.ptr o (m + off))),[]⟩ s :=
 qn (pk2 h).1 (pk2 (pk2 h).2).1 .no (pk2 (pk2 h).2).2 hf (fun e => by rw [e] at hn; cases hn)
theorem uS {T : TypeId} {x v : Operand} {o m : Nat} {z y y' : AV} {n : Nat} (p : List Nat) (h : (ops[i]?,s.val x,s.val v,s.obj o,AV.get p z,y'.plain) = (some ⟨none,.store T x v,ty,pos,af,none⟩,some (.ptr o m),some y',some (.box z),some (y,m),true))
  (hT : szB P T = some n) (hn : (y'.size,y.size) = (n,n)) : Valid P N ops i ⟨[] ++ (opT x ++ opT v),[o],none,[(o,.box (AV.put p z y'))]⟩ s :=
 o_st p (pk2 h).1 .no (pk2 (pk2 h).2).1 (pk2 (pk2 (pk2 h).2).2).1 (pk2 (pk2 (pk2 (pk2 h).2).2).2).1 (pk2 (pk2 (pk2 (pk2 (pk2 h).2).2).2).2).1 (pk2 (pk2 (pk2 (pk2 (pk2 h).2).2).2).2).2 hT (pk2 hn).1 (pk2 hn).2
theorem uE {x : Operand} {k : Nat} {l : List AV} {y : AV} (h : (ops[i]?,Nat.ble (d + 1) N.1,s.val x,l[k]?) = (some ⟨some d,.extract x k,ty,pos,af,none⟩,true,some (.tup l),some y)) : Valid P N ops i ⟨[] ++ opT x,[],some (d,some y),[]⟩ s :=
 qc1 (pk2 h).1 (pk2 (pk2 h).2).1 .no (pk2 (pk2 (pk2 h).2).2).1 (pk2 (pk2 (pk2 h).2).2).2
theorem uT {T : TypeId} {x : Operand} {b : Bool} (h : (ops[i]?,Nat.ble (d + 1) N.1,s.val x) = (some ⟨some d,.unOp .not T x,ty,pos,af,none⟩,true,some (.d (.v (.bool b))))) : Valid P N ops i ⟨[] ++ opT x,[],some (d,some (.d (.v (.bool (!b))))),[]⟩ s :=
 qo5 (pk2 h).1 (pk2 (pk2 h).2).1 .no (pk2 (pk2 h).2).2
theorem uP {x : Operand} {o n : Nat} (h : (ops[i]?,Nat.ble (d + 1) N.1,s.val x) = (some ⟨some d,.nilCheck x,ty,pos,af,none⟩,true,some (.ptr o n))) : Valid P N ops i ⟨[] ++ opT x,[],some (d,some (.ptr o n)),[]⟩ s :=
 qX0 (pk2 h).1 (pk2 (pk2 h).2).1 .no (pk2 (pk2 h).2).2
theorem uPT {c x z : Operand} {b : Bool} {y : AV} (h : (ops[i]?,Nat.ble (d + 1) N.1,s.val c,s.val x) = (some ⟨some d,.pick c x z,ty,pos,af,none⟩,true,some (.d (.v (.bool b))),some y)) (hb : b = true) : Valid P N ops i ⟨[] ++ (opT c ++ opT x),[],some (d,some y),[]⟩ s :=
 qi (pk2 h).1 (pk2 (pk2 h).2).1 .no (pk2 (pk2 (pk2 h).2).2).1 hb (pk2 (pk2 (pk2 h).2).2).2
theorem uPF {c x z : Operand} {b : Bool} {y : AV} (h : (ops[i]?,Nat.ble (d + 1) N.1,s.val c,s.val z) = (some ⟨some d,.pick c x z,ty,pos,af,none⟩,true,some (.d (.v (.bool b))),some y)) (hb : b = false) : Valid P N ops i ⟨[] ++ (opT c ++ opT z),[],some (d,some y),[]⟩ s :=
 qg (pk2 h).1 (pk2 (pk2 h).2).1 .no (pk2 (pk2 (pk2 h).2).2).1 hb (pk2 (pk2 (pk2 h).2).2).2
theorem uX {T : TypeId} {x : Operand} {y : AV} (o : Nat) (h : (ops[i]?,Nat.ble (d + 1) N.1,s.val x,y.plain,s.obj o) = (some ⟨some d,.box T x,ty,pos,af,none⟩,true,some y,true,none)) : Valid P N ops i ⟨[] ++ opT x,[o],some (d,some (.ptr o 0)),[(o,.box y)]⟩ s :=
 qi3 o (pk2 h).1 (pk2 (pk2 h).2).1 .no (pk2 (pk2 (pk2 h).2).2).1 (pk2 (pk2 (pk2 (pk2 h).2).2).2).1 (pk2 (pk2 (pk2 (pk2 h).2).2).2).2
end
theorem wD {s s' : St} {t : Nat} {x : D} (h : s.slot t = some (.d x)) : ∃ y,s.slot t = some y ∧ Conv s s' y (.d x) := ⟨_,h,.d rfl⟩
end Go.Val
set_option linter.unusedSectionVars false
set_option linter.unusedVariables false
set_option linter.unusedSimpArgs false
namespace Go.Val
open Go.RowKit
section
variable [Drw] {P : Program} {N : Nat × Nat} {ops : Array Oper} {i : Nat} {s : St} {d : Nat} {ty : TypeId} {pos : String} {af : Array Edge} {g : Option (Nat × Bool)} {gs : List Nat}
theorem Hand.re {s : St} {oin : Nat → Option OB} {σ : Nat → Nat} {x y : AV} (h : y.ren σ = x) : Hand s oin σ x y false [] := by subst h; exact .same
theorem lives_app {f : Nat → Option OB} : ∀ {xs ys : List AV},AV.lives f (xs ++ ys) → AV.lives f xs ∧ AV.lives f ys
 | [],_,h => ⟨trivial,h⟩
 | _ :: xs,_,h => ⟨⟨h.1,(lives_app (xs := xs) h.2).1⟩,(lives_app (xs := xs) h.2).2⟩
theorem VRs.app {E : Env} : ∀ {xs ys : List AV} {us vs : List Value},VRs E xs us → VRs E ys vs → VRs E (xs ++ ys) (us ++ vs)
 | _,_,_,_,.nil,k => k
 | _,_,_,_,.cons h hs,k => .cons h (VRs.app hs k)
theorem o_fn2 {f : FuncId} {x z : Operand} {y u : AV} (ho : ops[i]? = some ⟨some d,.makeFunc (.func f) #[] #[x,z],ty,pos,af,g⟩) (hd : Nat.ble (d + 1) N.1 = true) (hg : G ops s g gs) (hx : s.val x = some y) (hz : s.val z = some u) :
  Valid P N ops i ⟨gs ++ (opT x ++ opT z),[],some (d,some (.fn f [] [y,u])),[]⟩ s :=
 vPu ho hd hg fun s' hs cx a E hR => by
  obtain ⟨hs1,hs2⟩ := qg0 hs
  obtain ⟨c,h1,h2⟩ := hR.val ((vAg hs1).trans hx)
  obtain ⟨c',h1',h2'⟩ := hR.val ((vAg hs2).trans hz)
  refine ⟨.func (.func f) #[] #[a.eval x,a.eval z],?_,_,.fn (xs := []) (ys := [a.eval x,a.eval z]) .nil (by rw [h2,h2']; exact .cons h1 (.cons h1' .nil)),rfl⟩
  simp [execOp,Instr.makeFunc]
theorem hos_fvalC {dd : Option Nat} {f : FuncId} {fn : Func} {q : Operand} {as : Array Operand} {ats : Array TypeId} {cs : List Value} (hf : P.funcs[f]? = some fn) (hnm : (fn.name == "runtime.NumGoroutine") = false) (hbd : fn.body.isNone = false) (a : Act) (w : World)
  (hq : a.eval q = .func (.func f) #[] cs.toArray) : (execOp a.eval ⟨dd,.call ⟨.value q,as,ats⟩,ty,pos,af,g⟩).run P w = .ok (.enter f (as.toList.map a.eval ++ cs).toArray) w := by
 simp only [execOp,resolve,Sem.run_bind,Sem.run_pure,Result.andThen,hq,Deferred.ofValue,invoke,callFunc,run_program,hf,hnm,hbd,Bool.false_eq_true,if_false]
 congr 2
 apply Array.ext'
 simp
theorem o_callVX {f : FuncId} {fn : Func} {q : Operand} {as : List Operand} {ats : Array TypeId} {b : Bool} {k : Nat} {mi mo : List (Nat × OB)} {ys zs zs' : List AV} {l : List Nat} {res : AV} (σ : Nat → Nat)
  (ho : ops[i]? = some ⟨some d,.call ⟨.value q,as.toArray,ats⟩,ty,pos,af,g⟩) (hd : Nat.ble (d + 1) N.1 = true) (hg : G ops s g gs)
  (hq : s.val q = some (.fn f [] zs')) (hz : AV.rens σ zs = zs')
  (hf : P.funcs[f]? = some fn) (hnm : (fn.name == "runtime.NumGoroutine") = false) (hbd : fn.body.isNone = false) (hF : FnOk P f (ys ++ zs) k (lk mi) (fun r oo => r = res ∧ oo = lk mo))
  (hh : Hands s (lk mi) σ as ys b l) (hC : CallIn s σ k mi mo (ys ++ zs) l) (hflat : b = false ∨ (res.flat ∧ ∀ p ∈ mo,p.2.flat)) :
  Valid P N ops i ⟨gs ++ (opT q ++ q03 as),l ++ mo.map (fun p => σ p.1),some (d,some (res.ren σ)),mo.map fun p => (σ p.1,p.2.ren σ)⟩ s := by
 subst hz
 refine qa5 (dd := some d) σ ho (fun _ e => by cases e; exact Nat.le_of_ble_eq_true hd) hg (fun s' cx a E Ec hn hfs hfo hR hS hE hJ hp => ?_) hF hC hflat
 obtain ⟨cs,h1,h2⟩ := hR.val ((vAg fun t ht => hfs t (List.mem_append.2 (.inl ht))).trans hq)
 cases h1 with
 | fn k1 k2 =>
  rename_i xs cv
  cases k1
  have e : a.eval q = .func (.func f) #[] cv.toArray := h2
  have hl := lives_app hC.live
  have hv := Hands.vals hR hS hE hh (fun t ht => hfs t (List.mem_append.2 (.inr ht))) hfo hl.1 hJ hp
  refine ⟨as.map a.eval ++ cv,?_,VRs.app hv (VRs.unren hS zs (by rw [hE]; exact hl.2) k2)⟩
  have := hos_fvalC (P := P) (dd := some d) (as := as.toArray) (ats := ats) (ty := ty) (pos := pos) (af := af) (g := g) hf hnm hbd a E.w e
  simpa using this
theorem o_invD {f : FuncId} {fn : Func} {q : Operand} {name : String} {t : Nat} {x : AV} {as : List Operand} {ats : Array TypeId} {b : Bool} {k : Nat} {mi mo : List (Nat × OB)} {ys : List AV} {l : List Nat} {res : AV} (σ : Nat → Nat)
  (ho : ops[i]? = some ⟨some d,.call ⟨.invoke q name,as.toArray,ats⟩,ty,pos,af,g⟩) (hd : Nat.ble (d + 1) N.1 = true) (hg : G ops s g gs)
  (hq : s.val q = some (.ifc t x)) (hf : P.funcs[f]? = some fn) (hnm : (fn.name == "runtime.NumGoroutine") = false) (hbd : fn.body.isNone = false)
  (hm : ∀ (v : Value) w,Sem.run P (Go.method (P.types.size + Made.depth) t v name) w = Result.ok (f,v) w) (hF : FnOk P f ys k (lk mi) (fun r oo => r = res ∧ oo = lk mo))
  (hh : Hands (s.put d x) (lk mi) σ (.tmp d :: as) ys b l) (hnd : (q03 as).contains d = false) (hC : CallIn s σ k mi mo ys l) (hflat : b = false ∨ (res.flat ∧ ∀ p ∈ mo,p.2.flat)) :
  Valid P N ops i ⟨gs ++ (opT q ++ q03 as),l ++ mo.map (fun p => σ p.1),some (d,some (res.ren σ)),mo.map fun p => (σ p.1,p.2.ren σ)⟩ s := by
 refine qa5 (dd := some d) σ ho (fun _ e => by cases e; exact Nat.le_of_ble_eq_true hd) hg (fun s' cx a E Ec hn hfs hob hR hS hEc hJ hp => ?_) hF hC hflat
 obtain ⟨hf1,hf2⟩ := qg0 hfs
 obtain ⟨cs,h1,h2⟩ := hR.val ((vAg hf1).trans hq)
 cases h1 with
 | ifc h1 =>
  rename_i c0
  have e : a.eval q = .iface t (mkV x.isAgg c0) := h2
  have hdN : d < cx.nk.1 := by rw [hn]; exact Nat.le_of_ble_eq_true hd
  have hR' := hR.put (d := d) (x := x) ⟨c0,h1,rfl⟩ hdN
  have hnd' : ∀ t ∈ q03 as,t ≠ d := by
   intro t ht e
   subst e
   have := List.contains_iff_mem.2 ht
   rw [hnd] at this
   cases this
  have hslots : ∀ t ∈ q03 (.tmp d :: as),(s'.put d x).slot t = (s.put d x).slot t := by
   intro t ht
   simp only [St.put,qW0]
   by_cases htd : t = d
   ·simp [htd]
   ·rw [if_neg htd,if_neg htd]
    refine hf2 t ?_
    simp only [q03,List.flatMap_cons,List.mem_append] at ht
    rcases ht with ht | ht
    ·simp [opT] at ht; exact absurd ht htd
    ·exact ht
  have hlv : AV.lives (lk mi) ys := hC.live
  have hv := Hands.vals hR' hS hEc hh hslots hob hlv hJ hp
  have heval : ∀ o ∈ as,(a.put (some d) (mkV x.isAgg c0)).eval o = a.eval o := by
   intro o ho'
   cases o with
   | tmp t =>
    have ht : t ≠ d := hnd' t (List.mem_flatMap.2 ⟨.tmp t,ho',by simp [opT]⟩)
    show (a.put (some d) _).tmps.getD t undef = a.tmps.getD t undef
    rw [qY4 _ _ _ _ (by rw [hR.size]; exact hdN),if_neg ht]
   | _ => rfl
  have hd0 : (a.put (some d) (mkV x.isAgg c0)).eval (.tmp d) = mkV x.isAgg c0 := by
   show (a.put (some d) _).tmps.getD d undef = _
   rw [qY4 _ _ _ _ (by rw [hR.size]; exact hdN),if_pos rfl]
  rw [List.map_cons,hd0,List.map_congr_left heval] at hv
  refine ⟨_,?_,hv⟩
  generalize mkV x.isAgg c0 = pv at e hv ⊢
  simp only [execOp,resolve,Sem.run_bind,Sem.run_pure,Result.andThen,e,invoke]
  have e0 : (#[Value.iface t pv] ++ Array.map a.eval as.toArray)[0]? = some (Value.iface t pv) := by simp
  have e1 : (#[Value.iface t pv] ++ Array.map a.eval as.toArray).extract 1 (#[Value.iface t pv] ++ Array.map a.eval as.toArray).size = (as.map a.eval).toArray := by
   apply Array.ext'
   simp [List.take_of_length_le]
  simp only [e0,e1,callMethod,Sem.run_bind,run_program,Result.andThen,hm,callFunc,hf,hnm,hbd,Bool.false_eq_true,if_false,Sem.run_pure]
  congr 2
  apply Array.ext'
  simp
end
end Go.Val
set_option linter.unusedSectionVars false
set_option linter.unusedVariables false
set_option linter.unusedSimpArgs false
namespace Go.Val
open Go.RowKit
inductive Fr where
 | mk (level : Int) (pairs : List (List UInt8 × ByteArray)) (kids : List (List UInt8 × Int × Option Fr)) : Fr
mutual
def eFr : Fr → D
 | .mk l ps ks => .st [.v (.int .i64 l),.sl 25 (ps.map fun p => .st [.bs 24 p.1,.v (.string p.2)]),.sl 26 (eFks ks)]
def eFks : List (List UInt8 × Int × Option Fr) → List D
 | [] => []
 | (k,b,f) :: t => .st [.bs 24 k,.v (.int .i64 b),eFo f] :: eFks t
def eFo : Option Fr → D
 | none => .v (.pointer none)
 | some f => .at (eFr f)
end
theorem eFks_map : ∀ ks : List (List UInt8 × Int × Option Fr),eFks ks = ks.map fun p => .st [.bs 24 p.1,.v (.int .i64 p.2.1),eFo p.2.2]
 | [] => by rw [eFks]; rfl
 | (k,b,f) :: t => by rw [eFks,eFks_map t]; rfl
def frMk (x : Int × List (List UInt8 × ByteArray) × List (List UInt8 × Int × Option Fr)) : Fr := .mk x.1 x.2.1 x.2.2
def frOf : Option Fr → Option (Int × List (List UInt8 × ByteArray) × List (List UInt8 × Int × Option Fr))
 | none => none
 | some (.mk a b c) => some (a,b,c)
theorem eFo_none : eFo none = .v (.pointer none) := by rw [eFo]
theorem eFo_mk (x : Int × List (List UInt8 × ByteArray) × List (List UInt8 × Int × Option Fr)) : eFo (some (frMk x)) = .at (.st [.v (.int .i64 x.1),.sl 25 (x.2.1.map fun p => .st [.bs 24 p.1,.v (.string p.2)]),.sl 26 (x.2.2.map fun p => .st [.bs 24 p.1,.v (.int .i64 p.2.1),eFo p.2.2])]) := by
 rw [eFo,frMk,eFr,eFks_map]
theorem qr2 {e : Option Fr} {x : Int × List (List UInt8 × ByteArray) × List (List UInt8 × Int × Option Fr)} (h : frOf e = some x) : eFo e = .at (.st [.v (.int .i64 x.1),.sl 25 (x.2.1.map fun p => .st [.bs 24 p.1,.v (.string p.2)]),.sl 26 (x.2.2.map fun p => .st [.bs 24 p.1,.v (.int .i64 p.2.1),eFo p.2.2])]) := by
 match e,h with
 | some (.mk a b c),h =>
  have h' : (a,b,c) = x := Option.some.inj h
  subst h'
  exact eFo_mk (a,b,c)
theorem eFo_agg : ∀ e : Option Fr,(eFo e).isAgg = false
 | none => by rw [eFo]; rfl
 | some f => by rw [eFo]; rfl
theorem eFo_size : ∀ e : Option Fr,(eFo e).size = 1
 | none => by rw [eFo]; rfl
 | some f => by rw [eFo]; rfl
section
variable [Drw] {P : Program} {N : Nat × Nat} {ops : Array Oper} {i : Nat} {s : St} {d : Nat} {ty : TypeId} {pos : String} {af : Array Edge} {g : Option (Nat × Bool)} {gs : List Nat}
theorem o_boxAt {T : TypeId} {x : Operand} {y : D} (ho : ops[i]? = some ⟨some d,.box T x,ty,pos,af,g⟩) (hd : Nat.ble (d + 1) N.1 = true) (hg : G ops s g gs) (hx : s.val x = some (.d y)) :
  Valid P N ops i ⟨gs ++ opT x,[],some (d,some (.d (.at y))),[]⟩ s :=
 vCo ho rfl hd hg fun s' hs _ cx a E _ hR => by
  obtain ⟨cs,h1,h2⟩ := hR.val ((vAg hs).trans hx)
  cases h1 with
  | d h1 =>
   let E' : Env := { E with w := E.w.alloc (.cells cs.toArray T) }
   have he := ext_alloc E (.cells cs.toArray T)
   refine ⟨.pointer (some ⟨E.w.heap.size,0,none⟩),E',?_,?_,q53 (hR.alloc _)⟩
   ·have : (a.eval x).cells = cs.toArray := by rw [h2]; exact h1.mkV_cells
    simp only [execOp,Instr.box,newVar,newRow,this,Sem.run_bind,Sem.run_pure,Result.andThen]
    rfl
   ·have hI : E'.I E.w.heap.size := hR.newI _ (Nat.le_refl _)
    have hb : E'.w.heap[E.w.heap.size]? = some (.cells (cs ++ []).toArray T (0,0)) := by rw [List.append_nil]; exact qj3 _ _
    exact ⟨_,.d (.at hI (by simp [E']) (h1.mono he.hz he.imm) (caB hb)),rfl⟩
theorem o_boxFr {T : TypeId} {x : Operand} {y z : D} (ho : ops[i]? = some ⟨some d,.box T x,ty,pos,af,g⟩) (hd : Nat.ble (d + 1) N.1 = true) (hg : G ops s g gs) (hx : s.val x = some (.d y)) (hz : z = .at y) :
  Valid P N ops i ⟨gs ++ opT x,[],some (d,some (.d z)),[]⟩ s := by subst hz; exact o_boxAt ho hd hg hx
theorem qp2 {x : Operand} {y z : D} (ho : ops[i]? = some ⟨some d,.nilCheck x,ty,pos,af,g⟩) (hd : Nat.ble (d + 1) N.1 = true) (hg : G ops s g gs) (hx : s.val x = some (.d z)) (hz : z = .at y) :
  Valid P N ops i ⟨gs ++ opT x,[],some (d,some (.d (.at y))),[]⟩ s := by subst hz; exact o_nilA ho hd hg hx
theorem eqIn_pnil0 {T e : TypeId} (hT : P.underlying T = some (.pointer e)) (n : Nat) (w : World) : (Op.equalIn (n + 1) T (.pointer none) (.pointer none)).run P w = .ok true w := by
 unfold Op.equalIn
 rw [Sem.run_bind,run_underlying hT]
 rfl
theorem run_pcmp {T E0 : TypeId} (hT : P.underlying T = some (.pointer E0)) {x : Operand} {T' : TypeId} {a : Act} {q : Option Addr} {E : Env} (hx : a.eval x = .pointer q) {dd : Option Nat} (neq : Bool) :
  (execOp a.eval ⟨dd,.binOp (bif neq then .neq else .eql) T x (.const (.pointer none)) T',ty,pos,af,g⟩).run P E.w = .ok (.value (.bool (bif neq then q.isSome else q.isNone))) E.w := by
 have hq : ∀ b w,(Op.equalIn Op.maxDepth T (.pointer (some b)) (.pointer none)).run P w = .ok false w := fun b w => eqIn_pnil hT 9999 b w
 have hq0 : ∀ w,(Op.equalIn Op.maxDepth T (.pointer none) (.pointer none)).run P w = .ok true w := fun w => eqIn_pnil0 hT 9999 w
 simp only [execOp,hx]
 cases neq <;> cases q <;> simp [eqGuard,binOp,Op.equal,hq,hq0,Act.eval,Result.andThen]
theorem o_pO {T T' E0 : TypeId} {x : Operand} {e : Option Fr} {z : D} (neq : Bool) (ho : ops[i]? = some ⟨some d,.binOp (bif neq then .neq else .eql) T x (.const (.pointer none)) T',ty,pos,af,g⟩) (hd : Nat.ble (d + 1) N.1 = true) (hg : G ops s g gs)
  (hx : s.val x = some (.d z)) (hz : z = eFo e) (hT : P.underlying T = some (.pointer E0)) :
  Valid P N ops i ⟨gs ++ opT x,[],some (d,some (.d (.v (.bool (bif neq then e.isSome else e.isNone))))),[]⟩ s :=
 vPu ho hd hg fun s' hs cx a E hR => by
  subst hz
  have h0 := hR.val ((vAg hs).trans hx)
  cases e with
  | none =>
   rw [eFo] at h0
   exact ⟨_,run_pcmp hT h0.sc neq,.of_sc (by cases neq <;> rfl)⟩
  | some f =>
   rw [eFo] at h0
   obtain ⟨cs,h1,h2⟩ := h0
   cases h1 with
   | d h1 => cases h1 with
    | «at» => exact ⟨_,run_pcmp hT h2 neq,.of_sc (by cases neq <;> rfl)⟩
theorem o_ixPc {T e len : Nat} {x z : Operand} {o m : Nat} {k : IntKind} {n : Int} (c : Nat) (ho : ops[i]? = some ⟨some d,.indexAddr T x z,ty,pos,af,g⟩) (hd : Nat.ble (d + 1) N.1 = true) (hg : G ops s g gs)
  (hx : s.val x = some (.ptr o m)) (hz : s.val z = some (.d (.v (.int k n)))) (hT : arB P T = some (len,e)) (he : szB P e = some 1) (hn : 0 ≤ n ∧ n < len) (hc : n.toNat = c) :
  Valid P N ops i ⟨gs ++ (opT x ++ opT z),[],some (d,some (.ptr o (m + c))),[]⟩ s := by subst hc; exact o_ixP ho hd hg hx hz hT he hn
theorem ixc0 {n : Int} (h : decide (n = 0) = true) (_ : 0 ≤ n ∧ n < 2) : n.toNat = 0 := by have := of_decide_eq_true h; omega
theorem ixc1 {n : Int} (h : decide (n = 0) = false) (_ : 0 ≤ n ∧ n < 2) : n.toNat = 1 := by have := of_decide_eq_false h; omega
theorem resCTT {fn : Func} {t o T n u v : Nat} {x y z : AV} {b : Bool} (h : fn.results = #[.cell t T,.tmp u,.tmp v]) (hx : s.slot t = some (.ptr o 0)) (hob : s.obj o = some (.box x)) (hT : TA P T b n) (hb : x.isAgg = b) (hn : x.size = n) (hy : s.slot u = some y) (hz : s.slot v = some z) : ResOk P fn s (.tup [x,y,z]) := by
 intro cx a E hR
 subst hb; subst hn
 obtain ⟨cs,h1,h2⟩ := hR.slots t _ hx
 obtain ⟨c2,k1',e2⟩ := hR.slots u y hy
 obtain ⟨c3,k3',e3⟩ := hR.slots v z hz
 cases h1 with
 | ptr k1 kb k2 =>
  obtain ⟨b',zs,e,q1,q2,q3,q4⟩ := hR.objs _ _ hob
  rw [k2] at q1; cases q1
  have hall : CellsAt E.w _ 0 zs := caB (sp := []) (by rw [List.append_nil]; exact q4)
  have hl := qo1 (P := P) (w := E.w) (by rw [q2.len]; exact hT) hall (fun ha => qk2 q2 ha)
  refine ⟨.tuple #[mkV x.isAgg zs,a.tmps.getD u undef,a.tmps.getD v undef],?_,_,.tup (.cons q2 (.cons k1' (.cons k3' .nil))),by rw [e2,e3]; rfl⟩
  have e1 : a.tmps.getD t undef = .pointer (some ⟨_,0,none⟩) := h2
  simp only [results,h,List.mapM_toArray,List.mapM_cons,List.mapM_nil,Sem.run_bind,Sem.run_map,e1,asAddr,Sem.run_pure,Result.andThen,hl]
  rfl
end
theorem fnOk_forget3 [Drw] {P : Program} {f : FuncId} {args : List AV} {x y y2 : D} {m : List (Nat × OB)} (h : FnOk P f args 0 (lk []) (fun rr oo => rr = .tup [.d x,.d y,.d y2] ∧ oo = lk m)) : FnOk P f args 0 (lk []) (fun rr oo => rr = .tup [.d x,.d y,.d y2] ∧ oo = lk []) := by
 intro hk E vals hE hok hargs
 refine (h hk E vals hE hok hargs).mono ?_
 rintro e w' ⟨v,res,E',h1,h2,⟨h3,h4⟩,h5,h6,h7,h8,h9,h10⟩
 subst h3
 let E2 : Env := { E' with obj := lk [] }
 have hI : ∀ b,E'.I b → E2.I b := fun b hb => ⟨hb.1,fun o ob (ho : none = some ob) => nomatch ho⟩
 refine ⟨v,.tup [.d x,.d y,.d y2],E2,h1,h2,⟨rfl,rfl⟩,?_,⟨fun o ob (ho : none = some ob) => (nomatch ho),fun o o' b ho => absurd rfl ho⟩,fun o b ho => absurd rfl ho,h8,h9,fun o ob ho => by rw [hE] at ho; exact nomatch (show none = some ob from ho)⟩
 obtain ⟨cs,q1,q2⟩ := h5
 have mono : ∀ {z : D} {c : List Value},CR E' (.d z) c → CR E2 (.d z) c := fun h => by
  cases h with
  | d h => exact .d (h.mono (Nat.le_refl _) (fun b hb _ => ⟨hI b hb,rfl⟩))
 cases q1 with
 | tup k =>
  cases k with
  | cons k1 k2 =>
   cases k2 with
   | cons k3 k4 =>
    cases k4 with
    | cons k5 k6 =>
     cases k6
     exact ⟨_,.tup (.cons (mono k1) (.cons (mono k3) (.cons (mono k5) .nil))),q2⟩
end Go.Val
