/- Steps of a chain and their like,with their facts packed together. -/
import Derived.Test.YthipaajmgfnagaaGreatDoorLc
import Derived.Test.YthipaajmgfnagaaGreatDoorLb
import Derived.RangeFuncOwn
import Derived.OwnWalkIn
import Derived.OrdersIn
import Derived.LoopNIn
import Derived.RangeFuncLeaves
import Derived.Laws.MakeOwn
set_option linter.unusedSectionVars false
set_option linter.unusedVariables false
set_option linter.unusedSimpArgs false
namespace Go.Val
section
variable [Drw] {P : Program} {N : Nat × Nat} {ops : Array Oper} {i : Nat} {s : St} {d : Nat} {ty : TypeId} {pos : String} {af : Array Edge}
theorem Chain.c {n : Nat} {s s' : St} {r : SR} {l : List (Nat × SR)} (h : Valid P N ops n r s) (c : Chain P N ops (n + 1) (r.apply s) l s') : Chain P N ops n s ((n,r) :: l) s' := .cons h c
theorem ChainA.c {Φ : St → Prop} {n : Nat} {s : St} {r : SR} (hv : Valid P N ops n r s) (hs : ChainA P N ops Φ (n + 1) (r.apply s)) : ChainA P N ops Φ n s := .cons hv hs
theorem sJ {α : Type} {a b : α} (h : some a = some b) : b = a := (Option.some.inj h).symm
theorem pk2 {α β : Type} {a a' : α} {b b' : β} (h : (a,b) = (a',b')) : a = a' ∧ b = b' := ⟨congrArg Prod.fst h,congrArg Prod.snd h⟩
theorem uM {x : Operand} {y : AV} (h : (ops[i]?,Nat.ble (d + 1) N.1,s.val x) = (some ⟨some d,.move x,ty,pos,af,none⟩,true,some y)) : Valid P N ops i ⟨[] ++ opT x,[],some (d,some y),[]⟩ s :=
 o_mv (pk2 h).1 (pk2 (pk2 h).2).1 .no (pk2 (pk2 h).2).2
theorem uA {x : Operand} {y : AV} (h : (ops[i]?,Nat.ble (d + 1) N.1,s.val x) = (some ⟨some d,.assign x,ty,pos,af,none⟩,true,some y)) : Valid P N ops i ⟨[] ++ opT x,[],some (d,some y),[]⟩ s :=
 o_as (pk2 h).1 (pk2 (pk2 h).2).1 .no (pk2 (pk2 h).2).2
theorem uB {op : BinOp} {T T' : TypeId} {x z : Operand} {u v r : Value} (h : (ops[i]?,Nat.ble (d + 1) N.1,s.val x,s.val z) = (some ⟨some d,.binOp op T x z T',ty,pos,af,none⟩,true,some (.d (.v u)),some (.d (.v v))))
  (hr : ∀ w,(eqGuard op T x z u v >>= fun _ => binOp op T u v : Sem Value).run P w = .ok r w) (h1 : one r = true) : Valid P N ops i ⟨[] ++ (opT x ++ opT z),[],some (d,some (.d (.v r))),[]⟩ s :=
 qc (pk2 h).1 (pk2 (pk2 h).2).1 .no (pk2 (pk2 (pk2 h).2).2).1 (pk2 (pk2 (pk2 h).2).2).2 hr h1
theorem uN {j dj : Nat} {want b : Bool} {op : Op} (h : (ops[i]?,Nat.ble (d + 1) N.1) = (some ⟨some d,op,ty,pos,af,some (j,want)⟩,true)) (h' : ((ops[j]?).bind (·.dst),s.slot dj) = (some dj,some (.d (.v (.bool b))))) (hb : b = !want) : Valid P N ops i ⟨[dj],[],some (d,some (.tup [])),[]⟩ s :=
 qg (pk2 h).1 (pk2 h).2 (pk2 h').1 (pk2 h').2 hb
theorem uL {T : TypeId} {x : Operand} {o m : Nat} {z y : AV} {b : Bool} {n : Nat} (p : List Nat) (h : (ops[i]?,Nat.ble (d + 1) N.1,s.val x,s.obj o,AV.get p z) = (some ⟨some d,.load T x,ty,pos,af,none⟩,true,some (.ptr o m),some (.box z),some (y,m)))
  (hT : TA P T b n) (hb : (y.isAgg,y.size) = (b,n)) : Valid P N ops i ⟨[] ++ opT x,[o],some (d,some y),[]⟩ s :=
 ql p (pk2 h).1 (pk2 (pk2 h).2).1 .no (pk2 (pk2 (pk2 h).2).2).1 (pk2 (pk2 (pk2 (pk2 h).2).2).2).1 (pk2 (pk2 (pk2 (pk2 h).2).2).2).2 hT (pk2 hb).1 (pk2 hb).2
theorem uF {S f off n : Nat} {x : Operand} {o m : Nat} (h : (ops[i]?,Nat.ble (d + 1) N.1,s.val x) = (some ⟨some d,.fieldAddr S x f,ty,pos,af,none⟩,true,some (.ptr o m))) (hf : fldB P S f = some (off,n)) (hn : Nat.beq n 0 = false) :
  Valid P N ops i ⟨[] ++ opT x,[],some (d,some (.ptr o (m + off))),[]⟩ s :=
 qf (pk2 h).1 (pk2 (pk2 h).2).1 .no (pk2 (pk2 h).2).2 hf (fun e => by rw [e] at hn; cases hn)
theorem uS {T : TypeId} {x v : Operand} {o m : Nat} {z y y' : AV} {n : Nat} (p : List Nat) (h : (ops[i]?,s.val x,s.val v,s.obj o,AV.get p z,y'.plain) = (some ⟨none,.store T x v,ty,pos,af,none⟩,some (.ptr o m),some y',some (.box z),some (y,m),true))
  (hT : szB P T = some n) (hn : (y'.size,y.size) = (n,n)) : Valid P N ops i ⟨[] ++ (opT x ++ opT v),[o],none,[(o,.box (AV.put p z y'))]⟩ s :=
 o_st p (pk2 h).1 .no (pk2 (pk2 h).2).1 (pk2 (pk2 (pk2 h).2).2).1 (pk2 (pk2 (pk2 (pk2 h).2).2).2).1 (pk2 (pk2 (pk2 (pk2 (pk2 h).2).2).2).2).1 (pk2 (pk2 (pk2 (pk2 (pk2 h).2).2).2).2).2 hT (pk2 hn).1 (pk2 hn).2
theorem uE {x : Operand} {k : Nat} {l : List AV} {y : AV} (h : (ops[i]?,Nat.ble (d + 1) N.1,s.val x,l[k]?) = (some ⟨some d,.extract x k,ty,pos,af,none⟩,true,some (.tup l),some y)) : Valid P N ops i ⟨[] ++ opT x,[],some (d,some y),[]⟩ s :=
 qa0 (pk2 h).1 (pk2 (pk2 h).2).1 .no (pk2 (pk2 (pk2 h).2).2).1 (pk2 (pk2 (pk2 h).2).2).2
theorem uT {T : TypeId} {x : Operand} {b : Bool} (h : (ops[i]?,Nat.ble (d + 1) N.1,s.val x) = (some ⟨some d,.unOp .not T x,ty,pos,af,none⟩,true,some (.d (.v (.bool b))))) : Valid P N ops i ⟨[] ++ opT x,[],some (d,some (.d (.v (.bool (!b))))),[]⟩ s :=
 qn2 (pk2 h).1 (pk2 (pk2 h).2).1 .no (pk2 (pk2 h).2).2
theorem uP {x : Operand} {o n : Nat} (h : (ops[i]?,Nat.ble (d + 1) N.1,s.val x) = (some ⟨some d,.nilCheck x,ty,pos,af,none⟩,true,some (.ptr o n))) : Valid P N ops i ⟨[] ++ opT x,[],some (d,some (.ptr o n)),[]⟩ s :=
 qP1 (pk2 h).1 (pk2 (pk2 h).2).1 .no (pk2 (pk2 h).2).2
theorem uPT {c x z : Operand} {b : Bool} {y : AV} (h : (ops[i]?,Nat.ble (d + 1) N.1,s.val c,s.val x) = (some ⟨some d,.pick c x z,ty,pos,af,none⟩,true,some (.d (.v (.bool b))),some y)) (hb : b = true) : Valid P N ops i ⟨[] ++ (opT c ++ opT x),[],some (d,some y),[]⟩ s :=
 qh (pk2 h).1 (pk2 (pk2 h).2).1 .no (pk2 (pk2 (pk2 h).2).2).1 hb (pk2 (pk2 (pk2 h).2).2).2
theorem uPF {c x z : Operand} {b : Bool} {y : AV} (h : (ops[i]?,Nat.ble (d + 1) N.1,s.val c,s.val z) = (some ⟨some d,.pick c x z,ty,pos,af,none⟩,true,some (.d (.v (.bool b))),some y)) (hb : b = false) : Valid P N ops i ⟨[] ++ (opT c ++ opT z),[],some (d,some y),[]⟩ s :=
 qi (pk2 h).1 (pk2 (pk2 h).2).1 .no (pk2 (pk2 (pk2 h).2).2).1 hb (pk2 (pk2 (pk2 h).2).2).2
theorem uX {T : TypeId} {x : Operand} {y : AV} (o : Nat) (h : (ops[i]?,Nat.ble (d + 1) N.1,s.val x,y.plain,s.obj o) = (some ⟨some d,.box T x,ty,pos,af,none⟩,true,some y,true,none)) : Valid P N ops i ⟨[] ++ opT x,[o],some (d,some (.ptr o 0)),[(o,.box y)]⟩ s :=
 qy1 o (pk2 h).1 (pk2 (pk2 h).2).1 .no (pk2 (pk2 (pk2 h).2).2).1 (pk2 (pk2 (pk2 (pk2 h).2).2).2).1 (pk2 (pk2 (pk2 (pk2 h).2).2).2).2
end
theorem wD {s s' : St} {t : Nat} {x : D} (h : s.slot t = some (.d x)) : ∃ y,s.slot t = some y ∧ Conv s s' y (.d x) := ⟨_,h,.d rfl⟩
end Go.Val
namespace Go.Val
open Go.RowKit
variable [Drw]
section
variable {P : Program} {N : Nat × Nat} {ops : Array Oper} {i : Nat} {s : St} {d : Nat} {ty : TypeId} {pos : String} {af : Array Edge} {g : Option (Nat × Bool)} {gs : List Nat}
theorem drs_u8 {I : Nat → Prop} {w : World} : ∀ l : List UInt8,DRs I w (l.map fun b => D.v (u8v b)) (l.map u8v)
 | [] => .nil
 | y :: l => DRs.cons (cs := [u8v y]) (.v rfl) (drs_u8 l)
theorem o_slAt {T e n : Nat} {x : Operand} {l : List UInt8} (ho : ops[i]? = some ⟨some d,.slice T x none none none,ty,pos,af,g⟩) (hd : Nat.ble (d + 1) N.1 = true) (hg : G ops s g gs)
  (hx : s.val x = some (.d (.at (.bs n l)))) (hT : arB P T = some (n,e)) (hS : szB P e = some 1) (h0 : 0 < n) :
  Valid P N ops i ⟨gs ++ opT x,[],some (d,some (.d (qS3 l))),[]⟩ s :=
 vPu ho hd hg fun s' hs cx a E hR => by
  obtain ⟨cs,k1,k2⟩ := hR.val ((vAg hs).trans hx)
  have hb := qb2 (P := P) (w := E.w) (b := false) (len := n) (cap := n) (low := none) (high := none) (lv := 0) (hv := n) (Or.inl ⟨rfl,rfl⟩) (Or.inl ⟨rfl,rfl⟩) (Nat.zero_le _) (Nat.le_refl _)
  cases k1 with
  | d k1 =>
   cases k1 with
   | «at» q1 q2 q3 q4 =>
    rename_i b off cs
    cases q3 with
    | bs hl =>
     have e1 : a.eval x = .pointer (some ⟨b,off,none⟩) := k2
     refine ⟨.slice (some ⟨b,off,none⟩) n n,?_,[.slice (some ⟨b,off,none⟩) n n],.d ?_,rfl⟩
     ·simp only [execOp,Option.map_none]
      rw [e1]
      simp only [Instr.sliceAt,Sem.run_bind,run_underlying (qP2 hT),Result.andThen,Instr.sureAddr,Sem.run_pure,hb,rSO hS]
      rw [if_neg (by omega),qv0]
      simp
     ·have hlen : (l.map fun b => D.v (u8v b)).length = n := by simp [hl]
      have := DR.sl (I := E.I) (w := E.w) (es := 1) (rows := l.map fun b => D.v (u8v b)) (b := b) (off := off) (cap := n) (cs := l.map u8v) q1 q2 ?_ (fun r hr => by obtain ⟨y,_,rfl⟩ := List.mem_map.1 hr; rfl) (fun j v hj => q4 j v hj) (by omega)
      ·rw [hlen] at this
       exact this
      ·exact drs_u8 l
theorem o_cvD {S T e : Nat} {x : Operand} {l : List UInt8} (ho : ops[i]? = some ⟨some d,.convert S T x,ty,pos,af,g⟩) (hd : Nat.ble (d + 1) N.1 = true) (hg : G ops s g gs)
  (hx : s.val x = some (.d (qS3 l))) (hS : slB P S = some e) (he : P.underlying e = some (.int .u8)) (hT : P.underlying T = some .string) :
  Valid P N ops i ⟨gs ++ opT x,[],some (d,some (.d (.v (.string ⟨l.toArray⟩)))),[]⟩ s :=
 vPu ho hd hg fun s' hs cx a E hR => by
  obtain ⟨cs,k1,k2⟩ := hR.val ((vAg hs).trans hx)
  refine ⟨.string ⟨l.toArray⟩,?_,.of_sc (E := E) rfl⟩
  cases k1 with
  | d k1 =>
   unfold qS3 at k1
   generalize hr : l.map (fun b => D.v (u8v b)) = rows at k1
   cases k1 with
   | sl0 =>
    have : l = [] := by simpa using hr
    subst this
    rename_i ad cap
    have e1 : a.eval x = .slice ad 0 cap := k2
    simp only [execOp]
    rw [e1,Sem.run_bind,run_convert_bytes_string E.w S T e ad 0 cap (qu hS) he hT]
    cases ad with
    | none => rfl
    | some ad =>
     have hl := run_loadCells_list (P := P) E.w ad [] (by simp)
     rw [run_bytesToString (P := P) E.w ad 0 cap [] (by simpa using hl)]
     rfl
   | sl hI hb h1 hs' hc hcap =>
    subst hr
    have hcs := qe2 h1
    subst hcs
    rename_i b off cap
    have e1 : a.eval x = .slice (some ⟨b,off,none⟩) l.length cap := by
     have := k2
     simp only [List.length_map] at this
     exact this
    simp only [execOp]
    rw [e1,Sem.run_bind,run_convert_bytes_back E.w S T e ⟨b,off,none⟩ cap l (qu hS) he hT (fun j hj => by rw [qv0]; exact hc j _ (by simp [hj]; rfl))]
    rfl
theorem o_slE {T e n es o c k m : Nat} {rows : List D} {x : Operand} (ho : ops[i]? = some ⟨some d,.slice T x none none none,ty,pos,af,g⟩) (hd : Nat.ble (d + 1) N.1 = true) (hg : G ops s g gs)
  (hx : s.val x = some (.pel o c k m)) (hob : s.obj o = some (.arr c es rows)) (hT : arB P T = some (n,e)) (hS : szB P e = some 1) (h0 : 0 < n) :
  Valid P N ops i ⟨gs ++ opT x,[o],some (d,some (.osl o c (k * es + m) n)),[]⟩ s :=
 vCo ho rfl hd hg fun s' hs ho' cx a E _ hR => by
  have hob' : s'.obj o = some (.arr c es rows) := (ho' o (by simp)).trans hob
  obtain ⟨cs,k1,k2⟩ := hR.val ((vAg hs).trans hx)
  have hb := qb2 (P := P) (w := E.w) (b := false) (len := n) (cap := n) (low := none) (high := none) (lv := 0) (hv := n) (Or.inl ⟨rfl,rfl⟩) (Or.inl ⟨rfl,rfl⟩) (Nat.zero_le _) (Nat.le_refl _)
  cases k1 with
  | pel q1 q2 q3 q4 =>
   have hobE : E.obj o = some (.arr c es rows) := by rw [hR.obj]; exact hob'
   rw [hobE] at q1; cases q1
   obtain ⟨b,p1,p2⟩ := q3 rfl
   subst p2
   have e1 : a.eval x = .pointer (some ⟨b,k * es + m,none⟩) := k2
   refine ⟨.slice (some ⟨b,k * es + m,none⟩) n n,E,?_,⟨_,.osl hobE (Nat.le_refl _) (fun _ => .inr ⟨b,n,p1,rfl,Nat.le_refl _⟩) rfl,rfl⟩,qY1 hR⟩
   simp only [execOp,Option.map_none]
   rw [e1]
   simp only [Instr.sliceAt,Sem.run_bind,run_underlying (qP2 hT),Result.andThen,Instr.sureAddr,Sem.run_pure,hb,rSO hS]
   rw [if_neg (by omega),qv0]
   simp
theorem o_cvO {S T e o c es k m n off : Nat} {α : Type} {enc : α → D} {xs : List α} {r : α} {l : List UInt8} {x : Operand} (p : List Nat) (ho : ops[i]? = some ⟨some d,.convert S T x,ty,pos,af,g⟩) (hd : Nat.ble (d + 1) N.1 = true) (hg : G ops s g gs)
  (hx : s.val x = some (.osl o c off n)) (hob : s.obj o = some (.arr c es (xs.map enc))) (hr : xs[k]? = some r) (hp : AV.get p (.d (enc r)) = some (.d (.bs n l),m)) (hoff : off = k * es + m) (hn : 0 < n)
  (hS : slB P S = some e) (he : P.underlying e = some (.int .u8)) (hT : P.underlying T = some .string) :
  Valid P N ops i ⟨gs ++ opT x,[o],some (d,some (.d (.v (.string ⟨l.toArray⟩)))),[]⟩ s :=
 vCo ho rfl hd hg fun s' hs ho' cx a E _ hR => by
  have hob' : s'.obj o = some (.arr c es (xs.map enc)) := (ho' o (by simp)).trans hob
  obtain ⟨cs,k1,k2⟩ := hR.val ((vAg hs).trans hx)
  have hr' : (xs.map enc)[k]? = some (enc r) := by rw [List.getElem?_map,hr]; rfl
  cases k1 with
  | osl q1 q2 q3 q4 =>
   rw [hR.obj,hob'] at q1; cases q1
   rcases q3 rfl with ⟨_,_,_,h0⟩ | ⟨b,cc,p1,p2,p3⟩
   ·omega
   ·subst p2
    rcases hR.objs _ _ hob' with ⟨t1,t2,_⟩ | ⟨b',zs,sp,e',t1,t2,t3,t4,t5,t6⟩
    ·rw [t2] at hr'; simp at hr'
    ·rw [p1] at t1; cases t1
     obtain ⟨rc,u1,u2,u3⟩ := t2.row t3 hr'
     obtain ⟨c1,c2,c3,rfl,r2,r3⟩ := q15 p (.d u1) hp
     have hall : CellsAt E.w b 0 zs := caB t4
     have h6 : CellsAt E.w b (k * es + m) c2 := by
      intro j v hj
      have := hall (k * es + (m + j)) v (u3 (m + j) v (by
       rw [List.getElem?_append_right (by omega),r2,show m + j - m = j from by omega,List.getElem?_append_left (List.getElem?_eq_some_iff.1 hj).1]; exact hj))
      rw [Nat.zero_add] at this
      rw [Nat.add_assoc]; exact this
     cases r3 with
     | d r3 =>
      cases r3 with
      | bs hl =>
       have e1 : a.eval x = .slice (some ⟨b,k * es + m,none⟩) l.length cc := by rw [hl,← hoff]; exact k2
       refine ⟨_,E,?_,.of_sc rfl,qY1 hR⟩
       simp only [execOp]
       rw [e1,Sem.run_bind,run_convert_bytes_back E.w S T e ⟨b,k * es + m,none⟩ cc l (qu hS) he hT (fun j hj => by rw [qv0]; exact h6 j _ (by simp [hj]; rfl))]
       rfl
def cpB (l b : List UInt8) : List UInt8 := b.take l.length ++ l.drop b.length
theorem cpB_len (l b : List UInt8) : (cpB l b).length = l.length := by
 simp only [cpB,List.length_append,List.length_take,List.length_drop]
 omega
theorem run_copy_str {w : World} {dT sT ty elem : TypeId} {g o dLen dCap : Nat} {t : ByteArray} {cur : Array Value} {et : TypeId} (hu : slB P dT = some elem) (hs : szB P elem = some 1) (hg : w.heap[g]? = some (.cells cur et (0,0))) (hfit : o + dLen ≤ cur.size) :
  (Builtin.copy_ #[dT,sT] ty #[.slice (some ⟨g,o,none⟩) dLen dCap,.string t]).run P w =
   .ok (goInt (Nat.min t.size dLen)) (w.setRow g (cur.toList.take o ++ (t.data.toList.take (Nat.min t.size dLen)).map u8v ++ cur.toList.drop (o + Nat.min t.size dLen)).toArray) := by
 have hsz : t.data.toList.length = t.size := rfl
 have hlen : ((t.data.toList.take (Nat.min t.size dLen)).map u8v).length = Nat.min t.size dLen := by
  rw [List.length_map,List.length_take,hsz]
  exact Nat.min_eq_left (Nat.min_le_left _ _)
 have hle : Nat.min t.size dLen ≤ dLen := Nat.min_le_right _ _
 have hst := run_storeCells_at P g o et ((t.data.toList.take (Nat.min t.size dLen)).map u8v) 0 cur w hg (by rw [hlen]; simp; omega) (fun v hv => by obtain ⟨b,_,rfl⟩ := List.mem_map.1 hv; rfl)
 rw [hlen] at hst
 simp only [Nat.add_zero] at hst
 have htk : List.take (Nat.min t.size dLen) (List.map (fun b : UInt8 => Value.int IntKind.u8 (b.toNat : Int)) t.data.toList) = (t.data.toList.take (Nat.min t.size dLen)).map u8v := by
  rw [← List.map_take]
  rfl
 simp only [Builtin.copy_,Sem.run_bind]
 simp [run_underlying (qu hu),Builtin.lenOf,Builtin.firstCells,rSO hs,Result.andThen]
 rw [htk,hst]
 simp [Result.andThen]
theorem o_cpS {T Ts e o m n cap : Nat} {x y : Operand} {l : List UInt8} {z : AV} {b : ByteArray} (p : List Nat) (ho : ops[i]? = some ⟨some d,.call ⟨.builtin .copy,#[x,y],#[T,Ts]⟩,ty,pos,af,g⟩) (hd : Nat.ble (d + 1) N.1 = true) (hg : G ops s g gs)
  (hx : s.val x = some (.bsl o m n cap)) (hy : s.val y = some (.d (.v (.string b)))) (hob : s.obj o = some (.box z)) (hp : AV.get p z = some (.d (.bs n l),m)) (hT : slB P T = some e) (hS : szB P e = some 1) :
  Valid P N ops i ⟨gs ++ (opT x ++ opT y),[o],some (d,some (.d (.v (.int .i64 ((Nat.min b.size n : Nat) : Int))))),[(o,.box (AV.put p z (.d (.bs n (cpB l b.data.toList)))))]⟩ s :=
 vCo ho rfl hd hg fun s' hs ho' cx a E _ hR => by
  have hob' : s'.obj o = some (.box z) := (ho' o (by simp)).trans hob
  obtain ⟨xs,h1,h2⟩ := hR.val ((vAg (qy hs).1).trans hx)
  have h3 := (hR.val ((vAg (qy hs).2).trans hy)).sc
  cases h1 with
  | bsl q1 qb q2 =>
   rename_i bb zz
   obtain ⟨b',zs,et,r1,r2,r3,r4⟩ := hR.objs _ _ hob'
   rw [q2] at r1; cases r1
   have hgl : ∃ ln : l.length = n,True := by
    obtain ⟨_,c2,_,_,_,t3⟩ := q15 p r2 hp
    cases t3 with
    | d t3 => cases t3 with
     | bs hl => exact ⟨hl,trivial⟩
   obtain ⟨hln,_⟩ := hgl
   have hy' : CR E (.d (.bs n (cpB l b.data.toList))) ((cpB l b.data.toList).map u8v) := .d (.bs (by rw [cpB_len]; exact hln))
   obtain ⟨c1,c2,c3,rfl,t2,t3,t4⟩ := put_cr hy' p r2 hp
   have hc2 : c2 = l.map u8v := by
    cases t3 with
    | d t3 => cases t3 with
     | bs hl => rfl
   subst hc2
   have hrun := run_copy_str (P := P) (w := E.w) (dT := T) (sT := Ts) (ty := ty) (g := bb) (o := m) (dLen := n) (dCap := cap) (t := b) hT hS r4 (by simp; omega)
   have hsz : b.data.toList.length = b.size := rfl
   have harr : ((c1 ++ (l.map u8v ++ c3)).toArray.toList.take m ++ (b.data.toList.take (Nat.min b.size n)).map u8v ++ (c1 ++ (l.map u8v ++ c3)).toArray.toList.drop (m + Nat.min b.size n)).toArray = (c1 ++ ((cpB l b.data.toList).map u8v ++ c3)).toArray := by
    congr 1
    simp only []
    rw [← t2,List.take_left,← List.drop_drop,List.drop_left,List.append_assoc]
    congr 1
    have hmin : Nat.min b.size n ≤ (l.map u8v).length := by rw [List.length_map,hln]; exact Nat.min_le_right _ _
    rw [List.drop_append_of_le_length hmin,← List.append_assoc]
    congr 1
    unfold cpB
    rw [List.map_append,hln]
    by_cases hc : b.size ≤ n
    ·have e1 : Nat.min b.size n = b.size := Nat.min_eq_left hc
     rw [e1,← hsz,List.take_length,List.take_of_length_le (by omega),List.map_drop]
    ·have e1 : Nat.min b.size n = n := Nat.min_eq_right (by omega)
     rw [e1,hsz,← List.map_drop,List.drop_eq_nil_of_le (as := l) (by omega),List.drop_eq_nil_of_le (as := l) (by omega)]
   rw [harr] at hrun
   have hrow : (E.w.setRow bb (c1 ++ ((cpB l b.data.toList).map u8v ++ c3)).toArray).heap[bb]? = some (.cells (c1 ++ ((cpB l b.data.toList).map u8v ++ c3)).toArray et (0,0)) := setRow_heap _ _ _ _ _ _ r4
   refine ⟨goInt (Nat.min b.size n),E.turn o (.box (AV.put p z (.d (.bs n (cpB l b.data.toList))))) (some bb) 0 [] (E.w.setRow bb (c1 ++ ((cpB l b.data.toList).map u8v ++ c3)).toArray),?_,.of_sc rfl,?_⟩
   ·have e0 : a.eval x = .slice (some ⟨bb,m,none⟩) n cap := h2
    have e1 : a.eval y = .string b := h3
    simp only [execOp,resolve,Sem.run_bind,Sem.run_pure,Result.andThen,invoke,builtin]
    simp only [List.map_toArray,List.map_cons,List.map_nil,e0,e1,hrun]
    rfl
   ·refine hR.turn (o := o) (ob := .box z) (ob' := .box (AV.put p z (.d (.bs n (cpB l b.data.toList))))) (b := some bb) (cap := 0) (births := []) (w := E.w.setRow bb (c1 ++ ((cpB l b.data.toList).map u8v ++ c3)).toArray) hob' (by simp) (fun k hk => by cases hk; exact .inl q2) (fun k hk hne => setRow_other _ _ _ _ (fun e => hne (by rw [e]; exact q2))) rfl rfl rfl ?_ (fun he => ?_) (fun _ _ e => by cases e)
    ·simp [OExt,Env.turn,Env.new,q2]
    ·refine ⟨bb,_,et,by simp [Env.turn,Env.new],t4.ext he,fun u hu => ?_,hrow⟩
     rcases List.mem_append.1 hu with h' | h'
     ·exact r3 u (by simp [h'])
     ·rcases List.mem_append.1 h' with h'' | h''
      ·obtain ⟨q,_,rfl⟩ := List.mem_map.1 h''; rfl
      ·exact r3 u (by simp [h''])
end
end Go.Val
namespace Go.Val
open Go.RowKit
variable [Drw]
def ciO (s : St) (σ : Nat → Nat) (f : Nat → Option OB) : List (Nat × OB) → Prop
 | [] => True
 | (o,x) :: l => (s.obj (σ o) = some (x.ren σ) ∧ x.live f) ∧ ciO s σ f l
theorem ciO_mem {s : St} {σ : Nat → Nat} {f : Nat → Option OB} : ∀ {l : List (Nat × OB)},ciO s σ f l → ∀ {o x},(o,x) ∈ l → s.obj (σ o) = some (x.ren σ) ∧ x.live f
 | (t',x') :: l,h,t,x,hm => by
  rcases List.mem_cons.1 hm with e | hm
  ·cases e; exact h.1
  ·exact ciO_mem h.2 hm
theorem lk_none_not {α : Type} : ∀ {l : List (Nat × α)} {t : Nat},lk l t = none → ∀ x,(t,x) ∉ l
 | (d,y) :: l,t,h,x,hm => by
  simp only [lk] at h
  cases hb : Nat.beq t d with
  | true => rw [hb] at h; cases h
  | false =>
   rw [hb] at h
   rcases List.mem_cons.1 hm with e | hm
   ·cases e
    simp at hb
   ·exact lk_none_not h x hm
theorem callInG {s : St} {σ : Nat → Nat} {k : Nat} {mi mo : List (Nat × OB)} {ys : List AV} {l : List Nat} (ns : List Nat) (hk : mi.all (fun p => Nat.ble (p.1 + 1) k) = true) (hl : AV.lives (lk mi) ys) (ho : ciO s σ (lk mi) mi)
  (h1 : nodupB (mo.map (·.1)) = true) (h2 : nodupB (mo.map fun p => σ p.1) = true) (h3 : mo.map (·.1) = mi.map (·.1) ++ ns) (h4 : noneAll s.obj (ns.map σ)) (h5 : l.all (fun c => mi.all fun p => !Nat.beq (σ p.1) c) = true) : CallIn s σ k mi mo ys l := by
 have n1 := qc2 h1
 have n2 := qc2 h2
 have key : ∀ p ∈ mi,∃ x,(p.1,x) ∈ mo := by
  intro p hp
  have : p.1 ∈ mo.map (·.1) := by rw [h3]; exact List.mem_append.2 (.inl (List.mem_map.2 ⟨p,hp,rfl⟩))
  obtain ⟨q,hq,e⟩ := List.mem_map.1 this
  exact ⟨q.2,by rw [← e]; exact hq⟩
 refine ⟨fun p hp => Nat.le_of_ble_eq_true (List.all_eq_true.1 hk p hp),hl,fun p hp => ciO_mem ho hp,fun p hp q hq e => ?_,fun c hc p hp e => ?_,n1,n2,key,fun p hp hn => ?_⟩
 ·obtain ⟨x,hx⟩ := key p hp
  obtain ⟨y,hy⟩ := key q hq
  have e2 : ((p.1,x) : Nat × OB) = (q.1,y) := map_inj_mem (g := fun p : Nat × OB => σ p.1) n2 hx hy e
  exact (Prod.mk.inj e2).1
 ·have := List.all_eq_true.1 (List.all_eq_true.1 h5 c hc) p hp
  rw [e] at this
  simp at this
 ·have hm : p.1 ∈ mo.map (·.1) := List.mem_map.2 ⟨p,hp,rfl⟩
  rw [h3] at hm
  rcases List.mem_append.1 hm with hm | hm
  ·obtain ⟨q,hq,e⟩ := List.mem_map.1 hm
   exact absurd (by rw [← e]; exact hq) (lk_none_not hn q.2)
  ·exact qp3 h4 _ (List.mem_map.2 ⟨_,hm,rfl⟩)
end Go.Val
namespace Go.Val
open Go.RowKit
variable [Drw]
def FR (r : Option Nat) : Fence := { Fence.wide with round := r }
def Act.mark (a : Act) (ds : List Deferred) : Act := { a with defers := ds }
def qE3 (ops : Array Oper) : Bool := ops.all fun o => match o.op with
 | .defer _ => false
 | _ => true
theorem noDefer_get {ops : Array Oper} (h : qE3 ops = true) {i : Nat} {o : Oper} (ho : ops[i]? = some o) : ∀ c,o.op ≠ .defer c := by
 intro c e
 unfold qE3 at h
 rw [Array.all_eq_true_iff_forall_mem] at h
 have := h o (Array.mem_of_getElem? ho)
 rw [e] at this
 cases this
section
variable {r : Option Nat} {ds : List Deferred} {n : Nat} {P : Program}
theorem rows_in {row : String} {args : Array Value} {w : World} {R : Value → World → Prop} (h : Rows P row args w R) : RowsIn (FR r) n P row args w R := by
 intro c cs _
 obtain ⟨v,w',r,s⟩ := h c cs
 exact ⟨v,w',r,stepsIn_wide.2 s⟩
theorem eval_mark (a : Act) : (Act.mark a ds).eval = a.eval := by funext o; cases o <;> rfl
theorem qJ4 (a : Act) (d : Option Nat) (v : Value) : (Act.mark a ds).put d v = Act.mark (a.put d v) ds := by cases d <;> rfl
theorem upon_in {o : Oper} {a : Act} {K K' : Act → World → Prop} {Q : Exit → Act → World → Prop} (hK : ∀ a w,K a w → a.defers = []) (hK' : ∀ a w,K a w → K' (Act.mark a ds) w) {x : Result Next} (h : o.upon P a K (fun _ _ _ => False) x) :
  o.uponIn (FR r) n P (Act.mark a ds) K' Q x := by
 cases x with
 | ok x w' =>
  cases x <;> simp only [Oper.upon,Oper.uponIn] at h ⊢
  ·rw [qJ4]; exact hK' _ _ h
  ·rw [qJ4]; exact hK' _ _ h
  ·refine ⟨fun h => (by cases h),?_⟩
   have h2 : CallsIn Fence.wide (n - 1) P _ _ w' _ := callsIn_wide.2 h
   refine CallsIn.mono (show CallsIn (FR r) (n - 1) P _ _ w' _ from h2) ?_
   rintro e w'' he
   cases e with
   | returned v =>
    show K' ((Act.mark a ds).put o.dst v) w''
    rw [qJ4]; exact hK' _ _ he
   | panicked ch => exact he.elim
   | outgrown => obtain ⟨a',w3,h3⟩ := he; exact h3.elim
  ·have := hK _ _ h
   exfalso
   cases hq : o.dst <;> rw [hq] at this <;> simp [Act.put] at this
  ·exact ⟨fun h => (by cases h),(rows_in h : RowsIn (FR r) (n - 1) P _ _ w' _).mono fun _ _ h => by rw [qJ4]; exact hK' _ _ h⟩
 | halt x w' =>
  cases x <;> simp only [Oper.upon,Oper.uponIn] at h ⊢
theorem q51 {N : Nat × Nat} {ops : Array Oper} {i : Nat} {sr : SR} {s : St} {Q : Exit → Act → World → Prop} {cx : Cx} {a : Act} {w : World} {K : Act → World → Prop} (hd : qE3 ops = true)
  (hn : cx.nk = N) (hv : Valid P N ops i sr s) (hR : R cx s a w) (hK : ∀ a w,R cx (sr.apply s) a w → K (Act.mark a ds) w) : wpOpIn (FR r) n P ops Q i K (Act.mark a ds) w := by
 obtain ⟨o,ho,hv⟩ := hv
 have := hv s ⟨fun _ _ => rfl,fun _ _ => rfl⟩ (fun _ _ _ => False) cx a w hn hR
 unfold wpOpIn
 simp only [ho]
 have hy : yielded ops (Act.mark a ds).tmps = yielded ops a.tmps := rfl
 rw [hy]
 split
 ·rename_i hw
  simp only [hw,if_true] at this
  refine ⟨fun _ _ => trivial,?_⟩
  rw [Oper.semAt_plain _ _ _ (noDefer_get hd ho),eval_mark]
  exact upon_in (fun a w ⟨E,_,h⟩ => h.defers) hK this
 ·rename_i hw
  simp only [hw] at this
  exact ⟨fun _ _ => trivial,by rw [qJ4]; exact hK _ _ this⟩
theorem qi4 {N : Nat × Nat} {ops : Array Oper} {Q : Exit → Act → World → Prop} {cx : Cx} {sf : St} (hd : qE3 ops = true) (hn : cx.nk = N) (hQ : ∀ a w,R cx sf a w → Q .normal (Act.mark a ds) w) :
  ∀ (l : List (Nat × SR)) (s : St) (a : Act) (w : World),Run P N ops l s sf → R cx s a w → wpOpsIn (FR r) n P ops Q (l.map (·.1)) (Act.mark a ds) w
 | [],s,a,w,h,hR => by simp only [Run] at h; subst h; exact hQ _ _ hR
 | (i,x) :: l,s,a,w,⟨hv,h⟩,hR => by
  simp only [List.map_cons]
  rw [wpOpsIn_cons]
  exact q51 hd hn hv hR (fun a' w' hR' => qi4 hd hn hQ l _ a' w' h hR')
theorem qg4 {rr : Option Nat} {N : Nat × Nat} {ops : Array Oper} {Q : Exit → Act → World → Prop} {cx : Cx} {sf : St} (hd : qE3 ops = true) (hn : cx.nk = N) (hE : qY4 ops = true) (hQ : ∀ a w,R cx sf a w → Q .normal (Act.mark a ds) w) :
  ∀ (fuel : Nat) (l : List (Nat × SR)) (listed : Array Bool) (s : St) (a : Act) (w : World),l.length = fuel →
   (∀ j,listed.getD j true = false ↔ ∃ r,(j,r) ∈ l) → listed.size = ops.size → l.Pairwise (fun p q => p.1 < q.1) → (∀ p ∈ l,p.1 < ops.size) →
   (∀ j k,qk0 ops j k = true → (∃ r,(k,r) ∈ l) → ∃ r,(j,r) ∈ l) → q63 ops l = true → Run P N ops l s sf → R cx s a w → wpAnyIn (FR rr) n P .any ops Q fuel listed (Act.mark a ds) w
 | 0,l,listed,s,a,w,hl,hin,hsz,_,_,_,_,hrun,hR => by
  have hnil : l = [] := List.eq_nil_of_length_eq_zero hl
  subst hnil
  simp only [Run] at hrun
  subst hrun
  refine ⟨?_,hQ _ _ hR⟩
  cases hr : Region.ready .any ops listed with
  | nil => rfl
  | cons j js =>
   have hj : j ∈ Region.ready .any ops listed := by rw [hr]; simp
   obtain ⟨r,h⟩ := (hin j).1 (mem_ready.1 hj).1
   cases h
 | fuel + 1,l,listed,s,a,w,hl,hin,hsz,hsort,hlt,hup,hord,hrun,hR => by
  refine ⟨fun hnone => ?_,fun i hi => ?_⟩
  ·exfalso
   cases l with
   | nil => simp at hl
   | cons p l =>
    obtain ⟨i,r⟩ := p
    have hil : i < ops.size := hlt (i,r) (by simp)
    have : i ∈ Region.ready .any ops listed := by
     refine mem_ready.2 ⟨(hin i).2 ⟨r,by simp⟩,ops[i],by simp [hil],fun e he hb => ?_⟩
     have hei := edgesOk_spec hE (i := i) (o := ops[i]) (by simp [hil]) he hb
     have hnot : ¬ listed.getD e.on true = false := fun h => by
      obtain ⟨r',h'⟩ := (hin e.on).1 h
      rcases List.mem_cons.1 h' with h1 | h1
      ·cases h1; omega
      ·have := (List.pairwise_cons.1 hsort).1 _ h1
       simp only at this; omega
     rw [getD_in (by omega) false true]
     simpa using hnot
    rw [hnone] at this
    cases this
  ·obtain ⟨h0,o,ho,hall⟩ := mem_ready.1 hi
   obtain ⟨r,hir⟩ := (hin i).1 h0
   obtain ⟨l1,l2,rfl⟩ := List.append_of_mem hir
   have hw1 : ∀ k r',(k,r') ∈ l1 ++ (i,r) :: l2 → qk0 ops i k = false := by
    intro k r' hp
    generalize hpk : (k,r') = p at hp
    obtain rfl : k = p.1 := by rw [← hpk]
    cases hq : qk0 ops i p.1 with
    | false => rfl
    | true =>
     simp only [qk0,ho,Array.any_eq_true',Bool.and_eq_true,beq_iff_eq] at hq
     obtain ⟨e,he,hb,hon⟩ := hq
     have h1 := hall e he hb
     have h2 := (hin p.1).2 ⟨p.2,hp⟩
     rw [hon] at h1
     have hps : p.1 < listed.size := by rw [hsz]; exact hlt p hp
     rw [getD_in hps false true,h2] at h1
     cases h1
   have hw : ∀ p ∈ l1,waitsN ops 8 i p.1 = false := fun p hp => qF4 hup (k := p.1) (r := p.2) (by simp [hp]) 8 i hw1
   obtain ⟨hv,hrun'⟩ := Run.first l1 s (qQ3 l1 hord hw) hrun
   refine q51 hd hn hv hR (fun a' w' hR' => ?_)
   have hord' := ql3 l1 hord
   have hup' : ∀ j k,qk0 ops j k = true → (∃ r,(k,r) ∈ l1 ++ l2) → ∃ r,(j,r) ∈ l1 ++ l2 := by
    rintro j k hjk ⟨r',hk⟩
    have hk' : (k,r') ∈ l1 ++ (i,r) :: l2 := by
     rcases List.mem_append.1 hk with h1 | h1
     ·simp [h1]
     ·simp [h1]
    obtain ⟨r2,h2⟩ := hup j k hjk ⟨r',hk'⟩
    rcases List.mem_append.1 h2 with h1 | h1
    ·exact ⟨r2,by simp [h1]⟩
    ·rcases List.mem_cons.1 h1 with h3 | h3
     ·cases h3
      rw [hw1 k r' hk'] at hjk
      cases hjk
     ·exact ⟨r2,by simp [h3]⟩
   have hsort' : (l1 ++ l2).Pairwise (fun p q => p.1 < q.1) := by
    refine hsort.sublist ?_
    exact List.Sublist.append (List.Sublist.refl _) (List.sublist_cons_self _ _)
   refine qg4 hd hn hE hQ fuel (l1 ++ l2) (listed.setIfInBounds i true) _ a' w' (by simp at hl ⊢; omega) (fun j => ?_) (by simp [hsz]) hsort' (fun p hp => hlt p (by
    rcases List.mem_append.1 hp with h1 | h1
    ·simp [h1]
    ·simp [h1])) hup' hord' hrun' hR'
   have hil : i < listed.size := by rw [hsz]; exact hlt (i,r) (by simp)
   by_cases hji : j = i
   ·subst hji
    constructor
    ·intro h; simp [Array.getD,hil] at h
    ·rintro ⟨r',h'⟩
     exfalso
     rcases List.mem_append.1 h' with h1 | h1
     ·have := (List.pairwise_append.1 hsort).2.2 _ h1 (j,r) (by simp)
      simp only at this; omega
     ·have := (List.pairwise_cons.1 (List.pairwise_append.1 hsort).2.1).1 _ h1
      simp only at this; omega
   ·rw [getD_set_ne true (Ne.symm hji),hin j]
    constructor
    ·rintro ⟨r',h'⟩
     refine ⟨r',?_⟩
     rcases List.mem_append.1 h' with h1 | h1
     ·simp [h1]
     ·rcases List.mem_cons.1 h1 with h2 | h2
      ·cases h2; exact absurd rfl hji
      ·simp [h2]
    ·rintro ⟨r',h'⟩
     refine ⟨r',?_⟩
     rcases List.mem_append.1 h' with h1 | h1
     ·simp [h1]
     ·simp [h1]
def CWx (r : Option Nat) (ds : List Deferred) (P : Program) (cx : Cx) (c : Code) (Q : Exit → St → Prop) (s : St) : Prop :=
 ∀ (n : Nat) (a : Act) (w : World),R cx s a w → c.wpIn (FR r) n P (fun e a' w' => ∃ s' a0,a' = Act.mark a0 ds ∧ Q e s' ∧ R cx s' a0 w') (Act.mark a ds) w
section
variable {cx : Cx} {N : Nat × Nat}
theorem cx_region {id : Nat} {ops : Array Oper} {s s' : St} {js : List (Nat × SR)} {Q : Exit → St → Prop} (hn : cx.nk = N) (c : Chain P N ops 0 s js s') (h : Q .normal s') (hd : qE3 ops = true := by kernel_rfl) : CWx r ds P cx (.region id ops false) Q s := by
 intro n a w hR
 refine wpIn_region ?_
 rw [← range_map c]
 exact qi4 hd hn (fun a' w' hR' => ⟨s',a',rfl,h,hR'⟩) js s a w c.run hR
theorem cx_region_any {id : Nat} {ops : Array Oper} {s s' : St} {js : List (Nat × SR)} {Q : Exit → St → Prop} (hn : cx.nk = N) (hm : P.follows .mixedOrders = true) (hE : qY4 ops = true)
  (c : Chain P N ops 0 s js s') (ho : q63 ops js = true) (h : Q .normal s') (hd : qE3 ops = true := by kernel_rfl) : CWx r ds P cx (.region id ops true) Q s := by
 intro n a w hR
 refine wpIn_region_any hm ?_
 obtain ⟨_,h2,h3,h4⟩ := c.mems
 refine qg4 hd hn hE (fun a' w' hR' => ⟨s',a',rfl,h,hR'⟩) ops.size js _ s a _ (by omega) (fun j => ?_) (by simp) h4 (fun p hp => ((h3 p.1).2 ⟨p.2,hp⟩).2) (fun j k hjk _ => ?_) ho c.run (hR.drew (Nat.le_succ _))
 ·rw [← h3 j]
  by_cases hj : j < ops.size <;> simp [Array.getD,hj]
 ·refine (h3 j).1 ⟨Nat.zero_le _,?_⟩
  cases ho' : ops[j]? with
  | none => simp [qk0,ho'] at hjk
  | some o => exact (Array.getElem?_eq_some_iff.1 ho').1
theorem cx_mono {c : Code} {Q Q' : Exit → St → Prop} {s : St} (h : CWx r ds P cx c Q s) (hq : ∀ e s,Q e s → Q' e s) : CWx r ds P cx c Q' s :=
 fun n a w hR => wpIn_mono (h n a w hR) fun _ _ _ ⟨s',a0,h0,h1,h2⟩ => ⟨s',a0,h0,hq _ _ h1,h2⟩
theorem cx_skip {Q : Exit → St → Prop} {s : St} (h : Q .normal s) : CWx r ds P cx .skip Q s := fun _ a _ hR => wpIn_skip ⟨s,a,rfl,h,hR⟩
theorem cx_exit {Q : Exit → St → Prop} {s : St} {id : Nat} (h : Q (.exit id) s) : CWx r ds P cx (.exit id) Q s := fun _ a _ hR => wpIn_exit ⟨s,a,rfl,h,hR⟩
theorem cx_ret {Q : Exit → St → Prop} {s : St} (h : Q .ret s) : CWx r ds P cx .ret Q s := fun _ a _ hR => wpIn_ret ⟨s,a,rfl,h,hR⟩
theorem cx_seq {x y : Code} {Q : Exit → St → Prop} {s : St} (h : CWx r ds P cx x (thenS (CWx r ds P cx y Q) Q) s) : CWx r ds P cx (.seq x y) Q s := by
 intro n a w hR
 refine wpIn_seq (wpIn_mono (h n a w hR) ?_)
 rintro e a' w' ⟨s',a0,rfl,h1,h2⟩
 cases e with
 | normal => exact h1 n a0 w' h2
 | exit id => exact ⟨s',a0,rfl,h1,h2⟩
 | goto l => exact ⟨s',a0,rfl,h1,h2⟩
 | ret => exact ⟨s',a0,rfl,h1,h2⟩
 | panic c => exact ⟨s',a0,rfl,h1,h2⟩
 | outgrown => exact ⟨s',a0,rfl,h1,h2⟩
theorem cx_block {id : Nat} {c : Code} {Q : Exit → St → Prop} {s : St} (h : CWx r ds P cx c (qM3 id Q) s) : CWx r ds P cx (.block id c) Q s := by
 intro n a w hR
 refine wpIn_block (wpIn_mono (h n a w hR) ?_)
 rintro e a' w' ⟨s',a0,rfl,h1,h2⟩
 cases e with
 | exit id' =>
  simp only [qM3] at h1
  simp only [Exit.inBlock]
  by_cases hq : id' = id
  ·subst hq; simp at h1 ⊢; exact ⟨s',a0,rfl,h1,h2⟩
  ·have : Nat.beq id' id = false := by
    cases hb : Nat.beq id' id
    ·rfl
    ·exact absurd (Nat.eq_of_beq_eq_true hb) hq
   simp only [this,cond_false] at h1
   simp only [hq,if_false]
   exact ⟨s',a0,rfl,h1,h2⟩
 | normal => exact ⟨s',a0,rfl,h1,h2⟩
 | goto l => exact ⟨s',a0,rfl,h1,h2⟩
 | ret => exact ⟨s',a0,rfl,h1,h2⟩
 | panic c => exact ⟨s',a0,rfl,h1,h2⟩
 | outgrown => exact ⟨s',a0,rfl,h1,h2⟩
theorem cx_cond {c : Operand} {x y : Code} {Q : Exit → St → Prop} {s : St} {b : Bool} (hc : s.val c = some (.d (.v (.bool b))))
  (ht : b = true → CWx r ds P cx x Q s) (hf : b = false → CWx r ds P cx y Q s) : CWx r ds P cx (.cond c x y) Q s := by
 intro n a w hR
 obtain ⟨E,rfl,hR0⟩ := hR
 have hv := (hR0.val hc).sc
 have hv' : (Act.mark a ds).eval c = .bool b := by rw [eval_mark]; exact hv
 cases b with
 | true => exact wpIn_cond_true hv' (ht rfl n a _ ⟨E,rfl,hR0⟩)
 | false => exact wpIn_cond_false hv' (hf rfl n a _ ⟨E,rfl,hR0⟩)
theorem cx_condT {c : Operand} {x y : Code} {Q : Exit → St → Prop} {s : St} {b : Bool} (hc : s.val c = some (.d (.v (.bool b)))) (hb : b = true) (h : CWx r ds P cx x Q s) : CWx r ds P cx (.cond c x y) Q s :=
 cx_cond hc (fun _ => h) (fun e => by rw [hb] at e; cases e)
theorem cx_condF {c : Operand} {x y : Code} {Q : Exit → St → Prop} {s : St} {b : Bool} (hc : s.val c = some (.d (.v (.bool b)))) (hb : b = false) (h : CWx r ds P cx y Q s) : CWx r ds P cx (.cond c x y) Q s :=
 cx_cond hc (fun e => by rw [hb] at e; cases e) (fun _ => h)
theorem cx_leads {c : Code} {Q : Exit → St → Prop} {s s' : St} (hn : cx.nk = N) (hw : Leads N s s') (h : CWx r ds P cx c Q s') : CWx r ds P cx c Q s :=
 fun n a w hR => h n a w (hw cx a w hn hR)
theorem cx_post {c : Code} {Q : Exit → St → Prop} {s : St} (hn : cx.nk = N) (h : CWx r ds P cx c (fun e s' => ∃ s'',Leads N s' s'' ∧ Q e s'') s) : CWx r ds P cx c Q s := fun n a w hR => by
 refine wpIn_mono (h n a w hR) ?_
 rintro e a' w' ⟨s',a0,rfl,⟨s'',h1,h2⟩,hR'⟩
 exact ⟨s'',a0,rfl,h2,h1 cx a0 w' hn hR'⟩
end
def CWr (r : Option Nat) (ds : List Deferred) (P : Program) (N : Nat × Nat) (c : Code) (Q : Exit → St → Prop) (s : St) : Prop := ∀ cx : Cx,cx.nk = N → CWx r ds P cx c Q s
section
variable {N : Nat × Nat}
theorem q01 {id : Nat} {ops : Array Oper} {s s' : St} {js : List (Nat × SR)} {Q : Exit → St → Prop} (c : Chain P N ops 0 s js s') (h : Q .normal s') (hd : qE3 ops = true := by kernel_rfl) : CWr r ds P N (.region id ops false) Q s := fun _ hn => cx_region hn c h hd
theorem cr_region_any {id : Nat} {ops : Array Oper} {s s' : St} {js : List (Nat × SR)} {Q : Exit → St → Prop} (hm : P.follows .mixedOrders = true) (hE : qY4 ops = true)
  (c : Chain P N ops 0 s js s') (ho : q63 ops js = true) (h : Q .normal s') (hd : qE3 ops = true := by kernel_rfl) : CWr r ds P N (.region id ops true) Q s := fun _ hn => cx_region_any hn hm hE c ho h hd
theorem cr_mono {c : Code} {Q Q' : Exit → St → Prop} {s : St} (h : CWr r ds P N c Q s) (hq : ∀ e s,Q e s → Q' e s) : CWr r ds P N c Q' s := fun _ hn => cx_mono (h _ hn) hq
theorem cr_skip {Q : Exit → St → Prop} {s : St} (h : Q .normal s) : CWr r ds P N .skip Q s := fun _ _ => cx_skip h
theorem cr_ret {Q : Exit → St → Prop} {s : St} (h : Q .ret s) : CWr r ds P N .ret Q s := fun _ _ => cx_ret h
theorem qr4 {x y : Code} {Q : Exit → St → Prop} {s : St} (h : CWr r ds P N x (thenS (CWr r ds P N y Q) Q) s) : CWr r ds P N (.seq x y) Q s := fun cx hn =>
 cx_seq (cx_mono (h cx hn) fun e s' q => by
  cases e with
  | normal => exact q cx hn
  | _ => exact q)
theorem cr_block {id : Nat} {c : Code} {Q : Exit → St → Prop} {s : St} (h : CWr r ds P N c (qM3 id Q) s) : CWr r ds P N (.block id c) Q s := fun cx hn => cx_block (h cx hn)
theorem cr_condT {c : Operand} {x y : Code} {Q : Exit → St → Prop} {s : St} {b : Bool} (hc : s.val c = some (.d (.v (.bool b)))) (hb : b = true) (h : CWr r ds P N x Q s) : CWr r ds P N (.cond c x y) Q s := fun cx hn => cx_condT hc hb (h cx hn)
theorem cr_condF {c : Operand} {x y : Code} {Q : Exit → St → Prop} {s : St} {b : Bool} (hc : s.val c = some (.d (.v (.bool b)))) (hb : b = false) (h : CWr r ds P N y Q s) : CWr r ds P N (.cond c x y) Q s := fun cx hn => cx_condF hc hb (h cx hn)
theorem cr_leads {c : Code} {Q : Exit → St → Prop} {s s' : St} (hw : Leads N s s') (h : CWr r ds P N c Q s') : CWr r ds P N c Q s := fun cx hn => cx_leads hn hw (h cx hn)
theorem cr_post {c : Code} {Q : Exit → St → Prop} {s : St} (h : CWr r ds P N c (fun e s' => ∃ s'',Leads N s' s'' ∧ Q e s'') s) : CWr r ds P N c Q s := fun cx hn => cx_post hn (h cx hn)
theorem cr_join {ι : Type} {x y : Code} {Q : Exit → St → Prop} {s : St} (st : ι → St) (φ : ι → Prop) (hy : ∀ v,φ v → CWr r ds P N y Q (st v))
  (hx : CWr r ds P N x (thenS (fun s' => ∃ v,φ v ∧ Leads N s' (st v)) Q) s) : CWr r ds P N (.seq x y) Q s :=
 qr4 (cr_mono hx fun e s' h => by
  cases e with
  | normal => obtain ⟨v,h1,h2⟩ := h; exact cr_leads h2 (hy v h1)
  | _ => exact h)
end
end
end Go.Val
namespace Go.Val
open Go.RowKit
variable [Drw]
structure SegX (L : Nat → Prop) (E E' : Env) : Prop where
 ok : q85 E'
 own : ∀ o b,E'.obj o ≠ none → E'.has o b → E.w.heap.size ≤ b ∨ E.T b
 keeps : Keeps ⟨(0,0),E,fun b => E.T b ∨ L b,E.J⟩ E'.w
 jsub : ∀ b,E'.J b → E.J b ∨ E.w.heap.size ≤ b ∨ E.T b
 jsup : ∀ b,b < E.w.heap.size → E.J b → E'.J b
 hist : ∀ o ob,E.obj o = some ob → ∃ ob',E'.obj o = some ob' ∧ OExt E E' o ob ob'
theorem SegX.ltsz {L : Nat → Prop} {E E' : Env} (h : SegX L E E') : E.w.heap.size ≤ E'.w.heap.size := h.keeps.size
theorem SegX.trans {L : Nat → Prop} {E E' E'' : Env} (h : SegX L E E') (k : SegX L E' E'') : SegX L E E'' := by
 have ho : ∀ b,E'.w.heap.size ≤ b ∨ E'.T b → E.w.heap.size ≤ b ∨ E.T b := by
  rintro b (q | ⟨o,q1,q2⟩)
  ·exact .inl (Nat.le_trans h.ltsz q)
  ·exact h.own o b q1 q2
 refine ⟨k.ok,fun o b q1 q2 => ho b (k.own o b q1 q2),?_,fun b q => ?_,fun b q0 q => k.jsup b (Nat.lt_of_lt_of_le q0 h.ltsz) (h.jsup b q0 q),fun o ob q => ?_⟩
 ·refine ⟨k.keeps.os.trans h.keeps.os,k.keeps.tape.trans h.keeps.tape,k.keeps.output.trans h.keeps.output,Nat.le_trans h.keeps.size k.keeps.size,fun b q1 q2 => ?_,fun d => Nat.le_trans (h.keeps.drawn d) (k.keeps.drawn d)⟩
  refine (k.keeps.block b (Nat.lt_of_lt_of_le q1 h.ltsz) ?_).trans (h.keeps.block b q1 q2)
  rintro (q | q)
  ·rcases ho b (.inr q) with q3 | q3
   ·have : b < E.w.heap.size := q1
    omega
   ·exact q2 (.inl q3)
  ·exact q2 (.inr q)
 ·rcases k.jsub b q with q | q
  ·exact h.jsub b q
  ·exact .inr (ho b q)
 ·obtain ⟨ob',q1,q2⟩ := h.hist o ob q
  obtain ⟨ob'',q3,q4⟩ := k.hist o ob' q1
  exact ⟨ob'',q3,q2.trans q4⟩
theorem SegX.ext {L : Nat → Prop} {E E' : Env} (h : SegX L E E') (hL : ∀ b,L b → ¬ E.J b) : Ext E E' := by
 have hT : ∀ b,E.I b → ¬ E.T b := by
  rintro b q ⟨o,q1,q2⟩
  obtain ⟨ob,q1⟩ := Option.ne_none_iff_exists'.1 q1
  exact q.2 o ob q1 q2
 refine ⟨h.ltsz,fun b q1 q2 => ⟨⟨h.jsup b q2 q1.1,fun o ob q3 q4 => ?_⟩,h.keeps.block b q2 ?_⟩,h.hist⟩
 ·rcases h.own o b (by rw [q3]; simp) q4 with q | q
  ·omega
  ·exact hT b q1 q
 ·rintro (q | q)
  ·exact hT b q1 q
  ·exact hL b q q1.1
def Env.J' (E : Env) (b : Nat) : Prop := E.J b ∨ E.w.heap.size ≤ b ∨ E.T b
def Env.cx (E : Env) (nk : Nat × Nat) : Cx := ⟨nk,E,E.T,E.J'⟩
theorem SegX.of_r0 {L : Nat → Prop} {nk : Nat × Nat} {E E' : Env} {s : St} {a : Act} (h : R0 (E.cx nk) s a E') : SegX L E E' := by
 have hm : E'.J = E.J' := h.may
 refine ⟨⟨fun o ob ho => h.objs o ob (by rw [← h.obj]; exact ho),fun o o' b q1 q2 e1 e2 => h.inj o o' b (by rw [← h.obj]; exact q1) (by rw [← h.obj]; exact q2) e1 e2⟩,fun o b q1 q2 => h.own o b (by rw [← h.obj]; exact q1) q2,
  ⟨h.keeps.os,h.keeps.tape,h.keeps.output,h.keeps.size,fun b q1 q2 => h.keeps.block b q1 (fun q => q2 (.inl q)),h.keeps.drawn⟩,fun b q => by rw [hm] at q; exact q,fun b _ q => by rw [hm]; exact .inl q,h.hist⟩
theorem SegX.close {l : Nat} {E E' : Env} (h : SegX (· = l) E E') (hl : E'.w.heap[l]? = E.w.heap[l]?) : SegX (fun _ => False) E E' :=
 ⟨h.ok,h.own,⟨h.keeps.os,h.keeps.tape,h.keeps.output,h.keeps.size,fun b q1 q2 => by
  by_cases e : b = l
  ·subst e; exact hl
  ·exact h.keeps.block b q1 (fun q => q.elim (fun q => q2 (.inl q)) (fun q => e q)),h.keeps.drawn⟩,h.jsub,h.jsup,h.hist⟩
theorem SegX.ret {E E' : Env} {Post : AV → (Nat → Option OB) → Prop} {res : AV} {v : Value} (h : SegX (fun _ => False) E E') (hp : Post res E'.obj) (hv : VR E' res v) : Ret E Post (.returned v) E'.w :=
 ⟨v,res,E',rfl,rfl,hp,hv,h.ok,h.own,⟨h.keeps.os,h.keeps.tape,h.keeps.output,h.keeps.size,fun b q1 q2 => h.keeps.block b q1 (fun q => q.elim q2 id),h.keeps.drawn⟩,h.jsub,h.hist⟩
theorem r0_start {nk : Nat × Nat} {E : Env} {s : St} {a : Act} (hE : E.obj = s.obj) (hok : q85 E) (hk : ∀ o,s.obj o ≠ none → o < nk.2) (hd : a.defers = []) (hsz : a.tmps.size = nk.1)
  (hsl : ∀ t x,s.slot t = some x → VR E x (a.tmps.getD t undef)) : R0 (E.cx nk) s a { E with J := E.J' } := by
 let E0 : Env := { E with J := E.J' }
 have ext : Ext E E0 := by
  refine ⟨Nat.le_refl _,fun b hb _ => ⟨⟨.inl hb.1,hb.2⟩,rfl⟩,fun o ob ho => ⟨ob,ho,?_⟩⟩
  cases ob <;> simp [OExt,E0]
 refine ⟨hE,rfl,fun b hb => .inr hb,fun o ho => hk o (by rw [← hE]; exact ho),ext.live,hd,hsz,fun t x ht => (hsl t x ht).ext ext,fun o ob ho => ?_,fun o o' b h1 h2 e1 e2 => hok.2 o o' b (by rw [hE]; exact h1) (by rw [hE]; exact h2) e1 e2,
  fun o b h1 e1 => .inr ⟨o,by rw [hE]; exact h1,e1⟩,⟨rfl,rfl,rfl,Nat.le_refl _,fun _ _ _ => rfl,fun _ => Nat.le_refl _⟩⟩
 have := hok.1 o ob (by rw [hE]; exact ho)
 exact this.ext ext (by rw [hE]; exact ho) rfl rfl rfl rfl (fun _ _ => rfl) (fun m ver l cu e => ⟨rfl,fun es hes => ⟨hes,rfl,rfl⟩,fun h => h⟩)
theorem r_start {nk : Nat × Nat} {E : Env} {s : St} {a : Act} (hE : E.obj = s.obj) (hok : q85 E) (hk : ∀ o,s.obj o ≠ none → o < nk.2) (hd : a.defers = []) (hsz : a.tmps.size = nk.1)
  (hsl : ∀ t x,s.slot t = some x → VR E x (a.tmps.getD t undef)) : R (E.cx nk) s a E.w := ⟨{ E with J := E.J' },rfl,r0_start hE hok hk hd hsz hsl⟩
theorem envOk_world {E : Env} {w : World} (hok : q85 E) (he : Ext E { E with w := w }) (hb : ∀ o ob b,E.obj o = some ob → E.has o b → w.heap[b]? = E.w.heap[b]?) : q85 { E with w := w } :=
 ⟨fun o ob ho => (hok.1 o ob ho).ext he ho rfl rfl rfl rfl (fun b q => hb o ob b ho q) (fun m ver l cu e => ⟨rfl,fun es hes => ⟨hes,rfl,rfl⟩,fun h => h⟩),hok.2⟩
def Env.putL (E : Env) (l : Nat) (x : Obj) : Env := { E with w := E.w.putObj l x }
theorem SegX.putL {E : Env} {l : Nat} {x o : Obj} (hok : q85 E) (hl : E.w.heap[l]? = some o) (hh : ∀ c,E.obj c ≠ none → ¬ E.has c l) (hJ : ¬ E.J l) : SegX (· = l) E (E.putL l x) := by
 have same : ∀ b,b ≠ l → (E.w.putObj l x).heap[b]? = E.w.heap[b]? := fun b e => World.putObj_heap_other e
 have he : Ext E (E.putL l x) := by
  refine ⟨by simp [Env.putL],fun b q1 _ => ⟨q1,same b (fun e => by subst e; exact hJ q1.1)⟩,fun o ob ho => ⟨ob,ho,?_⟩⟩
  cases ob <;> simp [OExt,Env.putL]
 refine ⟨envOk_world hok he (fun o ob b q1 q2 => same b (fun e => by subst e; exact hh o (by rw [q1]; simp) q2)),fun o b q1 q2 => .inr ⟨o,q1,q2⟩,⟨rfl,rfl,rfl,by simp [Env.putL,Cx.w0],fun b _ q => same b (fun e => q (.inr e)),fun _ => Nat.le_refl _⟩,fun b q => .inl q,fun b _ q => q,he.live⟩
theorem SegX.notJ {L : Nat → Prop} {E E' : Env} (h : SegX L E E') {l : Nat} (hlt : l < E.w.heap.size) (hT : ¬ E.T l) (hJ : ¬ E.J l) : ¬ E'.J l ∧ (∀ c,E'.obj c ≠ none → ¬ E'.has c l) := by
 refine ⟨fun q => ?_,fun c q1 q2 => ?_⟩
 ·rcases h.jsub l q with q | q | q
  ·exact hJ q
  ·omega
  ·exact hT q
 ·rcases h.own c l q1 q2 with q | q
  ·omega
  ·exact hT q
def Round (l : Nat) (P : Program) (nt k : Nat) (sO : List (Nat × AV)) (p : Nat) (as bo : Code) (mi mo : List (Nat × OB)) (pd : AV) : Prop :=
 ∃ (sA : St) (k' : Nat),(∀ o,sA.obj o ≠ none → o < k') ∧ CWr (some l) [] P (nt,k) as (fun e s' => e = .normal ∧ s' = sA) ⟨upd (lk sO) p (some pd),lk mi⟩ ∧
  CWr (some l) [] P (nt,k') bo (fun e s' => e = .normal ∧ s'.obj = lk mo) sA
theorem round_ok {l m nt k p : Nat} {P : Program} {sO : List (Nat × AV)} {as bo : Code} {mi mo : List (Nat × OB)} {pd : AV} {pv : Value} {rec : Loop} {E : Env} (hE : E.obj = lk mi) (hok : q85 E) (hl : E.w.heap[l]? = some (.loop rec)) (hJ : ¬ E.J l)
  (hh : ∀ c,E.obj c ≠ none → ¬ E.has c l) (has : rec.assign = as) (hbo : rec.body = bo) (hpar : rec.params = #[p]) (htm : rec.tmps.size = nt) (hst : rec.state = .ready) (hpend : rec.pending = none) (hp : p < nt)
  (hsl : ∀ t x,lk sO t = some x → VR E x (rec.tmps.getD t undef)) (hpv : VR E pd pv) (hk : ∀ o,lk mi o ≠ none → o < k) (hR : Round l P nt k sO p as bo mi mo pd) :
  YieldAt Fence.wide m P l #[pv] E.w (Ret E (fun rr oo => rr = .d (.v (.bool true)) ∧ oo = lk mo)) := by
 subst has
 subst hbo
 obtain ⟨sA,k',hk',hA,hB⟩ := hR
 have hlt : l < E.w.heap.size := (Array.getElem?_eq_some_iff.1 hl).1
 have hT : ¬ E.T l := by rintro ⟨o,q1,q2⟩; exact hh o q1 q2
 refine ⟨rec.fn,_,rec.assign,rec.body,run_yield hl (by rw [hpar]; rfl),roundIn_of_wpIn trivial ?_⟩
 have e0 : ({ tmps := (rec.params.zip #[pv]).foldl (fun tmps (t,a) => tmps.setIfInBounds t a) rec.tmps,defers := [] } : Act) = Act.mark (({ tmps := rec.tmps,defers := [] } : Act).put (some p) pv) [] := by rw [hpar]; simp [Act.put,Act.mark]
 rw [e0]
 have h0 : R (E.cx (nt,k)) ⟨upd (lk sO) p (some pd),lk mi⟩ (({ tmps := rec.tmps,defers := [] } : Act).put (some p) pv) E.w := by
  refine r_start hE hok hk rfl (by simp [Act.put,htm]) (fun t x ht => ?_)
  rw [qM4 _ _ _ _ (by show p < rec.tmps.size; rw [htm]; exact hp)]
  simp only [qV] at ht
  split at ht
  ·cases ht; rw [if_pos (by assumption)]; exact hpv
  ·rw [if_neg (by assumption)]; exact hsl t x ht
 refine wpIn_mono (hA _ rfl m _ _ h0) ?_
 rintro e a' w' ⟨s',a1,rfl,⟨rfl,rfl⟩,Ea,rfl,hRa⟩
 have sa : ∀ {L : Nat → Prop},SegX L E Ea := .of_r0 hRa
 obtain ⟨hJa,hha⟩ := (sa (L := fun _ => False)).notJ hlt hT hJ
 have hla : Ea.w.heap[l]? = some (.loop rec) := ((sa (L := fun _ => False)).keeps.block l hlt (fun q => q.elim hT id)).trans hl
 have hlta : l < Ea.w.heap.size := (Array.getElem?_eq_some_iff.1 hla).1
 refine ⟨_,run_beginRound hla hst,?_⟩
 have sb : SegX (· = l) Ea (Ea.putL l (.loop { rec with state := .busy })) := .putL (sa (L := fun _ => False)).ok hla hha hJa
 have eb := sb.ext (fun b q => by subst q; exact hJa)
 have hobj : (Ea.putL l (.loop { rec with state := .busy })).obj = s'.obj := hRa.obj
 have h1 : R ((Ea.putL l (.loop { rec with state := .busy })).cx (nt,k')) s' a1 (Ea.putL l (.loop { rec with state := .busy })).w := r_start hobj sb.ok hk' hRa.defers hRa.size (fun t x ht => (hRa.slots t x ht).ext eb)
 have hlb : (Ea.putL l (.loop { rec with state := .busy })).w.heap[l]? = some (.loop { rec with state := .busy }) := World.putObj_heap_same hlta
 have hltb := (Array.getElem?_eq_some_iff.1 hlb).1
 have hTb : ¬ (Ea.putL l (.loop { rec with state := .busy })).T l := by rintro ⟨o,q1,q2⟩; exact hha o q1 q2
 refine wpIn_mono (hB _ rfl m _ _ h1) ?_
 rintro e a'' w'' ⟨s'',a2,rfl,⟨rfl,hmo⟩,Ec,rfl,hRc⟩
 have sc : ∀ {L : Nat → Prop},SegX L (Ea.putL l (.loop { rec with state := .busy })) Ec := .of_r0 hRc
 obtain ⟨hJc,hhc⟩ := (sc (L := fun _ => False)).notJ hltb hTb hJa
 have hlc : Ec.w.heap[l]? = some (.loop { rec with state := .busy }) := ((sc (L := fun _ => False)).keeps.block l hltb (fun q => q.elim hTb id)).trans hlb
 have hltc := (Array.getElem?_eq_some_iff.1 hlc).1
 refine ⟨_,_,run_endRound none hlc,?_⟩
 have hrec : ({ ({ rec with state := .busy } : Loop) with state := if (none : Option Code).isNone then .ready else .done,pending := none } : Loop) = rec := by
  cases rec; simp_all
 rw [hrec]
 have sd : SegX (· = l) Ec (Ec.putL l (.loop rec)) := .putL (sc (L := fun _ => False)).ok hlc hhc hJc
 have tot : SegX (· = l) E (Ec.putL l (.loop rec)) := ((sa.trans sb).trans sc).trans sd
 have hle : (Ec.putL l (.loop rec)).w.heap[l]? = E.w.heap[l]? := by rw [hl]; exact World.putObj_heap_same hltc
 exact (tot.close hle).ret ⟨rfl,by show Ec.obj = lk mo; rw [hRc.obj]; exact hmo⟩ (.of_sc rfl)
theorem yield_after {l m nt k p : Nat} {P : Program} {sO : List (Nat × AV)} {as bo : Code} {mi mo : List (Nat × OB)} {pd : D} {pv : Value} {rec : Loop} {E0 E : Env} {nk : Nat × Nat} {s : St} {a : Act} {σ : Nat → Nat}
  (hR : R0 (E0.cx nk) s a E) (hl : E0.w.heap[l]? = some (.loop rec)) (hJ : ¬ E0.J l) (hh : ∀ c,E0.obj c ≠ none → ¬ E0.has c l)
  (has : rec.assign = as) (hbo : rec.body = bo) (hpar : rec.params = #[p]) (htm : rec.tmps.size = nt) (hst : rec.state = .ready) (hpend : rec.pending = none) (hp : p < nt)
  (hsl : ∀ t x,lk sO t = some x → VR E0 (x.ren σ) (rec.tmps.getD t undef)) (hlv : ∀ t x,lk sO t = some x → x.live (lk mi)) (hpv : VR E (.d pd) pv) (hC : CallIn s σ k mi mo [] []) (hRd : Round l P nt k sO p as bo mi mo (.d pd)) :
  YieldAt Fence.wide m P l #[pv] E.w (fun e w' => e = .returned (.bool true) ∧ ∃ E2,E2.w = w' ∧ R0 (E0.cx nk) { s with obj := qQ0 s.obj (mo.map fun p => (σ p.1,p.2.ren σ)) } a E2) := by
 have hlt : l < E0.w.heap.size := (Array.getElem?_eq_some_iff.1 hl).1
 have hT : ¬ E0.T l := by rintro ⟨o,q1,q2⟩; exact hh o q1 q2
 have sg : SegX (fun _ => False) E0 E := .of_r0 hR
 obtain ⟨hJE,hhE⟩ := sg.notJ hlt hT hJ
 have ext := sg.ext (fun _ q => q.elim)
 have hlE : E.w.heap[l]? = some (.loop rec) := (sg.keeps.block l hlt (fun q => q.elim hT id)).trans hl
 let Ec : Env := { obj := lk mi,β := fun o => E.β (σ o),γ := fun o => E.γ (σ o),δ := fun o => E.δ (σ o),φ := fun o => E.φ (σ o),J := fun bb => false = true ∨ E.I bb,w := E.w }
 have hEo : ∀ o ob,Ec.obj o = some ob → E.obj (σ o) = some (ob.ren σ) := fun o ob h => by rw [hR.obj]; exact (hC.objs _ (qN h)).1
 have hS : Sub E Ec σ := ⟨rfl,hEo,fun _ => rfl,fun _ => rfl,fun _ => rfl,fun _ => rfl,fun bb hb => ⟨.inr hb,fun o ob h e => hb.2 (σ o) _ (hEo o ob h) (by
  rcases e with e | ⟨e,x,hx⟩
  ·exact .inl e
  ·exact .inr ⟨e,_,hEo _ _ hx⟩)⟩⟩
 have inj0 : ∀ m m',lk mi m ≠ none → lk mi m' ≠ none → σ m = σ m' → m = m' := by
  intro m m' h1 h2 e
  obtain ⟨x1,h1⟩ := Option.ne_none_iff_exists'.1 h1
  obtain ⟨x2,h2⟩ := Option.ne_none_iff_exists'.1 h2
  exact hC.inj _ (qN h1) _ (qN h2) e
 have hok : q85 Ec := by
  refine ⟨fun o ob h => ?_,fun o o' bb h1 h2 e1 e2 => ?_⟩
  ·obtain ⟨q1,q2⟩ := hC.objs _ (qN h)
   exact OR.unren hS q2 inj0 (hR.objs _ _ q1)
  ·obtain ⟨x1,h1'⟩ := Option.ne_none_iff_exists'.1 h1
   obtain ⟨x2,h2'⟩ := Option.ne_none_iff_exists'.1 h2
   refine inj0 o o' h1 h2 (hR.inj _ _ bb ?_ ?_ (hS.has e1) (hS.has e2))
   ·rw [(hC.objs _ (qN h1')).1]; simp
   ·rw [(hC.objs _ (qN h2')).1]; simp
 have unv : ∀ {x : AV} {v : Value},x.live (lk mi) → VR E (x.ren σ) v → VR Ec x v := by
  rintro x v hx ⟨cs,q1,q2⟩
  exact ⟨cs,CR.unren hS x hx q1,by rw [← qS2 σ]; exact q2⟩
 have hy := round_ok (m := m) (E := Ec) (k := k) rfl hok hlE (fun q => by rcases q with q | q; cases q; exact hJE q.1) (fun c q1 q2 => by
   obtain ⟨x,hx⟩ := Option.ne_none_iff_exists'.1 q1
   exact hhE (σ c) (by rw [hEo _ _ hx]; simp) (hS.has q2)) has hbo hpar htm hst hpend hp
  (fun t x ht => unv (hlv t x ht) ((hsl t x ht).ext ext)) (unv (x := .d pd) trivial hpv) (fun o ho => by
   obtain ⟨x,hx⟩ := Option.ne_none_iff_exists'.1 ho
   exact hC.lt _ (qN hx)) hRd
 obtain ⟨fn,tmps,as',bo',q1,q2⟩ := hy
 refine ⟨fn,tmps,as',bo',q1,q2.mono ?_⟩
 rintro e w' ⟨v,res,E',rfl,rfl,⟨rfl,hpost⟩,hv,hok',hown,hkeep,hJ',hlive⟩
 obtain ⟨E2,r1,r2,r3⟩ := q94 (b := false) hR hC hS rfl (fun bb h => h) hpost hv hok' hown hkeep hJ' hlive (.inl rfl)
 have hvv : v = .bool true := r2.sc
 exact ⟨by rw [hvv],E2,r1,r3⟩
section
variable {P : Program} {cx : Cx} {N : Nat × Nat} {r : Option Nat} {ds : List Deferred}
theorem cx_while {V O : Type} {c : Code} {Q : Exit → St → Prop} {s : St} {body : V → Option (V ⊕ O)} {v : V} {o : O} (hn : cx.nk = N) (st : V → St) (hw : qA body v = some o) (h0 : Leads N s (st v))
  (round : ∀ v x,body v = some x → (∀ o',x = .inr o' → o' = o) → CWx r ds P cx c (thenS (fun s' => ∃ v',x = .inl v' ∧ Leads N s' (st v')) Q) (st v)) : CWx r ds P cx (.loop c) Q s := by
 obtain ⟨m,hm⟩ := qJ2 hw
 refine cx_leads hn h0 ?_
 intro n a w hR
 refine wpIn_loop_rounds m ?_
 clear h0 hw
 induction m generalizing v a w with
 | zero => cases hm
 | succ m ih =>
  simp only [iter] at hm
  obtain ⟨x,h1,h2⟩ := bdS hm
  rw [roundsIn_succ]
  have hr := round v x h1 (fun o' e => by subst e; simpa using h2)
  refine wpIn_mono (hr n a w hR) ?_
  rintro e a' w' ⟨s',a0,rfl,hq,hR'⟩
  cases e with
  | normal =>
   obtain ⟨v',rfl,hwk⟩ := hq
   exact ih (v := v') h2 a0 w' (hwk cx a0 w' hn hR')
  | exit id => exact ⟨s',a0,rfl,hq,hR'⟩
  | goto l => exact ⟨s',a0,rfl,hq,hR'⟩
  | ret => exact ⟨s',a0,rfl,hq,hR'⟩
  | panic ch => exact ⟨s',a0,rfl,hq,hR'⟩
  | outgrown => exact ⟨s',a0,rfl,hq,hR'⟩
theorem cx_yield {id l nt k p t17 t18 dd : Nat} {o0 o1 o3 : Oper} {T ty : TypeId} {pos : String} {af : Array Edge} {sO : List (Nat × AV)} {as bo : Code} {mi mo : List (Nat × OB)} {pd : D} {rec : Loop} {E0 : Env} {nk : Nat × Nat} {s : St} {σ : Nat → Nat} {Q : Exit → St → Prop} {r0 r1 r3 : SR}
  (hl : E0.w.heap[l]? = some (.loop rec)) (hJ : ¬ E0.J l) (hh : ∀ c,E0.obj c ≠ none → ¬ E0.has c l)
  (has : rec.assign = as) (hbo : rec.body = bo) (hpar : rec.params = #[p]) (htm : rec.tmps.size = nt) (hst : rec.state = .ready) (hpend : rec.pending = none) (hp : p < nt)
  (hsl : ∀ t x,lk sO t = some x → VR E0 (x.ren σ) (rec.tmps.getD t undef)) (hlv : ∀ t x,lk sO t = some x → x.live (lk mi)) (hRd : Round l P nt k sO p as bo mi mo (.d pd))
  (hd : qE3 #[o0,o1,⟨some dd,.call ⟨.value (.tmp t17),#[.tmp t18],#[T]⟩,ty,pos,af,none⟩,o3] = true) (hdd : dd < nk.1)
  (v0 : Valid P nk #[o0,o1,⟨some dd,.call ⟨.value (.tmp t17),#[.tmp t18],#[T]⟩,ty,pos,af,none⟩,o3] 0 r0 s)
  (v1 : Valid P nk #[o0,o1,⟨some dd,.call ⟨.value (.tmp t17),#[.tmp t18],#[T]⟩,ty,pos,af,none⟩,o3] 1 r1 (r0.apply s))
  (h17 : (r1.apply (r0.apply s)).slot t17 = some (.d (.v (.func (.yield l) #[] #[])))) (h18 : (r1.apply (r0.apply s)).slot t18 = some (.d pd)) (hC : CallIn (r1.apply (r0.apply s)) σ k mi mo [] [])
  (v3 : Valid P nk #[o0,o1,⟨some dd,.call ⟨.value (.tmp t17),#[.tmp t18],#[T]⟩,ty,pos,af,none⟩,o3] 3 r3 (St.put { (r1.apply (r0.apply s)) with obj := qQ0 (r1.apply (r0.apply s)).obj (mo.map fun p => (σ p.1,p.2.ren σ)) } dd (.d (.v (.bool true)))))
  (hQ : Q .normal (r3.apply (St.put { (r1.apply (r0.apply s)) with obj := qQ0 (r1.apply (r0.apply s)).obj (mo.map fun p => (σ p.1,p.2.ren σ)) } dd (.d (.v (.bool true)))))) :
  CWx none [] P (E0.cx nk) (.region id #[o0,o1,⟨some dd,.call ⟨.value (.tmp t17),#[.tmp t18],#[T]⟩,ty,pos,af,none⟩,o3] false) Q s := by
 intro n a w hR
 refine wpIn_region ?_
 show wpOpsIn (FR none) n P _ _ [0,1,2,3] _ _
 rw [wpOpsIn_cons]
 refine q51 hd rfl v0 hR (fun a w hR => ?_)
 rw [wpOpsIn_cons]
 refine q51 hd rfl v1 hR (fun a w hR => ?_)
 obtain ⟨E,rfl,hR⟩ := hR
 have e17 : a.eval (.tmp t17) = .func (.yield l) #[] #[] := by
  have := (hR.slots _ _ h17).sc
  exact this
 have hpv : VR E (.d pd) (a.eval (.tmp t18)) := hR.slots _ _ h18
 obtain ⟨fn,tmps,as',bo',y1,y2⟩ := yield_after (m := n - 1) hR hl hJ hh has hbo hpar htm hst hpend hp hsl hlv hpv hC hRd
 refine in_round (o := ⟨some dd,.call ⟨.value (.tmp t17),#[.tmp t18],#[T]⟩,ty,pos,af,none⟩) (w' := E.w) rfl rfl (by intro c h; cases h) (fun _ => trivial) rfl (l := l) (fn := fn) (tmps := tmps) (assign := as') (body := bo') ?_ (RoundIn.mono (show RoundIn (FR none) (n - 1) P l fn tmps as' bo' E.w _ from y2) ?_)
 ·simp only [execOp,resolve,eval_mark,e17,Deferred.ofValue,Sem.run_bind,Sem.run_pure,Result.andThen,invoke,List.map_toArray,List.map_cons,List.map_nil]
  exact y1
 rintro e w' ⟨rfl,E2,rfl,hR2⟩
 refine ⟨_,rfl,?_⟩
 rw [qJ4,wpOpsIn_cons]
 refine q51 hd rfl v3 ⟨E2,rfl,hR2.put (.of_sc rfl) hdd⟩ (fun a w hR => ?_)
 exact ⟨_,a,rfl,hQ,hR⟩
end
end Go.Val
namespace Go.Val
open Go.RowKit
variable [Drw]
theorem SegX.mono {L L' : Nat → Prop} {E E' : Env} (h : SegX L E E') (hl : ∀ b,L b → L' b) : SegX L' E E' :=
 ⟨h.ok,h.own,⟨h.keeps.os,h.keeps.tape,h.keeps.output,h.keeps.size,fun b q1 q2 => h.keeps.block b q1 (fun q => q2 (q.imp id (hl b))),h.keeps.drawn⟩,h.jsub,h.jsup,h.hist⟩
theorem SegX.retNew {L : Nat → Prop} {E E' : Env} {Post : AV → (Nat → Option OB) → Prop} {res : AV} {v : Value} (h : SegX L E E') (hL : ∀ b,L b → E.w.heap.size ≤ b) (hp : Post res E'.obj) (hv : VR E' res v) : Ret E Post (.returned v) E'.w :=
 ⟨v,res,E',rfl,rfl,hp,hv,h.ok,h.own,⟨h.keeps.os,h.keeps.tape,h.keeps.output,h.keeps.size,fun b q1 q2 => h.keeps.block b q1 (by
  rintro (q | q)
  ·exact q2 q
  ·have := hL b q
   have q1 : b < E.w.heap.size := q1
   omega),h.keeps.drawn⟩,h.jsub,h.hist⟩
theorem SegX.of_ret {E : Env} {Post : AV → (Nat → Option OB) → Prop} {e : Ending} {w' : World} (h : Ret E Post e w') : ∃ v res E',e = .returned v ∧ E'.w = w' ∧ Post res E'.obj ∧ VR E' res v ∧ SegX (fun _ => False) E E' := by
 obtain ⟨v,res,E1,rfl,rfl,hp,hv,hok,hown,hkeep,hJ,hlive⟩ := h
 let E' : Env := { E1 with J := fun b => E1.J b ∨ E.J b }
 have ext : Ext E1 E' := by
  refine ⟨Nat.le_refl _,fun b hb _ => ⟨⟨.inl hb.1,hb.2⟩,rfl⟩,fun o ob ho => ⟨ob,ho,?_⟩⟩
  cases ob <;> simp [OExt,E']
 refine ⟨v,res,E',rfl,rfl,hp,hv.ext ext,⟨?_,hown,⟨hkeep.os,hkeep.tape,hkeep.output,hkeep.size,fun b q1 q2 => hkeep.block b q1 (fun q => q2 (.inl q)),hkeep.drawn⟩,fun b q => ?_,fun b _ q => .inr q,fun o ob q => ?_⟩⟩
 ·exact ⟨fun o ob ho => (hok.1 o ob ho).ext ext ho rfl rfl rfl rfl (fun _ _ => rfl) (fun m ver l cu e => ⟨rfl,fun es hes => ⟨hes,rfl,rfl⟩,fun h => h⟩),hok.2⟩
 ·rcases q with q | q
  ·exact hJ b q
  ·exact .inl q
 ·obtain ⟨ob',q1,q2⟩ := hlive o ob q
  refine ⟨ob',q1,?_⟩
  cases ob <;> cases ob' <;> simp only [OExt] at q2 ⊢ <;> exact q2
theorem SegX.two {E : Env} (hok : q85 E) (x y : Obj) (E2 : Env) (h2 : E2 = { E with w := (E.w.alloc x).alloc y,J := fun b => E.J b ∧ b < E.w.heap.size }) {L : Nat → Prop} : SegX L E E2 ∧ Ext E E2 := by
 subst h2
 have same : ∀ b,b < E.w.heap.size → ((E.w.alloc x).alloc y).heap[b]? = E.w.heap[b]? := fun b hb => (Below.heap_alloc _ _ _ (by simp; omega)).trans (Below.heap_alloc _ _ _ hb)
 have he : Ext E { E with w := (E.w.alloc x).alloc y,J := fun b => E.J b ∧ b < E.w.heap.size } := by
  refine ⟨by simp; omega,fun b q1 q2 => ⟨⟨⟨q1.1,q2⟩,q1.2⟩,same b q2⟩,fun o ob ho => ⟨ob,ho,?_⟩⟩
  cases ob <;> simp [OExt]
 refine ⟨⟨⟨fun o ob ho => (hok.1 o ob ho).ext he ho rfl rfl rfl rfl (fun b q => same b ((hok.1 o ob ho).lth ho q)) (fun m ver l cu e => ⟨rfl,fun es hes => ⟨hes,rfl,rfl⟩,fun h => h⟩),hok.2⟩,fun o b q1 q2 => .inr ⟨o,q1,q2⟩,
  ⟨rfl,rfl,rfl,by simp [Cx.w0]; omega,fun b q _ => same b q,fun _ => Nat.le_refl _⟩,fun b q => .inl q.1,fun b q0 q => ⟨q,q0⟩,he.live⟩,he⟩
structure SegK (k : Nat) (L : Nat → Prop) (E E' : Env) : Prop where
 ok : q85 E'
 own : ∀ o b,E'.obj o ≠ none → E'.has o b → E.w.heap.size ≤ b ∨ E.T b
 keeps : Keeps ⟨(0,0),E,fun b => E.T b ∨ L b,E.J⟩ E'.w
 jsub : ∀ b,E'.J b → E.J b ∨ E.w.heap.size ≤ b ∨ E.T b
 hist : ∀ o ob,o < k → E.obj o = some ob → ∃ ob',E'.obj o = some ob' ∧ OExt E E' o ob ob'
theorem SegX.toK {k : Nat} {L : Nat → Prop} {E E' : Env} (h : SegX L E E') : SegK k L E E' := ⟨h.ok,h.own,h.keeps,h.jsub,fun o ob _ => h.hist o ob⟩
theorem SegK.trans {k : Nat} {L : Nat → Prop} {E E' E'' : Env} (h : SegK k L E E') (g : SegK k L E' E'') : SegK k L E E'' := by
 have ho : ∀ b,E'.w.heap.size ≤ b ∨ E'.T b → E.w.heap.size ≤ b ∨ E.T b := by
  rintro b (q | ⟨o,q1,q2⟩)
  ·exact .inl (Nat.le_trans h.keeps.size q)
  ·exact h.own o b q1 q2
 refine ⟨g.ok,fun o b q1 q2 => ho b (g.own o b q1 q2),?_,fun b q => ?_,fun o ob q0 q => ?_⟩
 ·refine ⟨g.keeps.os.trans h.keeps.os,g.keeps.tape.trans h.keeps.tape,g.keeps.output.trans h.keeps.output,Nat.le_trans h.keeps.size g.keeps.size,fun b q1 q2 => ?_,fun d => Nat.le_trans (h.keeps.drawn d) (g.keeps.drawn d)⟩
  refine (g.keeps.block b (Nat.lt_of_lt_of_le q1 h.keeps.size) ?_).trans (h.keeps.block b q1 q2)
  rintro (q | q)
  ·rcases ho b (.inr q) with q3 | q3
   ·have : b < E.w.heap.size := q1
    omega
   ·exact q2 (.inl q3)
  ·exact q2 (.inr q)
 ·rcases g.jsub b q with q | q
  ·exact h.jsub b q
  ·exact .inr (ho b q)
 ·obtain ⟨ob',q1,q2⟩ := h.hist o ob q0 q
  obtain ⟨ob'',q3,q4⟩ := g.hist o ob' q0 q1
  exact ⟨ob'',q3,q2.trans q4⟩
theorem SegK.retNew {k : Nat} {L : Nat → Prop} {E E' : Env} {Post : AV → (Nat → Option OB) → Prop} {res : AV} {v : Value} (h : SegK k L E E') (hk : ∀ o,E.obj o ≠ none → o < k) (hL : ∀ b,L b → E.w.heap.size ≤ b) (hp : Post res E'.obj) (hv : VR E' res v) : Ret E Post (.returned v) E'.w :=
 ⟨v,res,E',rfl,rfl,hp,hv,h.ok,h.own,⟨h.keeps.os,h.keeps.tape,h.keeps.output,h.keeps.size,fun b q1 q2 => h.keeps.block b q1 (by
  rintro (q | q)
  ·exact q2 q
  ·have := hL b q
   have q1 : b < E.w.heap.size := q1
   omega),h.keeps.drawn⟩,h.jsub,fun o ob q => h.hist o ob (hk o (by rw [q]; simp)) q⟩
def Env.cxK (E : Env) (nk : Nat × Nat) : Cx := ⟨nk,{ E with obj := fun o => bif Nat.blt o nk.2 then E.obj o else none },E.T,E.J'⟩
theorem r0_startK {nk : Nat × Nat} {E : Env} {s : St} {a : Act} (hE : E.obj = s.obj) (hok : q85 E) (hd : a.defers = []) (hsz : a.tmps.size = nk.1)
  (hsl : ∀ t x,s.slot t = some x → VR E x (a.tmps.getD t undef)) : R0 (E.cxK nk) s a { E with J := E.J' } := by
 obtain ⟨kb,hkb⟩ : ∃ kb : Nat,True := ⟨0,trivial⟩
 let E0 : Env := { E with J := E.J' }
 have ext : Ext E E0 := by
  refine ⟨Nat.le_refl _,fun b hb _ => ⟨⟨.inl hb.1,hb.2⟩,rfl⟩,fun o ob ho => ⟨ob,ho,?_⟩⟩
  cases ob <;> simp [OExt,E0]
 refine ⟨hE,rfl,fun b hb => .inr hb,fun o ho => ?_,fun o ob ho => ?_,hd,hsz,fun t x ht => (hsl t x ht).ext ext,fun o ob ho => ?_,fun o o' b h1 h2 e1 e2 => hok.2 o o' b (by rw [hE]; exact h1) (by rw [hE]; exact h2) e1 e2,
  fun o b h1 e1 => .inr ⟨o,by rw [hE]; exact h1,e1⟩,⟨rfl,rfl,rfl,Nat.le_refl _,fun _ _ _ => rfl,fun _ => Nat.le_refl _⟩⟩
 ·simp only [Env.cxK] at ho ⊢
  cases hq : Nat.blt o nk.2 with
  | true => exact Nat.le_of_ble_eq_true hq
  | false => rw [hq] at ho; exact absurd rfl ho
 ·simp only [Env.cxK] at ho
  cases hq : Nat.blt o nk.2 with
  | true =>
   rw [hq] at ho
   refine ⟨ob,ho,?_⟩
   cases ob <;> simp [OExt,Env.cxK]
  | false => rw [hq] at ho; cases ho
 have := hok.1 o ob (by rw [hE]; exact ho)
 exact this.ext ext (by rw [hE]; exact ho) rfl rfl rfl rfl (fun _ _ => rfl) (fun m ver l cu e => ⟨rfl,fun es hes => ⟨hes,rfl,rfl⟩,fun h => h⟩)
theorem SegK.of_r0 {L : Nat → Prop} {nk : Nat × Nat} {E E' : Env} {s : St} {a : Act} (h : R0 (E.cxK nk) s a E') : SegK nk.2 L E E' := by
 have hm : E'.J = E.J' := h.may
 refine ⟨⟨fun o ob ho => h.objs o ob (by rw [← h.obj]; exact ho),fun o o' b q1 q2 e1 e2 => h.inj o o' b (by rw [← h.obj]; exact q1) (by rw [← h.obj]; exact q2) e1 e2⟩,fun o b q1 q2 => h.own o b (by rw [← h.obj]; exact q1) q2,
  ⟨h.keeps.os,h.keeps.tape,h.keeps.output,h.keeps.size,fun b q1 q2 => h.keeps.block b q1 (fun q => q2 (.inl q)),h.keeps.drawn⟩,fun b q => by rw [hm] at q; exact q,fun o ob q0 q => ?_⟩
 have hb : Nat.blt o nk.2 = true := Nat.ble_eq_true_of_le q0
 obtain ⟨ob',q1,q2⟩ := h.hist o ob (by simp only [Env.cxK,hb,cond_true]; exact q)
 refine ⟨ob',q1,?_⟩
 cases ob <;> cases ob' <;> simp only [OExt] at q2 ⊢ <;> exact q2
theorem SegK.notJ {k : Nat} {L : Nat → Prop} {E E' : Env} (h : SegK k L E E') {l : Nat} (hlt : l < E.w.heap.size) (hT : ¬ E.T l) (hJ : ¬ E.J l) : ¬ E'.J l ∧ (∀ c,E'.obj c ≠ none → ¬ E'.has c l) := by
 refine ⟨fun q => ?_,fun c q1 q2 => ?_⟩
 ·rcases h.jsub l q with q | q | q
  ·exact hJ q
  ·omega
  ·exact hT q
 ·rcases h.own c l q1 q2 with q | q
  ·omega
  ·exact hT q
theorem lk_lt {α : Type} {m : List (Nat × α)} {k : Nat} (h : m.all (fun p => Nat.ble (p.1 + 1) k) = true) : ∀ o,lk m o ≠ none → o < k := by
 intro o ho
 obtain ⟨x,hx⟩ := Option.ne_none_iff_exists'.1 ho
 exact Nat.le_of_ble_eq_true (List.all_eq_true.1 h _ (qN hx))
theorem calls_of_cx {P : Program} {f nt k : Nat} {fn : Func} {c : Code} {E : Env} {s : St} {vals : List Value} {Post : AV → (Nat → Option OB) → Prop} (hf : P.funcs[f]? = some fn) (hb : fn.body = some c) (hn : fn.ntmps = nt) (hlen : vals.length ≤ nt)
  (hE : E.obj = s.obj) (hok : q85 E) (hk : ∀ o,s.obj o ≠ none → o < k) (hvals : ∀ t x,s.slot t = some x → ∃ v,vals[t]? = some v ∧ VR E x v)
  (h : CWx none [] P (E.cx (nt,k)) c (fun e s' => (e = .normal ∨ e = .ret) ∧ ∃ res,ResOk P fn s' res ∧ Post res s'.obj) s) : Calls P f vals.toArray E.w (Ret E Post) := by
 refine calls_of_wp hf hb ?_
 have hR : R (E.cx (nt,k)) s { tmps := vals.toArray ++ Array.replicate (fn.ntmps - vals.toArray.size) undef,defers := [] } E.w := by
  refine r_start hE hok hk rfl (by rw [hn]; simp; omega) (fun t x ht => ?_)
  obtain ⟨v,h1,h2⟩ := hvals t x ht
  have hlt := (List.getElem?_eq_some_iff.1 h1).1
  have : (vals.toArray ++ Array.replicate (fn.ntmps - vals.toArray.size) undef).getD t undef = v := by
   rw [Array.getD_eq_getD_getElem?,Array.getElem?_append_left (by simpa using hlt)]
   simp [h1]
  simp only [this]
  exact h2
 refine (wpIn_wide (n := 0)).1 (wpIn_mono (h 0 _ _ hR) ?_)
 rintro e a w' ⟨s',a0,rfl,⟨he,res,hres,hpost⟩,E',rfl,hR'⟩
 obtain ⟨v,h1,h2⟩ := hres _ _ _ hR'
 have fin : Ret E Post (.returned v) E'.w := (SegX.of_r0 hR').ret (by rw [hR'.obj]; exact hpost) h2
 rcases he with rfl | rfl
 ·exact ⟨rfl,v,h1,fin⟩
 ·exact ⟨rfl,v,h1,fin⟩
theorem fnOk_rf {P : Program} {f gf nt k g p b0 : Nat} {fn : Func} {A0 A1 A3 as bo B : Code} {args caps : List AV} {oin : Nat → Option OB} {Post : AV → (Nat → Option OB) → Prop} {s1 s2 s3 : St} {m4 : List (Nat × OB)}
  (hf : P.funcs[f]? = some fn) (hb : fn.body = some (.seq A0 (.seq A1 (.seq (.seq A3 (.block b0 (.rangeFunc (.tmp g) #[p] as bo))) B)))) (hn : fn.ntmps = nt) (hn' : Nat.ble args.length nt = true)
  (h0 : CWp P (nt,k) A0 (fun e s' => e = .normal ∧ s' = s1) ⟨fun t => args[t]?,oin⟩) (h1 : CWp P (nt,k) A1 (fun e s' => e = .normal ∧ s' = s2) s1) (h3 : CWp P (nt,k) A3 (fun e s' => e = .normal ∧ s' = s3) s2)
  (hg : s3.slot g = some (.fn gf [] caps)) (eg : ∀ args w,(callFunc gf args).run P w = .ok (.enter gf args) w)
  (hit : ∀ (l : Nat) (rec : Loop) (E0 : Env) (vals : List Value),E0.obj = s3.obj → q85 E0 → E0.w.heap[l]? = some (.loop rec) → ¬ E0.J l → (∀ c,E0.obj c ≠ none → ¬ E0.has c l) → rec.assign = as → rec.body = bo → rec.params = #[p] →
   rec.tmps.size = nt → rec.state = .ready → rec.pending = none → (∀ t x,s3.slot t = some x → VR E0 x (rec.tmps.getD t undef)) → VRs E0 caps vals →
   Calls P gf (#[.func (.yield l) #[] #[]] ++ vals.toArray) E0.w (Ret E0 (fun _ oo => oo = lk m4)))
  (hB : ∀ ds,CWr none ds P (nt,k) B (fun e s' => (e = .normal ∨ e = .ret) ∧ (∃ k5,∀ o,s'.obj o ≠ none → o < k5) ∧ ∃ res,ResOk P fn s' res ∧ Post res s'.obj) ⟨s3.slot,lk m4⟩) : FnOk P f args k oin Post := by
 intro hk E vals hE hok hargs
 obtain ⟨hl,hget⟩ := hargs.get
 have hn'' := Nat.le_of_ble_eq_true hn'
 refine (callsIn_wide (n := 0)).1 (callsIn_of_wp_marks hf hb trivial ?_ rfl)
 have hR : R (E.cx (nt,k)) ⟨fun t => args[t]?,oin⟩ { tmps := vals.toArray ++ Array.replicate (fn.ntmps - vals.toArray.size) undef,defers := [] } E.w := by
  refine r_start hE hok (fun o ho => hk o ho) rfl (by rw [hn]; simp; omega) (fun t x ht => ?_)
  obtain ⟨v,h1,h2⟩ := hget t x ht
  have hlt := (List.getElem?_eq_some_iff.1 h1).1
  have : (vals.toArray ++ Array.replicate (fn.ntmps - vals.toArray.size) undef).getD t undef = v := by
   rw [Array.getD_eq_getD_getElem?,Array.getElem?_append_left (by simpa using hlt)]
   simp [h1]
  simp only [this]
  exact h2
 refine wpIn_seq (wpIn_mono (wpIn_wide.2 (h0 _ _ _ rfl hR)) ?_)
 rintro e a w ⟨s',⟨rfl,rfl⟩,hR⟩
 refine wpIn_seq (wpIn_mono (wpIn_wide.2 (h1 _ _ _ rfl hR)) ?_)
 rintro e a w ⟨s'',⟨rfl,rfl⟩,hR⟩
 refine wpIn_seq (wpIn_seq (wpIn_mono (wpIn_wide.2 (h3 _ _ _ rfl hR)) ?_))
 rintro e a1 w ⟨s3',⟨rfl,rfl⟩,E1,rfl,hR1⟩
 refine wpIn_block (wpIn_rangeFunc ?_)
 intro fnid _
 have sg1 : ∀ {L : Nat → Prop},SegX L E E1 := .of_r0 hR1
 obtain ⟨rec,hrec⟩ : ∃ rec : Loop,rec = { state := .ready,pending := none,fn := fnid,tmps := a1.tmps,params := #[p],assign := as,body := bo,defers := E1.w.heap.size } := ⟨_,rfl⟩
 obtain ⟨E2,hE2⟩ : ∃ E2 : Env,E2 = { E1 with w := (E1.w.alloc (.deferred (some []))).alloc (.loop rec),J := fun b => E1.J b ∧ b < E1.w.heap.size } := ⟨_,rfl⟩
 have sg2 : ∀ {L : Nat → Prop},SegX L E1 E2 := (SegX.two (sg1 (L := fun _ => False)).ok _ _ E2 hE2).1
 have ext2 : Ext E1 E2 := (SegX.two (L := fun _ => False) (sg1 (L := fun _ => False)).ok _ _ E2 hE2).2
 have hl2 : E2.w.heap[E1.w.heap.size + 1]? = some (.loop rec) := by
  rw [hE2]
  have := qU (E1.w.alloc (.deferred (some []))) (.loop rec)
  simpa using this
 have hD2 : E2.w.heap[E1.w.heap.size]? = some (.deferred (some [])) := by
  rw [hE2]; exact (Below.heap_alloc _ _ _ (by simp)).trans (qU _ _)
 have hJ2 : ∀ b,E1.w.heap.size ≤ b → ¬ E2.J b := fun b hb q => by rw [hE2] at q; have := q.2; omega
 have hh2 : ∀ b,E1.w.heap.size ≤ b → ∀ c,E2.obj c ≠ none → ¬ E2.has c b := by
  intro b hb c q1 q2
  rw [hE2] at q1 q2
  obtain ⟨x,hx⟩ := Option.ne_none_iff_exists'.1 q1
  have := ((sg1 (L := fun _ => False)).ok.1 c x hx).lth hx q2
  omega
 have hval : VR E1 (.fn gf [] caps) (a1.eval (.tmp g)) := hR1.slots _ _ hg
 obtain ⟨cs,hv1,hv2⟩ := hval
 cases hv1 with
 | @fn _ _ _ xs ys hxs hys =>
 cases hxs
 have e6 : a1.eval (.tmp g) = .func (.func gf) #[] ys.toArray := hv2
 refine ⟨E1.w.heap.size + 1,[{ target := .collected E1.w.heap.size,args := #[] }],E2.w,{ target := .fn (.func gf) ys.toArray,args := #[.func (.yield (E1.w.heap.size + 1)) #[] #[]] },E2.w,gf,
  #[.func (.yield (E1.w.heap.size + 1)) #[] #[]] ++ ys.toArray,E2.w,?_,?_,fun _ _ => trivial,?_,fun h => (by cases h),?_⟩
 ·rw [hE2,hrec]; exact run_enterLoop_outer _ _ _ _ _
 ·simp only [resolve,rangeCall,e6]
  simp [go_sem]
 ·simp [invoke,go_sem,eg]
 have hcall := hit (E1.w.heap.size + 1) rec E2 ys (by rw [hE2]; exact hR1.obj) (sg2 (L := fun _ => False)).ok hl2 (hJ2 _ (by omega)) (hh2 _ (by omega)) (by rw [hrec]) (by rw [hrec]) (by rw [hrec]) (by rw [hrec]; exact hR1.size) (by rw [hrec]) (by rw [hrec])
  (fun t x ht => by rw [hrec]; exact (hR1.slots t x ht).ext ext2) (VRs.ext ext2 hys)
 have hcall2 : CallsIn Fence.wide (0 - 1) P gf (#[.func (.yield (E1.w.heap.size + 1)) #[] #[]] ++ ys.toArray) E2.w _ := callsIn_wide.2 hcall
 refine hcall2.mono ?_
 intro e W2 hret
 obtain ⟨v0,res0,E3,rfl,rfl,hm4,_,sg3⟩ := SegX.of_ret hret
 have ext3 := sg3.ext (fun _ q => q.elim)
 have hlt2 : E1.w.heap.size + 1 < E2.w.heap.size := (Array.getElem?_eq_some_iff.1 hl2).1
 have hT2 : ∀ b,E1.w.heap.size ≤ b → ¬ E2.T b := fun b hb ⟨o,q1,q2⟩ => hh2 b hb o q1 q2
 have hl3 : E3.w.heap[E1.w.heap.size + 1]? = some (.loop rec) := (sg3.keeps.block _ hlt2 (fun q => q.elim (hT2 _ (by omega)) id)).trans hl2
 have hD3 : E3.w.heap[E1.w.heap.size]? = some (.deferred (some [])) := (sg3.keeps.block _ (by show E1.w.heap.size < E2.w.heap.size; omega) (fun q => q.elim (hT2 _ (by omega)) id)).trans hD2
 obtain ⟨hJl3,hhl3⟩ := sg3.notJ hlt2 (hT2 _ (by omega)) (hJ2 _ (by omega))
 obtain ⟨hJD3,hhD3⟩ := sg3.notJ (l := E1.w.heap.size) (by omega) (hT2 _ (by omega)) (hJ2 _ (by omega))
 have hpen : rec.pending = none := by rw [hrec]
 have hend : (Instr.endLoop (E1.w.heap.size + 1)).run P E3.w = .ok none (E3.w.putObj (E1.w.heap.size + 1) (.loop { rec with state := .exhausted })) := (run_endLoop (P := P) hl3 (by rw [hrec]; simp)).trans (by rw [hpen])
 refine ⟨none,_,hend,?_⟩
 obtain ⟨E4,hE4⟩ : ∃ E4,E4 = E3.putL (E1.w.heap.size + 1) (.loop { rec with state := .exhausted }) := ⟨_,rfl⟩
 have hw4 : E3.w.putObj (E1.w.heap.size + 1) (.loop { rec with state := .exhausted }) = E4.w := by rw [hE4]; rfl
 rw [hw4]
 have sg4 : SegX (· = E1.w.heap.size + 1) E3 E4 := by rw [hE4]; exact .putL sg3.ok hl3 hhl3 hJl3
 have ext4 := sg4.ext (fun b q => by subst q; exact hJl3)
 have hD4 : E4.w.heap[E1.w.heap.size]? = some (.deferred (some [])) := by rw [hE4]; exact (World.putObj_heap_other (by omega)).trans hD3
 have hJD4 : ¬ E4.J E1.w.heap.size := by rw [hE4]; exact hJD3
 have hhD4 : ∀ c,E4.obj c ≠ none → ¬ E4.has c E1.w.heap.size := by rw [hE4]; exact hhD3
 have hR4 : R (E4.cxK (nt,k)) ⟨s3'.slot,lk m4⟩ a1 E4.w := ⟨{ E4 with J := E4.J' },rfl,r0_startK (by rw [hE4]; exact hm4) sg4.ok hR1.defers hR1.size (fun t x ht => (((hR1.slots t x ht).ext ext2).ext ext3).ext ext4)⟩
 have hmark : ({ a1 with defers := [{ target := .collected E1.w.heap.size,args := #[] }] ++ a1.defers } : Act) = Act.mark a1 [{ target := .collected E1.w.heap.size,args := #[] }] := by
  rw [hR1.defers]; rfl
 rw [hmark]
 show B.wpIn (FR none) _ _ _ _ _
 refine wpIn_mono (hB [{ target := .collected E1.w.heap.size,args := #[] }] _ rfl _ _ _ hR4) ?_
 rintro e a5 w5 ⟨s5,a0,rfl,⟨he,⟨k5,hk5⟩,res,hres,hpost⟩,E5,rfl,hR5⟩
 have sg5 : ∀ {L : Nat → Prop},SegK k L E4 E5 := .of_r0 hR5
 have hltD4 : E1.w.heap.size < E4.w.heap.size := (Array.getElem?_eq_some_iff.1 hD4).1
 have hTD4 : ¬ E4.T E1.w.heap.size := fun ⟨o,q1,q2⟩ => hhD4 o q1 q2
 have hD5 : E5.w.heap[E1.w.heap.size]? = some (.deferred (some [])) := ((sg5 (L := fun _ => False)).keeps.block _ hltD4 (fun q => q.elim hTD4 id)).trans hD4
 obtain ⟨hJD5,hhD5⟩ := (sg5 (L := fun _ => False)).notJ hltD4 hTD4 hJD4
 obtain ⟨E6,hE6⟩ : ∃ E6,E6 = E5.putL E1.w.heap.size (.deferred none) := ⟨_,rfl⟩
 have sg6 : SegX (· = E1.w.heap.size) E5 E6 := by rw [hE6]; exact .putL (sg5 (L := fun _ => False)).ok hD5 hhD5 hJD5
 have ext6 := sg6.ext (fun b q => by subst q; exact hJD5)
 have hR6 : R0 (E6.cx (nt,k5)) s5 a0 { E6 with J := E6.J' } := r0_start (by rw [hE6]; exact hR5.obj) sg6.ok hk5 hR5.defers hR5.size (fun t x ht => (hR5.slots t x ht).ext ext6)
 obtain ⟨v,hv1,hv2⟩ := hres _ _ _ hR6
 have sg7 : ∀ {L : Nat → Prop},SegX L E6 { E6 with J := E6.J' } := .of_r0 hR6
 have tot4 : SegX (fun b => b = E1.w.heap.size + 1 ∨ b = E1.w.heap.size) E E4 := ((sg1.trans sg2).trans (sg3.mono (fun _ q => q.elim))).trans (sg4.mono (fun _ q => .inl q))
 have tot : SegK k (fun b => b = E1.w.heap.size + 1 ∨ b = E1.w.heap.size) E { E6 with J := E6.J' } :=
  ((tot4.toK.trans sg5).trans (sg6.mono (fun _ q => .inr q)).toK).trans sg7.toK
 have hfin : Ret E Post (.returned v) E6.w := tot.retNew (fun o ho => hk o (by rw [← hE]; exact ho)) (fun b q => by
  have := (sg1 (L := fun _ => False)).ltsz
  rcases q with q | q <;> omega) (by show Post res E6.obj; rw [hE6]; show Post res E5.obj; rw [hR5.obj]; exact hpost) hv2
 have hleave : LeavesInM Fence.wide 0 P fn a0.tmps (Ret E Post) [{ target := .collected E1.w.heap.size,args := #[] }] .returning E5.w := by
  refine ⟨by simp,.inl ⟨_,_,rfl,run_takeDeferred hD5,?_⟩⟩
  have hw6 : E5.w.putObj E1.w.heap.size (.deferred none) = E6.w := by rw [hE6]; rfl
  rw [hw6]
  exact ⟨v,hv1,hfin⟩
 rcases he with rfl | rfl
 ·exact hleave
 ·exact hleave
end Go.Val
namespace Go.Val
open Go.RowKit
variable [Drw]
def u8D (b : UInt8) : D := .v (u8v b)
theorem Hand.bs {s : St} {oin : Nat → Option OB} {σ : Nat → Nat} {o k m n c : Nat} (h : σ o = k) : Hand s oin σ (.bsl k m n c) (.bsl o m n c) false [] := by subst h; exact .same (y := .bsl o m n c)
section
variable {P : Program} {N : Nat × Nat} {ops : Array Oper} {i : Nat} {s : St} {d : Nat} {ty : TypeId} {pos : String} {af : Array Edge} {g : Option (Nat × Bool)} {gs : List Nat}
theorem b_shl {T : TypeId} {x y : Operand} {k kk : IntKind} (a : Int) (n : Int) (h : 0 ≤ n) : ∀ w,(eqGuard .shl T x y (.int k a) (.int kk n) >>= fun _ => binOp .shl T (.int k a) (.int kk n) : Sem Value).run P w = .ok (.int k (k.wrap (a * 2 ^ (min n.toNat k.bits)))) w := fun w => by
 have : ¬ n < 0 := by omega
 simp [eqGuard,binOp,Op.shift,this,Result.andThen]
theorem o_lenB {T e : Nat} {x : Operand} {o m n cap : Nat} (ho : ops[i]? = some ⟨some d,.call ⟨.builtin .len,#[x],#[T]⟩,ty,pos,af,g⟩) (hd : Nat.ble (d + 1) N.1 = true) (hg : G ops s g gs)
  (hx : s.val x = some (.bsl o m n cap)) (hT : slB P T = some e) :
  Valid P N ops i ⟨gs ++ opT x,[],some (d,some (.d (.v (.int .i64 (n : Int))))),[]⟩ s :=
 vPu ho hd hg fun s' hs cx a E hR => by
  obtain ⟨cs,h1,h2⟩ := hR.val ((vAg hs).trans hx)
  cases h1 with
  | bsl q1 qb q2 =>
   rename_i b zz
   have e1 : a.eval x = .slice (some ⟨b,m,none⟩) n cap := h2
   refine ⟨.int .i64 n,?_,.of_sc (E := E) rfl⟩
   simp only [execOp,resolve,Sem.run_bind,Sem.run_pure,Result.andThen,invoke,builtin]
   simp only [List.map_toArray,List.map_cons,List.map_nil,e1]
   simp [Builtin.len_,Builtin.lenOf,run_underlying (qu hT),Result.andThen,goInt]
theorem o_ixS {T e : Nat} {x z : Operand} {o m c cap : Nat} {k : IntKind} {n : Int} (ho : ops[i]? = some ⟨some d,.indexAddr T x z,ty,pos,af,g⟩) (hd : Nat.ble (d + 1) N.1 = true) (hg : G ops s g gs)
  (hx : s.val x = some (.bsl o m c cap)) (hz : s.val z = some (.d (.v (.int k n)))) (hT : slB P T = some e) (he : szB P e = some 1) (hn : 0 ≤ n ∧ n < c) :
  Valid P N ops i ⟨gs ++ (opT x ++ opT z),[],some (d,some (.ptr o (m + n.toNat))),[]⟩ s :=
 vPu ho hd hg fun s' hs cx a E hR => by
  obtain ⟨cs,h1,h2⟩ := hR.val ((vAg (qy hs).1).trans hx)
  have ez := (hR.val ((vAg (qy hs).2).trans hz)).sc
  cases h1 with
  | bsl q1 qb q2 =>
   rename_i b zz
   have e1 : a.eval x = .slice (some ⟨b,m,none⟩) c cap := h2
   refine ⟨.pointer (some ⟨b,m + n.toNat,none⟩),?_,_,.ptr q1 qb q2,rfl⟩
   simp only [execOp]
   rw [e1,ez,Sem.run_bind,qS1 hT he hn.1 hn.2,Nat.mul_one]
   rfl
theorem o_slC {T e n es : Nat} {x : Operand} {lo hi : Option Operand} {o m lv hv : Nat} (lo' cnt cap : Nat) (ho : ops[i]? = some ⟨some d,.slice T x lo hi none,ty,pos,af,g⟩) (hd : Nat.ble (d + 1) N.1 = true) (hg : G ops s g gs)
  (hx : s.val x = some (.ptr o m)) (hT : arB P T = some (n,e)) (hS : szB P e = some es) (hl : Bd s 0 lo lv) (hh : Bd s n hi hv) (h1 : lv ≤ hv) (h2 : hv ≤ n) (h3 : lv < n) (e1 : lv * es = lo') (e2 : hv - lv = cnt) (e3 : n - lv = cap) :
  Valid P N ops i ⟨gs ++ (opT x ++ (bdT lo ++ bdT hi)),[],some (d,some (.bsl o (m + lo') cnt cap)),[]⟩ s := by
 subst e1; subst e2; subst e3
 exact qR3 ho hd hg hx hT hS hl hh h1 h2 h3
theorem o_mksl {T e : Nat} {x y : Operand} {n : Int} (o : Nat) (ho : ops[i]? = some ⟨some d,.makeSlice T x y,ty,pos,af,g⟩) (hd : Nat.ble (d + 1) N.1 = true) (hg : G ops s g gs)
  (hx : s.val x = some (.d (.v (.int .i64 n)))) (hy : s.val y = some (.d (.v (.int .i64 n)))) (hT : slB P T = some e) (hS : szB P e = some 1) (hB : q84 P e = some 1) (hZ : (P.info? e).bind (·.zero) = some (.int .u8 0))
  (hn : 0 ≤ n ∧ n ≤ 140737488355328) (hno : s.obj o = none) :
  Valid P N ops i ⟨gs ++ (opT x ++ opT y),[o],some (d,some (.arr o 0)),[(o,.arr 0 1 ((List.replicate n.toNat (0 : UInt8)).map u8D))]⟩ s :=
 vCo ho rfl hd hg fun s' hs ho' cx a E _ hR => by
  have hno' := noObj ho' hno
  have hnoE : E.obj o = none := by rw [hR.obj]; exact hno'
  have ex := (hR.val ((vAg (qy hs).1).trans hx)).sc
  have ey := (hR.val ((vAg (qy hs).2).trans hy)).sc
  obtain ⟨inf,i1,i2,i3,i4⟩ := info_of hS hB hZ
  have hrun := run_make (P := P) E.w T e inf (.int .u8 0) (qu hT) i1 i4 .i64 .i64 n n hn.1 (Int.le_refl _) (by rw [i3]; omega) (by omega)
  have hcs : madeCells (Value.int .u8 0).cells (n.toNat * inf.size) = ((List.replicate n.toNat (0 : UInt8)).map u8v).toArray := by
   rw [i2,Nat.mul_one]
   apply Array.ext
   ·simp [size_madeCells]
   ·intro j h1 h2
    simp only [madeCells,Array.getElem_map,Array.getElem_range]
    simp [Value.cells,u8v,Nat.mod_one]
  rw [hcs] at hrun
  have hz' : E.w.heap.size ≤ (E.w.alloc (.cells ((List.replicate n.toNat (0 : UInt8)).map u8v).toArray e)).heap.size := by simp
  have hh : ∀ k,k < E.w.heap.size → (E.w.alloc (.cells ((List.replicate n.toNat (0 : UInt8)).map u8v).toArray e)).heap[k]? = E.w.heap[k]? := fun k hk => Below.heap_alloc _ _ _ hk
  have he := ext_new (ob := .arr 0 1 ((List.replicate n.toNat (0 : UInt8)).map u8D)) (cap := n.toNat) (births := []) rfl hnoE hz' (b := some E.w.heap.size) (fun k hk => by cases hk; exact Nat.le_refl _) hh
  refine ⟨.slice (some ⟨E.w.heap.size,0,none⟩) n.toNat n.toNat,E.new o (.arr 0 1 ((List.replicate n.toNat (0 : UInt8)).map u8D)) (some E.w.heap.size) n.toNat [] (E.w.alloc (.cells ((List.replicate n.toNat (0 : UInt8)).map u8v).toArray e)),?_,?_,hR.new hno' hz' (fun k hk => by cases hk; exact Nat.le_refl _) hh (hR.keeps.grow _) ?_⟩
  ·simp only [execOp]
   rw [ex,ey,Sem.run_bind,hrun]
   rfl
  ·exact ⟨_,.arr (cur := 0) (es := 1) (rows := (List.replicate n.toNat (0 : UInt8)).map u8D) (by simp [Env.new,qV]) (Nat.le_refl _) (fun _ => by simp [Env.new,q25]) rfl,rfl⟩
  ·refine .inr ⟨E.w.heap.size,(List.replicate n.toNat (0 : UInt8)).map u8v,[],e,by simp [Env.new],drs_u8 _,fun r hr => by obtain ⟨y,_,rfl⟩ := List.mem_map.1 hr; rfl,by rw [List.append_nil]; exact qU _ _,?_,by simp [Env.new]⟩
   simp [Env.new]
theorem o_cpA {T Ts e o c k : Nat} {x y : Operand} {xs : List UInt8} {b : ByteArray} (ho : ops[i]? = some ⟨some d,.call ⟨.builtin .copy,#[x,y],#[T,Ts]⟩,ty,pos,af,g⟩) (hd : Nat.ble (d + 1) N.1 = true) (hg : G ops s g gs)
  (hx : s.val x = some (.asl o c k)) (hy : s.val y = some (.d (.v (.string b)))) (hob : s.obj o = some (.arr c 1 (xs.map u8D))) (hT : slB P T = some e) (hS : szB P e = some 1) (hk : k ≤ xs.length) :
  Valid P N ops i ⟨gs ++ (opT x ++ opT y),[o],some (d,some (.d (.v (.int .i64 ((Nat.min b.size (xs.length - k) : Nat) : Int))))),[(o,.arr c 1 ((xs.take k ++ cpB (xs.drop k) b.data.toList).map u8D))]⟩ s :=
 vCo ho rfl hd hg fun s' hs ho' cx a E _ hR => by
  have hob' : s'.obj o = some (.arr c 1 (xs.map u8D)) := (ho' o (by simp)).trans hob
  obtain ⟨zs,h1,h2⟩ := hR.val ((vAg (qy hs).1).trans hx)
  have h3 := (hR.val ((vAg (qy hs).2).trans hy)).sc
  have e1 : a.eval y = .string b := h3
  cases h1 with
  | asl q1 q2 q3 q4 =>
   rw [hR.obj,hob'] at q1; cases q1
   rcases q3 rfl with ⟨ad,cap,rfl,hle⟩ | ⟨bb,cap,hb,rfl,hlt⟩
   ·rw [List.length_map] at hle
    have hk' : xs.length - k = 0 := by omega
    have hx' : xs.drop k = [] := List.drop_eq_nil_of_le hle
    have he : (xs.take k ++ cpB (xs.drop k) b.data.toList) = xs := by
     rw [hx',List.take_of_length_le hle]; simp [cpB]
    rw [he,hk']
    have hz0 : Nat.min b.size 0 = 0 := Nat.min_eq_right (Nat.zero_le _)
    rw [hz0]
    refine ⟨.int .i64 0,E,?_,.of_sc rfl,?_⟩
    ·have e0 : a.eval x = .slice ad 0 cap := h2
     simp only [execOp,resolve,Sem.run_bind,Sem.run_pure,Result.andThen,invoke,builtin]
     simp only [List.map_toArray,List.map_cons,List.map_nil,e0,e1]
     cases ad <;> simp [Builtin.copy_,Sem.run_bind,run_underlying (qu hT),Builtin.lenOf,Builtin.firstCells,rSO hS,Result.andThen,goInt,storeCells]
    ·have es : ({ s' with obj := qQ0 s'.obj [(o,.arr c 1 (xs.map u8D))] } : St) = s' := by
      have : qQ0 s'.obj [(o,OB.arr c 1 (xs.map u8D))] = s'.obj := by
       funext t
       by_cases ht : t = o
       ·subst ht; simp [qQ0,qV,hob']
       ·simp [qQ0,qV,ht]
      rw [this]
     rw [es]
     exact hR
   ·rw [List.length_map] at hlt h2
    rcases hR.objs _ _ hob' with ⟨p1,p2,_⟩ | ⟨b',cs,sp,e',p1,p2,p3,p4,p5,p6⟩
    ·have : xs = [] := by simpa using p2
     rw [this] at hlt; simp at hlt
    ·rw [hb] at p1; cases p1
     have hcs := qe2 p2
     subst hcs
     have hsz : b.data.toList.length = b.size := rfl
     have hrun := run_copy_str (P := P) (w := E.w) (dT := T) (sT := Ts) (ty := ty) (g := bb) (o := k * 1) (dLen := xs.length - k) (dCap := cap) (t := b) hT hS p4 (by simp; omega)
     have harr : ((xs.map u8v ++ sp).toArray.toList.take (k * 1) ++ (b.data.toList.take (Nat.min b.size (xs.length - k))).map u8v ++ (xs.map u8v ++ sp).toArray.toList.drop (k * 1 + Nat.min b.size (xs.length - k))).toArray = ((xs.take k ++ cpB (xs.drop k) b.data.toList).map u8v ++ sp).toArray := by
      congr 1
      simp only [Nat.mul_one]
      rw [List.take_append_of_le_length (by simp; omega),← List.map_take,List.map_append,List.append_assoc,List.append_assoc]
      congr 1
      have hmin : Nat.min b.size (xs.length - k) ≤ xs.length - k := Nat.min_le_right _ _
      rw [List.drop_append_of_le_length (by simp; omega),← List.append_assoc]
      congr 1
      unfold cpB
      rw [List.map_append,List.length_drop,← List.map_drop,List.drop_drop]
      by_cases hc : b.size ≤ xs.length - k
      ·have e2 : Nat.min b.size (xs.length - k) = b.size := Nat.min_eq_left hc
       rw [e2,← hsz,List.take_length,List.take_of_length_le (by omega)]
      ·have e2 : Nat.min b.size (xs.length - k) = xs.length - k := Nat.min_eq_right (by omega)
       rw [e2,hsz,List.drop_eq_nil_of_le (as := xs) (i := k + b.size) (by omega),List.drop_eq_nil_of_le (as := xs) (i := k + (xs.length - k)) (by omega)]
     rw [harr] at hrun
     have hlen : (xs.take k ++ cpB (xs.drop k) b.data.toList).length = xs.length := by
      rw [List.length_append,cpB_len,List.length_take,List.length_drop]; omega
     have hrow : (E.w.setRow bb ((xs.take k ++ cpB (xs.drop k) b.data.toList).map u8v ++ sp).toArray).heap[bb]? = some (.cells ((xs.take k ++ cpB (xs.drop k) b.data.toList).map u8v ++ sp).toArray e' (0,0)) := setRow_heap _ _ _ _ _ _ p4
     refine ⟨goInt (Nat.min b.size (xs.length - k)),E.turn o (.arr c 1 ((xs.take k ++ cpB (xs.drop k) b.data.toList).map u8D)) (some bb) (E.γ o) [] (E.w.setRow bb ((xs.take k ++ cpB (xs.drop k) b.data.toList).map u8v ++ sp).toArray),?_,.of_sc rfl,?_⟩
     ·have e0 : a.eval x = .slice (some ⟨bb,k * 1,none⟩) (xs.length - k) cap := h2
      simp only [execOp,resolve,Sem.run_bind,Sem.run_pure,Result.andThen,invoke,builtin]
      simp only [List.map_toArray,List.map_cons,List.map_nil,e0,e1,hrun]
      rfl
     ·refine hR.turn hob' (by simp) (fun q hq => by cases hq; exact .inl hb) (fun q hq hne => setRow_other _ _ _ _ (fun e => hne (by rw [e]; exact hb))) rfl rfl rfl ?_ (fun he => ?_) (fun _ _ e => by cases e)
      ·exact ⟨Nat.le_refl _,fun _ => ⟨by simp [Env.turn,Env.new,hb],by simp [Env.turn,Env.new],by rw [List.length_map,List.length_map]; exact hlen,rfl⟩⟩
      ·refine .inr ⟨bb,(xs.take k ++ cpB (xs.drop k) b.data.toList).map u8v,sp,e',by simp [Env.turn,Env.new],drs_u8 _,fun r hr => by obtain ⟨y,_,rfl⟩ := List.mem_map.1 hr; rfl,hrow,?_,?_⟩
       ·simp only [List.length_append,List.length_map,hlen,Env.turn,Env.new,if_true] at p5 ⊢; omega
       ·simp only [List.length_map,hlen,Env.turn,Env.new,if_true] at p6 ⊢; exact p6
theorem o_cvA {S T e o c : Nat} {x : Operand} {xs : List UInt8} (ho : ops[i]? = some ⟨some d,.convert S T x,ty,pos,af,g⟩) (hd : Nat.ble (d + 1) N.1 = true) (hg : G ops s g gs)
  (hx : s.val x = some (.arr o c)) (hob : s.obj o = some (.arr c 1 (xs.map u8D))) (hS : slB P S = some e) (he : P.underlying e = some (.int .u8)) (hT : P.underlying T = some .string) :
  Valid P N ops i ⟨gs ++ opT x,[o],some (d,some (.d (.v (.string ⟨xs.toArray⟩)))),[]⟩ s :=
 vCo ho rfl hd hg fun s' hs ho' cx a E _ hR => by
  have hob' : s'.obj o = some (.arr c 1 (xs.map u8D)) := (ho' o (by simp)).trans hob
  obtain ⟨cs,k1,k2⟩ := hR.val ((vAg hs).trans hx)
  cases k1 with
  | arr q1 q2 q3 q4 =>
   rw [hR.obj,hob'] at q1; cases q1
   have h3 := q3 rfl
   refine ⟨.string ⟨xs.toArray⟩,E,?_,.of_sc rfl,qY1 hR⟩
   rcases hR.objs _ _ hob' with ⟨p1,p2,p3⟩ | ⟨b,zs,sp,e',p1,p2,p3,p4,p5,p6⟩
   ·have : xs = [] := by simpa using p2
    subst this
    rw [p1] at h3
    have e1 : a.eval x = .slice none 0 0 := by rw [k2,h3]; rfl
    simp only [execOp]
    rw [e1,Sem.run_bind,run_convert_bytes_string E.w S T e none 0 0 (qu hS) he hT]
    rfl
   ·have hcs := qe2 p2
    subst hcs
    rw [p1,List.length_map] at h3
    have e1 : a.eval x = .slice (some ⟨b,0,none⟩) xs.length (E.γ o) := by rw [k2,h3]; rfl
    have hall : CellsAt E.w b 0 (xs.map u8v) := caB p4
    simp only [execOp]
    rw [e1,Sem.run_bind,run_convert_bytes_back E.w S T e ⟨b,0,none⟩ _ xs (qu hS) he hT (fun j hj => by rw [qv0]; exact hall j _ (by simp [hj]; rfl))]
    rfl
theorem o_ixStr {T : Nat} {x z : Operand} {b : ByteArray} {k : IntKind} {n : Int} {y : UInt8} (ho : ops[i]? = some ⟨some d,.index T x z,ty,pos,af,g⟩) (hd : Nat.ble (d + 1) N.1 = true) (hg : G ops s g gs)
  (hx : s.val x = some (.d (.v (.string b)))) (hz : s.val z = some (.d (.v (.int k n)))) (hT : P.underlying T = some .string) (h0 : 0 ≤ n) (hy : b.data.toList[n.toNat]? = some y) :
  Valid P N ops i ⟨gs ++ (opT x ++ opT z),[],some (d,some (.d (.v (.int .u8 (y.toNat : Int))))),[]⟩ s :=
 vPu ho hd hg fun s' hs cx a E hR => by
  have ex := (hR.val ((vAg (qy hs).1).trans hx)).sc
  have ez := (hR.val ((vAg (qy hs).2).trans hz)).sc
  refine ⟨.int .u8 y.toNat,?_,.of_sc (E := E) rfl⟩
  have hlt : n.toNat < b.data.toList.length := (List.getElem?_eq_some_iff.1 hy).1
  have hl : n.toNat < b.size := hlt
  have hge : b.data.toList[n.toNat] = y := (List.getElem?_eq_some_iff.1 hy).2
  have hg : b[n.toNat]? = some y := by
   rw [getElem?_pos b n.toNat hl,← hge,Array.getElem_toList]
   rfl
  simp only [execOp,ex,ez,Instr.index]
  simp [run_underlying hT,asIntOf,Result.andThen,h0,hg]
theorem o_stBo {T : TypeId} {x v : Operand} {o m j n : Nat} {z : AV} {l : List UInt8} {q : Int} {off : Nat} (p : List Nat) (ho : ops[i]? = some ⟨none,.store T x v,ty,pos,af,g⟩) (hg : G ops s g gs)
  (hx : s.val x = some (.ptr o (m + off + j))) (hv : s.val v = some (.d (.v (.int .u8 q)))) (hob : s.obj o = some (.box z)) (hp : AV.get p z = some (.d (.bs n l),m)) (hj : off + j < l.length) (hq : 0 ≤ q ∧ q < 256) (hT : szB P T = some 1) :
  Valid P N ops i ⟨gs ++ (opT x ++ opT v),[o],none,[(o,.box (AV.put p z (.d (.bs n (l.set (off + j) (UInt8.ofNat q.toNat))))))]⟩ s :=
 o_stB p ho hg (by rw [← Nat.add_assoc]; exact hx) hv hob hp hj hq hT
theorem resCT {fn : Func} {t o T n u : Nat} {x y : AV} {b : Bool} (h : fn.results = #[.cell t T,.tmp u]) (hx : s.slot t = some (.ptr o 0)) (hob : s.obj o = some (.box x)) (hT : TA P T b n) (hb : x.isAgg = b) (hn : x.size = n) (hy : s.slot u = some y) : ResOk P fn s (.tup [x,y]) := by
 intro cx a E hR
 subst hb; subst hn
 obtain ⟨cs,h1,h2⟩ := hR.slots t _ hx
 obtain ⟨c2,k1',e2⟩ := hR.slots u y hy
 cases h1 with
 | ptr k1 kb k2 =>
  obtain ⟨b',zs,e,q1,q2,q3,q4⟩ := hR.objs _ _ hob
  rw [k2] at q1; cases q1
  have hall : CellsAt E.w _ 0 zs := caB (sp := []) (by rw [List.append_nil]; exact q4)
  have hl := qx (P := P) (w := E.w) (by rw [q2.len]; exact hT) hall (fun ha => qm2 q2 ha)
  refine ⟨.tuple #[mkV x.isAgg zs,a.tmps.getD u undef],?_,_,.tup (.cons q2 (.cons k1' .nil)),by rw [e2]; rfl⟩
  have e1 : a.tmps.getD t undef = .pointer (some ⟨_,0,none⟩) := h2
  simp only [results,h,List.mapM_toArray,List.mapM_cons,List.mapM_nil,Sem.run_bind,Sem.run_map,e1,asAddr,Sem.run_pure,Result.andThen,hl]
  rfl
end
end Go.Val
