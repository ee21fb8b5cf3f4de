/- Merged texts: Ya Yb. -/
import Derived.Test.YtfbnhflapgddbaaLe
set_option linter.unusedSectionVars false
set_option linter.unusedVariables false
set_option linter.unusedSimpArgs false
namespace Go.Val
open Go.RowKit
variable [Drw]
inductive Pc (o c n : Nat) : AV → Nat → Nat → Prop
 | arr : Pc o c n (.arr o c) 0 n
 | csl {k len : Nat} : Pc o c n (.csl o c k len) k len
theorem pc_val {cx : Cx} {s : St} {a : Act} {E : Env} (hR : R0 cx s a E) {o c es : Nat} {rows : List D} (hob : s.obj o = some (.arr c es rows)) {y : AV} {k len : Nat} (hy : Pc o c rows.length y k len) {v : Value} (hv : VR E y v) :
  (E.β o = none ∧ v = .slice none 0 0 ∧ k = 0 ∧ len = 0 ∧ rows = [] ∧ E.γ o = 0) ∨
  ∃ b off cs sp e,E.β o = some b ∧ v = .slice (some ⟨b,off,none⟩) len (E.γ o - k) ∧ (k < E.γ o ∨ k = 0 → off = k * es) ∧ k + len ≤ E.γ o ∧ DRs E.I E.w rows cs ∧ (∀ r ∈ rows,r.size = es) ∧
   E.w.heap[b]? = some (.cells (cs ++ sp).toArray e (0,0)) ∧ (cs ++ sp).length = E.γ o * es ∧ rows.length ≤ E.γ o := by
 obtain ⟨xs,h1,h2⟩ := hv
 have hor := hR.objs _ _ hob
 have hobE : E.obj o = some (.arr c es rows) := by rw [hR.obj]; exact hob
 cases hy with
 | arr =>
  cases h1 with
  | arr q1 q2 q3 q4 =>
   rw [hobE] at q1; cases q1
   have h3 := q3 rfl
   rcases hor with ⟨p1,p2,p3⟩ | ⟨b,cs,sp,e,p1,p2,p3,p4,p5,p6⟩
   ·left
    subst p2
    exact ⟨p1,by rw [h2]; show _ = _; rw [show mkV (AV.arr o c).isAgg [_] = _ from rfl]; simp only [mkV,AV.isAgg,Bool.false_eq_true,if_false,List.headD_cons]; rw [h3,p1]; rfl,rfl,rfl,rfl,p3⟩
   ·right
    refine ⟨b,0,cs,sp,e,p1,?_,by simp,by omega,p2,p3,p4,p5,p6⟩
    rw [h2]
    simp only [mkV,AV.isAgg,Bool.false_eq_true,if_false,List.headD_cons]
    rw [h3,p1]; rfl
 | csl =>
  cases h1 with
  | csl q1 q2 q3 q4 =>
   rw [hobE] at q1; cases q1
   obtain ⟨g1,g2⟩ := q3 rfl
   have h2' : v = _ := h2
   simp only [mkV,AV.isAgg,Bool.false_eq_true,if_false,List.headD_cons] at h2'
   rcases hor with ⟨p1,p2,p3⟩ | ⟨b,cs,sp,e,p1,p2,p3,p4,p5,p6⟩
   ·left
    rcases g2 with ⟨r1,r2⟩ | ⟨b,off,r1,_⟩
    ·exact ⟨p1,by rw [h2',r2],by omega,by omega,p2,p3⟩
    ·rw [p1] at r1; cases r1
   ·right
    rcases g2 with ⟨r1,r2⟩ | ⟨b',off,r1,r2,r3⟩
    ·rw [p1] at r1; cases r1
    ·rw [p1] at r1; cases r1
     exact ⟨b,off,cs,sp,e,p1,by rw [h2',r2],r3,g1,p2,p3,p4,p5,p6⟩
theorem csl_of {E : Env} {o c es k len : Nat} {rows : List D} (hobE : E.obj o = some (.arr c es rows)) {v : Value} (hl : k + len ≤ E.γ o)
  (h : (E.β o = none ∧ v = .slice none 0 0) ∨ ∃ b off,E.β o = some b ∧ v = .slice (some ⟨b,off,none⟩) len (E.γ o - k) ∧ (k < E.γ o ∨ k = 0 → off = k * es)) : VR E (.csl o c k len) v := by
 refine ⟨[v],.csl hobE (Nat.le_refl _) (fun _ => ⟨hl,h⟩) ?_,rfl⟩
 rcases h with ⟨_,rfl⟩ | ⟨b,off,_,rfl,_⟩ <;> rfl
theorem qc3 {f : Nat → Option OB} {o : Nat} {x : OB} (h : f o = some x) : qY1 f [(o,x)] = f := by
 funext t
 by_cases ht : t = o
 ·subst ht; simp [qY1,qW0,h]
 ·simp [qY1,qW0,ht]
theorem pc_store {P : Program} {cx : Cx} {s : St} {a : Act} {E : Env} (hR : R0 cx s a E) {o c es p : Nat} {rows ys : List D} (hob : s.obj o = some (.arr c es rows)) {b : Nat} {cs sp news : List Value} {e : TypeId} (hb : E.β o = some b)
  (hcs : DRs E.I E.w rows cs) (hsz : ∀ r ∈ rows,r.size = es) (hh : E.w.heap[b]? = some (.cells (cs ++ sp).toArray e (0,0))) (hl : (cs ++ sp).length = E.γ o * es) (hg : rows.length ≤ E.γ o)
  (hys : DRs E.I E.w ys news) (hysz : ∀ r ∈ ys,r.size = es) (hp : p + ys.length ≤ rows.length) :
  ∃ w',(storeCells ⟨b,p * es,none⟩ news 0).run P E.w = .ok () w' ∧ R0 cx { s with obj := qY1 s.obj [(o,.arr c es (rows.take p ++ ys ++ rows.drop (p + ys.length)))] } a (E.turn o (.arr c es (rows.take p ++ ys ++ rows.drop (p + ys.length))) (some b) (E.γ o) [] w') := by
 have hcut : rows = rows.take p ++ ((rows.drop p).take ys.length ++ rows.drop (p + ys.length)) := by
  rw [← List.drop_drop,List.take_append_drop,List.take_append_drop]
 have hcs' := hcs
 rw [hcut] at hcs'
 obtain ⟨c1,c23,rfl,t1,t23⟩ := DRs.split _ hcs'
 obtain ⟨c2,c3,rfl,t2,t3⟩ := DRs.split _ t23
 have l1 : c1.length = p * es := by
  rw [t1.len,qy0 (fun x hx => hsz x (List.mem_of_mem_take hx)),List.length_take,Nat.min_eq_left (by omega)]
 have l2 : c2.length = ys.length * es := by
  rw [t2.len,qy0 (fun x hx => hsz x (List.mem_of_mem_drop (List.mem_of_mem_take hx))),List.length_take,List.length_drop,Nat.min_eq_left (by omega)]
 have ln : news.length = ys.length * es := by rw [hys.len,qy0 hysz]
 have hones : ∀ v ∈ news,v.oneCell' = true := fun v hv => by rw [one_eq]; exact hys.ones v hv
 have hrun := run_storeCells_at P b (p * es) e news 0 ((c1 ++ (c2 ++ c3)) ++ sp).toArray E.w hh (by simp; omega) hones
 have harr : ((((c1 ++ (c2 ++ c3)) ++ sp).toArray.toList.take (p * es + 0) ++ news ++ ((c1 ++ (c2 ++ c3)) ++ sp).toArray.toList.drop (p * es + 0 + news.length)).toArray) = ((c1 ++ news ++ c3) ++ sp).toArray := by
  congr 1
  simp only [Nat.add_zero]
  have e1 : ((c1 ++ (c2 ++ c3)) ++ sp) = c1 ++ (c2 ++ (c3 ++ sp)) := by simp
  rw [e1,← l1,List.take_left,← List.drop_drop,List.drop_left,ln,← l2,List.drop_left]
  simp
 rw [harr] at hrun
 have hrow : (E.w.setRow b ((c1 ++ news ++ c3) ++ sp).toArray).heap[b]? = some (.cells ((c1 ++ news ++ c3) ++ sp).toArray e (0,0)) := setRow_heap _ _ _ _ _ _ hh
 have hlen : (rows.take p ++ ys ++ rows.drop (p + ys.length)).length = rows.length := by simp; omega
 refine ⟨_,hrun,hR.turn hob (by simp) (fun q hq => by cases hq; exact .inl hb) (fun q hq hne => setRow_other _ _ _ _ (fun e => hne (by rw [e]; exact hb))) rfl rfl rfl ?_ (fun he => ?_) (fun _ _ e => by cases e)⟩
 ·exact ⟨Nat.le_refl _,fun _ => ⟨by simp [Env.turn,Env.new,hb],by simp [Env.turn,Env.new],hlen,rfl⟩⟩
 ·refine .inr ⟨b,c1 ++ news ++ c3,sp,e,by simp [Env.turn,Env.new],((t1.append hys).append t3).mono he.hz he.imm,fun r hr => ?_,hrow,?_,?_⟩
  ·rcases List.mem_append.1 hr with hr | hr
   ·rcases List.mem_append.1 hr with hr | hr
    ·exact hsz r (List.mem_of_mem_take hr)
    ·exact hysz r hr
   ·exact hsz r (List.mem_of_mem_drop hr)
  ·simp only [Env.turn,Env.new,if_true]
   rw [← hl]
   simp
   omega
  ·rw [hlen]; simp only [Env.turn,Env.new,if_true]; exact hg
theorem pc_part {E : Env} {es k len : Nat} {rows : List D} {cs : List Value} (hcs : DRs E.I E.w rows cs) (hsz : ∀ r ∈ rows,r.size = es) (hk : k + len ≤ rows.length) :
  ∃ c1 c2 c3,cs = c1 ++ (c2 ++ c3) ∧ c1.length = k * es ∧ c2.length = len * es ∧ DRs E.I E.w ((rows.drop k).take len) c2 := by
 have hcut : rows = rows.take k ++ ((rows.drop k).take len ++ rows.drop (k + len)) := by
  rw [← List.drop_drop,List.take_append_drop,List.take_append_drop]
 have hcs' := hcs
 rw [hcut] at hcs'
 obtain ⟨c1,c23,rfl,t1,t23⟩ := DRs.split _ hcs'
 obtain ⟨c2,c3,rfl,t2,t3⟩ := DRs.split _ t23
 refine ⟨c1,c2,c3,rfl,?_,?_,t2⟩
 ·rw [t1.len,qy0 (fun x hx => hsz x (List.mem_of_mem_take hx)),List.length_take,Nat.min_eq_left (by omega)]
 ·rw [t2.len,qy0 (fun x hx => hsz x (List.mem_of_mem_drop (List.mem_of_mem_take hx))),List.length_take,List.length_drop,Nat.min_eq_left (by omega)]
section
variable {P : Program} {N : Nat × Nat} {ops : Array Oper} {i : Nat} {s : St} {d : Nat} {ty : TypeId} {pos : String} {af : Array Edge} {g : Option (Nat × Bool)} {gs : List Nat}
theorem o_cut {T e es : Nat} {x : Operand} {lo hi : Option Operand} {o c k len : Nat} (lv hv k' len' : Nat) {y : AV} {rows : List D} (ho : ops[i]? = some ⟨some d,.slice T x lo hi none,ty,pos,af,g⟩) (hd : Nat.ble (d + 1) N.1 = true) (hg : G ops s g gs)
  (hx : s.val x = some y) (hob : s.obj o = some (.arr c es rows)) (hy : Pc o c rows.length y k len) (hT : slB P T = some e) (hS : szB P e = some es) (hl : Bd s 0 lo lv) (hh : Bd s len hi hv) (h1 : lv ≤ hv) (h2 : hv ≤ len) (h3 : k + lv = k') (h4 : hv - lv = len') :
  Valid P N ops i ⟨gs ++ (opT x ++ (bdT lo ++ bdT hi)),[o],some (d,some (.csl o c k' len')),[]⟩ s := by
 subst h3; subst h4
 exact vCo ho rfl hd hg fun s' hs ho' cx a E _ hR => by
  have hob' : s'.obj o = some (.arr c es rows) := (ho' o (by simp)).trans hob
  have hobE : E.obj o = some (.arr c es rows) := by rw [hR.obj]; exact hob'
  obtain ⟨m1,m2,m3⟩ := mem_app3 hs
  have hv' := hR.val ((vAg m1).trans hx)
  have hl' := hl.vals m2 hR
  have hh' := hh.vals m3 hR
  have run_of : ∀ (ad : Option Addr) (cap : Nat),a.eval x = .slice ad len cap → len ≤ cap → (execOp a.eval ⟨some d,.slice T x lo hi none,ty,pos,af,g⟩).run P E.w =
    .ok (.value (.slice (if cap = lv then ad else ad.map (·.add (lv * es))) (hv - lv) (cap - lv))) E.w := by
   intro ad cap e1 hcap
   have hb := qz4 (P := P) (w := E.w) (b := true) (len := len) (cap := cap) hl' hh' h1 (by omega)
   simp only [execOp,Option.map_none]
   rw [e1]
   simp only [Instr.sliceAt,Instr.slice,Sem.run_bind,run_underlying (q60 hT),Result.andThen,hb,rSO hS,Sem.run_pure]
  rcases pc_val hR hob' hy hv' with ⟨p1,p2,rfl,rfl,p5,p6⟩ | ⟨b,off,cs,sp,e',p1,p2,p3,p4,p5,p6,p7,p8,p9⟩
  ·have e0 : hv = 0 := by omega
   have e1 : lv = 0 := by omega
   subst e0; subst e1
   exact ⟨_,E,run_of none 0 p2 (by omega),csl_of hobE (by omega) (.inl ⟨p1,by simp⟩),q53 hR⟩
  ·refine ⟨_,E,run_of _ _ p2 (by omega),csl_of hobE (by omega) (.inr ?_),q53 hR⟩
   by_cases hc : E.γ o - k = lv
   ·rw [if_pos hc]
    refine ⟨b,off,p1,by rw [show E.γ o - k - lv = E.γ o - (k + lv) by omega],fun h => ?_⟩
    have h0 : k = 0 ∧ lv = 0 := by omega
    rw [p3 (.inr h0.1),h0.1,h0.2]
   ·rw [if_neg hc,Option.map_some,qI1]
    refine ⟨b,off + lv * es,p1,by rw [show E.γ o - k - lv = E.γ o - (k + lv) by omega],fun h => ?_⟩
    rw [p3 (by omega),Nat.add_mul]
theorem o_lenC {T e : TypeId} {x : Operand} {o c k len es : Nat} {rows : List D} {y : AV} (ho : ops[i]? = some ⟨some d,.call ⟨.builtin .len,#[x],#[T]⟩,ty,pos,af,g⟩) (hd : Nat.ble (d + 1) N.1 = true) (hg : G ops s g gs)
  (hx : s.val x = some y) (hob : s.obj o = some (.arr c es rows)) (hy : Pc o c rows.length y k len) (hT : slB P T = some e) :
  Valid P N ops i ⟨gs ++ opT x,[o],some (d,some (.d (.v (.int .i64 len)))),[]⟩ s :=
 vCo ho rfl hd hg fun s' hs ho' cx a E _ hR => by
  have hob' : s'.obj o = some (.arr c es rows) := (ho' o (by simp)).trans hob
  have hv' := hR.val ((vAg hs).trans hx)
  have h4 : ∃ b cap,a.eval x = .slice b len cap := by
   rcases pc_val hR hob' hy hv' with ⟨p1,p2,_,rfl,_⟩ | ⟨b,off,cs,sp,e',p1,p2,_⟩
   ·exact ⟨_,_,p2⟩
   ·exact ⟨_,_,p2⟩
  obtain ⟨b,cap,h5⟩ := h4
  exact ⟨_,E,by simp [execOp,resolve,invoke,builtin,Builtin.len_,h5,run_underlying (q60 hT),Result.andThen,goInt],.of_sc rfl,q53 hR⟩
theorem a_cap {T e : TypeId} {x : Operand} {o c es : Nat} {rows : List D} (ho : ops[i]? = some ⟨some d,.call ⟨.builtin .cap,#[x],#[T]⟩,ty,pos,af,none⟩) (hd : Nat.ble (d + 1) N.1 = true)
  (hx : s.val x = some (.arr o c)) (hob : s.obj o = some (.arr c es rows)) (hT : slB P T = some e) :
  StepA P N ops i (fun s' => ∃ m : Nat,rows.length ≤ m ∧ s' = s.put d (.d (.v (.int .i64 (m : Int))))) s := by
 refine ⟨_,ho,fun Q cx a w hn hR => ?_⟩
 obtain ⟨E,rfl,hR0⟩ := hR
 rw [if_pos ((G.no (ops := ops) (s := s)).wanted (fun _ h => by cases h) hR0)]
 have hv' := hR0.val hx
 have h4 : ∃ b cap,a.eval x = .slice b rows.length cap ∧ rows.length ≤ cap := by
  rcases pc_val hR0 hob .arr hv' with ⟨p1,p2,_,p4,p5,_⟩ | ⟨b,off,cs,sp,e',p1,p2,_,p4,_⟩
  ·exact ⟨_,_,by rw [p4]; exact p2,by omega⟩
  ·exact ⟨_,_,p2,by omega⟩
 obtain ⟨b,cap,h5,h6⟩ := h4
 have hrun : (execOp a.eval ⟨some d,.call ⟨.builtin .cap,#[x],#[T]⟩,ty,pos,af,none⟩).run P E.w = .ok (.value (.int .i64 (cap : Int))) E.w := by
  simp [execOp,resolve,invoke,builtin,Builtin.cap_,h5,run_underlying (q60 hT),Result.andThen,goInt]
 unfold Oper.wp
 rw [hrun,Oper.upon_value]
 exact ⟨_,⟨cap,h6,rfl⟩,E,rfl,hR0.put (.of_sc rfl) (by rw [hn]; exact Nat.le_of_ble_eq_true hd)⟩
theorem run_copy_rows {w w' : World} {dT sT ty elem : TypeId} {es b off dLen dCap n : Nat} {v : Value} {news : List Value} (hu : slB P dT = some elem) (hs : szB P elem = some es) (hsrc : Src P es sT v n news w) (hn : n ≤ dLen)
  (hst : (storeCells ⟨b,off,none⟩ news 0).run P w = .ok () w') :
  (Builtin.copy_ #[dT,sT] ty #[.slice (some ⟨b,off,none⟩) dLen dCap,v]).run P w = .ok (goInt n) w' := by
 have hl := hsrc.len w
 have hc := hsrc.cells
 have hmin : Nat.min n dLen = n := Nat.min_eq_left hn
 simp [Builtin.copy_,Sem.run_bind,run_underlying (q60 hu),hl,Result.andThen,rSO hs,hmin,hc,hst]
theorem cp_core {T Ts e es o c k len : Nat} {x y : Operand} {z : AV} {rows ys : List D} (rows' : List D) {rs ro : List Nat} (ho : ops[i]? = some ⟨some d,.call ⟨.builtin .copy,#[x,y],#[T,Ts]⟩,ty,pos,af,g⟩) (hd : Nat.ble (d + 1) N.1 = true) (hg : G ops s g gs)
  (hx : s.val x = some z) (hob : s.obj o = some (.arr c es rows)) (hz : Pc o c rows.length z k len) (hT : slB P T = some e) (hS : szB P e = some es) (hn : ys.length ≤ len) (hk : k + len ≤ rows.length) (hysz : ∀ r ∈ ys,r.size = es)
  (hsrc : ∀ s',(∀ t ∈ rs,s'.slot t = s.slot t) → (∀ k ∈ o :: ro,s'.obj k = s.obj k) → ∀ (cx : Cx) (a : Act) (E : Env),R0 cx s' a E → ∃ news,Src P es Ts (a.eval y) ys.length news E.w ∧ DRs E.I E.w ys news) (hrows : rows.take k ++ ys ++ rows.drop (k + ys.length) = rows') :
  Valid P N ops i ⟨gs ++ (opT x ++ rs),o :: ro,some (d,some (.d (.v (.int .i64 (ys.length : Int))))),[(o,.arr c es rows')]⟩ s := by
 subst hrows
 exact vCo ho rfl hd hg fun s' hs ho' cx a E _ hR => by
  have hob' : s'.obj o = some (.arr c es rows) := (ho' o (by simp)).trans hob
  have hv' := hR.val ((vAg (qg0 hs).1).trans hx)
  obtain ⟨news,n1,n2⟩ := hsrc s' (qg0 hs).2 ho' cx a E hR
  have run_of : ∀ (u v : Value) (w' : World),a.eval x = u → (Builtin.copy_ #[T,Ts] ty #[u,a.eval y]).run P E.w = .ok v w' →
    (execOp a.eval ⟨some d,.call ⟨.builtin .copy,#[x,y],#[T,Ts]⟩,ty,pos,af,g⟩).run P E.w = .ok (.value v) w' := by
   intro u v w' e1 e2
   simp only [execOp,resolve,Sem.run_bind,Sem.run_pure,Result.andThen,invoke,builtin]
   simp only [List.map_toArray,List.map_cons,List.map_nil,e1]
   rw [e2]
  have triv : ys = [] → rows.take k ++ ys ++ rows.drop (k + ys.length) = rows := fun h => by subst h; simp
  rcases pc_val hR hob' hz hv' with ⟨p1,p2,rfl,rfl,p5,p6⟩ | ⟨b,off,cs,sp,e',p1,p2,p3,p4,p5,p6,p7,p8,p9⟩
  ·have hy0 : ys = [] := List.eq_nil_of_length_eq_zero (by omega)
   rw [triv hy0]
   refine ⟨goInt ys.length,E,run_of _ _ _ p2 ?_,.of_sc rfl,?_⟩
   ·have hl := n1.len E.w
    have hc := n1.cells
    subst hy0
    simp only [List.length_nil] at hl hc ⊢
    simp [Builtin.copy_,Sem.run_bind,run_underlying (q60 hT),hl,Result.andThen,rSO hS,hc]
   ·rw [qc3 hob']; exact hR
  ·by_cases hy0 : ys = []
   ·rw [triv hy0]
    have hnews : news = [] := List.eq_nil_of_length_eq_zero (by rw [n2.len,hy0]; rfl)
    refine ⟨goInt ys.length,E,run_of _ _ _ p2 (run_copy_rows hT hS n1 hn (by rw [hnews]; rfl)),.of_sc rfl,?_⟩
    rw [qc3 hob']; exact hR
   ·have hlt : k < E.γ o := by have := List.length_pos_iff.2 hy0; omega
    obtain ⟨w',st1,st2⟩ := pc_store (P := P) (p := k) hR hob' p1 p5 p6 p7 p8 p9 n2 hysz (by omega)
    rw [p3 (.inl hlt)] at p2
    exact ⟨goInt ys.length,_,run_of _ _ _ p2 (run_copy_rows hT hS n1 hn st1),.of_sc rfl,st2⟩
theorem o_cpD {T Ts e es o c k len : Nat} {x y : Operand} {z src : AV} {rows ys : List D} (rows' : List D) {ids : List Nat} (ho : ops[i]? = some ⟨some d,.call ⟨.builtin .copy,#[x,y],#[T,Ts]⟩,ty,pos,af,g⟩) (hd : Nat.ble (d + 1) N.1 = true) (hg : G ops s g gs)
  (hx : s.val x = some z) (hob : s.obj o = some (.arr c es rows)) (hz : Pc o c rows.length z k len) (hy : s.val y = some src) (hsrc : Srcs P s es Ts src ys ids) (hysz : ∀ r ∈ ys,r.size = es) (hT : slB P T = some e) (hS : szB P e = some es) (hn : ys.length ≤ len) (hk : k + len ≤ rows.length) (hrows : rows.take k ++ ys ++ rows.drop (k + ys.length) = rows') :
  Valid P N ops i ⟨gs ++ (opT x ++ opT y),o :: ids,some (d,some (.d (.v (.int .i64 (ys.length : Int))))),[(o,.arr c es rows')]⟩ s :=
 cp_core rows' ho hd hg hx hob hz hT hS hn hk hysz (fun s' hs ho' cx a E hR => by
  have hsrc' : Srcs P s' es Ts src ys ids := by
   cases hsrc with
   | sl h => exact .sl h
   | arr h h' => exact .arr h ((ho' _ (by simp)).trans h')
   | str h h' => exact .str h h'
  exact hsrc'.src hR (hR.val ((vAg hs).trans hy)) hysz) hrows
theorem o_cpC {T Ts e e2 es o c k len k2 len2 : Nat} {x y : Operand} {z z2 : AV} {rows : List D} (rows' : List D) (ho : ops[i]? = some ⟨some d,.call ⟨.builtin .copy,#[x,y],#[T,Ts]⟩,ty,pos,af,g⟩) (hd : Nat.ble (d + 1) N.1 = true) (hg : G ops s g gs)
  (hx : s.val x = some z) (hob : s.obj o = some (.arr c es rows)) (hz : Pc o c rows.length z k len) (hy : s.val y = some z2) (hz2 : Pc o c rows.length z2 k2 len2) (hT : slB P T = some e) (hTs : slB P Ts = some e2) (hS : szB P e = some es) (hn : len2 ≤ len) (hk : k + len ≤ rows.length) (hk2 : k2 + len2 ≤ rows.length) (hsz : ∀ r ∈ rows,r.size = es) (hrows : rows.take k ++ (rows.drop k2).take len2 ++ rows.drop (k + len2) = rows') :
  Valid P N ops i ⟨gs ++ (opT x ++ opT y),[o],some (d,some (.d (.v (.int .i64 (len2 : Int))))),[(o,.arr c es rows')]⟩ s := by
 have hl2 : ((rows.drop k2).take len2).length = len2 := by simp; omega
 have := cp_core (N := N) rows' (ys := (rows.drop k2).take len2) (rs := opT y) (ro := []) ho hd hg hx hob hz hT hS (by omega) hk (fun r hr => hsz r (List.mem_of_mem_drop (List.mem_of_mem_take hr))) (fun s' hs ho' cx a E hR => by
  have hob' : s'.obj o = some (.arr c es rows) := (ho' o (by simp)).trans hob
  have hv2 := hR.val ((vAg hs).trans hy)
  rw [hl2]
  rcases pc_val hR hob' hz2 hv2 with ⟨p1,p2,rfl,rfl,p5,p6⟩ | ⟨b,off,cs,sp,e',p1,p2,p3,p4,p5,p6,p7,p8,p9⟩
  ·rw [p2]
   exact ⟨[],.ofNil _ (q60 hTs) 0,by simp; exact .nil⟩
  ·rw [p2]
   by_cases h0 : len2 = 0
   ·subst h0
    exact ⟨[],.ofSlice _ (q60 hTs) _ _ _ _ (by simp) (fun j u hj => by simp at hj) (fun _ h => by cases h),by simp; exact .nil⟩
   ·obtain ⟨c1,c2,c3,rfl,l1,l2,t2⟩ := pc_part p5 p6 hk2
    have hoff := p3 (by omega)
    refine ⟨c2,.ofSlice _ (q60 hTs) _ _ _ _ l2 (fun j u hj => ?_) (fun u hu => by rw [one_eq]; exact t2.ones u hu),t2⟩
    rw [qI1]
    have hall : CellsAt E.w b 0 ((c1 ++ (c2 ++ c3)) ++ sp) := by
     have := caB (sp := []) (cs := (c1 ++ (c2 ++ c3)) ++ sp) (by rw [List.append_nil]; exact p7)
     exact this
    have h6 := (hall.left).right.left j u hj
    rw [Nat.zero_add,l1] at h6
    rw [hoff]
    exact h6) (by rw [hl2]; exact hrows)
 rw [hl2] at this
 exact this
theorem o_clrC {T e es : Nat} {x : Operand} {o c k len : Nat} {y : AV} {rows : List D} (rows' : List D) {z : D} (ho : ops[i]? = some ⟨none,.call ⟨.builtin .clear,#[x],#[T]⟩,ty,pos,af,g⟩) (hg : G ops s g gs)
  (hx : s.val x = some y) (hob : s.obj o = some (.arr c es rows)) (hy : Pc o c rows.length y k len) (hT : slB P T = some e) (hZ : Zero P e z) (hz : z.size = es) (h0 : 0 < es) (hk : k + len ≤ rows.length) (hrows : rows.take k ++ List.replicate len z ++ rows.drop (k + len) = rows') :
  Valid P N ops i ⟨gs ++ opT x,[o],none,[(o,.arr c es rows')]⟩ s := by
 subst hrows
 exact qa3 ho rfl hg fun s' hs ho' cx a E _ hR => by
  have hob' : s'.obj o = some (.arr c es rows) := (ho' o (by simp)).trans hob
  have hv' := hR.val ((vAg hs).trans hx)
  have hu := q60 hT
  have triv : ∀ ad cap,len = 0 → a.eval x = .slice ad len cap → ∃ r E',(execOp a.eval ⟨none,.call ⟨.builtin .clear,#[x],#[T]⟩,ty,pos,af,g⟩).run P E.w = .ok r E'.w ∧ (r = .skip ∨ ∃ v,r = .value v) ∧ R0 cx { s' with obj := qY1 s'.obj [(o,.arr c es (rows.take k ++ List.replicate len z ++ rows.drop (k + len)))] } a E' := by
   intro ad cap hl0 e0
   subst hl0
   have he : rows.take k ++ List.replicate 0 z ++ rows.drop (k + 0) = rows := by simp
   rw [he]
   refine ⟨.value (.tuple #[]),E,?_,.inr ⟨_,rfl⟩,by rw [qc3 hob']; exact hR⟩
   simp only [execOp,resolve,Sem.run_bind,Sem.run_pure,Result.andThen,invoke,builtin]
   simp only [List.map_toArray,List.map_cons,List.map_nil,e0]
   cases ad <;> simp [Builtin.clear_,run_underlying hu,Result.andThen]
  rcases pc_val hR hob' hy hv' with ⟨p1,p2,rfl,rfl,p5,p6⟩ | ⟨b,off,cs,sp,e',p1,p2,p3,p4,p5,p6,p7,p8,p9⟩
  ·exact triv none 0 rfl p2
  ·by_cases hl0 : len = 0
   ·exact triv _ _ hl0 p2
   ·have hoff := p3 (by omega)
    obtain ⟨zs,hz1,hz2⟩ := hZ E.I E.w
    have hzl : zs.length = es := hz1.len.trans hz
    have hzc : (mkV z.isAgg zs).cells = zs.toArray := hz1.mkV_cells
    obtain ⟨w',st1,st2⟩ := pc_store (P := P) (p := k) (ys := List.replicate len z) (news := (List.replicate len zs).flatten) hR hob' p1 p5 p6 p7 p8 p9 (drs_rep hz1 len) (fun r hr => by rw [List.eq_of_mem_replicate hr]; exact hz) (by simp; omega)
    rw [List.length_replicate] at st2
    refine ⟨.value (.tuple #[]),_,?_,.inr ⟨_,rfl⟩,st2⟩
    have e0 : a.eval x = .slice (some ⟨b,k * es,none⟩) len (E.γ o - k) := by rw [← hoff]; exact p2
    simp only [execOp,resolve,Sem.run_bind,Sem.run_pure,Result.andThen,invoke,builtin]
    simp only [List.map_toArray,List.map_cons,List.map_nil,e0]
    obtain ⟨len',rfl⟩ : ∃ l,len = l + 1 := ⟨len - 1,by omega⟩
    have hzf : (Builtin.zeroCells (mkV z.isAgg zs).cells (len' + 1)).toList = (List.replicate (len' + 1) zs).flatten := by
     rw [hzc]; exact zeroCells_flat (by omega) _
    simp only [Builtin.clear_]
    simp [run_underlying hu,Result.andThen,qj4 hz2,hzf,st1]
    rfl
theorem o_appC {T tx e es : Nat} {x y : Operand} {o c k len : Nat} {z src : AV} {rows ys : List D} (rows' : List D) (len' : Nat) {ids : List Nat} (ho : ops[i]? = some ⟨some d,.call ⟨.builtin .append,#[x,y],#[T,tx]⟩,ty,pos,af,g⟩) (hd : Nat.ble (d + 1) N.1 = true) (hg : G ops s g gs)
  (hx : s.val x = some z) (hob : s.obj o = some (.arr c es rows)) (hz : Pc o c rows.length z k len) (hy : s.val y = some src) (hsrc : Srcs P s es tx src ys ids) (hysz : ∀ r ∈ ys,r.size = es) (hT : slB P T = some e) (hS : szB P e = some es) (hk : k + len + ys.length ≤ rows.length) (hrows : rows.take (k + len) ++ ys ++ rows.drop (k + len + ys.length) = rows') (hlen : len + ys.length = len') :
  Valid P N ops i ⟨gs ++ (opT x ++ opT y),o :: ids,some (d,some (.csl o c k len')),[(o,.arr c es rows')]⟩ s := by
 subst hrows; subst hlen
 exact vCo ho rfl hd hg fun s' hs ho' cx a E _ hR => by
  have hob' : s'.obj o = some (.arr c es rows) := (ho' o (by simp)).trans hob
  have hobE : E.obj o = some (.arr c es rows) := by rw [hR.obj]; exact hob'
  have hv' := hR.val ((vAg (qg0 hs).1).trans hx)
  have hsrc' : Srcs P s' es tx src ys ids := by
   cases hsrc with
   | sl h => exact .sl h
   | arr h h' => exact .arr h ((ho' _ (by simp)).trans h')
   | str h h' => exact .str h h'
  obtain ⟨news,n1,n2⟩ := hsrc'.src hR (hR.val ((vAg (qg0 hs).2).trans hy)) hysz
  have run_of : ∀ (u v : Value) (w' : World),a.eval x = u → (Builtin.append_ #[T,tx] ty #[u,a.eval y]).run P E.w = .ok v w' →
    (execOp a.eval ⟨some d,.call ⟨.builtin .append,#[x,y],#[T,tx]⟩,ty,pos,af,g⟩).run P E.w = .ok (.value v) w' := by
   intro u v w' e1 e2
   simp only [execOp,resolve,Sem.run_bind,Sem.run_pure,Result.andThen,invoke,builtin]
   simp only [List.map_toArray,List.map_cons,List.map_nil,e1]
   rw [e2]
  obtain ⟨inf,hi,hi1⟩ : ∃ inf,P.info? e = some inf ∧ inf.size = es := by
   unfold szB at hS
   cases hi : P.info? e with
   | none => simp [hi] at hS
   | some inf => simp [hi] at hS; exact ⟨inf,rfl,hS⟩
  have room : ∀ (ad : Option Addr) (cap : Nat) (w' : World),len + ys.length ≤ cap → (∀ a0,ad = some a0 → (storeCells (a0.add (len * es)) news 0).run P E.w = .ok () w') → (ad = none → w' = E.w) →
    (Builtin.append_ #[T,tx] ty #[.slice ad len cap,a.eval y]).run P E.w = .ok (.slice ad (len + ys.length) cap) w' := by
   intro ad cap w' hcap hst hno
   have hl := n1.len E.w
   have hc := n1.cells
   rw [← hi1] at hc hst
   cases ad with
   | none =>
    have := hno rfl
    subst this
    rcases n1.kind with ⟨e',hk'⟩ | hk' <;> simp [Builtin.append_,run_underlying (q60 hT),run_underlying hk',sizeOf,typeInfo,hi,hl,hcap,hc,Result.andThen]
   | some a0 =>
    have := hst a0 rfl
    rcases n1.kind with ⟨e',hk'⟩ | hk' <;> simp [Builtin.append_,run_underlying (q60 hT),run_underlying hk',sizeOf,typeInfo,hi,hl,hcap,hc,Result.andThen,this]
  have triv : ys = [] → rows.take (k + len) ++ ys ++ rows.drop (k + len + ys.length) = rows := fun h => by subst h; simp
  rcases pc_val hR hob' hz hv' with ⟨p1,p2,rfl,rfl,p5,p6⟩ | ⟨b,off,cs,sp,e',p1,p2,p3,p4,p5,p6,p7,p8,p9⟩
  ·have hy0 : ys = [] := by rw [p5] at hk; simpa using hk
   rw [triv hy0]
   refine ⟨_,E,run_of _ _ _ p2 (room none 0 E.w (by rw [hy0]; simp) (fun _ h => by cases h) (fun _ => rfl)),csl_of hobE (by rw [hy0,p6]; simp) (.inl ⟨p1,by rw [hy0]; rfl⟩),?_⟩
   rw [qc3 hob']; exact hR
  ·by_cases hy0 : ys = []
   ·rw [triv hy0]
    have hnews : news = [] := List.eq_nil_of_length_eq_zero (by rw [n2.len,hy0]; rfl)
    refine ⟨_,E,run_of _ _ _ p2 (room _ _ E.w (by rw [hy0]; simp; omega) (fun _ _ => by rw [hnews]; rfl) (fun h => by cases h)),csl_of hobE (by rw [hy0]; simpa using p4) (.inr ⟨b,off,p1,rfl,p3⟩),?_⟩
    rw [qc3 hob']; exact hR
   ·have hpos := List.length_pos_iff.2 hy0
    have hoff := p3 (by omega)
    obtain ⟨w',st1,st2⟩ := pc_store (P := P) (p := k + len) hR hob' p1 p5 p6 p7 p8 p9 n2 hysz (by omega)
    refine ⟨_,_,run_of _ _ _ p2 (room _ _ w' (by omega) (fun a0 h => ?_) (fun h => by cases h)),?_,st2⟩
    ·cases h
     rw [qI1,hoff,← Nat.add_mul]
     exact st1
    ·refine csl_of (es := es) (rows := rows.take (k + len) ++ ys ++ rows.drop (k + len + ys.length)) (by simp [Env.turn,Env.new,qW0]) ?_ (.inr ⟨b,off,?_,?_,?_⟩)
     ·simp only [Env.turn,Env.new,if_true]; omega
     ·simp [Env.turn,Env.new]
     ·simp only [Env.turn,Env.new,if_true]
     ·simp only [Env.turn,Env.new,if_true]; exact p3
end
theorem qm4 {N : Nat × Nat} {s : St} {o c es t len : Nat} {rows rows' : List D} (hs : s.slot t = some (.csl o c 0 len)) (hob : s.obj o = some (.arr c es rows)) (hl : len ≤ rows.length) (hr : rows.take len = rows') (honly : ∀ k,k ≠ o → s.obj k = none) :
  Leads N s (St.of [(t,.arr o (c + 1))] [(o,.arr (c + 1) es rows')]) := by
 subst hr
 rintro cx a w hn ⟨E,rfl,hR⟩
 have hlen : (rows.take len).length = len := by simp; omega
 have hor : Ext E (E.turn o (.arr (c + 1) es (rows.take len)) (E.β o) (E.γ o) [] E.w) → OR (E.turn o (.arr (c + 1) es (rows.take len)) (E.β o) (E.γ o) [] E.w) o (.arr (c + 1) es (rows.take len)) := fun he => by
  rcases hR.objs _ _ hob with ⟨p1,p2,p3⟩ | ⟨b,cs,sp,e,p1,p2,p3,p4,p5,p6⟩
  ·exact .inl ⟨by simp [Env.turn,Env.new,p1],by rw [p2]; simp,by simp [Env.turn,Env.new,p3]⟩
  ·have hcut : rows = rows.take len ++ rows.drop len := (List.take_append_drop _ _).symm
   have p2' := p2
   rw [hcut] at p2'
   obtain ⟨c1,c2,rfl,t1,t2⟩ := DRs.split _ p2'
   refine .inr ⟨b,c1,c2 ++ sp,e,by simp [Env.turn,Env.new,p1],t1.mono he.hz he.imm,fun q hq => p3 q (List.mem_of_mem_take hq),by simp only [Env.turn,Env.new]; rw [p4]; simp,?_,?_⟩
   ·simp only [Env.turn,Env.new,if_true]
    rw [← List.append_assoc]; exact p5
   ·simp only [Env.turn,Env.new,if_true]; rw [hlen]; omega
 have h' := hR.turn (ob' := .arr (c + 1) es (rows.take len)) (b := E.β o) (cap := E.γ o) (births := []) (w := E.w) hob (Nat.le_refl _) (fun q hq => .inl hq) (fun q hq hne => rfl) rfl rfl rfl (by simp [OExt,Env.turn,Env.new]) hor (fun _ _ e => by cases e)
 have eo : (s.set o (.arr (c + 1) es (rows.take len))).obj = (St.of [(t,.arr o (c + 1))] [(o,.arr (c + 1) es (rows.take len))]).obj := by
  funext k
  simp only [St.set,St.of,lk,upd]
  cases hb : Nat.beq k o with
  | true => rfl
  | false => simp only [cond_false]; exact honly k (fun e => by subst e; simp at hb)
 have hv := hR.slots t _ hs
 refine ⟨E.turn o (.arr (c + 1) es (rows.take len)) (E.β o) (E.γ o) [] E.w,rfl,⟨h'.obj.trans eo,h'.may,h'.fresh,h'.inK,h'.hist,h'.defers,h'.size,fun u y hy => ?_,fun k ob hk => h'.objs k ob (by rw [eo]; exact hk),fun k k' b hk hk' => h'.inj k k' b (by rw [eo]; exact hk) (by rw [eo]; exact hk'),fun k b hk => h'.own k b (by rw [eo]; exact hk),h'.keeps⟩⟩
 simp only [St.of,lk] at hy
 cases hb : Nat.beq u t with
 | false => rw [hb] at hy; cases hy
 | true =>
  have := Nat.eq_of_beq_eq_true hb
  subst this
  rw [hb] at hy
  simp only [cond_true,Option.some.injEq] at hy
  subst hy
  refine ⟨[a.tmps.getD u undef],.arr (cur := c + 1) (es := es) (rows := rows.take len) (by simp [Env.turn,Env.new,qW0]) (Nat.le_refl _) (fun _ => ?_) ?_,rfl⟩
  ·rw [hlen]
   simp only [Env.turn,Env.new,if_true]
   rcases pc_val hR hob .csl hv with ⟨p1,p2,_,rfl,p5,p6⟩ | ⟨b,off,cs,sp,e',p1,p2,p3,p4,p5,p6,p7,p8,p9⟩
   ·rw [p1,p2]; rfl
   ·rw [p1,p2]
    simp only [qx5,Nat.sub_zero]
    rw [p3 (by omega)]; simp
  ·rcases pc_val hR hob .csl hv with ⟨p1,p2,_⟩ | ⟨b,off,cs,sp,e',p1,p2,_⟩
   ·rw [p2]; rfl
   ·rw [p2]; rfl
end Go.Val
set_option linter.unusedSectionVars false
set_option linter.unusedVariables false
set_option linter.unusedSimpArgs false
namespace Go.Val
open Go.RowKit
variable [Drw]
section
variable {P : Program} {N : Nat × Nat} {ops : Array Oper} {i : Nat} {s : St} {d : Nat} {ty : TypeId} {pos : String} {af : Array Edge} {g : Option (Nat × Bool)} {gs : List Nat}
end
end Go.Val
