/- Merged texts: Ya Yb. -/
import Derived.Test.YtfbnhflapgddbaaLe
set_option linter.all false
namespace Go.Val
open Go.RowKit
variable [Drw]
inductive Pc (o c n : Nat) : AV → Nat → Nat → Prop
 | arr : Pc o c n (.arr o c) 0 n
 | csl {k len : Nat} : Pc o c n (.csl o c k len) k len
theorem qY5 {cx : Cx} {s : St} {a : Act} {E : Env} (hR : R0 cx s a E) {o c es : Nat} {rows : List D} (hob : s.obj o = some (.arr c es rows)) {y : AV} {k len : Nat} (hy : Pc o c rows.length y k len) {v : Value} (hv : VR E y v) :
  (E.β o = none ∧ v = .slice none 0 0 ∧ k = 0 ∧ len = 0 ∧ rows = [] ∧ E.γ o = 0) ∨
  ∃ b off cs sp e,E.β o = some b ∧ v = .slice (some ⟨b,off,none⟩) len (E.γ o - k) ∧ (k < E.γ o ∨ k = 0 → off = k * es) ∧ k + len ≤ E.γ o ∧ DRs E.I E.w rows cs ∧ (∀ r ∈ rows,r.size = es) ∧
   E.w.heap[b]? = some (.cells (cs ++ sp).toArray e (0,0)) ∧ (cs ++ sp).length = E.γ o * es ∧ rows.length ≤ E.γ o := by
 obtain ⟨xs,h1,h2⟩ := hv
 have hor := hR.objs _ _ hob
 have hobE : E.obj o = some (.arr c es rows) := by rw [hR.obj]; exact hob
 cases hy with
 | arr =>
  cases h1 with
  | arr q1 q2 q3 q4 =>
   rw [hobE] at q1; cases q1
   have h3 := q3 rfl
   rcases hor with ⟨p1,p2,p3⟩ | ⟨b,cs,sp,e,p1,p2,p3,p4,p5,p6⟩
   ·left
    subst p2
    exact ⟨p1,by rw [h2]; show _ = _; rw [show mkV (AV.arr o c).isAgg [_] = _ from rfl]; simp only [mkV,AV.isAgg,Bool.false_eq_true,if_false,List.headD_cons]; rw [h3,p1]; rfl,rfl,rfl,rfl,p3⟩
   ·right
    refine ⟨b,0,cs,sp,e,p1,?_,by simp,by omega,p2,p3,p4,p5,p6⟩
    rw [h2]
    simp only [mkV,AV.isAgg,Bool.false_eq_true,if_false,List.headD_cons]
    rw [h3,p1]; rfl
 | csl =>
  cases h1 with
  | csl q1 q2 q3 q4 =>
   rw [hobE] at q1; cases q1
   obtain ⟨g1,g2⟩ := q3 rfl
   have h2' : v = _ := h2
   simp only [mkV,AV.isAgg,Bool.false_eq_true,if_false,List.headD_cons] at h2'
   rcases hor with ⟨p1,p2,p3⟩ | ⟨b,cs,sp,e,p1,p2,p3,p4,p5,p6⟩
   ·left
    rcases g2 with ⟨r1,r2⟩ | ⟨b,off,r1,_⟩
    ·exact ⟨p1,by rw [h2',r2],by omega,by omega,p2,p3⟩
    ·rw [p1] at r1; cases r1
   ·right
    rcases g2 with ⟨r1,r2⟩ | ⟨b',off,r1,r2,r3⟩
    ·rw [p1] at r1; cases r1
    ·rw [p1] at r1; cases r1
     exact ⟨b,off,cs,sp,e,p1,by rw [h2',r2],r3,g1,p2,p3,p4,p5,p6⟩
theorem csl_of {E : Env} {o c es k len : Nat} {rows : List D} (hobE : E.obj o = some (.arr c es rows)) {v : Value} (hl : k + len ≤ E.γ o)
  (h : (E.β o = none ∧ v = .slice none 0 0) ∨ ∃ b off,E.β o = some b ∧ v = .slice (some ⟨b,off,none⟩) len (E.γ o - k) ∧ (k < E.γ o ∨ k = 0 → off = k * es)) : VR E (.csl o c k len) v := by
 refine ⟨[v],.csl hobE (Nat.le_refl _) (fun _ => ⟨hl,h⟩) ?_,rfl⟩
 rcases h with ⟨_,rfl⟩ | ⟨b,off,_,rfl,_⟩ <;> rfl
theorem qF3 {f : Nat → Option OB} {o : Nat} {x : OB} (h : f o = some x) : q52 f [(o,x)] = f := by
 funext t
 by_cases ht : t = o
 ·subst ht; simp [q52,qf1,h]
 ·simp [q52,qf1,ht]
theorem pc_store {P : Program} {cx : Cx} {s : St} {a : Act} {E : Env} (hR : R0 cx s a E) {o c es p : Nat} {rows ys : List D} (hob : s.obj o = some (.arr c es rows)) {b : Nat} {cs sp news : List Value} {e : TypeId} (hb : E.β o = some b)
  (hcs : DRs E.I E.w rows cs) (hsz : ∀ r ∈ rows,r.size = es) (hh : E.w.heap[b]? = some (.cells (cs ++ sp).toArray e (0,0))) (hl : (cs ++ sp).length = E.γ o * es) (hg : rows.length ≤ E.γ o)
  (hys : DRs E.I E.w ys news) (hysz : ∀ r ∈ ys,r.size = es) (hp : p + ys.length ≤ rows.length) :
  ∃ w',(storeCells ⟨b,p * es,none⟩ news 0).run P E.w = .ok () w' ∧ R0 cx { s with obj := q52 s.obj [(o,.arr c es (rows.take p ++ ys ++ rows.drop (p + ys.length)))] } a (E.turn o (.arr c es (rows.take p ++ ys ++ rows.drop (p + ys.length))) (some b) (E.γ o) [] w') := by
 have hcut : rows = rows.take p ++ ((rows.drop p).take ys.length ++ rows.drop (p + ys.length)) := by
  rw [← List.drop_drop,List.take_append_drop,List.take_append_drop]
 have hcs' := hcs
 rw [hcut] at hcs'
 obtain ⟨c1,c23,rfl,t1,t23⟩ := DRs.split _ hcs'
 obtain ⟨c2,c3,rfl,t2,t3⟩ := DRs.split _ t23
 have l1 : c1.length = p * es := by
  rw [t1.len,qA0 (fun x hx => hsz x (List.mem_of_mem_take hx)),List.length_take,Nat.min_eq_left (by omega)]
 have l2 : c2.length = ys.length * es := by
  rw [t2.len,qA0 (fun x hx => hsz x (List.mem_of_mem_drop (List.mem_of_mem_take hx))),List.length_take,List.length_drop,Nat.min_eq_left (by omega)]
 have ln : news.length = ys.length * es := by rw [hys.len,qA0 hysz]
 have hones : ∀ v ∈ news,v.oneCell' = true := fun v hv => by rw [one_eq]; exact hys.ones v hv
 have hrun := run_storeCells_at P b (p * es) e news 0 ((c1 ++ (c2 ++ c3)) ++ sp).toArray E.w hh (by simp; omega) hones
 have harr : ((((c1 ++ (c2 ++ c3)) ++ sp).toArray.toList.take (p * es + 0) ++ news ++ ((c1 ++ (c2 ++ c3)) ++ sp).toArray.toList.drop (p * es + 0 + news.length)).toArray) = ((c1 ++ news ++ c3) ++ sp).toArray := by
  congr 1
  simp only [Nat.add_zero]
  have e1 : ((c1 ++ (c2 ++ c3)) ++ sp) = c1 ++ (c2 ++ (c3 ++ sp)) := by simp
  rw [e1,← l1,List.take_left,← List.drop_drop,List.drop_left,ln,← l2,List.drop_left]
  simp
 rw [harr] at hrun
 have hrow : (E.w.setRow b ((c1 ++ news ++ c3) ++ sp).toArray).heap[b]? = some (.cells ((c1 ++ news ++ c3) ++ sp).toArray e (0,0)) := setRow_heap _ _ _ _ _ _ hh
 have hlen : (rows.take p ++ ys ++ rows.drop (p + ys.length)).length = rows.length := by simp; omega
 refine ⟨_,hrun,hR.turn hob (by simp) (fun q hq => by cases hq; exact .inl hb) (fun q hq hne => setRow_other _ _ _ _ (fun e => hne (by rw [e]; exact hb))) rfl rfl rfl ?_ (fun he => ?_) (fun _ _ e => by cases e)⟩
 ·exact ⟨Nat.le_refl _,fun _ => ⟨by simp [Env.turn,Env.new,hb],by simp [Env.turn,Env.new],hlen,rfl⟩⟩
 ·refine .inr ⟨b,c1 ++ news ++ c3,sp,e,by simp [Env.turn,Env.new],((t1.append hys).append t3).mono he.hz he.imm,fun r hr => ?_,hrow,?_,?_⟩
  ·rcases zL.1 hr with hr | hr
   ·rcases zL.1 hr with hr | hr
    ·exact hsz r (List.mem_of_mem_take hr)
    ·exact hysz r hr
   ·exact hsz r (List.mem_of_mem_drop hr)
  ·simp only [Env.turn,Env.new,if_true]
   rw [← hl]
   simp
   omega
  ·rw [hlen]; simp only [Env.turn,Env.new,if_true]; exact hg
theorem pc_part {E : Env} {es k len : Nat} {rows : List D} {cs : List Value} (hcs : DRs E.I E.w rows cs) (hsz : ∀ r ∈ rows,r.size = es) (hk : k + len ≤ rows.length) :
  ∃ c1 c2 c3,cs = c1 ++ (c2 ++ c3) ∧ c1.length = k * es ∧ c2.length = len * es ∧ DRs E.I E.w ((rows.drop k).take len) c2 := by
 have hcut : rows = rows.take k ++ ((rows.drop k).take len ++ rows.drop (k + len)) := by
  rw [← List.drop_drop,List.take_append_drop,List.take_append_drop]
 have hcs' := hcs
 rw [hcut] at hcs'
 obtain ⟨c1,c23,rfl,t1,t23⟩ := DRs.split _ hcs'
 obtain ⟨c2,c3,rfl,t2,t3⟩ := DRs.split _ t23
 refine ⟨c1,c2,c3,rfl,?_,?_,t2⟩
 ·rw [t1.len,qA0 (fun x hx => hsz x (List.mem_of_mem_take hx)),List.length_take,Nat.min_eq_left (by omega)]
 ·rw [t2.len,qA0 (fun x hx => hsz x (List.mem_of_mem_drop (List.mem_of_mem_take hx))),List.length_take,List.length_drop,Nat.min_eq_left (by omega)]
section
variable {P : Program} {N : Nat × Nat} {ops : Array Oper} {i : Nat} {s : St} {d : Nat} {ty : TypeId} {pos : String} {af : Array Edge} {g : Option (Nat × Bool)} {gs : List Nat}
theorem o_cut {T e es : Nat} {x : Operand} {lo hi : Option Operand} {o c k len : Nat} (lv hv k' len' : Nat) {y : AV} {rows : List D} (ho : ops[i]? = some ⟨some d,.slice T x lo hi none,ty,pos,af,g⟩) (hd : Nat.ble (d + 1) N.1 = true) (hg : G ops s g gs)
  (hx : s.val x = some y) (hob : s.obj o = some (.arr c es rows)) (hy : Pc o c rows.length y k len) (hT : slB P T = some e) (hS : szB P e = some es) (hl : Bd s 0 lo lv) (hh : Bd s len hi hv) (h1 : lv ≤ hv) (h2 : hv ≤ len) (h3 : k + lv = k') (h4 : hv - lv = len') :
  Valid P N ops i ⟨gs ++ (opT x ++ (bdT lo ++ bdT hi)),[o],some (d,some (.csl o c k' len')),[]⟩ s := by
 subst h3; subst h4
 exact vCo ho rfl hd hg fun s' hs ho' cx a E _ hR => by
  have hob' : s'.obj o = some (.arr c es rows) := (ho' o (by simp)).trans hob
  have hobE : E.obj o = some (.arr c es rows) := by rw [hR.obj]; exact hob'
  obtain ⟨m1,m2,m3⟩ := mem_app3 hs
  have hv' := hR.val ((vAg m1).trans hx)
  have hl' := hl.vals m2 hR
  have hh' := hh.vals m3 hR
  have run_of : ∀ (ad : Option Addr) (cap : Nat),a.eval x = .slice ad len cap → len ≤ cap → (execOp a.eval ⟨some d,.slice T x lo hi none,ty,pos,af,g⟩).run P E.w =
    .ok (.value (.slice (if cap = lv then ad else ad.map (·.add (lv * es))) (hv - lv) (cap - lv))) E.w := by
   intro ad cap e1 hcap
   have hb := qm5 (P := P) (w := E.w) (b := true) (len := len) (cap := cap) hl' hh' h1 (by omega)
   simp only [execOp,Option.map_none]
   rw [e1]
   simp only [Instr.sliceAt,Instr.slice,Sem.run_bind,run_underlying (qa0 hT),Result.andThen,hb,rSO hS,Sem.run_pure]
  rcases qY5 hR hob' hy hv' with ⟨p1,p2,rfl,rfl,p5,p6⟩ | ⟨b,off,cs,sp,e',p1,p2,p3,p4,p5,p6,p7,p8,p9⟩
  ·have e0 : hv = 0 := by omega
   have e1 : lv = 0 := by omega
   subst e0; subst e1
   exact ⟨_,E,run_of none 0 p2 (by omega),csl_of hobE (by omega) (.inl ⟨p1,by simp⟩),qg3 hR⟩
  ·refine ⟨_,E,run_of _ _ p2 (by omega),csl_of hobE (by omega) (.inr ?_),qg3 hR⟩
   by_cases hc : E.γ o - k = lv
   ·rw [if_pos hc]
    refine ⟨b,off,p1,by rw [show E.γ o - k - lv = E.γ o - (k + lv) by omega],fun h => ?_⟩
    have h0 : k = 0 ∧ lv = 0 := by omega
    rw [p3 (.inr h0.1),h0.1,h0.2]
   ·rw [if_neg hc,Option.map_some,q82]
    refine ⟨b,off + lv * es,p1,by rw [show E.γ o - k - lv = E.γ o - (k + lv) by omega],fun h => ?_⟩
    rw [p3 (by omega),Nat.add_mul]
theorem o_lenC {T e : TypeId} {x : Operand} {o c k len es : Nat} {rows : List D} {y : AV} (ho : ops[i]? = some ⟨some d,.call ⟨.builtin .len,#[x],#[T]⟩,ty,pos,af,g⟩) (hd : Nat.ble (d + 1) N.1 = true) (hg : G ops s g gs)
  (hx : s.val x = some y) (hob : s.obj o = some (.arr c es rows)) (hy : Pc o c rows.length y k len) (hT : slB P T = some e) :
  Valid P N ops i ⟨gs ++ opT x,[o],some (d,some (.d (.v (.int .i64 len)))),[]⟩ s :=
 vCo ho rfl hd hg fun s' hs ho' cx a E _ hR => by
  have hob' : s'.obj o = some (.arr c es rows) := (ho' o (by simp)).trans hob
  have hv' := hR.val ((vAg hs).trans hx)
  have h4 : ∃ b cap,a.eval x = .slice b len cap := by
   rcases qY5 hR hob' hy hv' with ⟨p1,p2,_,rfl,_⟩ | ⟨b,off,cs,sp,e',p1,p2,_⟩
   ·exact ⟨_,_,p2⟩
   ·exact ⟨_,_,p2⟩
  obtain ⟨b,cap,h5⟩ := h4
  exact ⟨_,E,by simp [execOp,resolve,invoke,builtin,Builtin.len_,h5,run_underlying (qa0 hT),Result.andThen,goInt],.of_sc rfl,qg3 hR⟩
theorem a_cap {T e : TypeId} {x : Operand} {o c es : Nat} {rows : List D} (ho : ops[i]? = some ⟨some d,.call ⟨.builtin .cap,#[x],#[T]⟩,ty,pos,af,none⟩) (hd : Nat.ble (d + 1) N.1 = true)
  (hx : s.val x = some (.arr o c)) (hob : s.obj o = some (.arr c es rows)) (hT : slB P T = some e) :
  StepA P N ops i (fun s' => ∃ m : Nat,rows.length ≤ m ∧ s' = s.put d (.d (.v (.int .i64 (m : Int))))) s := by
 refine ⟨_,ho,fun Q cx a w hn hR => ?_⟩
 obtain ⟨E,rfl,hR0⟩ := hR
 rw [if_pos ((G.no (ops := ops) (s := s)).wanted (fun _ h => by cases h) hR0)]
 have hv' := hR0.val hx
 have h4 : ∃ b cap,a.eval x = .slice b rows.length cap ∧ rows.length ≤ cap := by
  rcases qY5 hR0 hob .arr hv' with ⟨p1,p2,_,p4,p5,_⟩ | ⟨b,off,cs,sp,e',p1,p2,_,p4,_⟩
  ·exact ⟨_,_,by rw [p4]; exact p2,by omega⟩
  ·exact ⟨_,_,p2,by omega⟩
 obtain ⟨b,cap,h5,h6⟩ := h4
 have hrun : (execOp a.eval ⟨some d,.call ⟨.builtin .cap,#[x],#[T]⟩,ty,pos,af,none⟩).run P E.w = .ok (.value (.int .i64 (cap : Int))) E.w := by
  simp [execOp,resolve,invoke,builtin,Builtin.cap_,h5,run_underlying (qa0 hT),Result.andThen,goInt]
 unfold Oper.wp
 rw [hrun,Oper.upon_value]
 exact ⟨_,⟨cap,h6,rfl⟩,E,rfl,hR0.put (.of_sc rfl) (by rw [hn]; exact Nat.le_of_ble_eq_true hd)⟩
theorem run_copy_rows {w w' : World} {dT sT ty elem : TypeId} {es b off dLen dCap n : Nat} {v : Value} {news : List Value} (hu : slB P dT = some elem) (hs : szB P elem = some es) (hsrc : Src P es sT v n news w) (hn : n ≤ dLen)
  (hst : (storeCells ⟨b,off,none⟩ news 0).run P w = .ok () w') :
  (Builtin.copy_ #[dT,sT] ty #[.slice (some ⟨b,off,none⟩) dLen dCap,v]).run P w = .ok (goInt n) w' := by
 have hl := hsrc.len w
 have hc := hsrc.cells
 have hmin : Nat.min n dLen = n := Nat.min_eq_left hn
 simp [Builtin.copy_,Sem.run_bind,run_underlying (qa0 hu),hl,Result.andThen,rSO hs,hmin,hc,hst]
theorem cp_core {T Ts e es o c k len : Nat} {x y : Operand} {z : AV} {rows ys : List D} (rows' : List D) {rs ro : List Nat} (ho : ops[i]? = some ⟨some d,.call ⟨.builtin .copy,#[x,y],#[T,Ts]⟩,ty,pos,af,g⟩) (hd : Nat.ble (d + 1) N.1 = true) (hg : G ops s g gs)
  (hx : s.val x = some z) (hob : s.obj o = some (.arr c es rows)) (hz : Pc o c rows.length z k len) (hT : slB P T = some e) (hS : szB P e = some es) (hn : ys.length ≤ len) (hk : k + len ≤ rows.length) (hysz : ∀ r ∈ ys,r.size = es)
  (hsrc : ∀ s',(∀ t ∈ rs,s'.slot t = s.slot t) → (∀ k ∈ o :: ro,s'.obj k = s.obj k) → ∀ (cx : Cx) (a : Act) (E : Env),R0 cx s' a E → ∃ news,Src P es Ts (a.eval y) ys.length news E.w ∧ DRs E.I E.w ys news) (hrows : rows.take k ++ ys ++ rows.drop (k + ys.length) = rows') :
  Valid P N ops i ⟨gs ++ (opT x ++ rs),o :: ro,some (d,some (.d (.v (.int .i64 (ys.length : Int))))),[(o,.arr c es rows')]⟩ s := by
 subst hrows
 exact vCo ho rfl hd hg fun s' hs ho' cx a E _ hR => by
  have hob' : s'.obj o = some (.arr c es rows) := (ho' o (by simp)).trans hob
  have hv' := hR.val ((vAg (qt0 hs).1).trans hx)
  obtain ⟨news,n1,n2⟩ := hsrc s' (qt0 hs).2 ho' cx a E hR
  have run_of : ∀ (u v : Value) (w' : World),a.eval x = u → (Builtin.copy_ #[T,Ts] ty #[u,a.eval y]).run P E.w = .ok v w' →
    (execOp a.eval ⟨some d,.call ⟨.builtin .copy,#[x,y],#[T,Ts]⟩,ty,pos,af,g⟩).run P E.w = .ok (.value v) w' := by
   intro u v w' e1 e2
   simp only [execOp,resolve,Sem.run_bind,Sem.run_pure,Result.andThen,invoke,builtin]
   simp only [List.map_toArray,List.map_cons,List.map_nil,e1]
   rw [e2]
  have triv : ys = [] → rows.take k ++ ys ++ rows.drop (k + ys.length) = rows := fun h => by subst h; simp
  rcases qY5 hR hob' hz hv' with ⟨p1,p2,rfl,rfl,p5,p6⟩ | ⟨b,off,cs,sp,e',p1,p2,p3,p4,p5,p6,p7,p8,p9⟩
  ·have hy0 : ys = [] := List.eq_nil_of_length_eq_zero (by omega)
   rw [triv hy0]
   refine ⟨goInt ys.length,E,run_of _ _ _ p2 ?_,.of_sc rfl,?_⟩
   ·have hl := n1.len E.w
    have hc := n1.cells
    subst hy0
    simp only [zH] at hl hc ⊢
    simp [Builtin.copy_,Sem.run_bind,run_underlying (qa0 hT),hl,Result.andThen,rSO hS,hc]
   ·rw [qF3 hob']; exact hR
  ·by_cases hy0 : ys = []
   ·rw [triv hy0]
    have hnews : news = [] := List.eq_nil_of_length_eq_zero (by rw [n2.len,hy0]; rfl)
    refine ⟨goInt ys.length,E,run_of _ _ _ p2 (run_copy_rows hT hS n1 hn (by rw [hnews]; rfl)),.of_sc rfl,?_⟩
    rw [qF3 hob']; exact hR
   ·have hlt : k < E.γ o := by have := List.length_pos_iff.2 hy0; omega
    obtain ⟨w',st1,st2⟩ := pc_store (P := P) (p := k) hR hob' p1 p5 p6 p7 p8 p9 n2 hysz (by omega)
    rw [p3 (.inl hlt)] at p2
    exact ⟨goInt ys.length,_,run_of _ _ _ p2 (run_copy_rows hT hS n1 hn st1),.of_sc rfl,st2⟩
theorem o_cpD {T Ts e es o c k len : Nat} {x y : Operand} {z src : AV} {rows ys : List D} (rows' : List D) {ids : List Nat} (ho : ops[i]? = some ⟨some d,.call ⟨.builtin .copy,#[x,y],#[T,Ts]⟩,ty,pos,af,g⟩) (hd : Nat.ble (d + 1) N.1 = true) (hg : G ops s g gs)
  (hx : s.val x = some z) (hob : s.obj o = some (.arr c es rows)) (hz : Pc o c rows.length z k len) (hy : s.val y = some src) (hsrc : Srcs P s es Ts src ys ids) (hysz : ∀ r ∈ ys,r.size = es) (hT : slB P T = some e) (hS : szB P e = some es) (hn : ys.length ≤ len) (hk : k + len ≤ rows.length) (hrows : rows.take k ++ ys ++ rows.drop (k + ys.length) = rows') :
  Valid P N ops i ⟨gs ++ (opT x ++ opT y),o :: ids,some (d,some (.d (.v (.int .i64 (ys.length : Int))))),[(o,.arr c es rows')]⟩ s :=
 cp_core rows' ho hd hg hx hob hz hT hS hn hk hysz (fun s' hs ho' cx a E hR => by
  have hsrc' : Srcs P s' es Ts src ys ids := by
   cases hsrc with
   | sl h => exact .sl h
   | arr h h' => exact .arr h ((ho' _ (by simp)).trans h')
   | str h h' => exact .str h h'
  exact hsrc'.src hR (hR.val ((vAg hs).trans hy)) hysz) hrows
theorem o_cpC {T Ts e e2 es o c k len k2 len2 : Nat} {x y : Operand} {z z2 : AV} {rows : List D} (rows' : List D) (ho : ops[i]? = some ⟨some d,.call ⟨.builtin .copy,#[x,y],#[T,Ts]⟩,ty,pos,af,g⟩) (hd : Nat.ble (d + 1) N.1 = true) (hg : G ops s g gs)
  (hx : s.val x = some z) (hob : s.obj o = some (.arr c es rows)) (hz : Pc o c rows.length z k len) (hy : s.val y = some z2) (hz2 : Pc o c rows.length z2 k2 len2) (hT : slB P T = some e) (hTs : slB P Ts = some e2) (hS : szB P e = some es) (hn : len2 ≤ len) (hk : k + len ≤ rows.length) (hk2 : k2 + len2 ≤ rows.length) (hsz : ∀ r ∈ rows,r.size = es) (hrows : rows.take k ++ (rows.drop k2).take len2 ++ rows.drop (k + len2) = rows') :
  Valid P N ops i ⟨gs ++ (opT x ++ opT y),[o],some (d,some (.d (.v (.int .i64 (len2 : Int))))),[(o,.arr c es rows')]⟩ s := by
 have hl2 : ((rows.drop k2).take len2).length = len2 := by simp; omega
 have := cp_core (N := N) rows' (ys := (rows.drop k2).take len2) (rs := opT y) (ro := []) ho hd hg hx hob hz hT hS (by omega) hk (fun r hr => hsz r (List.mem_of_mem_drop (List.mem_of_mem_take hr))) (fun s' hs ho' cx a E hR => by
  have hob' : s'.obj o = some (.arr c es rows) := (ho' o (by simp)).trans hob
  have hv2 := hR.val ((vAg hs).trans hy)
  rw [hl2]
  rcases qY5 hR hob' hz2 hv2 with ⟨p1,p2,rfl,rfl,p5,p6⟩ | ⟨b,off,cs,sp,e',p1,p2,p3,p4,p5,p6,p7,p8,p9⟩
  ·rw [p2]
   exact ⟨[],.ofNil _ (qa0 hTs) 0,by simp; exact .nil⟩
  ·rw [p2]
   by_cases h0 : len2 = 0
   ·subst h0
    exact ⟨[],.ofSlice _ (qa0 hTs) _ _ _ _ (by simp) (fun j u hj => by simp at hj) (fun _ h => by cases h),by simp; exact .nil⟩
   ·obtain ⟨c1,c2,c3,rfl,l1,l2,t2⟩ := pc_part p5 p6 hk2
    have hoff := p3 (by omega)
    refine ⟨c2,.ofSlice _ (qa0 hTs) _ _ _ _ l2 (fun j u hj => ?_) (fun u hu => by rw [one_eq]; exact t2.ones u hu),t2⟩
    rw [q82]
    have hall : CellsAt E.w b 0 ((c1 ++ (c2 ++ c3)) ++ sp) := by
     have := caB (sp := []) (cs := (c1 ++ (c2 ++ c3)) ++ sp) (by rw [zJ]; exact p7)
     exact this
    have h6 := (hall.left).right.left j u hj
    rw [Nat.zero_add,l1] at h6
    rw [hoff]
    exact h6) (by rw [hl2]; exact hrows)
 rw [hl2] at this
 exact this
theorem o_clrC {T e es : Nat} {x : Operand} {o c k len : Nat} {y : AV} {rows : List D} (rows' : List D) {z : D} (ho : ops[i]? = some ⟨none,.call ⟨.builtin .clear,#[x],#[T]⟩,ty,pos,af,g⟩) (hg : G ops s g gs)
  (hx : s.val x = some y) (hob : s.obj o = some (.arr c es rows)) (hy : Pc o c rows.length y k len) (hT : slB P T = some e) (hZ : Zero P e z) (hz : z.size = es) (h0 : 0 < es) (hk : k + len ≤ rows.length) (hrows : rows.take k ++ List.replicate len z ++ rows.drop (k + len) = rows') :
  Valid P N ops i ⟨gs ++ opT x,[o],none,[(o,.arr c es rows')]⟩ s := by
 subst hrows
 exact qs4 ho rfl hg fun s' hs ho' cx a E _ hR => by
  have hob' : s'.obj o = some (.arr c es rows) := (ho' o (by simp)).trans hob
  have hv' := hR.val ((vAg hs).trans hx)
  have hu := qa0 hT
  have triv : ∀ ad cap,len = 0 → a.eval x = .slice ad len cap → ∃ r E',(execOp a.eval ⟨none,.call ⟨.builtin .clear,#[x],#[T]⟩,ty,pos,af,g⟩).run P E.w = .ok r E'.w ∧ (r = .skip ∨ ∃ v,r = .value v) ∧ R0 cx { s' with obj := q52 s'.obj [(o,.arr c es (rows.take k ++ List.replicate len z ++ rows.drop (k + len)))] } a E' := by
   intro ad cap hl0 e0
   subst hl0
   have he : rows.take k ++ List.replicate 0 z ++ rows.drop (k + 0) = rows := by simp
   rw [he]
   refine ⟨.value (.tuple #[]),E,?_,.inr ⟨_,rfl⟩,by rw [qF3 hob']; exact hR⟩
   simp only [execOp,resolve,Sem.run_bind,Sem.run_pure,Result.andThen,invoke,builtin]
   simp only [List.map_toArray,List.map_cons,List.map_nil,e0]
   cases ad <;> simp [Builtin.clear_,run_underlying hu,Result.andThen]
  rcases qY5 hR hob' hy hv' with ⟨p1,p2,rfl,rfl,p5,p6⟩ | ⟨b,off,cs,sp,e',p1,p2,p3,p4,p5,p6,p7,p8,p9⟩
  ·exact triv none 0 rfl p2
  ·by_cases hl0 : len = 0
   ·exact triv _ _ hl0 p2
   ·have hoff := p3 (by omega)
    obtain ⟨zs,hz1,hz2⟩ := hZ E.I E.w
    have hzl : zs.length = es := hz1.len.trans hz
    have hzc : (mkV z.isAgg zs).cells = zs.toArray := hz1.mkV_cells
    obtain ⟨w',st1,st2⟩ := pc_store (P := P) (p := k) (ys := List.replicate len z) (news := (List.replicate len zs).flatten) hR hob' p1 p5 p6 p7 p8 p9 (drs_rep hz1 len) (fun r hr => by rw [List.eq_of_mem_replicate hr]; exact hz) (by simp; omega)
    rw [List.length_replicate] at st2
    refine ⟨.value (.tuple #[]),_,?_,.inr ⟨_,rfl⟩,st2⟩
    have e0 : a.eval x = .slice (some ⟨b,k * es,none⟩) len (E.γ o - k) := by rw [← hoff]; exact p2
    simp only [execOp,resolve,Sem.run_bind,Sem.run_pure,Result.andThen,invoke,builtin]
    simp only [List.map_toArray,List.map_cons,List.map_nil,e0]
    obtain ⟨len',rfl⟩ : ∃ l,len = l + 1 := ⟨len - 1,by omega⟩
    have hzf : (Builtin.zeroCells (mkV z.isAgg zs).cells (len' + 1)).toList = (List.replicate (len' + 1) zs).flatten := by
     rw [hzc]; exact qc5 (by omega) _
    simp only [Builtin.clear_]
    simp [run_underlying hu,Result.andThen,q55 hz2,hzf,st1]
    rfl
theorem o_appC {T tx e es : Nat} {x y : Operand} {o c k len : Nat} {z src : AV} {rows ys : List D} (rows' : List D) (len' : Nat) {ids : List Nat} (ho : ops[i]? = some ⟨some d,.call ⟨.builtin .append,#[x,y],#[T,tx]⟩,ty,pos,af,g⟩) (hd : Nat.ble (d + 1) N.1 = true) (hg : G ops s g gs)
  (hx : s.val x = some z) (hob : s.obj o = some (.arr c es rows)) (hz : Pc o c rows.length z k len) (hy : s.val y = some src) (hsrc : Srcs P s es tx src ys ids) (hysz : ∀ r ∈ ys,r.size = es) (hT : slB P T = some e) (hS : szB P e = some es) (hk : k + len + ys.length ≤ rows.length) (hrows : rows.take (k + len) ++ ys ++ rows.drop (k + len + ys.length) = rows') (hlen : len + ys.length = len') :
  Valid P N ops i ⟨gs ++ (opT x ++ opT y),o :: ids,some (d,some (.csl o c k len')),[(o,.arr c es rows')]⟩ s := by
 subst hrows; subst hlen
 exact vCo ho rfl hd hg fun s' hs ho' cx a E _ hR => by
  have hob' : s'.obj o = some (.arr c es rows) := (ho' o (by simp)).trans hob
  have hobE : E.obj o = some (.arr c es rows) := by rw [hR.obj]; exact hob'
  have hv' := hR.val ((vAg (qt0 hs).1).trans hx)
  have hsrc' : Srcs P s' es tx src ys ids := by
   cases hsrc with
   | sl h => exact .sl h
   | arr h h' => exact .arr h ((ho' _ (by simp)).trans h')
   | str h h' => exact .str h h'
  obtain ⟨news,n1,n2⟩ := hsrc'.src hR (hR.val ((vAg (qt0 hs).2).trans hy)) hysz
  have run_of : ∀ (u v : Value) (w' : World),a.eval x = u → (Builtin.append_ #[T,tx] ty #[u,a.eval y]).run P E.w = .ok v w' →
    (execOp a.eval ⟨some d,.call ⟨.builtin .append,#[x,y],#[T,tx]⟩,ty,pos,af,g⟩).run P E.w = .ok (.value v) w' := by
   intro u v w' e1 e2
   simp only [execOp,resolve,Sem.run_bind,Sem.run_pure,Result.andThen,invoke,builtin]
   simp only [List.map_toArray,List.map_cons,List.map_nil,e1]
   rw [e2]
  obtain ⟨inf,hi,hi1⟩ : ∃ inf,P.info? e = some inf ∧ inf.size = es := by
   unfold szB at hS
   cases hi : P.info? e with
   | none => simp [hi] at hS
   | some inf => simp [hi] at hS; exact ⟨inf,rfl,hS⟩
  have room : ∀ (ad : Option Addr) (cap : Nat) (w' : World),len + ys.length ≤ cap → (∀ a0,ad = some a0 → (storeCells (a0.add (len * es)) news 0).run P E.w = .ok () w') → (ad = none → w' = E.w) →
    (Builtin.append_ #[T,tx] ty #[.slice ad len cap,a.eval y]).run P E.w = .ok (.slice ad (len + ys.length) cap) w' := by
   intro ad cap w' hcap hst hno
   have hl := n1.len E.w
   have hc := n1.cells
   rw [← hi1] at hc hst
   cases ad with
   | none =>
    have := hno rfl
    subst this
    rcases n1.kind with ⟨e',hk'⟩ | hk' <;> simp [Builtin.append_,run_underlying (qa0 hT),run_underlying hk',sizeOf,typeInfo,hi,hl,hcap,hc,Result.andThen]
   | some a0 =>
    have := hst a0 rfl
    rcases n1.kind with ⟨e',hk'⟩ | hk' <;> simp [Builtin.append_,run_underlying (qa0 hT),run_underlying hk',sizeOf,typeInfo,hi,hl,hcap,hc,Result.andThen,this]
  have triv : ys = [] → rows.take (k + len) ++ ys ++ rows.drop (k + len + ys.length) = rows := fun h => by subst h; simp
  rcases qY5 hR hob' hz hv' with ⟨p1,p2,rfl,rfl,p5,p6⟩ | ⟨b,off,cs,sp,e',p1,p2,p3,p4,p5,p6,p7,p8,p9⟩
  ·have hy0 : ys = [] := by rw [p5] at hk; simpa using hk
   rw [triv hy0]
   refine ⟨_,E,run_of _ _ _ p2 (room none 0 E.w (by rw [hy0]; simp) (fun _ h => by cases h) (fun _ => rfl)),csl_of hobE (by rw [hy0,p6]; simp) (.inl ⟨p1,by rw [hy0]; rfl⟩),?_⟩
   rw [qF3 hob']; exact hR
  ·by_cases hy0 : ys = []
   ·rw [triv hy0]
    have hnews : news = [] := List.eq_nil_of_length_eq_zero (by rw [n2.len,hy0]; rfl)
    refine ⟨_,E,run_of _ _ _ p2 (room _ _ E.w (by rw [hy0]; simp; omega) (fun _ _ => by rw [hnews]; rfl) (fun h => by cases h)),csl_of hobE (by rw [hy0]; simpa using p4) (.inr ⟨b,off,p1,rfl,p3⟩),?_⟩
    rw [qF3 hob']; exact hR
   ·have hpos := List.length_pos_iff.2 hy0
    have hoff := p3 (by omega)
    obtain ⟨w',st1,st2⟩ := pc_store (P := P) (p := k + len) hR hob' p1 p5 p6 p7 p8 p9 n2 hysz (by omega)
    refine ⟨_,_,run_of _ _ _ p2 (room _ _ w' (by omega) (fun a0 h => ?_) (fun h => by cases h)),?_,st2⟩
    ·cases h
     rw [q82,hoff,← Nat.add_mul]
     exact st1
    ·refine csl_of (es := es) (rows := rows.take (k + len) ++ ys ++ rows.drop (k + len + ys.length)) (by simp [Env.turn,Env.new,qf1]) ?_ (.inr ⟨b,off,?_,?_,?_⟩)
     ·simp only [Env.turn,Env.new,if_true]; omega
     ·simp [Env.turn,Env.new]
     ·simp only [Env.turn,Env.new,if_true]
     ·simp only [Env.turn,Env.new,if_true]; exact p3
end
theorem q75 {N : Nat × Nat} {s : St} {o c es t len : Nat} {rows rows' : List D} (hs : s.slot t = some (.csl o c 0 len)) (hob : s.obj o = some (.arr c es rows)) (hl : len ≤ rows.length) (hr : rows.take len = rows') (honly : ∀ k,k ≠ o → s.obj k = none) :
  Leads N s (St.of [(t,.arr o (c + 1))] [(o,.arr (c + 1) es rows')]) := by
 subst hr
 rintro cx a w hn ⟨E,rfl,hR⟩
 have hlen : (rows.take len).length = len := by simp; omega
 have hor : Ext E (E.turn o (.arr (c + 1) es (rows.take len)) (E.β o) (E.γ o) [] E.w) → OR (E.turn o (.arr (c + 1) es (rows.take len)) (E.β o) (E.γ o) [] E.w) o (.arr (c + 1) es (rows.take len)) := fun he => by
  rcases hR.objs _ _ hob with ⟨p1,p2,p3⟩ | ⟨b,cs,sp,e,p1,p2,p3,p4,p5,p6⟩
  ·exact .inl ⟨by simp [Env.turn,Env.new,p1],by rw [p2]; simp,by simp [Env.turn,Env.new,p3]⟩
  ·have hcut : rows = rows.take len ++ rows.drop len := (List.take_append_drop _ _).symm
   have p2' := p2
   rw [hcut] at p2'
   obtain ⟨c1,c2,rfl,t1,t2⟩ := DRs.split _ p2'
   refine .inr ⟨b,c1,c2 ++ sp,e,by simp [Env.turn,Env.new,p1],t1.mono he.hz he.imm,fun q hq => p3 q (List.mem_of_mem_take hq),by simp only [Env.turn,Env.new]; rw [p4]; simp,?_,?_⟩
   ·simp only [Env.turn,Env.new,if_true]
    rw [← zI]; exact p5
   ·simp only [Env.turn,Env.new,if_true]; rw [hlen]; omega
 have h' := hR.turn (ob' := .arr (c + 1) es (rows.take len)) (b := E.β o) (cap := E.γ o) (births := []) (w := E.w) hob (Nat.le_refl _) (fun q hq => .inl hq) (fun q hq hne => rfl) rfl rfl rfl (by simp [OExt,Env.turn,Env.new]) hor (fun _ _ e => by cases e)
 have eo : (s.set o (.arr (c + 1) es (rows.take len))).obj = (St.of [(t,.arr o (c + 1))] [(o,.arr (c + 1) es (rows.take len))]).obj := by
  funext k
  simp only [St.set,St.of,lk,upd]
  cases hb : Nat.beq k o with
  | true => rfl
  | false => simp only [zD]; exact honly k (fun e => by subst e; simp at hb)
 have hv := hR.slots t _ hs
 refine ⟨E.turn o (.arr (c + 1) es (rows.take len)) (E.β o) (E.γ o) [] E.w,rfl,⟨h'.obj.trans eo,h'.may,h'.fresh,h'.inK,h'.hist,h'.defers,h'.size,fun u y hy => ?_,fun k ob hk => h'.objs k ob (by rw [eo]; exact hk),fun k k' b hk hk' => h'.inj k k' b (by rw [eo]; exact hk) (by rw [eo]; exact hk'),fun k b hk => h'.own k b (by rw [eo]; exact hk),h'.keeps⟩⟩
 simp only [St.of,lk] at hy
 cases hb : Nat.beq u t with
 | false => rw [hb] at hy; cases hy
 | true =>
  have := Nat.eq_of_beq_eq_true hb
  subst this
  rw [hb] at hy
  simp only [zE,Option.some.injEq] at hy
  subst hy
  refine ⟨[a.tmps.getD u undef],.arr (cur := c + 1) (es := es) (rows := rows.take len) (by simp [Env.turn,Env.new,qf1]) (Nat.le_refl _) (fun _ => ?_) ?_,rfl⟩
  ·rw [hlen]
   simp only [Env.turn,Env.new,if_true]
   rcases qY5 hR hob .csl hv with ⟨p1,p2,_,rfl,p5,p6⟩ | ⟨b,off,cs,sp,e',p1,p2,p3,p4,p5,p6,p7,p8,p9⟩
   ·rw [p1,p2]; rfl
   ·rw [p1,p2]
    simp only [q66,Nat.sub_zero]
    rw [p3 (by omega)]; simp
  ·rcases qY5 hR hob .csl hv with ⟨p1,p2,_⟩ | ⟨b,off,cs,sp,e',p1,p2,_⟩
   ·rw [p2]; rfl
   ·rw [p2]; rfl
end Go.Val
namespace Go.Val
open Go.RowKit
variable [Drw]
section
variable {P : Program} {N : Nat × Nat} {ops : Array Oper} {i : Nat} {s : St} {d : Nat} {ty : TypeId} {pos : String} {af : Array Edge} {g : Option (Nat × Bool)} {gs : List Nat}
theorem o_mkG {T e es bs : Nat} {x y : Operand} {n : Int} {α : Type} {enc : α → D} {z : α} (o : Nat) (ho : ops[i]? = some ⟨some d,.makeSlice T x y,ty,pos,af,g⟩) (hd : Nat.ble (d + 1) N.1 = true) (hg : G ops s g gs)
  (hx : s.val x = some (.d (.v (.int .i64 n)))) (hy : s.val y = some (.d (.v (.int .i64 n)))) (hT : slB P T = some e) (hS : szB P e = some es) (hB : qw5 P e = some bs) (hZ : Zero P e (enc z)) (hzs : (enc z).size = es) (he0 : 0 < es)
  (hn : 0 ≤ n ∧ n.toNat * bs ≤ 140737488355328) (h63 : n ≤ 9223372036854775807) (hno : s.obj o = none) :
  Valid P N ops i ⟨gs ++ (opT x ++ opT y),[o],some (d,some (.arr o 0)),[(o,.arr 0 es ((List.replicate n.toNat z).map enc))]⟩ s :=
 vCo ho rfl hd hg fun s' hs ho' cx a E _ hR => by
  have hno' := noObj ho' hno
  have hnoE : E.obj o = none := by rw [hR.obj]; exact hno'
  have ex := (hR.val ((vAg (qt0 hs).1).trans hx)).sc
  have ey := (hR.val ((vAg (qt0 hs).2).trans hy)).sc
  obtain ⟨zs,hz1,hz2⟩ := hZ E.I E.w
  obtain ⟨inf,i1,i2,i3,i4⟩ := info_of hS hB hz2
  have hzc : (mkV (enc z).isAgg zs).cells = zs.toArray := hz1.mkV_cells
  have hzl : zs.length = es := hz1.len.trans hzs
  have hb : (inf.bytes : Int) * n ≤ 281474976710656 := by
   rw [i3]
   have : ((n.toNat * bs : Nat) : Int) = n * (bs : Int) := by rw [Int.natCast_mul]; congr 1; omega
   rw [Int.mul_comm,← this]; omega
  have hrun := run_make (P := P) E.w T e inf (mkV (enc z).isAgg zs) (qa0 hT) i1 i4 .i64 .i64 n n hn.1 (Int.le_refl _) hb h63
  have hcs : madeCells (mkV (enc z).isAgg zs).cells (n.toNat * inf.size) = ((List.replicate n.toNat zs).flatten).toArray := by
   rw [hzc,i2]
   apply Array.ext'
   have : madeCells zs.toArray (n.toNat * es) = Builtin.zeroCells zs.toArray n.toNat := by
    unfold madeCells Builtin.zeroCells
    rw [List.size_toArray,hzl]
   rw [this]
   exact qc5 (by omega) _
  rw [hcs] at hrun
  have hrows : (List.replicate n.toNat z).map enc = List.replicate n.toNat (enc z) := List.map_replicate
  rw [hrows]
  have hz' : E.w.heap.size ≤ (E.w.alloc (.cells ((List.replicate n.toNat zs).flatten).toArray e)).heap.size := by simp
  have hh : ∀ k,k < E.w.heap.size → (E.w.alloc (.cells ((List.replicate n.toNat zs).flatten).toArray e)).heap[k]? = E.w.heap[k]? := fun k hk => Below.heap_alloc _ _ _ hk
  have he := ext_new (ob := .arr 0 es (List.replicate n.toNat (enc z))) (cap := n.toNat) (births := []) rfl hnoE hz' (b := some E.w.heap.size) (fun k hk => by cases hk; exact Nat.le_refl _) hh
  refine ⟨.slice (some ⟨E.w.heap.size,0,none⟩) n.toNat n.toNat,E.new o (.arr 0 es (List.replicate n.toNat (enc z))) (some E.w.heap.size) n.toNat [] (E.w.alloc (.cells ((List.replicate n.toNat zs).flatten).toArray e)),?_,?_,hR.new hno' hz' (fun k hk => by cases hk; exact Nat.le_refl _) hh (hR.keeps.grow _) ?_⟩
  ·simp only [execOp]
   rw [ex,ey,Sem.run_bind,hrun]
   rfl
  ·exact ⟨_,.arr (cur := 0) (es := es) (rows := List.replicate n.toNat (enc z)) (by simp [Env.new,qf1]) (Nat.le_refl _) (fun _ => by simp [Env.new,q66]) rfl,rfl⟩
  ·refine .inr ⟨E.w.heap.size,(List.replicate n.toNat zs).flatten,[],e,by simp [Env.new],(drs_rep hz1 _).mono he.hz he.imm,fun r hr => by rw [List.eq_of_mem_replicate hr]; exact hzs,by rw [zJ]; exact qr2 _ _,?_,by simp [Env.new]⟩
   rw [zJ,qX4,hzl]
   simp [Env.new]
theorem o_ixC {T e es : Nat} {x z : Operand} {o c k len : Nat} {y : AV} {rows : List D} {kk : IntKind} {n : Int} (ho : ops[i]? = some ⟨some d,.indexAddr T x z,ty,pos,af,g⟩) (hd : Nat.ble (d + 1) N.1 = true) (hg : G ops s g gs)
  (hx : s.val x = some y) (hob : s.obj o = some (.arr c es rows)) (hy : Pc o c rows.length y k len) (hz : s.val z = some (.d (.v (.int kk n)))) (hT : slB P T = some e) (he : szB P e = some es) (h0 : 0 ≤ n) (hr : n < len) :
  Valid P N ops i ⟨gs ++ (opT x ++ opT z),[o],some (d,some (.pel o c (k + n.toNat) 0)),[]⟩ s :=
 vCo ho rfl hd hg fun s' hs ho' cx a E _ hR => by
  have hob' : s'.obj o = some (.arr c es rows) := (ho' o (by simp)).trans hob
  have h2 := (hR.val ((vAg (qt0 hs).2).trans hz)).sc
  have hv' := hR.val ((vAg (qt0 hs).1).trans hx)
  rcases qY5 hR hob' hy hv' with ⟨p1,p2,rfl,rfl,p5,p6⟩ | ⟨b,off,cs,sp,e',p1,p2,p3,p4,p5,p6,p7,p8,p9⟩
  ·omega
  ·refine ⟨_,E,?_,⟨_,.pel (by rw [hR.obj]; exact hob') (Nat.le_refl _) (fun _ => ⟨b,p1,rfl⟩) rfl,rfl⟩,qg3 hR⟩
   simp only [execOp]
   rw [p2,h2,Sem.run_bind,qV2 hT he h0 hr]
   simp only [Result.andThen]
   rw [p3 (by omega),Nat.add_zero,Nat.add_mul]
   rfl
theorem a_appQ {T tx e es bs : Nat} {x y : Operand} {o c : Nat} {Pre Q ys : List D} {src z : D} (ho : ops[i]? = some ⟨some d,.call ⟨.builtin .append,#[x,y],#[T,tx]⟩,ty,pos,af,none⟩) (hd : Nat.ble (d + 1) N.1 = true)
  (hx : s.val x = some (.csl o c Pre.length Q.length)) (hob : s.obj o = some (.arr c es (Pre ++ Q))) (hy : s.val y = some (.d (.sl es ys))) (htx : slB P tx = some e) (hysz : ∀ r ∈ ys,r.size = es)
  (hT : slB P T = some e) (hS : szB P e = some es) (hB : qw5 P e = some bs) (hZ : Zero P e z) (hzs : z.size = es) (hfit : (Q.length + ys.length) * bs ≤ 140737488355328) (h63 : Q.length + ys.length ≤ 9223372036854775807) (hy0 : ys ≠ []) :
  StepA P N ops i (fun s' => ∃ Pre' : List D,s' = (s.put d (.csl o (c + 1) Pre'.length (Q ++ ys).length)).set o (.arr (c + 1) es (Pre' ++ (Q ++ ys)))) s := by
 refine ⟨_,ho,fun W cx a w hn hR => ?_⟩
 obtain ⟨E,rfl,hR0⟩ := hR
 rw [if_pos ((G.no (ops := ops) (s := s)).wanted (fun _ h => by cases h) hR0)]
 have hobE : E.obj o = some (.arr c es (Pre ++ Q)) := by rw [hR0.obj]; exact hob
 have hdN : d < cx.nk.1 := by rw [hn]; exact Nat.le_of_ble_eq_true hd
 have hv := hR0.val hx
 obtain ⟨news,n1,n2⟩ := (Srcs.sl (s := s) (es := es) (rows := ys) htx).src hR0 (hR0.val hy) hysz
 obtain ⟨zs,hz1,hz2⟩ := hZ E.I E.w
 obtain ⟨inf,hi,hi1,hi2,hi3⟩ := info_of hS hB hz2
 have hzc : (mkV z.isAgg zs).cells = zs.toArray := hz1.mkV_cells
 have hzl : zs.length = es := hz1.len.trans hzs
 have hnl : news.length = ys.length * es := by rw [n2.len,qA0 hysz]
 have hyp := List.length_pos_iff.2 hy0
 have run_of : ∀ (u v : Value) (w' : World),a.eval x = u → (Builtin.append_ #[T,tx] ty #[u,a.eval y]).run P E.w = .ok v w' →
   (execOp a.eval ⟨some d,.call ⟨.builtin .append,#[x,y],#[T,tx]⟩,ty,pos,af,none⟩).run P E.w = .ok (.value v) w' := by
  intro u v w' e1 e2
  simp only [execOp,resolve,Sem.run_bind,Sem.run_pure,Result.andThen,invoke,builtin]
  simp only [List.map_toArray,List.map_cons,List.map_nil,e1]
  rw [e2]
 have fin : ∀ (v : Value) (E' : Env) (Pre' : List D),(execOp a.eval ⟨some d,.call ⟨.builtin .append,#[x,y],#[T,tx]⟩,ty,pos,af,none⟩).run P E.w = .ok (.value v) E'.w → VR E' (.csl o (c + 1) Pre'.length (Q ++ ys).length) v → R0 cx (s.set o (.arr (c + 1) es (Pre' ++ (Q ++ ys)))) a E' →
   Oper.wp P ⟨some d,.call ⟨.builtin .append,#[x,y],#[T,tx]⟩,ty,pos,af,none⟩ a E.w (fun a' w' => ∃ s',(∃ Pre' : List D,s' = (s.put d (.csl o (c + 1) Pre'.length (Q ++ ys).length)).set o (.arr (c + 1) es (Pre' ++ (Q ++ ys)))) ∧ R cx s' a' w') W := by
  intro v E' Pre' h1 h2 h3
  unfold Oper.wp
  rw [h1,Oper.upon_value]
  exact ⟨_,⟨Pre',rfl⟩,E',rfl,h3.put h2 hdN⟩
 have grow : ∀ (cap : Nat) (base : Option Addr) (olds : List Value),a.eval x = .slice base Q.length cap → cap < Q.length + ys.length → DRs E.I E.w Q olds → (∀ r ∈ Q,r.size = es) →
   (Builtin.firstCells inf.size Q.length (.slice base Q.length cap)).run P E.w.drew = .ok olds.toArray E.w.drew →
   Oper.wp P ⟨some d,.call ⟨.builtin .append,#[x,y],#[T,tx]⟩,ty,pos,af,none⟩ a E.w (fun a' w' => ∃ s',(∃ Pre' : List D,s' = (s.put d (.csl o (c + 1) Pre'.length (Q ++ ys).length)).set o (.arr (c + 1) es (Pre' ++ (Q ++ ys)))) ∧ R cx s' a' w') W := by
  intro cap base olds hau hcap hol hrs hfc
  have hrun := run_append_grow_src E.w T tx ty e inf (mkV z.isAgg zs) (qa0 hT) hi hi3 base Q.length cap olds hfc (a.eval y) ys.length news (by rw [hi1]; exact n1) hcap (by omega)
   (growslice_fits hcap (by rw [hi2]; exact hfit))
  have hge := grown_ge E.w (Q.length + ys.length) cap e
  generalize hgc : grownCap E.w (Q.length + ys.length) cap e = gc at hrun hge
  rw [hzc] at hrun
  let sp := (Builtin.zeroCells zs.toArray (gc - (Q.length + ys.length))).toList
  have hblk : ((olds ++ news).toArray ++ Builtin.zeroCells zs.toArray (gc - (Q.length + ys.length))) = ((olds ++ news) ++ sp).toArray := by
   apply Array.ext'; simp [sp]
  rw [hblk] at hrun
  let w' := E.w.drew.alloc (.cells ((olds ++ news) ++ sp).toArray e)
  have hoth : ∀ k,k < E.w.heap.size → w'.heap[k]? = E.w.heap[k]? := fun k hk => Below.heap_alloc E.w.drew _ _ hk
  have hnew : w'.heap[E.w.heap.size]? = some (.cells ((olds ++ news) ++ sp).toArray e (0,0)) := qr2 E.w.drew _
  refine fin _ (E.turn o (.arr (c + 1) es ([] ++ (Q ++ ys))) (some E.w.heap.size) gc [] w') [] (run_of _ _ _ hau hrun) ?_ ?_
  ·refine csl_of (es := es) (rows := [] ++ (Q ++ ys)) (by simp [Env.turn,Env.new,qf1]) ?_ (.inr ⟨E.w.heap.size,0,?_,?_,?_⟩)
   ·simp only [Env.turn,Env.new,if_true,zH,zF]; omega
   ·simp [Env.turn,Env.new]
   ·simp [Env.turn,Env.new]
   ·intro _; simp
  ·refine hR0.turn hob (by simp [w']) (fun k hk => by cases hk; exact .inr (Nat.le_refl _)) (fun k hk _ => hoth k hk) rfl rfl rfl ?_ (fun he => ?_) (fun _ _ e => by cases e)
   ·exact ⟨Nat.le_succ _,fun e => by omega⟩
   ·refine .inr ⟨E.w.heap.size,olds ++ news,sp,e,by simp [Env.turn,Env.new],(hol.append n2).mono he.hz he.imm,fun r hr => ?_,hnew,?_,?_⟩
    ·rw [List.nil_append] at hr
     rcases zL.1 hr with h | h
     ·exact hrs r h
     ·exact hysz r h
    ·have l1 : olds.length = Q.length * es := by rw [hol.len,qA0 hrs]
     have l2 : sp.length = (gc - (Q.length + ys.length)) * es := by simp only [sp,qx4]; rw [List.size_toArray,hzl]
     simp only [zF,l1,hnl,l2,Env.turn,Env.new,if_true]
     rw [← Nat.add_mul,← Nat.add_mul]
     congr 1
     omega
    ·simp only [List.nil_append,zF,Env.turn,Env.new,if_true]; exact hge
 rcases qY5 hR0 hob .csl hv with ⟨p1,p2,p3,p4,p5,p6⟩ | ⟨b,off,cs,sp,e',p1,p2,p3,p4,p5,p6,p7,p8,p9⟩
 ·have hQ : Q = [] := List.eq_nil_of_length_eq_zero p4
  subst hQ
  exact grow 0 none [] p2 (by simp; exact hyp) .nil (fun _ h => by cases h) (run_firstCells_none _ _ _ _ _)
 ·have hsplit : DRs E.I E.w (Pre ++ Q) cs := p5
  obtain ⟨c1,c2,rfl,t1,t2⟩ := DRs.split _ hsplit
  have l1 : c1.length = Pre.length * es := by rw [t1.len,qA0 (fun x hx => p6 x (zL.2 (.inl hx)))]
  have l2 : c2.length = Q.length * es := by rw [t2.len,qA0 (fun x hx => p6 x (zL.2 (.inr hx)))]
  have hQs : ∀ r ∈ Q,r.size = es := fun x hx => p6 x (zL.2 (.inr hx))
  rw [zF] at p9
  by_cases hroom : Q.length + ys.length ≤ E.γ o - Pre.length
  ·have hoff := p3 (.inl (by omega))
   have hspl : news.length ≤ sp.length := by
    have h4 : (Pre.length + Q.length + ys.length) * es ≤ E.γ o * es := Nat.mul_le_mul_right _ (by omega)
    rw [Nat.add_mul,Nat.add_mul] at h4
    simp only [zF] at p8
    omega
   have hs2 : sp = sp.take news.length ++ sp.drop news.length := (List.take_append_drop _ _).symm
   rw [hs2] at p7
   have hc2 : (sp.take news.length).length = news.length := by simp; omega
   have hrun := run_append_room_src E.w T tx ty e inf (qa0 hT) hi b off Q.length (E.γ o - Pre.length) (a.eval y) ys.length news (by rw [hi1]; exact n1) hroom
    (fun j hj => by
     simp only [World.cell?,p7,hi1,hoff]
     simp [l1,l2]
     omega)
    (fun j hj => by simp [World.frozen?,p7])
   have hln : (c1 ++ c2).length = off + Q.length * inf.size := by rw [zF,l1,l2,hoff,hi1]
   rw [setCells_row hc2.symm (fun v hv => by rw [← one_eq]; exact n1.one v hv) hln p7] at hrun
   let w' := E.w.setRow b ((c1 ++ c2) ++ (news ++ sp.drop news.length)).toArray
   have hrow : w'.heap[b]? = some (.cells ((c1 ++ c2) ++ (news ++ sp.drop news.length)).toArray e' (0,0)) := setRow_heap _ _ _ _ _ _ p7
   refine fin _ (E.turn o (.arr (c + 1) es (Pre ++ (Q ++ ys))) (some b) (E.γ o) [] w') Pre (run_of _ _ _ p2 hrun) ?_ ?_
   ·refine csl_of (es := es) (rows := Pre ++ (Q ++ ys)) (by simp [Env.turn,Env.new,qf1]) ?_ (.inr ⟨b,off,?_,?_,?_⟩)
    ·simp only [Env.turn,Env.new,if_true,zF]; omega
    ·simp [Env.turn,Env.new]
    ·simp [Env.turn,Env.new]
    ·intro _; exact hoff
   ·refine hR0.turn hob (by simp [w']) (fun k hk => by cases hk; exact .inl p1) (fun k hk hne => setRow_other _ _ _ _ (fun e => hne (by rw [e]; exact p1))) rfl rfl rfl ⟨Nat.le_succ _,fun e => by omega⟩ (fun he => ?_) (fun _ _ e => by cases e)
    refine .inr ⟨b,(c1 ++ c2) ++ news,sp.drop news.length,e',by simp [Env.turn,Env.new],?_,fun r hr => ?_,by rw [zI]; exact hrow,?_,?_⟩
    ·have h0 := ((t1.append t2).append n2).mono he.hz he.imm
     exact zI Pre Q ys ▸ h0
    ·rcases zL.1 hr with h | h
     ·exact p6 r (zL.2 (.inl h))
     ·rcases zL.1 h with h | h
      ·exact hQs r h
      ·exact hysz r h
    ·simp only [Env.turn,Env.new,if_true]
     rw [← p8]
     simp
     omega
    ·simp only [zF,Env.turn,Env.new,if_true]; omega
  ·refine grow _ _ c2 p2 (by omega) t2 hQs ?_
   rw [hi1]
   by_cases hQ0 : Q.length = 0
   ·have hc0 : c2 = [] := List.eq_nil_of_length_eq_zero (by rw [l2,hQ0]; simp)
    rw [hQ0,hc0]
    exact run_firstCells_some E.w.drew es _ _ _ _ [] (by simp) (fun j v hj => by simp at hj)
   ·have hoff := p3 (.inl (by omega))
    refine run_firstCells_some E.w.drew es _ _ _ _ c2 l2 (fun j v hj => ?_)
    rw [q82]
    have hall : CellsAt E.w b 0 ((c1 ++ c2) ++ sp) := caB (sp := []) (by rw [zJ]; exact p7)
    have h6 := hall.left.right j v hj
    rw [Nat.zero_add,l1] at h6
    rw [hoff]
    exact h6
theorem o_lenCM {α : Type} {enc : α → D} {xs : List α} {T e : TypeId} {x : Operand} {o c k es : Nat} {rows : List D} (ho : ops[i]? = some ⟨some d,.call ⟨.builtin .len,#[x],#[T]⟩,ty,pos,af,g⟩) (hd : Nat.ble (d + 1) N.1 = true) (hg : G ops s g gs)
  (hx : s.val x = some (.csl o c k (xs.map enc).length)) (hob : s.obj o = some (.arr c es rows)) (hT : slB P T = some e) :
  Valid P N ops i ⟨gs ++ opT x,[o],some (d,some (.d (.v (.int .i64 xs.length)))),[]⟩ s := by
 have := o_lenC (N := N) ho hd hg hx hob .csl hT
 rwa [List.length_map] at this
theorem a_appQM {α : Type} {enc : α → D} {xs ys : List α} {T tx e es bs : Nat} {x y : Operand} {o c : Nat} {Pre : List D} {z : D} (ho : ops[i]? = some ⟨some d,.call ⟨.builtin .append,#[x,y],#[T,tx]⟩,ty,pos,af,none⟩) (hd : Nat.ble (d + 1) N.1 = true)
  (hx : s.val x = some (.csl o c Pre.length (xs.map enc).length)) (hob : s.obj o = some (.arr c es (Pre ++ xs.map enc))) (hy : s.val y = some (.d (.sl es (ys.map enc)))) (hsz : ∀ r,(enc r).size = es) (htx : slB P tx = some e)
  (hT : slB P T = some e) (hS : szB P e = some es) (hB : qw5 P e = some bs) (hZ : Zero P e z) (hzs : z.size = es) (hb0 : 1 ≤ bs) (hfit : (xs.length + ys.length) * bs ≤ 140737488355328) (hy0 : ys ≠ []) :
  StepA P N ops i (fun s' => ∃ Pre' : List D,s' = (s.put d (.csl o (c + 1) Pre'.length ((xs ++ ys).map enc).length)).set o (.arr (c + 1) es (Pre' ++ (xs ++ ys).map enc))) s := by
 have h1 : (xs.length + ys.length) * 1 ≤ (xs.length + ys.length) * bs := Nat.mul_le_mul_left _ hb0
 have := a_appQ (N := N) (src := z) ho hd hx hob hy htx (q51 hsz) hT hS hB hZ hzs (by rw [List.length_map,List.length_map]; exact hfit) (by rw [List.length_map,List.length_map]; omega) (by simp [hy0])
 rwa [← List.map_append] at this
theorem o_cutQ {T e es : Nat} {x lo : Operand} {o c : Nat} {Pre Q : List D} {q : D} (ho : ops[i]? = some ⟨some d,.slice T x (some lo) none none,ty,pos,af,g⟩) (hd : Nat.ble (d + 1) N.1 = true) (hg : G ops s g gs)
  (hx : s.val x = some (.csl o c Pre.length (q :: Q).length)) (hob : s.obj o = some (.arr c es (Pre ++ q :: Q))) (hl : s.val lo = some (.d (.v (.int .i64 1)))) (hT : slB P T = some e) (hS : szB P e = some es) :
  Valid P N ops i ⟨gs ++ (opT x ++ (bdT (some lo) ++ bdT none)),[o],some (d,some (.csl o c (Pre ++ [q]).length Q.length)),[]⟩ s :=
 o_cut 1 (q :: Q).length (Pre ++ [q]).length Q.length ho hd hg hx hob .csl hT hS (.val hl (by omega)) .no (by simp) (Nat.le_refl _) (by simp) (by simp)
end
theorem leads_a2c {N : Nat × Nat} {s : St} {o c es t : Nat} {rows : List D} (hs : s.slot t = some (.arr o c)) (hob : s.obj o = some (.arr c es rows)) : Leads N s ⟨upd s.slot t (some (.csl o c 0 rows.length)),s.obj⟩ := by
 rintro cx a w hn ⟨E,rfl,hR⟩
 refine ⟨E,rfl,⟨hR.obj,hR.may,hR.fresh,hR.inK,hR.hist,hR.defers,hR.size,fun u y hy => ?_,hR.objs,hR.inj,hR.own,hR.keeps⟩⟩
 simp only [qf1] at hy
 by_cases hu : u = t
 ·subst hu
  rw [if_pos rfl] at hy
  cases hy
  have hv := hR.slots u _ hs
  rcases qY5 hR hob .arr hv with ⟨p1,p2,p3,p4,p5,p6⟩ | ⟨b,off,cs,sp,e,p1,p2,p3,p4,p5,p6,p7,p8,p9⟩
  ·exact csl_of (by rw [hR.obj]; exact hob) (by omega) (.inl ⟨p1,p2⟩)
  ·exact csl_of (by rw [hR.obj]; exact hob) (by omega) (.inr ⟨b,off,p1,p2,p3⟩)
 ·rw [if_neg hu] at hy
  exact hR.slots u y hy
theorem cw_whileG {P : Program} {N : Nat × Nat} {V X O : Type} {c : Code} {Q : Exit → St → Prop} {s : St} {body : V → Option (V ⊕ O)} {v : V} {o : O} (st : V → X → St) (x0 : X) (hw : qN body v = some o) (h0 : Leads N s (st v x0))
  (round : ∀ v g x,body v = some x → (∀ o',x = .inr o' → o' = o) → CWp P N c (thenS (fun s' => ∃ v' g',x = .inl v' ∧ Leads N s' (st v' g')) Q) (st v g)) : CWp P N (.loop c) Q s := by
 obtain ⟨n,hn⟩ := qT1 hw
 refine cwL h0 ?_
 refine cw_loop (I := fun n s => ∃ v g,s = st v g ∧ iter body n v = some o) (n := n) ⟨v,x0,rfl,hn⟩ ?_
 rintro n s ⟨v,g,rfl,hv⟩
 cases n with
 | zero => cases hv
 | succ n =>
  simp only [iter] at hv
  obtain ⟨x,h1,h2⟩ := bdS hv
  have hr := round v g x h1 (fun o' e => by subst e; simpa using h2)
  intro cx a w hcx hR
  refine wp_mono (hr cx a w hcx hR) ?_
  rintro e a' w' ⟨s',hq,hR'⟩
  cases e with
  | normal =>
   obtain ⟨v',g',rfl,hwk⟩ := hq
   exact ⟨st v' g',⟨n,Nat.lt_succ_self _,v',g',rfl,h2⟩,hwk cx a' w' hcx hR'⟩
  | exit id => exact ⟨s',hq,hR'⟩
  | goto l => exact ⟨s',hq,hR'⟩
  | ret => exact ⟨s',hq,hR'⟩
  | panic ch => exact ⟨s',hq,hR'⟩
  | outgrown => exact ⟨s',hq,hR'⟩
end Go.Val
