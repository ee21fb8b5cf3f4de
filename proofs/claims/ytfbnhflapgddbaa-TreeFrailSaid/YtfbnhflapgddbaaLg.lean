/- Merged texts: Xs Xt Xu Yc. -/
import Derived.Test.YtfbnhflapgddbaaLc
import Derived.RangeFuncOwn
import Derived.OwnWalkIn
import Derived.OrdersIn
import Derived.Test.YtfbnhflapgddbaaLe
import Derived.Test.YtfbnhflapgddbaaLb
import Derived.LoopNIn
import Derived.RangeFuncLeaves
set_option linter.all false
namespace Go.Val
open Go.RowKit
variable [Drw]
def FR (r : Option Nat) : Fence := { Fence.wide with round := r }
def Act.mark (a : Act) (ds : List Deferred) : Act := { a with defers := ds }
def qZ5 (ops : Array Oper) : Bool := ops.all fun o => match o.op with
 | .defer _ => false
 | _ => true
theorem noDefer_get {ops : Array Oper} (h : qZ5 ops = true) {i : Nat} {o : Oper} (ho : ops[i]? = some o) : ∀ c,o.op ≠ .defer c := by
 intro c e
 unfold qZ5 at h
 rw [Array.all_eq_true_iff_forall_mem] at h
 have := h o (Array.mem_of_getElem? ho)
 rw [e] at this
 cases this
section
variable {r : Option Nat} {ds : List Deferred} {n : Nat} {P : Program}
theorem rows_in {row : String} {args : Array Value} {w : World} {R : Value → World → Prop} (h : Rows P row args w R) : RowsIn (FR r) n P row args w R := by
 intro c cs _
 obtain ⟨v,w',r,s⟩ := h c cs
 exact ⟨v,w',r,stepsIn_wide.2 s⟩
theorem eval_mark (a : Act) : (Act.mark a ds).eval = a.eval := by funext o; cases o <;> rfl
theorem qN5 (a : Act) (d : Option Nat) (v : Value) : (Act.mark a ds).put d v = Act.mark (a.put d v) ds := by cases d <;> rfl
theorem upon_in {o : Oper} {a : Act} {K K' : Act → World → Prop} {Q : Exit → Act → World → Prop} (hK : ∀ a w,K a w → a.defers = []) (hK' : ∀ a w,K a w → K' (Act.mark a ds) w) {x : Result Next} (h : o.upon P a K (fun _ _ _ => False) x) :
  o.uponIn (FR r) n P (Act.mark a ds) K' Q x := by
 cases x with
 | ok x w' =>
  cases x <;> simp only [Oper.upon,Oper.uponIn] at h ⊢
  ·rw [qN5]; exact hK' _ _ h
  ·rw [qN5]; exact hK' _ _ h
  ·refine ⟨fun h => (by cases h),?_⟩
   have h2 : CallsIn Fence.wide (n - 1) P _ _ w' _ := callsIn_wide.2 h
   refine CallsIn.mono (show CallsIn (FR r) (n - 1) P _ _ w' _ from h2) ?_
   rintro e w'' he
   cases e with
   | returned v =>
    show K' ((Act.mark a ds).put o.dst v) w''
    rw [qN5]; exact hK' _ _ he
   | panicked ch => exact he.elim
   | outgrown => obtain ⟨a',w3,h3⟩ := he; exact h3.elim
  ·have := hK _ _ h
   exfalso
   cases hq : o.dst <;> rw [hq] at this <;> simp [Act.put] at this
  ·exact ⟨fun h => (by cases h),(rows_in h : RowsIn (FR r) (n - 1) P _ _ w' _).mono fun _ _ h => by rw [qN5]; exact hK' _ _ h⟩
 | halt x w' =>
  cases x <;> simp only [Oper.upon,Oper.uponIn] at h ⊢
theorem qZ0 {N : Nat × Nat} {ops : Array Oper} {i : Nat} {sr : SR} {s : St} {Q : Exit → Act → World → Prop} {cx : Cx} {a : Act} {w : World} {K : Act → World → Prop} (hd : qZ5 ops = true)
  (hn : cx.nk = N) (hv : Valid P N ops i sr s) (hR : R cx s a w) (hK : ∀ a w,R cx (sr.apply s) a w → K (Act.mark a ds) w) : wpOpIn (FR r) n P ops Q i K (Act.mark a ds) w := by
 obtain ⟨o,ho,hv⟩ := hv
 have := hv s ⟨fun _ _ => rfl,fun _ _ => rfl⟩ (fun _ _ _ => False) cx a w hn hR
 unfold wpOpIn
 simp only [ho]
 have hy : yielded ops (Act.mark a ds).tmps = yielded ops a.tmps := rfl
 rw [hy]
 split
 ·rename_i hw
  simp only [hw,if_true] at this
  refine ⟨fun _ _ => trivial,?_⟩
  rw [Oper.semAt_plain _ _ _ (noDefer_get hd ho),eval_mark]
  exact upon_in (fun a w ⟨E,_,h⟩ => h.defers) hK this
 ·rename_i hw
  simp only [hw] at this
  exact ⟨fun _ _ => trivial,by rw [qN5]; exact hK _ _ this⟩
theorem qf5 {N : Nat × Nat} {ops : Array Oper} {Q : Exit → Act → World → Prop} {cx : Cx} {sf : St} (hd : qZ5 ops = true) (hn : cx.nk = N) (hQ : ∀ a w,R cx sf a w → Q .normal (Act.mark a ds) w) :
  ∀ (l : List (Nat × SR)) (s : St) (a : Act) (w : World),Run P N ops l s sf → R cx s a w → wpOpsIn (FR r) n P ops Q (l.map (·.1)) (Act.mark a ds) w
 | [],s,a,w,h,hR => by simp only [Run] at h; subst h; exact hQ _ _ hR
 | (i,x) :: l,s,a,w,⟨hv,h⟩,hR => by
  simp only [List.map_cons]
  rw [wpOpsIn_cons]
  exact qZ0 hd hn hv hR (fun a' w' hR' => qf5 hd hn hQ l _ a' w' h hR')
def CWx (r : Option Nat) (ds : List Deferred) (P : Program) (cx : Cx) (c : Code) (Q : Exit → St → Prop) (s : St) : Prop :=
 ∀ (n : Nat) (a : Act) (w : World),R cx s a w → c.wpIn (FR r) n P (fun e a' w' => ∃ s' a0,a' = Act.mark a0 ds ∧ Q e s' ∧ R cx s' a0 w') (Act.mark a ds) w
section
variable {cx : Cx} {N : Nat × Nat}
theorem cx_region {id : Nat} {ops : Array Oper} {s s' : St} {js : List (Nat × SR)} {Q : Exit → St → Prop} (hn : cx.nk = N) (c : Chain P N ops 0 s js s') (h : Q .normal s') (hd : qZ5 ops = true := by kernel_rfl) : CWx r ds P cx (.region id ops false) Q s := by
 intro n a w hR
 refine wpIn_region ?_
 rw [← range_map c]
 exact qf5 hd hn (fun a' w' hR' => ⟨s',a',rfl,h,hR'⟩) js s a w c.run hR
theorem cx_mono {c : Code} {Q Q' : Exit → St → Prop} {s : St} (h : CWx r ds P cx c Q s) (hq : ∀ e s,Q e s → Q' e s) : CWx r ds P cx c Q' s :=
 fun n a w hR => wpIn_mono (h n a w hR) fun _ _ _ ⟨s',a0,h0,h1,h2⟩ => ⟨s',a0,h0,hq _ _ h1,h2⟩
theorem cx_skip {Q : Exit → St → Prop} {s : St} (h : Q .normal s) : CWx r ds P cx .skip Q s := fun _ a _ hR => wpIn_skip ⟨s,a,rfl,h,hR⟩
theorem cx_exit {Q : Exit → St → Prop} {s : St} {id : Nat} (h : Q (.exit id) s) : CWx r ds P cx (.exit id) Q s := fun _ a _ hR => wpIn_exit ⟨s,a,rfl,h,hR⟩
theorem cx_ret {Q : Exit → St → Prop} {s : St} (h : Q .ret s) : CWx r ds P cx .ret Q s := fun _ a _ hR => wpIn_ret ⟨s,a,rfl,h,hR⟩
theorem cx_seq {x y : Code} {Q : Exit → St → Prop} {s : St} (h : CWx r ds P cx x (thenS (CWx r ds P cx y Q) Q) s) : CWx r ds P cx (.seq x y) Q s := by
 intro n a w hR
 refine wpIn_seq (wpIn_mono (h n a w hR) ?_)
 rintro e a' w' ⟨s',a0,rfl,h1,h2⟩
 cases e with
 | normal => exact h1 n a0 w' h2
 | exit id => exact ⟨s',a0,rfl,h1,h2⟩
 | goto l => exact ⟨s',a0,rfl,h1,h2⟩
 | ret => exact ⟨s',a0,rfl,h1,h2⟩
 | panic c => exact ⟨s',a0,rfl,h1,h2⟩
 | outgrown => exact ⟨s',a0,rfl,h1,h2⟩
theorem cx_block {id : Nat} {c : Code} {Q : Exit → St → Prop} {s : St} (h : CWx r ds P cx c (inBlockS id Q) s) : CWx r ds P cx (.block id c) Q s := by
 intro n a w hR
 refine wpIn_block (wpIn_mono (h n a w hR) ?_)
 rintro e a' w' ⟨s',a0,rfl,h1,h2⟩
 cases e with
 | exit id' =>
  simp only [inBlockS] at h1
  simp only [Exit.inBlock]
  by_cases hq : id' = id
  ·subst hq; simp at h1 ⊢; exact ⟨s',a0,rfl,h1,h2⟩
  ·have : Nat.beq id' id = false := by
    cases hb : Nat.beq id' id
    ·rfl
    ·exact absurd (Nat.eq_of_beq_eq_true hb) hq
   simp only [this,zD] at h1
   simp only [hq,if_false]
   exact ⟨s',a0,rfl,h1,h2⟩
 | normal => exact ⟨s',a0,rfl,h1,h2⟩
 | goto l => exact ⟨s',a0,rfl,h1,h2⟩
 | ret => exact ⟨s',a0,rfl,h1,h2⟩
 | panic c => exact ⟨s',a0,rfl,h1,h2⟩
 | outgrown => exact ⟨s',a0,rfl,h1,h2⟩
theorem cx_cond {c : Operand} {x y : Code} {Q : Exit → St → Prop} {s : St} {b : Bool} (hc : s.val c = some (.d (.v (.bool b))))
  (ht : b = true → CWx r ds P cx x Q s) (hf : b = false → CWx r ds P cx y Q s) : CWx r ds P cx (.cond c x y) Q s := by
 intro n a w hR
 obtain ⟨E,rfl,hR0⟩ := hR
 have hv := (hR0.val hc).sc
 have hv' : (Act.mark a ds).eval c = .bool b := by rw [eval_mark]; exact hv
 cases b with
 | true => exact wpIn_cond_true hv' (ht rfl n a _ ⟨E,rfl,hR0⟩)
 | false => exact wpIn_cond_false hv' (hf rfl n a _ ⟨E,rfl,hR0⟩)
theorem cx_condT {c : Operand} {x y : Code} {Q : Exit → St → Prop} {s : St} {b : Bool} (hc : s.val c = some (.d (.v (.bool b)))) (hb : b = true) (h : CWx r ds P cx x Q s) : CWx r ds P cx (.cond c x y) Q s :=
 cx_cond hc (fun _ => h) (fun e => by rw [hb] at e; cases e)
theorem cx_condF {c : Operand} {x y : Code} {Q : Exit → St → Prop} {s : St} {b : Bool} (hc : s.val c = some (.d (.v (.bool b)))) (hb : b = false) (h : CWx r ds P cx y Q s) : CWx r ds P cx (.cond c x y) Q s :=
 cx_cond hc (fun e => by rw [hb] at e; cases e) (fun _ => h)
theorem cx_leads {c : Code} {Q : Exit → St → Prop} {s s' : St} (hn : cx.nk = N) (hw : Leads N s s') (h : CWx r ds P cx c Q s') : CWx r ds P cx c Q s :=
 fun n a w hR => h n a w (hw cx a w hn hR)
theorem cx_post {c : Code} {Q : Exit → St → Prop} {s : St} (hn : cx.nk = N) (h : CWx r ds P cx c (fun e s' => ∃ s'',Leads N s' s'' ∧ Q e s'') s) : CWx r ds P cx c Q s := fun n a w hR => by
 refine wpIn_mono (h n a w hR) ?_
 rintro e a' w' ⟨s',a0,rfl,⟨s'',h1,h2⟩,hR'⟩
 exact ⟨s'',a0,rfl,h2,h1 cx a0 w' hn hR'⟩
end
def CWr (r : Option Nat) (ds : List Deferred) (P : Program) (N : Nat × Nat) (c : Code) (Q : Exit → St → Prop) (s : St) : Prop := ∀ cx : Cx,cx.nk = N → CWx r ds P cx c Q s
section
variable {N : Nat × Nat}
theorem cr_region {id : Nat} {ops : Array Oper} {s s' : St} {js : List (Nat × SR)} {Q : Exit → St → Prop} (c : Chain P N ops 0 s js s') (h : Q .normal s') (hd : qZ5 ops = true := by kernel_rfl) : CWr r ds P N (.region id ops false) Q s := fun _ hn => cx_region hn c h hd
theorem cr_ret {Q : Exit → St → Prop} {s : St} (h : Q .ret s) : CWr r ds P N .ret Q s := fun _ _ => cx_ret h
theorem cr_seq {x y : Code} {Q : Exit → St → Prop} {s : St} (h : CWr r ds P N x (thenS (CWr r ds P N y Q) Q) s) : CWr r ds P N (.seq x y) Q s := fun cx hn =>
 cx_seq (cx_mono (h cx hn) fun e s' q => by
  cases e with
  | normal => exact q cx hn
  | _ => exact q)
theorem cr_block {id : Nat} {c : Code} {Q : Exit → St → Prop} {s : St} (h : CWr r ds P N c (inBlockS id Q) s) : CWr r ds P N (.block id c) Q s := fun cx hn => cx_block (h cx hn)
theorem cr_leads {c : Code} {Q : Exit → St → Prop} {s s' : St} (hw : Leads N s s') (h : CWr r ds P N c Q s') : CWr r ds P N c Q s := fun cx hn => cx_leads hn hw (h cx hn)
theorem cr_post {c : Code} {Q : Exit → St → Prop} {s : St} (h : CWr r ds P N c (fun e s' => ∃ s'',Leads N s' s'' ∧ Q e s'') s) : CWr r ds P N c Q s := fun cx hn => cx_post hn (h cx hn)
end
end
end Go.Val
namespace Go.Val
open Go.RowKit
variable [Drw]
structure SegX (L : Nat → Prop) (E E' : Env) : Prop where
 ok : q96 E'
 own : ∀ o b,E'.obj o ≠ none → E'.has o b → E.w.heap.size ≤ b ∨ E.T b
 keeps : Keeps ⟨(0,0),E,fun b => E.T b ∨ L b,E.J⟩ E'.w
 jsub : ∀ b,E'.J b → E.J b ∨ E.w.heap.size ≤ b ∨ E.T b
 jsup : ∀ b,b < E.w.heap.size → E.J b → E'.J b
 hist : ∀ o ob,E.obj o = some ob → ∃ ob',E'.obj o = some ob' ∧ OExt E E' o ob ob'
theorem SegX.ltsz {L : Nat → Prop} {E E' : Env} (h : SegX L E E') : E.w.heap.size ≤ E'.w.heap.size := h.keeps.size
theorem SegX.trans {L : Nat → Prop} {E E' E'' : Env} (h : SegX L E E') (k : SegX L E' E'') : SegX L E E'' := by
 have ho : ∀ b,E'.w.heap.size ≤ b ∨ E'.T b → E.w.heap.size ≤ b ∨ E.T b := by
  rintro b (q | ⟨o,q1,q2⟩)
  ·exact .inl (Nat.le_trans h.ltsz q)
  ·exact h.own o b q1 q2
 refine ⟨k.ok,fun o b q1 q2 => ho b (k.own o b q1 q2),?_,fun b q => ?_,fun b q0 q => k.jsup b (Nat.lt_of_lt_of_le q0 h.ltsz) (h.jsup b q0 q),fun o ob q => ?_⟩
 ·refine ⟨k.keeps.os.trans h.keeps.os,k.keeps.tape.trans h.keeps.tape,k.keeps.output.trans h.keeps.output,Nat.le_trans h.keeps.size k.keeps.size,fun b q1 q2 => ?_,fun d => Nat.le_trans (h.keeps.drawn d) (k.keeps.drawn d)⟩
  refine (k.keeps.block b (Nat.lt_of_lt_of_le q1 h.ltsz) ?_).trans (h.keeps.block b q1 q2)
  rintro (q | q)
  ·rcases ho b (.inr q) with q3 | q3
   ·have : b < E.w.heap.size := q1
    omega
   ·exact q2 (.inl q3)
  ·exact q2 (.inr q)
 ·rcases k.jsub b q with q | q
  ·exact h.jsub b q
  ·exact .inr (ho b q)
 ·obtain ⟨ob',q1,q2⟩ := h.hist o ob q
  obtain ⟨ob'',q3,q4⟩ := k.hist o ob' q1
  exact ⟨ob'',q3,q2.trans q4⟩
theorem SegX.ext {L : Nat → Prop} {E E' : Env} (h : SegX L E E') (hL : ∀ b,L b → ¬ E.J b) : Ext E E' := by
 have hT : ∀ b,E.I b → ¬ E.T b := by
  rintro b q ⟨o,q1,q2⟩
  obtain ⟨ob,q1⟩ := Option.ne_none_iff_exists'.1 q1
  exact q.2 o ob q1 q2
 refine ⟨h.ltsz,fun b q1 q2 => ⟨⟨h.jsup b q2 q1.1,fun o ob q3 q4 => ?_⟩,h.keeps.block b q2 ?_⟩,h.hist⟩
 ·rcases h.own o b (by rw [q3]; simp) q4 with q | q
  ·omega
  ·exact hT b q1 q
 ·rintro (q | q)
  ·exact hT b q1 q
  ·exact hL b q q1.1
def Env.J' (E : Env) (b : Nat) : Prop := E.J b ∨ E.w.heap.size ≤ b ∨ E.T b
def Env.cx (E : Env) (nk : Nat × Nat) : Cx := ⟨nk,E,E.T,E.J'⟩
theorem SegX.of_r0 {L : Nat → Prop} {nk : Nat × Nat} {E E' : Env} {s : St} {a : Act} (h : R0 (E.cx nk) s a E') : SegX L E E' := by
 have hm : E'.J = E.J' := h.may
 refine ⟨⟨fun o ob ho => h.objs o ob (by rw [← h.obj]; exact ho),fun o o' b q1 q2 e1 e2 => h.inj o o' b (by rw [← h.obj]; exact q1) (by rw [← h.obj]; exact q2) e1 e2⟩,fun o b q1 q2 => h.own o b (by rw [← h.obj]; exact q1) q2,
  ⟨h.keeps.os,h.keeps.tape,h.keeps.output,h.keeps.size,fun b q1 q2 => h.keeps.block b q1 (fun q => q2 (.inl q)),h.keeps.drawn⟩,fun b q => by rw [hm] at q; exact q,fun b _ q => by rw [hm]; exact .inl q,h.hist⟩
theorem SegX.close {l : Nat} {E E' : Env} (h : SegX (· = l) E E') (hl : E'.w.heap[l]? = E.w.heap[l]?) : SegX (fun _ => False) E E' :=
 ⟨h.ok,h.own,⟨h.keeps.os,h.keeps.tape,h.keeps.output,h.keeps.size,fun b q1 q2 => by
  by_cases e : b = l
  ·subst e; exact hl
  ·exact h.keeps.block b q1 (fun q => q.elim (fun q => q2 (.inl q)) (fun q => e q)),h.keeps.drawn⟩,h.jsub,h.jsup,h.hist⟩
theorem SegX.ret {E E' : Env} {Post : AV → (Nat → Option OB) → Prop} {res : AV} {v : Value} (h : SegX (fun _ => False) E E') (hp : Post res E'.obj) (hv : VR E' res v) : Ret E Post (.returned v) E'.w :=
 ⟨v,res,E',rfl,rfl,hp,hv,h.ok,h.own,⟨h.keeps.os,h.keeps.tape,h.keeps.output,h.keeps.size,fun b q1 q2 => h.keeps.block b q1 (fun q => q.elim q2 id),h.keeps.drawn⟩,h.jsub,h.hist⟩
theorem r0_start {nk : Nat × Nat} {E : Env} {s : St} {a : Act} (hE : E.obj = s.obj) (hok : q96 E) (hk : ∀ o,s.obj o ≠ none → o < nk.2) (hd : a.defers = []) (hsz : a.tmps.size = nk.1)
  (hsl : ∀ t x,s.slot t = some x → VR E x (a.tmps.getD t undef)) : R0 (E.cx nk) s a { E with J := E.J' } := by
 let E0 : Env := { E with J := E.J' }
 have ext : Ext E E0 := by
  refine ⟨Nat.le_refl _,fun b hb _ => ⟨⟨.inl hb.1,hb.2⟩,rfl⟩,fun o ob ho => ⟨ob,ho,?_⟩⟩
  cases ob <;> simp [OExt,E0]
 refine ⟨hE,rfl,fun b hb => .inr hb,fun o ho => hk o (by rw [← hE]; exact ho),ext.live,hd,hsz,fun t x ht => (hsl t x ht).ext ext,fun o ob ho => ?_,fun o o' b h1 h2 e1 e2 => hok.2 o o' b (by rw [hE]; exact h1) (by rw [hE]; exact h2) e1 e2,
  fun o b h1 e1 => .inr ⟨o,by rw [hE]; exact h1,e1⟩,⟨rfl,rfl,rfl,Nat.le_refl _,fun _ _ _ => rfl,fun _ => Nat.le_refl _⟩⟩
 have := hok.1 o ob (by rw [hE]; exact ho)
 exact this.ext ext (by rw [hE]; exact ho) rfl rfl rfl rfl (fun _ _ => rfl) (fun m ver l cu e => ⟨rfl,fun es hes => ⟨hes,rfl,rfl⟩,fun h => h⟩)
theorem r_start {nk : Nat × Nat} {E : Env} {s : St} {a : Act} (hE : E.obj = s.obj) (hok : q96 E) (hk : ∀ o,s.obj o ≠ none → o < nk.2) (hd : a.defers = []) (hsz : a.tmps.size = nk.1)
  (hsl : ∀ t x,s.slot t = some x → VR E x (a.tmps.getD t undef)) : R (E.cx nk) s a E.w := ⟨{ E with J := E.J' },rfl,r0_start hE hok hk hd hsz hsl⟩
theorem envOk_world {E : Env} {w : World} (hok : q96 E) (he : Ext E { E with w := w }) (hb : ∀ o ob b,E.obj o = some ob → E.has o b → w.heap[b]? = E.w.heap[b]?) : q96 { E with w := w } :=
 ⟨fun o ob ho => (hok.1 o ob ho).ext he ho rfl rfl rfl rfl (fun b q => hb o ob b ho q) (fun m ver l cu e => ⟨rfl,fun es hes => ⟨hes,rfl,rfl⟩,fun h => h⟩),hok.2⟩
def Env.putL (E : Env) (l : Nat) (x : Obj) : Env := { E with w := E.w.putObj l x }
theorem SegX.putL {E : Env} {l : Nat} {x o : Obj} (hok : q96 E) (hl : E.w.heap[l]? = some o) (hh : ∀ c,E.obj c ≠ none → ¬ E.has c l) (hJ : ¬ E.J l) : SegX (· = l) E (E.putL l x) := by
 have same : ∀ b,b ≠ l → (E.w.putObj l x).heap[b]? = E.w.heap[b]? := fun b e => World.putObj_heap_other e
 have he : Ext E (E.putL l x) := by
  refine ⟨by simp [Env.putL],fun b q1 _ => ⟨q1,same b (fun e => by subst e; exact hJ q1.1)⟩,fun o ob ho => ⟨ob,ho,?_⟩⟩
  cases ob <;> simp [OExt,Env.putL]
 refine ⟨envOk_world hok he (fun o ob b q1 q2 => same b (fun e => by subst e; exact hh o (by rw [q1]; simp) q2)),fun o b q1 q2 => .inr ⟨o,q1,q2⟩,⟨rfl,rfl,rfl,by simp [Env.putL,Cx.w0],fun b _ q => same b (fun e => q (.inr e)),fun _ => Nat.le_refl _⟩,fun b q => .inl q,fun b _ q => q,he.live⟩
theorem SegX.notJ {L : Nat → Prop} {E E' : Env} (h : SegX L E E') {l : Nat} (hlt : l < E.w.heap.size) (hT : ¬ E.T l) (hJ : ¬ E.J l) : ¬ E'.J l ∧ (∀ c,E'.obj c ≠ none → ¬ E'.has c l) := by
 refine ⟨fun q => ?_,fun c q1 q2 => ?_⟩
 ·rcases h.jsub l q with q | q | q
  ·exact hJ q
  ·omega
  ·exact hT q
 ·rcases h.own c l q1 q2 with q | q
  ·omega
  ·exact hT q
section
variable {P : Program} {cx : Cx} {N : Nat × Nat} {r : Option Nat} {ds : List Deferred}
theorem cx_while {V O : Type} {c : Code} {Q : Exit → St → Prop} {s : St} {body : V → Option (V ⊕ O)} {v : V} {o : O} (hn : cx.nk = N) (st : V → St) (hw : qN body v = some o) (h0 : Leads N s (st v))
  (round : ∀ v x,body v = some x → (∀ o',x = .inr o' → o' = o) → CWx r ds P cx c (thenS (fun s' => ∃ v',x = .inl v' ∧ Leads N s' (st v')) Q) (st v)) : CWx r ds P cx (.loop c) Q s := by
 obtain ⟨m,hm⟩ := qT1 hw
 refine cx_leads hn h0 ?_
 intro n a w hR
 refine wpIn_loop_rounds m ?_
 clear h0 hw
 induction m generalizing v a w with
 | zero => cases hm
 | succ m ih =>
  simp only [iter] at hm
  obtain ⟨x,h1,h2⟩ := bdS hm
  rw [roundsIn_succ]
  have hr := round v x h1 (fun o' e => by subst e; simpa using h2)
  refine wpIn_mono (hr n a w hR) ?_
  rintro e a' w' ⟨s',a0,rfl,hq,hR'⟩
  cases e with
  | normal =>
   obtain ⟨v',rfl,hwk⟩ := hq
   exact ih (v := v') h2 a0 w' (hwk cx a0 w' hn hR')
  | exit id => exact ⟨s',a0,rfl,hq,hR'⟩
  | goto l => exact ⟨s',a0,rfl,hq,hR'⟩
  | ret => exact ⟨s',a0,rfl,hq,hR'⟩
  | panic ch => exact ⟨s',a0,rfl,hq,hR'⟩
  | outgrown => exact ⟨s',a0,rfl,hq,hR'⟩
end
end Go.Val
namespace Go.Val
open Go.RowKit
variable [Drw]
theorem SegX.mono {L L' : Nat → Prop} {E E' : Env} (h : SegX L E E') (hl : ∀ b,L b → L' b) : SegX L' E E' :=
 ⟨h.ok,h.own,⟨h.keeps.os,h.keeps.tape,h.keeps.output,h.keeps.size,fun b q1 q2 => h.keeps.block b q1 (fun q => q2 (q.imp id (hl b))),h.keeps.drawn⟩,h.jsub,h.jsup,h.hist⟩
theorem SegX.retNew {L : Nat → Prop} {E E' : Env} {Post : AV → (Nat → Option OB) → Prop} {res : AV} {v : Value} (h : SegX L E E') (hL : ∀ b,L b → E.w.heap.size ≤ b) (hp : Post res E'.obj) (hv : VR E' res v) : Ret E Post (.returned v) E'.w :=
 ⟨v,res,E',rfl,rfl,hp,hv,h.ok,h.own,⟨h.keeps.os,h.keeps.tape,h.keeps.output,h.keeps.size,fun b q1 q2 => h.keeps.block b q1 (by
  rintro (q | q)
  ·exact q2 q
  ·have := hL b q
   have q1 : b < E.w.heap.size := q1
   omega),h.keeps.drawn⟩,h.jsub,h.hist⟩
theorem SegX.of_ret {E : Env} {Post : AV → (Nat → Option OB) → Prop} {e : Ending} {w' : World} (h : Ret E Post e w') : ∃ v res E',e = .returned v ∧ E'.w = w' ∧ Post res E'.obj ∧ VR E' res v ∧ SegX (fun _ => False) E E' := by
 obtain ⟨v,res,E1,rfl,rfl,hp,hv,hok,hown,hkeep,hJ,hlive⟩ := h
 let E' : Env := { E1 with J := fun b => E1.J b ∨ E.J b }
 have ext : Ext E1 E' := by
  refine ⟨Nat.le_refl _,fun b hb _ => ⟨⟨.inl hb.1,hb.2⟩,rfl⟩,fun o ob ho => ⟨ob,ho,?_⟩⟩
  cases ob <;> simp [OExt,E']
 refine ⟨v,res,E',rfl,rfl,hp,hv.ext ext,⟨?_,hown,⟨hkeep.os,hkeep.tape,hkeep.output,hkeep.size,fun b q1 q2 => hkeep.block b q1 (fun q => q2 (.inl q)),hkeep.drawn⟩,fun b q => ?_,fun b _ q => .inr q,fun o ob q => ?_⟩⟩
 ·exact ⟨fun o ob ho => (hok.1 o ob ho).ext ext ho rfl rfl rfl rfl (fun _ _ => rfl) (fun m ver l cu e => ⟨rfl,fun es hes => ⟨hes,rfl,rfl⟩,fun h => h⟩),hok.2⟩
 ·rcases q with q | q
  ·exact hJ b q
  ·exact .inl q
 ·obtain ⟨ob',q1,q2⟩ := hlive o ob q
  refine ⟨ob',q1,?_⟩
  cases ob <;> cases ob' <;> simp only [OExt] at q2 ⊢ <;> exact q2
theorem SegX.two {E : Env} (hok : q96 E) (x y : Obj) (E2 : Env) (h2 : E2 = { E with w := (E.w.alloc x).alloc y,J := fun b => E.J b ∧ b < E.w.heap.size }) {L : Nat → Prop} : SegX L E E2 ∧ Ext E E2 := by
 subst h2
 have same : ∀ b,b < E.w.heap.size → ((E.w.alloc x).alloc y).heap[b]? = E.w.heap[b]? := fun b hb => (Below.heap_alloc _ _ _ (by simp; omega)).trans (Below.heap_alloc _ _ _ hb)
 have he : Ext E { E with w := (E.w.alloc x).alloc y,J := fun b => E.J b ∧ b < E.w.heap.size } := by
  refine ⟨by simp; omega,fun b q1 q2 => ⟨⟨⟨q1.1,q2⟩,q1.2⟩,same b q2⟩,fun o ob ho => ⟨ob,ho,?_⟩⟩
  cases ob <;> simp [OExt]
 refine ⟨⟨⟨fun o ob ho => (hok.1 o ob ho).ext he ho rfl rfl rfl rfl (fun b q => same b ((hok.1 o ob ho).lth ho q)) (fun m ver l cu e => ⟨rfl,fun es hes => ⟨hes,rfl,rfl⟩,fun h => h⟩),hok.2⟩,fun o b q1 q2 => .inr ⟨o,q1,q2⟩,
  ⟨rfl,rfl,rfl,by simp [Cx.w0]; omega,fun b q _ => same b q,fun _ => Nat.le_refl _⟩,fun b q => .inl q.1,fun b q0 q => ⟨q,q0⟩,he.live⟩,he⟩
structure SegK (k : Nat) (L : Nat → Prop) (E E' : Env) : Prop where
 ok : q96 E'
 own : ∀ o b,E'.obj o ≠ none → E'.has o b → E.w.heap.size ≤ b ∨ E.T b
 keeps : Keeps ⟨(0,0),E,fun b => E.T b ∨ L b,E.J⟩ E'.w
 jsub : ∀ b,E'.J b → E.J b ∨ E.w.heap.size ≤ b ∨ E.T b
 hist : ∀ o ob,o < k → E.obj o = some ob → ∃ ob',E'.obj o = some ob' ∧ OExt E E' o ob ob'
theorem SegX.toK {k : Nat} {L : Nat → Prop} {E E' : Env} (h : SegX L E E') : SegK k L E E' := ⟨h.ok,h.own,h.keeps,h.jsub,fun o ob _ => h.hist o ob⟩
theorem SegK.trans {k : Nat} {L : Nat → Prop} {E E' E'' : Env} (h : SegK k L E E') (g : SegK k L E' E'') : SegK k L E E'' := by
 have ho : ∀ b,E'.w.heap.size ≤ b ∨ E'.T b → E.w.heap.size ≤ b ∨ E.T b := by
  rintro b (q | ⟨o,q1,q2⟩)
  ·exact .inl (Nat.le_trans h.keeps.size q)
  ·exact h.own o b q1 q2
 refine ⟨g.ok,fun o b q1 q2 => ho b (g.own o b q1 q2),?_,fun b q => ?_,fun o ob q0 q => ?_⟩
 ·refine ⟨g.keeps.os.trans h.keeps.os,g.keeps.tape.trans h.keeps.tape,g.keeps.output.trans h.keeps.output,Nat.le_trans h.keeps.size g.keeps.size,fun b q1 q2 => ?_,fun d => Nat.le_trans (h.keeps.drawn d) (g.keeps.drawn d)⟩
  refine (g.keeps.block b (Nat.lt_of_lt_of_le q1 h.keeps.size) ?_).trans (h.keeps.block b q1 q2)
  rintro (q | q)
  ·rcases ho b (.inr q) with q3 | q3
   ·have : b < E.w.heap.size := q1
    omega
   ·exact q2 (.inl q3)
  ·exact q2 (.inr q)
 ·rcases g.jsub b q with q | q
  ·exact h.jsub b q
  ·exact .inr (ho b q)
 ·obtain ⟨ob',q1,q2⟩ := h.hist o ob q0 q
  obtain ⟨ob'',q3,q4⟩ := g.hist o ob' q0 q1
  exact ⟨ob'',q3,q2.trans q4⟩
theorem SegK.retNew {k : Nat} {L : Nat → Prop} {E E' : Env} {Post : AV → (Nat → Option OB) → Prop} {res : AV} {v : Value} (h : SegK k L E E') (hk : ∀ o,E.obj o ≠ none → o < k) (hL : ∀ b,L b → E.w.heap.size ≤ b) (hp : Post res E'.obj) (hv : VR E' res v) : Ret E Post (.returned v) E'.w :=
 ⟨v,res,E',rfl,rfl,hp,hv,h.ok,h.own,⟨h.keeps.os,h.keeps.tape,h.keeps.output,h.keeps.size,fun b q1 q2 => h.keeps.block b q1 (by
  rintro (q | q)
  ·exact q2 q
  ·have := hL b q
   have q1 : b < E.w.heap.size := q1
   omega),h.keeps.drawn⟩,h.jsub,fun o ob q => h.hist o ob (hk o (by rw [q]; simp)) q⟩
def Env.cxK (E : Env) (nk : Nat × Nat) : Cx := ⟨nk,{ E with obj := fun o => bif Nat.blt o nk.2 then E.obj o else none },E.T,E.J'⟩
theorem r0_startK {nk : Nat × Nat} {E : Env} {s : St} {a : Act} (hE : E.obj = s.obj) (hok : q96 E) (hd : a.defers = []) (hsz : a.tmps.size = nk.1)
  (hsl : ∀ t x,s.slot t = some x → VR E x (a.tmps.getD t undef)) : R0 (E.cxK nk) s a { E with J := E.J' } := by
 obtain ⟨kb,hkb⟩ : ∃ kb : Nat,True := ⟨0,tV⟩
 let E0 : Env := { E with J := E.J' }
 have ext : Ext E E0 := by
  refine ⟨Nat.le_refl _,fun b hb _ => ⟨⟨.inl hb.1,hb.2⟩,rfl⟩,fun o ob ho => ⟨ob,ho,?_⟩⟩
  cases ob <;> simp [OExt,E0]
 refine ⟨hE,rfl,fun b hb => .inr hb,fun o ho => ?_,fun o ob ho => ?_,hd,hsz,fun t x ht => (hsl t x ht).ext ext,fun o ob ho => ?_,fun o o' b h1 h2 e1 e2 => hok.2 o o' b (by rw [hE]; exact h1) (by rw [hE]; exact h2) e1 e2,
  fun o b h1 e1 => .inr ⟨o,by rw [hE]; exact h1,e1⟩,⟨rfl,rfl,rfl,Nat.le_refl _,fun _ _ _ => rfl,fun _ => Nat.le_refl _⟩⟩
 ·simp only [Env.cxK] at ho ⊢
  cases hq : Nat.blt o nk.2 with
  | true => exact Nat.le_of_ble_eq_true hq
  | false => rw [hq] at ho; exact absurd rfl ho
 ·simp only [Env.cxK] at ho
  cases hq : Nat.blt o nk.2 with
  | true =>
   rw [hq] at ho
   refine ⟨ob,ho,?_⟩
   cases ob <;> simp [OExt,Env.cxK]
  | false => rw [hq] at ho; cases ho
 have := hok.1 o ob (by rw [hE]; exact ho)
 exact this.ext ext (by rw [hE]; exact ho) rfl rfl rfl rfl (fun _ _ => rfl) (fun m ver l cu e => ⟨rfl,fun es hes => ⟨hes,rfl,rfl⟩,fun h => h⟩)
theorem SegK.of_r0 {L : Nat → Prop} {nk : Nat × Nat} {E E' : Env} {s : St} {a : Act} (h : R0 (E.cxK nk) s a E') : SegK nk.2 L E E' := by
 have hm : E'.J = E.J' := h.may
 refine ⟨⟨fun o ob ho => h.objs o ob (by rw [← h.obj]; exact ho),fun o o' b q1 q2 e1 e2 => h.inj o o' b (by rw [← h.obj]; exact q1) (by rw [← h.obj]; exact q2) e1 e2⟩,fun o b q1 q2 => h.own o b (by rw [← h.obj]; exact q1) q2,
  ⟨h.keeps.os,h.keeps.tape,h.keeps.output,h.keeps.size,fun b q1 q2 => h.keeps.block b q1 (fun q => q2 (.inl q)),h.keeps.drawn⟩,fun b q => by rw [hm] at q; exact q,fun o ob q0 q => ?_⟩
 have hb : Nat.blt o nk.2 = true := Nat.ble_eq_true_of_le q0
 obtain ⟨ob',q1,q2⟩ := h.hist o ob (by simp only [Env.cxK,hb,zE]; exact q)
 refine ⟨ob',q1,?_⟩
 cases ob <;> cases ob' <;> simp only [OExt] at q2 ⊢ <;> exact q2
theorem SegK.notJ {k : Nat} {L : Nat → Prop} {E E' : Env} (h : SegK k L E E') {l : Nat} (hlt : l < E.w.heap.size) (hT : ¬ E.T l) (hJ : ¬ E.J l) : ¬ E'.J l ∧ (∀ c,E'.obj c ≠ none → ¬ E'.has c l) := by
 refine ⟨fun q => ?_,fun c q1 q2 => ?_⟩
 ·rcases h.jsub l q with q | q | q
  ·exact hJ q
  ·omega
  ·exact hT q
 ·rcases h.own c l q1 q2 with q | q
  ·omega
  ·exact hT q
theorem lk_lt {α : Type} {m : List (Nat × α)} {k : Nat} (h : m.all (fun p => Nat.ble (p.1 + 1) k) = true) : ∀ o,lk m o ≠ none → o < k := by
 intro o ho
 obtain ⟨x,hx⟩ := Option.ne_none_iff_exists'.1 ho
 exact Nat.le_of_ble_eq_true (List.all_eq_true.1 h _ (q61 hx))
theorem calls_of_cx {P : Program} {f nt k : Nat} {fn : Func} {c : Code} {E : Env} {s : St} {vals : List Value} {Post : AV → (Nat → Option OB) → Prop} (hf : P.funcs[f]? = some fn) (hb : fn.body = some c) (hn : fn.ntmps = nt) (hlen : vals.length ≤ nt)
  (hE : E.obj = s.obj) (hok : q96 E) (hk : ∀ o,s.obj o ≠ none → o < k) (hvals : ∀ t x,s.slot t = some x → ∃ v,vals[t]? = some v ∧ VR E x v)
  (h : CWx none [] P (E.cx (nt,k)) c (fun e s' => (e = .normal ∨ e = .ret) ∧ ∃ res,ResOk P fn s' res ∧ Post res s'.obj) s) : Calls P f vals.toArray E.w (Ret E Post) := by
 refine calls_of_wp hf hb ?_
 have hR : R (E.cx (nt,k)) s { tmps := vals.toArray ++ Array.replicate (fn.ntmps - vals.toArray.size) undef,defers := [] } E.w := by
  refine r_start hE hok hk rfl (by rw [hn]; simp; omega) (fun t x ht => ?_)
  obtain ⟨v,h1,h2⟩ := hvals t x ht
  have hlt := (List.getElem?_eq_some_iff.1 h1).1
  have : (vals.toArray ++ Array.replicate (fn.ntmps - vals.toArray.size) undef).getD t undef = v := by
   rw [Array.getD_eq_getD_getElem?,Array.getElem?_append_left (by simpa using hlt)]
   simp [h1]
  simp only [this]
  exact h2
 refine (wpIn_wide (n := 0)).1 (wpIn_mono (h 0 _ _ hR) ?_)
 rintro e a w' ⟨s',a0,rfl,⟨he,res,hres,hpost⟩,E',rfl,hR'⟩
 obtain ⟨v,h1,h2⟩ := hres _ _ _ hR'
 have fin : Ret E Post (.returned v) E'.w := (SegX.of_r0 hR').ret (by rw [hR'.obj]; exact hpost) h2
 rcases he with rfl | rfl
 ·exact ⟨rfl,v,h1,fin⟩
 ·exact ⟨rfl,v,h1,fin⟩
end Go.Val
namespace Go.Val
open Go.RowKit
variable [Drw]
def Round2 (l : Nat) (P : Program) (nt k : Nat) (sO : List (Nat × AV)) (p p2 : Nat) (as bo : Code) (mi mo : List (Nat × OB)) (pd pd2 : AV) : Prop :=
 ∃ (sA : St) (k' : Nat),(∀ o,sA.obj o ≠ none → o < k') ∧ CWr (some l) [] P (nt,k) as (fun e s' => e = .normal ∧ s' = sA) ⟨upd (upd (lk sO) p (some pd)) p2 (some pd2),lk mi⟩ ∧
  CWr (some l) [] P (nt,k') bo (fun e s' => e = .normal ∧ s'.obj = lk mo) sA
theorem round_ok2 {l m nt k p p2 : Nat} {P : Program} {sO : List (Nat × AV)} {as bo : Code} {mi mo : List (Nat × OB)} {pd pd2 : AV} {pv pv2 : Value} {rec : Loop} {E : Env} (hE : E.obj = lk mi) (hok : q96 E) (hl : E.w.heap[l]? = some (.loop rec)) (hJ : ¬ E.J l)
  (hh : ∀ c,E.obj c ≠ none → ¬ E.has c l) (has : rec.assign = as) (hbo : rec.body = bo) (hpar : rec.params = #[p,p2]) (htm : rec.tmps.size = nt) (hst : rec.state = .ready) (hpend : rec.pending = none) (hp : p < nt) (hp2 : p2 < nt)
  (hsl : ∀ t x,lk sO t = some x → VR E x (rec.tmps.getD t undef)) (hpv : VR E pd pv) (hpv2 : VR E pd2 pv2) (hk : ∀ o,lk mi o ≠ none → o < k) (hR : Round2 l P nt k sO p p2 as bo mi mo pd pd2) :
  YieldAt Fence.wide m P l #[pv,pv2] E.w (Ret E (fun rr oo => rr = .d (.v (.bool true)) ∧ oo = lk mo)) := by
 subst has
 subst hbo
 obtain ⟨sA,k',hk',hA,hB⟩ := hR
 have hlt : l < E.w.heap.size := (Array.getElem?_eq_some_iff.1 hl).1
 have hT : ¬ E.T l := by rintro ⟨o,q1,q2⟩; exact hh o q1 q2
 refine ⟨rec.fn,_,rec.assign,rec.body,run_yield hl (by rw [hpar]; rfl),roundIn_of_wpIn trivial ?_⟩
 have e0 : ({ tmps := (rec.params.zip #[pv,pv2]).foldl (fun tmps (t,a) => tmps.setIfInBounds t a) rec.tmps,defers := [] } : Act) = Act.mark ((({ tmps := rec.tmps,defers := [] } : Act).put (some p) pv).put (some p2) pv2) [] := by rw [hpar]; simp [Act.put,Act.mark]
 rw [e0]
 have h0 : R (E.cx (nt,k)) ⟨upd (upd (lk sO) p (some pd)) p2 (some pd2),lk mi⟩ ((({ tmps := rec.tmps,defers := [] } : Act).put (some p) pv).put (some p2) pv2) E.w := by
  refine r_start hE hok hk rfl (by simp [Act.put,htm]) (fun t x ht => ?_)
  rw [qG5 _ _ _ _ (by show p2 < ((({ tmps := rec.tmps,defers := [] } : Act).put (some p) pv)).tmps.size; simp [Act.put,htm]; exact hp2)]
  simp only [qf1] at ht
  split at ht
  ·cases ht; rw [if_pos (by assumption)]; exact hpv2
  ·rw [if_neg (by assumption),qG5 _ _ _ _ (by show p < rec.tmps.size; rw [htm]; exact hp)]
   split at ht
   ·cases ht; rw [if_pos (by assumption)]; exact hpv
   ·rw [if_neg (by assumption)]; exact hsl t x ht
 refine wpIn_mono (hA _ rfl m _ _ h0) ?_
 rintro e a' w' ⟨s',a1,rfl,⟨rfl,rfl⟩,Ea,rfl,hRa⟩
 have sa : ∀ {L : Nat → Prop},SegX L E Ea := .of_r0 hRa
 obtain ⟨hJa,hha⟩ := (sa (L := fun _ => False)).notJ hlt hT hJ
 have hla : Ea.w.heap[l]? = some (.loop rec) := ((sa (L := fun _ => False)).keeps.block l hlt (fun q => q.elim hT id)).trans hl
 have hlta : l < Ea.w.heap.size := (Array.getElem?_eq_some_iff.1 hla).1
 refine ⟨_,run_beginRound hla hst,?_⟩
 have sb : SegX (· = l) Ea (Ea.putL l (.loop { rec with state := .busy })) := .putL (sa (L := fun _ => False)).ok hla hha hJa
 have eb := sb.ext (fun b q => by subst q; exact hJa)
 have hobj : (Ea.putL l (.loop { rec with state := .busy })).obj = s'.obj := hRa.obj
 have h1 : R ((Ea.putL l (.loop { rec with state := .busy })).cx (nt,k')) s' a1 (Ea.putL l (.loop { rec with state := .busy })).w := r_start hobj sb.ok hk' hRa.defers hRa.size (fun t x ht => (hRa.slots t x ht).ext eb)
 have hlb : (Ea.putL l (.loop { rec with state := .busy })).w.heap[l]? = some (.loop { rec with state := .busy }) := World.putObj_heap_same hlta
 have hltb := (Array.getElem?_eq_some_iff.1 hlb).1
 have hTb : ¬ (Ea.putL l (.loop { rec with state := .busy })).T l := by rintro ⟨o,q1,q2⟩; exact hha o q1 q2
 refine wpIn_mono (hB _ rfl m _ _ h1) ?_
 rintro e a'' w'' ⟨s'',a2,rfl,⟨rfl,hmo⟩,Ec,rfl,hRc⟩
 have sc : ∀ {L : Nat → Prop},SegX L (Ea.putL l (.loop { rec with state := .busy })) Ec := .of_r0 hRc
 obtain ⟨hJc,hhc⟩ := (sc (L := fun _ => False)).notJ hltb hTb hJa
 have hlc : Ec.w.heap[l]? = some (.loop { rec with state := .busy }) := ((sc (L := fun _ => False)).keeps.block l hltb (fun q => q.elim hTb id)).trans hlb
 have hltc := (Array.getElem?_eq_some_iff.1 hlc).1
 refine ⟨_,_,run_endRound none hlc,?_⟩
 have hrec : ({ ({ rec with state := .busy } : Loop) with state := if (none : Option Code).isNone then .ready else .done,pending := none } : Loop) = rec := by
  cases rec; simp_all
 rw [hrec]
 have sd : SegX (· = l) Ec (Ec.putL l (.loop rec)) := .putL (sc (L := fun _ => False)).ok hlc hhc hJc
 have tot : SegX (· = l) E (Ec.putL l (.loop rec)) := ((sa.trans sb).trans sc).trans sd
 have hle : (Ec.putL l (.loop rec)).w.heap[l]? = E.w.heap[l]? := by rw [hl]; exact World.putObj_heap_same hltc
 exact (tot.close hle).ret ⟨rfl,by show Ec.obj = lk mo; rw [hRc.obj]; exact hmo⟩ (.of_sc rfl)
theorem yield_after2 {l m nt k p p2 : Nat} {P : Program} {sO : List (Nat × AV)} {as bo : Code} {mi mo : List (Nat × OB)} {pd pd2 : D} {pv pv2 : Value} {rec : Loop} {E0 E : Env} {nk : Nat × Nat} {s : St} {a : Act} {σ : Nat → Nat}
  (hR : R0 (E0.cx nk) s a E) (hl : E0.w.heap[l]? = some (.loop rec)) (hJ : ¬ E0.J l) (hh : ∀ c,E0.obj c ≠ none → ¬ E0.has c l)
  (has : rec.assign = as) (hbo : rec.body = bo) (hpar : rec.params = #[p,p2]) (htm : rec.tmps.size = nt) (hst : rec.state = .ready) (hpend : rec.pending = none) (hp : p < nt) (hp2 : p2 < nt)
  (hsl : ∀ t x,lk sO t = some x → VR E0 (x.ren σ) (rec.tmps.getD t undef)) (hlv : ∀ t x,lk sO t = some x → x.live (lk mi)) (hpv : VR E (.d pd) pv) (hpv2 : VR E (.d pd2) pv2) (hC : CallIn s σ k mi mo [] []) (hRd : Round2 l P nt k sO p p2 as bo mi mo (.d pd) (.d pd2)) :
  YieldAt Fence.wide m P l #[pv,pv2] E.w (fun e w' => e = .returned (.bool true) ∧ ∃ E2,E2.w = w' ∧ R0 (E0.cx nk) { s with obj := q52 s.obj (mo.map fun p => (σ p.1,p.2.ren σ)) } a E2) := by
 have hlt : l < E0.w.heap.size := (Array.getElem?_eq_some_iff.1 hl).1
 have hT : ¬ E0.T l := by rintro ⟨o,q1,q2⟩; exact hh o q1 q2
 have sg : SegX (fun _ => False) E0 E := .of_r0 hR
 obtain ⟨hJE,hhE⟩ := sg.notJ hlt hT hJ
 have ext := sg.ext (fun _ q => q.elim)
 have hlE : E.w.heap[l]? = some (.loop rec) := (sg.keeps.block l hlt (fun q => q.elim hT id)).trans hl
 let Ec : Env := { obj := lk mi,β := fun o => E.β (σ o),γ := fun o => E.γ (σ o),δ := fun o => E.δ (σ o),φ := fun o => E.φ (σ o),J := fun bb => false = true ∨ E.I bb,w := E.w }
 have hEo : ∀ o ob,Ec.obj o = some ob → E.obj (σ o) = some (ob.ren σ) := fun o ob h => by rw [hR.obj]; exact (hC.objs _ (q61 h)).1
 have hS : Sub E Ec σ := ⟨rfl,hEo,fun _ => rfl,fun _ => rfl,fun _ => rfl,fun _ => rfl,fun bb hb => ⟨.inr hb,fun o ob h e => hb.2 (σ o) _ (hEo o ob h) (by
  rcases e with e | ⟨e,x,hx⟩
  ·exact .inl e
  ·exact .inr ⟨e,_,hEo _ _ hx⟩)⟩⟩
 have inj0 : ∀ m m',lk mi m ≠ none → lk mi m' ≠ none → σ m = σ m' → m = m' := by
  intro m m' h1 h2 e
  obtain ⟨x1,h1⟩ := Option.ne_none_iff_exists'.1 h1
  obtain ⟨x2,h2⟩ := Option.ne_none_iff_exists'.1 h2
  exact hC.inj _ (q61 h1) _ (q61 h2) e
 have hok : q96 Ec := by
  refine ⟨fun o ob h => ?_,fun o o' bb h1 h2 e1 e2 => ?_⟩
  ·obtain ⟨q1,q2⟩ := hC.objs _ (q61 h)
   exact OR.unren hS q2 inj0 (hR.objs _ _ q1)
  ·obtain ⟨x1,h1'⟩ := Option.ne_none_iff_exists'.1 h1
   obtain ⟨x2,h2'⟩ := Option.ne_none_iff_exists'.1 h2
   refine inj0 o o' h1 h2 (hR.inj _ _ bb ?_ ?_ (hS.has e1) (hS.has e2))
   ·rw [(hC.objs _ (q61 h1')).1]; simp
   ·rw [(hC.objs _ (q61 h2')).1]; simp
 have unv : ∀ {x : AV} {v : Value},x.live (lk mi) → VR E (x.ren σ) v → VR Ec x v := by
  rintro x v hx ⟨cs,q1,q2⟩
  exact ⟨cs,CR.unren hS x hx q1,by rw [← q14 σ]; exact q2⟩
 have hy := round_ok2 (m := m) (E := Ec) (k := k) rfl hok hlE (fun q => by rcases q with q | q; cases q; exact hJE q.1) (fun c q1 q2 => by
   obtain ⟨x,hx⟩ := Option.ne_none_iff_exists'.1 q1
   exact hhE (σ c) (by rw [hEo _ _ hx]; simp) (hS.has q2)) has hbo hpar htm hst hpend hp hp2
  (fun t x ht => unv (hlv t x ht) ((hsl t x ht).ext ext)) (unv (x := .d pd) trivial hpv) (unv (x := .d pd2) trivial hpv2) (fun o ho => by
   obtain ⟨x,hx⟩ := Option.ne_none_iff_exists'.1 ho
   exact hC.lt _ (q61 hx)) hRd
 obtain ⟨fn,tmps,as',bo',q1,q2⟩ := hy
 refine ⟨fn,tmps,as',bo',q1,q2.mono ?_⟩
 rintro e w' ⟨v,res,E',rfl,rfl,⟨rfl,hpost⟩,hv,hok',hown,hkeep,hJ',hlive⟩
 obtain ⟨E2,r1,r2,r3⟩ := after_call (b := false) hR hC hS rfl (fun bb h => h) hpost hv hok' hown hkeep hJ' hlive (.inl rfl)
 have hvv : v = .bool true := r2.sc
 exact ⟨by rw [hvv],E2,r1,r3⟩
section
variable {P : Program}
theorem cx_yield2 {id l nt k p p2 t17 t18 t19 dd : Nat} {o0 o1 o2 o3 o4 o5 o7 : Oper} {ats : Array TypeId} {ty : TypeId} {pos : String} {af : Array Edge} {sO : List (Nat × AV)} {as bo : Code} {mi mo : List (Nat × OB)} {pd pd2 : D} {rec : Loop} {E0 : Env} {nk : Nat × Nat} {s : St} {σ : Nat → Nat} {Q : Exit → St → Prop} {r0 r1 r2 r3 r4 r5 r7 : SR} {z : St}
  (hl : E0.w.heap[l]? = some (.loop rec)) (hJ : ¬ E0.J l) (hh : ∀ c,E0.obj c ≠ none → ¬ E0.has c l)
  (has : rec.assign = as) (hbo : rec.body = bo) (hpar : rec.params = #[p,p2]) (htm : rec.tmps.size = nt) (hst : rec.state = .ready) (hpend : rec.pending = none) (hp : p < nt) (hp2 : p2 < nt)
  (hsl : ∀ t x,lk sO t = some x → VR E0 (x.ren σ) (rec.tmps.getD t undef)) (hlv : ∀ t x,lk sO t = some x → x.live (lk mi)) (hRd : Round2 l P nt k sO p p2 as bo mi mo (.d pd) (.d pd2))
  (hd : qZ5 #[o0,o1,o2,o3,o4,o5,⟨some dd,.call ⟨.value (.tmp t17),#[.tmp t18,.tmp t19],ats⟩,ty,pos,af,none⟩,o7] = true) (hdd : dd < nk.1)
  (v0 : Valid P nk #[o0,o1,o2,o3,o4,o5,⟨some dd,.call ⟨.value (.tmp t17),#[.tmp t18,.tmp t19],ats⟩,ty,pos,af,none⟩,o7] 0 r0 s) (v1 : Valid P nk #[o0,o1,o2,o3,o4,o5,⟨some dd,.call ⟨.value (.tmp t17),#[.tmp t18,.tmp t19],ats⟩,ty,pos,af,none⟩,o7] 1 r1 (r0.apply s)) (v2 : Valid P nk #[o0,o1,o2,o3,o4,o5,⟨some dd,.call ⟨.value (.tmp t17),#[.tmp t18,.tmp t19],ats⟩,ty,pos,af,none⟩,o7] 2 r2 (r1.apply (r0.apply s))) (v3 : Valid P nk #[o0,o1,o2,o3,o4,o5,⟨some dd,.call ⟨.value (.tmp t17),#[.tmp t18,.tmp t19],ats⟩,ty,pos,af,none⟩,o7] 3 r3 (r2.apply (r1.apply (r0.apply s))))
  (v4 : Valid P nk #[o0,o1,o2,o3,o4,o5,⟨some dd,.call ⟨.value (.tmp t17),#[.tmp t18,.tmp t19],ats⟩,ty,pos,af,none⟩,o7] 4 r4 (r3.apply (r2.apply (r1.apply (r0.apply s))))) (v5 : Valid P nk #[o0,o1,o2,o3,o4,o5,⟨some dd,.call ⟨.value (.tmp t17),#[.tmp t18,.tmp t19],ats⟩,ty,pos,af,none⟩,o7] 5 r5 (r4.apply (r3.apply (r2.apply (r1.apply (r0.apply s))))))
  (hz : z = r5.apply (r4.apply (r3.apply (r2.apply (r1.apply (r0.apply s)))))) (h17 : z.slot t17 = some (.d (.v (.func (.yield l) #[] #[])))) (h18 : z.slot t18 = some (.d pd)) (h19 : z.slot t19 = some (.d pd2)) (hC : CallIn z σ k mi mo [] [])
  (v7 : Valid P nk #[o0,o1,o2,o3,o4,o5,⟨some dd,.call ⟨.value (.tmp t17),#[.tmp t18,.tmp t19],ats⟩,ty,pos,af,none⟩,o7] 7 r7 (St.put { z with obj := q52 z.obj (mo.map fun p => (σ p.1,p.2.ren σ)) } dd (.d (.v (.bool true)))))
  (hQ : Q .normal (r7.apply (St.put { z with obj := q52 z.obj (mo.map fun p => (σ p.1,p.2.ren σ)) } dd (.d (.v (.bool true)))))) :
  CWx none [] P (E0.cx nk) (.region id #[o0,o1,o2,o3,o4,o5,⟨some dd,.call ⟨.value (.tmp t17),#[.tmp t18,.tmp t19],ats⟩,ty,pos,af,none⟩,o7] false) Q s := by
 subst hz
 intro n a w hR
 refine wpIn_region ?_
 show wpOpsIn (FR none) n P _ _ [0,1,2,3,4,5,6,7] _ _
 rw [wpOpsIn_cons]
 refine qZ0 hd rfl v0 hR (fun a w hR => ?_)
 rw [wpOpsIn_cons]
 refine qZ0 hd rfl v1 hR (fun a w hR => ?_)
 rw [wpOpsIn_cons]
 refine qZ0 hd rfl v2 hR (fun a w hR => ?_)
 rw [wpOpsIn_cons]
 refine qZ0 hd rfl v3 hR (fun a w hR => ?_)
 rw [wpOpsIn_cons]
 refine qZ0 hd rfl v4 hR (fun a w hR => ?_)
 rw [wpOpsIn_cons]
 refine qZ0 hd rfl v5 hR (fun a w hR => ?_)
 obtain ⟨E,rfl,hR⟩ := hR
 have e17 : a.eval (.tmp t17) = .func (.yield l) #[] #[] := by
  have := (hR.slots _ _ h17).sc
  exact this
 have hpv : VR E (.d pd) (a.eval (.tmp t18)) := hR.slots _ _ h18
 have hpv2 : VR E (.d pd2) (a.eval (.tmp t19)) := hR.slots _ _ h19
 obtain ⟨fn,tmps,as',bo',y1,y2⟩ := yield_after2 (m := n - 1) hR hl hJ hh has hbo hpar htm hst hpend hp hp2 hsl hlv hpv hpv2 hC hRd
 refine in_round (o := ⟨some dd,.call ⟨.value (.tmp t17),#[.tmp t18,.tmp t19],ats⟩,ty,pos,af,none⟩) (w' := E.w) rfl rfl (by intro c h; cases h) (fun _ => trivial) rfl (l := l) (fn := fn) (tmps := tmps) (assign := as') (body := bo') ?_ (RoundIn.mono (show RoundIn (FR none) (n - 1) P l fn tmps as' bo' E.w _ from y2) ?_)
 ·simp only [execOp,resolve,eval_mark,e17,Deferred.ofValue,Sem.run_bind,Sem.run_pure,Result.andThen,invoke,List.map_toArray,List.map_cons,List.map_nil]
  exact y1
 rintro e w' ⟨rfl,E2,rfl,hR2⟩
 refine ⟨_,rfl,?_⟩
 rw [qN5,wpOpsIn_cons]
 refine qZ0 hd rfl v7 ⟨E2,rfl,hR2.put (.of_sc rfl) hdd⟩ (fun a w hR => ?_)
 exact ⟨_,a,rfl,hQ,hR⟩
end
def RfG (b : Bool) (P : Program) (fn : Func) (nk : Nat × Nat) (E : Env) (Post : AV → (Nat → Option OB) → Prop) (c : Code) (s : St) : Prop :=
 ∀ a w,R (E.cx nk) s a w → c.wpIn Fence.wide 0 P (fun e a w => (b = true → e = .ret) ∧ bodyPostM Fence.wide 0 P fn (Ret E Post) e a w) a w
def RfQ (P : Program) (fn : Func) (N : Nat × Nat) (Post : AV → (Nat → Option OB) → Prop) : Exit → St → Prop := fun e s' => ∃ s'',Leads N s' s'' ∧ (e = .normal ∨ e = .ret) ∧ ∃ res,ResOk P fn s'' res ∧ Post res s''.obj
section
variable {P : Program} {fn : Func} {nk : Nat × Nat} {E : Env} {Post : AV → (Nat → Option OB) → Prop} {b : Bool} {s : St}
theorem rf_end {e : Exit} {s' : St} {a : Act} {w : World} (h : RfQ P fn nk Post e s') (hR : R (E.cx nk) s' a w) : bodyPostM Fence.wide 0 P fn (Ret E Post) e a w := by
 obtain ⟨s'',h1,h2,res,h3,h4⟩ := h
 obtain ⟨E',rfl,hR'⟩ := h1 _ _ _ rfl hR
 obtain ⟨v,v1,v2⟩ := h3 _ _ _ hR'
 have sg : SegX (fun _ => False) E E' := .of_r0 hR'
 have hfin : Ret E Post (.returned v) E'.w := sg.ret (by rw [hR'.obj]; exact h4) v2
 have hl : LeavesInM Fence.wide 0 P fn a.tmps (Ret E Post) a.defers .returning E'.w := by
  rw [hR'.defers]
  exact ⟨v,v1,hfin⟩
 rcases h2 with rfl | rfl
 ·exact hl
 ·exact hl
theorem rf_plain {c : Code} (h : CWp P nk c (RfQ P fn nk Post) s) : RfG false P fn nk E Post c s := fun a w hR =>
 wpIn_mono (wpIn_wide.2 (h _ _ _ rfl hR)) fun e a' w' ⟨s',q,hR'⟩ => ⟨fun h => (by cases h),rf_end q hR'⟩
theorem rf_seq {x y : Code} (h : CWp P nk x (thenS (fun s' => RfG false P fn nk E Post y s') (RfQ P fn nk Post)) s) : RfG false P fn nk E Post (.seq x y) s := fun a w hR => by
 refine wpIn_seq (wpIn_mono (wpIn_wide.2 (h _ _ _ rfl hR)) ?_)
 rintro e a' w' ⟨s',q,hR'⟩
 cases e with
 | normal => exact q _ _ hR'
 | _ => exact ⟨fun h => (by cases h),rf_end q hR'⟩
theorem rf_seqT {x y : Code} (h : CWp P nk x (fun e s' => e = .normal ∧ RfG true P fn nk E Post y s') s) : RfG true P fn nk E Post (.seq x y) s := fun a w hR => by
 refine wpIn_seq (wpIn_mono (wpIn_wide.2 (h _ _ _ rfl hR)) ?_)
 rintro e a' w' ⟨s',⟨rfl,q⟩,hR'⟩
 exact q _ _ hR'
theorem rf_seqR {x y : Code} (h : RfG true P fn nk E Post x s) : RfG false P fn nk E Post (.seq x y) s := fun a w hR => by
 refine wpIn_seq (wpIn_mono (h _ _ hR) ?_)
 rintro e a' w' ⟨q1,q2⟩
 have := q1 rfl
 subst this
 exact ⟨fun h => (by cases h),q2⟩
theorem rf_condT {c : Operand} {x y : Code} {t : Bool} (hc : s.val c = some (.d (.v (.bool t)))) (ht : t = true) (h : RfG b P fn nk E Post x s) : RfG b P fn nk E Post (.cond c x y) s := fun a w hR => by
 subst ht
 obtain ⟨E',rfl,hR'⟩ := hR
 exact wpIn_cond_true (hR'.val hc).sc (h _ _ ⟨E',rfl,hR'⟩)
theorem rf_leads {c : Code} {s' : St} (hw : Leads nk s s') (h : RfG b P fn nk E Post c s') : RfG b P fn nk E Post c s := fun a w hR => h a w (hw _ _ _ rfl hR)
theorem rf_join {ι : Type} {x y : Code} (st : ι → St) (φ : ι → Prop) (hy : ∀ v,φ v → RfG false P fn nk E Post y (st v))
  (hx : CWp P nk x (thenS (fun s' => ∃ v,φ v ∧ Leads nk s' (st v)) (RfQ P fn nk Post)) s) : RfG false P fn nk E Post (.seq x y) s :=
 rf_seq (cw_mono hx fun e s' h => by
  cases e with
  | normal => obtain ⟨v,h1,h2⟩ := h; exact rf_leads h2 (hy v h1)
  | _ => exact h)
end
theorem fnOk_rfG {P : Program} {f k : Nat} {fn : Func} {c : Code} {args : List AV} {oin : Nat → Option OB} {Post : AV → (Nat → Option OB) → Prop} {b : Bool} {nt : Nat} (hf : P.funcs[f]? = some fn) (hb : fn.body = some c) (hn : fn.ntmps = nt) (hn' : Nat.ble args.length nt = true)
  (h : ∀ E : Env,E.obj = oin → (∀ o,E.obj o ≠ none → o < k) → RfG b P fn (nt,k) E Post c ⟨fun t => args[t]?,oin⟩) : FnOk P f args k oin Post := by
 intro hk E vals hE hok hargs
 obtain ⟨hl,hget⟩ := hargs.get
 have hn'' := Nat.le_of_ble_eq_true hn'
 refine (callsIn_wide (n := 0)).1 (callsIn_of_wp_marks hf hb trivial ?_ rfl)
 have hR : R (E.cx (nt,k)) ⟨fun t => args[t]?,oin⟩ { tmps := vals.toArray ++ Array.replicate (fn.ntmps - vals.toArray.size) undef,defers := [] } E.w := by
  refine r_start hE hok (fun o ho => hk o ho) rfl (by rw [hn]; simp; omega) (fun t x ht => ?_)
  obtain ⟨v,h1,h2⟩ := hget t x ht
  have hlt := (List.getElem?_eq_some_iff.1 h1).1
  have : (vals.toArray ++ Array.replicate (fn.ntmps - vals.toArray.size) undef).getD t undef = v := by
   rw [Array.getD_eq_getD_getElem?,Array.getElem?_append_left (by simpa using hlt)]
   simp [h1]
  simp only [this]
  exact h2
 exact wpIn_mono (h E hE (fun o ho => hk o (by rw [← hE]; exact ho)) _ _ hR) fun e a w q => q.2
theorem rf_range {P : Program} {gf nt k g p p2 b0 : Nat} {fn : Func} {A3 as bo B : Code} {caps : List AV} {E : Env} {Post : AV → (Nat → Option OB) → Prop} {s s3 : St} {m4 : List (Nat × OB)} (hkE : ∀ o,E.obj o ≠ none → o < k) (h3 : CWp P (nt,k) A3 (fun e s' => e = .normal ∧ s' = s3) s)
  (hg : s3.slot g = some (.fn gf [] caps)) (eg : ∀ args w,(callFunc gf args).run P w = .ok (.enter gf args) w)
  (hit : ∀ (l : Nat) (rec : Loop) (E0 : Env) (vals : List Value),E0.obj = s3.obj → q96 E0 → E0.w.heap[l]? = some (.loop rec) → ¬ E0.J l → (∀ c,E0.obj c ≠ none → ¬ E0.has c l) → rec.assign = as → rec.body = bo → rec.params = #[p,p2] →
   rec.tmps.size = nt → rec.state = .ready → rec.pending = none → (∀ t x,s3.slot t = some x → VR E0 x (rec.tmps.getD t undef)) → VRs E0 caps vals →
   Calls P gf (#[.func (.yield l) #[] #[]] ++ vals.toArray) E0.w (Ret E0 (fun _ oo => oo = lk m4)))
  (hB : ∀ ds,CWr none ds P (nt,k) B (fun e s' => e = .ret ∧ (∃ k5,∀ o,s'.obj o ≠ none → o < k5) ∧ ∃ res,ResOk P fn s' res ∧ Post res s'.obj) ⟨s3.slot,lk m4⟩) : RfG true P fn (nt,k) E Post (.seq (.seq A3 (.block b0 (.rangeFunc (.tmp g) #[p,p2] as bo))) B) s := by
 intro a w hR
 refine wpIn_seq (wpIn_seq (wpIn_mono (wpIn_wide.2 (h3 _ _ _ rfl hR)) ?_))
 rintro e a1 w ⟨s3',⟨rfl,rfl⟩,E1,rfl,hR1⟩
 refine wpIn_block (wpIn_rangeFunc ?_)
 intro fnid _
 have sg1 : ∀ {L : Nat → Prop},SegX L E E1 := .of_r0 hR1
 obtain ⟨rec,hrec⟩ : ∃ rec : Loop,rec = { state := .ready,pending := none,fn := fnid,tmps := a1.tmps,params := #[p,p2],assign := as,body := bo,defers := E1.w.heap.size } := ⟨_,rfl⟩
 obtain ⟨E2,hE2⟩ : ∃ E2 : Env,E2 = { E1 with w := (E1.w.alloc (.deferred (some []))).alloc (.loop rec),J := fun b => E1.J b ∧ b < E1.w.heap.size } := ⟨_,rfl⟩
 have sg2 : ∀ {L : Nat → Prop},SegX L E1 E2 := (SegX.two (sg1 (L := fun _ => False)).ok _ _ E2 hE2).1
 have ext2 : Ext E1 E2 := (SegX.two (L := fun _ => False) (sg1 (L := fun _ => False)).ok _ _ E2 hE2).2
 have hl2 : E2.w.heap[E1.w.heap.size + 1]? = some (.loop rec) := by
  rw [hE2]
  have := qr2 (E1.w.alloc (.deferred (some []))) (.loop rec)
  simpa using this
 have hD2 : E2.w.heap[E1.w.heap.size]? = some (.deferred (some [])) := by
  rw [hE2]; exact (Below.heap_alloc _ _ _ (by simp)).trans (qr2 _ _)
 have hJ2 : ∀ b,E1.w.heap.size ≤ b → ¬ E2.J b := fun b hb q => by rw [hE2] at q; have := q.2; omega
 have hh2 : ∀ b,E1.w.heap.size ≤ b → ∀ c,E2.obj c ≠ none → ¬ E2.has c b := by
  intro b hb c q1 q2
  rw [hE2] at q1 q2
  obtain ⟨x,hx⟩ := Option.ne_none_iff_exists'.1 q1
  have := ((sg1 (L := fun _ => False)).ok.1 c x hx).lth hx q2
  omega
 have hval : VR E1 (.fn gf [] caps) (a1.eval (.tmp g)) := hR1.slots _ _ hg
 obtain ⟨cs,hv1,hv2⟩ := hval
 cases hv1 with
 | @fn _ _ _ xs ys hxs hys =>
 cases hxs
 have e6 : a1.eval (.tmp g) = .func (.func gf) #[] ys.toArray := hv2
 refine ⟨E1.w.heap.size + 1,[{ target := .collected E1.w.heap.size,args := #[] }],E2.w,{ target := .fn (.func gf) ys.toArray,args := #[.func (.yield (E1.w.heap.size + 1)) #[] #[]] },E2.w,gf,
  #[.func (.yield (E1.w.heap.size + 1)) #[] #[]] ++ ys.toArray,E2.w,?_,?_,fun _ _ => trivial,?_,fun h => (by cases h),?_⟩
 ·rw [hE2,hrec]; exact run_enterLoop_outer _ _ _ _ _
 ·simp only [resolve,rangeCall,e6]
  simp [go_sem]
 ·simp [invoke,go_sem,eg]
 have hcall := hit (E1.w.heap.size + 1) rec E2 ys (by rw [hE2]; exact hR1.obj) (sg2 (L := fun _ => False)).ok hl2 (hJ2 _ (by omega)) (hh2 _ (by omega)) (by rw [hrec]) (by rw [hrec]) (by rw [hrec]) (by rw [hrec]; exact hR1.size) (by rw [hrec]) (by rw [hrec])
  (fun t x ht => by rw [hrec]; exact (hR1.slots t x ht).ext ext2) (VRs.ext ext2 hys)
 have hcall2 : CallsIn Fence.wide (0 - 1) P gf (#[.func (.yield (E1.w.heap.size + 1)) #[] #[]] ++ ys.toArray) E2.w _ := callsIn_wide.2 hcall
 refine hcall2.mono ?_
 intro e W2 hret
 obtain ⟨v0,res0,E3,rfl,rfl,hm4,_,sg3⟩ := SegX.of_ret hret
 have ext3 := sg3.ext (fun _ q => q.elim)
 have hlt2 : E1.w.heap.size + 1 < E2.w.heap.size := (Array.getElem?_eq_some_iff.1 hl2).1
 have hT2 : ∀ b,E1.w.heap.size ≤ b → ¬ E2.T b := fun b hb ⟨o,q1,q2⟩ => hh2 b hb o q1 q2
 have hl3 : E3.w.heap[E1.w.heap.size + 1]? = some (.loop rec) := (sg3.keeps.block _ hlt2 (fun q => q.elim (hT2 _ (by omega)) id)).trans hl2
 have hD3 : E3.w.heap[E1.w.heap.size]? = some (.deferred (some [])) := (sg3.keeps.block _ (by show E1.w.heap.size < E2.w.heap.size; omega) (fun q => q.elim (hT2 _ (by omega)) id)).trans hD2
 obtain ⟨hJl3,hhl3⟩ := sg3.notJ hlt2 (hT2 _ (by omega)) (hJ2 _ (by omega))
 obtain ⟨hJD3,hhD3⟩ := sg3.notJ (l := E1.w.heap.size) (by omega) (hT2 _ (by omega)) (hJ2 _ (by omega))
 have hpen : rec.pending = none := by rw [hrec]
 have hend : (Instr.endLoop (E1.w.heap.size + 1)).run P E3.w = .ok none (E3.w.putObj (E1.w.heap.size + 1) (.loop { rec with state := .exhausted })) := (run_endLoop (P := P) hl3 (by rw [hrec]; simp)).trans (by rw [hpen])
 refine ⟨none,_,hend,?_⟩
 obtain ⟨E4,hE4⟩ : ∃ E4,E4 = E3.putL (E1.w.heap.size + 1) (.loop { rec with state := .exhausted }) := ⟨_,rfl⟩
 have hw4 : E3.w.putObj (E1.w.heap.size + 1) (.loop { rec with state := .exhausted }) = E4.w := by rw [hE4]; rfl
 rw [hw4]
 have sg4 : SegX (· = E1.w.heap.size + 1) E3 E4 := by rw [hE4]; exact .putL sg3.ok hl3 hhl3 hJl3
 have ext4 := sg4.ext (fun b q => by subst q; exact hJl3)
 have hD4 : E4.w.heap[E1.w.heap.size]? = some (.deferred (some [])) := by rw [hE4]; exact (World.putObj_heap_other (by omega)).trans hD3
 have hJD4 : ¬ E4.J E1.w.heap.size := by rw [hE4]; exact hJD3
 have hhD4 : ∀ c,E4.obj c ≠ none → ¬ E4.has c E1.w.heap.size := by rw [hE4]; exact hhD3
 have hR4 : R (E4.cxK (nt,k)) ⟨s3'.slot,lk m4⟩ a1 E4.w := ⟨{ E4 with J := E4.J' },rfl,r0_startK (by rw [hE4]; exact hm4) sg4.ok hR1.defers hR1.size (fun t x ht => (((hR1.slots t x ht).ext ext2).ext ext3).ext ext4)⟩
 have hmark : ({ a1 with defers := [{ target := .collected E1.w.heap.size,args := #[] }] ++ a1.defers } : Act) = Act.mark a1 [{ target := .collected E1.w.heap.size,args := #[] }] := by
  rw [hR1.defers]; rfl
 rw [hmark]
 show B.wpIn (FR none) _ _ _ _ _
 refine wpIn_mono (hB [{ target := .collected E1.w.heap.size,args := #[] }] _ rfl _ _ _ hR4) ?_
 rintro e a5 w5 ⟨s5,a0,rfl,⟨he,⟨k5,hk5⟩,res,hres,hpost⟩,E5,rfl,hR5⟩
 have sg5 : ∀ {L : Nat → Prop},SegK k L E4 E5 := .of_r0 hR5
 have hltD4 : E1.w.heap.size < E4.w.heap.size := (Array.getElem?_eq_some_iff.1 hD4).1
 have hTD4 : ¬ E4.T E1.w.heap.size := fun ⟨o,q1,q2⟩ => hhD4 o q1 q2
 have hD5 : E5.w.heap[E1.w.heap.size]? = some (.deferred (some [])) := ((sg5 (L := fun _ => False)).keeps.block _ hltD4 (fun q => q.elim hTD4 id)).trans hD4
 obtain ⟨hJD5,hhD5⟩ := (sg5 (L := fun _ => False)).notJ hltD4 hTD4 hJD4
 obtain ⟨E6,hE6⟩ : ∃ E6,E6 = E5.putL E1.w.heap.size (.deferred none) := ⟨_,rfl⟩
 have sg6 : SegX (· = E1.w.heap.size) E5 E6 := by rw [hE6]; exact .putL (sg5 (L := fun _ => False)).ok hD5 hhD5 hJD5
 have ext6 := sg6.ext (fun b q => by subst q; exact hJD5)
 have hR6 : R0 (E6.cx (nt,k5)) s5 a0 { E6 with J := E6.J' } := r0_start (by rw [hE6]; exact hR5.obj) sg6.ok hk5 hR5.defers hR5.size (fun t x ht => (hR5.slots t x ht).ext ext6)
 obtain ⟨v,hv1,hv2⟩ := hres _ _ _ hR6
 have sg7 : ∀ {L : Nat → Prop},SegX L E6 { E6 with J := E6.J' } := .of_r0 hR6
 have tot4 : SegX (fun b => b = E1.w.heap.size + 1 ∨ b = E1.w.heap.size) E E4 := ((sg1.trans sg2).trans (sg3.mono (fun _ q => q.elim))).trans (sg4.mono (fun _ q => .inl q))
 have tot : SegK k (fun b => b = E1.w.heap.size + 1 ∨ b = E1.w.heap.size) E { E6 with J := E6.J' } :=
  ((tot4.toK.trans sg5).trans (sg6.mono (fun _ q => .inr q)).toK).trans sg7.toK
 have hfin : Ret E Post (.returned v) E6.w := tot.retNew (fun o ho => hkE o ho) (fun b q => by
  have := (sg1 (L := fun _ => False)).ltsz
  rcases q with q | q <;> omega) (by show Post res E6.obj; rw [hE6]; show Post res E5.obj; rw [hR5.obj]; exact hpost) hv2
 have hleave : LeavesInM Fence.wide 0 P fn a0.tmps (Ret E Post) [{ target := .collected E1.w.heap.size,args := #[] }] .returning E5.w := by
  refine ⟨by simp,.inl ⟨_,_,rfl,run_takeDeferred hD5,?_⟩⟩
  have hw6 : E5.w.putObj E1.w.heap.size (.deferred none) = E6.w := by rw [hE6]; rfl
  rw [hw6]
  exact ⟨v,hv1,hfin⟩
 subst he
 exact ⟨fun _ => rfl,hleave⟩
end Go.Val
