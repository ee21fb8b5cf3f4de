/- Merged texts: Xc Xd Xe Xf Xg Xn Xo Vw Vx Pa Pb Pc Vy Pd Vz Xh Xi Xa Xb Xj. -/
import Derived.Test.YtfbnhflapgddbaaLb
import Derived.Sort.Grow
import Derived.Lib.Bytealg
import GoSem.Op.String
import Derived.Sort.Row
import Derived.Test.YtfbnhflapgddbaaLa
import Derived.Sort.LotA
import Derived.Sort.AssemblyPlain
import Derived.Lib.BitFns
set_option linter.all false
namespace Go.Val
open Go.RowKit
variable [Drw]
section
variable {P : Program} {N : Nat × Nat} {ops : Array Oper} {i : Nat} {s : St} {d : Nat} {ty : TypeId} {pos : String} {af : Array Edge} {g : Option (Nat × Bool)} {gs : List Nat}
theorem qz0 {x : Operand} {o n : Nat} (ho : ops[i]? = some ⟨some d,.nilCheck x,ty,pos,af,g⟩) (hd : Nat.ble (d + 1) N.1 = true) (hg : G ops s g gs) (hx : s.val x = some (.ptr o n)) :
  Valid P N ops i ⟨gs ++ opT x,[],some (d,some (.ptr o n)),[]⟩ s :=
 vPu ho hd hg fun s' hs cx a E hR => by
  obtain ⟨cs,h1,h2⟩ := hR.val ((vAg hs).trans hx)
  cases h1 with
  | ptr k1 kb k2 => exact ⟨_,by simp only [execOp]; rw [h2]; rfl,_,.ptr k1 kb k2,rfl⟩
theorem o_nilA {x : Operand} {y : D} (ho : ops[i]? = some ⟨some d,.nilCheck x,ty,pos,af,g⟩) (hd : Nat.ble (d + 1) N.1 = true) (hg : G ops s g gs) (hx : s.val x = some (.d (.at y))) :
  Valid P N ops i ⟨gs ++ opT x,[],some (d,some (.d (.at y))),[]⟩ s :=
 vPu ho hd hg fun s' hs cx a E hR => by
  obtain ⟨cs,h1,h2⟩ := hR.val ((vAg hs).trans hx)
  cases h1 with
  | d h1 =>
   cases h1 with
   | «at» q1 q2 q3 q4 => exact ⟨_,by simp only [execOp]; rw [h2]; rfl,_,.d (.at q1 q2 q3 q4),rfl⟩
def ifB (P : Program) (T : TypeId) : Bool := match P.underlying T with
 | some (.interface _) => true
 | none => true
 | _ => false
theorem qL4 {T : TypeId} {x : Operand} {y : AV} (ho : ops[i]? = some ⟨some d,.makeInterface T x,ty,pos,af,g⟩) (hd : Nat.ble (d + 1) N.1 = true) (hg : G ops s g gs) (hx : s.val x = some y) (hT : ifB P T = false) :
  Valid P N ops i ⟨gs ++ opT x,[],some (d,some (.ifc T y)),[]⟩ s :=
 vPu ho hd hg fun s' hs cx a E hR => by
  obtain ⟨cs,h1,h2⟩ := hR.val ((vAg hs).trans hx)
  refine ⟨.iface T (a.eval x),?_,_,.ifc h1,by rw [h2]; rfl⟩
  unfold ifB at hT
  cases hu : P.underlying T with
  | none => rw [hu] at hT; cases hT
  | some u =>
   rw [hu] at hT
   simp only [execOp,Instr.makeInterface,Sem.run_bind,run_underlying hu,Result.andThen]
   cases u <;> first | rfl | (cases hT)
theorem eqIn_pnil {T e : TypeId} (hT : P.underlying T = some (.pointer e)) (dd : Nat) (b : Addr) (w : World) : (Op.equalIn (dd + 1) T (.pointer (some b)) (.pointer none)).run P w = .ok false w := by
 simp [Op.equalIn,run_underlying hT,Result.andThen]
theorem run_pnil {T e : TypeId} (hT : P.underlying T = some (.pointer e)) {x : Operand} {T' : TypeId} {a : Act} {b : Addr} {E : Env} (hx : a.eval x = .pointer (some b)) {dd : Option Nat} : (execOp a.eval ⟨dd,.binOp .eql T x (.const (.pointer none)) T',ty,pos,af,g⟩).run P E.w = .ok (.value (.bool false)) E.w := by
 have hq : ∀ b w,(Op.equalIn Op.maxDepth T (.pointer (some b)) (.pointer none)).run P w = .ok false w := fun b w => by
  exact eqIn_pnil hT 9999 b w
 simp only [execOp,hx]
 simp [eqGuard,binOp,Op.equal,hq,Act.eval,Result.andThen]
theorem o_pnilP {T T' e : TypeId} {x : Operand} {o n : Nat} (ho : ops[i]? = some ⟨some d,.binOp .eql T x (.const (.pointer none)) T',ty,pos,af,g⟩) (hd : Nat.ble (d + 1) N.1 = true) (hg : G ops s g gs) (hx : s.val x = some (.ptr o n)) (hT : P.underlying T = some (.pointer e)) :
  Valid P N ops i ⟨gs ++ opT x,[],some (d,some (.d (.v (.bool false)))),[]⟩ s :=
 vPu ho hd hg fun s' hs cx a E hR => by
  obtain ⟨cs,h1,h2⟩ := hR.val ((vAg hs).trans hx)
  cases h1 with
  | ptr k1 kb k2 => exact ⟨.bool false,run_pnil hT h2,.of_sc (E := E) rfl⟩
theorem o_max {T tx : TypeId} {x y : Operand} {k : IntKind} {m n : Int} (ho : ops[i]? = some ⟨some d,.call ⟨.builtin .max,#[x,y],#[T,tx]⟩,ty,pos,af,g⟩) (hd : Nat.ble (d + 1) N.1 = true) (hg : G ops s g gs) (hx : s.val x = some (.d (.v (.int k m)))) (hy : s.val y = some (.d (.v (.int k n)))) :
  Valid P N ops i ⟨gs ++ (opT x ++ opT y),[],some (d,some (.d (.v (.int k (max m n))))),[]⟩ s :=
 vPu ho hd hg fun s' hs cx a E hR => by
  obtain ⟨h1,h2⟩ := qt0 hs
  have e1 := (hR.val ((vAg h1).trans hx)).sc
  have e2 := (hR.val ((vAg h2).trans hy)).sc
  refine ⟨.int k (max m n),?_,.of_sc (E := E) rfl⟩
  simp [execOp,resolve,invoke,builtin,e1,e2,Builtin.max_,Builtin.max2]
  omega
theorem valid_callG {dd : Option Nat} {f : FuncId} {c : Call} {k : Nat} {mi mo : List (Nat × OB)} {ys : List AV} {b : Bool} {l fs : List Nat} {res : AV} (σ : Nat → Nat)
  (ho : ops[i]? = some ⟨dd,.call c,ty,pos,af,g⟩) (hd : ∀ d,dd = some d → d < N.1) (hg : G ops s g gs)
  (hos : ∀ (s' : St) (cx : Cx) (a : Act) (E Ec : Env),cx.nk = N → (∀ t ∈ fs,s'.slot t = s.slot t) → (∀ c ∈ l,s'.obj c = s.obj c) → R0 cx s' a E → Sub E Ec σ → Ec.obj = lk mi → (b = true → ∀ b',Ec.J b') → (∀ c ∈ l,∀ o,lk mi o ≠ none → σ o ≠ c) →
   ∃ vals,(execOp a.eval ⟨dd,.call c,ty,pos,af,g⟩).run P E.w = .ok (.enter f vals.toArray) E.w ∧ VRs Ec ys vals)
  (hF : FnOk P f ys k (lk mi) (fun r oo => r = res ∧ oo = lk mo)) (hC : CallIn s σ k mi mo ys l)
  (hflat : b = false ∨ (res.flat ∧ ∀ p ∈ mo,p.2.flat)) :
  Valid P N ops i ⟨gs ++ fs,l ++ mo.map (fun p => σ p.1),dd.map fun d => (d,some (res.ren σ)),mo.map fun p => (σ p.1,p.2.ren σ)⟩ s := by
 refine ⟨_,ho,fun s' hs Q cx a w hn hR => ?_⟩
 obtain ⟨E,rfl,hR0⟩ := hR
 have hs1 : ∀ t ∈ gs,s'.slot t = s.slot t := fun t ht => hs.1 t (by simp [ht])
 have hs2 : ∀ t ∈ fs,s'.slot t = s.slot t := fun t ht => hs.1 t (by simp [ht])
 rw [if_pos (hg.wanted hs1 hR0)]
 have hC' := callIn_agree hC hs.2
 let Ec : Env := { obj := lk mi,β := fun o => E.β (σ o),γ := fun o => E.γ (σ o),δ := fun o => E.δ (σ o),φ := fun o => E.φ (σ o),J := fun bb => b = true ∨ E.I bb,w := E.w }
 have hEo : ∀ o ob,Ec.obj o = some ob → E.obj (σ o) = some (ob.ren σ) := fun o ob h => by rw [hR0.obj]; exact (hC'.objs _ (q61 h)).1
 have hS : Sub E Ec σ := ⟨rfl,hEo,fun _ => rfl,fun _ => rfl,fun _ => rfl,fun _ => rfl,fun bb hb => ⟨.inr hb,fun o ob h e => hb.2 (σ o) _ (hEo o ob h) (by
  rcases e with e | ⟨e,x,hx⟩
  ·exact .inl e
  ·exact .inr ⟨e,_,hEo _ _ hx⟩)⟩⟩
 have inj0 : ∀ m m',lk mi m ≠ none → lk mi m' ≠ none → σ m = σ m' → m = m' := by
  intro m m' h1 h2 e
  obtain ⟨x1,h1⟩ := Option.ne_none_iff_exists'.1 h1
  obtain ⟨x2,h2⟩ := Option.ne_none_iff_exists'.1 h2
  exact hC'.inj _ (q61 h1) _ (q61 h2) e
 have hok : q96 Ec := by
  refine ⟨fun o ob h => ?_,fun o o' bb h1 h2 e1 e2 => ?_⟩
  ·obtain ⟨q1,q2⟩ := hC'.objs _ (q61 h)
   exact OR.unren hS q2 inj0 (hR0.objs _ _ q1)
  ·obtain ⟨x1,h1'⟩ := Option.ne_none_iff_exists'.1 h1
   obtain ⟨x2,h2'⟩ := Option.ne_none_iff_exists'.1 h2
   refine inj0 o o' h1 h2 (hR0.inj _ _ bb ?_ ?_ (hS.has e1) (hS.has e2))
   ·rw [(hC'.objs _ (q61 h1')).1]; simp
   ·rw [(hC'.objs _ (q61 h2')).1]; simp
 obtain ⟨vals,hrun,hvals⟩ := hos s' cx a E Ec hn hs2 (fun c hc => hs.2 c (by simp [hc])) hR0 hS rfl (fun e b' => .inl e) (fun c hc o ho' => by
  obtain ⟨x,hx⟩ := Option.ne_none_iff_exists'.1 ho'
  exact hC'.pres c hc _ (q61 hx))
 have hcall := hF (fun o ho' => by
  obtain ⟨x,hx⟩ := Option.ne_none_iff_exists'.1 ho'
  exact hC'.lt _ (q61 hx)) Ec _ rfl hok hvals
 unfold Oper.wp
 rw [hrun]
 simp only [Oper.upon]
 refine hcall.mono ?_
 rintro e w' ⟨v,r,E',rfl,rfl,⟨rfl,hpost⟩,hv,hok',hown,hkeep,hJ',hlive⟩
 obtain ⟨E2,q1,q2,q3⟩ := after_call hR0 hC' hS rfl (fun bb h => h) hpost hv hok' hown hkeep hJ' hlive hflat
 refine ⟨E2,q1,?_⟩
 cases dd with
 | none => exact q3
 | some d => exact q3.put q2 (by rw [hn]; exact hd d rfl)
theorem hos_fval {dd : Option Nat} {f : FuncId} {fn : Func} {q : Operand} {as : Array Operand} {ats : Array TypeId} (hf : P.funcs[f]? = some fn) (hnm : (fn.name == "runtime.NumGoroutine") = false) (hbd : fn.body.isNone = false) (a : Act) (w : World)
  (hq : a.eval q = .func (.func f) #[] #[]) : (execOp a.eval ⟨dd,.call ⟨.value q,as,ats⟩,ty,pos,af,g⟩).run P w = .ok (.enter f (as.toList.map a.eval).toArray) w := by
 simp only [execOp,resolve,Sem.run_bind,Sem.run_pure,Result.andThen,hq,Deferred.ofValue,invoke,callFunc,run_program,hf,hnm,hbd,Bool.false_eq_true,if_false]
 congr 2
 apply Array.ext'
 simp
theorem qm4 {f : FuncId} {fn : Func} {q : Operand} {as : List Operand} {ats : Array TypeId} {b : Bool} {ys : List AV} {l : List Nat} {res : AV} (ho : ops[i]? = some ⟨some d,.call ⟨.value q,as.toArray,ats⟩,ty,pos,af,g⟩) (hd : Nat.ble (d + 1) N.1 = true) (hg : G ops s g gs)
  (hq : s.val q = some (.fn f [] [])) (hf : P.funcs[f]? = some fn) (hnm : (fn.name == "runtime.NumGoroutine") = false) (hbd : fn.body.isNone = false) (hF : FnOk P f ys 0 (lk []) (fun r oo => r = res ∧ oo = lk []))
  (hh : Hands s (lk []) (fun o => o) as ys b l) (hl : AV.lives (lk []) ys) (hflat : b = false ∨ res.flat) : Valid P N ops i ⟨gs ++ (opT q ++ qS4 as),l ++ [],some (d,some (res.ren fun o => o)),[]⟩ s := by
 refine qA5 (fun o => o) (fs := opT q) ho (fun _ e => by cases e; exact Nat.le_of_ble_eq_true hd) hg hf hnm hbd as (fun s' cx a E hfs hR => ?_) hF hh (callIn0 hl) (hflat.imp id fun h => ⟨h,fun _ h => by cases h⟩)
 obtain ⟨cs,h1,h2⟩ := hR.val ((vAg hfs).trans hq)
 cases h1 with
 | fn k1 k2 =>
  cases k1
  cases k2
  have e : a.eval q = .func (.func f) #[] #[] := h2
  have := hos_fval (P := P) (dd := some d) (as := as.toArray) (ats := ats) (ty := ty) (pos := pos) (af := af) (g := g) hf hnm hbd a E.w e
  simpa using this
def ptrAV : AV → Bool
 | .ptr _ _ => true
 | .d (.at _) => true
 | _ => false
theorem ptrAV_val {E : Env} {x : AV} {cs : List Value} (h : ptrAV x = true) (hc : CR E x cs) : ∃ a,mkV x.isAgg cs = .pointer (some a) := by
 cases hc with
 | ptr => exact ⟨_,rfl⟩
 | d hd =>
  cases hd with
  | «at» => exact ⟨_,rfl⟩
  | _ => cases h
 | _ => cases h
theorem qc6 {f : FuncId} {fn : Func} {q : Operand} {name : String} {t : Nat} {x : AV} {as : List Operand} {ats : Array TypeId} {b : Bool} {k : Nat} {mi mo : List (Nat × OB)} {ys : List AV} {l : List Nat} {res : AV} (σ : Nat → Nat)
  (ho : ops[i]? = some ⟨some d,.call ⟨.invoke q name,as.toArray,ats⟩,ty,pos,af,g⟩) (hd : Nat.ble (d + 1) N.1 = true) (hg : G ops s g gs)
  (hq : s.val q = some (.ifc t x)) (hf : P.funcs[f]? = some fn) (hnm : (fn.name == "runtime.NumGoroutine") = false) (hbd : fn.body.isNone = false)
  (hpx : ptrAV x = true) (hm : ∀ (v : Addr) w,Sem.run P (Go.method (P.types.size + Made.depth) t (.pointer (some v)) name) w = Result.ok (f,Value.pointer (some v)) w) (hF : FnOk P f ys k (lk mi) (fun r oo => r = res ∧ oo = lk mo))
  (hh : Hands (s.put d x) (lk mi) σ (.tmp d :: as) ys b l) (hnd : (qS4 as).contains d = false) (hC : CallIn s σ k mi mo ys l) (hflat : b = false ∨ (res.flat ∧ ∀ p ∈ mo,p.2.flat)) :
  Valid P N ops i ⟨gs ++ (opT q ++ qS4 as),l ++ mo.map (fun p => σ p.1),some (d,some (res.ren σ)),mo.map fun p => (σ p.1,p.2.ren σ)⟩ s := by
 refine valid_callG (dd := some d) σ ho (fun _ e => by cases e; exact Nat.le_of_ble_eq_true hd) hg (fun s' cx a E Ec hn hfs hob hR hS hEc hJ hp => ?_) hF hC hflat
 obtain ⟨hf1,hf2⟩ := qt0 hfs
 obtain ⟨cs,h1,h2⟩ := hR.val ((vAg hf1).trans hq)
 cases h1 with
 | ifc h1 =>
  rename_i c0
  have e : a.eval q = .iface t (mkV x.isAgg c0) := h2
  have hdN : d < cx.nk.1 := by rw [hn]; exact Nat.le_of_ble_eq_true hd
  have hR' := hR.put (d := d) (x := x) ⟨c0,h1,rfl⟩ hdN
  have hnd' : ∀ t ∈ qS4 as,t ≠ d := by
   intro t ht e
   subst e
   have := List.contains_iff_mem.2 ht
   rw [hnd] at this
   cases this
  have hslots : ∀ t ∈ qS4 (.tmp d :: as),(s'.put d x).slot t = (s.put d x).slot t := by
   intro t ht
   simp only [St.put,qf1]
   by_cases htd : t = d
   ·simp [htd]
   ·rw [if_neg htd,if_neg htd]
    refine hf2 t ?_
    simp only [qS4,List.flatMap_cons,zL] at ht
    rcases ht with ht | ht
    ·simp [opT] at ht; exact absurd ht htd
    ·exact ht
  have hlv : AV.lives (lk mi) ys := hC.live
  have hv := Hands.vals hR' hS hEc hh hslots hob hlv hJ hp
  have heval : ∀ o ∈ as,(a.put (some d) (mkV x.isAgg c0)).eval o = a.eval o := by
   intro o ho'
   cases o with
   | tmp t =>
    have ht : t ≠ d := hnd' t (List.mem_flatMap.2 ⟨.tmp t,ho',by simp [opT]⟩)
    show (a.put (some d) _).tmps.getD t undef = a.tmps.getD t undef
    rw [qG5 _ _ _ _ (by rw [hR.size]; exact hdN),if_neg ht]
   | _ => rfl
  have hd0 : (a.put (some d) (mkV x.isAgg c0)).eval (.tmp d) = mkV x.isAgg c0 := by
   show (a.put (some d) _).tmps.getD d undef = _
   rw [qG5 _ _ _ _ (by rw [hR.size]; exact hdN),if_pos rfl]
  rw [List.map_cons,hd0,List.map_congr_left heval] at hv
  refine ⟨_,?_,hv⟩
  obtain ⟨pa,hpa⟩ := ptrAV_val hpx h1
  rw [hpa] at e hv ⊢
  simp only [execOp,resolve,Sem.run_bind,Sem.run_pure,Result.andThen,e,invoke]
  have e0 : (#[Value.iface t (.pointer (some pa))] ++ Array.map a.eval as.toArray)[0]? = some (Value.iface t (.pointer (some pa))) := by simp
  have e1 : (#[Value.iface t (.pointer (some pa))] ++ Array.map a.eval as.toArray).extract 1 (#[Value.iface t (.pointer (some pa))] ++ Array.map a.eval as.toArray).size = (as.map a.eval).toArray := by
   apply Array.ext'
   simp [List.take_of_length_le]
  simp only [e0,e1,callMethod,Sem.run_bind,run_program,Result.andThen,hm,callFunc,hf,hnm,hbd,Bool.false_eq_true,if_false,Sem.run_pure]
  congr 2
  apply Array.ext'
  simp
theorem b_shr {T : TypeId} {x y : Operand} {k kk : IntKind} (a : Int) (n : Int) (h : 0 ≤ n) : ∀ w,(eqGuard .shr T x y (.int k a) (.int kk n) >>= fun _ => binOp .shr T (.int k a) (.int kk n) : Sem Value).run P w = .ok (.int k (a.fdiv (2 ^ (min n.toNat k.bits)))) w := fun w => by
 have : ¬ n < 0 := by omega
 simp [eqGuard,binOp,Op.shift,this,Result.andThen]
theorem o_bldA {T : Nat} {z : D} {zs : List D} {ys : List AV} {pl : List (Nat × Nat)} {parts : List (Nat × Operand)} (ho : ops[i]? = some ⟨some d,.build T parts.toArray,ty,pos,af,g⟩) (hd : Nat.ble (d + 1) N.1 = true) (hg : G ops s g gs)
  (hZ : Zero P T z) (hz : z = .st zs) (hpl : q13 P T = some pl) (hf : Fills s pl parts (zs.map .d) ys) :
  Valid P N ops i ⟨gs ++ partT parts,[],some (d,some (.st ys)),[]⟩ s :=
 vPu ho hd hg fun s' hs cx a E hR => by
  subst hz
  obtain ⟨cs,h1,h2⟩ := hZ E.I E.w
  cases h1 with
  | st h1 =>
   obtain ⟨cs',r1,r2⟩ := hf.fill hR hs (CRs.of_drs h1)
   refine ⟨.agg cs'.toArray,?_,_,.st r1,rfl⟩
   unfold q13 at hpl
   cases hu : P.underlying T with
   | none => simp [hu] at hpl
   | some u =>
    cases u <;> simp only [hu] at hpl <;> try (cases hpl; done)
    rename_i fs
    have hm : ∀ (l : List Field) (q : List (Nat × Nat)),(l.mapM fun f => (szB P f.type).map fun n => (f.offset,n)) = some q →
      (l.mapM fun f => (do pure (f.offset,← sizeOf f.type) : Sem (Nat × Nat))).run P E.w = .ok q E.w := by
     intro l
     induction l with
     | nil => intro q hq; simp at hq; subst hq; rfl
     | cons f l ih =>
      intro q hq
      rw [List.mapM_cons] at hq
      simp only [Option.bind_eq_bind,Option.bind_eq_some_iff,Option.map_eq_some_iff] at hq
      obtain ⟨x,⟨n,hn,rfl⟩,q',hq',hqq⟩ := hq
      cases hqq
      rw [List.mapM_cons]
      simp only [Sem.run_bind,rSO hn,Result.andThen,Sem.run_pure,ih q' hq']
    have hm' := hm fs.toList pl hpl
    simp only [execOp]
    rw [Sem.run_bind]
    unfold Instr.build
    simp only [Sem.run_bind,q55 h2,Result.andThen,run_underlying hu,mkV,D.isAgg,if_true,Value.cells,Array.mapM_eq_mapM_toList,Sem.run_map,hm']
    have e1 : (Array.map (fun x => (x.1,a.eval x.2)) parts.toArray).toList = parts.map fun p => (p.1,a.eval p.2) := by simp
    have e2 : (fun i : Nat => (List.toArray pl)[i]?) = fun i => pl[i]? := by funext i; simp
    rw [e1,e2,r2]
    rfl
end
section
variable {P : Program} {fn : Func} {s : St}
end
end Go.Val
namespace Go.Val
open Go.RowKit
variable [Drw]
section
variable {P : Program} {N : Nat × Nat} {ops : Array Oper} {i : Nat} {s : St} {d : Nat} {ty : TypeId} {pos : String} {af : Array Edge} {g : Option (Nat × Bool)} {gs : List Nat}
theorem qd6 {T e len : Nat} {x z : Operand} {o m : Nat} {k : IntKind} {n : Int} (ho : ops[i]? = some ⟨some d,.indexAddr T x z,ty,pos,af,g⟩) (hd : Nat.ble (d + 1) N.1 = true) (hg : G ops s g gs)
  (hx : s.val x = some (.ptr o m)) (hz : s.val z = some (.d (.v (.int k n)))) (hT : arB P T = some (len,e)) (he : szB P e = some 1) (hn : 0 ≤ n ∧ n < len) :
  Valid P N ops i ⟨gs ++ (opT x ++ opT z),[],some (d,some (.ptr o (m + n.toNat))),[]⟩ s :=
 vPu ho hd hg fun s' hs cx a E hR => by
  obtain ⟨cs,h1,h2⟩ := hR.val ((vAg (qt0 hs).1).trans hx)
  have ez := (hR.val ((vAg (qt0 hs).2).trans hz)).sc
  cases h1 with
  | ptr k1 kb k2 =>
   rename_i b y
   have ex : a.eval x = .pointer (some ⟨b,m,none⟩) := h2
   refine ⟨.pointer (some ⟨b,m + n.toNat,none⟩),?_,_,.ptr k1 kb k2,rfl⟩
   have hu : P.underlying T = some (.array len e) := by
    unfold arB at hT
    cases hq : P.underlying T with
    | none => rw [hq] at hT; cases hT
    | some u =>
     rw [hq] at hT
     cases u <;> simp at hT
     obtain ⟨rfl,rfl⟩ := hT
     rfl
   simp only [execOp,Instr.indexAt,ex,ez]
   simp [asIntOf,run_underlying hu,Instr.sureAddr,Result.andThen,hn,rSO he,q82]
theorem o_ldB {T : TypeId} {x : Operand} {o m j n : Nat} {z : AV} {l : List UInt8} {b : UInt8} (p : List Nat) (ho : ops[i]? = some ⟨some d,.load T x,ty,pos,af,g⟩) (hd : Nat.ble (d + 1) N.1 = true) (hg : G ops s g gs)
  (hx : s.val x = some (.ptr o (m + j))) (hob : s.obj o = some (.box z)) (hp : AV.get p z = some (.d (.bs n l),m)) (hj : l[j]? = some b) (hT : TA P T false 1) :
  Valid P N ops i ⟨gs ++ opT x,[o],some (d,some (.d (.v (.int .u8 (b.toNat : Int))))),[]⟩ s :=
 vCo ho rfl hd hg fun s' hs ho' cx a E _ hR => by
  have hob' : s'.obj o = some (.box z) := (ho' o (by simp)).trans hob
  obtain ⟨cs,h1,h2⟩ := hR.val ((vAg hs).trans hx)
  cases h1 with
  | ptr k1 kb k2 =>
   rename_i bb zz
   obtain ⟨b',zs,e,q1,q2,q3,q4⟩ := hR.objs _ _ hob'
   rw [k2] at q1; cases q1
   obtain ⟨c1,c2,c3,rfl,r2,r3⟩ := get_cr p q2 hp
   have hall : CellsAt E.w bb 0 (c1 ++ (c2 ++ c3)) := caB (sp := []) (by rw [zJ]; exact q4)
   have h6 := hall.right.left
   rw [r2,Nat.zero_add] at h6
   have hc2 : c2 = l.map u8v := by
    cases r3 with
    | d r3 => cases r3 with
     | bs _ => rfl
   subst hc2
   have h7 : CellsAt E.w bb (m + j) [u8v b] := by
    intro i' v hi
    cases i' with
    | zero =>
     simp at hi; subst hi
     exact h6 j (u8v b) (by simp [hj])
    | succ i' => simp at hi
   refine ⟨u8v b,E,?_,⟨[u8v b],.d (.v rfl),rfl⟩,qg3 hR⟩
   simp only [execOp,Instr.loadAt]
   rw [h2,Sem.run_bind,Sem.run_bind]
   simp only [mkV,AV.isAgg,Bool.false_eq_true,if_false,List.headD_cons,Instr.sureAddr,Sem.run_pure,Result.andThen]
   rw [qv1 (agg := false) (cs := [u8v b]) hT h7 (fun _ => rfl)]
   rfl
end
end Go.Val
namespace Go.Val
open Go.RowKit
variable [Drw]
theorem drs_rep {I : Nat → Prop} {w : World} {z : D} {cs : List Value} (h : DR I w z cs) : ∀ n : Nat,DRs I w (List.replicate n z) (List.replicate n cs).flatten
 | 0 => .nil
 | n + 1 => by
  rw [List.replicate_succ,List.replicate_succ,List.flatten_cons]
  exact .cons h (drs_rep h n)
theorem flat_rep {cs : List Value} (h0 : 0 < cs.length) : ∀ (n t : Nat),t < n * cs.length → (List.replicate n cs).flatten[t]? = cs[t % cs.length]?
 | 0,t,h => by omega
 | n + 1,t,h => by
  rw [List.replicate_succ,List.flatten_cons]
  by_cases ht : t < cs.length
  ·rw [List.getElem?_append_left ht,Nat.mod_eq_of_lt ht]
  ·rw [List.getElem?_append_right (by omega),flat_rep h0 n (t - cs.length) (by rw [Nat.succ_mul] at h; omega),Nat.mod_eq_sub_mod (by omega : cs.length ≤ t)]
theorem qX4 {cs : List Value} : ∀ n : Nat,(List.replicate n cs).flatten.length = n * cs.length
 | 0 => by simp
 | n + 1 => by rw [List.replicate_succ,List.flatten_cons,zF,qX4 n,Nat.succ_mul]; omega
theorem qc5 {cs : List Value} (h0 : 0 < cs.length) (n : Nat) : (Builtin.zeroCells cs.toArray n).toList = (List.replicate n cs).flatten := by
 apply List.ext_getElem?
 intro t
 by_cases ht : t < n * cs.length
 ·rw [flat_rep h0 n t ht]
  have hm : t % cs.length < cs.length := Nat.mod_lt _ h0
  simp [Builtin.zeroCells,ht,hm]
 ·rw [List.getElem?_eq_none (by rw [qx4]; simp; omega),List.getElem?_eq_none (by rw [qX4]; omega)]
section
variable {P : Program} {N : Nat × Nat} {ops : Array Oper} {i : Nat} {s : St} {d : Nat} {ty : TypeId} {pos : String} {af : Array Edge} {g : Option (Nat × Bool)} {gs : List Nat}
theorem o_stE {T es n : Nat} {x v : Operand} {o c k : Nat} {rows : List D} {y r : D} (ho : ops[i]? = some ⟨none,.store T x v,ty,pos,af,g⟩) (hg : G ops s g gs)
  (hx : s.val x = some (.pel o c k 0)) (hv : s.val v = some (.d y)) (hob : s.obj o = some (.arr c es rows)) (hr : rows[k]? = some r) (hT : szB P T = some n) (hn : n = es) (hy : y.size = es) :
  Valid P N ops i ⟨gs ++ (opT x ++ opT v),[o],none,[(o,.arr c es (rows.set k y))]⟩ s :=
 qs4 ho rfl hg fun s' hs ho' cx a E _ hR => by
  subst hn
  have hob' : s'.obj o = some (.arr c n rows) := (ho' o (by simp)).trans hob
  obtain ⟨xs,h1,h2⟩ := hR.val ((vAg (qt0 hs).1).trans hx)
  obtain ⟨c2',k1,k2⟩ := hR.val ((vAg (qt0 hs).2).trans hv)
  have hk : k < rows.length := (List.getElem?_eq_some_iff.1 hr).1
  cases k1 with
  | d k1 =>
  cases h1 with
  | pel q1 q2 q3 q4 =>
   rw [hR.obj,hob'] at q1; cases q1
   obtain ⟨b,hb,hvv⟩ := q3 rfl
   subst hvv
   rcases hR.objs _ _ hob' with ⟨p1,p2,_⟩ | ⟨b',cs,sp,e,p1,p2,p3,p4,p5,p6⟩
   ·rw [p2] at hk; simp at hk
   ·rw [hb] at p1; cases p1
    have hcut : rows = rows.take k ++ (r :: rows.drop (k + 1)) := cut_at hr
    have p2' := p2
    rw [hcut] at p2'
    obtain ⟨c1,c23,rfl,t1,t23⟩ := DRs.split _ p2'
    cases t23 with
    | cons t2 t3 =>
     rename_i c2 c3
     have hrs : r.size = n := p3 r (List.mem_of_getElem? hr)
     have l1 : c1.length = k * n := by
      rw [t1.len,qA0 (fun x hx => p3 x (List.mem_of_mem_take hx)),List.length_take,Nat.min_eq_left (Nat.le_of_lt hk)]
     have l2 : c2.length = n := t2.len.trans hrs
     have l2' : c2'.length = n := k1.len.trans hy
     have hblk : E.w.heap[b]? = some (.cells (c1 ++ (c2 ++ (c3 ++ sp))).toArray e (0,0)) := by rw [p4]; simp
     have hrun := run_storeVar (P := P) (T := T) (b := b) (n := k * n) (agg := y.isAgg) (c1 := c1) (c2 := c2) (c3 := c3 ++ sp) (c2' := c2') (by rw [l2']; exact hT) (l2'.trans l2.symm) k1.ones (fun ha => qe3 (E := E) (.d k1) ha) l1 hblk
     have hrow : (E.w.setRow b (c1 ++ (c2' ++ (c3 ++ sp))).toArray).heap[b]? = some (.cells (c1 ++ (c2' ++ (c3 ++ sp))).toArray e (0,0)) := setRow_heap _ _ _ _ _ _ hblk
     have hset : rows.set k y = rows.take k ++ (y :: rows.drop (k + 1)) := set_cut rows k r y hr
     refine ⟨.skip,E.turn o (.arr c n (rows.set k y)) (some b) (E.γ o) [] (E.w.setRow b (c1 ++ (c2' ++ (c3 ++ sp))).toArray),?_,.inl rfl,?_⟩
     ·simp only [execOp,Instr.storeAt]
      have e0 : a.eval x = .pointer (some ⟨b,k * n + 0,none⟩) := h2
      rw [e0,k2]
      simp only [Instr.sureAddr,Sem.run_bind,Sem.run_pure,Result.andThen,Nat.add_zero]
      have : (storeVar T ⟨b,k * n,none⟩ (mkV (AV.d y).isAgg c2')).run P E.w = _ := hrun
      rw [this]
      rfl
     ·refine hR.turn hob' (by simp) (fun q hq => by cases hq; exact .inl hb) (fun q hq hne => setRow_other _ _ _ _ (fun e => hne (by rw [e]; exact hb))) rfl rfl rfl ?_ (fun he => ?_) (fun _ _ e => by cases e)
      ·simp [OExt,Env.turn,Env.new,hb]
      ·refine .inr ⟨b,c1 ++ (c2' ++ c3),sp,e,by simp [Env.turn,Env.new],?_,?_,by simp only [Env.turn,Env.new]; rw [hrow]; simp,?_,?_⟩
       ·have := (t1.mono he.hz he.imm).append (.cons (k1.mono he.hz he.imm) (t3.mono he.hz he.imm))
        rw [← hset] at this
        exact this
       ·intro q hq
        rcases List.mem_or_eq_of_mem_set hq with h | h
        ·exact p3 q h
        ·rw [h]; exact hy
       ·rw [← zI] at p5
        simp only [zF,l2,l2'] at p5 ⊢
        simp only [Env.turn,Env.new,if_true]
        omega
       ·simp only [List.length_set,Env.turn,Env.new,if_true]; exact p6
end
end Go.Val
namespace Go.Val
open Go.RowKit
variable [Drw]
mutual
inductive Pack (s : St) (c : Bool) : AV → OD → List Nat → Prop
 | av {x : AV} (hp : x.plain = true) : Pack s c x (.av x) []
 | st {ps : List AV} {qs : List OD} {K : List Nat} (h : Packs s c ps qs K) : Pack s c (.st ps) (.st qs) K
 | map {k v : Nat} {es : List (D × D)} (h : s.obj k = some (.map v es)) : Pack s c (.map k) (.map es) [k]
 | arr {k v es : Nat} {rows : List D} (h : s.obj k = some (.arr v es rows)) : Pack s c (.arr k v) (.arr es rows) [k]
 | nil {es : Nat} (h : c = true) : Pack s c (.d (.v (.slice none 0 0))) (.arr es []) []
 | box {k : Nat} {x : OD} (h : s.obj k = some (.own x)) : Pack s c (.ptr k 0) (.box x) [k]
inductive Packs (s : St) (c : Bool) : List AV → List OD → List Nat → Prop
 | nil : Packs s c [] [] []
 | cons {x : AV} {y : OD} {xs : List AV} {ys : List OD} {K K' : List Nat} (h : Pack s c x y K) (hs : Packs s c xs ys K') : Packs s c (x :: xs) (y :: ys) (K ++ K')
end
mutual
theorem Pack.live {s : St} {c : Bool} : ∀ {y : AV} {x : OD} {K : List Nat},Pack s c y x K → ∀ k ∈ K,s.obj k ≠ none
 | _,_,_,.av _ => by simp
 | _,_,_,.st h => Packs.live h
 | _,_,_,.map h => by simp [h]
 | _,_,_,.arr h => by simp [h]
 | _,_,_,.nil _ => by simp
 | _,_,_,.box h => by simp [h]
theorem Packs.live {s : St} {c : Bool} : ∀ {y : List AV} {x : List OD} {K : List Nat},Packs s c y x K → ∀ k ∈ K,s.obj k ≠ none
 | _,_,_,.nil => by simp
 | _,_,_,.cons h hs => by
  intro k hk
  rcases zL.1 hk with e | e
  ·exact Pack.live h k e
  ·exact Packs.live hs k e
end
mutual
theorem Pack.odr {cx : Cx} {s : St} {a : Act} {E : Env} (h : R0 cx s a E) : ∀ {y : AV} {x : OD} {K : List Nat} {cs : List Value},Pack s true y x K → K.Nodup → CR E y cs →
  ∃ F,ODR E x cs F ∧ F.Nodup ∧ ∀ b ∈ F,∃ k ∈ K,E.has k b
 | _,_,_,_,.av hp,_,hc => ⟨[],.av hc (hc.ones hp),by simp,by simp⟩
 | _,_,_,_,.st hp,hn,.st hc => by
  obtain ⟨F,h1,h2,h3⟩ := Packs.odr h hp hn hc
  exact ⟨F,.st h1,h2,h3⟩
 | _,_,_,_,.map (k := k) hk,_,.map ho hb => by
  obtain ⟨b,ents,clock,q1,q2,q3,q4,q5,q6,q7,q8⟩ := h.objs _ _ hk
  rw [hb] at q1; cases q1
  exact ⟨[_],.map q2 q3 q4 (by rw [← q5]; exact q6) (by rw [← q5]; exact q7),by simp,fun b' hb' => ⟨k,by simp,by simp at hb'; subst hb'; exact .inl hb⟩⟩
 | _,_,_,_,.arr (k := k) hk,_,.arr ho hl hv h1 => by
  rw [h.obj,hk] at ho; cases ho
  rw [hv rfl]
  rcases h.objs _ _ hk with ⟨q1,q2,q3⟩ | ⟨b,cs,sp,e,q1,q2,q3,q4,q5,q6⟩
  ·rw [q1,q2]; exact ⟨[],.arr0,by simp,by simp⟩
  ·rw [q1]
   exact ⟨[b],.arr q2 q3 q4 q5 q6,by simp,fun b' hb' => ⟨k,by simp,by simp at hb'; subst hb'; exact .inl q1⟩⟩
 | _,_,_,_,.nil _,_,.d hd => by
  cases hd with
  | v _ => exact ⟨[],.arr0,by simp,by simp⟩
 | _,_,_,_,.box (k := k) hk,_,.ptr ho _ hb => by
  obtain ⟨b,cs,e,q1,q2,q3,q4,q5,q6⟩ := h.objs _ _ hk
  rw [hb] at q1; cases q1
  refine ⟨_ :: E.φ k,.box q2 q4,List.nodup_cons.2 ⟨q5,q6⟩,fun b' hb' => ⟨k,by simp,?_⟩⟩
  rcases zM.1 hb' with e | e
  ·subst e; exact .inl hb
  ·exact .inr ⟨e,_,by rw [h.obj]; exact hk⟩
theorem Packs.odr {cx : Cx} {s : St} {a : Act} {E : Env} (h : R0 cx s a E) : ∀ {y : List AV} {x : List OD} {K : List Nat} {cs : List Value},Packs s true y x K → K.Nodup → CRs E y cs →
  ∃ F,ODRs E x cs F ∧ F.Nodup ∧ ∀ b ∈ F,∃ k ∈ K,E.has k b
 | _,_,_,_,.nil,_,.nil => ⟨[],.nil,by simp,by simp⟩
 | _,_,_,_,.cons hp hps,hn,.cons hc hcs => by
  obtain ⟨n1,n2,n3⟩ := List.nodup_append.1 hn
  obtain ⟨F,h1,h2,h3⟩ := Pack.odr h hp n1 hc
  obtain ⟨F',k1,k2,k3⟩ := Packs.odr h hps n2 hcs
  refine ⟨F ++ F',.cons h1 k1,List.nodup_append.2 ⟨h2,k2,fun b hb b' hb' e => ?_⟩,fun b hb => ?_⟩
  ·subst e
   obtain ⟨k,p1,p2⟩ := h3 b hb
   obtain ⟨k',p3,p4⟩ := k3 b hb'
   have := h.inj k k' b (Pack.live hp k p1) (Packs.live hps k' p3) p2 p4
   exact n3 k p1 k' p3 this
  ·rcases zL.1 hb with e | e
   ·obtain ⟨k,p1,p2⟩ := h3 b e; exact ⟨k,by simp [p1],p2⟩
   ·obtain ⟨k,p1,p2⟩ := k3 b e; exact ⟨k,by simp [p1],p2⟩
end
structure Less (E E' : Env) : Prop where
 w : E'.w = E.w
 β : ∀ n,E'.β n = E.β n
 γ : ∀ n,E'.γ n = E.γ n
 δ : ∀ n,E'.δ n = E.δ n
 I : ∀ b,E.I b → E'.I b
 obj : ∀ n ob',E'.obj n = some ob' → ∃ ob,E.obj n = some ob ∧ (ob = ob' ∨ (ob.isB = true ∧ ob'.isB = true))
section
variable {E E' : Env}
theorem Less.dr (h : Less E E') {d : D} {cs : List Value} (hd : DR E.I E.w d cs) : DR E'.I E'.w d cs :=
 hd.mono (by rw [h.w]; exact Nat.le_refl _) (fun b hb _ => ⟨h.I b hb,by rw [h.w]⟩)
theorem Less.drs (h : Less E E') {d : List D} {cs : List Value} (hd : DRs E.I E.w d cs) : DRs E'.I E'.w d cs :=
 hd.mono (by rw [h.w]; exact Nat.le_refl _) (fun b hb _ => ⟨h.I b hb,by rw [h.w]⟩)
theorem Less.at_ (h : Less E E') {n : Nat} (hl : E'.obj n ≠ none) {ob : OB} (ho : E.obj n = some ob) : ∃ ob',E'.obj n = some ob' ∧ (ob = ob' ∨ (ob.isB = true ∧ ob'.isB = true)) := by
 obtain ⟨ob',h1⟩ := Option.ne_none_iff_exists'.1 hl
 obtain ⟨ob2,h2,h3⟩ := h.obj _ _ h1
 rw [ho] at h2; cases h2
 exact ⟨ob',h1,h3⟩
theorem Less.isB (h : Less E E') {n : Nat} (hl : E'.obj n ≠ none) {ob : OB} (ho : E.obj n = some ob) (hb : ob.isB = true) : ∃ ob',E'.obj n = some ob' ∧ ob'.isB = true := by
 obtain ⟨ob',h1,h2 | h2⟩ := h.at_ hl ho
 ·subst h2; exact ⟨_,h1,hb⟩
 ·exact ⟨_,h1,h2.2⟩
theorem Less.same (h : Less E E') {n : Nat} (hl : E'.obj n ≠ none) {ob : OB} (ho : E.obj n = some ob) (hb : ob.isB = false) : E'.obj n = some ob := by
 obtain ⟨ob',h1,h2 | h2⟩ := h.at_ hl ho
 ·subst h2; exact h1
 ·rw [hb] at h2; cases h2.1
mutual
theorem CR.less (h : Less E E') : ∀ {x : AV} {cs : List Value},x.live E'.obj → CR E x cs → CR E' x cs
 | _,_,_,.d k => .d (h.dr k)
 | _,_,hl,.ptr ho hk hb => by
  obtain ⟨ob',h1,h2⟩ := h.isB hl ho hk
  exact .ptr h1 h2 ((h.β _).trans hb)
 | _,_,hl,.arr ho h2 h3 h4 => .arr (h.same hl ho rfl) h2 (fun e => by rw [h.β,h.γ]; exact h3 e) h4
 | _,_,hl,.pel ho h2 h3 h4 => .pel (h.same hl ho rfl) h2 (fun e => by
   obtain ⟨b,q1,q2⟩ := h3 e
   exact ⟨b,(h.β _).trans q1,q2⟩) h4
 | _,_,hl,.asl ho h2 h3 h4 => .asl (h.same hl ho rfl) h2 (fun e => (h3 e).imp id fun ⟨b,c,q1,q2⟩ => ⟨b,c,(h.β _).trans q1,q2⟩) h4
 | _,_,hl,.osl ho h2 h3 h4 => .osl (h.same hl ho rfl) h2 (fun e => (h3 e).imp id fun ⟨b,c,q1,q2⟩ => ⟨b,c,(h.β _).trans q1,q2⟩) h4
 | _,_,hl,.csl ho h2 h3 h4 => .csl (h.same hl ho rfl) h2 (fun e => by rw [h.β,h.γ]; exact h3 e) h4
 | _,_,hl,.map ho hb => .map (h.same hl ho rfl) ((h.β _).trans hb)
 | _,_,hl,.it ho hb => .it (h.same hl ho rfl) ((h.β _).trans hb)
 | _,_,hl,.bsl ho hk hb => by
  obtain ⟨ob',h1,h2⟩ := h.isB hl ho hk
  exact .bsl h1 h2 ((h.β _).trans hb)
 | .st _,_,hl,.st k => .st (CRs.less h (by simpa [AV.live] using hl) k)
 | .tup _,_,hl,.tup k => .tup (VRs.less h (by simpa [AV.live] using hl) k)
 | .fn _ _ _,_,hl,.fn k k' => .fn (VRs.less h (by simp only [AV.live] at hl; exact hl.1) k) (VRs.less h (by simp only [AV.live] at hl; exact hl.2) k')
 | .ifc _ _,_,hl,.ifc k => .ifc (CR.less h (by simpa [AV.live] using hl) k)
 | _,_,_,.sx hI hb hr hs hc => .sx (h.I _ hI) (by rw [h.w]; exact hb) (h.drs hr) hs (by rw [h.w]; exact hc)
theorem CRs.less (h : Less E E') : ∀ {x : List AV} {cs : List Value},AV.lives E'.obj x → CRs E x cs → CRs E' x cs
 | _,_,_,.nil => .nil
 | _ :: _,_,hl,.cons k ks => .cons (CR.less h (by simp only [AV.lives] at hl; exact hl.1) k) (CRs.less h (by simp only [AV.lives] at hl; exact hl.2) ks)
theorem VRs.less (h : Less E E') : ∀ {x : List AV} {cs : List Value},AV.lives E'.obj x → VRs E x cs → VRs E' x cs
 | _,_,_,.nil => .nil
 | _ :: _,_,hl,.cons k ks => .cons (CR.less h (by simp only [AV.lives] at hl; exact hl.1) k) (VRs.less h (by simp only [AV.lives] at hl; exact hl.2) ks)
end
mutual
theorem ODR.less (h : Less E E') : ∀ {x : OD} {cs : List Value} {F : List Nat},x.live E'.obj → ODR E x cs F → ODR E' x cs F
 | .av _,_,_,hl,.av k h1 => .av (CR.less h (by simpa [OD.live] using hl) k) h1
 | .st _,_,_,hl,.st k => .st (ODRs.less h (by simpa [OD.live] using hl) k)
 | _,_,_,_,.map hb hl hm hn ht => by
  refine .map (by rw [h.w]; exact hb) hl (fun i k x ent p1 p2 => ?_) hn ht
  obtain ⟨ck,cx,q1,q2,q3,q4⟩ := hm i k x ent p1 p2
  exact ⟨ck,cx,h.dr q1,h.dr q2,q3,q4⟩
 | _,_,_,_,.arr0 => .arr0
 | _,_,_,_,.arr hr hs hb hl hc => .arr (h.drs hr) hs (by rw [h.w]; exact hb) hl hc
 | .box _,_,_,hl,.box k hb => .box (ODR.less h (by simpa [OD.live] using hl) k) (by rw [h.w]; exact hb)
theorem ODRs.less (h : Less E E') : ∀ {x : List OD} {cs : List Value} {F : List Nat},OD.lives E'.obj x → ODRs E x cs F → ODRs E' x cs F
 | _,_,_,_,.nil => .nil
 | _ :: _,_,_,hl,.cons k ks => .cons (ODR.less h (by simp only [OD.lives] at hl; exact hl.1) k) (ODRs.less h (by simp only [OD.lives] at hl; exact hl.2) ks)
end
theorem OR.less (h : Less E E') {o : Nat} {ob : OB} (hl : ob.live E'.obj) (hφ : E'.φ o = E.φ o) (hor : OR E o ob) : OR E' o ob := by
 cases ob with
 | box x =>
  obtain ⟨b,cs,e,h1,h2,h3,h4⟩ := hor
  exact ⟨b,cs,e,(h.β o).trans h1,CR.less h (by simpa [OB.live] using hl) h2,h3,by rw [h.w]; exact h4⟩
 | own x =>
  obtain ⟨b,cs,e,h1,h2,h3,h4,h5,h6⟩ := hor
  exact ⟨b,cs,e,(h.β o).trans h1,by rw [hφ]; exact ODR.less h (by simpa [OB.live] using hl) h2,h3,by rw [h.w]; exact h4,by rw [hφ]; exact h5,by rw [hφ]; exact h6⟩
 | arr c es rows =>
  rcases hor with ⟨h1,h2,h3⟩ | ⟨b,cs,sp,e,h1,h2,h3,h4,h5,h6⟩
  ·exact .inl ⟨(h.β o).trans h1,h2,(h.γ o).trans h3⟩
  ·exact .inr ⟨b,cs,sp,e,(h.β o).trans h1,h.drs h2,h3,by rw [h.w]; exact h4,by rw [h.γ]; exact h5,by rw [h.γ]; exact h6⟩
 | map v es =>
  obtain ⟨b,ents,clock,h1,h2,h3,h4,h5,h6,h7,h8⟩ := hor
  refine ⟨b,ents,clock,(h.β o).trans h1,by rw [h.w]; exact h2,h3,fun i k x ent p1 p2 => ?_,(h.δ o).trans h5,by rw [h.δ]; exact h6,by rw [h.δ]; exact h7,h8.trans (h.γ o).symm⟩
  obtain ⟨ck,cx,q1,q2,q3,q4⟩ := h4 i k x ent p1 p2
  exact ⟨ck,cx,h.dr q1,h.dr q2,q3,q4⟩
 | iter m v l cu =>
  obtain ⟨b,since,seen,last,h1,h2,h3,c5,e5,h4,h5⟩ := hor
  simp only [OB.live] at hl
  have hm := h.same hl h4 rfl
  refine ⟨b,since,seen,last,(h.β o).trans h1,by rw [h.w,h.β]; exact h2,fun es hes => ?_,c5,e5,hm,h5⟩
  rw [h.δ,h.γ]
  rw [hm] at hes
  exact h3 es (by rw [h4]; exact hes)
end
theorem R0.pack {cx : Cx} {s s' : St} {a : Act} {E : Env} (h : R0 cx s a E) {o : Nat} {y : AV} {x : OD} {K : List Nat} (ho : s.obj o = some (.box y)) (hp : Pack s true y x K) (hK : K.Nodup) (hoK : o ∉ K) (hloc : ∀ k ∈ K,cx.nk.2 ≤ k)
  (hs : ∀ t z,s'.slot t = some z → s.slot t = some z ∧ z.live s'.obj) (hso : s'.obj o = some (.own x)) (hlx : x.live s'.obj) (hsr : ∀ n ob,n ≠ o → s'.obj n = some ob → s.obj n = some ob ∧ ob.live s'.obj)
  (hsK : ∀ k ∈ K,s'.obj k = none) (hdrop : ∀ n,n < cx.nk.2 → s.obj n ≠ none → s'.obj n ≠ none) : ∃ E',E'.w = E.w ∧ R0 cx s' a E' := by
 obtain ⟨b,cs,e,q1,q2,q3,q4⟩ := h.objs _ _ ho
 obtain ⟨F,f1,f2,f3⟩ := Pack.odr h hp hK q2
 have hne : s.obj o ≠ none := by rw [ho]; simp
 have hlive := Pack.live hp
 let E' : Env := { obj := s'.obj,β := E.β,γ := E.γ,δ := E.δ,φ := fun n => if n = o then F else E.φ n,J := E.J,w := E.w }
 have has' : ∀ n bb,s'.obj n ≠ none → E'.has n bb → (n = o ∧ ((E.has o bb) ∨ ∃ k ∈ K,E.has k bb)) ∨ (n ≠ o ∧ s.obj n ≠ none ∧ E.has n bb) := by
  intro n bb hn hb
  by_cases hno : n = o
  ·subst hno
   refine .inl ⟨rfl,?_⟩
   rcases hb with hb | ⟨hb,_⟩
   ·exact .inl (.inl hb)
   ·have hb' : bb ∈ F := by simpa [E'] using hb
    exact .inr (f3 bb hb')
  ·obtain ⟨ob,hob⟩ := Option.ne_none_iff_exists'.1 hn
   obtain ⟨r1,_⟩ := hsr n ob hno hob
   refine .inr ⟨hno,by rw [r1]; simp,?_⟩
   rcases hb with hb | ⟨hb,z,hz⟩
   ·exact .inl hb
   ·have hb' : bb ∈ E.φ n := by simpa [E',hno] using hb
    have hz' : s'.obj n = some (.own z) := hz
    exact .inr ⟨hb',z,by rw [h.obj]; exact (hsr n _ hno hz').1⟩
 have old : ∀ n bb,s'.obj n ≠ none → E'.has n bb → ∃ n',s.obj n' ≠ none ∧ E.has n' bb ∧ (n' = n ∨ (n = o ∧ n' ∈ K)) := by
  intro n bb hn hb
  rcases has' n bb hn hb with ⟨rfl,h1 | ⟨k,h1,h2⟩⟩ | ⟨_,h1,h2⟩
  ·exact ⟨n,hne,h1,.inl rfl⟩
  ·exact ⟨k,hlive k h1,h2,.inr ⟨rfl,h1⟩⟩
  ·exact ⟨n,h1,h2,.inl rfl⟩
 have hless : Less E E' := by
  refine ⟨rfl,fun _ => rfl,fun _ => rfl,fun _ => rfl,fun bb hb => ⟨hb.1,fun n ob hn hbb => ?_⟩,fun n ob' hn => ?_⟩
  ·have hn' : s'.obj n = some ob := hn
   obtain ⟨n',h1,h2,_⟩ := old n bb (by rw [hn']; simp) hbb
   obtain ⟨ob',h3⟩ := Option.ne_none_iff_exists'.1 h1
   exact hb.2 n' ob' (by rw [h.obj]; exact h3) h2
  ·have hn' : s'.obj n = some ob' := hn
   by_cases hno : n = o
   ·subst hno
    rw [hso] at hn'; cases hn'
    exact ⟨_,by rw [h.obj]; exact ho,.inr ⟨rfl,rfl⟩⟩
   ·exact ⟨ob',by rw [h.obj]; exact (hsr n ob' hno hn').1,.inl rfl⟩
 refine ⟨E',rfl,rfl,h.may,h.fresh,h.inK,fun n ob hn => ?_,h.defers,h.size,fun t z hz => ?_,fun n ob hn => ?_,fun n n' bb h1 h2 e1 e2 => ?_,fun n bb h1 e1 => ?_,h.keeps⟩
 ·obtain ⟨ob1,k1,k2⟩ := h.hist n ob hn
  have hlt := h.inK n (by rw [hn]; simp)
  rw [h.obj] at k1
  have hn2 := hdrop n hlt (by rw [k1]; simp)
  obtain ⟨ob',hob'⟩ := Option.ne_none_iff_exists'.1 hn2
  refine ⟨ob',hob',k2.trans (E := E) ?_⟩
  by_cases hno : n = o
  ·subst hno
   rw [hso] at hob'; cases hob'
   rw [ho] at k1; cases k1
   rfl
  ·have := (hsr n ob' hno hob').1
   rw [k1] at this; cases this
   cases ob1 <;> simp [OExt,E']
 ·obtain ⟨h1,h2⟩ := hs t z hz
  obtain ⟨c1,k1,k2⟩ := h.slots t z h1
  exact ⟨c1,k1.less hless h2,k2⟩
 ·by_cases hno : n = o
  ·subst hno
   rw [hso] at hn; cases hn
   refine ⟨b,cs,e,q1,by simp only [E',if_true]; exact ODR.less hless hlx f1,q3,q4,?_,by simp only [E',if_true]; exact f2⟩
   simp only [E',if_true]
   intro hb
   obtain ⟨k,p1,p2⟩ := f3 b hb
   have := h.inj n k b hne (hlive k p1) (.inl q1) p2
   subst this
   exact hoK p1
  ·obtain ⟨h1,h2⟩ := hsr n ob hno hn
   exact OR.less hless h2 (by simp [E',hno]) (h.objs _ _ h1)
 ·obtain ⟨m,p1,p2,p3⟩ := old n bb h1 e1
  obtain ⟨m',r1,r2,r3⟩ := old n' bb h2 e2
  have := h.inj m m' bb p1 r1 p2 r2
  subst this
  have nK : ∀ n,n ∈ K → s'.obj n ≠ none → False := fun n hk hn => hn (hsK n hk)
  rcases p3 with p3 | ⟨p3,p4⟩ <;> rcases r3 with r3 | ⟨r3,r4⟩
  ·rw [← p3,← r3]
  ·subst p3; exact (nK _ r4 h1).elim
  ·subst r3; exact (nK _ p4 h2).elim
  ·rw [p3,r3]
 ·obtain ⟨m,p1,p2,_⟩ := old n bb h1 e1
  exact h.own m bb p1 p2
mutual
theorem ODR.ones {E : Env} : ∀ {x : OD} {cs : List Value} {F : List Nat},ODR E x cs F → ∀ v ∈ cs,one v = true
 | _,_,_,.av _ h => h
 | _,_,_,.st h => ODRs.ones h
 | _,_,_,.map .. => by simp [one]
 | _,_,_,.arr0 => by simp [one]
 | _,_,_,.arr .. => by simp [one]
 | _,_,_,.box .. => by simp [one]
theorem ODRs.ones {E : Env} : ∀ {x : List OD} {cs : List Value} {F : List Nat},ODRs E x cs F → ∀ v ∈ cs,one v = true
 | _,_,_,.nil => by simp
 | _,_,_,.cons h hs => by
  intro v hv
  rcases zL.1 hv with e | e
  ·exact ODR.ones h v e
  ·exact ODRs.ones hs v e
end
structure Born where
 n : Nat
 β : Option Nat
 γ : Nat
 δ : List Nat
 φ : List Nat
def Born.blocks (p : Born) : List Nat := p.β.toList ++ p.φ
def Born.fits (p : Born) (E' : Env) : Prop := E'.β p.n = p.β ∧ E'.γ p.n = p.γ ∧ E'.δ p.n = p.δ ∧ E'.φ p.n = p.φ
mutual
theorem Pack.born {s' : St} {E : Env} : ∀ {y : AV} {x : OD} {K : List Nat} {cs : List Value} {F : List Nat},Pack s' false y x K → F.Nodup → ODR E x cs F →
  ∃ A : List Born,A.map (·.n) = K ∧ A.flatMap Born.blocks = F ∧ ∀ E',Ext E E' → E'.w = E.w → E'.obj = s'.obj → (∀ p ∈ A,p.fits E') → CR E' y cs ∧ ∀ k ∈ K,∃ ob,s'.obj k = some ob ∧ OR E' k ob
 | _,_,_,_,_,.av _,_,.av hc _ => ⟨[],rfl,rfl,fun E' he _ _ _ => ⟨hc.ext he,by simp⟩⟩
 | _,_,_,_,_,.st hp,hn,.st hc => by
  obtain ⟨A,h1,h2,h3⟩ := Packs.born hp hn hc
  exact ⟨A,h1,h2,fun E' q1 q2 q3 q4 => ⟨.st (h3 E' q1 q2 q3 q4).1,(h3 E' q1 q2 q3 q4).2⟩⟩
 | _,_,_,_,_,.map (k := k) hk,_,.map (b := b) (clock := clock) (ents := ents) hb hl hm hn ht => by
  refine ⟨[⟨k,some b,clock,ents.toList.map (·.born),[]⟩],rfl,rfl,fun E' q1 q2 q3 q4 => ?_⟩
  obtain ⟨p1,p2,p3,p4⟩ := q4 ⟨k,some b,clock,ents.toList.map (·.born),[]⟩ (by simp)
  refine ⟨.map (by rw [q3]; exact hk) p1,fun k' hk' => ?_⟩
  simp only [List.mem_singleton] at hk'; subst hk'
  refine ⟨_,hk,b,ents,clock,p1,by rw [q2]; exact hb,hl,fun i kk x ent r1 r2 => ?_,p3,by rw [p3]; exact hn,by rw [p3]; exact ht,p2.symm⟩
  obtain ⟨ck,cx,t1,t2,t3,t4⟩ := hm i kk x ent r1 r2
  exact ⟨ck,cx,t1.mono q1.hz q1.imm,t2.mono q1.hz q1.imm,t3,t4⟩
 | _,_,_,_,_,.arr (k := k) hk,_,.arr0 => by
  refine ⟨[⟨k,none,0,[],[]⟩],rfl,rfl,fun E' q1 q2 q3 q4 => ?_⟩
  obtain ⟨p1,p2,p3,p4⟩ := q4 ⟨k,none,0,[],[]⟩ (by simp)
  refine ⟨.arr (by rw [q3]; exact hk) (Nat.le_refl _) (fun _ => by rw [p1]; rfl) rfl,fun k' hk' => ?_⟩
  simp only [List.mem_singleton] at hk'; subst hk'
  exact ⟨_,hk,.inl ⟨p1,rfl,p2⟩⟩
 | _,_,_,_,_,.arr (k := k) hk,_,.arr (b := b) (cap := cap) hr hs hb hl hc => by
  refine ⟨[⟨k,some b,cap,[],[]⟩],rfl,rfl,fun E' q1 q2 q3 q4 => ?_⟩
  obtain ⟨p1,p2,p3,p4⟩ := q4 ⟨k,some b,cap,[],[]⟩ (by simp)
  refine ⟨.arr (by rw [q3]; exact hk) (Nat.le_refl _) (fun _ => by rw [p1,p2]; rfl) rfl,fun k' hk' => ?_⟩
  simp only [List.mem_singleton] at hk'; subst hk'
  exact ⟨_,hk,.inr ⟨b,_,_,_,p1,hr.mono q1.hz q1.imm,hs,by rw [q2]; exact hb,by rw [p2]; exact hl,by rw [p2]; exact hc⟩⟩
 | _,_,_,_,_,.box (k := k) (x := x) hk,hn,hbx => by
  cases hbx
  rename_i b cs F e hb hx
  obtain ⟨n1,n2⟩ := List.nodup_cons.1 hn
  refine ⟨[⟨k,some b,0,[],F⟩],rfl,by simp [Born.blocks],fun E' q1 q2 q3 q4 => ?_⟩
  obtain ⟨p1,p2,p3,p4⟩ := q4 ⟨k,some b,0,[],F⟩ (by simp)
  refine ⟨.ptr (by rw [q3]; exact hk) rfl p1,fun k' hk' => ?_⟩
  simp only [List.mem_singleton] at hk'; subst hk'
  have hx' := hx.ext q1 (fun bb _ => by rw [q2])
  simp only at p4
  refine ⟨_,hk,b,_,_,p1,by rw [p4]; exact hx',?_,by rw [q2]; exact hb,by rw [p4]; exact n1,by rw [p4]; exact n2⟩
  exact hx.ones
theorem Packs.born {s' : St} {E : Env} : ∀ {y : List AV} {x : List OD} {K : List Nat} {cs : List Value} {F : List Nat},Packs s' false y x K → F.Nodup → ODRs E x cs F →
  ∃ A : List Born,A.map (·.n) = K ∧ A.flatMap Born.blocks = F ∧ ∀ E',Ext E E' → E'.w = E.w → E'.obj = s'.obj → (∀ p ∈ A,p.fits E') → CRs E' y cs ∧ ∀ k ∈ K,∃ ob,s'.obj k = some ob ∧ OR E' k ob
 | _,_,_,_,_,.nil,_,.nil => ⟨[],rfl,rfl,fun _ _ _ _ _ => ⟨.nil,by simp⟩⟩
 | _,_,_,_,_,.cons hp hps,hn,.cons hc hcs => by
  obtain ⟨n1,n2,n3⟩ := List.nodup_append.1 hn
  obtain ⟨A,h1,h2,h3⟩ := Pack.born hp n1 hc
  obtain ⟨A',k1,k2,k3⟩ := Packs.born hps n2 hcs
  refine ⟨A ++ A',by rw [List.map_append,h1,k1],by rw [List.flatMap_append,h2,k2],fun E' q1 q2 q3 q4 => ?_⟩
  obtain ⟨r1,r2⟩ := h3 E' q1 q2 q3 (fun p hp => q4 p (by simp [hp]))
  obtain ⟨t1,t2⟩ := k3 E' q1 q2 q3 (fun p hp => q4 p (by simp [hp]))
  refine ⟨.cons r1 t1,fun k hk => ?_⟩
  rcases zL.1 hk with e | e
  ·exact r2 k e
  ·exact t2 k e
end
theorem blocks_apart : ∀ {A : List Born},(A.flatMap Born.blocks).Nodup → ∀ p ∈ A,∀ q ∈ A,∀ b,b ∈ p.blocks → b ∈ q.blocks → p.n = q.n
 | [],_,p,hp,_,_,_,_,_ => by cases hp
 | a :: A,hn,p,hp,q,hq,b,h1,h2 => by
  simp only [List.flatMap_cons] at hn
  obtain ⟨n1,n2,n3⟩ := List.nodup_append.1 hn
  rcases zM.1 hp with e | e <;> rcases zM.1 hq with e' | e'
  ·rw [e,e']
  ·subst e; exact (n3 b h1 b (List.mem_flatMap.2 ⟨q,e',h2⟩) rfl).elim
  ·subst e'; exact (n3 b h2 b (List.mem_flatMap.2 ⟨p,e,h1⟩) rfl).elim
  ·exact blocks_apart n2 p e q e' b h1 h2
theorem R0.unpack {cx : Cx} {s s' : St} {a : Act} {E : Env} (h : R0 cx s a E) {o : Nat} {y : AV} {x : OD} {K : List Nat} (ho : s.obj o = some (.own x)) (hs : s'.slot = s.slot) (hso : s'.obj o = some (.box y)) (hp : Pack s' false y x K) (hK : K.Nodup)
  (hKn : ∀ k ∈ K,s.obj k = none) (hsr : ∀ n,n ≠ o → n ∉ K → s'.obj n = s.obj n) : ∃ E',E'.w = E.w ∧ R0 cx s' a E' := by
 obtain ⟨b,cs,e,q1,q2,q3,q4,q5,q6⟩ := h.objs _ _ ho
 obtain ⟨A,a1,a2,a3⟩ := Pack.born hp q6 q2
 have hne : s.obj o ≠ none := by rw [ho]; simp
 have hoK : o ∉ K := fun hk => hne (hKn o hk)
 let g : Nat → Option Born := fun n => lk (A.map fun p => (p.n,p)) n
 have gk : ∀ n p,g n = some p → p ∈ A ∧ p.n = n ∧ n ∈ K := by
  intro n p hg
  have := q61 hg
  obtain ⟨p',h1,h2⟩ := List.mem_map.1 this
  cases h2
  exact ⟨h1,rfl,by rw [← a1]; exact List.mem_map.2 ⟨_,h1,rfl⟩⟩
 have gp : ∀ p ∈ A,g p.n = some p := by
  intro p hp
  refine qx5 ?_ (List.mem_map.2 ⟨p,hp,rfl⟩)
  rw [List.map_map]
  show (A.map (·.n)).Nodup
  rw [a1]; exact hK
 have g0 : ∀ n,n ∉ K → g n = none := by
  intro n hn
  cases hg : g n with
  | none => rfl
  | some p => exact absurd (gk n p hg).2.2 hn
 let E' : Env := { obj := s'.obj,β := fun n => match g n with | some p => p.β | none => E.β n,γ := fun n => match g n with | some p => p.γ | none => E.γ n,δ := fun n => match g n with | some p => p.δ | none => E.δ n,φ := fun n => match g n with | some p => p.φ | none => E.φ n,J := E.J,w := E.w }
 have eA : ∀ n p,g n = some p → E'.β n = p.β ∧ E'.γ n = p.γ ∧ E'.δ n = p.δ ∧ E'.φ n = p.φ := fun n p hg => by simp only [E',hg]; exact ⟨tV,tV,tV,tV⟩
 have e0 : ∀ n,n ∉ K → E'.β n = E.β n ∧ E'.γ n = E.γ n ∧ E'.δ n = E.δ n ∧ E'.φ n = E.φ n := fun n hn => by simp only [E',g0 n hn]; exact ⟨tV,tV,tV,tV⟩
 have hasA : ∀ n bb p,g n = some p → E'.has n bb → bb ∈ p.blocks := by
  intro n bb p hg hb
  obtain ⟨p1,_,_,p4⟩ := eA n p hg
  rcases hb with hb | ⟨hb,_⟩
  ·rw [p1] at hb; simp [Born.blocks,hb]
  ·rw [p4] at hb; simp [Born.blocks,hb]
 have inF : ∀ p ∈ A,∀ bb ∈ p.blocks,E.has o bb := by
  intro p hp bb hb
  refine .inr ⟨?_,x,by rw [h.obj]; exact ho⟩
  rw [← a2]
  exact List.mem_flatMap.2 ⟨p,hp,hb⟩
 have has0 : ∀ n bb,n ∉ K → n ≠ o → E'.has n bb → E.has n bb := by
  intro n bb hn hno hb
  obtain ⟨p1,_,_,p4⟩ := e0 n hn
  rcases hb with hb | ⟨hb,z,hz⟩
  ·exact .inl (p1.symm.trans hb)
  ·have hz' : s'.obj n = some (.own z) := hz
   exact .inr ⟨by rw [← p4]; exact hb,z,by rw [h.obj,← hsr n hno hn]; exact hz'⟩
 have haso : ∀ bb,E'.has o bb → E.β o = some bb := by
  intro bb hb
  have hb' := Env.has_of (E := E') (ob := .box y) hso rfl hb
  rw [(e0 o hoK).1] at hb'
  exact hb'
 have old : ∀ n bb,s'.obj n ≠ none → E'.has n bb → ∃ n',s.obj n' ≠ none ∧ E.has n' bb ∧ (n' = n ∨ (n' = o ∧ n ∈ K)) := by
  intro n bb hn hb
  cases hg : g n with
  | some p =>
   obtain ⟨h1,h2,h3⟩ := gk n p hg
   exact ⟨o,hne,inF p h1 bb (hasA n bb p hg hb),.inr ⟨rfl,h3⟩⟩
  | none =>
   have hnK : n ∉ K := by
    intro hk
    rw [← a1] at hk
    obtain ⟨p,h1,h2⟩ := List.mem_map.1 hk
    have := gp p h1
    rw [h2,hg] at this; cases this
   by_cases hno : n = o
   ·subst hno; exact ⟨n,hne,.inl (haso bb hb),.inl rfl⟩
   ·exact ⟨n,by rw [← hsr n hno hnK]; exact hn,has0 n bb hnK hno hb,.inl rfl⟩
 have hext : Ext E E' := by
  refine ⟨Nat.le_refl _,fun bb hb _ => ⟨⟨hb.1,fun n ob hn hbb => ?_⟩,rfl⟩,fun n ob hn => ?_⟩
  ·have hn' : s'.obj n = some ob := hn
   obtain ⟨n',h1,h2,_⟩ := old n bb (by rw [hn']; simp) hbb
   obtain ⟨ob',h3⟩ := Option.ne_none_iff_exists'.1 h1
   exact hb.2 n' ob' (by rw [h.obj]; exact h3) h2
  ·rw [h.obj] at hn
   have hnK : n ∉ K := fun hk => by rw [hKn n hk] at hn; cases hn
   obtain ⟨p1,p2,p3,p4⟩ := e0 n hnK
   by_cases hno : n = o
   ·subst hno
    rw [ho] at hn; cases hn
    exact ⟨_,hso,p1⟩
   ·refine ⟨ob,(hsr n hno hnK).trans hn,?_⟩
    cases ob <;> first | exact p1 | exact ⟨Nat.le_refl _,fun _ => ⟨p1,p2,rfl,rfl⟩⟩ | exact ⟨p1,Nat.le_refl _,fun _ => ⟨rfl,p3,p2⟩⟩
 obtain ⟨c1,c2⟩ := a3 E' hext rfl rfl (fun p hp => eA p.n p (gp p hp))
 refine ⟨E',rfl,h.trans hext rfl hs rfl (fun n ob hn => ?_) (fun n n' bb h1 h2 e1 e2 => ?_) (fun n bb h1 e1 => ?_) h.keeps⟩
 ·by_cases hnK : n ∈ K
  ·obtain ⟨ob',h1,h2⟩ := c2 n hnK
   rw [hn] at h1; cases h1
   exact h2
  ·obtain ⟨p1,p2,p3,p4⟩ := e0 n hnK
   by_cases hno : n = o
   ·subst hno
    rw [hso] at hn; cases hn
    exact ⟨b,cs,e,p1.trans q1,c1,q3,q4⟩
   ·have hn' : s.obj n = some ob := by rw [← hsr n hno hnK]; exact hn
    refine (h.objs _ _ hn').ext hext (by rw [h.obj]; exact hn') p1 p2 p3 p4 (fun _ _ => rfl) (fun m ver l cu e' => ?_)
    subst e'
    obtain ⟨_,_,_,_,_,_,_,cur,es,hm,hle⟩ := h.objs _ _ hn'
    have hm' : s.obj m = some (.map cur es) := by rw [← h.obj]; exact hm
    have hmK : m ∉ K := fun hk => by rw [hKn m hk] at hm'; cases hm'
    have hmo : m ≠ o := fun e => by subst e; rw [ho] at hm'; cases hm'
    obtain ⟨r1,r2,r3,r4⟩ := e0 m hmK
    refine ⟨r1,fun es' hes => ⟨?_,r3,r2⟩,fun ⟨cur',es',h5,h6⟩ => ⟨cur',es',?_,h6⟩⟩
    ·have : s'.obj m = some (.map ver es') := hes
     rw [h.obj,← hsr m hmo hmK]; exact this
    ·show s'.obj m = _
     rw [hsr m hmo hmK,← h.obj]; exact h5
 ·obtain ⟨m,p1,p2,p3⟩ := old n bb h1 e1
  obtain ⟨m',r1,r2,r3⟩ := old n' bb h2 e2
  have hmm := h.inj m m' bb p1 r1 p2 r2
  subst hmm
  have key : ∀ n,n ∈ K → ∃ p,g n = some p := by
   intro n hk
   rw [← a1] at hk
   obtain ⟨p,h1,h2⟩ := List.mem_map.1 hk
   exact ⟨p,by rw [← h2]; exact gp p h1⟩
  have oo : ∀ n,n ∈ K → E'.has n bb → E'.has o bb → False := by
   intro n hk e1 e2
   obtain ⟨p,hg⟩ := key n hk
   have h3 := haso bb e2
   rw [q1] at h3; cases h3
   have h4 := hasA n b p hg e1
   refine q5 ?_
   rw [← a2]
   exact List.mem_flatMap.2 ⟨p,(gk n p hg).1,h4⟩
  rcases p3 with p3 | ⟨p3,p4⟩ <;> rcases r3 with r3 | ⟨r3,r4⟩
  ·rw [← p3,← r3]
  ·subst p3; subst r3; exact (oo _ r4 e2 e1).elim
  ·subst p3; subst r3; exact (oo _ p4 e1 e2).elim
  ·obtain ⟨p,hg⟩ := key n p4
   obtain ⟨p',hg'⟩ := key n' r4
   obtain ⟨u1,u2,_⟩ := gk n p hg
   obtain ⟨w1,w2,_⟩ := gk n' p' hg'
   have := blocks_apart (by rw [a2]; exact q6) p u1 p' w1 bb (hasA n bb p hg e1) (hasA n' bb p' hg' e2)
   rw [← u2,← w2,this]
 ·obtain ⟨m,p1,p2,_⟩ := old n bb h1 e1
  exact h.own m bb p1 p2
mutual
def AV.dat : AV → Prop
 | .d _ => True
 | .st ps => AV.dats ps
 | .tup ps => AV.dats ps
 | .fn _ p q => AV.dats p ∧ AV.dats q
 | .ifc _ x => x.dat
 | .sx _ _ => True
 | _ => False
def AV.dats : List AV → Prop
 | [] => True
 | x :: xs => x.dat ∧ AV.dats xs
end
mutual
def OD.dat : OD → Prop
 | .av x => x.dat
 | .st ps => OD.dats ps
 | .box x => x.dat
 | _ => True
def OD.dats : List OD → Prop
 | [] => True
 | x :: xs => x.dat ∧ OD.dats xs
end
mutual
theorem AV.dat_live {f : Nat → Option OB} : ∀ {x : AV},x.dat → x.live f
 | .d _,_ => trivial
 | .st _,h => by simp only [AV.live]; exact AV.dats_live (by simpa [AV.dat] using h)
 | .tup _,h => by simp only [AV.live]; exact AV.dats_live (by simpa [AV.dat] using h)
 | .fn _ _ _,h => by simp only [AV.live]; simp only [AV.dat] at h; exact ⟨AV.dats_live h.1,AV.dats_live h.2⟩
 | .ifc _ _,h => by simp only [AV.live]; exact AV.dat_live (by simpa [AV.dat] using h)
 | .sx _ _,_ => trivial
 | .ptr _ _,h => h.elim
 | .arr _ _,h => h.elim
 | .pel _ _ _ _,h => h.elim
 | .asl _ _ _,h => h.elim
 | .osl _ _ _ _,h => h.elim
 | .csl _ _ _ _,h => h.elim
 | .map _,h => h.elim
 | .it _,h => h.elim
 | .bsl _ _ _ _,h => h.elim
theorem AV.dats_live {f : Nat → Option OB} : ∀ {x : List AV},AV.dats x → AV.lives f x
 | [],_ => trivial
 | _ :: _,h => by simp only [AV.dats] at h; exact ⟨AV.dat_live h.1,AV.dats_live h.2⟩
end
mutual
theorem OD.dat_live {f : Nat → Option OB} : ∀ {x : OD},x.dat → x.live f
 | .av _,h => by simp only [OD.live]; exact AV.dat_live (by simpa [OD.dat] using h)
 | .st _,h => by simp only [OD.live]; exact OD.dats_live (by simpa [OD.dat] using h)
 | .box _,h => by simp only [OD.live]; exact OD.dat_live (by simpa [OD.dat] using h)
 | .map _,_ => trivial
 | .arr _ _,_ => trivial
theorem OD.dats_live {f : Nat → Option OB} : ∀ {x : List OD},OD.dats x → OD.lives f x
 | [],_ => trivial
 | _ :: _,h => by simp only [OD.dats] at h; exact ⟨OD.dat_live h.1,OD.dats_live h.2⟩
end
mutual
theorem Conv.dat {s s' : St} : ∀ {x : AV},x.dat → Conv s s' x x
 | .d _,_ => .d rfl
 | .st _,h => .st (Convs.dat (by simpa [AV.dat] using h))
 | .tup _,h => .tup (Convs.dat (by simpa [AV.dat] using h))
 | .fn _ _ _,h => by simp only [AV.dat] at h; exact .fn (Convs.dat h.1) (Convs.dat h.2)
 | .ifc _ _,h => .ifc (Conv.dat (by simpa [AV.dat] using h))
 | .sx _ _,_ => .sx rfl
 | .ptr _ _,h => h.elim
 | .arr _ _,h => h.elim
 | .pel _ _ _ _,h => h.elim
 | .asl _ _ _,h => h.elim
 | .osl _ _ _ _,h => h.elim
 | .csl _ _ _ _,h => h.elim
 | .map _,h => h.elim
 | .it _,h => h.elim
 | .bsl _ _ _ _,h => h.elim
theorem Convs.dat {s s' : St} : ∀ {x : List AV},AV.dats x → Convs s s' x x
 | [],_ => .nil
 | _ :: _,h => by simp only [AV.dats] at h; exact .cons (Conv.dat h.1) (Convs.dat h.2)
end
mutual
theorem ODC.dat {s s' : St} : ∀ {x : OD},x.dat → ODC s s' x x
 | .av _,h => .av (Conv.dat (by simpa [OD.dat] using h))
 | .st _,h => .st (ODCs.dat (by simpa [OD.dat] using h))
 | .box _,h => .box (ODC.dat (by simpa [OD.dat] using h))
 | .map _,_ => .map rfl
 | .arr _ _,_ => .arr rfl
theorem ODCs.dat {s s' : St} : ∀ {x : List OD},OD.dats x → ODCs s s' x x
 | [],_ => .nil
 | _ :: _,h => by simp only [OD.dats] at h; exact .cons (ODC.dat h.1) (ODCs.dat h.2)
end
theorem ODC.of_eq {s s' : St} {x x' : OD} (h : x = x') (hd : x.dat) : ODC s s' x x' := by subst h; exact ODC.dat hd
theorem Hand.a {s : St} {oin : Nat → Option OB} {σ : Nat → Nat} {o k v : Nat} (h : σ o = k) : Hand s oin σ (.arr k v) (.arr o v) false [] := by subst h; exact .same (y := .arr o v)
theorem Hand.i {s : St} {oin : Nat → Option OB} {σ : Nat → Nat} {t : Nat} {x : D} : Hand s oin σ (.ifc t (.d x)) (.ifc t (.d x)) false [] := .same (y := .ifc t (.d x))
def nodupB : List Nat → Bool
 | [] => true
 | k :: K => !(K.any fun n => Nat.beq n k) && nodupB K
theorem qp3 : ∀ {K : List Nat},nodupB K = true → K.Nodup
 | [],_ => List.nodup_nil
 | k :: K,h => by
  simp only [nodupB,Bool.and_eq_true,Bool.not_eq_true'] at h
  refine List.nodup_cons.2 ⟨fun hk => ?_,qp3 h.2⟩
  have := List.any_eq_false.1 h.1 k hk
  simp at this
def noneAll (f : Nat → Option OB) : List Nat → Prop
 | [] => True
 | k :: K => f k = none ∧ noneAll f K
theorem qF4 {f : Nat → Option OB} : ∀ {K : List Nat},noneAll f K → ∀ k ∈ K,f k = none
 | _ :: _,h,k,hk => by
  rcases zM.1 hk with e | e
  ·subst e; exact h.1
  ·exact qF4 h.2 k e
def pkS (s : St) (f : Nat → Option OB) : List (Nat × AV) → Prop
 | [] => True
 | (t,z) :: l => (s.slot t = some z ∧ z.live f) ∧ pkS s f l
def pkO (s : St) (o : Nat) (f : Nat → Option OB) : List (Nat × OB) → Prop
 | [] => True
 | (n,ob) :: l => (n = o ∨ (s.obj n = some ob ∧ ob.live f)) ∧ pkO s o f l
theorem pkS_mem {s : St} {f : Nat → Option OB} {t : Nat} {z : AV} : ∀ {l : List (Nat × AV)},pkS s f l → (t,z) ∈ l → s.slot t = some z ∧ z.live f
 | _ :: _,h,hm => by
  rcases zM.1 hm with e | e
  ·cases e; exact h.1
  ·exact pkS_mem h.2 e
theorem pkO_mem {s : St} {o : Nat} {f : Nat → Option OB} {n : Nat} {ob : OB} : ∀ {l : List (Nat × OB)},pkO s o f l → (n,ob) ∈ l → n = o ∨ (s.obj n = some ob ∧ ob.live f)
 | _ :: _,h,hm => by
  rcases zM.1 hm with e | e
  ·cases e; exact h.1
  ·exact pkO_mem h.2 e
theorem lOp {N : Nat × Nat} {s : St} {o : Nat} {y : AV} {x : OD} {news : List (Nat × OB)} {K : List Nat} (ho : s.obj o = some (.own x)) (hp0 : Pack ⟨s.slot,q52 s.obj ((o,.box y) :: news)⟩ false y x K) (hKe : K = news.map (·.1))
  (hK0 : nodupB (o :: news.map (·.1)) = true) (hn : noneAll s.obj (news.map (·.1))) : Leads N s ⟨s.slot,q52 s.obj ((o,.box y) :: news)⟩ := by
 intro cx a w hnk hR
 obtain ⟨E,rfl,hR0⟩ := hR
 obtain ⟨n1,n2⟩ := List.nodup_cons.1 (qp3 hK0)
 have hp := hp0
 rw [hKe] at hp
 obtain ⟨E',h1,h2⟩ := hR0.unpack (s' := ⟨s.slot,q52 s.obj ((o,.box y) :: news)⟩) ho rfl (by simp only [q52]; rw [q54 n1,qf1,if_pos rfl]) hp n2 (qF4 hn) (fun n h1 h2 => by
  simp only [q52]
  rw [q54 h2,qf1,if_neg h1])
 exact ⟨E',h1,h2⟩
theorem lPk {N : Nat × Nat} {s : St} {o : Nat} {y : AV} {x : OD} {K : List Nat} {l : List (Nat × AV)} {m : List (Nat × OB)} (ho : s.obj o = some (.box y)) (hp : Pack s true y x K) (hK0 : nodupB (o :: K) = true) (hloc : K.all (fun k => Nat.ble N.2 k) = true)
  (hs : pkS s (lk m) l) (hm : pkO s o (lk m) m) (hso : lk m o = some (.own x)) (hlx : x.live (lk m)) (hsK : noneAll (lk m) K) (hdrop : ∀ n,n < N.2 → s.obj n ≠ none → lk m n ≠ none) : Leads N s (.of l m) := by
 intro cx a w hnk hR
 obtain ⟨E,rfl,hR0⟩ := hR
 obtain ⟨n1,n2⟩ := List.nodup_cons.1 (qp3 hK0)
 subst hnk
 obtain ⟨E',h1,h2⟩ := hR0.pack (s' := .of l m) ho hp n2 n1 (fun k hk => Nat.le_of_ble_eq_true (List.all_eq_true.1 hloc k hk)) (fun t z hz => pkS_mem hs (q61 hz)) hso hlx (fun n ob hn hob => by
  rcases pkO_mem hm (q61 hob) with e | e
  ·exact absurd e hn
  ·exact e) (qF4 hsK) hdrop
 exact ⟨E',h1,h2⟩
end Go.Val
namespace Go.Val
open Go.RowKit
variable [Drw]
section
variable {P : Program} {N : Nat × Nat} {s : St}
theorem eqIn_snil {T e : TypeId} (hT : P.underlying T = some (.slice e)) (dd : Nat) (a : Option Addr) (n c : Nat) (w : World) : (Op.equalIn (dd + 1) T (.slice a n c) (.slice none 0 0)).run P w = .ok a.isNone w := by
 cases a <;> simp [Op.equalIn,run_underlying hT,Result.andThen]
theorem sl_nil {I : Nat → Prop} {w : World} {es : Nat} {rows : List D} {cs : List Value} (h : DR I w (.sl es rows) cs) : ∃ a n c,cs = [.slice a n c] ∧ (a.isNone = true → rows = []) := by
 cases h with
 | sl0 => exact ⟨_,_,_,rfl,fun _ => rfl⟩
 | sl h1 h2 h3 h4 h5 h6 => exact ⟨_,_,_,rfl,fun h => by simp at h⟩
def StepA (P : Program) (N : Nat × Nat) (ops : Array Oper) (i : Nat) (K : St → Prop) (s : St) : Prop := ∃ o,ops[i]? = some o ∧ ∀ (Q : Exit → Act → World → Prop) (cx : Cx) (a : Act) (w : World),cx.nk = N → R cx s a w →
 if Region.wanted o (yielded ops a.tmps) then o.wp P a w (fun a' w' => ∃ s',K s' ∧ R cx s' a' w') Q else ∃ s',K s' ∧ R cx s' (a.put o.dst undef) w
inductive ChainA (P : Program) (N : Nat × Nat) (ops : Array Oper) (Φ : St → Prop) : Nat → St → Prop
 | nil {n : Nat} {s : St} (h : Nat.beq ops.size n = true) (hΦ : Φ s) : ChainA P N ops Φ n s
 | cons {n : Nat} {s : St} {r : SR} (hv : Valid P N ops n r s) (hs : ChainA P N ops Φ (n + 1) (r.apply s)) : ChainA P N ops Φ n s
 | any {n : Nat} {s : St} {K : St → Prop} (hv : StepA P N ops n K s) (hs : ∀ s',K s' → ChainA P N ops Φ (n + 1) s') : ChainA P N ops Φ n s
theorem wpOp_of_stepA {ops : Array Oper} {i : Nat} {M : St → Prop} {Q : Exit → Act → World → Prop} {cx : Cx} {a : Act} {w : World} {K : Act → World → Prop}
  (hn : cx.nk = N) (hv : StepA P N ops i M s) (hR : R cx s a w) (hK : ∀ s' a w,M s' → R cx s' a w → K a w) : wpOp P ops Q i K a w := by
 obtain ⟨o,ho,hv⟩ := hv
 have := hv Q cx a w hn hR
 unfold wpOp
 simp only [ho]
 split
 ·rename_i hw
  simp only [hw,if_true] at this
  exact .inl (Oper.wp_mono (fun a' w' ⟨s',h1,h2⟩ => hK s' a' w' h1 h2) this)
 ·rename_i hw
  simp only [hw] at this
  obtain ⟨s',h1,h2⟩ := this
  exact hK _ _ _ h1 h2
theorem chainA_ops {ops : Array Oper} {Φ : St → Prop} {Q : Exit → Act → World → Prop} {cx : Cx} (hn : cx.nk = N) (hQ : ∀ s' a w,Φ s' → R cx s' a w → Q .normal a w) : ∀ {n : Nat} {s : St},ChainA P N ops Φ n s → ∀ (a : Act) (w : World),R cx s a w → wpOps P ops Q (List.range' n (ops.size - n)) a w := by
 have cut : ∀ n,n < ops.size → List.range' n (ops.size - n) = n :: List.range' (n + 1) (ops.size - (n + 1)) := by
  intro n h
  rw [show ops.size - n = (ops.size - (n + 1)) + 1 from by omega,List.range'_succ]
 intro n s c
 induction c with
 | nil h hΦ =>
  intro a w hR
  rename_i n s
  have := Nat.eq_of_beq_eq_true h
  subst this
  simp only [Nat.sub_self]
  exact hQ _ _ _ hΦ hR
 | cons hv hs ih =>
  intro a w hR
  rename_i n s r
  have hlt : n < ops.size := by obtain ⟨o,ho,_⟩ := hv; exact (Array.getElem?_eq_some_iff.1 ho).1
  rw [cut n hlt,wpOps_cons]
  exact qk4 hn hv hR (fun a' w' hR' => ih a' w' hR')
 | any hv hs ih =>
  intro a w hR
  rename_i n s K
  have hlt : n < ops.size := by obtain ⟨o,ho,_⟩ := hv; exact (Array.getElem?_eq_some_iff.1 ho).1
  rw [cut n hlt,wpOps_cons]
  exact wpOp_of_stepA hn hv hR (fun s' a' w' h1 hR' => ih s' h1 a' w' hR')
theorem qN3 {id : Nat} {ops : Array Oper} {Q : Exit → St → Prop} (c : ChainA P N ops (Q .normal) 0 s) : CWp P N (.region id ops false) Q s := by
 intro cx a w hn hR
 refine wp_region ?_
 rw [List.range_eq_range']
 exact chainA_ops hn (fun s' a w hΦ hR' => ⟨s',hΦ,hR'⟩) c a w hR
theorem a_nilq {ops : Array Oper} {i d : Nat} {ty T T' e es : Nat} {pos : String} {af : Array Edge} {x : Operand} {rows : List D} (ho : ops[i]? = some ⟨some d,.binOp .eql T x (.const (.slice none 0 0)) T',ty,pos,af,none⟩) (hd : Nat.ble (d + 1) N.1 = true)
  (hx : s.val x = some (.d (.sl es rows))) (hT : slB P T = some e) : StepA P N ops i (fun s' => ∃ b : Bool,(b = true → rows = []) ∧ s' = s.put d (.d (.v (.bool b)))) s := by
 refine ⟨_,ho,fun Q cx a w hn hR => ?_⟩
 obtain ⟨E,rfl,hR0⟩ := hR
 rw [if_pos ((G.no (ops := ops) (s := s)).wanted (fun _ h => by cases h) hR0)]
 obtain ⟨cs,h1,h2⟩ := hR0.val hx
 cases h1 with
 | d h1 =>
  obtain ⟨ad,n,c,rfl,h3⟩ := sl_nil h1
  have h4 : a.eval x = .slice ad n c := h2
  have hq : ∀ w,(Op.equalIn Op.maxDepth T (.slice ad n c) (.slice none 0 0)).run P w = .ok ad.isNone w := fun w => eqIn_snil (qa0 hT) 9999 ad n c w
  have hrun : (execOp a.eval ⟨some d,.binOp .eql T x (.const (.slice none 0 0)) T',ty,pos,af,none⟩).run P E.w = .ok (.value (.bool ad.isNone)) E.w := by
   simp only [execOp,h4]
   simp [eqGuard,binOp,Op.equal,hq,Act.eval,Result.andThen]
  unfold Oper.wp
  rw [hrun,Oper.upon_value]
  exact ⟨_,⟨ad.isNone,h3,rfl⟩,E,rfl,hR0.put (.of_sc rfl) (by rw [hn]; exact Nat.le_of_ble_eq_true hd)⟩
end
section
variable {P : Program} {N : Nat × Nat} {ops : Array Oper} {i : Nat} {s : St} {d : Nat} {ty : TypeId} {pos : String} {af : Array Edge} {g : Option (Nat × Bool)} {gs : List Nat} {α : Type} {enc : α → D} {xs : List α}
theorem q76 {T es n : Nat} {x v : Operand} {o c k : Nat} {y r : α} (ho : ops[i]? = some ⟨none,.store T x v,ty,pos,af,g⟩) (hg : G ops s g gs)
  (hx : s.val x = some (.pel o c k 0)) (hv : s.val v = some (.d (enc y))) (hob : s.obj o = some (.arr c es (xs.map enc))) (hr : xs[k]? = some r) (hT : szB P T = some n) (hn : n = es) (hy : (enc y).size = es) :
  Valid P N ops i ⟨gs ++ (opT x ++ opT v),[o],none,[(o,.arr c es ((xs.set k y).map enc))]⟩ s := by
 rw [List.map_set]
 exact o_stE (r := enc r) ho hg hx hv hob (by simp [hr]) hT hn hy
end
end Go.Val
namespace Go.Val
open Go.RowKit
variable [Drw]
theorem map_inj_mem {α : Type} {g : α → Nat} : ∀ {l : List α},(l.map g).Nodup → ∀ {x y : α},x ∈ l → y ∈ l → g x = g y → x = y
 | [],_,x,y,hx,_,_ => by simp at hx
 | a :: l,h,x,y,hx,hy,e => by
  simp only [List.map_cons,List.nodup_cons] at h
  rcases zM.1 hx with e1 | hx1
  ·rcases zM.1 hy with e2 | hy1
   ·rw [e1,e2]
   ·exact absurd (List.mem_map.2 ⟨y,hy1,by rw [← e,e1]⟩) h.1
  ·rcases zM.1 hy with e2 | hy1
   ·exact absurd (List.mem_map.2 ⟨x,hx1,by rw [e,e2]⟩) h.1
   ·exact map_inj_mem h.2 hx1 hy1 e
end Go.Val
namespace Go.Val
open Go.RowKit
variable [Drw]
theorem Hand.ip {s : St} {oin : Nat → Option OB} {σ : Nat → Nat} {t o n k : Nat} (h : σ o = k) : Hand s oin σ (.ifc t (.ptr k n)) (.ifc t (.ptr o n)) false [] := by subst h; exact .same (y := .ifc t (.ptr o n))
section
variable {P : Program} {N : Nat × Nat} {ops : Array Oper} {i : Nat} {s : St} {d : Nat} {ty : TypeId} {pos : String} {af : Array Edge} {g : Option (Nat × Bool)} {gs : List Nat}
end
end Go.Val
namespace Go.Val
open Go.RowKit
section
variable [Drw]
section
variable {F : Fence} {n : Nat} {P : Program} {ops : Array Oper} {Q : Exit → Act → World → Prop} {rest : List Nat} {i : Nat} {a : Act} {w w' : World} {o : Oper}
end
end
end Go.Val
namespace Go.Val
open Go.RowKit
variable [Drw]
end Go.Val
namespace Go.Val
open Go.Lib
theorem cb_refl : ∀ a : List UInt8,compareBytes a a = 0
 | [] => rfl
 | x :: a => by
  have : ¬ x < x := UInt8.lt_irrefl x
  simp [compareBytes,this,cb_refl a]
theorem q36 : ∀ a b : List UInt8,compareBytes b a = - compareBytes a b
 | [],[] => rfl
 | [],_ :: _ => rfl
 | _ :: _,[] => rfl
 | x :: a,y :: b => by
  simp only [compareBytes]
  by_cases h1 : x < y
  ·have h2 : ¬ y < x := UInt8.lt_asymm h1
   simp [h1,h2]
  ·by_cases h2 : y < x
   ·simp [h1,h2]
   ·simp [h1,h2,q36 a b]
theorem cb_eq : ∀ {a b : List UInt8},compareBytes a b = 0 → a = b
 | [],[],_ => rfl
 | [],_ :: _,h => by simp [compareBytes] at h
 | _ :: _,[],h => by simp [compareBytes] at h
 | x :: a,y :: b,h => by
  simp only [compareBytes] at h
  by_cases h1 : x < y
  ·simp [h1] at h
  ·by_cases h2 : y < x
   ·simp [h1,h2] at h
   ·simp only [h1,h2,if_false] at h
    have hx : x = y := by
     have := UInt8.le_antisymm (UInt8.not_lt.1 h2) (UInt8.not_lt.1 h1)
     exact this
    rw [hx,cb_eq h]
theorem cb_trans : ∀ {a b c : List UInt8},compareBytes a b < 0 → compareBytes b c < 0 → compareBytes a c < 0
 | [],[],_,h,_ => by simp [compareBytes] at h
 | [],_ :: _,[],_,h => by simp [compareBytes] at h
 | [],_ :: _,_ :: _,_,_ => by simp [compareBytes]
 | _ :: _,[],_,h,_ => by simp [compareBytes] at h
 | _ :: _,_ :: _,[],_,h => by simp [compareBytes] at h
 | x :: a,y :: b,z :: c,h,k => by
  simp only [compareBytes] at h k ⊢
  by_cases h1 : x < y
  ·by_cases k1 : y < z
   ·simp [UInt8.lt_trans h1 k1]
   ·by_cases k2 : z < y
    ·simp [k1,k2] at k
    ·have hz : y = z := UInt8.le_antisymm (UInt8.not_lt.1 k2) (UInt8.not_lt.1 k1)
     subst hz
     simp [h1]
  ·by_cases h2 : y < x
   ·simp [h1,h2] at h
   ·have hy : x = y := UInt8.le_antisymm (UInt8.not_lt.1 h2) (UInt8.not_lt.1 h1)
    subst hy
    simp only [h1,if_false] at h
    by_cases k1 : x < z
    ·simp [k1]
    ·by_cases k2 : z < x
     ·simp [k1,k2] at k
     ·simp only [k1,k2,if_false] at k ⊢
      exact cb_trans h k
end Go.Val
namespace Go.Val
end Go.Val
namespace Go.Val
open Go.Sort
end Go.Val
namespace Go.Val
open Go.RowKit Go.Sort
variable [Drw]
end Go.Val
namespace Go.Val
open Go.Lib
abbrev K24 := { l : List UInt8 // l.length = 24 }
instance : Inhabited K24 := ⟨⟨List.replicate 24 0,by simp⟩⟩
def keyLe (x y : List UInt8) : Bool := !decide (compareBytes y x < 0)
def qz4 (l : List (List UInt8)) : List (List UInt8) := l.mergeSort keyLe
theorem cb_neg {a b : List UInt8} : ¬ compareBytes b a < 0 ↔ compareBytes a b ≤ 0 := by
 have := q36 a b
 omega
theorem qZ3 {a b : List UInt8} : keyLe a b = true ↔ compareBytes a b ≤ 0 := by
 simp only [keyLe,Bool.not_eq_true',decide_eq_false_iff_not]
 exact cb_neg
theorem keyLe_trans (a b c : List UInt8) (h : keyLe a b = true) (k : keyLe b c = true) : keyLe a c = true := by
 rw [qZ3] at *
 by_cases h1 : compareBytes a b = 0
 ·rw [cb_eq h1]; exact k
 ·by_cases h2 : compareBytes b c = 0
  ·rw [← cb_eq h2]; exact h
  ·have := cb_trans (a := a) (b := b) (c := c) (by omega) (by omega)
   omega
theorem keyLe_total (a b : List UInt8) : (keyLe a b || keyLe b a) = true := by
 rw [Bool.or_eq_true,qZ3,qZ3]
 have := q36 a b
 omega
theorem sortKeys_sorted (l : List (List UInt8)) : (qz4 l).Pairwise fun a b => keyLe a b = true := List.pairwise_mergeSort keyLe_trans keyLe_total l
theorem qn4 (l : List (List UInt8)) : (qz4 l).Perm l := List.mergeSort_perm _ _
end Go.Val
namespace Go.Val
open Go.RowKit
class NoDrw extends Drw where
 no : ¬ dm
variable [NoDrw]
end Go.Val
namespace Go.Val
open Go.RowKit
end Go.Val
namespace Go.Val
open Go.RowKit Go.Lib Go.Sort
abbrev Sp := List UInt8 × List UInt8 × Bool
def spOk (p : Sp) : Prop := p.1.length = 24 ∧ p.2.1.length = 24
instance (p : Sp) : Decidable (spOk p) := by unfold spOk; infer_instance
abbrev SP := { p : Sp // spOk p }
instance : Inhabited SP := ⟨⟨(List.replicate 24 0,List.replicate 24 0,false),by simp [spOk]⟩⟩
end Go.Val
namespace Go.Val
open Go.RowKit
variable [NoDrw]
end Go.Val
namespace Go.Val
open Go.RowKit
variable [NoDrw]
theorem grow_fn {P : Program} {f : FuncId} {k bs : Nat} {kt : TypeId} {n : Int} (hn : 0 ≤ n ∧ n.toNat * bs ≤ 140737488355328)
  (H : ∀ (n : Nat) (w : World),n * bs ≤ 140737488355328 → Calls P f #[.slice none 0 0,.int .i64 n] w fun e w' => (e = .returned (.slice none 0 0) ∧ w' = w) ∨
   ∃ (G : Nat) (cs : Array Value),e = .returned (.slice (some ⟨w.heap.size,0,none⟩) 0 G) ∧ w' = w.drew.alloc (.cells cs kt) ∧ cs.size = G * k) :
  FnOk P f [.d (.v (.slice none 0 0)),.d (.v (.int .i64 n))] 0 (lk []) (fun rr oo => rr = .arr 0 0 ∧ oo = lk [(0,.arr 0 k [])]) := by
 intro hk E vals hE hok hargs
 have ho1 : ∀ o,E.obj o = none := fun o => by rw [hE]; rfl
 obtain ⟨m,hm⟩ : ∃ m : Nat,n = m := ⟨n.toNat,by omega⟩
 subst hm
 have hvals : vals.toArray = #[.slice none 0 0,.int .i64 m] := by
  cases hargs with
  | cons h1 h2 =>
   cases h2 with
   | cons h3 h4 =>
    cases h4
    cases h1 with
    | d h1 =>
     cases h1
     cases h3 with
     | d h3 => cases h3; rfl
 rw [hvals]
 refine (H m E.w (by simpa using hn.2)).mono ?_
 have fin : ∀ (w' : World) (b : Option Nat) (G : Nat),E.w.heap.size ≤ w'.heap.size → (∀ j,j < E.w.heap.size → w'.heap[j]? = E.w.heap[j]?) → w'.os = E.w.os → w'.tape = E.w.tape → w'.output = E.w.output →
   ((b = none ∧ G = 0) ∨ ∃ (cs : Array Value),b = some E.w.heap.size ∧ w'.heap[E.w.heap.size]? = some (.cells cs kt (0,0)) ∧ cs.size = G * k) →
   Ret E (fun rr oo => rr = .arr 0 0 ∧ oo = lk [(0,.arr 0 k [])]) (.returned (q66 b 0 G)) w' := by
  intro w' b G hz hh hos ht hou hb
  let E' : Env := { obj := lk [(0,.arr 0 k [])],β := fun o => if o = 0 then b else none,γ := fun _ => G,δ := fun _ => [],φ := fun _ => [],J := fun j => E.J j ∨ E.w.heap.size ≤ j,w := w' }
  have hbb : ∀ o j,E'.has o j → j = E.w.heap.size ∧ o = 0 := by
   intro o j hh0
   have h : E'.β o = some j := by
    rcases hh0 with h | ⟨h,_⟩
    ·exact h
    ·cases h
   simp only [E'] at h
   by_cases h0 : o = 0
   ·rw [if_pos h0] at h
    rcases hb with ⟨h1,_⟩ | ⟨cs,h1,_⟩
    ·rw [h1] at h; cases h
    ·rw [h1] at h; cases h; exact ⟨rfl,h0⟩
   ·rw [if_neg h0] at h; cases h
  have hob : ∀ o ob,E'.obj o = some ob → o = 0 ∧ ob = .arr 0 k [] := by
   intro o ob h
   have := q61 h
   simp at this
   exact this
  refine ⟨_,.arr 0 0,E',rfl,rfl,⟨rfl,rfl⟩,⟨[q66 b 0 G],.arr (cur := 0) (es := k) (rows := []) rfl (Nat.le_refl _) (fun _ => rfl) ?_,rfl⟩,⟨?_,?_⟩,?_,⟨hos,ht,hou,hz,fun j hj _ => hh j hj,fun h => absurd h NoDrw.no⟩,?_,?_⟩
  ·cases b <;> rfl
  ·intro o ob ho
   obtain ⟨rfl,rfl⟩ := hob o ob ho
   rcases hb with ⟨h1,h2⟩ | ⟨cs,h1,h2,h3⟩
   ·exact .inl ⟨h1,rfl,h2⟩
   ·exact .inr ⟨_,[],cs.toList,kt,h1,.nil,by simp,by simpa using h2,by simpa using h3,by simp⟩
  ·intro o o' j _ _ h3 h4
   rw [(hbb o j h3).2,(hbb o' j h4).2]
  ·intro o j _ h
   exact .inl (by rw [(hbb o j h).1]; exact Nat.le_refl _)
  ·rintro j (h | h)
   ·exact .inl h
   ·exact .inr (.inl h)
  ·intro o ob h
   rw [ho1 o] at h; cases h
 rintro e w' (⟨rfl,rfl⟩ | ⟨G,cs,rfl,rfl,hcs⟩)
 ·exact fin E.w none 0 (Nat.le_refl _) (fun _ _ => rfl) rfl rfl rfl (.inl ⟨rfl,rfl⟩)
 ·exact fin _ (some E.w.heap.size) G (by simp) (fun j hj => Below.heap_alloc E.w.drew _ _ hj) rfl rfl rfl (.inr ⟨cs,rfl,qr2 E.w.drew _,hcs⟩)
end Go.Val
namespace Go.Val
open Go.RowKit
variable [NoDrw]
end Go.Val
