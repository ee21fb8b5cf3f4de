/- chunk.Write: its walk,around the loop over its pieces. -/
import Derived.Test.YthipaajmgfnagaaGreatDoorWi
import Derived.Test.YthipaajmgfnagaaGreatDoorX1
set_option linter.unusedSectionVars false
set_option linter.unusedVariables false
set_option linter.unusedSimpArgs false
set_option maxRecDepth 100000
namespace Go.Val
open Go.RowKit Go.Proofs
section
variable [Drw] {P : Program} {N : Nat × Nat} {ops : Array Oper} {i : Nat} {s : St} {d : Nat} {ty : TypeId} {pos : String} {af : Array Edge} {g : Option (Nat × Bool)} {gs : List Nat}
theorem o_fn2 {f : FuncId} {x x' : Operand} {y y' : AV} (ho : ops[i]? = some ⟨some d,.makeFunc (.func f) #[] #[x,x'],ty,pos,af,g⟩) (hd : Nat.ble (d + 1) N.1 = true) (hg : G ops s g gs) (hx : s.val x = some y) (hx' : s.val x' = some y') :
  Valid P N ops i ⟨gs ++ (opT x ++ opT x'),[],some (d,some (.fn f [] [y,y'])),[]⟩ s :=
 vPu ho hd hg fun s' hs cx a E hR => by
  have ⟨c,h0,h1⟩ := hR.val ((vAg (qy hs).1).trans hx)
  obtain ⟨c',h0',h1'⟩ := hR.val ((vAg (qy hs).2).trans hx')
  refine ⟨.func (.func f) #[] #[a.eval x,a.eval x'],?_,_,.fn (xs := []) (ys := [a.eval x,a.eval x']) .nil (by rw [h1,h1']; exact .cons h0 (.cons h0' .nil)),rfl⟩
  simp [execOp,Instr.makeFunc]
end
section
variable [NoDrw]
abbrev CVT : Type := (List (B8 × ByteArray)) × (List (B8 × (B8 × ByteArray × Bool))) × (List (B8 × B8 × Bool)) × (List (List (B8 × (B8 × ByteArray × Bool))))
def qI3 (o n : Int) : Int × Int × Int := ((IntKind.wrap .i64 (Int.tdiv o 32)),(Int.tmod o 32),(min n (IntKind.wrap .i64 (32 - (Int.tmod o 32)))))
noncomputable def qS (a1 : Int) (v : (CVT × ByteArray) × Int × Int) : Option (((CVT × ByteArray) × Int × Int) ⊕ ((CVT × ByteArray) × Int × Int)) := cond (decide (v.2.2 > 0)) ((qQ a1 v.1.1 v.1.2 (qI3 v.2.1 v.2.2)).bind fun x => some (.inl (x,IntKind.wrap .i64 (v.2.1 + (qI3 v.2.1 v.2.2).2.2),IntKind.wrap .i64 (v.2.2 - (qI3 v.2.1 v.2.2).2.2)))
 ) (some (.inr v))
noncomputable def qM (a0 : CVT) (a1 a2 : Int) (a3 : ByteArray) : Option (Int × CVT) := (q22 a1 a2 (a3.size : Int)).bind fun x => cond (!x) (some (1,a0)) ((qA (V := (CVT × ByteArray) × Int × Int) (O := (CVT × ByteArray) × Int × Int) (qS a1) ((a0,a3),a2,(a3.size : Int))).bind fun o => some (0,o.1.1))
def wrObj (a1 : Int) (v : (CVT × ByteArray) × Int × Int) : List (Nat × OB) := [(0,.own (oVV v.1.1)),(1,.box (.ptr 0 0)),(2,.box (.d (eint a1))),(3,.box (.d (eStr v.1.2))),(4,.box (.d (eErr 0))),(5,.box (.d (eint v.2.1))),(6,.box (.d (eint v.2.2)))]
def wrSt (a1 : Int) (l : Nat) (v : (CVT × ByteArray) × Int × Int) : St := St.of [(0,.d (.v (.func (.yield l) #[] #[]))),(1,.ptr 6 0),(2,.ptr 5 0)] [(0,.own (oVV v.1.1)),(1,.box (.ptr 0 0)),(2,.box (.d (eint a1))),(3,.box (.d (eStr v.1.2))),(4,.box (.d (eErr 0))),(5,.box (.d (eint v.2.1))),(6,.box (.d (eint v.2.2)))]
def wrσ (n : Nat) : Nat := bif Nat.beq n 5 then 8 else n
theorem pieces_it {a1 : Int} {v0 r : (CVT × ByteArray) × Int × Int} (hw : qA (qS a1) v0 = some r) (l : Nat) (rec : Loop) (E0 : Env) (vals : List Value) (hE : E0.obj = lk (wrObj a1 v0)) (hok : q85 E0)
  (hl : E0.w.heap[l]? = some (.loop rec)) (hJ : ¬ E0.J l) (hh : ∀ c,E0.obj c ≠ none → ¬ E0.has c l) (has : rec.assign = qd4) (hbo : rec.body = q54) (hpar : rec.params = #[27]) (htm : rec.tmps.size = 81)
  (hst : rec.state = .ready) (hpend : rec.pending = none) (hsl : ∀ t x,lk qw1 t = some x → VR E0 (x.ren wrσ) (rec.tmps.getD t undef)) (hv : VRs E0 [.ptr 6 0,.ptr 5 0] vals) :
  Calls Tryz.prog 64 (#[.func (.yield l) #[] #[]] ++ vals.toArray) E0.w (Ret E0 (fun _ oo => oo = lk (wrObj a1 r))) := by
 have hvals : (#[.func (.yield l) #[] #[]] ++ vals.toArray : Array Value) = (Value.func (.yield l) #[] #[] :: vals).toArray := by simp
 rw [hvals]
 cases hv with
 | @cons _ _ _ v1 hv0 hs1 =>
 cases hs1 with
 | @cons _ _ _ v2 hv1 hs2 =>
 cases hs2
 refine calls_of_cx (nt := 29) (k := 7) (s := wrSt a1 l v0) Tryz.func64 rfl rfl (by simp) hE hok (lk_lt rfl) ?_ ?_
 ·intro t x ht
  have hm := qN (l := [(0,AV.d (.v (.func (.yield l) #[] #[]))),(1,.ptr 6 0),(2,.ptr 5 0)]) ht
  simp only [List.mem_cons,List.not_mem_nil,or_false,Prod.mk.injEq] at hm
  rcases hm with ⟨rfl,rfl⟩ | ⟨rfl,rfl⟩ | ⟨rfl,rfl⟩
  ·exact ⟨_,rfl,.of_sc rfl⟩
  ·exact ⟨_,rfl,_,hv0,rfl⟩
  ·exact ⟨_,rfl,_,hv1,rfl⟩
 refine cx_block (cx_while (N := (29,7)) rfl (wrSt a1 l) hw (fun _ _ _ _ h => h) ?_)
 intro v x hb hx
 unfold qS at hb
 refine cx_seq (cx_seq (cx_region (N := (29,7)) rfl (
  .c (uL [] rfl ta3 rfl)<|
  .c (uB rfl (b_gtr _ _) rfl)<|.nil rfl) ?_))
 rcases cdS hb with ⟨hc,h0⟩ | ⟨hc,h0⟩
 ·refine cx_condT rfl hc (cx_skip ?_)
  have ⟨x0,hx0,h1⟩ := bdS h0
  cases h1
  refine cx_block (cx_seq (cx_region (N := (29,7)) rfl (
   .c (uL [] rfl ta3 rfl)<|
   .c (uB rfl (b_quo _ _ (by decide)) rfl)<|
   .c (uL [] rfl ta3 rfl)<|
   .c (uB rfl (b_rem _ _ (by decide)) rfl)<|
   .c (uL [] rfl ta3 rfl)<|
   .c (uL [] rfl ta3 rfl)<|
   .c (uB rfl (b_rem _ _ (by decide)) rfl)<|
   .c (uB rfl (qy4 _ _) rfl)<|
   .c (o_min rfl rfl .no rfl rfl)<|
   .c (qL4 (ds := [eint (IntKind.wrap .i64 (Int.tdiv v.2.1 32)),eint (Int.tmod v.2.1 32),eint (min v.2.2 (IntKind.wrap .i64 (32 - (Int.tmod v.2.1 32))))]) rfl rfl .no zs83 rfl pl83 (.cons rfl rfl rfl rfl rfl rfl rfl (.cons rfl rfl rfl rfl rfl rfl rfl (.cons rfl rfl rfl rfl rfl rfl rfl .nil))))<|
   .c (qm 7 rfl rfl .no ze83 rfl)<|
   .c (uS [] rfl sz83 rfl)<|.nil rfl) ?_))
  refine cx_seq (cx_seq (cx_yield (σ := wrσ) (sO := qw1) (mi := q11 a1 v.1.1 v.1.2) (mo := [(0,.own (oVV x0.1)),(1,.box (.ptr 0 0)),(2,.box (.d (eint a1))),(3,.box (.d (eStr x0.2))),(4,.box (.d (eErr 0))),(5,.box (.d (qr0 (qI3 v.2.1 v.2.2))))]) (pd := qr0 (qI3 v.2.1 v.2.2))
   hl hJ hh has hbo hpar htm hst hpend (by decide) hsl ?live ⟨_,6,?lt,chunk_Write_asg,chunk_Write_rnd hx0⟩ (by kernel_rfl) (by decide) (uM rfl) (uL [] rfl ta83 rfl) rfl rfl ?call (uT rfl) ?_))
  case live =>
   intro t x ht
   have hm := qN ht
   simp only [qw1,List.mem_cons,List.not_mem_nil,or_false,Prod.mk.injEq] at hm
   rcases hm with ⟨rfl,rfl⟩ | ⟨rfl,rfl⟩ | ⟨rfl,rfl⟩ | ⟨rfl,rfl⟩ <;> simp [AV.live,q11,lk,Nat.beq]
  case lt => exact lk_lt (m := [(0,OB.own (oVV v.1.1)),(1,.box (.ptr 0 0)),(2,.box (.d (eint a1))),(3,.box (.d (eStr v.1.2))),(4,.box (.d (eErr 0))),(5,.box (.d (qr0 (qI3 v.2.1 v.2.2))))]) rfl
  case call =>
   exact callInG [5] rfl trivial ⟨⟨rfl,OD.dat_live (oVV_d _)⟩,⟨rfl,by simp [OB.live,AV.live,q11,lk,Nat.beq]⟩,⟨rfl,trivial⟩,⟨rfl,trivial⟩,⟨rfl,trivial⟩,trivial⟩ rfl rfl rfl ⟨rfl,trivial⟩ rfl
  refine cx_condF rfl rfl (cx_skip ?_)
  refine cx_region_any (N := (29,7)) rfl mixed (by kernel_rfl) (
   .c (uL [] rfl ta3 rfl)<|
   .c (uF rfl fld83_2 rfl)<|
   .c (uL [2] rfl ta3 rfl)<|
   .c (uB rfl (q61 _ _) rfl)<|
   .c (uL [] rfl ta3 rfl)<|
   .c (uF rfl fld83_2 rfl)<|
   .c (uL [2] rfl ta3 rfl)<|
   .c (uB rfl (qy4 _ _) rfl)<|
   .c (uS [] rfl sz3 rfl)<|
   .c (uS [] rfl sz3 rfl)<|.nil rfl) (by kernel_rfl) ?_
  exact ⟨_,rfl,(show Leads _ _ (St.of [(0,.d (.v (.func (.yield l) #[] #[]))),(1,.ptr 6 0),(2,.ptr 5 0)] [(0,.own (oVV x0.1)),(1,.box (.ptr 0 0)),(2,.box (.d (eint a1))),(3,.box (.d (eStr x0.2))),(4,.box (.d (eErr 0))),(5,.box (.d (eint (IntKind.wrap .i64 (v.2.1 + (qI3 v.2.1 v.2.2).2.2))))),(6,.box (.d (eint (IntKind.wrap .i64 (v.2.2 - (qI3 v.2.1 v.2.2).2.2)))))]) from .w (wkF ⟨wD rfl,⟨_,rfl,.ptr rfl rfl⟩,⟨_,rfl,.ptr rfl rfl⟩,trivial⟩ ⟨.own rfl (.of_eq rfl (oVV_d _)),.box rfl (.ptro rfl rfl),.box rfl (.d rfl),.box rfl (.d rfl),.box rfl (.d rfl),.box rfl (.d rfl),.box rfl (.d rfl),trivial⟩ (qq rfl)))⟩
 ·cases h0
  have hr := hx v rfl
  subst hr
  exact cx_condF rfl hc (cx_exit ⟨.inl rfl,_,res0 rfl,rfl⟩)
theorem chunk_pieces_ok {a n : Int} : FnOk Tryz.prog 32 [.d (eint a),.d (eint n)] 0 (lk []) (fun rr oo => rr = .fn 64 [] [.ptr 1 0,.ptr 0 0] ∧ oo = lk [(0,.box (.d (eint a))),(1,.box (.d (eint n)))]) := by
 refine fnO Tryz.func32 rfl rfl ?_
 refine cwS (cwR (.cons (uX 0 rfl) <| .cons (uX 1 rfl) <| .cons (uA rfl) <| .nil rfl) ?_)
 refine cwS (cwR (.cons (o_fn2 rfl rfl .no rfl rfl) <| .cons (uA rfl) <| .nil rfl) ?_)
 exact cwW (wkF (l := [(4,.fn 64 [] [.ptr 1 0,.ptr 0 0])]) (m := [(0,.box (.d (eint a))),(1,.box (.d (eint n)))]) ⟨⟨_,rfl,.fn .nil (.cons (.ptr rfl rfl) (.cons (.ptr rfl rfl) .nil))⟩,trivial⟩ ⟨.box rfl (.d rfl),.box rfl (.d rfl),trivial⟩ qd) (qe ⟨.inr rfl,_,res1 rfl rfl,rfl,rfl⟩)
set_option maxHeartbeats 1000000 in
theorem qp4 {a0 : CVT} {a1 a2 : Int} {a3 : ByteArray} {r : Int × CVT} (h : qM a0 a1 a2 a3 = some r) : FnOk Tryz.prog 13 [.ptr 0 0,.d (eint a1),.d (eint a2),.d (eStr a3)] 1 (lk [(0,.own (oVV a0))])
  (fun rr oo => rr = .d (eErr r.1) ∧ oo = lk [(0,.own (oVV r.2)),(4,.box (.d (eErr r.1)))]) := by
 unfold qM at h
 have ⟨x,hx,h0⟩ := bdS h
 rcases cdS h0 with ⟨hc,h1⟩ | ⟨hc,h1⟩
 ·cases h1
  refine fnO Tryz.func13 rfl rfl (cwP ?_)
  refine cwS (cwR (
   .c (uX 1 rfl)<|
   .c (uX 2 rfl)<|
   .c (uX 3 rfl)<|
   .c (qm 4 rfl rfl .no ze29 rfl)<|.nil rfl) ?_)
  refine cwS (cwS (cwR (
   .c (uL [] rfl ta3 rfl)<|
   .c (uM rfl)<|
   .c (uL [] rfl ta9 rfl)<|
   .c (qa3 rfl rfl .no rfl un9)<|
   .c (qj rfl rfl .no Tryz.func28 rfl rfl (q13 hx) (.cons rfl .d (.cons rfl .d (.cons rfl .d .nil))) ⟨trivial,trivial,trivial,trivial⟩ (.inl rfl))<|
   .c (uT rfl)<|.nil rfl) ?_))
  refine cwT rfl hc (cwS (cwR (
   .c (uS [] rfl sz29 rfl)<|.nil rfl) ?_))
  exact qe ⟨_,(show Leads _ _ (St.of [(8,.ptr 4 0)] [(0,.own (oVV a0)),(4,.box (.d (eErr 1)))]) from .w (wkF ⟨⟨_,rfl,.ptr rfl rfl⟩,trivial⟩ ⟨.own rfl (.of_eq rfl (oVV_d _)),.box rfl (.d rfl),trivial⟩ (qq rfl))),.inr rfl,_,resC rfl rfl rfl ta29 rfl rfl,rfl,rfl⟩
 ·have ⟨o,ho,h2⟩ := bdS h1
  cases h2
  refine fnOk_rf (nt := 81) (m4 := wrObj a1 o) (s1 := St.of [(2,.d (eint a2)),(4,.ptr 1 0),(5,.ptr 2 0),(7,.ptr 3 0),(8,.ptr 4 0)] (q11 a1 a0 a3)) (s2 := St.of [(2,.d (eint a2)),(4,.ptr 1 0),(5,.ptr 2 0),(7,.ptr 3 0),(8,.ptr 4 0)] (q11 a1 a0 a3))
   (s3 := St.of [(4,.ptr 1 0),(5,.ptr 2 0),(7,.ptr 3 0),(8,.ptr 4 0),(26,.fn 64 [] [.ptr 6 0,.ptr 5 0])] (wrObj a1 ((a0,a3),a2,(a3.size : Int)))) Tryz.func13 rfl rfl rfl ?_ ?_ ?_ rfl (enters_of Tryz.func64 (by kernel_rfl) rfl) ?_ ?_
  ·refine cwP (cwR (
    .c (uX 1 rfl)<|
    .c (uX 2 rfl)<|
    .c (uX 3 rfl)<|
    .c (qm 4 rfl rfl .no ze29 rfl)<|.nil rfl) ?_)
   exact ⟨_,(show Leads _ _ (St.of [(2,.d (eint a2)),(4,.ptr 1 0),(5,.ptr 2 0),(7,.ptr 3 0),(8,.ptr 4 0)] [(0,.own (oVV a0)),(1,.box (.ptr 0 0)),(2,.box (.d (eint a1))),(3,.box (.d (eStr a3))),(4,.box (.d (eErr 0)))]) from .w (wkF ⟨wD rfl,⟨_,rfl,.ptr rfl rfl⟩,⟨_,rfl,.ptr rfl rfl⟩,⟨_,rfl,.ptr rfl rfl⟩,⟨_,rfl,.ptr rfl rfl⟩,trivial⟩ ⟨.own rfl (.of_eq rfl (oVV_d _)),.box rfl (.ptro rfl rfl),.box rfl (.d rfl),.box rfl (.d rfl),.box rfl (.d rfl),trivial⟩ (qq rfl))),rfl,rfl⟩
  ·refine cwP (cwS (cwR (
    .c (uL [] rfl ta3 rfl)<|
    .c (uM rfl)<|
    .c (uL [] rfl ta9 rfl)<|
    .c (qa3 rfl rfl .no rfl un9)<|
    .c (qj rfl rfl .no Tryz.func28 rfl rfl (q13 hx) (.cons rfl .d (.cons rfl .d (.cons rfl .d .nil))) ⟨trivial,trivial,trivial,trivial⟩ (.inl rfl))<|
    .c (uT rfl)<|.nil rfl) ?_))
   refine cwF rfl hc (cwK ?_)
   exact ⟨_,(show Leads _ _ (St.of [(2,.d (eint a2)),(4,.ptr 1 0),(5,.ptr 2 0),(7,.ptr 3 0),(8,.ptr 4 0)] [(0,.own (oVV a0)),(1,.box (.ptr 0 0)),(2,.box (.d (eint a1))),(3,.box (.d (eStr a3))),(4,.box (.d (eErr 0)))]) from .w (wkF ⟨wD rfl,⟨_,rfl,.ptr rfl rfl⟩,⟨_,rfl,.ptr rfl rfl⟩,⟨_,rfl,.ptr rfl rfl⟩,⟨_,rfl,.ptr rfl rfl⟩,trivial⟩ ⟨.own rfl (.of_eq rfl (oVV_d _)),.box rfl (.ptro rfl rfl),.box rfl (.d rfl),.box rfl (.d rfl),.box rfl (.d rfl),trivial⟩ (qq rfl))),rfl,rfl⟩
  ·refine cwP (cwR (
    .c (uM rfl)<|
    .c (uL [] rfl ta9 rfl)<|
    .c (qa3 rfl rfl .no rfl un9)<|
    .c (qC (fun n => bif Nat.beq n 0 then 5 else 6) rfl rfl .no Tryz.func32 rfl rfl chunk_pieces_ok (.cons rfl .d (.cons rfl .d .nil)) (callInG [0,1] rfl ⟨trivial,trivial,trivial⟩ trivial rfl rfl rfl ⟨rfl,rfl,trivial⟩ rfl) (.inl rfl))<|.nil rfl) ?_)
   exact ⟨_,(show Leads _ _ (St.of [(4,.ptr 1 0),(5,.ptr 2 0),(7,.ptr 3 0),(8,.ptr 4 0),(26,.fn 64 [] [.ptr 6 0,.ptr 5 0])] [(0,.own (oVV a0)),(1,.box (.ptr 0 0)),(2,.box (.d (eint a1))),(3,.box (.d (eStr a3))),(4,.box (.d (eErr 0))),(5,.box (.d (eint a2))),(6,.box (.d (eint (a3.size : Int))))]) from .w (wkF ⟨⟨_,rfl,.ptr rfl rfl⟩,⟨_,rfl,.ptr rfl rfl⟩,⟨_,rfl,.ptr rfl rfl⟩,⟨_,rfl,.ptr rfl rfl⟩,⟨_,rfl,.fn .nil (.cons (.ptr rfl rfl) (.cons (.ptr rfl rfl) .nil))⟩,trivial⟩ ⟨.own rfl (.of_eq rfl (oVV_d _)),.box rfl (.ptro rfl rfl),.box rfl (.d rfl),.box rfl (.d rfl),.box rfl (.d rfl),.box rfl (.d rfl),.box rfl (.d rfl),trivial⟩ (qq rfl))),rfl,rfl⟩
  ·intro l rec E0 vals e1 e2 e3 e4 e5 e6 e7 e8 e9 e10 e11 e12 e13
   refine pieces_it ho l rec E0 vals e1 e2 e3 e4 e5 e6 e7 e8 e9 e10 e11 (fun t x ht => ?_) e13
   have hm := qN ht
   simp only [qw1,List.mem_cons,List.not_mem_nil,or_false,Prod.mk.injEq] at hm
   rcases hm with ⟨rfl,rfl⟩ | ⟨rfl,rfl⟩ | ⟨rfl,rfl⟩ | ⟨rfl,rfl⟩ <;> exact e12 _ _ rfl
  ·intro ds
   refine qr4 (q01 (
    .c (uS [] rfl sz29 rfl)<|.nil rfl) ?_)
   refine cr_leads (show Leads _ _ (St.of [(8,.ptr 4 0)] [(0,.own (oVV o.1.1)),(4,.box (.d (eErr 0)))]) from .w (wkF ⟨⟨_,rfl,.ptr rfl rfl⟩,trivial⟩ ⟨.own rfl (.of_eq rfl (oVV_d _)),.box rfl (.d rfl),trivial⟩ (qq rfl))) ?_
   exact cr_ret ⟨.inr rfl,⟨5,lk_lt rfl⟩,_,resC rfl rfl rfl ta29 rfl rfl,rfl,rfl⟩
end
end Go.Val
