/- tree.Apply over the frail memory: its walk; the loop that lets go what was made. -/
import Derived.Test.YtfbnhflapgddbaaWl
import Derived.Test.YtfbnhflapgddbaaLg
set_option linter.all false
set_option maxRecDepth 100000
namespace Go.Val
open Go.RowKit Go.Proofs
section
variable [NoDrw]
abbrev MemT : Type := ttM
theorem hm55_Dec : ∀ (v : Addr) w,Sem.run Try.prog (Go.method (Try.prog.types.size + Made.depth) 55 (.pointer (some v)) "Dec") w = Result.ok (128,Value.pointer (some v)) w := fun _ _ => by kernel_rfl
noncomputable def rb_loop (made : List Int) (v : ((Int × Int) × MemT) × Int) : Option ((((Int × Int) × MemT) × Int) ⊕ ((Int × Int) × MemT)) := cond (decide (v.2 ≥ 0)) ((gx made v.2).bind fun x => (q71 v.1.1 x v.1.2).bind fun y => some (.inl ((y.2.2.1,y.2.2.2),IntKind.wrap .i64 (v.2 - 1)))) (some (.inr v.1))
noncomputable def rollback (made : List Int) (fr : Int × Int) (m : MemT) : Option ((Int × Int) × MemT) := qN (V := ((Int × Int) × MemT) × Int) (O := (Int × Int) × MemT) (rb_loop made) ((fr,m),IntKind.wrap .i64 ((made.length : Int) - 1))
theorem backward_ok {l : List Int} : FO 41 [.d (qb6 l)] 0 [] (.fn 64 [] [.ptr 0 0]) [(0,.box (.d (qb6 l)))] := by
 refine fnO Try.func41 rfl rfl ?_
 refine cSR (.cons (uX 0 rfl) <| .cons (uA rfl) <| .nil rfl) ?_
 refine cSR (.cons (o_fn1 rfl rfl .no rfl) <| .cons (uA rfl) <| .nil rfl) ?_
 exact cwW (wA0 (l := [(2,.fn 64 [] [.ptr 0 0])]) (m := [(0,.box (.d (qb6 l)))]) rfl) (qv ⟨.inr rfl,_,res1 rfl rfl,rfl,rfl⟩)
def bkM (v : (Int × Int) × MemT) : List (Nat × OB) := [(0,.own (qd 1 v.1)),(1,.own (qe v.2)),(2,.box (.ifc 55 (.ptr 0 0)))]
def bkO (made : List Int) (v : (Int × Int) × MemT) : List (Nat × OB) := [(0,.own (qd 1 v.1)),(1,.own (qe v.2)),(2,.box (.ifc 55 (.ptr 0 0))),(3,.box (.d (qb6 made)))]
def bkS (made : List Int) (l : Nat) (v : ((Int × Int) × MemT) × Int) : St := St.of [(0,.d (.v (.func (.yield l) #[] #[]))),(1,.ptr 3 0),(3,.d (eint v.2))] [(0,.own (qd 1 v.1.1)),(1,.own (qe v.1.2)),(2,.box (.ifc 55 (.ptr 0 0))),(3,.box (.d (qb6 made)))]
theorem back_it {made : List Int} {fr : Int × Int} {m : MemT} {r : (Int × Int) × MemT} (hw : rollback made fr m = some r) (l : Nat) (rec : Loop) (E0 : Env) (vals : List Value) (hE : E0.obj = lk (bkO made (fr,m))) (hok : q96 E0)
  (hl : E0.w.heap[l]? = some (.loop rec)) (hJ : ¬ E0.J l) (hh : ∀ c,E0.obj c ≠ none → ¬ E0.has c l) (hpar : rec.params = #[102,103]) (htm : rec.tmps.size = 109)
  (hst : rec.state = .ready) (hpend : rec.pending = none) (hsl : VR E0 (.ptr 2 0) (rec.tmps.getD 3 undef)) (hv : VRs E0 [.ptr 3 0] vals)
  (hrd : ∀ (l : Nat) (fr : Int × Int) (m : MemT) (x : Int) (r : Bool × Int × (Int × Int) × MemT),q71 fr x m = some r → ∀ {i : Int},Round2 l Try.prog 109 3 [(3,.ptr 2 0)] 102 103 rec.assign rec.body (bkM (fr,m)) (bkM (r.2.2.1,r.2.2.2)) (.d (eint i)) (.d (eint x))) :
  Calls Try.prog 64 (#[.func (.yield l) #[] #[]] ++ vals.toArray) E0.w (Ret E0 (fun _ oo => oo = lk (bkO made r))) := by
 have hvals : (#[.func (.yield l) #[] #[]] ++ vals.toArray : Array Value) = (Value.func (.yield l) #[] #[] :: vals).toArray := by simp
 rw [hvals]
 cases hv with
 | @cons _ _ _ v0 hv0 hs1 =>
 cases hs1
 refine calls_of_cx (nt := 19) (k := 4) (s := St.of [(0,.d (.v (.func (.yield l) #[] #[]))),(1,.ptr 3 0)] [(0,.own (qd 1 fr)),(1,.own (qe m)),(2,.box (.ifc 55 (.ptr 0 0))),(3,.box (.d (qb6 made)))]) Try.func64 rfl rfl (by simp) hE hok (lk_lt rfl) ?_ ?_
 ·intro t x ht
  have hm := q61 (l := [(0,AV.d (.v (.func (.yield l) #[] #[]))),(1,.ptr 3 0)]) ht
  simp only [zM,List.not_mem_nil,or_false,Prod.mk.injEq] at hm
  rcases hm with ⟨rfl,rfl⟩ | ⟨rfl,rfl⟩
  ·exact ⟨_,rfl,.of_sc rfl⟩
  ·exact ⟨_,rfl,_,hv0,rfl⟩
 refine cx_seq (cx_region (N := (19,4)) rfl (.L [] rfl ta59 rfl<|.c (qU (enc := eint) (xs := made) rfl rfl .no rfl sl59)<|.B rfl (qS3 _ _) rfl<|.A rfl<|.nil rfl) ?_)
 refine cx_block (cx_while (N := (19,4)) rfl (bkS made l) hw (wA2 [(0,.d (.v (.func (.yield l) #[] #[]))),(1,.ptr 3 0),(3,.d (eint (IntKind.wrap .i64 ((made.length : Int) - 1))))] [(0,.own (qd 1 fr)),(1,.own (qe m)),(2,.box (.ifc 55 (.ptr 0 0))),(3,.box (.d (qb6 made)))] rfl) ?_)
 intro v x hb hx
 unfold rb_loop at hb
 refine cx_seq (cx_seq (cx_region (N := (19,4)) rfl (.M rfl<|.B rfl (qf6 _ _) rfl<|.nil rfl) ?_))
 rcases cdS hb with ⟨hc,h0⟩ | ⟨hc,h0⟩
 ·refine cx_condT rfl hc (cx_skip ?_)
  have ⟨y,hy,h1⟩ := bdS h0
  have hyg := qB hy
  have ⟨z,hz,h2⟩ := bdS h1
  obtain rfl := zQ h2
  refine cx_seq (cx_block (cx_seq (cx_yield2 (σ := fun n => n) (sO := [(3,.ptr 2 0)]) (mi := bkM v.1) (mo := bkM (z.2.2.1,z.2.2.2)) (pd := eint v.2) (pd2 := eint y)
   hl hJ hh rfl rfl hpar htm hst hpend (by decide) (by decide) ?sl ?live (hrd l v.1.1 v.1.2 y z hz) (by kernel_rfl) (by decide)
   (uM rfl) (uM rfl) (uL [] rfl ta59 rfl) (uM rfl) (qs1 (enc := eint) (xs := made) rfl rfl .no rfl rfl sl59 sz3 hyg.1 hyg.2) (o_ld rfl rfl .no rfl ta3 rfl rfl) rfl rfl rfl rfl ?call (uT rfl) ?_)))
  case sl =>
   intro t x ht
   have hm := q61 ht
   simp only [zM,List.not_mem_nil,or_false,Prod.mk.injEq] at hm
   obtain ⟨rfl,rfl⟩ := hm
   exact hsl
  case live =>
   intro t x ht
   have hm := q61 ht
   simp only [zM,List.not_mem_nil,or_false,Prod.mk.injEq] at hm
   obtain ⟨rfl,rfl⟩ := hm
   simp [AV.live,bkM,lk,Nat.beq]
  case call =>
   exact ql1 [] rfl trivial ⟨⟨rfl,by simp [qd,OB.live,OD.live,OD.lives,AV.live,bkM,lk,Nat.beq]⟩,⟨rfl,OD.dat_live (qc _)⟩,⟨rfl,by simp [OB.live,AV.live,bkM,lk,Nat.beq]⟩,tV⟩ rfl rfl rfl trivial rfl
  refine cx_condF rfl rfl (cx_skip ?_)
  refine cx_region (N := (19,4)) rfl (.M rfl<|.B rfl (qS3 _ _) rfl<|.A rfl<|.nil rfl) ?_
  exact ⟨_,rfl,(wA2 [(0,.d (.v (.func (.yield l) #[] #[]))),(1,.ptr 3 0),(3,.d (eint (IntKind.wrap .i64 (v.2 - 1))))] [(0,.own (qd 1 z.2.2.1)),(1,.own (qe z.2.2.2)),(2,.box (.ifc 55 (.ptr 0 0))),(3,.box (.d (qb6 made)))] rfl)⟩
 ·obtain rfl := zQ h0
  have hr := hx v.1 rfl
  subst hr
  exact cx_condF rfl hc (cx_exit ⟨.inl rfl,_,res0 rfl,rfl⟩)
noncomputable def qy2 (a0 : (Int × Int)) (a1 : Int) (a2 : List ttC) (b1 : ttM) : Option (Int × Int × (Int × Int) × ttM) := (((qN (V := Int) (O := (Unit ⊕ (Int × Int × (Int × Int) × ttM))) (fun v0 => cond (decide (v0 < (a2.length : Int))) ((gx a2 v0).bind fun x0 => cond (decide ((x0.2.1.size : Int) > 40)) (some (.inr (.inr (0,1,a0,b1)))) (some (.inl (IntKind.wrap .i64 (v0 + 1))))
   ) (some (.inr (.inl ())))) 0) : Option (Unit ⊕ (Int × Int × (Int × Int) × ttM)))).bind fun o0 => Sum.elim (fun (v1 : Unit) => cond (decide ((a2.length : Int) = 0)) ((qc3 a0 a1 b1).bind fun x1 => cond (decide (x1.1 ≠ 0)) (some (0,x1.1,x1.2.1,x1.2.2)) (some (a1,0,x1.2.1,x1.2.2))) ((qa2 a2).bind fun x2 => (((cond (decide (a1 = 0)) ((q11 ([]) x2).bind fun x3 =>
     (qy0 x3).bind fun x4 => some (.inl (0,x4,a0,b1,[]))) ((qs0 a0 a1 b1).bind fun x5 => cond (decide (x5.2.1 ≠ 0)) (some (.inr (0,x5.2.1,x5.2.2.1,x5.2.2.2))) ((qr1 ([]) a1 x2 x5.2.2.1 x5.2.2.2).bind fun x6 => cond (decide (x6.2.1 ≠ 0)) (some (.inr (0,x6.2.1,x6.2.2.2.1,x6.2.2.2.2))) (some (.inl (x5.1.1,x6.1,x6.2.2.2.1,x6.2.2.2.2,x6.2.2.1))))
    )) : Option ((Int × (List ttP) × (Int × Int) × ttM × (List Int)) ⊕ (Int × Int × (Int × Int) × ttM)))).bind fun o1 => Sum.elim (fun (v2 : (Int × (List ttP) × (Int × Int) × ttM × (List Int))) => (qW2 v2.1 v2.2.1).bind fun x7 => (((cond (decide (x7.2.2 ≠ 0)) (some true) (some (!x7.2.1))) : Option Bool)).bind fun o2 => cond o2 (some (0,x7.2.2,v2.2.2.1,v2.2.2.2.1)) (
     (qF1 v2.2.2.2.2 x7.1 v2.2.2.1 v2.2.2.2.1).bind fun x8 => cond (decide (x8.2.1 ≠ 0)) ((rollback x8.2.2.1 x8.2.2.2.1 x8.2.2.2.2).bind fun x9 => some (0,x8.2.1,x9.1,x9.2)) (some (x8.1,0,x8.2.2.2.1,x8.2.2.2.2)))) (fun w0 => some w0) o1)) (fun w1 => some w1) o0
theorem tree_Apply_f_ok {a0} {a1} {a2} {b1} {r} (h : qy2 a0 a1 a2 b1 = some r) : FnOk Try.prog 15 [.ifc 55 (.ptr 0 0),.d (eint a1),.d (eSC a2)] 2 (lk [(0,.own (qd 1 a0)),(1,.own (qe b1))]) (fun rr oo => rr = .tup [.d (eint r.1),.d (eErr r.2.1)] ∧ oo = lk [(0,.own (qd 1 r.2.2.1)),(1,.own (qe r.2.2.2))]) := by
 refine fnOk_rfG (b := false) (nt := 109) (Post := (fun rr oo => rr = .tup [.d (eint r.1),.d (eErr r.2.1)] ∧ oo = lk [(0,.own (qd 1 r.2.2.1)),(1,.own (qe r.2.2.2))])) Try.func15 rfl rfl rfl ?_
 intro E hEo hEk
 unfold qy2 at h
 refine rf_seq (cwR (.X 2 rfl<|.A rfl<|.A rfl<|.nil rfl) ?_)
 have ⟨o0,hj0,h0⟩ := bdS h
 refine rf_join (fun (z : Unit) => St.of [(1,.d (eint a1)),(2,.d (eSC a2)),(3,.ptr 2 0)] [(0,.own (qd 1 a0)),(1,.own (qe b1)),(2,.box (.ifc 55 (.ptr 0 0)))]) (fun (z : Unit) => o0 = (.inl z)) ?_ ?_
 ·intro v0 hv0; subst hv0
  simp only [zN] at h0
  refine rf_seq ?_
  refine cSR (.M rfl<|.c (qU (enc := eCg) (xs := a2) rfl rfl .no rfl sl22)<|.B rfl (qh0 _ _) rfl<|.nil rfl) ?_
  refine cwC h0 rfl ?_ ?_
  ·intro hc0 h1
   have ⟨x0,hx0,h3⟩ := bdS h1
   refine cSR (.L [] rfl ta90 rfl<|.M rfl<|.c (qG (fun n => bif Nat.beq n 0 then 0 else 1) rfl rfl .no Try.func33 rfl rfl (tree_Clone_f_ok hx0) (.cons rfl (.ip rfl) (.cons rfl .d .nil)) (qu2 rfl ⟨(by simp [AV.live,lk,Nat.beq]),tV,tV⟩ (by decide) rfl (by simp [qd,OB.live,OD.live,OD.lives,AV.live,lk,Nat.beq]) rfl (OD.dat_live (qc _)) (by simp)) (.inl rfl))<|.A rfl<|.nil rfl) ?_
   refine cwS (cSR (.M rfl<|.B rfl (qT2 _ _) rfl<|.nil rfl) ?_)
   refine cwC h3 rfl ?_ ?_
   ·intro hc1 h4
    refine cSR (.M rfl<|.A rfl<|.A rfl<|.nil rfl) ?_
    obtain rfl := zQ h4
    exact rt2 rfl rfl rfl rfl
   intro hc1 h5
   refine cwK (cSR (.M rfl<|.A rfl<|.A rfl<|.nil rfl) ?_)
   obtain rfl := zQ h5
   exact rt2 rfl rfl rfl rfl
  intro hc0 h2
  refine cwK ?_
  refine rf_seq (cwR (.L [] rfl ta90 rfl<|.c (o_bldA rfl rfl .no zo93 rfl pl93 (.cons rfl rfl rfl rfl rfl rfl rfl .nil))<|.X 4 rfl<|.A rfl<|.nil rfl) ?_)
  have ⟨x1,hx1,h6⟩ := bdS h2
  refine rf_seq (cwR (.M rfl<|.c (qc0 rfl rfl .no Try.func35 rfl rfl (qk5 hx1) (.cons rfl .d .nil) ⟨tV,tV⟩ (.inl rfl))<|.A rfl<|.nil rfl) ?_)
  refine rf_seq (cwR (.c (o_bslO (rows := ([] : List ttP).map qh) 5 rfl rfl .no .nil rfl sl95 qH1 qj4 rfl (q51 qo) (by decide) rfl)<|.A rfl<|.A rfl<|.nil rfl) ?_)
  have ⟨o1,hj1,h7⟩ := bdS h6
  refine rf_join (fun (z : (Int × (List ttP) × (Int × Int) × ttM × (List Int))) => St.of [(3,.ptr 2 0),(11,.ptr 4 0),(12,.d (eint z.1)),(13,.d (qi z.2.1))] [(0,.own (qd 1 z.2.2.1)),(1,.own (qe z.2.2.2.1)),(2,.box (.ifc 55 (.ptr 0 0))),(4,.own (qf 0 z.2.2.2.2))]) (fun (z : (Int × (List ttP) × (Int × Int) × ttM × (List Int))) => o1 = (.inl z)) ?_ ?_
  ·intro v1 hv1; subst hv1
   simp only [zN] at h7
   have ⟨x2,hx2,h8⟩ := bdS h7
   refine rf_seq (cwR (.M rfl<|.M rfl<|.c (qc0 rfl rfl .no Try.func39 rfl rfl (tree_top_ok hx2) (.cons rfl .d (.cons rfl .d .nil)) ⟨tV,tV,tV⟩ (.inl rfl))<|.M rfl<|.E rfl<|.E rfl<|.E rfl<|.c (qb0 8 rfl rfl .no qj4 rfl)<|.c (o_st [] rfl .no rfl rfl rfl rfl rfl qH1 (qo x2.1) (qo ((List.replicate 24 0),0,(none : Option Fr))))<|.A rfl<|.A rfl<|.nil rfl) ?_)
   refine rf_seq ?_
   have ⟨o2,hj2,h9⟩ := bdS h8
   refine cwJ (fun (z : Bool) => St.of [(3,.ptr 2 0),(11,.ptr 4 0),(16,.ptr 8 0),(18,.d (eErr x2.2.2)),(87,.d (qW z))] [(0,.own (qd 1 v1.2.2.1)),(1,.own (qe v1.2.2.2.1)),(2,.box (.ifc 55 (.ptr 0 0))),(4,.own (qf 0 v1.2.2.2.2)),(8,.box (.d (qh x2.1)))]) (fun z => o2 = z) ?_ ?_
   ·intro v2 hv2; subst hv2
    refine cwC h9 rfl ?_ ?_
    ·intro hc2 h10
     refine cSR (.M rfl<|.A rfl<|.A rfl<|.nil rfl) ?_
     obtain rfl := zQ h10
     exact rt2 rfl rfl rfl rfl
    intro hc2 h11
    refine cwK ?_
    have ⟨x3,hx3,h12⟩ := bdS h11
    refine rf_seq (cwR (.M rfl<|.c (qC [] rfl rfl .no rfl rfl rfl qD5 rfl (qo x2.1))<|.c (qG (fun n => bif Nat.beq n 0 then 4 else bif Nat.beq n 1 then 0 else 1) rfl rfl .no Try.func40 rfl rfl (qr4 hx3) (.cons rfl (.p rfl) (.cons rfl .d .nil)) (ql1 [] rfl ⟨(by simp [AV.live,AV.lives,lk,Nat.beq]),tV,tV⟩ ⟨⟨rfl,(by simp [qf,OB.live,OD.live,OD.lives,AV.live,lk,Nat.beq])⟩,⟨rfl,(by simp [qd,OB.live,OD.live,OD.lives,AV.live,lk,Nat.beq])⟩,⟨rfl,(OD.dat_live (qc _))⟩,tV⟩ rfl rfl rfl trivial rfl) (.inl rfl))<|.M rfl<|.E rfl<|.E rfl<|.A rfl<|.A rfl<|.nil rfl) ?_)
    rcases cdS h12 with ⟨hc3,h13⟩ | ⟨hc3,h14⟩
    ·refine rf_seqR ?_
     refine rf_seqT (cwR (.M rfl<|.B rfl (qT2 _ _) rfl<|.nil rfl
     ) ⟨rfl,?_⟩)
     refine rf_condT rfl hc3 ?_
     have ⟨x4,hx4,h15⟩ := bdS h13
     obtain rfl := zQ h15
     refine rf_leads (lOp (o := 4) (y := .st [.ifc 55 (.ptr 0 0),.arr 9 0]) (news := [(9,.arr 0 1 (x3.2.2.1.map eint))]) rfl (.st (.cons (.av rfl) (.cons (.arr rfl) .nil))) rfl rfl ⟨rfl,tV⟩) ?_
     refine rf_leads (show Leads _ _ (St.of [(3,.ptr 2 0),(11,.ptr 4 0),(18,.d (eErr x3.2.1))] [(0,.own (qd 1 x3.2.2.2.1)),(1,.own (qe x3.2.2.2.2)),(2,.box (.ifc 55 (.ptr 0 0))),(4,.box (.st [.ifc 55 (.ptr 0 0),.d (qb6 x3.2.2.1)]))]) from .w (wkF ⟨wP rfl,wP rfl,wD rfl,tV⟩ ⟨oF rfl,oM rfl,.box rfl (.ifc (.ptro rfl rfl)),.box rfl (.st (.cons (.ifc (.ptro rfl rfl)) (.cons (.frz rfl rfl rfl) .nil))),tV⟩ (qq rfl))) ?_
     refine rf_range (gf := 64) (k := 2) (nt := 109) (caps := [.ptr 3 0]) (s3 := St.of [(3,.ptr 2 0),(18,.d (eErr x3.2.1)),(101,.fn 64 [] [.ptr 3 0])] [(0,.own (qd 1 x3.2.2.2.1)),(1,.own (qe x3.2.2.2.2)),(2,.box (.ifc 55 (.ptr 0 0))),(3,.box (.d (qb6 x3.2.2.1)))]) (m4 := [(0,.own (qd 1 x4.1)),(1,.own (qe x4.2)),(2,.box (.ifc 55 (.ptr 0 0))),(3,.box (.d (qb6 x3.2.2.1)))]) hEk ?_ rfl (enters_of Try.func64 (by kernel_rfl) rfl) ?_ ?_
     ·refine cwP (cwR (.M rfl<|.K rfl<|.F rfl qy5 rfl<|.L [1] rfl ta59 rfl<|.c (qG (fun _ => 3) rfl rfl .no Try.func41 rfl rfl (backward_ok (l := x3.2.2.1)) (.cons rfl .d .nil) (ql1 [0] rfl ⟨tV,tV⟩ trivial rfl rfl rfl ⟨rfl,tV⟩ rfl) (.inl rfl))<|.nil rfl) ?_)
      exact ⟨_,(wA2 [(3,.ptr 2 0),(18,.d (eErr x3.2.1)),(101,.fn 64 [] [.ptr 3 0])] [(0,.own (qd 1 x3.2.2.2.1)),(1,.own (qe x3.2.2.2.2)),(2,.box (.ifc 55 (.ptr 0 0))),(3,.box (.d (qb6 x3.2.2.1)))] rfl),rfl,rfl⟩
     ·intro l rec E0 vals e1 e2 e3 e4 e5 e6 e7 e8 e9 e10 e11 e12 e13
      exact back_it hx4 l rec E0 vals e1 e2 e3 e4 e5 e8 e9 e10 e11 (e12 3 _ rfl) e13 (by
       intro l fr m x r h
       rw [e6,e7]
       exact ⟨_,3,lk_lt (m := bkM (fr,m)) rfl,cr_post (cr_region (.cons (uA rfl) <| .nil rfl) ⟨_,(wA2 [(3,.ptr 2 0),(21,.d (eint x))] [(0,.own (qd 1 fr)),(1,.own (qe m)),(2,.box (.ifc 55 (.ptr 0 0)))] rfl),rfl,rfl⟩),cr_post (cr_block (cr_region (.L [] rfl ta90 rfl<|.M rfl<|.c (qc6 (fun n => bif Nat.beq n 0 then 0 else 1) rfl rfl .no rfl Try.func128 rfl rfl rfl hm55_Dec (qW4 h) (.cons rfl (.p rfl) (.cons rfl .d .nil)) (by decide) (qu2 rfl ⟨(by simp [AV.live,lk,Nat.beq]),tV,tV⟩ (by decide) rfl (by simp [qd,OB.live,OD.live,OD.lives,AV.live,lk,Nat.beq]) rfl (OD.dat_live (qc _)) (by simp)) (.inl rfl))<|.nil rfl) ⟨_,(wA2 [] [(0,.own (qd 1 r.2.2.1)),(1,.own (qe r.2.2.2)),(2,.box (.ifc 55 (.ptr 0 0)))] rfl),rfl,rfl⟩))⟩)
     ·intro ds
      refine cr_seq (cr_region (.M rfl<|.A rfl<|.A rfl<|.nil rfl) ?_)
      refine cr_leads (wA2 [(6,.d (eint 0)),(7,.d (eErr x3.2.1))] [(0,.own (qd 1 x4.1)),(1,.own (qe x4.2))] rfl) ?_
      exact cr_ret ⟨rfl,⟨2,lk_lt rfl⟩,_,res2 rfl rfl rfl,rfl,rfl⟩
    refine rf_plain ?_
    refine cwS (cSR (.M rfl<|.B rfl (qT2 _ _) rfl<|.nil rfl) ?_)
    refine cwF rfl hc3 ?_
    refine cwK (cSR (.M rfl<|.A rfl<|.A rfl<|.nil rfl) ?_)
    obtain rfl := zQ h14
    exact rt2 rfl rfl rfl rfl
   rcases cdS hj2 with ⟨hc4,h16⟩ | ⟨hc4,h17⟩
   ·skip
    refine cwR (.M rfl<|.B rfl (qT2 _ _) rfl<|.M rfl<|.G rfl rfl hc4<|.G rfl rfl hc4<|.I rfl hc4<|.nil rfl) ?_
    exact ⟨true,(sJ h16),wA1 rfl⟩
   refine cwR (.M rfl<|.B rfl (qT2 _ _) rfl<|.M rfl<|.c (o_mv rfl rfl (.yes rfl rfl hc4) rfl)<|.c (qb5 rfl rfl (.yes rfl rfl hc4) rfl)<|.J rfl hc4<|.nil rfl) ?_
   exact ⟨(!x2.2.1),(sJ h17),wA1 rfl⟩
  refine cSR (.M rfl<|.B rfl (qh0 _ _) rfl<|.nil rfl) ?_
  refine cwC hj1 rfl ?_ ?_
  ·intro hc5 h18
   have ⟨x5,hx5,h20⟩ := bdS h18
   have ⟨x6,hx6,h21⟩ := bdS h20
   refine cwR (.M rfl<|.c (qc0 rfl rfl .no Try.func37 rfl rfl (q53 hx5) (.cons rfl .nil (.cons rfl .d .nil)) ⟨tV,tV,tV⟩ (.inl rfl))<|.c (qc0 rfl rfl .no Try.func36 rfl rfl (qW1 hx6) (.cons rfl .d .nil) ⟨tV,tV⟩ (.inl rfl))<|.A rfl<|.nil rfl) ?_
   exact ⟨(0,x6,a0,b1,[]),(sJ h21),.trans (lPk (o := 4) (y := .st [.ifc 55 (.ptr 0 0),.d (.v (.slice none 0 0))]) (x := qf 0 ([])) (l := [(3,.ptr 2 0),(11,.ptr 4 0),(12,.d (eint 0)),(13,.d (qi x6))]) (m := [(0,.own (qd 1 a0)),(1,.own (qe b1)),(2,.box (.ifc 55 (.ptr 0 0))),(4,.own (qf 0 ([])))]) rfl (.st (.cons (.av rfl) (.cons (.nil rfl) .nil))) rfl rfl ⟨⟨rfl,(by simp [AV.live,AV.lives,lk,Nat.beq])⟩,⟨rfl,(by simp [AV.live,AV.lives,lk,Nat.beq])⟩,⟨rfl,tV⟩,⟨rfl,tV⟩,tV⟩ ⟨(.inr ⟨rfl,(by simp [qd,OB.live,OD.live,OD.lives,AV.live,lk,Nat.beq])⟩),(.inr ⟨rfl,(OD.dat_live (qc _))⟩),(.inr ⟨rfl,(by simp [OB.live,AV.live,AV.lives,lk,Nat.beq])⟩),.inl rfl,tV⟩ rfl (by simp [qf,OB.live,OD.live,OD.lives,AV.live,lk,Nat.beq]) trivial (qq rfl)) (wA1 rfl)⟩
  intro hc5 h19
  have ⟨x7,hx7,h22⟩ := bdS h19
  refine cSR (.L [] rfl ta90 rfl<|.M rfl<|.c (qc6 (fun n => bif Nat.beq n 0 then 0 else bif Nat.beq n 1 then 1 else 6) rfl rfl .no rfl Try.func129 rfl rfl rfl hm55_Get (qh3 hx7) (.cons rfl (.p rfl) (.cons rfl .d .nil)) (by decide) (ql1 [2] rfl ⟨(by simp [AV.live,AV.lives,lk,Nat.beq]),tV,tV⟩ ⟨⟨rfl,(by simp [qd,OB.live,OD.live,OD.lives,AV.live,lk,Nat.beq])⟩,⟨rfl,(OD.dat_live (qc _))⟩,tV⟩ rfl rfl rfl ⟨rfl,tV⟩ rfl) (.inl rfl))<|.M rfl<|.E rfl<|.E rfl<|.c (qb0 7 rfl rfl .no ze46 rfl)<|.S [] rfl sz46 rfl<|.A rfl<|.nil rfl) ?_
  refine cwS (cSR (.M rfl<|.B rfl (qT2 _ _) rfl<|.nil rfl) ?_)
  refine cwC h22 rfl ?_ ?_
  ·intro hc6 h23
   refine cSR (.M rfl<|.A rfl<|.A rfl<|.nil rfl) ?_
   have he0 := ((sJ h23)).symm
   subst he0
   obtain rfl := zQ h7
   exact rt2 rfl rfl rfl rfl
  intro hc6 h24
  refine cwK (cSR (.F rfl qG1 rfl<|.L [0] rfl ta3 rfl<|.A rfl<|.nil rfl) ?_)
  refine cwL (lPk (o := 4) (y := .st [.ifc 55 (.ptr 0 0),.d (.v (.slice none 0 0))]) (x := qf 0 ([])) (l := [(1,.d (eint a1)),(2,.d (eSC x1)),(3,.ptr 2 0),(11,.ptr 4 0),(12,.d (eint x7.1.1))]) (m := [(0,.own (qd 1 x7.2.2.1)),(1,.own (qe x7.2.2.2)),(2,.box (.ifc 55 (.ptr 0 0))),(4,.own (qf 0 ([])))]) rfl (.st (.cons (.av rfl) (.cons (.nil rfl) .nil))) rfl rfl ⟨⟨rfl,tV⟩,⟨rfl,tV⟩,⟨rfl,(by simp [AV.live,AV.lives,lk,Nat.beq])⟩,⟨rfl,(by simp [AV.live,AV.lives,lk,Nat.beq])⟩,⟨rfl,tV⟩,tV⟩ ⟨(.inr ⟨rfl,(by simp [qd,OB.live,OD.live,OD.lives,AV.live,lk,Nat.beq])⟩),(.inr ⟨rfl,(OD.dat_live (qc _))⟩),(.inr ⟨rfl,(by simp [OB.live,AV.live,AV.lives,lk,Nat.beq])⟩),.inl rfl,tV⟩ rfl (by simp [qf,OB.live,OD.live,OD.lives,AV.live,lk,Nat.beq]) trivial (qq rfl)) ?_
  have ⟨x8,hx8,h25⟩ := bdS h24
  refine cSR (.M rfl<|.M rfl<|.M rfl<|.c (qG (fun n => bif Nat.beq n 0 then 4 else bif Nat.beq n 1 then 0 else 1) rfl rfl .no Try.func38 rfl rfl (qJ4 hx8) (.cons rfl (.p rfl) (.cons rfl .d (.cons rfl .d .nil))) (ql1 [] rfl ⟨(by simp [AV.live,AV.lives,lk,Nat.beq]),tV,tV,tV⟩ ⟨⟨rfl,(by simp [qf,OB.live,OD.live,OD.lives,AV.live,lk,Nat.beq])⟩,⟨rfl,(by simp [qd,OB.live,OD.live,OD.lives,AV.live,lk,Nat.beq])⟩,⟨rfl,(OD.dat_live (qc _))⟩,tV⟩ rfl rfl rfl trivial rfl) (.inl rfl))<|.M rfl<|.E rfl<|.E rfl<|.A rfl<|.A rfl<|.nil rfl) ?_
  refine cSR (.M rfl<|.B rfl (qT2 _ _) rfl<|.nil rfl) ?_
  refine cwC h25 rfl ?_ ?_
  ·intro hc7 h26
   refine cSR (.M rfl<|.A rfl<|.A rfl<|.nil rfl) ?_
   have he1 := ((sJ h26)).symm
   subst he1
   obtain rfl := zQ h7
   exact rt2 rfl rfl rfl rfl
  intro hc7 h27
  refine cwK ?_
  exact ⟨(x7.1.1,x8.1,x8.2.2.2.1,x8.2.2.2.2,x8.2.2.1),(sJ h27),wA1 rfl⟩
 refine cSR (.M rfl<|.c (qU (enc := eCg) (xs := a2) rfl rfl .no rfl sl22)<|.M rfl<|.nil rfl) ?_
 refine cwB (qK (fun (z : Int) => St.of [(1,.d (eint a1)),(2,.d (eSC a2)),(3,.ptr 2 0),(22,.d (eSC a2)),(23,.d (eint (a2.length : Int))),(24,.d (eint z))] [(0,.own (qd 1 a0)),(1,.own (qe b1)),(2,.box (.ifc 55 (.ptr 0 0)))]) hj0 (wA1 rfl) ?_)
 intro v3 x9 hb0 hx9
 refine cSR (.B rfl (qO0 _ _) rfl<|.nil rfl) ?_
 refine cwS (cwC hb0 rfl ?_ ?_)
 ·intro hc8 h28
  refine cwK ?_
  refine cwS (cwB ?_)
  have ⟨x10,hx10,h30⟩ := bdS h28
  have hx10g := qB hx10
  refine cSR (.c (qs1 (enc := eCg) (xs := a2) rfl rfl .no rfl rfl sl22 sz33 hx10g.1 hx10g.2)<|.c (o_ld rfl rfl .no rfl ta33 rfl rfl)<|.c (qb0 3 rfl rfl .no ze33 rfl)<|.S [] rfl sz33 rfl<|.nil rfl) ?_
  refine cSR (.F rfl q16 rfl<|.L [1] rfl ta9 rfl<|.c (o_lenS rfl rfl .no rfl un9)<|.B rfl (qT3 _ _) rfl<|.nil rfl) ?_
  refine cwC h30 rfl ?_ ?_
  ·intro hc9 h31
   refine cSR (.A rfl<|.A rfl<|.nil rfl) ?_
   have he2 := ((hx9 _ (sJ h31)).symm).symm
   subst he2
   obtain rfl := zQ h0
   exact rt2 rfl rfl rfl rfl
  intro hc9 h32
  refine cwK (cwR (.B rfl (qR0 _ _) rfl<|.M rfl<|.nil rfl) ?_)
  exact ⟨(IntKind.wrap .i64 (v3 + 1)),(sJ h32),wA1 rfl⟩
 intro hc8 h29
 refine qR ?_
 exact ⟨(),(hx9 _ (sJ h29)).symm,wA1 rfl⟩
end
end Go.Val
