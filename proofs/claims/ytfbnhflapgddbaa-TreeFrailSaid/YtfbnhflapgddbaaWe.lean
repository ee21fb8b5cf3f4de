/- Walks of the program's functions,printed. -/
import Derived.Test.YtfbnhflapgddbaaWd
set_option linter.all false
set_option maxRecDepth 100000
namespace Go.Val
open Go.RowKit Go.Proofs
section
variable [NoDrw]
noncomputable def qI1 (self : ttM → Int → ttS → Option ((List ttR) × Int × ttM)) (a0 : ttM) (a1 : Int) (a2 : ttS) : Option ((List ttR) × Int × ttM) := cond (decide (a1 = 0)) (some ([],0,a0)) ((qx a0 a1).bind fun x0 => cond (decide (x0.2.1 ≠ 0)) (some ([],x0.2.1,x0.2.2)) ((((qN (V := (Int × (List ttR))) (O := (List ttR)) (fun v0 =>
     cond (decide (v0.1 < (x0.1.2.1.length : Int))) (((((gx x0.1.2.1 v0.1).bind fun x1 => (qT5 a2 x1.1).bind fun x2 => cond x2 ((fits (v0.2.length + ([x1]).length) 40).bind fun _ => some (v0.2 ++ [x1])) (some v0.2)) : Option (List ttR))).bind fun o0 => some (.inl ((IntKind.wrap .i64 (v0.1 + 1)),o0))) (some (.inr v0.2))) (0,[])) : Option (List ttR))).bind fun o1 => (((
    qN (V := (Int × ttM × (List ttR))) (O := ((ttM × (List ttR)) ⊕ ((List ttR) × Int × ttM))) (fun v1 => cond (decide (v1.1 < (x0.1.2.2.length : Int))) (((((((cond (decide ((IntKind.wrap .i64 (v1.1 + 1)) < (x0.1.2.2.length : Int))) ((gx x0.1.2.2 (IntKind.wrap .i64 (v1.1 + 1))).bind fun x3 => (qD x3.1 a2.1).bind fun x4 => some (decide (x4 ≤ 0))) (some false)
       ) : Option Bool)).bind fun o2 => (((cond (!a2.2.2) ((gx x0.1.2.2 v1.1).bind fun x5 => (qD x5.1 a2.2.1).bind fun x6 => some (decide (x6 ≥ 0))) (some false)) : Option Bool)).bind fun o3 => (((cond o2 (some true) (some o3)) : Option Bool)).bind fun o4 => cond o4 (some (.inl (v1.2.1,v1.2.2))) ((gx x0.1.2.2 v1.1).bind fun x7 => (self v1.2.1 x7.2 a2).bind fun x8 =>
        cond (decide (x8.2.1 ≠ 0)) (some (.inr ([],x8.2.1,x8.2.2))) ((fits (v1.2.2.length + x8.1.length) 40).bind fun _ => some (.inl (x8.2.2,(v1.2.2 ++ x8.1)))))) : Option ((ttM × (List ttR)) ⊕ ((List ttR) × Int × ttM)))).bind fun o5 => Sum.elim (fun (v2 : (ttM × (List ttR))) => some (.inl ((IntKind.wrap .i64 (v1.1 + 1)),v2.1,v2.2))) (fun w0 => some (.inr (.inr w0))) o5) (
      some (.inr (.inl (v1.2.1,v1.2.2))))) (0,x0.2.2,o1)) : Option ((ttM × (List ttR)) ⊕ ((List ttR) × Int × ttM)))).bind fun o6 => Sum.elim (fun (v3 : (ttM × (List ttR))) => some (v3.2,0,v3.1)) (fun w1 => some w1) o6))
noncomputable def qP1 : Nat → ttM → Int → ttS → Option ((List ttR) × Int × ttM) | 0 => fun _ _ _ => none | n + 1 => qI1 (qP1 n)
noncomputable def qp1 (a0 : ttM) (a1 : Int) (a2 : ttS) : Option ((List ttR) × Int × ttM) := qP1 16 a0 a1 a2
noncomputable def q91 (self : ttM → Int → Option (Int × ttM)) (a0 : ttM) (a1 : Int) : Option (Int × ttM) := cond (decide (a1 = 0)) (some (0,a0)) ((qx a0 a1).bind fun x0 => cond (decide (x0.2.1 ≠ 0)) (some (x0.2.1,x0.2.2)) ((q80 x0.2.2 a1).bind fun x1 => (((cond (decide (x1.2.1 ≠ 0)) (some true) (some (!x1.1))) : Option Bool)).bind fun o0 => cond o0 (
    some (x1.2.1,x1.2.2)) ((((qN (V := (Int × ttM)) (O := (ttM ⊕ (Int × ttM))) (fun v0 => cond (decide (v0.1 < (x0.1.2.2.length : Int))) ((gx x0.1.2.2 v0.1).bind fun x2 => (self v0.2 x2.2).bind fun x3 => cond (decide (x3.1 ≠ 0)) (some (.inr (.inr (x3.1,x3.2)))) (some (.inl ((IntKind.wrap .i64 (v0.1 + 1)),x3.2)))) (some (.inr (.inl v0.2)))) (0,x1.2.2)
    ) : Option (ttM ⊕ (Int × ttM)))).bind fun o1 => Sum.elim (fun (v1 : ttM) => some (0,v1)) (fun w0 => some w0) o1)))
noncomputable def q41 : Nat → ttM → Int → Option (Int × ttM) | 0 => fun _ _ => none | n + 1 => q91 (q41 n)
noncomputable def qk2 (a0 : ttM) (a1 : Int) : Option (Int × ttM) := q41 16 a0 a1
noncomputable def qP3 (a0 : List ttR) (a1 : List UInt8) : Option (List ttR) := (((qN (V := (Int × (List ttR))) (O := (List ttR)) (fun v0 => cond (decide (v0.1 < (a0.length : Int))) (((((gx a0 v0.1).bind fun x0 => cond (!(decide (x0.1 = a1))) ((fits (v0.2.length + ([x0]).length) 40).bind fun _ => some (v0.2 ++ [x0])) (some v0.2)) : Option (List ttR))).bind fun o0 =>
    some (.inl ((IntKind.wrap .i64 (v0.1 + 1)),o0))) (some (.inr v0.2))) (0,([] : List ttR))) : Option (List ttR))).bind fun o1 => some o1
noncomputable def qG4 (a0 : List ttR) (a1 : ttR) : Option (List ttR) := (((qN (V := (Bool × Int × (List ttR))) (O := (Bool × (List ttR))) (fun v0 => cond (decide (v0.2.1 < (a0.length : Int))) (((((gx a0 v0.2.1).bind fun x0 => (qG3 a1.1 x0.1).bind fun x1 => ((((((cond (!v0.1) (cond x1 (some true) (some (decide (x0.1 = a1.1)))) (some false)) : Option Bool)).bind fun o0 => cond o0 (
       (fits (v0.2.2.length + ([a1]).length) 40).bind fun _ => some (true,(v0.2.2 ++ [a1]))) (some (v0.1,v0.2.2))) : Option (Bool × (List ttR)))).bind fun o1 => cond (!(decide (x0.1 = a1.1))) ((fits (o1.2.length + ([x0]).length) 40).bind fun _ => some (o1.1,(o1.2 ++ [x0]))) (some (o1.1,o1.2))) : Option (Bool × (List ttR)))).bind fun o2 =>
    some (.inl (o2.1,(IntKind.wrap .i64 (v0.2.1 + 1)),o2.2))) (some (.inr (v0.1,v0.2.2)))) (false,0,([] : List ttR))) : Option (Bool × (List ttR)))).bind fun o3 => (((cond (!o3.1) ((fits (o3.2.length + ([a1]).length) 40).bind fun _ => some (o3.2 ++ [a1])) (some o3.2)) : Option (List ttR))).bind fun o4 => some o4
noncomputable def qo1 (a0 : List ttR) (a1 : List ttC) : Option (List ttR) := (((qN (V := ((List ttR) × Int)) (O := (List ttR)) (fun v0 => cond (decide (v0.2 < (a1.length : Int))) (((((gx a1 v0.2).bind fun x0 => cond x0.2.2 ((qP3 v0.1 x0.1).bind fun x1 => some x1) ((qG4 v0.1 (x0.1,x0.2.1)).bind fun x2 => some x2)) : Option (List ttR))).bind fun o0 =>
    some (.inl (o0,(IntKind.wrap .i64 (v0.2 + 1))))) (some (.inr v0.1))) (a0,0)) : Option (List ttR))).bind fun o1 => some o1
theorem qj5 {self : ttM → Int → ttS → Option ((List ttR) × Int × ttM)} (self_ok : ∀ {a0 : ttM} {a1 : Int} {a2 : ttS} {r : ((List ttR) × Int × ttM)},self a0 a1 a2 = some r → FnOk Try.prog 17 [.ifc 24 (.ptr 0 0),.d (eint a1),.d (eSp a2)] 1 (lk [(0,.own (qe a0))]) (fun rr oo => rr = .tup [.d (eSP_ r.1),.d (eErr r.2.1)] ∧ oo = lk [(0,.own (qe r.2.2))])) {a0 : ttM} {a1 : Int} {a2 : ttS} {r : ((List ttR) × Int × ttM)} (h : qI1 self a0 a1 a2 = some r) : FnOk Try.prog 17 [.ifc 24 (.ptr 0 0),.d (eint a1),.d (eSp a2)] 1 (lk [(0,.own (qe a0))]) (fun rr oo => rr = .tup [.d (eSP_ r.1),.d (eErr r.2.1)] ∧ oo = lk [(0,.own (qe r.2.2))]) := by
 refine fnO Try.func17 rfl rfl (cwP ?_)
 unfold qI1 at h
 refine cSR (.X 1 rfl<|.A rfl<|.A rfl<|.nil rfl) ?_
 refine cwS (cSR (.M rfl<|.B rfl (qh0 _ _) rfl<|.nil rfl) ?_)
 refine cwC h rfl ?_ ?_
 ·intro hc0 h0
  refine cSR (.A rfl<|.A rfl<|.nil rfl) ?_
  obtain rfl := zQ h0
  exact qv ⟨_,(show Leads _ _ (St.of [(6,.d (eSP_ ([]))),(7,.d (eErr 0))] [(0,.own (qe a0))]) from .w (wkF ⟨⟨_,rfl,.nil0⟩,wD rfl,tV⟩ ⟨oM rfl,tV⟩ (qq rfl))),.inr rfl,_,res2 rfl rfl rfl,rfl,rfl⟩
 intro hc0 h1
 refine cwK ?_
 have ⟨x0,hx0,h2⟩ := bdS h1
 refine cSR (.M rfl<|.M rfl<|.c (qc6 (fun n => bif Nat.beq n 0 then 0 else 2) rfl rfl .no rfl Try.func23 rfl rfl rfl q05 (qk0 hx0) (.cons rfl (.p rfl) (.cons rfl .d .nil)) (by decide) (ql1 [1] rfl ⟨(by simp [AV.live,AV.lives,lk,Nat.beq]),tV,tV⟩ ⟨⟨rfl,(OD.dat_live (qc _))⟩,tV⟩ rfl rfl rfl ⟨rfl,tV⟩ rfl) (.inl rfl))<|.M rfl<|.E rfl<|.E rfl<|.c (qb0 3 rfl rfl .no ze46 rfl)<|.S [] rfl sz46 rfl<|.A rfl<|.nil rfl) ?_
 refine cwS (cSR (.M rfl<|.B rfl (qT2 _ _) rfl<|.nil rfl) ?_)
 refine cwC h2 rfl ?_ ?_
 ·intro hc1 h3
  refine cSR (.M rfl<|.A rfl<|.A rfl<|.nil rfl) ?_
  obtain rfl := zQ h3
  exact qv ⟨_,(show Leads _ _ (St.of [(6,.d (eSP_ ([]))),(7,.d (eErr x0.2.1))] [(0,.own (qe x0.2.2))]) from .w (wkF ⟨⟨_,rfl,.nil0⟩,wD rfl,tV⟩ ⟨oM rfl,tV⟩ (qq rfl))),.inr rfl,_,res2 rfl rfl rfl,rfl,rfl⟩
 intro hc1 h4
 refine cwK (cSR (.A rfl<|.nil rfl) ?_)
 have ⟨o0,hj0,h5⟩ := bdS h4
 refine cwJ (fun (z : (List ttR)) => St.of [(0,.ifc 24 (.ptr 0 0)),(5,.ptr 1 0),(8,.ptr 3 0),(10,.arr 5 0)] [(0,.own (qe x0.2.2)),(1,.box (.d (eSp a2))),(3,.box (.d (qw x0.1))),(5,.arr 0 25 (z.map ePr))]) (fun z => o0 = z) ?_ ?_
 ·intro v0 hv0; subst hv0
  have ⟨o1,hj1,h6⟩ := bdS h5
  refine cwJ (fun (z : (ttM × (List ttR))) => St.of [(10,.arr 5 0)] [(0,.own (qe z.1)),(5,.arr 0 25 (z.2.map ePr))]) (fun z => o1 = (.inl z)) ?_ ?_
  ·intro v1 hv1; subst hv1
   simp only [zN] at h6
   refine cSR (.M rfl<|.A rfl<|.A rfl<|.nil rfl) ?_
   obtain rfl := zQ h6
   exact rt2 rfl rfl rfl rfl
  refine cSR (.F rfl q31 rfl<|.L [2] rfl ta44 rfl<|.c (qU (enc := q50) (xs := x0.1.2.2) rfl rfl .no rfl sl44)<|.M rfl<|.nil rfl) ?_
  refine cwB (qK (fun (z : (Int × ttM × (List ttR))) => St.of [(0,.ifc 24 (.ptr 0 0)),(5,.ptr 1 0),(8,.ptr 3 0),(10,.arr 5 0),(47,.d (eint (x0.1.2.2.length : Int))),(48,.d (eint z.1))] [(0,.own (qe z.2.1)),(1,.box (.d (eSp a2))),(3,.box (.d (qw x0.1))),(5,.arr 0 25 (z.2.2.map ePr))]) hj1 (wA1 rfl) ?_)
  intro v2 x1 hb0 hx1
  refine cSR (.B rfl (qO0 _ _) rfl<|.nil rfl) ?_
  refine cwS (cwC hb0 rfl ?_ ?_)
  ·intro hc2 h7
   refine cwK ?_
   have ⟨o2,hj2,h9⟩ := bdS h7
   refine cwJ (fun (z : (ttM × (List ttR))) => St.of [(0,.ifc 24 (.ptr 0 0)),(5,.ptr 1 0),(8,.ptr 3 0),(10,.arr 5 0),(47,.d (eint (x0.1.2.2.length : Int))),(48,.d (eint v2.1))] [(0,.own (qe z.1)),(1,.box (.d (eSp a2))),(3,.box (.d (qw x0.1))),(5,.arr 0 25 (z.2.map ePr))]) (fun z => o2 = (.inl z)) ?_ ?_
   ·intro v3 hv2; subst hv2
    simp only [zN] at h9
    refine cwR (.B rfl (qR0 _ _) rfl<|.M rfl<|.nil rfl) ?_
    exact ⟨((IntKind.wrap .i64 (v2.1 + 1)),v3.1,v3.2),(sJ h9),wA1 rfl⟩
   refine cwB (cSR (.M rfl<|.A rfl<|.nil rfl) ?_)
   have ⟨o3,hj3,h10⟩ := bdS hj2
   refine cwJ (fun (z : Bool) => St.of [(0,.ifc 24 (.ptr 0 0)),(5,.ptr 1 0),(8,.ptr 3 0),(10,.arr 5 0),(13,.d (eint v2.1)),(14,.d (qW z)),(47,.d (eint (x0.1.2.2.length : Int))),(48,.d (eint v2.1))] [(0,.own (qe v2.2.1)),(1,.box (.d (eSp a2))),(3,.box (.d (qw x0.1))),(5,.arr 0 25 (v2.2.2.map ePr))]) (fun z => o3 = z) ?_ ?_
   ·intro v4 hv3; subst hv3
    have ⟨o4,hj4,h11⟩ := bdS h10
    refine cwJ (fun (z : Bool) => St.of [(0,.ifc 24 (.ptr 0 0)),(5,.ptr 1 0),(8,.ptr 3 0),(10,.arr 5 0),(13,.d (eint v2.1)),(14,.d (qW o3)),(15,.d (qW z)),(47,.d (eint (x0.1.2.2.length : Int))),(48,.d (eint v2.1))] [(0,.own (qe v2.2.1)),(1,.box (.d (eSp a2))),(3,.box (.d (qw x0.1))),(5,.arr 0 25 (v2.2.2.map ePr))]) (fun z => o4 = z) ?_ ?_
    ·intro v5 hv4; subst hv4
     refine cwS ?_
     have ⟨o5,hj5,h12⟩ := bdS h11
     refine cwJ (fun (z : Bool) => St.of [(0,.ifc 24 (.ptr 0 0)),(5,.ptr 1 0),(8,.ptr 3 0),(10,.arr 5 0),(13,.d (eint v2.1)),(47,.d (eint (x0.1.2.2.length : Int))),(48,.d (eint v2.1)),(88,.d (qW z))] [(0,.own (qe v2.2.1)),(1,.box (.d (eSp a2))),(3,.box (.d (qw x0.1))),(5,.arr 0 25 (v2.2.2.map ePr))]) (fun z => o5 = z) ?_ ?_
     ·intro v6 hv5; subst hv5
      refine cwC h12 rfl ?_ ?_
      ·intro hc3 h13
       refine qR ?_
       exact ⟨(v2.2.1,v2.2.2),(sJ h13),wA1 rfl⟩
      intro hc3 h14
      refine cwK ?_
      have ⟨x2,hx2,h15⟩ := bdS h14
      have hx2g := qB hx2
      have ⟨x3,hx3,h16⟩ := bdS h15
      refine cwS (cwRA mixed (by kernel_rfl) (.M rfl<|.F rfl q31 rfl<|.L [2] rfl ta44 rfl<|.M rfl<|.c (qs1 (enc := q50) (xs := x0.1.2.2) rfl rfl .no rfl rfl sl44 sz69 hx2g.1 hx2g.2)<|.c (qO1 rfl rfl .no rfl qw3 (by decide) rfl rfl)<|.c (o_ld rfl rfl .no rfl ta3 rfl rfl)<|.L [] rfl ta38 rfl<|.c (qG (fun _ => 0) rfl rfl .no Try.func17 rfl rfl (self_ok hx3) (.cons rfl (.ip rfl) (.cons rfl .d (.cons rfl .d .nil))) (q20 rfl ⟨(by simp [AV.live,lk,Nat.beq]),tV,tV,tV⟩ rfl (OD.dat_live (qc _)) (by simp)) (.inl rfl))<|.M rfl<|.E rfl<|.E rfl<|.A rfl<|.A rfl<|.nil rfl) (by kernel_rfl) ?_)
      refine cwS (cSR (.M rfl<|.B rfl (qT2 _ _) rfl<|.nil rfl) ?_)
      refine cwC h16 rfl ?_ ?_
      ·intro hc4 h17
       refine cSR (.M rfl<|.A rfl<|.A rfl<|.nil rfl) ?_
       have he0 := ((sJ h17)).symm
       subst he0
       have he1 := ((hx1 _ (sJ h9)).symm).symm
       subst he1
       obtain rfl := zQ h6
       exact qv ⟨_,(show Leads _ _ (St.of [(6,.d (eSP_ ([]))),(7,.d (eErr x3.2.1))] [(0,.own (qe x3.2.2))]) from .w (wkF ⟨⟨_,rfl,.nil0⟩,wD rfl,tV⟩ ⟨oM rfl,tV⟩ (qq rfl))),.inr rfl,_,res2 rfl rfl rfl,rfl,rfl⟩
      intro hc4 h18
      refine cwK ?_
      have ⟨x4,hx4,h19⟩ := bdS h18
      have hx4g := qV hx4
      refine cwR (.M rfl<|.M rfl<|.c (q02 (enc := ePr) (xs := v2.2.2) (ys := x3.1) rfl rfl .no rfl rfl rfl qN0 sl34 sl34 sz52 by52 ze52 rfl (by decide) hx4g)<|.A rfl<|.nil rfl) ?_
      exact ⟨(x3.2.2,(v2.2.2 ++ x3.1)),(sJ h19),wA1 rfl⟩
     rcases cdS hj5 with ⟨hc5,h20⟩ | ⟨hc5,h21⟩
     ·skip
      refine cwR (.M rfl<|.M rfl<|.G rfl rfl hc5<|.I rfl hc5<|.nil rfl) ?_
      exact ⟨true,(sJ h20),wA1 rfl⟩
     refine cwR (.M rfl<|.M rfl<|.c (o_mv rfl rfl (.yes rfl rfl hc5) rfl)<|.J rfl hc5<|.nil rfl) ?_
     exact ⟨o4,(sJ h21),wA1 rfl⟩
    rcases cdS hj4 with ⟨hc6,h22⟩ | ⟨hc6,h23⟩
    ·skip
     have ⟨x5,hx5,h24⟩ := bdS h22
     have hx5g := qB hx5
     have ⟨x6,hx6,h25⟩ := bdS h24
     refine cwRA mixed (by kernel_rfl) (.F rfl fld38_2 rfl<|.L [2] rfl ta4 rfl<|.T rfl<|.M rfl<|.c (qu rfl rfl (.yes rfl rfl hc6) rfl q31 (by decide))<|.c (qC [2] rfl rfl (.yes rfl rfl hc6) rfl rfl rfl ta44 rfl rfl)<|.c (o_mv rfl rfl (.yes rfl rfl hc6) rfl)<|.c (qs1 (enc := q50) (xs := x0.1.2.2) rfl rfl (.yes rfl rfl hc6) rfl rfl sl44 sz69 hx5g.1 hx5g.2)<|.c (qO1 rfl rfl (.yes rfl rfl hc6) rfl qE4 (by decide) rfl rfl)<|.c (o_ld rfl rfl (.yes rfl rfl hc6) rfl ta31 rfl rfl)<|.c (qu rfl rfl (.yes rfl rfl hc6) rfl fld38_1 (by decide))<|.c (qC [1] rfl rfl (.yes rfl rfl hc6) rfl rfl rfl ta31 rfl rfl)<|.c (qc0 rfl rfl (.yes rfl rfl hc6) Try.func43 rfl rfl (qp0 hx6) (.cons rfl .d (.cons rfl .d .nil)) ⟨tV,tV,tV⟩ (.inl rfl))<|.c (qn rfl rfl (.yes rfl rfl hc6) rfl rfl (qf6 _ _) rfl)<|.I rfl hc6<|.A rfl<|.nil rfl) (by kernel_rfl) ?_
     exact ⟨(decide (x6 ≥ 0)),(sJ h25),wA1 rfl⟩
    refine cwRA mixed (by kernel_rfl) (.F rfl fld38_2 rfl<|.L [2] rfl ta4 rfl<|.T rfl<|.M rfl<|.G rfl rfl hc6<|.G rfl rfl hc6<|.G rfl rfl hc6<|.G rfl rfl hc6<|.G rfl rfl hc6<|.G rfl rfl hc6<|.G rfl rfl hc6<|.G rfl rfl hc6<|.G rfl rfl hc6<|.G rfl rfl hc6<|.J rfl hc6<|.A rfl<|.nil rfl) (by kernel_rfl) ?_
    exact ⟨false,(sJ h23),wA1 rfl⟩
   rcases cdS hj3 with ⟨hc7,h26⟩ | ⟨hc7,h27⟩
   ·skip
    have ⟨x7,hx7,h28⟩ := bdS h26
    have hx7g := qB hx7
    have ⟨x8,hx8,h29⟩ := bdS h28
    refine cwRA mixed (by kernel_rfl) (.M rfl<|.B rfl (qR0 _ _) rfl<|.F rfl q31 rfl<|.L [2] rfl ta44 rfl<|.c (qU (enc := q50) (xs := x0.1.2.2) rfl rfl .no rfl sl44)<|.B rfl (qO0 _ _) rfl<|.M rfl<|.c (qu rfl rfl (.yes rfl rfl hc7) rfl q31 (by decide))<|.c (qC [2] rfl rfl (.yes rfl rfl hc7) rfl rfl rfl ta44 rfl rfl)<|.c (o_mv rfl rfl (.yes rfl rfl hc7) rfl)<|.c (qn rfl rfl (.yes rfl rfl hc7) rfl rfl (qR0 _ _) rfl)<|.c (qs1 (enc := q50) (xs := x0.1.2.2) rfl rfl (.yes rfl rfl hc7) rfl rfl sl44 sz69 hx7g.1 hx7g.2)<|.c (qO1 rfl rfl (.yes rfl rfl hc7) rfl qE4 (by decide) rfl rfl)<|.c (o_ld rfl rfl (.yes rfl rfl hc7) rfl ta31 rfl rfl)<|.c (qu rfl rfl (.yes rfl rfl hc7) rfl fld38_0 (by decide))<|.c (qC [0] rfl rfl (.yes rfl rfl hc7) rfl rfl rfl ta31 rfl rfl)<|.c (qc0 rfl rfl (.yes rfl rfl hc7) Try.func43 rfl rfl (qp0 hx8) (.cons rfl .d (.cons rfl .d .nil)) ⟨tV,tV,tV⟩ (.inl rfl))<|.c (qn rfl rfl (.yes rfl rfl hc7) rfl rfl (b_leq _ _) rfl)<|.I rfl hc7<|.A rfl<|.nil rfl) (by kernel_rfl) ?_
    exact ⟨(decide (x8 ≤ 0)),(sJ h29),wA1 rfl⟩
   refine cwRA mixed (by kernel_rfl) (.M rfl<|.B rfl (qR0 _ _) rfl<|.F rfl q31 rfl<|.L [2] rfl ta44 rfl<|.c (qU (enc := q50) (xs := x0.1.2.2) rfl rfl .no rfl sl44)<|.B rfl (qO0 _ _) rfl<|.M rfl<|.G rfl rfl hc7<|.G rfl rfl hc7<|.G rfl rfl hc7<|.G rfl rfl hc7<|.G rfl rfl hc7<|.G rfl rfl hc7<|.G rfl rfl hc7<|.G rfl rfl hc7<|.G rfl rfl hc7<|.G rfl rfl hc7<|.G rfl rfl hc7<|.J rfl hc7<|.A rfl<|.nil rfl) (by kernel_rfl) ?_
   exact ⟨false,(sJ h27),wA1 rfl⟩
  intro hc2 h8
  refine qR ?_
  exact ⟨(v2.2.1,v2.2.2),(hx1 _ (sJ h8)).symm,wA1 rfl⟩
 refine cSR (.F rfl qy3 rfl<|.L [1] rfl ta34 rfl<|.c (qU (enc := ePr) (xs := x0.1.2.1) rfl rfl .no rfl sl34)<|.M rfl<|.nil rfl) ?_
 refine cwB (qK (fun (z : (Int × (List ttR))) => St.of [(0,.ifc 24 (.ptr 0 0)),(5,.ptr 1 0),(8,.ptr 3 0),(10,.arr 5 0),(30,.d (eSP_ x0.1.2.1)),(31,.d (eint (x0.1.2.1.length : Int))),(32,.d (eint z.1))] [(0,.own (qe x0.2.2)),(1,.box (.d (eSp a2))),(3,.box (.d (qw x0.1))),(5,.arr 0 25 (z.2.map ePr))]) hj0 (.w (wkF ⟨⟨_,rfl,.ifc (.ptro rfl rfl)⟩,wP rfl,wP rfl,⟨_,rfl,.nila rfl rfl⟩,wD rfl,wD rfl,wD rfl,tV⟩ ⟨oM rfl,.box rfl (.d rfl),.box rfl (.d rfl),.nil rfl,tV⟩ (qq rfl))) ?_)
 intro v7 x9 hb1 hx9
 refine cSR (.B rfl (qO0 _ _) rfl<|.nil rfl) ?_
 refine cwS (cwC hb1 rfl ?_ ?_)
 ·intro hc8 h30
  refine cwK ?_
  have ⟨o6,hj6,h32⟩ := bdS h30
  refine cwJ (fun (z : (List ttR)) => St.of [(0,.ifc 24 (.ptr 0 0)),(5,.ptr 1 0),(8,.ptr 3 0),(10,.arr 5 0),(30,.d (eSP_ x0.1.2.1)),(31,.d (eint (x0.1.2.1.length : Int))),(32,.d (eint v7.1))] [(0,.own (qe x0.2.2)),(1,.box (.d (eSp a2))),(3,.box (.d (qw x0.1))),(5,.arr 0 25 (z.map ePr))]) (fun z => o6 = z) ?_ ?_
  ·intro v8 hv6; subst hv6
   refine cwR (.B rfl (qR0 _ _) rfl<|.M rfl<|.nil rfl) ?_
   exact ⟨((IntKind.wrap .i64 (v7.1 + 1)),o6),(sJ h32),wA1 rfl⟩
  refine cwB ?_
  have ⟨x10,hx10,h33⟩ := bdS hj6
  have hx10g := qB hx10
  refine cSR (.c (qs1 (enc := ePr) (xs := x0.1.2.1) rfl rfl .no rfl rfl sl34 sz52 hx10g.1 hx10g.2)<|.c (o_ld rfl rfl .no rfl ta52 rfl rfl)<|.c (qb0 4 rfl rfl .no ze52 rfl)<|.S [] rfl sz52 rfl<|.nil rfl) ?_
  have ⟨x11,hx11,h34⟩ := bdS h33
  refine cSR (.L [] rfl ta38 rfl<|.F rfl qr3 rfl<|.L [0] rfl ta31 rfl<|.c (qc0 rfl rfl .no Try.func42 rfl rfl (tree_in_ok hx11) (.cons rfl .d (.cons rfl .d .nil)) ⟨tV,tV,tV⟩ (.inl rfl))<|.nil rfl) ?_
  refine cwC h34 rfl ?_ ?_
  ·intro hc9 h35
   have ⟨x12,hx12,h37⟩ := bdS h35
   have hx12g := qV hx12
   refine cwR (.M rfl<|.L [] rfl ta52 rfl<|.c (ql4 (rows := ([x10] : List ttR).map ePr) rfl rfl .no (.cons rfl .nil) rfl sl34 sz52 ze52 rfl (q51 qN0) (by decide))<|.c (q02 (enc := ePr) (xs := v7.2) (ys := [x10]) rfl rfl .no rfl rfl rfl qN0 sl34 sl34 sz52 by52 ze52 rfl (by decide) hx12g)<|.A rfl<|.nil rfl) ?_
   exact ⟨(v7.2 ++ [x10]),(sJ h37),wA1 rfl⟩
  intro hc9 h36
  refine cwK ?_
  exact ⟨v7.2,(sJ h36),wA1 rfl⟩
 intro hc8 h31
 refine qR ?_
 exact ⟨v7.2,(hx9 _ (sJ h31)).symm,wA1 rfl⟩
theorem qu4 : ∀ (n : Nat) {a0 : ttM} {a1 : Int} {a2 : ttS} {r : ((List ttR) × Int × ttM)},qP1 n a0 a1 a2 = some r → FnOk Try.prog 17 [.ifc 24 (.ptr 0 0),.d (eint a1),.d (eSp a2)] 1 (lk [(0,.own (qe a0))]) (fun rr oo => rr = .tup [.d (eSP_ r.1),.d (eErr r.2.1)] ∧ oo = lk [(0,.own (qe r.2.2))])
 | 0,_,_,_,_,h => nomatch h
 | n + 1,_,_,_,_,h => qj5 (self := qP1 n) (fun h => qu4 n h) h
theorem qW3 {a0} {a1} {a2} {r} (h : qp1 a0 a1 a2 = some r) : FnOk Try.prog 17 [.ifc 24 (.ptr 0 0),.d (eint a1),.d (eSp a2)] 1 (lk [(0,.own (qe a0))]) (fun rr oo => rr = .tup [.d (eSP_ r.1),.d (eErr r.2.1)] ∧ oo = lk [(0,.own (qe r.2.2))]) := qu4 16 h
theorem qw4 {self : ttM → Int → Option (Int × ttM)} (self_ok : ∀ {a0 : ttM} {a1 : Int} {r : (Int × ttM)},self a0 a1 = some r → FnOk Try.prog 21 [.ifc 24 (.ptr 0 0),.d (eint a1)] 1 (lk [(0,.own (qe a0))]) (fun rr oo => rr = .d (eErr r.1) ∧ oo = lk [(0,.own (qe r.2))])) {a0 : ttM} {a1 : Int} {r : (Int × ttM)} (h : q91 self a0 a1 = some r) : FnOk Try.prog 21 [.ifc 24 (.ptr 0 0),.d (eint a1)] 1 (lk [(0,.own (qe a0))]) (fun rr oo => rr = .d (eErr r.1) ∧ oo = lk [(0,.own (qe r.2))]) := by
 refine fnO Try.func21 rfl rfl (cwP ?_)
 unfold q91 at h
 refine cSR (.A rfl<|.nil rfl) ?_
 refine cwS (cSR (.M rfl<|.B rfl (qh0 _ _) rfl<|.nil rfl) ?_)
 refine cwC h rfl ?_ ?_
 ·intro hc0 h0
  refine cSR (.A rfl<|.nil rfl) ?_
  obtain rfl := zQ h0
  exact rt1 rfl rfl rfl
 intro hc0 h1
 refine cwK ?_
 have ⟨x0,hx0,h2⟩ := bdS h1
 refine cSR (.M rfl<|.M rfl<|.c (qc6 (fun n => bif Nat.beq n 0 then 0 else 1) rfl rfl .no rfl Try.func23 rfl rfl rfl q05 (qk0 hx0) (.cons rfl (.p rfl) (.cons rfl .d .nil)) (by decide) (ql1 [1] rfl ⟨(by simp [AV.live,AV.lives,lk,Nat.beq]),tV,tV⟩ ⟨⟨rfl,(OD.dat_live (qc _))⟩,tV⟩ rfl rfl rfl ⟨rfl,tV⟩ rfl) (.inl rfl))<|.M rfl<|.E rfl<|.E rfl<|.c (qb0 2 rfl rfl .no ze46 rfl)<|.S [] rfl sz46 rfl<|.A rfl<|.nil rfl) ?_
 refine cwS (cSR (.M rfl<|.B rfl (qT2 _ _) rfl<|.nil rfl) ?_)
 refine cwC h2 rfl ?_ ?_
 ·intro hc1 h3
  refine cSR (.M rfl<|.A rfl<|.nil rfl) ?_
  obtain rfl := zQ h3
  exact rt1 rfl rfl rfl
 intro hc1 h4
 refine cwK ?_
 have ⟨x1,hx1,h5⟩ := bdS h4
 refine cSR (.M rfl<|.M rfl<|.c (qc6 (fun _ => 0) rfl rfl .no rfl Try.func118 rfl rfl rfl hm24_Dec (qI3 hx1) (.cons rfl (.p rfl) (.cons rfl .d .nil)) (by decide) (q20 rfl ⟨(by simp [AV.live,lk,Nat.beq]),tV,tV⟩ rfl (OD.dat_live (qc _)) (by simp)) (.inl rfl))<|.M rfl<|.E rfl<|.E rfl<|.A rfl<|.A rfl<|.nil rfl) ?_
 refine cwS ?_
 have ⟨o0,hj0,h6⟩ := bdS h5
 refine cwJ (fun (z : Bool) => St.of [(0,.ifc 24 (.ptr 0 0)),(5,.ptr 2 0),(6,.d (eErr x1.2.1)),(33,.d (qW z))] [(0,.own (qe x1.2.2)),(2,.box (.d (qw x0.1)))]) (fun z => o0 = z) ?_ ?_
 ·intro v0 hv0; subst hv0
  refine cwC h6 rfl ?_ ?_
  ·intro hc2 h7
   refine cSR (.M rfl<|.A rfl<|.nil rfl) ?_
   obtain rfl := zQ h7
   exact rt1 rfl rfl rfl
  intro hc2 h8
  refine cwK ?_
  have ⟨o1,hj1,h9⟩ := bdS h8
  refine cwJ (fun (z : ttM) => St.of [] [(0,.own (qe z))]) (fun z => o1 = (.inl z)) ?_ ?_
  ·intro v1 hv1; subst hv1
   simp only [zN] at h9
   refine cSR (.A rfl<|.nil rfl) ?_
   obtain rfl := zQ h9
   exact rt1 rfl rfl rfl
  refine cSR (.F rfl q31 rfl<|.L [2] rfl ta44 rfl<|.c (qU (enc := q50) (xs := x0.1.2.2) rfl rfl .no rfl sl44)<|.M rfl<|.nil rfl) ?_
  refine cwB (qK (fun (z : (Int × ttM)) => St.of [(0,.ifc 24 (.ptr 0 0)),(36,.d (qH0 x0.1.2.2)),(37,.d (eint (x0.1.2.2.length : Int))),(38,.d (eint z.1))] [(0,.own (qe z.2))]) hj1 (wA1 rfl) ?_)
  intro v2 x2 hb0 hx2
  refine cSR (.B rfl (qO0 _ _) rfl<|.nil rfl) ?_
  refine cwS (cwC hb0 rfl ?_ ?_)
  ·intro hc3 h10
   refine cwK ?_
   refine cwS (cwB ?_)
   have ⟨x3,hx3,h12⟩ := bdS h10
   have hx3g := qB hx3
   refine cSR (.c (qs1 (enc := q50) (xs := x0.1.2.2) rfl rfl .no rfl rfl sl44 sz69 hx3g.1 hx3g.2)<|.c (o_ld rfl rfl .no rfl ta69 rfl rfl)<|.c (qb0 3 rfl rfl .no ze69 rfl)<|.S [] rfl sz69 rfl<|.nil rfl) ?_
   have ⟨x4,hx4,h13⟩ := bdS h12
   refine cSR (.M rfl<|.F rfl qw3 rfl<|.L [1] rfl ta3 rfl<|.c (qG (fun _ => 0) rfl rfl .no Try.func21 rfl rfl (self_ok hx4) (.cons rfl (.ip rfl) (.cons rfl .d .nil)) (q20 rfl ⟨(by simp [AV.live,lk,Nat.beq]),tV,tV⟩ rfl (OD.dat_live (qc _)) (by simp)) (.inl rfl))<|.A rfl<|.nil rfl) ?_
   refine cSR (.M rfl<|.B rfl (qT2 _ _) rfl<|.nil rfl) ?_
   refine cwC h13 rfl ?_ ?_
   ·intro hc4 h14
    refine cSR (.M rfl<|.A rfl<|.nil rfl) ?_
    have he0 := ((hx2 _ (sJ h14)).symm).symm
    subst he0
    obtain rfl := zQ h9
    exact rt1 rfl rfl rfl
   intro hc4 h15
   refine cwK (cwR (.B rfl (qR0 _ _) rfl<|.M rfl<|.nil rfl) ?_)
   exact ⟨((IntKind.wrap .i64 (v2.1 + 1)),x4.2),(sJ h15),wA1 rfl⟩
  intro hc3 h11
  refine qR ?_
  exact ⟨v2.2,(hx2 _ (sJ h11)).symm,wA1 rfl⟩
 rcases cdS hj0 with ⟨hc5,h16⟩ | ⟨hc5,h17⟩
 ·skip
  refine cwR (.M rfl<|.B rfl (qT2 _ _) rfl<|.M rfl<|.G rfl rfl hc5<|.G rfl rfl hc5<|.I rfl hc5<|.nil rfl) ?_
  exact ⟨true,(sJ h16),wA1 rfl⟩
 refine cwR (.M rfl<|.B rfl (qT2 _ _) rfl<|.M rfl<|.c (o_mv rfl rfl (.yes rfl rfl hc5) rfl)<|.c (qb5 rfl rfl (.yes rfl rfl hc5) rfl)<|.J rfl hc5<|.nil rfl) ?_
 exact ⟨(!x1.1),(sJ h17),wA1 rfl⟩
theorem qv3 : ∀ (n : Nat) {a0 : ttM} {a1 : Int} {r : (Int × ttM)},q41 n a0 a1 = some r → FnOk Try.prog 21 [.ifc 24 (.ptr 0 0),.d (eint a1)] 1 (lk [(0,.own (qe a0))]) (fun rr oo => rr = .d (eErr r.1) ∧ oo = lk [(0,.own (qe r.2))])
 | 0,_,_,_,h => nomatch h
 | n + 1,_,_,_,h => qw4 (self := q41 n) (fun h => qv3 n h) h
theorem qU2 {a0} {a1} {r} (h : qk2 a0 a1 = some r) : FnOk Try.prog 21 [.ifc 24 (.ptr 0 0),.d (eint a1)] 1 (lk [(0,.own (qe a0))]) (fun rr oo => rr = .d (eErr r.1) ∧ oo = lk [(0,.own (qe r.2))]) := qv3 16 h
theorem ref07_Drop_ok {a0} {a1} {r} (h : qP3 a0 a1 = some r) : FO 50 [.d (eSP_ a0),.d (eK a1)] 0 [] (.d (eSP_ r)) [] := by
 refine fnO Try.func50 rfl rfl (cwP ?_)
 unfold qP3 at h
 refine cSR (.X 0 rfl<|.A rfl<|.nil rfl) ?_
 refine cSR (.c (o_bslO (rows := ([] : List ttR).map ePr) 1 rfl rfl .no .nil rfl sl34 sz52 ze52 rfl (q51 qN0) (by decide) rfl)<|.A rfl<|.nil rfl) ?_
 have ⟨o0,hj0,h0⟩ := bdS h
 refine cwJ (fun (z : (List ttR)) => St.of [(5,.arr 1 0)] [(1,.arr 0 25 (z.map ePr))]) (fun z => o0 = z) ?_ ?_
 ·intro v0 hv0; subst hv0
  refine cSR (.M rfl<|.A rfl<|.nil rfl) ?_
  obtain rfl := zQ h0
  exact rt1 rfl rfl rfl
 refine cSR (.A rfl<|.nil rfl) ?_
 refine cwB (qK (fun (z : (Int × (List ttR))) => St.of [(0,.d (eSP_ a0)),(3,.ptr 0 0),(5,.arr 1 0),(6,.d (eint z.1))] [(0,.box (.d (eK a1))),(1,.arr 0 25 (z.2.map ePr))]) hj0 (wA1 rfl) ?_)
 intro v1 x0 hb0 hx0
 refine cwS (cSR (.M rfl<|.M rfl<|.c (qU (enc := ePr) (xs := a0) rfl rfl .no rfl sl34)<|.B rfl (qO0 _ _) rfl<|.nil rfl) ?_)
 refine cwC hb0 rfl ?_ ?_
 ·intro hc0 h1
  refine cwK ?_
  have ⟨o1,hj1,h3⟩ := bdS h1
  refine cwJ (fun (z : (List ttR)) => St.of [(0,.d (eSP_ a0)),(3,.ptr 0 0),(5,.arr 1 0),(6,.d (eint v1.1))] [(0,.box (.d (eK a1))),(1,.arr 0 25 (z.map ePr))]) (fun z => o1 = z) ?_ ?_
  ·intro v2 hv1; subst hv1
   refine cwR (.M rfl<|.B rfl (qR0 _ _) rfl<|.A rfl<|.nil rfl) ?_
   exact ⟨((IntKind.wrap .i64 (v1.1 + 1)),o1),(sJ h3),wA1 rfl⟩
  refine cwB ?_
  have ⟨x1,hx1,h4⟩ := bdS hj1
  have hx1g := qB hx1
  refine cwS (cwRA mixed (by kernel_rfl) (.M rfl<|.M rfl<|.c (qs1 (enc := ePr) (xs := a0) rfl rfl .no rfl rfl sl34 sz52 hx1g.1 hx1g.2)<|.c (qO1 rfl rfl .no rfl qr3 (by decide) rfl rfl)<|.c (o_ld rfl rfl .no rfl ta31 rfl rfl)<|.L [] rfl ta31 rfl<|.c (o_ne rfl rfl .no rfl rfl rfl rfl eg31 (.bs ar31 un5 sz5))<|.nil rfl) (by kernel_rfl) ?_)
  refine cwC h4 rfl ?_ ?_
  ·intro hc1 h5
   have ⟨x2,hx2,h7⟩ := bdS h5
   have hx2g := qV hx2
   refine cwR (.M rfl<|.M rfl<|.M rfl<|.c (qs1 (enc := ePr) (xs := a0) rfl rfl .no rfl rfl sl34 sz52 hx1g.1 hx1g.2)<|.c (o_ld rfl rfl .no rfl ta52 rfl rfl)<|.c (ql4 (rows := ([x1] : List ttR).map ePr) rfl rfl .no (.cons rfl .nil) rfl sl34 sz52 ze52 rfl (q51 qN0) (by decide))<|.c (q02 (enc := ePr) (xs := v1.2) (ys := [x1]) rfl rfl .no rfl rfl rfl qN0 sl34 sl34 sz52 by52 ze52 rfl (by decide) hx2g)<|.A rfl<|.nil rfl) ?_
   exact ⟨(v1.2 ++ [x1]),(sJ h7),wA1 rfl⟩
  intro hc1 h6
  refine cwK ?_
  exact ⟨v1.2,(sJ h6),wA1 rfl⟩
 intro hc0 h2
 refine qR ?_
 exact ⟨v1.2,(hx0 _ (sJ h2)).symm,wA1 rfl⟩
theorem ref07_Put_ok {a0} {a1} {r} (h : qG4 a0 a1 = some r) : FO 51 [.d (eSP_ a0),.d (ePr a1)] 0 [] (.d (eSP_ r)) [] := by
 refine fnO Try.func51 rfl rfl (cwP ?_)
 unfold qG4 at h
 refine cSR (.X 0 rfl<|.A rfl<|.nil rfl) ?_
 refine cSR (.c (o_bslO (rows := ([] : List ttR).map ePr) 1 rfl rfl .no .nil rfl sl34 sz52 ze52 rfl (q51 qN0) (by decide) rfl)<|.A rfl<|.nil rfl) ?_
 refine cSR (.A rfl<|.nil rfl) ?_
 have ⟨o0,hj0,h0⟩ := bdS h
 refine cwJ (fun (z : (Bool × (List ttR))) => St.of [(3,.ptr 0 0),(5,.arr 1 0),(6,.d (qW z.1))] [(0,.box (.d (ePr a1))),(1,.arr 0 25 (z.2.map ePr))]) (fun z => o0 = z) ?_ ?_
 ·intro v0 hv0; subst hv0
  have ⟨o1,hj1,h1⟩ := bdS h0
  refine cwJ (fun (z : (List ttR)) => St.of [(5,.arr 1 0)] [(1,.arr 0 25 (z.map ePr))]) (fun z => o1 = z) ?_ ?_
  ·intro v1 hv1; subst hv1
   refine cSR (.M rfl<|.A rfl<|.nil rfl) ?_
   obtain rfl := zQ h1
   exact rt1 rfl rfl rfl
  refine cSR (.M rfl<|.T rfl<|.nil rfl) ?_
  refine cwC hj1 rfl ?_ ?_
  ·intro hc0 h2
   have ⟨x0,hx0,h4⟩ := bdS h2
   have hx0g := qV hx0
   refine cwR (.M rfl<|.L [] rfl ta52 rfl<|.c (ql4 (rows := ([a1] : List ttR).map ePr) rfl rfl .no (.cons rfl .nil) rfl sl34 sz52 ze52 rfl (q51 qN0) (by decide))<|.c (q02 (enc := ePr) (xs := o0.2) (ys := [a1]) rfl rfl .no rfl rfl rfl qN0 sl34 sl34 sz52 by52 ze52 rfl (by decide) hx0g)<|.A rfl<|.nil rfl) ?_
   exact ⟨(o0.2 ++ [a1]),(sJ h4),wA1 rfl⟩
  intro hc0 h3
  refine cwK ?_
  exact ⟨o0.2,(sJ h3),wA1 rfl⟩
 refine cSR (.A rfl<|.nil rfl) ?_
 refine cwB (qK (fun (z : (Bool × Int × (List ttR))) => St.of [(0,.d (eSP_ a0)),(3,.ptr 0 0),(5,.arr 1 0),(6,.d (qW z.1)),(7,.d (eint z.2.1))] [(0,.box (.d (ePr a1))),(1,.arr 0 25 (z.2.2.map ePr))]) hj0 (wA1 rfl) ?_)
 intro v2 x1 hb0 hx1
 refine cwS (cSR (.M rfl<|.M rfl<|.c (qU (enc := ePr) (xs := a0) rfl rfl .no rfl sl34)<|.B rfl (qO0 _ _) rfl<|.nil rfl) ?_)
 refine cwC hb0 rfl ?_ ?_
 ·intro hc1 h5
  refine cwK ?_
  have ⟨o2,hj2,h7⟩ := bdS h5
  refine cwJ (fun (z : (Bool × (List ttR))) => St.of [(0,.d (eSP_ a0)),(3,.ptr 0 0),(5,.arr 1 0),(6,.d (qW z.1)),(7,.d (eint v2.2.1))] [(0,.box (.d (ePr a1))),(1,.arr 0 25 (z.2.map ePr))]) (fun z => o2 = z) ?_ ?_
  ·intro v3 hv2; subst hv2
   refine cwR (.M rfl<|.B rfl (qR0 _ _) rfl<|.A rfl<|.nil rfl) ?_
   exact ⟨(o2.1,(IntKind.wrap .i64 (v2.2.1 + 1)),o2.2),(sJ h7),wA1 rfl⟩
  refine cwB ?_
  have ⟨x2,hx2,h8⟩ := bdS hj2
  have hx2g := qB hx2
  have ⟨x3,hx3,h9⟩ := bdS h8
  refine cwS (cwRA mixed (by kernel_rfl) (.F rfl qr3 rfl<|.L [0] rfl ta31 rfl<|.M rfl<|.M rfl<|.c (qs1 (enc := ePr) (xs := a0) rfl rfl .no rfl rfl sl34 sz52 hx2g.1 hx2g.2)<|.c (qO1 rfl rfl .no rfl qr3 (by decide) rfl rfl)<|.c (o_ld rfl rfl .no rfl ta31 rfl rfl)<|.c (qc0 rfl rfl .no Try.func30 rfl rfl (ref05_Less_ok hx3) (.cons rfl .d (.cons rfl .d .nil)) ⟨tV,tV,tV⟩ (.inl rfl))<|.A rfl<|.nil rfl) (by kernel_rfl) ?_)
  have ⟨o3,hj3,h10⟩ := bdS h9
  refine cwJ (fun (z : (Bool × (List ttR))) => St.of [(0,.d (eSP_ a0)),(3,.ptr 0 0),(5,.arr 1 0),(6,.d (qW z.1)),(7,.d (eint v2.2.1))] [(0,.box (.d (ePr a1))),(1,.arr 0 25 (z.2.map ePr))]) (fun z => o3 = z) ?_ ?_
  ·intro v4 hv3; subst hv3
   refine cwS (cwRA mixed (by kernel_rfl) (.M rfl<|.M rfl<|.c (qs1 (enc := ePr) (xs := a0) rfl rfl .no rfl rfl sl34 sz52 hx2g.1 hx2g.2)<|.c (qO1 rfl rfl .no rfl qr3 (by decide) rfl rfl)<|.c (o_ld rfl rfl .no rfl ta31 rfl rfl)<|.F rfl qr3 rfl<|.L [0] rfl ta31 rfl<|.c (o_ne rfl rfl .no rfl rfl rfl rfl eg31 (.bs ar31 un5 sz5))<|.nil rfl) (by kernel_rfl) ?_)
   refine cwC h10 rfl ?_ ?_
   ·intro hc2 h11
    have ⟨x4,hx4,h13⟩ := bdS h11
    have hx4g := qV hx4
    refine cwR (.M rfl<|.M rfl<|.M rfl<|.c (qs1 (enc := ePr) (xs := a0) rfl rfl .no rfl rfl sl34 sz52 hx2g.1 hx2g.2)<|.c (o_ld rfl rfl .no rfl ta52 rfl rfl)<|.c (ql4 (rows := ([x2] : List ttR).map ePr) rfl rfl .no (.cons rfl .nil) rfl sl34 sz52 ze52 rfl (q51 qN0) (by decide))<|.c (q02 (enc := ePr) (xs := o3.2) (ys := [x2]) rfl rfl .no rfl rfl rfl qN0 sl34 sl34 sz52 by52 ze52 rfl (by decide) hx4g)<|.A rfl<|.nil rfl) ?_
    exact ⟨(o3.1,(o3.2 ++ [x2])),(sJ h13),wA1 rfl⟩
   intro hc2 h12
   refine cwK ?_
   exact ⟨(o3.1,o3.2),(sJ h12),wA1 rfl⟩
  have ⟨o4,hj4,h14⟩ := bdS hj3
  refine cwJ (fun (z : Bool) => St.of [(0,.d (eSP_ a0)),(3,.ptr 0 0),(5,.arr 1 0),(6,.d (qW v2.1)),(7,.d (eint v2.2.1)),(38,.d (qW z))] [(0,.box (.d (ePr a1))),(1,.arr 0 25 (v2.2.2.map ePr))]) (fun z => o4 = z) ?_ ?_
  ·intro v5 hv4; subst hv4
   refine cwC h14 rfl ?_ ?_
   ·intro hc3 h15
    have ⟨x5,hx5,h17⟩ := bdS h15
    have hx5g := qV hx5
    refine cSR (.M rfl<|.L [] rfl ta52 rfl<|.c (ql4 (rows := ([a1] : List ttR).map ePr) rfl rfl .no (.cons rfl .nil) rfl sl34 sz52 ze52 rfl (q51 qN0) (by decide))<|.c (q02 (enc := ePr) (xs := v2.2.2) (ys := [a1]) rfl rfl .no rfl rfl rfl qN0 sl34 sl34 sz52 by52 ze52 rfl (by decide) hx5g)<|.A rfl<|.nil rfl) ?_
    refine cwR (.A rfl<|.nil rfl) ?_
    exact ⟨(true,(v2.2.2 ++ [a1])),(sJ h17),wA1 rfl⟩
   intro hc3 h16
   refine cwK ?_
   exact ⟨(v2.1,v2.2.2),(sJ h16),wA1 rfl⟩
  rcases cdS hj4 with ⟨hc4,h18⟩ | ⟨hc4,h19⟩
  ·skip
   rcases cdS h18 with ⟨hc5,h20⟩ | ⟨hc5,h21⟩
   ·skip
    refine cwRA mixed (by kernel_rfl) (.M rfl<|.T rfl<|.M rfl<|.c (o_mv rfl rfl (.yes rfl rfl hc4) rfl)<|.c (o_mv rfl rfl (.yes rfl rfl hc4) rfl)<|.G rfl rfl hc5<|.G rfl rfl hc5<|.G rfl rfl hc5<|.G rfl rfl hc5<|.G rfl rfl hc5<|.G rfl rfl hc5<|.G rfl rfl hc5<|.G rfl rfl hc5<|.c (qm rfl rfl (.yes rfl rfl hc4) rfl hc5 rfl)<|.I rfl hc4<|.nil rfl) (by kernel_rfl) ?_
    exact ⟨true,(sJ h20),wA1 rfl⟩
   refine cwRA mixed (by kernel_rfl) (.M rfl<|.T rfl<|.M rfl<|.c (o_mv rfl rfl (.yes rfl rfl hc4) rfl)<|.c (o_mv rfl rfl (.yes rfl rfl hc4) rfl)<|.c (o_mv rfl rfl (.yes rfl rfl hc5) rfl)<|.c (o_mv rfl rfl (.yes rfl rfl hc5) rfl)<|.c (qs1 (enc := ePr) (xs := a0) rfl rfl (.yes rfl rfl hc5) rfl rfl sl34 sz52 hx2g.1 hx2g.2)<|.c (qO1 rfl rfl (.yes rfl rfl hc5) rfl qr3 (by decide) rfl rfl)<|.c (o_ld rfl rfl (.yes rfl rfl hc5) rfl ta31 rfl rfl)<|.c (qu rfl rfl (.yes rfl rfl hc5) rfl qr3 (by decide))<|.c (qC [0] rfl rfl (.yes rfl rfl hc5) rfl rfl rfl ta31 rfl rfl)<|.c (o_eq rfl rfl (.yes rfl rfl hc5) rfl rfl rfl rfl eg31 (.bs ar31 un5 sz5))<|.c (qk rfl rfl (.yes rfl rfl hc4) rfl hc5 rfl)<|.I rfl hc4<|.nil rfl) (by kernel_rfl) ?_
   exact ⟨(decide (x2.1 = a1.1)),(sJ h21),wA1 rfl⟩
  refine cwRA mixed (by kernel_rfl) (.M rfl<|.T rfl<|.M rfl<|.G rfl rfl hc4<|.G rfl rfl hc4<|.c (q45 rfl rfl rfl rfl)<|.c (q45 rfl rfl rfl rfl)<|.c (q45 rfl rfl rfl rfl)<|.c (q45 rfl rfl rfl rfl)<|.c (q45 rfl rfl rfl rfl)<|.c (q45 rfl rfl rfl rfl)<|.c (q45 rfl rfl rfl rfl)<|.c (q45 rfl rfl rfl rfl)<|.G rfl rfl hc4<|.J rfl hc4<|.nil rfl) (by kernel_rfl) ?_
  exact ⟨false,(sJ h19),wA1 rfl⟩
 intro hc1 h6
 refine qR ?_
 exact ⟨(v2.1,v2.2.2),(hx1 _ (sJ h6)).symm,wA1 rfl⟩
theorem qY3 {a0} {a1} {r} (h : qo1 a0 a1 = some r) : FO 27 [.d (eSP_ a0),.d (eSC a1)] 0 [] (.d (eSP_ r)) [] := by
 refine fnO Try.func27 rfl rfl (cwP ?_)
 unfold qo1 at h
 refine cSR (.A rfl<|.nil rfl) ?_
 have ⟨o0,hj0,h0⟩ := bdS h
 refine cwJ (fun (z : (List ttR)) => St.of [(0,.d (eSP_ z))] []) (fun z => o0 = z) ?_ ?_
 ·intro v0 hv0; subst hv0
  refine cSR (.M rfl<|.A rfl<|.nil rfl) ?_
  obtain rfl := zQ h0
  exact rt1 rfl rfl rfl
 refine cSR (.A rfl<|.nil rfl) ?_
 refine cwB (qK (fun (z : ((List ttR) × Int)) => St.of [(0,.d (eSP_ z.1)),(1,.d (eSC a1)),(5,.d (eint z.2))] []) hj0 (wA1 rfl) ?_)
 intro v1 x0 hb0 hx0
 refine cwS (cSR (.M rfl<|.M rfl<|.c (qU (enc := eCg) (xs := a1) rfl rfl .no rfl sl22)<|.B rfl (qO0 _ _) rfl<|.nil rfl) ?_)
 refine cwC hb0 rfl ?_ ?_
 ·intro hc0 h1
  refine cwK ?_
  have ⟨o1,hj1,h3⟩ := bdS h1
  refine cwJ (fun (z : (List ttR)) => St.of [(0,.d (eSP_ z)),(1,.d (eSC a1)),(5,.d (eint v1.2))] []) (fun z => o1 = z) ?_ ?_
  ·intro v2 hv1; subst hv1
   refine cwR (.M rfl<|.B rfl (qR0 _ _) rfl<|.A rfl<|.nil rfl) ?_
   exact ⟨(o1,(IntKind.wrap .i64 (v1.2 + 1))),(sJ h3),wA1 rfl⟩
  refine cwB ?_
  have ⟨x1,hx1,h4⟩ := bdS hj1
  have hx1g := qB hx1
  refine cSR (.M rfl<|.M rfl<|.c (qs1 (enc := eCg) (xs := a1) rfl rfl .no rfl rfl sl22 sz33 hx1g.1 hx1g.2)<|.c (o_ld rfl rfl .no rfl ta33 rfl rfl)<|.c (qb0 0 rfl rfl .no ze33 rfl)<|.S [] rfl sz33 rfl<|.nil rfl) ?_
  refine cSR (.F rfl fld33_2 rfl<|.L [2] rfl ta4 rfl<|.nil rfl) ?_
  refine cwC h4 rfl ?_ ?_
  ·intro hc1 h5
   have ⟨x2,hx2,h7⟩ := bdS h5
   refine cwR (.M rfl<|.F rfl qQ4 rfl<|.L [0] rfl ta31 rfl<|.c (qc0 rfl rfl .no Try.func50 rfl rfl (ref07_Drop_ok hx2) (.cons rfl .d (.cons rfl .d .nil)) ⟨tV,tV,tV⟩ (.inl rfl))<|.A rfl<|.nil rfl) ?_
   exact ⟨x2,(sJ h7),wA1 rfl⟩
  intro hc1 h6
  have ⟨x3,hx3,h8⟩ := bdS h6
  refine cwR (.M rfl<|.F rfl qQ4 rfl<|.L [0] rfl ta31 rfl<|.F rfl q16 rfl<|.L [1] rfl ta9 rfl<|.c (qa6 (ds := [eK x1.1,eStr x1.2.1]) rfl rfl .no zs52 rfl pl52 (.cons rfl rfl rfl rfl rfl rfl rfl (.cons rfl rfl rfl rfl rfl rfl rfl .nil)))<|.c (qc0 rfl rfl .no Try.func51 rfl rfl (ref07_Put_ok hx3) (.cons rfl .d (.cons rfl .d .nil)) ⟨tV,tV,tV⟩ (.inl rfl))<|.A rfl<|.nil rfl) ?_
  exact ⟨x3,(sJ h8),wA1 rfl⟩
 intro hc0 h2
 refine qR ?_
 exact ⟨v1.1,(hx0 _ (sJ h2)).symm,wA1 rfl⟩
end
end Go.Val
