/- Walks of the program's functions,printed. -/
import Derived.Test.YtfbnhflapgddbaaWd
set_option linter.unusedSectionVars false
set_option linter.unusedVariables false
set_option linter.unusedSimpArgs false
set_option maxRecDepth 100000
namespace Go.Val
open Go.RowKit Go.Proofs
section
variable [NoDrw]
noncomputable def qH1 (self : ttM → Int → ttS → Option ((List ttR) × Int × ttM)) (a0 : ttM) (a1 : Int) (a2 : ttS) : Option ((List ttR) × Int × ttM) := cond (decide (a1 = 0)) (some ([],0,a0)) ((qx a0 a1).bind fun x0 => cond (decide (x0.2.1 ≠ 0)) (some ([],x0.2.1,x0.2.2)) ((((qJ (V := (Int × (List ttR))) (O := (List ttR)) (fun v0 =>
     cond (decide (v0.1 < (x0.1.2.1.length : Int))) (((((gx x0.1.2.1 v0.1).bind fun x1 => (qe5 a2 x1.1).bind fun x2 => cond x2 ((fits (v0.2.length + ([x1]).length) 40).bind fun _ => some (v0.2 ++ [x1])) (some v0.2)) : Option (List ttR))).bind fun o0 => some (.inl ((IntKind.wrap .i64 (v0.1 + 1)),o0))) (some (.inr v0.2))) (0,[])) : Option (List ttR))).bind fun o1 => (((
    qJ (V := (Int × ttM × (List ttR))) (O := ((ttM × (List ttR)) ⊕ ((List ttR) × Int × ttM))) (fun v1 => cond (decide (v1.1 < (x0.1.2.2.length : Int))) (((((((cond (decide ((IntKind.wrap .i64 (v1.1 + 1)) < (x0.1.2.2.length : Int))) ((gx x0.1.2.2 (IntKind.wrap .i64 (v1.1 + 1))).bind fun x3 => (qu x3.1 a2.1).bind fun x4 => some (decide (x4 ≤ 0))) (some false)
       ) : Option Bool)).bind fun o2 => (((cond (!a2.2.2) ((gx x0.1.2.2 v1.1).bind fun x5 => (qu x5.1 a2.2.1).bind fun x6 => some (decide (x6 ≥ 0))) (some false)) : Option Bool)).bind fun o3 => (((cond o2 (some true) (some o3)) : Option Bool)).bind fun o4 => cond o4 (some (.inl (v1.2.1,v1.2.2))) ((gx x0.1.2.2 v1.1).bind fun x7 => (self v1.2.1 x7.2 a2).bind fun x8 =>
        cond (decide (x8.2.1 ≠ 0)) (some (.inr ([],x8.2.1,x8.2.2))) ((fits (v1.2.2.length + x8.1.length) 40).bind fun _ => some (.inl (x8.2.2,(v1.2.2 ++ x8.1)))))) : Option ((ttM × (List ttR)) ⊕ ((List ttR) × Int × ttM)))).bind fun o5 => Sum.elim (fun (v2 : (ttM × (List ttR))) => some (.inl ((IntKind.wrap .i64 (v1.1 + 1)),v2.1,v2.2))) (fun w0 => some (.inr (.inr w0))) o5) (
      some (.inr (.inl (v1.2.1,v1.2.2))))) (0,x0.2.2,o1)) : Option ((ttM × (List ttR)) ⊕ ((List ttR) × Int × ttM)))).bind fun o6 => Sum.elim (fun (v3 : (ttM × (List ttR))) => some (v3.2,0,v3.1)) (fun w1 => some w1) o6))
noncomputable def qD1 : Nat → ttM → Int → ttS → Option ((List ttR) × Int × ttM) | 0 => fun _ _ _ => none | n + 1 => qH1 (qD1 n)
noncomputable def q54 (a0 : ttM) (a1 : Int) (a2 : ttS) : Option ((List ttR) × Int × ttM) := qD1 16 a0 a1 a2
noncomputable def qL0 (self : ttM → Int → Option (Int × ttM)) (a0 : ttM) (a1 : Int) : Option (Int × ttM) := cond (decide (a1 = 0)) (some (0,a0)) ((qx a0 a1).bind fun x0 => cond (decide (x0.2.1 ≠ 0)) (some (x0.2.1,x0.2.2)) ((qA0 x0.2.2 a1).bind fun x1 => (((cond (decide (x1.2.1 ≠ 0)) (some true) (some (!x1.1))) : Option Bool)).bind fun o0 => cond o0 (
    some (x1.2.1,x1.2.2)) ((((qJ (V := (Int × ttM)) (O := (ttM ⊕ (Int × ttM))) (fun v0 => cond (decide (v0.1 < (x0.1.2.2.length : Int))) ((gx x0.1.2.2 v0.1).bind fun x2 => (self v0.2 x2.2).bind fun x3 => cond (decide (x3.1 ≠ 0)) (some (.inr (.inr (x3.1,x3.2)))) (some (.inl ((IntKind.wrap .i64 (v0.1 + 1)),x3.2)))) (some (.inr (.inl v0.2)))) (0,x1.2.2)
    ) : Option (ttM ⊕ (Int × ttM)))).bind fun o1 => Sum.elim (fun (v1 : ttM) => some (0,v1)) (fun w0 => some w0) o1)))
noncomputable def qF0 : Nat → ttM → Int → Option (Int × ttM) | 0 => fun _ _ => none | n + 1 => qL0 (qF0 n)
noncomputable def qV1 (a0 : ttM) (a1 : Int) : Option (Int × ttM) := qF0 16 a0 a1
theorem qN4 {self : ttM → Int → ttS → Option ((List ttR) × Int × ttM)} (self_ok : ∀ {a0 : ttM} {a1 : Int} {a2 : ttS} {r : ((List ttR) × Int × ttM)},self a0 a1 a2 = some r → FnOk Try.prog 17 [.ifc 24 (.ptr 0 0),.d (eint a1),.d (eSp a2)] 1 (lk [(0,.own (qc a0))]) (fun rr oo => rr = .tup [.d (eSP_ r.1),.d (eErr r.2.1)] ∧ oo = lk [(0,.own (qc r.2.2))])) {a0 : ttM} {a1 : Int} {a2 : ttS} {r : ((List ttR) × Int × ttM)} (h : qH1 self a0 a1 a2 = some r) : FnOk Try.prog 17 [.ifc 24 (.ptr 0 0),.d (eint a1),.d (eSp a2)] 1 (lk [(0,.own (qc a0))]) (fun rr oo => rr = .tup [.d (eSP_ r.1),.d (eErr r.2.1)] ∧ oo = lk [(0,.own (qc r.2.2))]) := by
 refine fnO Try.func17 rfl rfl (cwP ?_)
 unfold qH1 at h
 refine cwS (cwR (
  .c (uX 1 rfl)<|
  .c (uA rfl)<|
  .c (uA rfl)<|.nil rfl) ?_)
 refine cwS ?_
 refine cwS (cwR (
  .c (uM rfl)<|
  .c (uB rfl (qd0 _ _) rfl)<|.nil rfl) ?_)
 rcases cdS h with ⟨hc0,h0⟩ | ⟨hc0,h1⟩
 ·refine cwT rfl hc0 ?_
  refine cwS (cwR (
   .c (uA rfl)<|
   .c (uA rfl)<|.nil rfl) ?_)
  have heq := ((sJ h0)).symm
  subst heq
  exact qw ⟨_,(show Leads _ _ (St.of [(6,.d (eSP_ ([]))),(7,.d (eErr 0))] [(0,.own (qc a0))]) from .w (wkF ⟨⟨_,rfl,.nil0⟩,wD rfl,trivial⟩ ⟨.own rfl (.of_eq rfl (q9 _)),trivial⟩ (qv rfl))),.inr rfl,_,res2 rfl rfl rfl,rfl,rfl⟩
 refine cwF rfl hc0 ?_
 refine cwK ?_
 have ⟨x0,hx0,h2⟩ := bdS (x := qx a0 a1) h1
 refine cwS (cwR (
  .c (uM rfl)<|
  .c (uM rfl)<|
  .c (o_inv (fun n => bif Nat.beq n 0 then 0 else 2) rfl rfl .no rfl Try.func23 rfl rfl rfl qr4 (qh0 hx0) (.cons rfl (.p rfl) (.cons rfl .d .nil)) (by decide) (qP2 [1] rfl ⟨(by simp [AV.live,AV.lives,lk,Nat.beq]),trivial,trivial⟩ ⟨⟨rfl,(OD.dat_live (q9 _))⟩,trivial⟩ rfl rfl rfl ⟨rfl,trivial⟩ rfl) (.inl rfl))<|
  .c (uM rfl)<|
  .c (uE rfl)<|
  .c (uE rfl)<|
  .c (q50 3 rfl rfl .no ze46 rfl)<|
  .c (uS [] rfl sz46 rfl)<|
  .c (uA rfl)<|.nil rfl) ?_)
 refine cwS ?_
 refine cwS (cwR (
  .c (uM rfl)<|
  .c (uB rfl (qd3 _ _) rfl)<|.nil rfl) ?_)
 rcases cdS h2 with ⟨hc1,h3⟩ | ⟨hc1,h4⟩
 ·refine cwT rfl hc1 ?_
  refine cwS (cwR (
   .c (uM rfl)<|
   .c (uA rfl)<|
   .c (uA rfl)<|.nil rfl) ?_)
  have heq := ((sJ h3)).symm
  subst heq
  exact qw ⟨_,(show Leads _ _ (St.of [(6,.d (eSP_ ([]))),(7,.d (eErr x0.2.1))] [(0,.own (qc x0.2.2))]) from .w (wkF ⟨⟨_,rfl,.nil0⟩,wD rfl,trivial⟩ ⟨.own rfl (.of_eq rfl (q9 _)),trivial⟩ (qv rfl))),.inr rfl,_,res2 rfl rfl rfl,rfl,rfl⟩
 refine cwF rfl hc1 ?_
 refine cwK ?_
 refine cwS (cwR (
  .c (uA rfl)<|.nil rfl) ?_)
 have ⟨o0,hj0,h5⟩ := bdS h4
 refine cwJ (fun (z : (List ttR)) => St.of [(0,.ifc 24 (.ptr 0 0)),(5,.ptr 1 0),(8,.ptr 3 0),(10,.arr 5 0)] [(0,.own (qc x0.2.2)),(1,.box (.d (eSp a2))),(3,.box (.d (qm x0.1))),(5,.arr 0 25 (z.map ePr))]) (fun (z : (List ttR)) => o0 = z) ?_ ?_
 ·intro v0 hv0; subst hv0
  have ⟨o1,hj1,h6⟩ := bdS h5
  refine cwJ (fun (z : (ttM × (List ttR))) => St.of [(10,.arr 5 0)] [(0,.own (qc z.1)),(5,.arr 0 25 (z.2.map ePr))]) (fun (z : (ttM × (List ttR))) => o1 = (.inl z)) ?_ ?_
  ·intro v1 hv1; subst hv1
   simp only [Sum.elim_inl] at h6
   refine cwS (cwR (
    .c (uM rfl)<|
    .c (uA rfl)<|
    .c (uA rfl)<|.nil rfl) ?_)
   have heq := ((sJ h6)).symm
   subst heq
   exact qw ⟨_,(show Leads _ _ (St.of [(6,.d (eSP_ v1.2)),(7,.d (eErr 0))] [(0,.own (qc v1.1))]) from .w (wkF ⟨⟨_,rfl,.frz rfl rfl rfl⟩,wD rfl,trivial⟩ ⟨.own rfl (.of_eq rfl (q9 _)),trivial⟩ (qv rfl))),.inr rfl,_,res2 rfl rfl rfl,rfl,rfl⟩
  refine cwS (cwR (
   .c (uF rfl qo0 rfl)<|
   .c (uL [2] rfl ta44 rfl)<|
   .c (qV (enc := qP) (xs := x0.1.2.2) rfl rfl .no rfl sl44)<|
   .c (uM rfl)<|.nil rfl) ?_)
  refine cwB ?_
  refine qM (V := (Int × ttM × (List ttR))) (O := ((ttM × (List ttR)) ⊕ ((List ttR) × Int × ttM))) (fun (z : (Int × ttM × (List ttR))) => St.of [(0,.ifc 24 (.ptr 0 0)),(5,.ptr 1 0),(8,.ptr 3 0),(10,.arr 5 0),(47,.d (eint (x0.1.2.2.length : Int))),(48,.d (eint z.1))] [(0,.own (qc z.2.1)),(1,.box (.d (eSp a2))),(3,.box (.d (qm x0.1))),(5,.arr 0 25 (z.2.2.map ePr))]) hj1 (.w (wkF ⟨⟨_,rfl,.ifc (.ptro rfl rfl)⟩,⟨_,rfl,.ptr rfl rfl⟩,⟨_,rfl,.ptr rfl rfl⟩,⟨_,rfl,.arr rfl rfl⟩,wD rfl,wD rfl,trivial⟩ ⟨.own rfl (.of_eq rfl (q9 _)),.box rfl (.d rfl),.box rfl (.d rfl),.arr rfl rfl,trivial⟩ (qv rfl))) ?_
  intro v2 x1 hb0 hx1
  refine cwS (cwR (
   .c (uB rfl (qG0 _ _) rfl)<|.nil rfl) ?_)
  refine cwS ?_
  rcases cdS hb0 with ⟨hc2,h7⟩ | ⟨hc2,h8⟩
  ·refine cwT rfl hc2 ?_
   refine cwK ?_
   have ⟨o2,hj2,h9⟩ := bdS h7
   refine cwJ (fun (z : (ttM × (List ttR))) => St.of [(0,.ifc 24 (.ptr 0 0)),(5,.ptr 1 0),(8,.ptr 3 0),(10,.arr 5 0),(47,.d (eint (x0.1.2.2.length : Int))),(48,.d (eint v2.1))] [(0,.own (qc z.1)),(1,.box (.d (eSp a2))),(3,.box (.d (qm x0.1))),(5,.arr 0 25 (z.2.map ePr))]) (fun (z : (ttM × (List ttR))) => o2 = (.inl z)) ?_ ?_
   ·intro v3 hv2; subst hv2
    simp only [Sum.elim_inl] at h9
    refine cwR (
     .c (uB rfl (qN0 _ _) rfl)<|
     .c (uM rfl)<|.nil rfl
    ) ?_
    exact ⟨((IntKind.wrap .i64 (v2.1 + 1)),v3.1,v3.2),(sJ h9),.w (wkF ⟨⟨_,rfl,.ifc (.ptro rfl rfl)⟩,⟨_,rfl,.ptr rfl rfl⟩,⟨_,rfl,.ptr rfl rfl⟩,⟨_,rfl,.arr rfl rfl⟩,wD rfl,wD rfl,trivial⟩ ⟨.own rfl (.of_eq rfl (q9 _)),.box rfl (.d rfl),.box rfl (.d rfl),.arr rfl rfl,trivial⟩ (qv rfl))⟩
   refine cwB ?_
   refine cwS (cwR (
    .c (uM rfl)<|
    .c (uA rfl)<|.nil rfl) ?_)
   have ⟨o3,hj3,h10⟩ := bdS hj2
   refine cwJ (fun (z : Bool) => St.of [(0,.ifc 24 (.ptr 0 0)),(5,.ptr 1 0),(8,.ptr 3 0),(10,.arr 5 0),(13,.d (eint v2.1)),(14,.d (qU z)),(47,.d (eint (x0.1.2.2.length : Int))),(48,.d (eint v2.1))] [(0,.own (qc v2.2.1)),(1,.box (.d (eSp a2))),(3,.box (.d (qm x0.1))),(5,.arr 0 25 (v2.2.2.map ePr))]) (fun (z : Bool) => o3 = z) ?_ ?_
   ·intro v4 hv3; subst hv3
    have ⟨o4,hj4,h11⟩ := bdS h10
    refine cwJ (fun (z : Bool) => St.of [(0,.ifc 24 (.ptr 0 0)),(5,.ptr 1 0),(8,.ptr 3 0),(10,.arr 5 0),(13,.d (eint v2.1)),(14,.d (qU o3)),(15,.d (qU z)),(47,.d (eint (x0.1.2.2.length : Int))),(48,.d (eint v2.1))] [(0,.own (qc v2.2.1)),(1,.box (.d (eSp a2))),(3,.box (.d (qm x0.1))),(5,.arr 0 25 (v2.2.2.map ePr))]) (fun (z : Bool) => o4 = z) ?_ ?_
    ·intro v5 hv4; subst hv4
     refine cwS ?_
     have ⟨o5,hj5,h12⟩ := bdS h11
     refine cwJ (fun (z : Bool) => St.of [(0,.ifc 24 (.ptr 0 0)),(5,.ptr 1 0),(8,.ptr 3 0),(10,.arr 5 0),(13,.d (eint v2.1)),(47,.d (eint (x0.1.2.2.length : Int))),(48,.d (eint v2.1)),(88,.d (qU z))] [(0,.own (qc v2.2.1)),(1,.box (.d (eSp a2))),(3,.box (.d (qm x0.1))),(5,.arr 0 25 (v2.2.2.map ePr))]) (fun (z : Bool) => o5 = z) ?_ ?_
     ·intro v6 hv5; subst hv5
      rcases cdS h12 with ⟨hc3,h13⟩ | ⟨hc3,h14⟩
      ·refine cwT rfl hc3 ?_
       refine q10 ?_
       exact ⟨(v2.2.1,v2.2.2),(sJ h13),.w (wkF ⟨⟨_,rfl,.ifc (.ptro rfl rfl)⟩,⟨_,rfl,.ptr rfl rfl⟩,⟨_,rfl,.ptr rfl rfl⟩,⟨_,rfl,.arr rfl rfl⟩,wD rfl,wD rfl,trivial⟩ ⟨.own rfl (.of_eq rfl (q9 _)),.box rfl (.d rfl),.box rfl (.d rfl),.arr rfl rfl,trivial⟩ (qv rfl))⟩
      refine cwF rfl hc3 ?_
      refine cwK ?_
      have ⟨x2,hx2,h15⟩ := bdS h14
      have hx2g := qD hx2
      have ⟨x3,hx3,h16⟩ := bdS (x := self v2.2.1 x2.2 a2) h15
      refine cwS (cwRA mixed (by kernel_rfl) (
       .c (uM rfl)<|
       .c (uF rfl qo0 rfl)<|
       .c (uL [2] rfl ta44 rfl)<|
       .c (uM rfl)<|
       .c (qJ1 (enc := qP) (xs := x0.1.2.2) rfl rfl .no rfl rfl sl44 sz69 hx2g.1 hx2g.2)<|
       .c (qa2 rfl rfl .no rfl qM2 (by decide) rfl rfl)<|
       .c (o_ld rfl rfl .no rfl ta3 rfl rfl)<|
       .c (uL [] rfl ta38 rfl)<|
       .c (qQ (fun _ => 0) rfl rfl .no Try.func17 rfl rfl (self_ok hx3) (.cons rfl (.ip rfl) (.cons rfl .d (.cons rfl .d .nil))) (q40 rfl ⟨(by simp [AV.live,lk,Nat.beq]),trivial,trivial,trivial⟩ rfl (OD.dat_live (q9 _)) (by simp)) (.inl rfl))<|
       .c (uM rfl)<|
       .c (uE rfl)<|
       .c (uE rfl)<|
       .c (uA rfl)<|
       .c (uA rfl)<|.nil rfl) (by kernel_rfl) ?_)
      refine cwS ?_
      refine cwS (cwR (
       .c (uM rfl)<|
       .c (uB rfl (qd3 _ _) rfl)<|.nil rfl) ?_)
      rcases cdS h16 with ⟨hc4,h17⟩ | ⟨hc4,h18⟩
      ·refine cwT rfl hc4 ?_
       refine cwS (cwR (
        .c (uM rfl)<|
        .c (uA rfl)<|
        .c (uA rfl)<|.nil rfl) ?_)
       have he0 := ((sJ h17)).symm
       subst he0
       have he1 := ((hx1 _ (sJ h9)).symm).symm
       subst he1
       have heq := ((sJ h6)).symm
       subst heq
       exact qw ⟨_,(show Leads _ _ (St.of [(6,.d (eSP_ ([]))),(7,.d (eErr x3.2.1))] [(0,.own (qc x3.2.2))]) from .w (wkF ⟨⟨_,rfl,.nil0⟩,wD rfl,trivial⟩ ⟨.own rfl (.of_eq rfl (q9 _)),trivial⟩ (qv rfl))),.inr rfl,_,res2 rfl rfl rfl,rfl,rfl⟩
      refine cwF rfl hc4 ?_
      refine cwK ?_
      have ⟨x4,hx4,h19⟩ := bdS h18
      have hx4g := qj0 hx4
      refine cwR (
       .c (uM rfl)<|
       .c (uM rfl)<|
       .c (qo2 (enc := ePr) (xs := v2.2.2) (ys := x3.1) rfl rfl .no rfl rfl rfl q72 sl34 sl34 sz52 by52 ze52 rfl (by decide) hx4g)<|
       .c (uA rfl)<|.nil rfl
      ) ?_
      exact ⟨(x3.2.2,(v2.2.2 ++ x3.1)),(sJ h19),.w (wkF ⟨⟨_,rfl,.ifc (.ptro rfl rfl)⟩,⟨_,rfl,.ptr rfl rfl⟩,⟨_,rfl,.ptr rfl rfl⟩,⟨_,rfl,.arr rfl rfl⟩,wD rfl,wD rfl,trivial⟩ ⟨.own rfl (.of_eq rfl (q9 _)),.box rfl (.d rfl),.box rfl (.d rfl),.arr0 rfl rfl rfl,trivial⟩ (qv rfl))⟩
     rcases cdS hj5 with ⟨hc5,h20⟩ | ⟨hc5,h21⟩
     ·skip
      refine cwR (
       .c (uM rfl)<|
       .c (uM rfl)<|
       .c (uN rfl rfl hc5)<|
       .c (uPT rfl hc5)<|.nil rfl
      ) ?_
      exact ⟨true,(sJ h20),.w (wkF ⟨⟨_,rfl,.ifc (.ptro rfl rfl)⟩,⟨_,rfl,.ptr rfl rfl⟩,⟨_,rfl,.ptr rfl rfl⟩,⟨_,rfl,.arr rfl rfl⟩,wD rfl,wD rfl,wD rfl,wD rfl,trivial⟩ ⟨.own rfl (.of_eq rfl (q9 _)),.box rfl (.d rfl),.box rfl (.d rfl),.arr rfl rfl,trivial⟩ (qv rfl))⟩
     refine cwR (
      .c (uM rfl)<|
      .c (uM rfl)<|
      .c (o_mv rfl rfl (.yes rfl rfl hc5) rfl)<|
      .c (uPF rfl hc5)<|.nil rfl
     ) ?_
     exact ⟨o4,(sJ h21),.w (wkF ⟨⟨_,rfl,.ifc (.ptro rfl rfl)⟩,⟨_,rfl,.ptr rfl rfl⟩,⟨_,rfl,.ptr rfl rfl⟩,⟨_,rfl,.arr rfl rfl⟩,wD rfl,wD rfl,wD rfl,wD rfl,trivial⟩ ⟨.own rfl (.of_eq rfl (q9 _)),.box rfl (.d rfl),.box rfl (.d rfl),.arr rfl rfl,trivial⟩ (qv rfl))⟩
    rcases cdS hj4 with ⟨hc6,h22⟩ | ⟨hc6,h23⟩
    ·skip
     have ⟨x5,hx5,h24⟩ := bdS h22
     have hx5g := qD hx5
     have ⟨x6,hx6,h25⟩ := bdS (x := qu x5.1 a2.2.1) h24
     refine cwRA mixed (by kernel_rfl) (
      .c (uF rfl fld38_2 rfl)<|
      .c (uL [2] rfl ta4 rfl)<|
      .c (uT rfl)<|
      .c (uM rfl)<|
      .c (qn rfl rfl (.yes rfl rfl hc6) rfl qo0 (by decide))<|
      .c (qA [2] rfl rfl (.yes rfl rfl hc6) rfl rfl rfl ta44 rfl rfl)<|
      .c (o_mv rfl rfl (.yes rfl rfl hc6) rfl)<|
      .c (qJ1 (enc := qP) (xs := x0.1.2.2) rfl rfl (.yes rfl rfl hc6) rfl rfl sl44 sz69 hx5g.1 hx5g.2)<|
      .c (qa2 rfl rfl (.yes rfl rfl hc6) rfl qN2 (by decide) rfl rfl)<|
      .c (o_ld rfl rfl (.yes rfl rfl hc6) rfl ta31 rfl rfl)<|
      .c (qn rfl rfl (.yes rfl rfl hc6) rfl fld38_1 (by decide))<|
      .c (qA [1] rfl rfl (.yes rfl rfl hc6) rfl rfl rfl ta31 rfl rfl)<|
      .c (qe0 rfl rfl (.yes rfl rfl hc6) Try.func43 rfl rfl (q90 hx6) (.cons rfl .d (.cons rfl .d .nil)) ⟨trivial,trivial,trivial⟩ (.inl rfl))<|
      .c (qj rfl rfl (.yes rfl rfl hc6) rfl rfl (b_geq _ _) rfl)<|
      .c (uPT rfl hc6)<|
      .c (uA rfl)<|.nil rfl) (by kernel_rfl) ?_
     exact ⟨(decide (x6 ≥ 0)),(sJ h25),.w (wkF ⟨⟨_,rfl,.ifc (.ptro rfl rfl)⟩,⟨_,rfl,.ptr rfl rfl⟩,⟨_,rfl,.ptr rfl rfl⟩,⟨_,rfl,.arr rfl rfl⟩,wD rfl,wD rfl,wD rfl,wD rfl,wD rfl,trivial⟩ ⟨.own rfl (.of_eq rfl (q9 _)),.box rfl (.d rfl),.box rfl (.d rfl),.arr rfl rfl,trivial⟩ (qv rfl))⟩
    refine cwRA mixed (by kernel_rfl) (
     .c (uF rfl fld38_2 rfl)<|
     .c (uL [2] rfl ta4 rfl)<|
     .c (uT rfl)<|
     .c (uM rfl)<|
     .c (uN rfl rfl hc6)<|
     .c (uN rfl rfl hc6)<|
     .c (uN rfl rfl hc6)<|
     .c (uN rfl rfl hc6)<|
     .c (uN rfl rfl hc6)<|
     .c (uN rfl rfl hc6)<|
     .c (uN rfl rfl hc6)<|
     .c (uN rfl rfl hc6)<|
     .c (uN rfl rfl hc6)<|
     .c (uN rfl rfl hc6)<|
     .c (uPF rfl hc6)<|
     .c (uA rfl)<|.nil rfl) (by kernel_rfl) ?_
    exact ⟨false,(sJ h23),.w (wkF ⟨⟨_,rfl,.ifc (.ptro rfl rfl)⟩,⟨_,rfl,.ptr rfl rfl⟩,⟨_,rfl,.ptr rfl rfl⟩,⟨_,rfl,.arr rfl rfl⟩,wD rfl,wD rfl,wD rfl,wD rfl,wD rfl,trivial⟩ ⟨.own rfl (.of_eq rfl (q9 _)),.box rfl (.d rfl),.box rfl (.d rfl),.arr rfl rfl,trivial⟩ (qv rfl))⟩
   rcases cdS hj3 with ⟨hc7,h26⟩ | ⟨hc7,h27⟩
   ·skip
    have ⟨x7,hx7,h28⟩ := bdS h26
    have hx7g := qD hx7
    have ⟨x8,hx8,h29⟩ := bdS (x := qu x7.1 a2.1) h28
    refine cwRA mixed (by kernel_rfl) (
     .c (uM rfl)<|
     .c (uB rfl (qN0 _ _) rfl)<|
     .c (uF rfl qo0 rfl)<|
     .c (uL [2] rfl ta44 rfl)<|
     .c (qV (enc := qP) (xs := x0.1.2.2) rfl rfl .no rfl sl44)<|
     .c (uB rfl (qG0 _ _) rfl)<|
     .c (uM rfl)<|
     .c (qn rfl rfl (.yes rfl rfl hc7) rfl qo0 (by decide))<|
     .c (qA [2] rfl rfl (.yes rfl rfl hc7) rfl rfl rfl ta44 rfl rfl)<|
     .c (o_mv rfl rfl (.yes rfl rfl hc7) rfl)<|
     .c (qj rfl rfl (.yes rfl rfl hc7) rfl rfl (qN0 _ _) rfl)<|
     .c (qJ1 (enc := qP) (xs := x0.1.2.2) rfl rfl (.yes rfl rfl hc7) rfl rfl sl44 sz69 hx7g.1 hx7g.2)<|
     .c (qa2 rfl rfl (.yes rfl rfl hc7) rfl qN2 (by decide) rfl rfl)<|
     .c (o_ld rfl rfl (.yes rfl rfl hc7) rfl ta31 rfl rfl)<|
     .c (qn rfl rfl (.yes rfl rfl hc7) rfl fld38_0 (by decide))<|
     .c (qA [0] rfl rfl (.yes rfl rfl hc7) rfl rfl rfl ta31 rfl rfl)<|
     .c (qe0 rfl rfl (.yes rfl rfl hc7) Try.func43 rfl rfl (q90 hx8) (.cons rfl .d (.cons rfl .d .nil)) ⟨trivial,trivial,trivial⟩ (.inl rfl))<|
     .c (qj rfl rfl (.yes rfl rfl hc7) rfl rfl (b_leq _ _) rfl)<|
     .c (uPT rfl hc7)<|
     .c (uA rfl)<|.nil rfl) (by kernel_rfl) ?_
    exact ⟨(decide (x8 ≤ 0)),(sJ h29),.w (wkF ⟨⟨_,rfl,.ifc (.ptro rfl rfl)⟩,⟨_,rfl,.ptr rfl rfl⟩,⟨_,rfl,.ptr rfl rfl⟩,⟨_,rfl,.arr rfl rfl⟩,wD rfl,wD rfl,wD rfl,wD rfl,trivial⟩ ⟨.own rfl (.of_eq rfl (q9 _)),.box rfl (.d rfl),.box rfl (.d rfl),.arr rfl rfl,trivial⟩ (qv rfl))⟩
   refine cwRA mixed (by kernel_rfl) (
    .c (uM rfl)<|
    .c (uB rfl (qN0 _ _) rfl)<|
    .c (uF rfl qo0 rfl)<|
    .c (uL [2] rfl ta44 rfl)<|
    .c (qV (enc := qP) (xs := x0.1.2.2) rfl rfl .no rfl sl44)<|
    .c (uB rfl (qG0 _ _) rfl)<|
    .c (uM rfl)<|
    .c (uN rfl rfl hc7)<|
    .c (uN rfl rfl hc7)<|
    .c (uN rfl rfl hc7)<|
    .c (uN rfl rfl hc7)<|
    .c (uN rfl rfl hc7)<|
    .c (uN rfl rfl hc7)<|
    .c (uN rfl rfl hc7)<|
    .c (uN rfl rfl hc7)<|
    .c (uN rfl rfl hc7)<|
    .c (uN rfl rfl hc7)<|
    .c (uN rfl rfl hc7)<|
    .c (uPF rfl hc7)<|
    .c (uA rfl)<|.nil rfl) (by kernel_rfl) ?_
   exact ⟨false,(sJ h27),.w (wkF ⟨⟨_,rfl,.ifc (.ptro rfl rfl)⟩,⟨_,rfl,.ptr rfl rfl⟩,⟨_,rfl,.ptr rfl rfl⟩,⟨_,rfl,.arr rfl rfl⟩,wD rfl,wD rfl,wD rfl,wD rfl,trivial⟩ ⟨.own rfl (.of_eq rfl (q9 _)),.box rfl (.d rfl),.box rfl (.d rfl),.arr rfl rfl,trivial⟩ (qv rfl))⟩
  refine cwF rfl hc2 ?_
  refine q10 ?_
  exact ⟨(v2.2.1,v2.2.2),(hx1 _ (sJ h8)).symm,.w (wkF ⟨⟨_,rfl,.arr rfl rfl⟩,trivial⟩ ⟨.own rfl (.of_eq rfl (q9 _)),.arr rfl rfl,trivial⟩ (qv rfl))⟩
 refine cwS (cwR (
  .c (uF rfl qr1 rfl)<|
  .c (uL [1] rfl ta34 rfl)<|
  .c (qV (enc := ePr) (xs := x0.1.2.1) rfl rfl .no rfl sl34)<|
  .c (uM rfl)<|.nil rfl) ?_)
 refine cwB ?_
 refine qM (V := (Int × (List ttR))) (O := (List ttR)) (fun (z : (Int × (List ttR))) => St.of [(0,.ifc 24 (.ptr 0 0)),(5,.ptr 1 0),(8,.ptr 3 0),(10,.arr 5 0),(30,.d (eSP_ x0.1.2.1)),(31,.d (eint (x0.1.2.1.length : Int))),(32,.d (eint z.1))] [(0,.own (qc x0.2.2)),(1,.box (.d (eSp a2))),(3,.box (.d (qm x0.1))),(5,.arr 0 25 (z.2.map ePr))]) hj0 (.w (wkF ⟨⟨_,rfl,.ifc (.ptro rfl rfl)⟩,⟨_,rfl,.ptr rfl rfl⟩,⟨_,rfl,.ptr rfl rfl⟩,⟨_,rfl,.nila rfl rfl⟩,wD rfl,wD rfl,wD rfl,trivial⟩ ⟨.own rfl (.of_eq rfl (q9 _)),.box rfl (.d rfl),.box rfl (.d rfl),.nil rfl,trivial⟩ (qv rfl))) ?_
 intro v7 x9 hb1 hx9
 refine cwS (cwR (
  .c (uB rfl (qG0 _ _) rfl)<|.nil rfl) ?_)
 refine cwS ?_
 rcases cdS hb1 with ⟨hc8,h30⟩ | ⟨hc8,h31⟩
 ·refine cwT rfl hc8 ?_
  refine cwK ?_
  have ⟨o6,hj6,h32⟩ := bdS h30
  refine cwJ (fun (z : (List ttR)) => St.of [(0,.ifc 24 (.ptr 0 0)),(5,.ptr 1 0),(8,.ptr 3 0),(10,.arr 5 0),(30,.d (eSP_ x0.1.2.1)),(31,.d (eint (x0.1.2.1.length : Int))),(32,.d (eint v7.1))] [(0,.own (qc x0.2.2)),(1,.box (.d (eSp a2))),(3,.box (.d (qm x0.1))),(5,.arr 0 25 (z.map ePr))]) (fun (z : (List ttR)) => o6 = z) ?_ ?_
  ·intro v8 hv6; subst hv6
   refine cwR (
    .c (uB rfl (qN0 _ _) rfl)<|
    .c (uM rfl)<|.nil rfl
   ) ?_
   exact ⟨((IntKind.wrap .i64 (v7.1 + 1)),o6),(sJ h32),.w (wkF ⟨⟨_,rfl,.ifc (.ptro rfl rfl)⟩,⟨_,rfl,.ptr rfl rfl⟩,⟨_,rfl,.ptr rfl rfl⟩,⟨_,rfl,.arr rfl rfl⟩,wD rfl,wD rfl,wD rfl,trivial⟩ ⟨.own rfl (.of_eq rfl (q9 _)),.box rfl (.d rfl),.box rfl (.d rfl),.arr rfl rfl,trivial⟩ (qv rfl))⟩
  refine cwB ?_
  have ⟨x10,hx10,h33⟩ := bdS hj6
  have hx10g := qD hx10
  refine cwS (cwR (
   .c (qJ1 (enc := ePr) (xs := x0.1.2.1) rfl rfl .no rfl rfl sl34 sz52 hx10g.1 hx10g.2)<|
   .c (o_ld rfl rfl .no rfl ta52 rfl rfl)<|
   .c (q50 4 rfl rfl .no ze52 rfl)<|
   .c (uS [] rfl sz52 rfl)<|.nil rfl) ?_)
  have ⟨x11,hx11,h34⟩ := bdS (x := qe5 a2 x10.1) h33
  refine cwS (cwR (
   .c (uL [] rfl ta38 rfl)<|
   .c (uF rfl qD4 rfl)<|
   .c (uL [0] rfl ta31 rfl)<|
   .c (qe0 rfl rfl .no Try.func42 rfl rfl (tree_in_ok hx11) (.cons rfl .d (.cons rfl .d .nil)) ⟨trivial,trivial,trivial⟩ (.inl rfl))<|.nil rfl) ?_)
  rcases cdS h34 with ⟨hc9,h35⟩ | ⟨hc9,h36⟩
  ·refine cwT rfl hc9 ?_
   have ⟨x12,hx12,h37⟩ := bdS h35
   have hx12g := qj0 hx12
   refine cwR (
    .c (uM rfl)<|
    .c (uL [] rfl ta52 rfl)<|
    .c (qu5 (rows := ([x10] : List ttR).map ePr) rfl rfl .no (.cons rfl .nil) rfl sl34 sz52 ze52 rfl (qL1 q72) (by decide))<|
    .c (qo2 (enc := ePr) (xs := v7.2) (ys := [x10]) rfl rfl .no rfl rfl rfl q72 sl34 sl34 sz52 by52 ze52 rfl (by decide) hx12g)<|
    .c (uA rfl)<|.nil rfl
   ) ?_
   exact ⟨(v7.2 ++ [x10]),(sJ h37),.w (wkF ⟨⟨_,rfl,.ifc (.ptro rfl rfl)⟩,⟨_,rfl,.ptr rfl rfl⟩,⟨_,rfl,.ptr rfl rfl⟩,⟨_,rfl,.arr rfl rfl⟩,wD rfl,wD rfl,wD rfl,trivial⟩ ⟨.own rfl (.of_eq rfl (q9 _)),.box rfl (.d rfl),.box rfl (.d rfl),.arr0 rfl rfl rfl,trivial⟩ (qv rfl))⟩
  refine cwF rfl hc9 ?_
  refine cwK ?_
  exact ⟨v7.2,(sJ h36),.w (wkF ⟨⟨_,rfl,.ifc (.ptro rfl rfl)⟩,⟨_,rfl,.ptr rfl rfl⟩,⟨_,rfl,.ptr rfl rfl⟩,⟨_,rfl,.arr rfl rfl⟩,wD rfl,wD rfl,wD rfl,trivial⟩ ⟨.own rfl (.of_eq rfl (q9 _)),.box rfl (.d rfl),.box rfl (.d rfl),.arr rfl rfl,trivial⟩ (qv rfl))⟩
 refine cwF rfl hc8 ?_
 refine q10 ?_
 exact ⟨v7.2,(hx9 _ (sJ h31)).symm,.w (wkF ⟨⟨_,rfl,.ifc (.ptro rfl rfl)⟩,⟨_,rfl,.ptr rfl rfl⟩,⟨_,rfl,.ptr rfl rfl⟩,⟨_,rfl,.arr rfl rfl⟩,trivial⟩ ⟨.own rfl (.of_eq rfl (q9 _)),.box rfl (.d rfl),.box rfl (.d rfl),.arr rfl rfl,trivial⟩ (qv rfl))⟩
theorem qX3 : ∀ (n : Nat) {a0 : ttM} {a1 : Int} {a2 : ttS} {r : ((List ttR) × Int × ttM)},qD1 n a0 a1 a2 = some r → FnOk Try.prog 17 [.ifc 24 (.ptr 0 0),.d (eint a1),.d (eSp a2)] 1 (lk [(0,.own (qc a0))]) (fun rr oo => rr = .tup [.d (eSP_ r.1),.d (eErr r.2.1)] ∧ oo = lk [(0,.own (qc r.2.2))])
 | 0,_,_,_,_,h => nomatch h
 | n + 1,_,_,_,_,h => qN4 (self := qD1 n) (fun h => qX3 n h) h
theorem tree_Scan_o_ok {a0 : ttM} {a1 : Int} {a2 : ttS} {r : ((List ttR) × Int × ttM)} (h : q54 a0 a1 a2 = some r) : FnOk Try.prog 17 [.ifc 24 (.ptr 0 0),.d (eint a1),.d (eSp a2)] 1 (lk [(0,.own (qc a0))]) (fun rr oo => rr = .tup [.d (eSP_ r.1),.d (eErr r.2.1)] ∧ oo = lk [(0,.own (qc r.2.2))]) := qX3 16 h
theorem qJ3 {self : ttM → Int → Option (Int × ttM)} (self_ok : ∀ {a0 : ttM} {a1 : Int} {r : (Int × ttM)},self a0 a1 = some r → FnOk Try.prog 21 [.ifc 24 (.ptr 0 0),.d (eint a1)] 1 (lk [(0,.own (qc a0))]) (fun rr oo => rr = .d (eErr r.1) ∧ oo = lk [(0,.own (qc r.2))])) {a0 : ttM} {a1 : Int} {r : (Int × ttM)} (h : qL0 self a0 a1 = some r) : FnOk Try.prog 21 [.ifc 24 (.ptr 0 0),.d (eint a1)] 1 (lk [(0,.own (qc a0))]) (fun rr oo => rr = .d (eErr r.1) ∧ oo = lk [(0,.own (qc r.2))]) := by
 refine fnO Try.func21 rfl rfl (cwP ?_)
 unfold qL0 at h
 refine cwS (cwR (
  .c (uA rfl)<|.nil rfl) ?_)
 refine cwS ?_
 refine cwS (cwR (
  .c (uM rfl)<|
  .c (uB rfl (qd0 _ _) rfl)<|.nil rfl) ?_)
 rcases cdS h with ⟨hc0,h0⟩ | ⟨hc0,h1⟩
 ·refine cwT rfl hc0 ?_
  refine cwS (cwR (
   .c (uA rfl)<|.nil rfl) ?_)
  have heq := ((sJ h0)).symm
  subst heq
  exact qw ⟨_,(show Leads _ _ (St.of [(4,.d (eErr 0))] [(0,.own (qc a0))]) from .w (wkF ⟨wD rfl,trivial⟩ ⟨.own rfl (.of_eq rfl (q9 _)),trivial⟩ (qv rfl))),.inr rfl,_,res1 rfl rfl,rfl,rfl⟩
 refine cwF rfl hc0 ?_
 refine cwK ?_
 have ⟨x0,hx0,h2⟩ := bdS (x := qx a0 a1) h1
 refine cwS (cwR (
  .c (uM rfl)<|
  .c (uM rfl)<|
  .c (o_inv (fun n => bif Nat.beq n 0 then 0 else 1) rfl rfl .no rfl Try.func23 rfl rfl rfl qr4 (qh0 hx0) (.cons rfl (.p rfl) (.cons rfl .d .nil)) (by decide) (qP2 [1] rfl ⟨(by simp [AV.live,AV.lives,lk,Nat.beq]),trivial,trivial⟩ ⟨⟨rfl,(OD.dat_live (q9 _))⟩,trivial⟩ rfl rfl rfl ⟨rfl,trivial⟩ rfl) (.inl rfl))<|
  .c (uM rfl)<|
  .c (uE rfl)<|
  .c (uE rfl)<|
  .c (q50 2 rfl rfl .no ze46 rfl)<|
  .c (uS [] rfl sz46 rfl)<|
  .c (uA rfl)<|.nil rfl) ?_)
 refine cwS ?_
 refine cwS (cwR (
  .c (uM rfl)<|
  .c (uB rfl (qd3 _ _) rfl)<|.nil rfl) ?_)
 rcases cdS h2 with ⟨hc1,h3⟩ | ⟨hc1,h4⟩
 ·refine cwT rfl hc1 ?_
  refine cwS (cwR (
   .c (uM rfl)<|
   .c (uA rfl)<|.nil rfl) ?_)
  have heq := ((sJ h3)).symm
  subst heq
  exact qw ⟨_,(show Leads _ _ (St.of [(4,.d (eErr x0.2.1))] [(0,.own (qc x0.2.2))]) from .w (wkF ⟨wD rfl,trivial⟩ ⟨.own rfl (.of_eq rfl (q9 _)),trivial⟩ (qv rfl))),.inr rfl,_,res1 rfl rfl,rfl,rfl⟩
 refine cwF rfl hc1 ?_
 refine cwK ?_
 have ⟨x1,hx1,h5⟩ := bdS (x := qA0 x0.2.2 a1) h4
 refine cwS (cwR (
  .c (uM rfl)<|
  .c (uM rfl)<|
  .c (o_inv (fun _ => 0) rfl rfl .no rfl Try.func118 rfl rfl rfl hm24_Dec (tree_Memory_Dec_ok hx1) (.cons rfl (.p rfl) (.cons rfl .d .nil)) (by decide) (q40 rfl ⟨(by simp [AV.live,lk,Nat.beq]),trivial,trivial⟩ rfl (OD.dat_live (q9 _)) (by simp)) (.inl rfl))<|
  .c (uM rfl)<|
  .c (uE rfl)<|
  .c (uE rfl)<|
  .c (uA rfl)<|
  .c (uA rfl)<|.nil rfl) ?_)
 refine cwS ?_
 have ⟨o0,hj0,h6⟩ := bdS h5
 refine cwJ (fun (z : Bool) => St.of [(0,.ifc 24 (.ptr 0 0)),(5,.ptr 2 0),(6,.d (eErr x1.2.1)),(33,.d (qU z))] [(0,.own (qc x1.2.2)),(2,.box (.d (qm x0.1)))]) (fun (z : Bool) => o0 = z) ?_ ?_
 ·intro v0 hv0; subst hv0
  rcases cdS h6 with ⟨hc2,h7⟩ | ⟨hc2,h8⟩
  ·refine cwT rfl hc2 ?_
   refine cwS (cwR (
    .c (uM rfl)<|
    .c (uA rfl)<|.nil rfl) ?_)
   have heq := ((sJ h7)).symm
   subst heq
   exact qw ⟨_,(show Leads _ _ (St.of [(4,.d (eErr x1.2.1))] [(0,.own (qc x1.2.2))]) from .w (wkF ⟨wD rfl,trivial⟩ ⟨.own rfl (.of_eq rfl (q9 _)),trivial⟩ (qv rfl))),.inr rfl,_,res1 rfl rfl,rfl,rfl⟩
  refine cwF rfl hc2 ?_
  refine cwK ?_
  have ⟨o1,hj1,h9⟩ := bdS h8
  refine cwJ (fun (z : ttM) => St.of [] [(0,.own (qc z))]) (fun (z : ttM) => o1 = (.inl z)) ?_ ?_
  ·intro v1 hv1; subst hv1
   simp only [Sum.elim_inl] at h9
   refine cwS (cwR (
    .c (uA rfl)<|.nil rfl) ?_)
   have heq := ((sJ h9)).symm
   subst heq
   exact qw ⟨_,(show Leads _ _ (St.of [(4,.d (eErr 0))] [(0,.own (qc v1))]) from .w (wkF ⟨wD rfl,trivial⟩ ⟨.own rfl (.of_eq rfl (q9 _)),trivial⟩ (qv rfl))),.inr rfl,_,res1 rfl rfl,rfl,rfl⟩
  refine cwS (cwR (
   .c (uF rfl qo0 rfl)<|
   .c (uL [2] rfl ta44 rfl)<|
   .c (qV (enc := qP) (xs := x0.1.2.2) rfl rfl .no rfl sl44)<|
   .c (uM rfl)<|.nil rfl) ?_)
  refine cwB ?_
  refine qM (V := (Int × ttM)) (O := (ttM ⊕ (Int × ttM))) (fun (z : (Int × ttM)) => St.of [(0,.ifc 24 (.ptr 0 0)),(36,.d (qv0 x0.1.2.2)),(37,.d (eint (x0.1.2.2.length : Int))),(38,.d (eint z.1))] [(0,.own (qc z.2))]) hj1 (.w (wkF ⟨⟨_,rfl,.ifc (.ptro rfl rfl)⟩,wD rfl,wD rfl,wD rfl,trivial⟩ ⟨.own rfl (.of_eq rfl (q9 _)),trivial⟩ (qv rfl))) ?_
  intro v2 x2 hb0 hx2
  refine cwS (cwR (
   .c (uB rfl (qG0 _ _) rfl)<|.nil rfl) ?_)
  refine cwS ?_
  rcases cdS hb0 with ⟨hc3,h10⟩ | ⟨hc3,h11⟩
  ·refine cwT rfl hc3 ?_
   refine cwK ?_
   refine cwS ?_
   refine cwB ?_
   have ⟨x3,hx3,h12⟩ := bdS h10
   have hx3g := qD hx3
   refine cwS (cwR (
    .c (qJ1 (enc := qP) (xs := x0.1.2.2) rfl rfl .no rfl rfl sl44 sz69 hx3g.1 hx3g.2)<|
    .c (o_ld rfl rfl .no rfl ta69 rfl rfl)<|
    .c (q50 3 rfl rfl .no ze69 rfl)<|
    .c (uS [] rfl sz69 rfl)<|.nil rfl) ?_)
   have ⟨x4,hx4,h13⟩ := bdS (x := self v2.2 x3.2) h12
   refine cwS (cwR (
    .c (uM rfl)<|
    .c (uF rfl qM2 rfl)<|
    .c (uL [1] rfl ta3 rfl)<|
    .c (qQ (fun _ => 0) rfl rfl .no Try.func21 rfl rfl (self_ok hx4) (.cons rfl (.ip rfl) (.cons rfl .d .nil)) (q40 rfl ⟨(by simp [AV.live,lk,Nat.beq]),trivial,trivial⟩ rfl (OD.dat_live (q9 _)) (by simp)) (.inl rfl))<|
    .c (uA rfl)<|.nil rfl) ?_)
   refine cwS (cwR (
    .c (uM rfl)<|
    .c (uB rfl (qd3 _ _) rfl)<|.nil rfl) ?_)
   rcases cdS h13 with ⟨hc4,h14⟩ | ⟨hc4,h15⟩
   ·refine cwT rfl hc4 ?_
    refine cwS (cwR (
     .c (uM rfl)<|
     .c (uA rfl)<|.nil rfl) ?_)
    have he0 := ((hx2 _ (sJ h14)).symm).symm
    subst he0
    have heq := ((sJ h9)).symm
    subst heq
    exact qw ⟨_,(show Leads _ _ (St.of [(4,.d (eErr x4.1))] [(0,.own (qc x4.2))]) from .w (wkF ⟨wD rfl,trivial⟩ ⟨.own rfl (.of_eq rfl (q9 _)),trivial⟩ (qv rfl))),.inr rfl,_,res1 rfl rfl,rfl,rfl⟩
   refine cwF rfl hc4 ?_
   refine cwK ?_
   refine cwR (
    .c (uB rfl (qN0 _ _) rfl)<|
    .c (uM rfl)<|.nil rfl
   ) ?_
   exact ⟨((IntKind.wrap .i64 (v2.1 + 1)),x4.2),(sJ h15),.w (wkF ⟨⟨_,rfl,.ifc (.ptro rfl rfl)⟩,wD rfl,wD rfl,wD rfl,trivial⟩ ⟨.own rfl (.of_eq rfl (q9 _)),trivial⟩ (qv rfl))⟩
  refine cwF rfl hc3 ?_
  refine q10 ?_
  exact ⟨v2.2,(hx2 _ (sJ h11)).symm,.w (wkF trivial ⟨.own rfl (.of_eq rfl (q9 _)),trivial⟩ (qv rfl))⟩
 rcases cdS hj0 with ⟨hc5,h16⟩ | ⟨hc5,h17⟩
 ·skip
  refine cwR (
   .c (uM rfl)<|
   .c (uB rfl (qd3 _ _) rfl)<|
   .c (uM rfl)<|
   .c (uN rfl rfl hc5)<|
   .c (uN rfl rfl hc5)<|
   .c (uPT rfl hc5)<|.nil rfl
  ) ?_
  exact ⟨true,(sJ h16),.w (wkF ⟨⟨_,rfl,.ifc (.ptro rfl rfl)⟩,⟨_,rfl,.ptr rfl rfl⟩,wD rfl,wD rfl,trivial⟩ ⟨.own rfl (.of_eq rfl (q9 _)),.box rfl (.d rfl),trivial⟩ (qv rfl))⟩
 refine cwR (
  .c (uM rfl)<|
  .c (uB rfl (qd3 _ _) rfl)<|
  .c (uM rfl)<|
  .c (o_mv rfl rfl (.yes rfl rfl hc5) rfl)<|
  .c (qo5 rfl rfl (.yes rfl rfl hc5) rfl)<|
  .c (uPF rfl hc5)<|.nil rfl
 ) ?_
 exact ⟨(!x1.1),(sJ h17),.w (wkF ⟨⟨_,rfl,.ifc (.ptro rfl rfl)⟩,⟨_,rfl,.ptr rfl rfl⟩,wD rfl,wD rfl,trivial⟩ ⟨.own rfl (.of_eq rfl (q9 _)),.box rfl (.d rfl),trivial⟩ (qv rfl))⟩
theorem qK2 : ∀ (n : Nat) {a0 : ttM} {a1 : Int} {r : (Int × ttM)},qF0 n a0 a1 = some r → FnOk Try.prog 21 [.ifc 24 (.ptr 0 0),.d (eint a1)] 1 (lk [(0,.own (qc a0))]) (fun rr oo => rr = .d (eErr r.1) ∧ oo = lk [(0,.own (qc r.2))])
 | 0,_,_,_,h => nomatch h
 | n + 1,_,_,_,h => qJ3 (self := qF0 n) (fun h => qK2 n h) h
theorem qi2 {a0 : ttM} {a1 : Int} {r : (Int × ttM)} (h : qV1 a0 a1 = some r) : FnOk Try.prog 21 [.ifc 24 (.ptr 0 0),.d (eint a1)] 1 (lk [(0,.own (qc a0))]) (fun rr oo => rr = .d (eErr r.1) ∧ oo = lk [(0,.own (qc r.2))]) := qK2 16 h
end
end Go.Val
