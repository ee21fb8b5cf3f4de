/- Walks of the program's functions,printed. -/
import Derived.Test.YthipaajmgfnagaaGreatDoorWd
import Derived.Test.YthipaajmgfnagaaGreatDoorHd
set_option linter.unusedSectionVars false
set_option linter.unusedVariables false
set_option linter.unusedSimpArgs false
set_option maxRecDepth 100000
namespace Go.Val
open Go.RowKit Go.Proofs
section
variable [NoDrw]
noncomputable def qG2 (a0 : List (B8 × B8 × Bool)) : Option (List (B8 × B8 × Bool)) := (q10 a0).bind fun x0 => (q80 x0).bind fun x1 => (fits x1.length 49).bind fun _ => (((qA (V := (Int × (List (B8 × B8 × Bool)))) (O := (List (B8 × B8 × Bool))) (fun v0 => cond (decide (v0.1 < ((qF x1).length : Int))) (((((gx (qF x1) v0.1).bind fun x2 =>
     (qC0 x2).bind fun x3 => (((cond (decide ((v0.2.length : Int) > 0)) ((gx v0.2 (IntKind.wrap .i64 ((v0.2.length : Int) - 1))).bind fun x4 => (qC0 x4).bind fun x5 => (qv x3.1 x5.2).bind fun x6 => cond (decide (x6 ≤ 0)) (((((qv x3.2 x5.2).bind fun x7 => cond (decide (x7 > 0)) (some x3.2) (some x5.2)) : Option (B8 × Bool))).bind fun o0 =>
        (qu2 x5.1 o0).bind fun x8 => some (.inr (List.set v0.2 (IntKind.wrap .i64 ((v0.2.length : Int) - 1)).toNat x8))) (some (.inl ()))) (some (.inl ()))) : Option (Unit ⊕ (List (B8 × B8 × Bool))))).bind fun o1 => Sum.elim (fun (v1 : Unit) => (qu2 x3.1 x3.2).bind fun x9 => (fits (v0.2.length + ([x9]).length) 49).bind fun _ => some (v0.2 ++ [x9])) (fun w0 => some w0) o1
    ) : Option (List (B8 × B8 × Bool)))).bind fun o2 => some (.inl ((IntKind.wrap .i64 (v0.1 + 1)),o2))) (some (.inr v0.2))) (0,[])) : Option (List (B8 × B8 × Bool)))).bind fun o3 => some o3
noncomputable def qc0 (a0 : VwT) (a1 : (B8 × B8 × Bool)) : Option VwT := ((((fits (a0.2.2.1.length + ([a1]).length) 49).bind fun _ => (qG2 (a0.2.2.1 ++ [a1])).bind fun x0 => some (a0.1,a0.2.1,x0,a0.2.2.2)) : Option VwT)).bind fun o0 => some o0
theorem span_Clean_ok {a0 : List (B8 × B8 × Bool)} {r : (List (B8 × B8 × Bool))} (h : qG2 a0 = some r) : FnOk Tryz.prog 67 [.d (eSS a0)] 0 (lk []) (fun rr oo => rr = .arr 0 0 ∧ oo = lk [(0,.arr 0 49 (r.map eSp))]) := by
 refine fnO Tryz.func67 rfl rfl (cwP ?_)
 unfold qG2 at h
 refine cwS (cwR (
  .c (uA rfl)<|.nil rfl) ?_)
 have ⟨x0,hx0,h0⟩ := bdS (x := q10 a0) h
 have ⟨x1,hx1,h1⟩ := bdS (x := q80 x0) h0
 refine cwS (cwR (
  .c (uM rfl)<|
  .c (qd2 4 rfl rfl .no Tryz.func55 rfl rfl (q23 hx0) (.cons rfl .d .nil) ⟨trivial,trivial⟩ rfl (.inl rfl))<|
  .c (qC (fun _ => 4) rfl rfl .no Tryz.func100 rfl rfl (qV3 hx1 0) (.cons rfl (.a rfl) (.cons rfl .f0 .nil)) (q60 rfl ⟨(by simp [AV.live,lk,Nat.beq]),(by simp [AV.live,AV.lives]),trivial⟩ rfl trivial (by simp)) (.inl rfl))<|
  .c (uA rfl)<|.nil rfl) ?_)
 have ⟨x2,hx2,h2⟩ := bdS h1
 have hx2g := qt hx2
 refine cwS (cwR (
  .c (uM rfl)<|
  .c (qC (fun _ => 4) rfl rfl .no Tryz.func104 rfl rfl (sort104_ok hx2 (0 + 1)) (.cons rfl (.a rfl) (.cons rfl .f0 .nil)) (q60 rfl ⟨(by simp [AV.live,lk]),(by simp [AV.live,AV.lives]),trivial⟩ rfl trivial (by simp)) (.inl rfl))<|.nil rfl) ?_)
 refine cwS (cwR (
  .c (uA rfl)<|.nil rfl) ?_)
 have ⟨o0,hj0,h3⟩ := bdS h2
 refine cwJ (fun (z : (List (B8 × B8 × Bool))) => St.of [(3,.arr 0 0)] [(0,.arr 0 49 (z.map eSp))]) (fun (z : (List (B8 × B8 × Bool))) => o0 = z) ?_ ?_
 ·intro v0 hv0; subst hv0
  refine cwS (cwR (
   .c (uM rfl)<|
   .c (uA rfl)<|.nil rfl) ?_)
  have heq := ((sJ h3)).symm
  subst heq
  exact qe ⟨_,(show Leads _ _ (St.of [(2,.arr 0 0)] [(0,.arr 0 49 (o0.map eSp))]) from .w (wkF ⟨⟨_,rfl,.arr rfl rfl⟩,trivial⟩ ⟨.arr rfl rfl,trivial⟩ qd)),.inr rfl,_,res1 rfl rfl,rfl,rfl⟩
 refine cwS (cwR (
  .c (uM rfl)<|
  .c (q35 (enc := eSp) (xs := (qF x1)) rfl rfl .no rfl rfl sl59)<|
  .c (uM rfl)<|.nil rfl) ?_)
 refine cwB ?_
 refine qr (V := (Int × (List (B8 × B8 × Bool)))) (O := (List (B8 × B8 × Bool))) (fun (z : (Int × (List (B8 × B8 × Bool)))) => St.of [(3,.arr 0 0),(16,.arr 4 0),(17,.d (eint ((qF x1).length : Int))),(18,.d (eint z.1))] [(0,.arr 0 49 (z.2.map eSp)),(4,.arr 0 49 ((qF x1).map eSp))]) hj0 (.w (wkF ⟨⟨_,rfl,.nila rfl rfl⟩,⟨_,rfl,.arr rfl rfl⟩,wD rfl,wD rfl,trivial⟩ ⟨.nil rfl,.arr0 rfl rfl rfl,trivial⟩ qd)) ?_
 intro v1 x3 hb0 hx3
 refine cwS (cwR (
  .c (uB rfl (q31 _ _) rfl)<|.nil rfl) ?_)
 refine cwS ?_
 rcases cdS hb0 with ⟨hc0,h4⟩ | ⟨hc0,h5⟩
 ·refine cwT rfl hc0 ?_
  refine cwK ?_
  have ⟨o1,hj1,h6⟩ := bdS h4
  refine cwJ (fun (z : (List (B8 × B8 × Bool))) => St.of [(3,.arr 0 0),(16,.arr 4 0),(17,.d (eint ((qF x1).length : Int))),(18,.d (eint v1.1))] [(0,.arr 0 49 (z.map eSp)),(4,.arr 0 49 ((qF x1).map eSp))]) (fun (z : (List (B8 × B8 × Bool))) => o1 = z) ?_ ?_
  ·intro v2 hv1; subst hv1
   refine cwR (
    .c (uB rfl (q61 _ _) rfl)<|
    .c (uM rfl)<|.nil rfl
   ) ?_
   exact ⟨((IntKind.wrap .i64 (v1.1 + 1)),o1),(sJ h6),.w (wkF ⟨⟨_,rfl,.arr rfl rfl⟩,⟨_,rfl,.arr rfl rfl⟩,wD rfl,wD rfl,trivial⟩ ⟨.arr rfl rfl,.arr rfl rfl,trivial⟩ qd)⟩
  refine cwB ?_
  have ⟨x4,hx4,h7⟩ := bdS hj1
  have hx4g := qn hx4
  refine cwS (cwR (
   .c (q55 (enc := eSp) (xs := (qF x1)) rfl rfl .no rfl rfl rfl sl59 sz41 hx4g.1 hx4g.2)<|
   .c (o_ldEM (enc := eSp) (xs := (qF x1)) (r := x4) [] rfl rfl .no rfl rfl hx4g.2 rfl ta41 rfl rfl)<|
   .c (qm 1 rfl rfl .no ze41 rfl)<|
   .c (uS [] rfl sz41 rfl)<|.nil rfl) ?_)
  have ⟨x5,hx5,h8⟩ := bdS (x := qC0 x4) h7
  refine cwS (cwR (
   .c (uL [] rfl ta41 rfl)<|
   .c (qj rfl rfl .no Tryz.func102 rfl rfl (qU2 hx5) (.cons rfl .d .nil) ⟨trivial,trivial⟩ (.inl rfl))<|
   .c (uM rfl)<|
   .c (uE rfl)<|
   .c (uE rfl)<|
   .c (qm 2 rfl rfl .no ze159 rfl)<|
   .c (qm 3 rfl rfl .no ze159 rfl)<|
   .c (uS [] rfl sz159 rfl)<|
   .c (uS [] rfl sz159 rfl)<|.nil rfl) ?_)
  have ⟨o2,hj2,h9⟩ := bdS h8
  refine cwJ (fun (z : Unit) => St.of [(3,.arr 0 0),(6,.ptr 2 0),(7,.ptr 3 0),(16,.arr 4 0),(17,.d (eint ((qF x1).length : Int))),(18,.d (eint v1.1))] [(0,.arr 0 49 (v1.2.map eSp)),(2,.box (.d (qB x5.1))),(3,.box (.d (qB x5.2))),(4,.arr 0 49 ((qF x1).map eSp))]) (fun (z : Unit) => o2 = (.inl z)) ?_ ?_
  ·intro v3 hv2; subst hv2
   simp only [Sum.elim_inl] at h9
   have ⟨x6,hx6,h10⟩ := bdS (x := qu2 x5.1 x5.2) h9
   have ⟨x7,hx7,h11⟩ := bdS h10
   have hx7g := qt hx7
   refine cwR (
    .c (uM rfl)<|
    .c (uL [] rfl qh5 rfl)<|
    .c (uL [] rfl qh5 rfl)<|
    .c (qj rfl rfl .no Tryz.func106 rfl rfl (span_made_ok hx6) (.cons rfl .d (.cons rfl .d .nil)) ⟨trivial,trivial,trivial⟩ (.inl rfl))<|
    .c (qc5 (rows := ([x6] : List (B8 × B8 × Bool)).map eSp) rfl rfl .no (.cons rfl .nil) rfl sl59 sz41 ze41 rfl (qC1 q00) (by decide))<|
    .c (qN1 (enc := eSp) (xs := v1.2) (ys := [x6]) rfl rfl .no rfl rfl rfl q00 sl59 sl59 sz41 by41 ze41 rfl (by decide) hx7g)<|
    .c (uA rfl)<|.nil rfl
   ) ?_
   exact ⟨(v1.2 ++ [x6]),(sJ h11),.w (wkF ⟨⟨_,rfl,.arr rfl rfl⟩,⟨_,rfl,.arr rfl rfl⟩,wD rfl,wD rfl,trivial⟩ ⟨.arr0 rfl rfl rfl,.arr rfl rfl,trivial⟩ qd)⟩
  refine cwS (cwR (
   .c (uM rfl)<|
   .c (q35 (enc := eSp) (xs := v1.2) rfl rfl .no rfl rfl sl59)<|
   .c (uA rfl)<|.nil rfl) ?_)
  refine cwS (cwR (
   .c (uM rfl)<|
   .c (uB rfl (b_gtr _ _) rfl)<|.nil rfl) ?_)
  rcases cdS hj2 with ⟨hc1,h12⟩ | ⟨hc1,h13⟩
  ·refine cwT rfl hc1 ?_
   have ⟨x8,hx8,h14⟩ := bdS h12
   have hx8g := qn hx8
   have ⟨x9,hx9,h15⟩ := bdS (x := qC0 x8) h14
   refine cwS (cwR (
    .c (uM rfl)<|
    .c (uM rfl)<|
    .c (uB rfl (qy4 _ _) rfl)<|
    .c (q55 (enc := eSp) (xs := v1.2) rfl rfl .no rfl rfl rfl sl59 sz41 hx8g.1 hx8g.2)<|
    .c (o_ldEM (enc := eSp) (xs := v1.2) (r := x8) [] rfl rfl .no rfl rfl hx8g.2 rfl ta41 rfl rfl)<|
    .c (qj rfl rfl .no Tryz.func102 rfl rfl (qU2 hx9) (.cons rfl .d .nil) ⟨trivial,trivial⟩ (.inl rfl))<|
    .c (uM rfl)<|
    .c (uE rfl)<|
    .c (uE rfl)<|
    .c (qm 5 rfl rfl .no ze159 rfl)<|
    .c (qm 6 rfl rfl .no ze159 rfl)<|
    .c (uS [] rfl sz159 rfl)<|
    .c (uS [] rfl sz159 rfl)<|.nil rfl) ?_)
   have ⟨x10,hx10,h16⟩ := bdS (x := qv x5.1 x9.2) h15
   refine cwS (cwR (
    .c (uL [] rfl qh5 rfl)<|
    .c (uL [] rfl qh5 rfl)<|
    .c (qj rfl rfl .no Tryz.func103 rfl rfl (q21 hx10) (.cons rfl .d (.cons rfl .d .nil)) ⟨trivial,trivial,trivial⟩ (.inl rfl))<|
    .c (uB rfl (b_leq _ _) rfl)<|.nil rfl) ?_)
   rcases cdS h16 with ⟨hc2,h17⟩ | ⟨hc2,h18⟩
   ·refine cwT rfl hc2 ?_
    have ⟨o3,hj3,h19⟩ := bdS h17
    refine cwJ (fun (z : (B8 × Bool)) => St.of [(3,.arr 0 0),(8,.d (eint (v1.2.length : Int))),(9,.ptr 5 0),(10,.ptr 6 0),(16,.arr 4 0),(17,.d (eint ((qF x1).length : Int))),(18,.d (eint v1.1))] [(0,.arr 0 49 (v1.2.map eSp)),(4,.arr 0 49 ((qF x1).map eSp)),(5,.box (.d (qB x9.1))),(6,.box (.d (qB z)))]) (fun (z : (B8 × Bool)) => o3 = z) ?_ ?_
    ·intro v4 hv3; subst hv3
     have ⟨x11,hx11,h20⟩ := bdS (x := qu2 x9.1 o3) h19
     refine cwS (cwR (
      .c (uM rfl)<|
      .c (uM rfl)<|
      .c (uB rfl (qy4 _ _) rfl)<|
      .c (uL [] rfl qh5 rfl)<|
      .c (uL [] rfl qh5 rfl)<|
      .c (qj rfl rfl .no Tryz.func106 rfl rfl (span_made_ok hx11) (.cons rfl .d (.cons rfl .d .nil)) ⟨trivial,trivial,trivial⟩ (.inl rfl))<|
      .c (q55 (enc := eSp) (xs := v1.2) rfl rfl .no rfl rfl rfl sl59 sz41 hx8g.1 hx8g.2)<|
      .c (o_stEM (enc := eSp) (xs := v1.2) (y := x11) (r := x8) rfl .no rfl rfl rfl hx8g.2 sz41 rfl (q00 _))<|.nil rfl) ?_)
     refine qG ?_
     have he0 := ((sJ h20)).symm
     subst he0
     exact ⟨(List.set v1.2 (IntKind.wrap .i64 ((v1.2.length : Int) - 1)).toNat x11),(sJ h9),.w (wkF ⟨⟨_,rfl,.arr rfl rfl⟩,⟨_,rfl,.arr rfl rfl⟩,wD rfl,wD rfl,trivial⟩ ⟨.arr rfl rfl,.arr rfl rfl,trivial⟩ qd)⟩
    have ⟨x12,hx12,h21⟩ := bdS (x := qv x5.2 x9.2) hj3
    refine cwS (cwR (
     .c (uL [] rfl qh5 rfl)<|
     .c (uL [] rfl qh5 rfl)<|
     .c (qj rfl rfl .no Tryz.func103 rfl rfl (q21 hx12) (.cons rfl .d (.cons rfl .d .nil)) ⟨trivial,trivial,trivial⟩ (.inl rfl))<|
     .c (uB rfl (b_gtr _ _) rfl)<|.nil rfl) ?_)
    rcases cdS h21 with ⟨hc3,h22⟩ | ⟨hc3,h23⟩
    ·refine cwT rfl hc3 ?_
     refine cwR (
      .c (uL [] rfl qh5 rfl)<|
      .c (uS [] rfl sz159 rfl)<|.nil rfl
     ) ?_
     exact ⟨x5.2,(sJ h22),.w (wkF ⟨⟨_,rfl,.arr rfl rfl⟩,wD rfl,⟨_,rfl,.ptr rfl rfl⟩,⟨_,rfl,.ptr rfl rfl⟩,⟨_,rfl,.arr rfl rfl⟩,wD rfl,wD rfl,trivial⟩ ⟨.arr rfl rfl,.arr rfl rfl,.box rfl (.d rfl),.box rfl (.d rfl),trivial⟩ qd)⟩
    refine cwF rfl hc3 ?_
    refine cwK ?_
    exact ⟨x9.2,(sJ h23),.w (wkF ⟨⟨_,rfl,.arr rfl rfl⟩,wD rfl,⟨_,rfl,.ptr rfl rfl⟩,⟨_,rfl,.ptr rfl rfl⟩,⟨_,rfl,.arr rfl rfl⟩,wD rfl,wD rfl,trivial⟩ ⟨.arr rfl rfl,.arr rfl rfl,.box rfl (.d rfl),.box rfl (.d rfl),trivial⟩ qd)⟩
   refine cwF rfl hc2 ?_
   refine cwK ?_
   exact ⟨(),(sJ h18),.w (wkF ⟨⟨_,rfl,.arr rfl rfl⟩,⟨_,rfl,.ptr rfl rfl⟩,⟨_,rfl,.ptr rfl rfl⟩,⟨_,rfl,.arr rfl rfl⟩,wD rfl,wD rfl,trivial⟩ ⟨.arr rfl rfl,.box rfl (.d rfl),.box rfl (.d rfl),.arr rfl rfl,trivial⟩ qd)⟩
  refine cwF rfl hc1 ?_
  refine cwK ?_
  exact ⟨(),(sJ h13),.w (wkF ⟨⟨_,rfl,.arr rfl rfl⟩,⟨_,rfl,.ptr rfl rfl⟩,⟨_,rfl,.ptr rfl rfl⟩,⟨_,rfl,.arr rfl rfl⟩,wD rfl,wD rfl,trivial⟩ ⟨.arr rfl rfl,.box rfl (.d rfl),.box rfl (.d rfl),.arr rfl rfl,trivial⟩ qd)⟩
 refine cwF rfl hc0 ?_
 refine qG ?_
 exact ⟨v1.2,(hx3 _ (sJ h5)).symm,.w (wkF ⟨⟨_,rfl,.arr rfl rfl⟩,trivial⟩ ⟨.arr rfl rfl,trivial⟩ qd)⟩
theorem q73 {a0 : VwT} {a1 : (B8 × B8 × Bool)} {r : VwT} (h : qc0 a0 a1 = some r) : FnOk Tryz.prog 35 [.ptr 0 0,.d (eSp a1)] 1 (lk [(0,.own (oVV a0))]) (fun rr oo => rr = .tup [] ∧ oo = lk [(0,.own (oVV r))]) := by
 refine fnO Tryz.func35 rfl rfl (cwP ?_)
 unfold qc0 at h
 have ⟨o0,hj0,h0⟩ := bdS h
 refine qV4 (fun (z : VwT) => St.of [] [(0,.own (oVV z))]) (fun (z : VwT) => o0 = z) ?_ ?_
 ·intro v0 hv0; subst hv0
  have heq := ((sJ h0)).symm
  subst heq
  exact ⟨_,(show Leads _ _ (St.of [] [(0,.own (oVV o0))]) from .w (wkF trivial ⟨.own rfl (.of_eq rfl (oVV_d _)),trivial⟩ (qq rfl))),.inl rfl,_,res0 rfl,rfl,rfl⟩
 refine cwS (cwR (
  .c (uX 1 rfl)<|.nil rfl) ?_)
 refine cwL (lOp (o := 0) (y := .st [.ifc 71 (.d (.at (ePl a0.1))),.map 2,.arr 3 0,.arr 4 0]) (news := [(2,.map 0 (mD eK eCg a0.2.1)),(3,.arr 0 49 (a0.2.2.1.map eSp)),(4,.arr 0 1 (a0.2.2.2.map eMKC))]) rfl (.st (.cons (.av rfl) (.cons (.map rfl) (.cons (.arr rfl) (.cons (.arr rfl) .nil))))) rfl rfl ⟨rfl,rfl,rfl,trivial⟩) ?_
 refine cwW (wkF (l := [(0,.ptr 0 0),(3,.ptr 1 0)]) (m := [(0,.box (.st [.ifc 71 (.d (.at (ePl a0.1))),.map 2,.arr 3 0,.arr 4 0])),(1,.box (.d (eSp a1))),(2,.map 0 (mD eK eCg a0.2.1)),(3,.arr 0 49 (a0.2.2.1.map eSp)),(4,.arr 0 1 (a0.2.2.2.map eMKC))]) ⟨⟨_,rfl,.ptr rfl rfl⟩,⟨_,rfl,.ptr rfl rfl⟩,trivial⟩ ⟨.box rfl (.st (.cons (.ifc (.d rfl)) (.cons (.map rfl rfl) (.cons (.arr rfl rfl) (.cons (.arr rfl rfl) .nil))))),.box rfl (.d rfl),.map rfl rfl,.arr rfl rfl,.arr rfl rfl,trivial⟩ (qq rfl)) ?_
 have ⟨x0,hx0,h1⟩ := bdS hj0
 have hx0g := qt hx0
 have ⟨x1,hx1,h2⟩ := bdS (x := qG2 (a0.2.2.1 ++ [a1])) h1
 refine cwRA mixed (by kernel_rfl) (
  .c (uM rfl)<|
  .c (uM rfl)<|
  .c (uP rfl)<|
  .c (uF rfl fld76_2 rfl)<|
  .c (uL [2] rfl ta59 rfl)<|
  .c (uL [] rfl ta41 rfl)<|
  .c (qc5 (rows := ([a1] : List (B8 × B8 × Bool)).map eSp) rfl rfl .no (.cons rfl .nil) rfl sl59 sz41 ze41 rfl (qC1 q00) (by decide))<|
  .c (qN1 (enc := eSp) (xs := a0.2.2.1) (ys := [a1]) rfl rfl .no rfl rfl rfl q00 sl59 sl59 sz41 by41 ze41 rfl (by decide) hx0g)<|
  .c (qd2 5 rfl rfl .no Tryz.func67 rfl rfl (span_Clean_ok hx1) (.cons rfl (.arrM rfl) .nil) ⟨trivial,trivial⟩ rfl (.inr ⟨trivial,(qr3 fun _ => (qs4 _))⟩))<|
  .c (uP rfl)<|
  .c (uF rfl fld76_2 rfl)<|
  .c (uS [2] rfl sz59 rfl)<|.nil rfl) (by kernel_rfl) ?_
 exact ⟨(a0.1,a0.2.1,x1,a0.2.2.2),(sJ h2),.trans (lPk (o := 0) (y := .st [.ifc 71 (.d (.at (ePl a0.1))),.map 2,.arr 5 0,.arr 4 0]) (x := oVV (a0.1,a0.2.1,x1,a0.2.2.2)) (l := []) (m := [(0,.own (oVV (a0.1,a0.2.1,x1,a0.2.2.2)))]) rfl (.st (.cons (.av rfl) (.cons (.map rfl) (.cons (.arr rfl) (.cons (.arr rfl) .nil))))) rfl rfl trivial ⟨.inl rfl,trivial⟩ rfl (OD.dat_live (oVV_d _)) ⟨rfl,rfl,rfl,trivial⟩ (qq rfl)) (.w (wkF trivial ⟨.own rfl (.of_eq rfl (oVV_d _)),trivial⟩ (qq rfl)))⟩
end
end Go.Val
