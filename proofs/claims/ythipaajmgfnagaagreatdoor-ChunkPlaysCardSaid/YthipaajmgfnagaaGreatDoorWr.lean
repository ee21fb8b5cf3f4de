/- Walks of the program's functions,printed. -/
import Derived.Test.YthipaajmgfnagaaGreatDoorWq
set_option linter.unusedSectionVars false
set_option linter.unusedVariables false
set_option linter.unusedSimpArgs false
set_option maxRecDepth 100000
namespace Go.Val
open Go.RowKit Go.Proofs
section
variable [NoDrw]
noncomputable def qx1 (a0 : List (Int × Int × Int × Int × ByteArray)) : Option Bool := (q72).bind fun x0 => (qK1).bind fun x1 => (qu3 ([])).bind fun x2 => (((cond (!x0) (some true) (some false)) : Option Bool)).bind fun o0 => cond o0 (some false) ((((qA (V := (Int × VwT × WwT)) (O := (Unit ⊕ Bool)) (fun v0 => (((cond (decide (v0.1 < (a0.length : Int))) (
      some (decide (v0.1 < 50))) (some false)) : Option Bool)).bind fun o1 => cond o1 ((gx a0 v0.1).bind fun x3 => (cutB 0 (min (x3.2.2.2.2.size : Int) 300) x3.2.2.2.2.size).bind fun _ => ((((((cond (decide (x3.2.2.2.1 > 3000)) (some (decide (x3.2.2.2.1 < 1073741824))) (some false)) : Option Bool)).bind fun o2 => cond o2 (some 3000) (some x3.2.2.2.1)) : Option Int)).bind fun o3 => (((
      cond (decide (x3.1 = 1)) ((qM v0.2.1 x3.2.1 x3.2.2.1 (x3.2.2.2.2.extract 0 (min (x3.2.2.2.2.size : Int) 300).toNat)).bind fun x4 => (qB0 v0.2.2 x3.2.1 x3.2.2.1 (x3.2.2.2.2.extract 0 (min (x3.2.2.2.2.size : Int) 300).toNat)).bind fun x5 => some ((decide (x4.1 = x5.1)),x4.2,x5.2)) (cond (decide (x3.1 = 2)) ((qp0 v0.2.1 x3.2.1 x3.2.2.1).bind fun x6 =>
        (qG1 v0.2.2 x3.2.1 x3.2.2.1).bind fun x7 => some ((decide (x6.1 = x7.1)),x6.2,x7.2)) ((qP v0.2.1 x3.2.1 x3.2.2.1 o3).bind fun x8 => (qb1 v0.2.2 x3.2.1 x3.2.2.1 o3).bind fun x9 => cond (decide (x8.1 = x9.1)) (some ((decide (x8.2.1 = x9.2.1)),x8.2.2,x9.2.2)) (some (false,x8.2.2,x9.2.2))))) : Option (Bool × VwT × WwT))).bind fun o4 => (((cond (!o4.1) (
       some (true,o4.2.1)) ((qJ o4.2.1).bind fun x10 => (qW x10.1 o4.2.2.2.1).bind fun x11 => cond (!x11) (some (true,x10.2)) ((qn0 x10.2).bind fun x12 => (ql2 x12.1 o4.2.2.2.2.1).bind fun x13 => some ((!x13),x12.2)))) : Option (Bool × VwT))).bind fun o5 => cond o5.1 (some (.inr (.inr false))) (
      some (.inl ((IntKind.wrap .i64 (v0.1 + 1)),o5.2,(o4.2.2.1,o4.2.2.2.1,o4.2.2.2.2.1,o4.2.2.2.2.2))))) (some (.inr (.inl ())))) (0,x1,x2)) : Option (Unit ⊕ Bool))).bind fun o6 => Sum.elim (fun (v1 : Unit) => some true) (fun w0 => some w0) o6)
theorem qn4 {a0 : List (Int × Int × Int × Int × ByteArray)} {r : Bool} (h : qx1 a0 = some r) : FnOk Tryz.prog 8 [.d (qk a0)] 0 (lk []) (fun rr oo => rr = .d (qz r) ∧ oo = lk []) := by
 refine fnO Tryz.func8 rfl rfl (cwP ?_)
 unfold qx1 at h
 refine cwS (cwR (
  .c (uA rfl)<|.nil rfl) ?_)
 have ⟨x0,hx0,h0⟩ := bdS (x := q72) h
 refine cwS (cwR (
  .c (qj rfl rfl .no Tryz.func10 rfl rfl (law13_shown_ok hx0) .nil trivial (.inl rfl))<|
  .c (uA rfl)<|.nil rfl) ?_)
 have ⟨x1,hx1,h1⟩ := bdS (x := qK1) h0
 refine cwS (cwR (
  .c (qd2 0 rfl rfl .no Tryz.func11 rfl rfl (view_New_n_ok hx1) (.cons rfl .d .nil) ⟨trivial,trivial⟩ rfl (.inl rfl))<|
  .c (uA rfl)<|.nil rfl) ?_)
 have ⟨x2,hx2,h2⟩ := bdS (x := qu3 ([])) h1
 refine cwS (cwR (
  .c (qd2 1 rfl rfl .no Tryz.func18 rfl rfl (ref12_New_ok hx2) (.cons rfl .nil .nil) ⟨trivial,trivial⟩ rfl (.inl rfl))<|
  .c (uA rfl)<|.nil rfl) ?_)
 refine cwS ?_
 have ⟨o0,hj0,h3⟩ := bdS h2
 refine cwJ (fun (z : Bool) => St.of [(0,.d (qk a0)),(4,.ptr 0 0),(5,.ptr 1 0),(23,.d (qz z))] [(0,.own (oVV x1)),(1,.own (oRV x2))]) (fun (z : Bool) => o0 = z) ?_ ?_
 ·intro v0 hv0; subst hv0
  rcases cdS h3 with ⟨hc0,h4⟩ | ⟨hc0,h5⟩
  ·refine cwT rfl hc0 ?_
   refine cwS (cwR (
    .c (uA rfl)<|.nil rfl) ?_)
   have heq := ((sJ h4)).symm
   subst heq
   exact qe ⟨_,(show Leads _ _ (St.of [(2,.d (qz false))] []) from .w (wkF ⟨wD rfl,trivial⟩ trivial qd)),.inr rfl,_,res1 rfl rfl,rfl,rfl⟩
  refine cwF rfl hc0 ?_
  refine cwK ?_
  have ⟨o1,hj1,h6⟩ := bdS h5
  refine cwJ (fun (z : Unit) => St.of [] []) (fun (z : Unit) => o1 = (.inl z)) ?_ ?_
  ·intro v1 hv1; subst hv1
   simp only [Sum.elim_inl] at h6
   refine cwS (cwR (
    .c (uA rfl)<|.nil rfl) ?_)
   have heq := ((sJ h6)).symm
   subst heq
   exact qe ⟨_,(show Leads _ _ (St.of [(2,.d (qz true))] []) from .w (wkF ⟨wD rfl,trivial⟩ trivial qd)),.inr rfl,_,res1 rfl rfl,rfl,rfl⟩
  refine cwS (cwR (
   .c (uA rfl)<|.nil rfl) ?_)
  refine cwB ?_
  refine qr (V := (Int × VwT × WwT)) (O := (Unit ⊕ Bool)) (fun (z : (Int × VwT × WwT)) => St.of [(0,.d (qk a0)),(4,.ptr 0 0),(5,.ptr 1 0),(6,.d (eint z.1))] [(0,.own (oVV z.2.1)),(1,.own (oRV z.2.2))]) hj1 (.w (wkF ⟨wD rfl,⟨_,rfl,.ptro rfl rfl⟩,⟨_,rfl,.ptro rfl rfl⟩,wD rfl,trivial⟩ ⟨.own rfl (.of_eq rfl (oVV_d _)),.own rfl (.of_eq rfl (oRV_d _)),trivial⟩ qd)) ?_
  intro v2 x3 hb0 hx3
  refine cwS ?_
  have ⟨o2,hj2,h7⟩ := bdS hb0
  refine cwJ (fun (z : Bool) => St.of [(0,.d (qk a0)),(4,.ptr 0 0),(5,.ptr 1 0),(6,.d (eint v2.1)),(31,.d (qz z))] [(0,.own (oVV v2.2.1)),(1,.own (oRV v2.2.2))]) (fun (z : Bool) => o2 = z) ?_ ?_
  ·intro v3 hv2; subst hv2
   rcases cdS h7 with ⟨hc1,h8⟩ | ⟨hc1,h9⟩
   ·refine cwT rfl hc1 ?_
    refine cwK ?_
    refine cwS ?_
    refine cwB ?_
    have ⟨x4,hx4,h10⟩ := bdS h8
    have hx4g := qn hx4
    refine cwS (cwR (
     .c (uM rfl)<|
     .c (uM rfl)<|
     .c (qZ1 (enc := qT) (xs := a0) rfl rfl .no rfl rfl sl22 sz28 hx4g.1 hx4g.2)<|
     .c (o_ld rfl rfl .no rfl ta28 rfl rfl)<|
     .c (qm 2 rfl rfl .no ze28 rfl)<|
     .c (uS [] rfl sz28 rfl)<|.nil rfl) ?_)
    have ⟨x5,hx5,h11⟩ := bdS h10
    have hx5g := qE hx5
    refine cwS (cwR (
     .c (uF rfl fld28_4 rfl)<|
     .c (uL [4] rfl ta9 rfl)<|
     .c (uF rfl fld28_4 rfl)<|
     .c (uL [4] rfl ta9 rfl)<|
     .c (qa3 rfl rfl .no rfl un9)<|
     .c (o_min rfl rfl .no rfl rfl)<|
     .c (qg5 rfl rfl .no rfl un9 .no (.val rfl hx5g.2.1) hx5g.2.2.1 hx5g.2.2.2)<|
     .c (uA rfl)<|.nil rfl) ?_)
    refine cwS (cwR (
     .c (uF rfl fld28_3 rfl)<|
     .c (uL [3] rfl ta3 rfl)<|
     .c (uA rfl)<|.nil rfl) ?_)
    have ⟨o3,hj3,h12⟩ := bdS h11
    refine cwJ (fun (z : Int) => St.of [(0,.d (qk a0)),(4,.ptr 0 0),(5,.ptr 1 0),(6,.d (eint v2.1)),(7,.ptr 2 0),(8,.d (eStr (x4.2.2.2.2.extract 0 (min (x4.2.2.2.2.size : Int) 300).toNat))),(9,.d (eint z))] [(0,.own (oVV v2.2.1)),(1,.own (oRV v2.2.2)),(2,.box (.d (qT x4)))]) (fun (z : Int) => o3 = z) ?_ ?_
    ·intro v4 hv3; subst hv3
     refine cwS (cwR (
      .c (uA rfl)<|.nil rfl) ?_)
     have ⟨o4,hj4,h13⟩ := bdS h12
     refine cwJ (fun (z : (Bool × VwT × WwT)) => St.of [(0,.d (qk a0)),(4,.ptr 0 0),(5,.ptr 1 0),(6,.d (eint v2.1)),(10,.d (qz z.1))] [(0,.own (oVV z.2.1)),(1,.own (oRV z.2.2))]) (fun (z : (Bool × VwT × WwT)) => o4 = z) ?_ ?_
     ·intro v5 hv4; subst hv4
      refine cwL (lOp (o := 1) (y := .st [.d (eSP_ o4.2.2.1),.d (eSC o4.2.2.2.1),.d (eSS o4.2.2.2.2.1),.d (eSSC o4.2.2.2.2.2)]) (news := []) rfl (.st (.cons (.av rfl) (.cons (.av rfl) (.cons (.av rfl) (.cons (.av rfl) .nil))))) rfl rfl trivial) ?_
      refine cwW (wkF (l := [(0,.d (qk a0)),(4,.ptr 0 0),(5,.ptr 1 0),(6,.d (eint v2.1)),(10,.d (qz o4.1))]) (m := [(0,.own (oVV o4.2.1)),(1,.box (.st [.d (eSP_ o4.2.2.1),.d (eSC o4.2.2.2.1),.d (eSS o4.2.2.2.2.1),.d (eSSC o4.2.2.2.2.2)]))]) ⟨wD rfl,⟨_,rfl,.ptro rfl rfl⟩,⟨_,rfl,.ptr rfl rfl⟩,wD rfl,wD rfl,trivial⟩ ⟨.own rfl (.of_eq rfl (oVV_d _)),.box rfl (.st (.cons (.d rfl) (.cons (.d rfl) (.cons (.d rfl) (.cons (.d rfl) .nil))))),trivial⟩ qd) ?_
      have ⟨o5,hj5,h14⟩ := bdS h13
      refine cwJ (fun (z : (Bool × VwT)) => St.of [(0,.d (qk a0)),(4,.ptr 0 0),(5,.ptr 1 0),(6,.d (eint v2.1)),(136,.d (qz z.1))] [(0,.own (oVV z.2)),(1,.own (oRV (o4.2.2.1,o4.2.2.2.1,o4.2.2.2.2.1,o4.2.2.2.2.2)))]) (fun (z : (Bool × VwT)) => o5 = z) ?_ ?_
      ·intro v6 hv5; subst hv5
       rcases cdS h14 with ⟨hc2,h15⟩ | ⟨hc2,h16⟩
       ·refine cwT rfl hc2 ?_
        refine cwS (cwR (
         .c (uA rfl)<|.nil rfl) ?_)
        have he0 := ((hx3 _ (sJ h15)).symm).symm
        subst he0
        have heq := ((sJ h6)).symm
        subst heq
        exact qe ⟨_,(show Leads _ _ (St.of [(2,.d (qz false))] []) from .w (wkF ⟨wD rfl,trivial⟩ trivial qd)),.inr rfl,_,res1 rfl rfl,rfl,rfl⟩
       refine cwF rfl hc2 ?_
       refine cwK ?_
       refine cwR (
        .c (uM rfl)<|
        .c (uB rfl (q61 _ _) rfl)<|
        .c (uA rfl)<|.nil rfl
       ) ?_
       exact ⟨((IntKind.wrap .i64 (v2.1 + 1)),o5.2,(o4.2.2.1,o4.2.2.2.1,o4.2.2.2.2.1,o4.2.2.2.2.2)),(sJ h16),.w (wkF ⟨wD rfl,⟨_,rfl,.ptro rfl rfl⟩,⟨_,rfl,.ptro rfl rfl⟩,wD rfl,trivial⟩ ⟨.own rfl (.of_eq rfl (oVV_d _)),.own rfl (.of_eq rfl (oRV_d _)),trivial⟩ qd)⟩
      rcases cdS hj5 with ⟨hc3,h17⟩ | ⟨hc3,h18⟩
      ·skip
       refine cwRA mixed (by kernel_rfl) (
        .c (uM rfl)<|
        .c (uT rfl)<|
        .c (uM rfl)<|
        .c (uN rfl rfl hc3)<|
        .c (uN rfl rfl hc3)<|
        .c (uN rfl rfl hc3)<|
        .c (uN rfl rfl hc3)<|
        .c (uN rfl rfl hc3)<|
        .c (uN rfl rfl hc3)<|
        .c (uN rfl rfl hc3)<|
        .c (uN rfl rfl hc3)<|
        .c (uPT rfl hc3)<|
        .c (uM rfl)<|
        .c (uN rfl rfl rfl)<|
        .c (uN rfl rfl rfl)<|
        .c (uN rfl rfl rfl)<|
        .c (uN rfl rfl rfl)<|
        .c (uN rfl rfl rfl)<|
        .c (uN rfl rfl rfl)<|
        .c (uN rfl rfl rfl)<|
        .c (uN rfl rfl rfl)<|
        .c (uPT rfl rfl)<|.nil rfl) (by kernel_rfl) ?_
       exact ⟨(true,o4.2.1),(sJ h17),.trans (lPk (o := 1) (y := .st [.d (eSP_ o4.2.2.1),.d (eSC o4.2.2.2.1),.d (eSS o4.2.2.2.2.1),.d (eSSC o4.2.2.2.2.2)]) (x := oRV (o4.2.2.1,o4.2.2.2.1,o4.2.2.2.2.1,o4.2.2.2.2.2)) (l := [(0,.d (qk a0)),(4,.ptr 0 0),(5,.ptr 1 0),(6,.d (eint v2.1)),(136,.d (qz true))]) (m := [(0,.own (oVV o4.2.1)),(1,.own (oRV (o4.2.2.1,o4.2.2.2.1,o4.2.2.2.2.1,o4.2.2.2.2.2)))]) rfl (.st (.cons (.av rfl) (.cons (.av rfl) (.cons (.av rfl) (.cons (.av rfl) .nil))))) rfl rfl ⟨⟨rfl,trivial⟩,⟨rfl,(by simp [AV.live,AV.lives,lk,Nat.beq])⟩,⟨rfl,(by simp [AV.live,AV.lives,lk,Nat.beq])⟩,⟨rfl,trivial⟩,⟨rfl,trivial⟩,trivial⟩ ⟨(.inr ⟨rfl,(OD.dat_live (oVV_d _))⟩),.inl rfl,trivial⟩ rfl (OD.dat_live (oRV_d _)) trivial qd) (.w (wkF ⟨wD rfl,⟨_,rfl,.ptro rfl rfl⟩,⟨_,rfl,.ptro rfl rfl⟩,wD rfl,wD rfl,trivial⟩ ⟨.own rfl (.of_eq rfl (oVV_d _)),.own rfl (.of_eq rfl (oRV_d _)),trivial⟩ qd))⟩
      have ⟨x6,hx6,h19⟩ := bdS (x := qJ o4.2.1) h18
      have ⟨x7,hx7,h20⟩ := bdS (x := qW x6.1 o4.2.2.2.1) h19
      rcases cdS h20 with ⟨hc4,h21⟩ | ⟨hc4,h22⟩
      ·skip
       refine cwRA mixed (by kernel_rfl) (
        .c (uM rfl)<|
        .c (uT rfl)<|
        .c (uM rfl)<|
        .c (o_mv rfl rfl (.yes rfl rfl hc3) rfl)<|
        .c (qC (fun n => bif Nat.beq n 0 then 0 else 4) rfl rfl (.yes rfl rfl hc3) Tryz.func17 rfl rfl (qj1 hx6) (.cons rfl (.p rfl) .nil) (qX1 rfl ⟨(by simp [AV.live,lk,Nat.beq]),trivial⟩ (by decide) rfl (OD.dat_live (oVV_d _)) rfl (by simp)) (.inl rfl))<|
        .c (o_mv rfl rfl (.yes rfl rfl hc3) rfl)<|
        .c (qP1 rfl rfl (.yes rfl rfl hc3) rfl)<|
        .c (qf rfl rfl (.yes rfl rfl hc3) rfl qu4 (by decide))<|
        .c (ql [1] rfl rfl (.yes rfl rfl hc3) rfl rfl rfl ta49 rfl rfl)<|
        .c (qj rfl rfl (.yes rfl rfl hc3) Tryz.func22 rfl rfl (qg2 hx7) (.cons rfl (.arrM rfl) (.cons rfl .d .nil)) ⟨trivial,trivial,trivial⟩ (.inr (DFlat.v _)))<|
        .c (qn2 rfl rfl (.yes rfl rfl hc3) rfl)<|
        .c (uPF rfl hc3)<|
        .c (uM rfl)<|
        .c (uN rfl rfl hc4)<|
        .c (uN rfl rfl hc4)<|
        .c (uN rfl rfl hc4)<|
        .c (uN rfl rfl hc4)<|
        .c (uN rfl rfl hc4)<|
        .c (uN rfl rfl hc4)<|
        .c (uN rfl rfl hc4)<|
        .c (uN rfl rfl hc4)<|
        .c (uPT rfl hc4)<|.nil rfl) (by kernel_rfl) ?_
       exact ⟨(true,x6.2),(sJ h21),.trans (lPk (o := 1) (y := .st [.d (eSP_ o4.2.2.1),.d (eSC o4.2.2.2.1),.d (eSS o4.2.2.2.2.1),.d (eSSC o4.2.2.2.2.2)]) (x := oRV (o4.2.2.1,o4.2.2.2.1,o4.2.2.2.2.1,o4.2.2.2.2.2)) (l := [(0,.d (qk a0)),(4,.ptr 0 0),(5,.ptr 1 0),(6,.d (eint v2.1)),(136,.d (qz true))]) (m := [(0,.own (oVV x6.2)),(1,.own (oRV (o4.2.2.1,o4.2.2.2.1,o4.2.2.2.2.1,o4.2.2.2.2.2)))]) rfl (.st (.cons (.av rfl) (.cons (.av rfl) (.cons (.av rfl) (.cons (.av rfl) .nil))))) rfl rfl ⟨⟨rfl,trivial⟩,⟨rfl,(by simp [AV.live,AV.lives,lk,Nat.beq])⟩,⟨rfl,(by simp [AV.live,AV.lives,lk,Nat.beq])⟩,⟨rfl,trivial⟩,⟨rfl,trivial⟩,trivial⟩ ⟨(.inr ⟨rfl,(OD.dat_live (oVV_d _))⟩),.inl rfl,trivial⟩ rfl (OD.dat_live (oRV_d _)) trivial qd) (.w (wkF ⟨wD rfl,⟨_,rfl,.ptro rfl rfl⟩,⟨_,rfl,.ptro rfl rfl⟩,wD rfl,wD rfl,trivial⟩ ⟨.own rfl (.of_eq rfl (oVV_d _)),.own rfl (.of_eq rfl (oRV_d _)),trivial⟩ qd))⟩
      have ⟨x8,hx8,h23⟩ := bdS (x := qn0 x6.2) h22
      have ⟨x9,hx9,h24⟩ := bdS (x := ql2 x8.1 o4.2.2.2.2.1) h23
      refine cwRA mixed (by kernel_rfl) (
       .c (uM rfl)<|
       .c (uT rfl)<|
       .c (uM rfl)<|
       .c (o_mv rfl rfl (.yes rfl rfl hc3) rfl)<|
       .c (qC (fun n => bif Nat.beq n 0 then 0 else 4) rfl rfl (.yes rfl rfl hc3) Tryz.func17 rfl rfl (qj1 hx6) (.cons rfl (.p rfl) .nil) (qX1 rfl ⟨(by simp [AV.live,lk,Nat.beq]),trivial⟩ (by decide) rfl (OD.dat_live (oVV_d _)) rfl (by simp)) (.inl rfl))<|
       .c (o_mv rfl rfl (.yes rfl rfl hc3) rfl)<|
       .c (qP1 rfl rfl (.yes rfl rfl hc3) rfl)<|
       .c (qf rfl rfl (.yes rfl rfl hc3) rfl qu4 (by decide))<|
       .c (ql [1] rfl rfl (.yes rfl rfl hc3) rfl rfl rfl ta49 rfl rfl)<|
       .c (qj rfl rfl (.yes rfl rfl hc3) Tryz.func22 rfl rfl (qg2 hx7) (.cons rfl (.arrM rfl) (.cons rfl .d .nil)) ⟨trivial,trivial,trivial⟩ (.inr (DFlat.v _)))<|
       .c (qn2 rfl rfl (.yes rfl rfl hc3) rfl)<|
       .c (uPF rfl hc3)<|
       .c (uM rfl)<|
       .c (o_mv rfl rfl (.yes rfl rfl hc4) rfl)<|
       .c (qC (fun n => bif Nat.beq n 0 then 0 else 5) rfl rfl (.yes rfl rfl hc4) Tryz.func24 rfl rfl (view_View_Reads_ok hx8) (.cons rfl (.p rfl) .nil) (qX1 rfl ⟨(by simp [AV.live,lk,Nat.beq]),trivial⟩ (by decide) rfl (OD.dat_live (oVV_d _)) rfl (by simp)) (.inl rfl))<|
       .c (o_mv rfl rfl (.yes rfl rfl hc4) rfl)<|
       .c (qP1 rfl rfl (.yes rfl rfl hc4) rfl)<|
       .c (qf rfl rfl (.yes rfl rfl hc4) rfl fld62_2 (by decide))<|
       .c (ql [2] rfl rfl (.yes rfl rfl hc4) rfl rfl rfl ta59 rfl rfl)<|
       .c (qj rfl rfl (.yes rfl rfl hc4) Tryz.func23 rfl rfl (ref08_Same_ok hx9) (.cons rfl (.arrM rfl) (.cons rfl .d .nil)) ⟨trivial,trivial,trivial⟩ (.inr (DFlat.v _)))<|
       .c (qn2 rfl rfl (.yes rfl rfl hc4) rfl)<|
       .c (uPF rfl hc4)<|.nil rfl) (by kernel_rfl) ?_
      exact ⟨((!x9),x8.2),(sJ h24),.trans (lPk (o := 1) (y := .st [.d (eSP_ o4.2.2.1),.d (eSC o4.2.2.2.1),.d (eSS o4.2.2.2.2.1),.d (eSSC o4.2.2.2.2.2)]) (x := oRV (o4.2.2.1,o4.2.2.2.1,o4.2.2.2.2.1,o4.2.2.2.2.2)) (l := [(0,.d (qk a0)),(4,.ptr 0 0),(5,.ptr 1 0),(6,.d (eint v2.1)),(136,.d (qz (!x9)))]) (m := [(0,.own (oVV x8.2)),(1,.own (oRV (o4.2.2.1,o4.2.2.2.1,o4.2.2.2.2.1,o4.2.2.2.2.2)))]) rfl (.st (.cons (.av rfl) (.cons (.av rfl) (.cons (.av rfl) (.cons (.av rfl) .nil))))) rfl rfl ⟨⟨rfl,trivial⟩,⟨rfl,(by simp [AV.live,AV.lives,lk,Nat.beq])⟩,⟨rfl,(by simp [AV.live,AV.lives,lk,Nat.beq])⟩,⟨rfl,trivial⟩,⟨rfl,trivial⟩,trivial⟩ ⟨(.inr ⟨rfl,(OD.dat_live (oVV_d _))⟩),.inl rfl,trivial⟩ rfl (OD.dat_live (oRV_d _)) trivial qd) (.w (wkF ⟨wD rfl,⟨_,rfl,.ptro rfl rfl⟩,⟨_,rfl,.ptro rfl rfl⟩,wD rfl,wD rfl,trivial⟩ ⟨.own rfl (.of_eq rfl (oVV_d _)),.own rfl (.of_eq rfl (oRV_d _)),trivial⟩ qd))⟩
     refine cwS (cwR (
      .c (uF rfl fld28_0 rfl)<|
      .c (uL [0] rfl ta3 rfl)<|.nil rfl) ?_)
     refine cwB ?_
     refine cwS (cwR (
      .c (uB rfl (q43 _ _) rfl)<|
      .c (uA rfl)<|.nil rfl) ?_)
     rcases cdS hj4 with ⟨hc5,h25⟩ | ⟨hc5,h26⟩
     ·refine cwT rfl hc5 ?_
      have ⟨x10,hx10,h27⟩ := bdS (x := qM v2.2.1 x4.2.1 x4.2.2.1 (x4.2.2.2.2.extract 0 (min (x4.2.2.2.2.size : Int) 300).toNat)) h25
      have ⟨x11,hx11,h28⟩ := bdS (x := qB0 v2.2.2 x4.2.1 x4.2.2.1 (x4.2.2.2.2.extract 0 (min (x4.2.2.2.2.size : Int) 300).toNat)) h27
      refine cwRA mixed (by kernel_rfl) (
       .c (uM rfl)<|
       .c (uF rfl fld28_1 rfl)<|
       .c (uL [1] rfl ta3 rfl)<|
       .c (uF rfl fld28_2 rfl)<|
       .c (uL [2] rfl ta3 rfl)<|
       .c (uM rfl)<|
       .c (qC (fun n => bif Nat.beq n 0 then 0 else 3) rfl rfl .no Tryz.func13 rfl rfl (qp4 hx10) (.cons rfl (.p rfl) (.cons rfl .d (.cons rfl .d (.cons rfl .d .nil)))) (callInG [4] rfl ⟨(by simp [AV.live,lk,Nat.beq]),trivial,trivial,trivial,trivial⟩ ⟨⟨rfl,(OD.dat_live (oVV_d _))⟩,trivial⟩ rfl rfl rfl ⟨rfl,trivial⟩ rfl) (.inl rfl))<|
       .c (uM rfl)<|
       .c (uF rfl fld28_1 rfl)<|
       .c (uL [1] rfl ta3 rfl)<|
       .c (uF rfl fld28_2 rfl)<|
       .c (uL [2] rfl ta3 rfl)<|
       .c (uM rfl)<|
       .c (qC (fun _ => 1) rfl rfl .no Tryz.func19 rfl rfl (ref13_Write_ok hx11) (.cons rfl (.p rfl) (.cons rfl .d (.cons rfl .d (.cons rfl .d .nil)))) (q60 rfl ⟨(by simp [AV.live,lk,Nat.beq]),trivial,trivial,trivial,trivial⟩ rfl (OD.dat_live (oRV_d _)) (by simp)) (.inl rfl))<|
       .c (uB rfl (q43 _ _) rfl)<|
       .c (uA rfl)<|.nil rfl) (by kernel_rfl) ?_
      exact ⟨((decide (x10.1 = x11.1)),x10.2,x11.2),(sJ h28),.w (wkF ⟨wD rfl,⟨_,rfl,.ptro rfl rfl⟩,⟨_,rfl,.ptro rfl rfl⟩,wD rfl,wD rfl,trivial⟩ ⟨.own rfl (.of_eq rfl (oVV_d _)),.own rfl (.of_eq rfl (oRV_d _)),trivial⟩ qd)⟩
     refine cwF rfl hc5 ?_
     refine cwS (cwR (
      .c (uB rfl (q43 _ _) rfl)<|
      .c (uA rfl)<|.nil rfl) ?_)
     rcases cdS h26 with ⟨hc6,h29⟩ | ⟨hc6,h30⟩
     ·refine cwT rfl hc6 ?_
      have ⟨x12,hx12,h31⟩ := bdS (x := qp0 v2.2.1 x4.2.1 x4.2.2.1) h29
      have ⟨x13,hx13,h32⟩ := bdS (x := qG1 v2.2.2 x4.2.1 x4.2.2.1) h31
      refine cwRA mixed (by kernel_rfl) (
       .c (uM rfl)<|
       .c (uF rfl fld28_1 rfl)<|
       .c (uL [1] rfl ta3 rfl)<|
       .c (uF rfl fld28_2 rfl)<|
       .c (uL [2] rfl ta3 rfl)<|
       .c (qC (fun _ => 0) rfl rfl .no Tryz.func12 rfl rfl (chunk_Cut_ok hx12) (.cons rfl (.p rfl) (.cons rfl .d (.cons rfl .d .nil))) (q60 rfl ⟨(by simp [AV.live,lk,Nat.beq]),trivial,trivial,trivial⟩ rfl (OD.dat_live (oVV_d _)) (by simp)) (.inl rfl))<|
       .c (uM rfl)<|
       .c (uF rfl fld28_1 rfl)<|
       .c (uL [1] rfl ta3 rfl)<|
       .c (uF rfl fld28_2 rfl)<|
       .c (uL [2] rfl ta3 rfl)<|
       .c (qC (fun _ => 1) rfl rfl .no Tryz.func20 rfl rfl (ref13_Cut_ok hx13) (.cons rfl (.p rfl) (.cons rfl .d (.cons rfl .d .nil))) (q60 rfl ⟨(by simp [AV.live,lk,Nat.beq]),trivial,trivial,trivial⟩ rfl (OD.dat_live (oRV_d _)) (by simp)) (.inl rfl))<|
       .c (uB rfl (q43 _ _) rfl)<|
       .c (uA rfl)<|.nil rfl) (by kernel_rfl) ?_
      exact ⟨((decide (x12.1 = x13.1)),x12.2,x13.2),(sJ h32),.w (wkF ⟨wD rfl,⟨_,rfl,.ptro rfl rfl⟩,⟨_,rfl,.ptro rfl rfl⟩,wD rfl,wD rfl,trivial⟩ ⟨.own rfl (.of_eq rfl (oVV_d _)),.own rfl (.of_eq rfl (oRV_d _)),trivial⟩ qd)⟩
     refine cwF rfl hc6 ?_
     have ⟨x14,hx14,h33⟩ := bdS (x := qP v2.2.1 x4.2.1 x4.2.2.1 o3) h30
     refine cwS (cwR (
      .c (uM rfl)<|
      .c (uF rfl fld28_1 rfl)<|
      .c (uL [1] rfl ta3 rfl)<|
      .c (uF rfl fld28_2 rfl)<|
      .c (uL [2] rfl ta3 rfl)<|
      .c (uM rfl)<|
      .c (qC (fun _ => 0) rfl rfl .no Tryz.func14 rfl rfl (qj3 hx14) (.cons rfl (.p rfl) (.cons rfl .d (.cons rfl .d (.cons rfl .d .nil)))) (q60 rfl ⟨(by simp [AV.live,lk,Nat.beq]),trivial,trivial,trivial,trivial⟩ rfl (OD.dat_live (oVV_d _)) (by simp)) (.inl rfl))<|
      .c (uM rfl)<|
      .c (uE rfl)<|
      .c (uE rfl)<|
      .c (uA rfl)<|
      .c (uA rfl)<|.nil rfl) ?_)
     have ⟨x15,hx15,h34⟩ := bdS (x := qb1 v2.2.2 x4.2.1 x4.2.2.1 o3) h33
     refine cwS (cwR (
      .c (uM rfl)<|
      .c (uF rfl fld28_1 rfl)<|
      .c (uL [1] rfl ta3 rfl)<|
      .c (uF rfl fld28_2 rfl)<|
      .c (uL [2] rfl ta3 rfl)<|
      .c (uM rfl)<|
      .c (qC (fun _ => 1) rfl rfl .no Tryz.func21 rfl rfl (ref13_Read_ok hx15) (.cons rfl (.p rfl) (.cons rfl .d (.cons rfl .d (.cons rfl .d .nil)))) (q60 rfl ⟨(by simp [AV.live,lk,Nat.beq]),trivial,trivial,trivial,trivial⟩ rfl (OD.dat_live (oRV_d _)) (by simp)) (.inl rfl))<|
      .c (uM rfl)<|
      .c (uE rfl)<|
      .c (uE rfl)<|
      .c (uA rfl)<|
      .c (uA rfl)<|.nil rfl) ?_)
     rcases cdS h34 with ⟨hc7,h35⟩ | ⟨hc7,h36⟩
     ·skip
      refine cwR (
       .c (uM rfl)<|
       .c (uM rfl)<|
       .c (qc rfl rfl .no rfl rfl (qd5 _ _) rfl)<|
       .c (uM rfl)<|
       .c (o_mv rfl rfl (.yes rfl rfl hc7) rfl)<|
       .c (o_mv rfl rfl (.yes rfl rfl hc7) rfl)<|
       .c (qc rfl rfl (.yes rfl rfl hc7) rfl rfl (q43 _ _) rfl)<|
       .c (uPT rfl hc7)<|
       .c (uA rfl)<|.nil rfl
      ) ?_
      exact ⟨((decide (x14.2.1 = x15.2.1)),x14.2.2,x15.2.2),(sJ h35),.w (wkF ⟨wD rfl,⟨_,rfl,.ptro rfl rfl⟩,⟨_,rfl,.ptro rfl rfl⟩,wD rfl,wD rfl,trivial⟩ ⟨.own rfl (.of_eq rfl (oVV_d _)),.own rfl (.of_eq rfl (oRV_d _)),trivial⟩ qd)⟩
     refine cwR (
      .c (uM rfl)<|
      .c (uM rfl)<|
      .c (qc rfl rfl .no rfl rfl (qd5 _ _) rfl)<|
      .c (uM rfl)<|
      .c (uN rfl rfl hc7)<|
      .c (uN rfl rfl hc7)<|
      .c (uN rfl rfl hc7)<|
      .c (uPF rfl hc7)<|
      .c (uA rfl)<|.nil rfl
     ) ?_
     exact ⟨(false,x14.2.2,x15.2.2),(sJ h36),.w (wkF ⟨wD rfl,⟨_,rfl,.ptro rfl rfl⟩,⟨_,rfl,.ptro rfl rfl⟩,wD rfl,wD rfl,trivial⟩ ⟨.own rfl (.of_eq rfl (oVV_d _)),.own rfl (.of_eq rfl (oRV_d _)),trivial⟩ qd)⟩
    have ⟨o6,hj6,h37⟩ := bdS hj3
    refine cwJ (fun (z : Bool) => St.of [(0,.d (qk a0)),(4,.ptr 0 0),(5,.ptr 1 0),(6,.d (eint v2.1)),(7,.ptr 2 0),(8,.d (eStr (x4.2.2.2.2.extract 0 (min (x4.2.2.2.2.size : Int) 300).toNat))),(9,.d (eint x4.2.2.2.1)),(52,.d (qz z))] [(0,.own (oVV v2.2.1)),(1,.own (oRV v2.2.2)),(2,.box (.d (qT x4)))]) (fun (z : Bool) => o6 = z) ?_ ?_
    ·intro v7 hv6; subst hv6
     rcases cdS h37 with ⟨hc8,h38⟩ | ⟨hc8,h39⟩
     ·refine cwT rfl hc8 ?_
      refine cwR (
       .c (uA rfl)<|.nil rfl
      ) ?_
      exact ⟨3000,(sJ h38),.w (wkF ⟨wD rfl,⟨_,rfl,.ptro rfl rfl⟩,⟨_,rfl,.ptro rfl rfl⟩,wD rfl,⟨_,rfl,.ptr rfl rfl⟩,wD rfl,wD rfl,trivial⟩ ⟨.own rfl (.of_eq rfl (oVV_d _)),.own rfl (.of_eq rfl (oRV_d _)),.box rfl (.d rfl),trivial⟩ qd)⟩
     refine cwF rfl hc8 ?_
     refine cwK ?_
     exact ⟨x4.2.2.2.1,(sJ h39),.w (wkF ⟨wD rfl,⟨_,rfl,.ptro rfl rfl⟩,⟨_,rfl,.ptro rfl rfl⟩,wD rfl,⟨_,rfl,.ptr rfl rfl⟩,wD rfl,wD rfl,trivial⟩ ⟨.own rfl (.of_eq rfl (oVV_d _)),.own rfl (.of_eq rfl (oRV_d _)),.box rfl (.d rfl),trivial⟩ qd)⟩
    rcases cdS hj6 with ⟨hc9,h40⟩ | ⟨hc9,h41⟩
    ·skip
     refine cwR (
      .c (uM rfl)<|
      .c (uB rfl (b_gtr _ _) rfl)<|
      .c (uM rfl)<|
      .c (o_mv rfl rfl (.yes rfl rfl hc9) rfl)<|
      .c (qc rfl rfl (.yes rfl rfl hc9) rfl rfl (q31 _ _) rfl)<|
      .c (uPT rfl hc9)<|.nil rfl
     ) ?_
     exact ⟨(decide (x4.2.2.2.1 < 1073741824)),(sJ h40),.w (wkF ⟨wD rfl,⟨_,rfl,.ptro rfl rfl⟩,⟨_,rfl,.ptro rfl rfl⟩,wD rfl,⟨_,rfl,.ptr rfl rfl⟩,wD rfl,wD rfl,wD rfl,trivial⟩ ⟨.own rfl (.of_eq rfl (oVV_d _)),.own rfl (.of_eq rfl (oRV_d _)),.box rfl (.d rfl),trivial⟩ qd)⟩
    refine cwR (
     .c (uM rfl)<|
     .c (uB rfl (b_gtr _ _) rfl)<|
     .c (uM rfl)<|
     .c (uN rfl rfl hc9)<|
     .c (uN rfl rfl hc9)<|
     .c (uPF rfl hc9)<|.nil rfl
    ) ?_
    exact ⟨false,(sJ h41),.w (wkF ⟨wD rfl,⟨_,rfl,.ptro rfl rfl⟩,⟨_,rfl,.ptro rfl rfl⟩,wD rfl,⟨_,rfl,.ptr rfl rfl⟩,wD rfl,wD rfl,wD rfl,trivial⟩ ⟨.own rfl (.of_eq rfl (oVV_d _)),.own rfl (.of_eq rfl (oRV_d _)),.box rfl (.d rfl),trivial⟩ qd)⟩
   refine cwF rfl hc1 ?_
   refine qG ?_
   exact ⟨(),(hx3 _ (sJ h9)).symm,.w (wkF trivial trivial qd)⟩
  rcases cdS hj2 with ⟨hc10,h42⟩ | ⟨hc10,h43⟩
  ·skip
   refine cwR (
    .c (uM rfl)<|
    .c (uM rfl)<|
    .c (qo0 (enc := qT) (xs := a0) rfl rfl .no rfl sl22)<|
    .c (uB rfl (q31 _ _) rfl)<|
    .c (uM rfl)<|
    .c (o_mv rfl rfl (.yes rfl rfl hc10) rfl)<|
    .c (qc rfl rfl (.yes rfl rfl hc10) rfl rfl (q31 _ _) rfl)<|
    .c (uPT rfl hc10)<|.nil rfl
   ) ?_
   exact ⟨(decide (v2.1 < 50)),(sJ h42),.w (wkF ⟨wD rfl,⟨_,rfl,.ptro rfl rfl⟩,⟨_,rfl,.ptro rfl rfl⟩,wD rfl,wD rfl,trivial⟩ ⟨.own rfl (.of_eq rfl (oVV_d _)),.own rfl (.of_eq rfl (oRV_d _)),trivial⟩ qd)⟩
  refine cwR (
   .c (uM rfl)<|
   .c (uM rfl)<|
   .c (qo0 (enc := qT) (xs := a0) rfl rfl .no rfl sl22)<|
   .c (uB rfl (q31 _ _) rfl)<|
   .c (uM rfl)<|
   .c (uN rfl rfl hc10)<|
   .c (uN rfl rfl hc10)<|
   .c (uPF rfl hc10)<|.nil rfl
  ) ?_
  exact ⟨false,(sJ h43),.w (wkF ⟨wD rfl,⟨_,rfl,.ptro rfl rfl⟩,⟨_,rfl,.ptro rfl rfl⟩,wD rfl,wD rfl,trivial⟩ ⟨.own rfl (.of_eq rfl (oVV_d _)),.own rfl (.of_eq rfl (oRV_d _)),trivial⟩ qd)⟩
 rcases cdS hj0 with ⟨hc11,h44⟩ | ⟨hc11,h45⟩
 ·skip
  refine cwR (
   .c (uM rfl)<|
   .c (uT rfl)<|
   .c (uM rfl)<|
   .c (uN rfl rfl hc11)<|
   .c (uN rfl rfl hc11)<|
   .c (uPT rfl hc11)<|.nil rfl
  ) ?_
  exact ⟨true,(sJ h44),.w (wkF ⟨wD rfl,⟨_,rfl,.ptro rfl rfl⟩,⟨_,rfl,.ptro rfl rfl⟩,wD rfl,trivial⟩ ⟨.own rfl (.of_eq rfl (oVV_d _)),.own rfl (.of_eq rfl (oRV_d _)),trivial⟩ qd)⟩
 refine cwR (
  .c (uM rfl)<|
  .c (uT rfl)<|
  .c (uM rfl)<|
  .c (o_mv rfl rfl (.yes rfl rfl hc11) rfl)<|
  .c (o_pnilP rfl rfl (.yes rfl rfl hc11) rfl up24)<|
  .c (uPF rfl hc11)<|.nil rfl
 ) ?_
 exact ⟨false,(sJ h45),.w (wkF ⟨wD rfl,⟨_,rfl,.ptro rfl rfl⟩,⟨_,rfl,.ptro rfl rfl⟩,wD rfl,trivial⟩ ⟨.own rfl (.of_eq rfl (oVV_d _)),.own rfl (.of_eq rfl (oRV_d _)),trivial⟩ qd)⟩
end
end Go.Val
