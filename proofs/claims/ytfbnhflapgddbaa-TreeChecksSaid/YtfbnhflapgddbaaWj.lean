/- Walks of the program's functions,printed. -/
import Derived.Test.YtfbnhflapgddbaaWi
set_option linter.unusedSectionVars false
set_option linter.unusedVariables false
set_option linter.unusedSimpArgs false
set_option maxRecDepth 100000
namespace Go.Val
open Go.RowKit Go.Proofs
section
variable [NoDrw]
noncomputable def qU1 (a0 : List (Int × ttN)) (a1 : Int) : Option Bool := (qx2).bind fun x0 => (((qQ (V := (Int × (List (Int × ttN)))) (O := (List (Int × ttN))) (fun v0 => (((cond (decide (v0.1 < (a0.length : Int))) (some (decide (v0.1 < 60))) (some false)) : Option Bool)).bind fun o0 => cond o0 ((gx a0 v0.1).bind fun x1 =>
    (cutB 0 (min (x1.2.2.1.length : Int) 20) x1.2.2.1.length).bind fun _ => (cutB 0 (min (x1.2.2.2.length : Int) 20) x1.2.2.2.length).bind fun _ => (fits (v0.2.length + ([(x1.1,(x1.2.1,(qY0 x1.2.2.1 0 (min (x1.2.2.1.length : Int) 20)),(qY0 x1.2.2.2 0 (min (x1.2.2.2.length : Int) 20))))]).length) 64).bind fun _ =>
    some (.inl ((IntKind.wrap .i64 (v0.1 + 1)),(v0.2 ++ [(x1.1,(x1.2.1,(qY0 x1.2.2.1 0 (min (x1.2.2.1.length : Int) 20)),(qY0 x1.2.2.2 0 (min (x1.2.2.2.length : Int) 20))))])))) (some (.inr v0.2))) (0,[])) : Option (List (Int × ttN)))).bind fun o1 => (q92 o1 a1).bind fun x2 => (qA2 o1 a1).bind fun x3 => (((cond x0 (cond x3 (cond (decide (x2 = 0)) (some true) (
     cond (!x3) (some (decide (x2 = 12))) (some false))) (cond (!x3) (some (decide (x2 = 12))) (some false))) (some false)) : Option Bool)).bind fun o2 => some o2
theorem qu4 {a0 : List (Int × ttN)} {a1 : Int} {r : Bool} (h : qU1 a0 a1 = some r) : FnOk Try.prog 6 [.d (qo a0),.d (eint a1)] 0 (lk []) (fun rr oo => rr = .d (qM r) ∧ oo = lk []) := by
 refine fnO Try.func6 rfl rfl (cwP ?_)
 unfold qU1 at h
 refine cwS (cwR (
  .c (uA rfl)<|.nil rfl) ?_)
 have ⟨x0,hx0,h0⟩ := bdS (x := qx2) h
 refine cwS (cwR (
  .c (q50 rfl rfl .no Try.func13 rfl rfl (law07_shown_ok hx0) .nil trivial (.inl rfl))<|
  .c (uA rfl)<|.nil rfl) ?_)
 refine cwS (cwR (
  .c (o_bldA rfl rfl .no zo64 rfl pl64 .nil)<|
  .c (q30 0 rfl rfl .no ze64 rfl)<|
  .c (uS [] rfl sz64 rfl)<|.nil rfl) ?_)
 have ⟨o0,hj0,h1⟩ := bdS h0
 refine cwJ (fun (z : (List (Int × ttN))) => St.of [(1,.d (eint a1)),(5,.d (qM x0)),(6,.ptr 0 0)] [(0,.own (qq0 z))]) (fun (z : (List (Int × ttN))) => o0 = z) ?_ ?_
 ·intro v0 hv0; subst hv0
  refine cwL (lOp (o := 0) (y := .st [.arr 3 0]) (news := [(3,.arr 0 4 (o0.map qt))]) rfl (.st (.cons (.arr rfl) .nil)) rfl rfl ⟨rfl,trivial⟩) ?_
  refine cwW (wkF (l := [(1,.d (eint a1)),(5,.d (qM x0)),(6,.ptr 0 0)]) (m := [(0,.box (.st [.arr 3 0])),(3,.arr 0 4 (o0.map qt))]) ⟨wD rfl,wD rfl,⟨_,rfl,.ptr rfl rfl⟩,trivial⟩ ⟨.box rfl (.st (.cons (.arr rfl rfl) .nil)),.arr rfl rfl,trivial⟩ qx) ?_
  refine cwW (wkF (l := [(1,.d (eint a1)),(5,.d (qM x0)),(6,.ptr 0 0)]) (m := [(0,.box (.d (qK o0)))]) ⟨wD rfl,wD rfl,⟨_,rfl,.ptr rfl rfl⟩,trivial⟩ ⟨.box rfl (.flat (.cons (.frz rfl rfl rfl) .nil)),trivial⟩ qx) ?_
  have ⟨x1,hx1,h2⟩ := bdS (x := q92 o0 a1) h1
  refine cwS (cwR (
   .c (uL [] rfl ta64 rfl)<|
   .c (qP4 rfl rfl .no rfl ifB64)<|
   .c (uM rfl)<|
   .c (q50 rfl rfl .no Try.func22 rfl rfl (tree_Check_b_ok hx1) (.cons rfl .i (.cons rfl .d .nil)) ⟨(by simp [AV.live]),trivial,trivial⟩ (.inl rfl))<|
   .c (uA rfl)<|.nil rfl) ?_)
  have ⟨x2,hx2,h3⟩ := bdS (x := qA2 o0 a1) h2
  refine cwS (cwR (
   .c (uF rfl fld64_0 rfl)<|
   .c (uL [0] rfl ta62 rfl)<|
   .c (uM rfl)<|
   .c (q50 rfl rfl .no Try.func28 rfl rfl (ref07_Right_ok hx2) (.cons rfl .d (.cons rfl .d .nil)) ⟨trivial,trivial,trivial⟩ (.inl rfl))<|
   .c (uA rfl)<|.nil rfl) ?_)
  have ⟨o1,hj1,h4⟩ := bdS h3
  refine cwJ (fun (z : Bool) => St.of [(4,.d (qM z))] []) (fun (z : Bool) => o1 = z) ?_ ?_
  ·intro v1 hv1; subst hv1
   have heq := ((sJ h4)).symm
   subst heq
   exact qu ⟨_,(show Leads _ _ (St.of [(4,.d (qM o1))] []) from .w (wkF ⟨wD rfl,trivial⟩ trivial qx)),.inr rfl,_,res1 rfl rfl,rfl,rfl⟩
  rcases cdS hj1 with ⟨hc0,h5⟩ | ⟨hc0,h6⟩
  ·skip
   rcases cdS h5 with ⟨hc1,h7⟩ | ⟨hc1,h8⟩
   ·skip
    rcases cdS h7 with ⟨hc2,h9⟩ | ⟨hc2,h10⟩
    ·skip
     refine cwR (
      .c (uM rfl)<|
      .c (uM rfl)<|
      .c (o_mv rfl rfl (.yes rfl rfl hc0) rfl)<|
      .c (o_mv rfl rfl (.yes rfl rfl hc0) rfl)<|
      .c (o_mv rfl rfl (.yes rfl rfl hc1) rfl)<|
      .c (qi rfl rfl (.yes rfl rfl hc1) rfl rfl (q80 _ _) rfl)<|
      .c (qg rfl rfl (.yes rfl rfl hc0) rfl hc1 rfl)<|
      .c (o_mv rfl rfl (.yes rfl rfl hc0) rfl)<|
      .c (uN rfl rfl hc2)<|
      .c (uN rfl rfl hc2)<|
      .c (uN rfl rfl hc2)<|
      .c (q40 rfl rfl rfl rfl)<|
      .c (q40 rfl rfl rfl rfl)<|
      .c (uN rfl rfl hc2)<|
      .c (qg rfl rfl (.yes rfl rfl hc0) rfl hc2 rfl)<|
      .c (uPT rfl hc0)<|
      .c (uA rfl)<|.nil rfl
     ) ?_
     exact ⟨true,(sJ h9),.w (wkF ⟨wD rfl,trivial⟩ trivial qx)⟩
    rcases cdS h10 with ⟨hc3,h11⟩ | ⟨hc3,h12⟩
    ·skip
     refine cwR (
      .c (uM rfl)<|
      .c (uM rfl)<|
      .c (o_mv rfl rfl (.yes rfl rfl hc0) rfl)<|
      .c (o_mv rfl rfl (.yes rfl rfl hc0) rfl)<|
      .c (o_mv rfl rfl (.yes rfl rfl hc1) rfl)<|
      .c (qi rfl rfl (.yes rfl rfl hc1) rfl rfl (q80 _ _) rfl)<|
      .c (qg rfl rfl (.yes rfl rfl hc0) rfl hc1 rfl)<|
      .c (o_mv rfl rfl (.yes rfl rfl hc0) rfl)<|
      .c (o_mv rfl rfl (.yes rfl rfl hc2) rfl)<|
      .c (qZ2 rfl rfl (.yes rfl rfl hc2) rfl)<|
      .c (o_mv rfl rfl (.yes rfl rfl hc2) rfl)<|
      .c (o_mv rfl rfl (.yes rfl rfl hc3) rfl)<|
      .c (qi rfl rfl (.yes rfl rfl hc3) rfl rfl (q80 _ _) rfl)<|
      .c (qg rfl rfl (.yes rfl rfl hc2) rfl hc3 rfl)<|
      .c (qf rfl rfl (.yes rfl rfl hc0) rfl hc2 rfl)<|
      .c (uPT rfl hc0)<|
      .c (uA rfl)<|.nil rfl
     ) ?_
     exact ⟨(decide (x1 = 12)),(sJ h11),.w (wkF ⟨wD rfl,trivial⟩ trivial qx)⟩
    refine cwR (
     .c (uM rfl)<|
     .c (uM rfl)<|
     .c (o_mv rfl rfl (.yes rfl rfl hc0) rfl)<|
     .c (o_mv rfl rfl (.yes rfl rfl hc0) rfl)<|
     .c (o_mv rfl rfl (.yes rfl rfl hc1) rfl)<|
     .c (qi rfl rfl (.yes rfl rfl hc1) rfl rfl (q80 _ _) rfl)<|
     .c (qg rfl rfl (.yes rfl rfl hc0) rfl hc1 rfl)<|
     .c (o_mv rfl rfl (.yes rfl rfl hc0) rfl)<|
     .c (o_mv rfl rfl (.yes rfl rfl hc2) rfl)<|
     .c (qZ2 rfl rfl (.yes rfl rfl hc2) rfl)<|
     .c (o_mv rfl rfl (.yes rfl rfl hc2) rfl)<|
     .c (uN rfl rfl hc3)<|
     .c (uN rfl rfl hc3)<|
     .c (qf rfl rfl (.yes rfl rfl hc2) rfl hc3 rfl)<|
     .c (qf rfl rfl (.yes rfl rfl hc0) rfl hc2 rfl)<|
     .c (uPT rfl hc0)<|
     .c (uA rfl)<|.nil rfl
    ) ?_
    exact ⟨false,(sJ h12),.w (wkF ⟨wD rfl,trivial⟩ trivial qx)⟩
   rcases cdS h8 with ⟨hc4,h13⟩ | ⟨hc4,h14⟩
   ·skip
    refine cwR (
     .c (uM rfl)<|
     .c (uM rfl)<|
     .c (o_mv rfl rfl (.yes rfl rfl hc0) rfl)<|
     .c (o_mv rfl rfl (.yes rfl rfl hc0) rfl)<|
     .c (uN rfl rfl hc1)<|
     .c (uN rfl rfl hc1)<|
     .c (qf rfl rfl (.yes rfl rfl hc0) rfl hc1 rfl)<|
     .c (o_mv rfl rfl (.yes rfl rfl hc0) rfl)<|
     .c (o_mv rfl rfl (.yes rfl rfl rfl) rfl)<|
     .c (qZ2 rfl rfl (.yes rfl rfl rfl) rfl)<|
     .c (o_mv rfl rfl (.yes rfl rfl rfl) rfl)<|
     .c (o_mv rfl rfl (.yes rfl rfl hc4) rfl)<|
     .c (qi rfl rfl (.yes rfl rfl hc4) rfl rfl (q80 _ _) rfl)<|
     .c (qg rfl rfl (.yes rfl rfl rfl) rfl hc4 rfl)<|
     .c (qf rfl rfl (.yes rfl rfl hc0) rfl rfl rfl)<|
     .c (uPT rfl hc0)<|
     .c (uA rfl)<|.nil rfl
    ) ?_
    exact ⟨(decide (x1 = 12)),(sJ h13),.w (wkF ⟨wD rfl,trivial⟩ trivial qx)⟩
   refine cwR (
    .c (uM rfl)<|
    .c (uM rfl)<|
    .c (o_mv rfl rfl (.yes rfl rfl hc0) rfl)<|
    .c (o_mv rfl rfl (.yes rfl rfl hc0) rfl)<|
    .c (uN rfl rfl hc1)<|
    .c (uN rfl rfl hc1)<|
    .c (qf rfl rfl (.yes rfl rfl hc0) rfl hc1 rfl)<|
    .c (o_mv rfl rfl (.yes rfl rfl hc0) rfl)<|
    .c (o_mv rfl rfl (.yes rfl rfl rfl) rfl)<|
    .c (qZ2 rfl rfl (.yes rfl rfl rfl) rfl)<|
    .c (o_mv rfl rfl (.yes rfl rfl rfl) rfl)<|
    .c (uN rfl rfl hc4)<|
    .c (uN rfl rfl hc4)<|
    .c (qf rfl rfl (.yes rfl rfl rfl) rfl hc4 rfl)<|
    .c (qf rfl rfl (.yes rfl rfl hc0) rfl rfl rfl)<|
    .c (uPT rfl hc0)<|
    .c (uA rfl)<|.nil rfl
   ) ?_
   exact ⟨false,(sJ h14),.w (wkF ⟨wD rfl,trivial⟩ trivial qx)⟩
  refine cwR (
   .c (uM rfl)<|
   .c (uM rfl)<|
   .c (uN rfl rfl hc0)<|
   .c (uN rfl rfl hc0)<|
   .c (q40 rfl rfl rfl rfl)<|
   .c (q40 rfl rfl rfl rfl)<|
   .c (uN rfl rfl hc0)<|
   .c (uN rfl rfl hc0)<|
   .c (q40 rfl rfl rfl rfl)<|
   .c (q40 rfl rfl rfl rfl)<|
   .c (q40 rfl rfl rfl rfl)<|
   .c (q40 rfl rfl rfl rfl)<|
   .c (q40 rfl rfl rfl rfl)<|
   .c (q40 rfl rfl rfl rfl)<|
   .c (uN rfl rfl hc0)<|
   .c (uPF rfl hc0)<|
   .c (uA rfl)<|.nil rfl
  ) ?_
  exact ⟨false,(sJ h6),.w (wkF ⟨wD rfl,trivial⟩ trivial qx)⟩
 refine cwS (cwR (
  .c (uA rfl)<|.nil rfl) ?_)
 refine cwB ?_
 refine qJ (V := (Int × (List (Int × ttN)))) (O := (List (Int × ttN))) (fun (z : (Int × (List (Int × ttN)))) => St.of [(0,.d (qo a0)),(1,.d (eint a1)),(5,.d (qM x0)),(6,.ptr 0 0),(7,.d (eint z.1))] [(0,.own (qq0 z.2))]) hj0 (.trans (lPk (o := 0) (y := .st [.d (.v (.slice none 0 0))]) (x := qq0 ([])) (l := [(0,.d (qo a0)),(1,.d (eint a1)),(5,.d (qM x0)),(6,.ptr 0 0),(7,.d (eint 0))]) (m := [(0,.own (qq0 ([])))]) rfl (.st (.cons (.nil rfl) .nil)) rfl rfl ⟨⟨rfl,trivial⟩,⟨rfl,trivial⟩,⟨rfl,trivial⟩,⟨rfl,(by simp [AV.live,AV.lives,lk,Nat.beq])⟩,⟨rfl,trivial⟩,trivial⟩ ⟨.inl rfl,trivial⟩ rfl (OD.dat_live (qf0 _)) trivial qx) (.w (wkF ⟨wD rfl,wD rfl,wD rfl,⟨_,rfl,.ptro rfl rfl⟩,wD rfl,trivial⟩ ⟨.own rfl (.of_eq rfl (qf0 _)),trivial⟩ qx))) ?_
 intro v2 x3 hb0 hx3
 refine cwS ?_
 have ⟨o2,hj2,h15⟩ := bdS hb0
 refine cwJ (fun (z : Bool) => St.of [(0,.d (qo a0)),(1,.d (eint a1)),(5,.d (qM x0)),(6,.ptr 0 0),(7,.d (eint v2.1)),(20,.d (qM z))] [(0,.own (qq0 v2.2))]) (fun (z : Bool) => o2 = z) ?_ ?_
 ·intro v3 hv2; subst hv2
  rcases cdS h15 with ⟨hc5,h16⟩ | ⟨hc5,h17⟩
  ·refine cwT rfl hc5 ?_
   refine cwK ?_
   refine cwS ?_
   refine cwB ?_
   have ⟨x4,hx4,h18⟩ := bdS h16
   have hx4g := qA hx4
   refine cwS (cwR (
    .c (uM rfl)<|
    .c (uM rfl)<|
    .c (qb1 (enc := qt) (xs := a0) rfl rfl .no rfl rfl sl62 sz66 hx4g.1 hx4g.2)<|
    .c (ql1 rfl rfl .no rfl fld66_1 (by decide) rfl rfl)<|
    .c (o_ld rfl rfl .no rfl ta46 rfl rfl)<|
    .c (q30 1 rfl rfl .no ze46 rfl)<|
    .c (uS [] rfl sz46 rfl)<|.nil rfl) ?_)
   have ⟨x5,hx5,h19⟩ := bdS h18
   have hx5g := qv2 hx5
   refine cwS (cwR (
    .c (uF rfl qg0 rfl)<|
    .c (uL [1] rfl ta34 rfl)<|
    .c (uF rfl qg0 rfl)<|
    .c (uL [1] rfl ta34 rfl)<|
    .c (qD (enc := ePr) (xs := x4.2.2.1) rfl rfl .no rfl sl34)<|
    .c (o_min rfl rfl .no rfl rfl)<|
    .c (o_slM (enc := ePr) (xs := x4.2.2.1) rfl rfl .no rfl sl34 sz52 .no (.val rfl hx5g.2.1) hx5g.2.2.1 hx5g.2.2.2)<|
    .c (uF rfl qg0 rfl)<|
    .c (uS [1] rfl sz34 rfl)<|.nil rfl) ?_)
   have ⟨x6,hx6,h20⟩ := bdS h19
   have hx6g := qv2 hx6
   refine cwS (cwR (
    .c (uF rfl qP rfl)<|
    .c (uL [2] rfl ta44 rfl)<|
    .c (uF rfl qP rfl)<|
    .c (uL [2] rfl ta44 rfl)<|
    .c (qD (enc := qB) (xs := x4.2.2.2) rfl rfl .no rfl sl44)<|
    .c (o_min rfl rfl .no rfl rfl)<|
    .c (o_slM (enc := qB) (xs := x4.2.2.2) rfl rfl .no rfl sl44 sz69 .no (.val rfl hx6g.2.1) hx6g.2.2.1 hx6g.2.2.2)<|
    .c (uF rfl qP rfl)<|
    .c (uS [2] rfl sz44 rfl)<|.nil rfl) ?_)
   refine cwL (lOp (o := 0) (y := .st [.arr 2 0]) (news := [(2,.arr 0 4 (v2.2.map qt))]) rfl (.st (.cons (.arr rfl) .nil)) rfl rfl ⟨rfl,trivial⟩) ?_
   refine cwW (wkF (l := [(0,.d (qo a0)),(1,.d (eint a1)),(5,.d (qM x0)),(6,.ptr 0 0),(7,.d (eint v2.1)),(8,.ptr 1 0)]) (m := [(0,.box (.st [.arr 2 0])),(1,.box (.d (ql (x4.2.1,(qY0 x4.2.2.1 0 (min (x4.2.2.1.length : Int) 20)),(qY0 x4.2.2.2 0 (min (x4.2.2.2.length : Int) 20)))))),(2,.arr 0 4 (v2.2.map qt))]) ⟨wD rfl,wD rfl,wD rfl,⟨_,rfl,.ptr rfl rfl⟩,wD rfl,⟨_,rfl,.ptr rfl rfl⟩,trivial⟩ ⟨.box rfl (.st (.cons (.arr rfl rfl) .nil)),.box rfl (.d rfl),.arr rfl rfl,trivial⟩ qx) ?_
   have ⟨x7,hx7,h21⟩ := bdS h20
   have hx7g := qs0 hx7
   refine cwRA mixed (by kernel_rfl) (
    .c (uF rfl fld64_0 rfl)<|
    .c (uL [0] rfl ta62 rfl)<|
    .c (uM rfl)<|
    .c (uM rfl)<|
    .c (qb1 (enc := qt) (xs := a0) rfl rfl .no rfl rfl sl62 sz66 hx4g.1 hx4g.2)<|
    .c (ql1 rfl rfl .no rfl fld66_0 (by decide) rfl rfl)<|
    .c (o_ld rfl rfl .no rfl ta3 rfl rfl)<|
    .c (uL [] rfl ta46 rfl)<|
    .c (qg5 (ds := [eint x4.1,ql (x4.2.1,(qY0 x4.2.2.1 0 (min (x4.2.2.1.length : Int) 20)),(qY0 x4.2.2.2 0 (min (x4.2.2.2.length : Int) 20)))]) rfl rfl .no zs66 rfl pl66 (.cons rfl rfl rfl rfl rfl rfl rfl (.cons rfl rfl rfl rfl rfl rfl rfl .nil)))<|
    .c (qh5 (rows := ([(x4.1,(x4.2.1,(qY0 x4.2.2.1 0 (min (x4.2.2.1.length : Int) 20)),(qY0 x4.2.2.2 0 (min (x4.2.2.2.length : Int) 20))))] : List (Int × ttN)).map qt) rfl rfl .no (.cons rfl .nil) rfl sl62 sz66 ze66 rfl (qk2 qL2) (by decide))<|
    .c (qN2 (enc := qt) (xs := v2.2) (ys := [(x4.1,(x4.2.1,(qY0 x4.2.2.1 0 (min (x4.2.2.1.length : Int) 20)),(qY0 x4.2.2.2 0 (min (x4.2.2.2.length : Int) 20))))]) rfl rfl .no rfl rfl rfl qL2 sl62 sl62 sz66 by66 ze66 rfl (by decide) hx7g)<|
    .c (uF rfl fld64_0 rfl)<|
    .c (uS [0] rfl sz62 rfl)<|.nil rfl) (by kernel_rfl) ?_
   refine cwR (
    .c (uM rfl)<|
    .c (uB rfl (qN0 _ _) rfl)<|
    .c (uA rfl)<|.nil rfl
   ) ?_
   exact ⟨((IntKind.wrap .i64 (v2.1 + 1)),(v2.2 ++ [(x4.1,(x4.2.1,(qY0 x4.2.2.1 0 (min (x4.2.2.1.length : Int) 20)),(qY0 x4.2.2.2 0 (min (x4.2.2.2.length : Int) 20))))])),(sJ h21),.trans (lPk (o := 0) (y := .st [.arr 2 (0 + 1)]) (x := qq0 (v2.2 ++ [(x4.1,(x4.2.1,(qY0 x4.2.2.1 0 (min (x4.2.2.1.length : Int) 20)),(qY0 x4.2.2.2 0 (min (x4.2.2.2.length : Int) 20))))])) (l := [(0,.d (qo a0)),(1,.d (eint a1)),(5,.d (qM x0)),(6,.ptr 0 0),(7,.d (eint (IntKind.wrap .i64 (v2.1 + 1))))]) (m := [(0,.own (qq0 (v2.2 ++ [(x4.1,(x4.2.1,(qY0 x4.2.2.1 0 (min (x4.2.2.1.length : Int) 20)),(qY0 x4.2.2.2 0 (min (x4.2.2.2.length : Int) 20))))])))]) rfl (.st (.cons (.arr rfl) .nil)) rfl rfl ⟨⟨rfl,trivial⟩,⟨rfl,trivial⟩,⟨rfl,trivial⟩,⟨rfl,(by simp [AV.live,AV.lives,lk,Nat.beq])⟩,⟨rfl,trivial⟩,trivial⟩ ⟨.inl rfl,trivial⟩ rfl (OD.dat_live (qf0 _)) ⟨rfl,trivial⟩ qx) (.w (wkF ⟨wD rfl,wD rfl,wD rfl,⟨_,rfl,.ptro rfl rfl⟩,wD rfl,trivial⟩ ⟨.own rfl (.of_eq rfl (qf0 _)),trivial⟩ qx))⟩
  refine cwF rfl hc5 ?_
  refine qT ?_
  exact ⟨v2.2,(hx3 _ (sJ h17)).symm,.w (wkF ⟨wD rfl,wD rfl,⟨_,rfl,.ptro rfl rfl⟩,trivial⟩ ⟨.own rfl (.of_eq rfl (qf0 _)),trivial⟩ qx)⟩
 rcases cdS hj2 with ⟨hc6,h22⟩ | ⟨hc6,h23⟩
 ·skip
  refine cwR (
   .c (uM rfl)<|
   .c (uM rfl)<|
   .c (qD (enc := qt) (xs := a0) rfl rfl .no rfl sl62)<|
   .c (uB rfl (qp0 _ _) rfl)<|
   .c (uM rfl)<|
   .c (o_mv rfl rfl (.yes rfl rfl hc6) rfl)<|
   .c (qi rfl rfl (.yes rfl rfl hc6) rfl rfl (qp0 _ _) rfl)<|
   .c (uPT rfl hc6)<|.nil rfl
  ) ?_
  exact ⟨(decide (v2.1 < 60)),(sJ h22),.w (wkF ⟨wD rfl,wD rfl,wD rfl,⟨_,rfl,.ptro rfl rfl⟩,wD rfl,wD rfl,trivial⟩ ⟨.own rfl (.of_eq rfl (qf0 _)),trivial⟩ qx)⟩
 refine cwR (
  .c (uM rfl)<|
  .c (uM rfl)<|
  .c (qD (enc := qt) (xs := a0) rfl rfl .no rfl sl62)<|
  .c (uB rfl (qp0 _ _) rfl)<|
  .c (uM rfl)<|
  .c (uN rfl rfl hc6)<|
  .c (uN rfl rfl hc6)<|
  .c (uPF rfl hc6)<|.nil rfl
 ) ?_
 exact ⟨false,(sJ h23),.w (wkF ⟨wD rfl,wD rfl,wD rfl,⟨_,rfl,.ptro rfl rfl⟩,wD rfl,wD rfl,trivial⟩ ⟨.own rfl (.of_eq rfl (qf0 _)),trivial⟩ qx)⟩
end
end Go.Val
