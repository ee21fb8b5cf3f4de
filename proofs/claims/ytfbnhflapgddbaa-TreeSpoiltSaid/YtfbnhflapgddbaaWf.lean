/- Walks of the program's functions,printed. -/
import Derived.Test.YtfbnhflapgddbaaWe
import Derived.Test.YtfbnhflapgddbaaLe
set_option linter.unusedSectionVars false
set_option linter.unusedVariables false
set_option linter.unusedSimpArgs false
set_option maxRecDepth 100000
namespace Go.Val
open Go.RowKit Go.Proofs
section
variable [NoDrw]
noncomputable def q83 (a0 : List ttR) (a1 : Int) : Option (List (List ttR)) := (ck (decide (a1 ≠ 0))).bind fun _ => (((qJ (V := (Int × (List (List ttR)))) (O := (List (List ttR))) (fun v0 => cond (decide (v0.1 < (IntKind.wrap .i64 (Int.tdiv (IntKind.wrap .i64 ((IntKind.wrap .i64 ((a0.length : Int) + a1)) - 1)) a1)))) (
    (ck (decide ((IntKind.wrap .i64 (Int.tdiv (IntKind.wrap .i64 ((IntKind.wrap .i64 ((a0.length : Int) + a1)) - 1)) a1)) ≠ 0))).bind fun _ =>
    (cutB (IntKind.wrap .i64 (Int.tdiv (IntKind.wrap .i64 (v0.1 * (a0.length : Int))) (IntKind.wrap .i64 (Int.tdiv (IntKind.wrap .i64 ((IntKind.wrap .i64 ((a0.length : Int) + a1)) - 1)) a1)))) (IntKind.wrap .i64 (Int.tdiv (IntKind.wrap .i64 ((IntKind.wrap .i64 (v0.1 + 1)) * (a0.length : Int))) (IntKind.wrap .i64 (Int.tdiv (IntKind.wrap .i64 ((IntKind.wrap .i64 ((a0.length : Int) + a1)) - 1)) a1)))) a0.length).bind fun _ =>
    (fits (v0.2.length + ([(qY0 a0 (IntKind.wrap .i64 (Int.tdiv (IntKind.wrap .i64 (v0.1 * (a0.length : Int))) (IntKind.wrap .i64 (Int.tdiv (IntKind.wrap .i64 ((IntKind.wrap .i64 ((a0.length : Int) + a1)) - 1)) a1)))) (IntKind.wrap .i64 (Int.tdiv (IntKind.wrap .i64 ((IntKind.wrap .i64 (v0.1 + 1)) * (a0.length : Int))) (IntKind.wrap .i64 (Int.tdiv (IntKind.wrap .i64 ((IntKind.wrap .i64 ((a0.length : Int) + a1)) - 1)) a1)))))]).length) 24).bind fun _ =>
    some (.inl ((IntKind.wrap .i64 (v0.1 + 1)),(v0.2 ++ [(qY0 a0 (IntKind.wrap .i64 (Int.tdiv (IntKind.wrap .i64 (v0.1 * (a0.length : Int))) (IntKind.wrap .i64 (Int.tdiv (IntKind.wrap .i64 ((IntKind.wrap .i64 ((a0.length : Int) + a1)) - 1)) a1)))) (IntKind.wrap .i64 (Int.tdiv (IntKind.wrap .i64 ((IntKind.wrap .i64 (v0.1 + 1)) * (a0.length : Int))) (IntKind.wrap .i64 (Int.tdiv (IntKind.wrap .i64 ((IntKind.wrap .i64 ((a0.length : Int) + a1)) - 1)) a1)))))])))
   ) (some (.inr v0.2))) (0,[])) : Option (List (List ttR)))).bind fun o0 => some o0
noncomputable def q33 (a0 : List ttP) (a1 : Int) : Option (List (List ttP)) := (ck (decide (a1 ≠ 0))).bind fun _ => (((qJ (V := (Int × (List (List ttP)))) (O := (List (List ttP))) (fun v0 => cond (decide (v0.1 < (IntKind.wrap .i64 (Int.tdiv (IntKind.wrap .i64 ((IntKind.wrap .i64 ((a0.length : Int) + a1)) - 1)) a1)))) (
    (ck (decide ((IntKind.wrap .i64 (Int.tdiv (IntKind.wrap .i64 ((IntKind.wrap .i64 ((a0.length : Int) + a1)) - 1)) a1)) ≠ 0))).bind fun _ =>
    (cutB (IntKind.wrap .i64 (Int.tdiv (IntKind.wrap .i64 (v0.1 * (a0.length : Int))) (IntKind.wrap .i64 (Int.tdiv (IntKind.wrap .i64 ((IntKind.wrap .i64 ((a0.length : Int) + a1)) - 1)) a1)))) (IntKind.wrap .i64 (Int.tdiv (IntKind.wrap .i64 ((IntKind.wrap .i64 (v0.1 + 1)) * (a0.length : Int))) (IntKind.wrap .i64 (Int.tdiv (IntKind.wrap .i64 ((IntKind.wrap .i64 ((a0.length : Int) + a1)) - 1)) a1)))) a0.length).bind fun _ =>
    (fits (v0.2.length + ([(qY0 a0 (IntKind.wrap .i64 (Int.tdiv (IntKind.wrap .i64 (v0.1 * (a0.length : Int))) (IntKind.wrap .i64 (Int.tdiv (IntKind.wrap .i64 ((IntKind.wrap .i64 ((a0.length : Int) + a1)) - 1)) a1)))) (IntKind.wrap .i64 (Int.tdiv (IntKind.wrap .i64 ((IntKind.wrap .i64 (v0.1 + 1)) * (a0.length : Int))) (IntKind.wrap .i64 (Int.tdiv (IntKind.wrap .i64 ((IntKind.wrap .i64 ((a0.length : Int) + a1)) - 1)) a1)))))]).length) 24).bind fun _ =>
    some (.inl ((IntKind.wrap .i64 (v0.1 + 1)),(v0.2 ++ [(qY0 a0 (IntKind.wrap .i64 (Int.tdiv (IntKind.wrap .i64 (v0.1 * (a0.length : Int))) (IntKind.wrap .i64 (Int.tdiv (IntKind.wrap .i64 ((IntKind.wrap .i64 ((a0.length : Int) + a1)) - 1)) a1)))) (IntKind.wrap .i64 (Int.tdiv (IntKind.wrap .i64 ((IntKind.wrap .i64 (v0.1 + 1)) * (a0.length : Int))) (IntKind.wrap .i64 (Int.tdiv (IntKind.wrap .i64 ((IntKind.wrap .i64 ((a0.length : Int) + a1)) - 1)) a1)))))])))
   ) (some (.inr v0.2))) (0,[])) : Option (List (List ttP)))).bind fun o0 => some o0
noncomputable def qc0 (a0 : Option Fr) : Option ttP := ((((frOf a0).bind fun x0 => cond (decide ((x0.2.1.length : Int) > 0)) ((gx x0.2.1 0).bind fun x1 => some (x1.1,0,a0)) (cond (decide ((x0.2.2.length : Int) > 0)) ((gx x0.2.2 0).bind fun x2 => some (x2.1,0,a0)) (some ((List.replicate 24 0),0,a0)))) : Option ttP)).bind fun o0 => some o0
noncomputable def q31 (a0 : Option Fr) : Option Bool := (frOf a0).bind fun x0 => cond (decide (x0.1 = 0)) (some (decide ((x0.2.1.length : Int) < 3))) (some (decide ((x0.2.2.length : Int) < 9)))
noncomputable def qT0 (a0 : List ttR) : Option (List ttP) := ((((q83 a0 7).bind fun x0 => qJ (V := (Int × (List ttP))) (O := (List ttP)) (fun v0 => cond (decide (v0.1 < (x0.length : Int))) ((gx x0 v0.1).bind fun x1 => (qc0 (some (frMk (0,x1,[])))).bind fun x2 => (fits (v0.2.length + ([x2]).length) 40).bind fun _ =>
    some (.inl ((IntKind.wrap .i64 (v0.1 + 1)),(v0.2 ++ [x2])))) (some (.inr v0.2))) (0,[])) : Option (List ttP))).bind fun o0 => some o0
noncomputable def qf1 (a0 : Int) (a1 : List ttP) : Option (List ttP) := ((((q33 a1 18).bind fun x0 => qJ (V := (Int × (List ttP))) (O := (List ttP)) (fun v0 => cond (decide (v0.1 < (x0.length : Int))) ((gx x0 v0.1).bind fun x1 => (qc0 (some (frMk (a0,[],x1)))).bind fun x2 => (fits (v0.2.length + ([x2]).length) 40).bind fun _ =>
    some (.inl ((IntKind.wrap .i64 (v0.1 + 1)),(v0.2 ++ [x2])))) (some (.inr v0.2))) (0,[])) : Option (List ttP))).bind fun o0 => some o0
noncomputable def qN3 (a0 : Int) (a1 : List ttP) : Option (ttP × Bool × Int) := (((qJ (V := (Int × (List ttP))) (O := ((List ttP) ⊕ (ttP × Bool × Int))) (fun v0 => cond (decide ((v0.2.length : Int) > 1)) (cond (decide ((IntKind.wrap .i64 (v0.1 + 1)) ≥ 12)) (some (.inr (.inr (((List.replicate 24 0),0,(none : Option Fr)),false,8)))) (
     (qf1 (IntKind.wrap .i64 (v0.1 + 1)) v0.2).bind fun x0 => some (.inl ((IntKind.wrap .i64 (v0.1 + 1)),x0)))) (some (.inr (.inl v0.2)))) (a0,a1)) : Option ((List ttP) ⊕ (ttP × Bool × Int)))).bind fun o0 => Sum.elim (fun (v1 : (List ttP)) => cond (decide ((v1.length : Int) = 0)) (some (((List.replicate 24 0),0,(none : Option Fr)),false,0)) ((gx v1 0).bind fun x1 => (((
    qJ (V := ttP) (O := ttP) (fun v2 => (((cond (Option.isSome v2.2.2) ((frOf v2.2.2).bind fun x2 => some (decide ((x2.2.2.length : Int) = 1))) (some false)) : Option Bool)).bind fun o1 => cond o1 ((frOf v2.2.2).bind fun x3 => (gx x3.2.2 0).bind fun x4 => some (.inl x4)) (some (.inr v2))) x1) : Option ttP)).bind fun o2 => some (o2,true,0))) (fun w0 => some w0) o0
noncomputable def qk1 (a0 : List ttR) (a1 : List ttC) : Option (List ttR) := (((qJ (V := ((List ttR) × (List ttC) × (List ttR))) (O := (List ttR)) (fun v0 => (((cond (decide ((v0.1.length : Int) > 0)) (some true) (some (decide ((v0.2.1.length : Int) > 0)))) : Option Bool)).bind fun o0 => cond o0 ((((cond (decide ((v0.2.1.length : Int) = 0)) (some true) (
      cond (decide ((v0.1.length : Int) > 0)) ((gx v0.1 0).bind fun x0 => (gx v0.2.1 0).bind fun x1 => (qu x0.1 x1.1).bind fun x2 => some (decide (x2 < 0))) (some false))) : Option Bool)).bind fun o1 => cond o1 ((gx v0.1 0).bind fun x3 => (fits (v0.2.2.length + ([x3]).length) 40).bind fun _ => (cutB 1 (v0.1.length : Int) v0.1.length).bind fun _ =>
     some (.inl ((qY0 v0.1 1 (v0.1.length : Int)),v0.2.1,(v0.2.2 ++ [x3])))) (((((((cond (decide ((v0.1.length : Int) > 0)) ((gx v0.1 0).bind fun x4 => (gx v0.2.1 0).bind fun x5 => some (decide (x4.1 = x5.1))) (some false)) : Option Bool)).bind fun o2 => cond o2 ((cutB 1 (v0.1.length : Int) v0.1.length).bind fun _ => some (qY0 v0.1 1 (v0.1.length : Int))) (some v0.1)
     ) : Option (List ttR))).bind fun o3 => ((((gx v0.2.1 0).bind fun x6 => cond (!x6.2.2) ((fits (v0.2.2.length + ([(x6.1,x6.2.1)]).length) 40).bind fun _ => some (v0.2.2 ++ [(x6.1,x6.2.1)])) (some v0.2.2)) : Option (List ttR))).bind fun o4 => (cutB 1 (v0.2.1.length : Int) v0.2.1.length).bind fun _ => some (.inl (o3,(qY0 v0.2.1 1 (v0.2.1.length : Int)),o4)))) (some (.inr v0.2.2))
  ) (a0,a1,[])) : Option (List ttR))).bind fun o5 => some o5
noncomputable def q30 (a0 : ttC) (a1 : List UInt8) : Option Int := (qu a0.1 a1).bind fun x0 => some x0
theorem tree_shareP_ok {a0 : List ttR} {a1 : Int} {r : (List (List ttR))} (h : q83 a0 a1 = some r) : FnOk Try.prog 57 [.d (eSP_ a0),.d (eint a1)] 0 (lk []) (fun rr oo => rr = .d (qe2 r) ∧ oo = lk []) := by
 refine fnO Try.func57 rfl rfl (cwP ?_)
 unfold q83 at h
 refine cwS (cwR (
  .c (uA rfl)<|.nil rfl) ?_)
 have ⟨x0,hx0,h0⟩ := bdS h
 have hx0g := qs5 hx0
 refine cwS (cwR (
  .c (uM rfl)<|
  .c (qV (enc := ePr) (xs := a0) rfl rfl .no rfl sl34)<|
  .c (uM rfl)<|
  .c (uB rfl (qN0 _ _) rfl)<|
  .c (uB rfl (qW2 _ _) rfl)<|
  .c (uM rfl)<|
  .c (uB rfl (b_quo _ _ hx0g) rfl)<|
  .c (uA rfl)<|.nil rfl) ?_)
 refine cwS (cwR (
  .c (uA rfl)<|.nil rfl) ?_)
 have ⟨o0,hj0,h1⟩ := bdS h0
 refine cwJ (fun (z : (List (List ttR))) => St.of [(6,.arr 0 0)] [(0,.arr 0 1 (z.map eSP_))]) (fun (z : (List (List ttR))) => o0 = z) ?_ ?_
 ·intro v0 hv0; subst hv0
  refine cwS (cwR (
   .c (uM rfl)<|
   .c (uA rfl)<|.nil rfl) ?_)
  have heq := ((sJ h1)).symm
  subst heq
  exact qw ⟨_,(show Leads _ _ (St.of [(4,.d (qe2 o0))] []) from .w (wkF ⟨⟨_,rfl,.frz rfl rfl rfl⟩,trivial⟩ trivial qG)),.inr rfl,_,res1 rfl rfl,rfl,rfl⟩
 refine cwS (cwR (
  .c (uM rfl)<|
  .c (uM rfl)<|.nil rfl) ?_)
 refine cwB ?_
 refine qM (V := (Int × (List (List ttR)))) (O := (List (List ttR))) (fun (z : (Int × (List (List ttR)))) => St.of [(0,.d (eSP_ a0)),(5,.d (eint (IntKind.wrap .i64 (Int.tdiv (IntKind.wrap .i64 ((IntKind.wrap .i64 ((a0.length : Int) + a1)) - 1)) a1)))),(6,.arr 0 0),(15,.d (eint (IntKind.wrap .i64 (Int.tdiv (IntKind.wrap .i64 ((IntKind.wrap .i64 ((a0.length : Int) + a1)) - 1)) a1)))),(16,.d (eint z.1))] [(0,.arr 0 1 (z.2.map eSP_))]) hj0 (.w (wkF ⟨wD rfl,wD rfl,⟨_,rfl,.nila rfl rfl⟩,wD rfl,wD rfl,trivial⟩ ⟨.nil rfl,trivial⟩ qG)) ?_
 intro v1 x1 hb0 hx1
 refine cwS (cwR (
  .c (uB rfl (qG0 _ _) rfl)<|.nil rfl) ?_)
 refine cwS ?_
 rcases cdS hb0 with ⟨hc0,h2⟩ | ⟨hc0,h3⟩
 ·refine cwT rfl hc0 ?_
  refine cwK ?_
  refine cwS ?_
  refine cwB ?_
  refine cwS (cwR (
   .c (uM rfl)<|
   .c (uA rfl)<|.nil rfl) ?_)
  have ⟨x2,hx2,h4⟩ := bdS h2
  have hx2g := qs5 hx2
  have ⟨x3,hx3,h5⟩ := bdS h4
  have hx3g := qt1 hx3
  have ⟨x4,hx4,h6⟩ := bdS h5
  have hx4g := qj0 hx4
  refine cwRA mixed (by kernel_rfl) (
   .c (uM rfl)<|
   .c (uM rfl)<|
   .c (uM rfl)<|
   .c (uM rfl)<|
   .c (qV (enc := ePr) (xs := a0) rfl rfl .no rfl sl34)<|
   .c (uB rfl (b_mul _ _) rfl)<|
   .c (uM rfl)<|
   .c (uB rfl (b_quo _ _ hx2g) rfl)<|
   .c (uM rfl)<|
   .c (uB rfl (qN0 _ _) rfl)<|
   .c (uM rfl)<|
   .c (qV (enc := ePr) (xs := a0) rfl rfl .no rfl sl34)<|
   .c (uB rfl (b_mul _ _) rfl)<|
   .c (uM rfl)<|
   .c (uB rfl (b_quo _ _ hx2g) rfl)<|
   .c (o_slM (enc := ePr) (xs := a0) rfl rfl .no rfl sl34 sz52 (.val rfl hx3g.1) (.val rfl hx3g.2.1) hx3g.2.2.1 hx3g.2.2.2)<|
   .c (qu5 (rows := ([(qY0 a0 (IntKind.wrap .i64 (Int.tdiv (IntKind.wrap .i64 (v1.1 * (a0.length : Int))) (IntKind.wrap .i64 (Int.tdiv (IntKind.wrap .i64 ((IntKind.wrap .i64 ((a0.length : Int) + a1)) - 1)) a1)))) (IntKind.wrap .i64 (Int.tdiv (IntKind.wrap .i64 ((IntKind.wrap .i64 (v1.1 + 1)) * (a0.length : Int))) (IntKind.wrap .i64 (Int.tdiv (IntKind.wrap .i64 ((IntKind.wrap .i64 ((a0.length : Int) + a1)) - 1)) a1)))))] : List (List ttR)).map eSP_) rfl rfl .no (.cons rfl .nil) rfl sl129 sz34 ze34 rfl (qL1 siSapiPair) (by decide))<|
   .c (qo2 (enc := eSP_) (xs := v1.2) (ys := [(qY0 a0 (IntKind.wrap .i64 (Int.tdiv (IntKind.wrap .i64 (v1.1 * (a0.length : Int))) (IntKind.wrap .i64 (Int.tdiv (IntKind.wrap .i64 ((IntKind.wrap .i64 ((a0.length : Int) + a1)) - 1)) a1)))) (IntKind.wrap .i64 (Int.tdiv (IntKind.wrap .i64 ((IntKind.wrap .i64 (v1.1 + 1)) * (a0.length : Int))) (IntKind.wrap .i64 (Int.tdiv (IntKind.wrap .i64 ((IntKind.wrap .i64 ((a0.length : Int) + a1)) - 1)) a1)))))]) rfl rfl .no rfl rfl rfl siSapiPair sl129 sl129 sz34 by34 ze34 rfl (by decide) hx4g)<|
   .c (uA rfl)<|.nil rfl) (by kernel_rfl) ?_
  refine cwR (
   .c (uB rfl (qN0 _ _) rfl)<|
   .c (uM rfl)<|.nil rfl
  ) ?_
  exact ⟨((IntKind.wrap .i64 (v1.1 + 1)),(v1.2 ++ [(qY0 a0 (IntKind.wrap .i64 (Int.tdiv (IntKind.wrap .i64 (v1.1 * (a0.length : Int))) (IntKind.wrap .i64 (Int.tdiv (IntKind.wrap .i64 ((IntKind.wrap .i64 ((a0.length : Int) + a1)) - 1)) a1)))) (IntKind.wrap .i64 (Int.tdiv (IntKind.wrap .i64 ((IntKind.wrap .i64 (v1.1 + 1)) * (a0.length : Int))) (IntKind.wrap .i64 (Int.tdiv (IntKind.wrap .i64 ((IntKind.wrap .i64 ((a0.length : Int) + a1)) - 1)) a1)))))])),(sJ h6),.w (wkF ⟨wD rfl,wD rfl,⟨_,rfl,.arr rfl rfl⟩,wD rfl,wD rfl,trivial⟩ ⟨.arr0 rfl rfl rfl,trivial⟩ qG)⟩
 refine cwF rfl hc0 ?_
 refine q10 ?_
 exact ⟨v1.2,(hx1 _ (sJ h3)).symm,.w (wkF ⟨⟨_,rfl,.arr rfl rfl⟩,trivial⟩ ⟨.arr rfl rfl,trivial⟩ qG)⟩
theorem tree_shareK_ok {a0 : List ttP} {a1 : Int} {r : (List (List ttP))} (h : q33 a0 a1 = some r) : FnOk Try.prog 80 [.d (qk a0),.d (eint a1)] 0 (lk []) (fun rr oo => rr = .d (qB1 r) ∧ oo = lk []) := by
 refine fnO Try.func80 rfl rfl (cwP ?_)
 unfold q33 at h
 refine cwS (cwR (
  .c (uA rfl)<|.nil rfl) ?_)
 have ⟨x0,hx0,h0⟩ := bdS h
 have hx0g := qs5 hx0
 refine cwS (cwR (
  .c (uM rfl)<|
  .c (qV (enc := qf) (xs := a0) rfl rfl .no rfl sl95)<|
  .c (uM rfl)<|
  .c (uB rfl (qN0 _ _) rfl)<|
  .c (uB rfl (qW2 _ _) rfl)<|
  .c (uM rfl)<|
  .c (uB rfl (b_quo _ _ hx0g) rfl)<|
  .c (uA rfl)<|.nil rfl) ?_)
 refine cwS (cwR (
  .c (uA rfl)<|.nil rfl) ?_)
 have ⟨o0,hj0,h1⟩ := bdS h0
 refine cwJ (fun (z : (List (List ttP))) => St.of [(6,.arr 0 0)] [(0,.arr 0 1 (z.map qk))]) (fun (z : (List (List ttP))) => o0 = z) ?_ ?_
 ·intro v0 hv0; subst hv0
  refine cwS (cwR (
   .c (uM rfl)<|
   .c (uA rfl)<|.nil rfl) ?_)
  have heq := ((sJ h1)).symm
  subst heq
  exact qw ⟨_,(show Leads _ _ (St.of [(4,.d (qB1 o0))] []) from .w (wkF ⟨⟨_,rfl,.frz rfl rfl rfl⟩,trivial⟩ trivial qG)),.inr rfl,_,res1 rfl rfl,rfl,rfl⟩
 refine cwS (cwR (
  .c (uM rfl)<|
  .c (uM rfl)<|.nil rfl) ?_)
 refine cwB ?_
 refine qM (V := (Int × (List (List ttP)))) (O := (List (List ttP))) (fun (z : (Int × (List (List ttP)))) => St.of [(0,.d (qk a0)),(5,.d (eint (IntKind.wrap .i64 (Int.tdiv (IntKind.wrap .i64 ((IntKind.wrap .i64 ((a0.length : Int) + a1)) - 1)) a1)))),(6,.arr 0 0),(15,.d (eint (IntKind.wrap .i64 (Int.tdiv (IntKind.wrap .i64 ((IntKind.wrap .i64 ((a0.length : Int) + a1)) - 1)) a1)))),(16,.d (eint z.1))] [(0,.arr 0 1 (z.2.map qk))]) hj0 (.w (wkF ⟨wD rfl,wD rfl,⟨_,rfl,.nila rfl rfl⟩,wD rfl,wD rfl,trivial⟩ ⟨.nil rfl,trivial⟩ qG)) ?_
 intro v1 x1 hb0 hx1
 refine cwS (cwR (
  .c (uB rfl (qG0 _ _) rfl)<|.nil rfl) ?_)
 refine cwS ?_
 rcases cdS hb0 with ⟨hc0,h2⟩ | ⟨hc0,h3⟩
 ·refine cwT rfl hc0 ?_
  refine cwK ?_
  refine cwS ?_
  refine cwB ?_
  refine cwS (cwR (
   .c (uM rfl)<|
   .c (uA rfl)<|.nil rfl) ?_)
  have ⟨x2,hx2,h4⟩ := bdS h2
  have hx2g := qs5 hx2
  have ⟨x3,hx3,h5⟩ := bdS h4
  have hx3g := qt1 hx3
  have ⟨x4,hx4,h6⟩ := bdS h5
  have hx4g := qj0 hx4
  refine cwRA mixed (by kernel_rfl) (
   .c (uM rfl)<|
   .c (uM rfl)<|
   .c (uM rfl)<|
   .c (uM rfl)<|
   .c (qV (enc := qf) (xs := a0) rfl rfl .no rfl sl95)<|
   .c (uB rfl (b_mul _ _) rfl)<|
   .c (uM rfl)<|
   .c (uB rfl (b_quo _ _ hx2g) rfl)<|
   .c (uM rfl)<|
   .c (uB rfl (qN0 _ _) rfl)<|
   .c (uM rfl)<|
   .c (qV (enc := qf) (xs := a0) rfl rfl .no rfl sl95)<|
   .c (uB rfl (b_mul _ _) rfl)<|
   .c (uM rfl)<|
   .c (uB rfl (b_quo _ _ hx2g) rfl)<|
   .c (o_slM (enc := qf) (xs := a0) rfl rfl .no rfl sl95 qj2 (.val rfl hx3g.1) (.val rfl hx3g.2.1) hx3g.2.2.1 hx3g.2.2.2)<|
   .c (qu5 (rows := ([(qY0 a0 (IntKind.wrap .i64 (Int.tdiv (IntKind.wrap .i64 (v1.1 * (a0.length : Int))) (IntKind.wrap .i64 (Int.tdiv (IntKind.wrap .i64 ((IntKind.wrap .i64 ((a0.length : Int) + a1)) - 1)) a1)))) (IntKind.wrap .i64 (Int.tdiv (IntKind.wrap .i64 ((IntKind.wrap .i64 (v1.1 + 1)) * (a0.length : Int))) (IntKind.wrap .i64 (Int.tdiv (IntKind.wrap .i64 ((IntKind.wrap .i64 ((a0.length : Int) + a1)) - 1)) a1)))))] : List (List ttP)).map qk) rfl rfl .no (.cons rfl .nil) rfl sl155 sz95 ze95 rfl (qL1 qU4) (by decide))<|
   .c (qo2 (enc := qk) (xs := v1.2) (ys := [(qY0 a0 (IntKind.wrap .i64 (Int.tdiv (IntKind.wrap .i64 (v1.1 * (a0.length : Int))) (IntKind.wrap .i64 (Int.tdiv (IntKind.wrap .i64 ((IntKind.wrap .i64 ((a0.length : Int) + a1)) - 1)) a1)))) (IntKind.wrap .i64 (Int.tdiv (IntKind.wrap .i64 ((IntKind.wrap .i64 (v1.1 + 1)) * (a0.length : Int))) (IntKind.wrap .i64 (Int.tdiv (IntKind.wrap .i64 ((IntKind.wrap .i64 ((a0.length : Int) + a1)) - 1)) a1)))))]) rfl rfl .no rfl rfl rfl qU4 sl155 sl155 sz95 by95 ze95 rfl (by decide) hx4g)<|
   .c (uA rfl)<|.nil rfl) (by kernel_rfl) ?_
  refine cwR (
   .c (uB rfl (qN0 _ _) rfl)<|
   .c (uM rfl)<|.nil rfl
  ) ?_
  exact ⟨((IntKind.wrap .i64 (v1.1 + 1)),(v1.2 ++ [(qY0 a0 (IntKind.wrap .i64 (Int.tdiv (IntKind.wrap .i64 (v1.1 * (a0.length : Int))) (IntKind.wrap .i64 (Int.tdiv (IntKind.wrap .i64 ((IntKind.wrap .i64 ((a0.length : Int) + a1)) - 1)) a1)))) (IntKind.wrap .i64 (Int.tdiv (IntKind.wrap .i64 ((IntKind.wrap .i64 (v1.1 + 1)) * (a0.length : Int))) (IntKind.wrap .i64 (Int.tdiv (IntKind.wrap .i64 ((IntKind.wrap .i64 ((a0.length : Int) + a1)) - 1)) a1)))))])),(sJ h6),.w (wkF ⟨wD rfl,wD rfl,⟨_,rfl,.arr rfl rfl⟩,wD rfl,wD rfl,trivial⟩ ⟨.arr0 rfl rfl rfl,trivial⟩ qG)⟩
 refine cwF rfl hc0 ?_
 refine q10 ?_
 exact ⟨v1.2,(hx1 _ (sJ h3)).symm,.w (wkF ⟨⟨_,rfl,.arr rfl rfl⟩,trivial⟩ ⟨.arr rfl rfl,trivial⟩ qG)⟩
theorem qS4 {a0 : Option Fr} {r : ttP} (h : qc0 a0 = some r) : FnOk Try.prog 58 [.d (qY a0)] 0 (lk []) (fun rr oo => rr = .d (qf r) ∧ oo = lk [(0,.box (.d (qf r)))]) := by
 refine fnO Try.func58 rfl rfl (cwP ?_)
 unfold qc0 at h
 refine cwS (cwR (
  .c (q50 0 rfl rfl .no qj5 rfl)<|.nil rfl) ?_)
 refine cwS (cwR (
  .c (uM rfl)<|
  .c (qz5 (ds := [eK (List.replicate 24 0),eint 0,qY a0]) rfl rfl .no zs101 rfl pl101 (.cons rfl rfl rfl rfl (qE a0) rfl rfl .nil))<|
  .c (q50 1 rfl rfl .no qj5 rfl)<|
  .c (o_st [] rfl .no rfl rfl rfl rfl rfl qj2 (qq ((List.replicate 24 0),0,a0)) (qq ((List.replicate 24 0),0,(none : Option Fr))))<|.nil rfl) ?_)
 have ⟨o0,hj0,h0⟩ := bdS h
 refine cwJ (fun (z : ttP) => St.of [(2,.ptr 0 0),(3,.ptr 1 0)] [(0,.box (.d (qf ((List.replicate 24 0),0,(none : Option Fr))))),(1,.box (.d (qf z)))]) (fun (z : ttP) => o0 = z) ?_ ?_
 ·intro v0 hv0; subst hv0
  refine cwS (cwR (
   .c (qA [] rfl rfl .no rfl rfl rfl qA5 rfl (qq o0))<|
   .c (o_st [] rfl .no rfl rfl rfl rfl rfl qj2 (qq o0) (qq ((List.replicate 24 0),0,(none : Option Fr))))<|.nil rfl) ?_)
  have heq := ((sJ h0)).symm
  subst heq
  exact qw ⟨_,(show Leads _ _ (St.of [(2,.ptr 0 0)] [(0,.box (.d (qf o0)))]) from .w (wkF ⟨⟨_,rfl,.ptr rfl rfl⟩,trivial⟩ ⟨.box rfl (.d rfl),trivial⟩ qG)),.inr rfl,_,resC rfl rfl rfl qA5 rfl (qq _),rfl,rfl⟩
 refine cwB ?_
 have ⟨x0,hx0,h1⟩ := bdS (x := frOf a0) hj0
 refine cwS (cwR (
  .c (uM rfl)<|
  .c (qp2 (y := qW x0) rfl rfl .no rfl (qr2 hx0))<|
  .c (qa2 rfl rfl .no rfl qf4 (by decide) rfl rfl)<|
  .c (o_ld rfl rfl .no rfl ta34 rfl rfl)<|
  .c (qV (enc := ePr) (xs := x0.2.1) rfl rfl .no rfl sl34)<|
  .c (uB rfl (qy3 _ _) rfl)<|
  .c (uA rfl)<|.nil rfl) ?_)
 rcases cdS h1 with ⟨hc0,h2⟩ | ⟨hc0,h3⟩
 ·refine cwT rfl hc0 ?_
  have ⟨x1,hx1,h4⟩ := bdS h2
  have hx1g := qD hx1
  refine cwR (
   .c (uM rfl)<|
   .c (qp2 (y := qW x0) rfl rfl .no rfl (qr2 hx0))<|
   .c (qa2 rfl rfl .no rfl qf4 (by decide) rfl rfl)<|
   .c (o_ld rfl rfl .no rfl ta34 rfl rfl)<|
   .c (qJ1 (enc := ePr) (xs := x0.2.1) rfl rfl .no rfl rfl sl34 sz52 hx1g.1 hx1g.2)<|
   .c (qa2 rfl rfl .no rfl qD4 (by decide) rfl rfl)<|
   .c (o_ld rfl rfl .no rfl ta31 rfl rfl)<|
   .c (uF rfl fld101_0 rfl)<|
   .c (uS [0] rfl sz31 rfl)<|.nil rfl
  ) ?_
  exact ⟨(x1.1,0,a0),(sJ h4),.w (wkF ⟨⟨_,rfl,.ptr rfl rfl⟩,⟨_,rfl,.ptr rfl rfl⟩,trivial⟩ ⟨.box rfl (.d rfl),.box rfl (.d rfl),trivial⟩ qG)⟩
 refine cwF rfl hc0 ?_
 refine cwS (cwR (
  .c (uM rfl)<|
  .c (qp2 (y := qW x0) rfl rfl .no rfl (qr2 hx0))<|
  .c (qa2 rfl rfl .no rfl q42 (by decide) rfl rfl)<|
  .c (o_ld rfl rfl .no rfl ta95 rfl rfl)<|
  .c (qV (enc := qf) (xs := x0.2.2) rfl rfl .no rfl sl95)<|
  .c (uB rfl (qy3 _ _) rfl)<|
  .c (uA rfl)<|.nil rfl) ?_)
 rcases cdS h3 with ⟨hc1,h5⟩ | ⟨hc1,h6⟩
 ·refine cwT rfl hc1 ?_
  have ⟨x2,hx2,h7⟩ := bdS h5
  have hx2g := qD hx2
  refine cwR (
   .c (uM rfl)<|
   .c (qp2 (y := qW x0) rfl rfl .no rfl (qr2 hx0))<|
   .c (qa2 rfl rfl .no rfl q42 (by decide) rfl rfl)<|
   .c (o_ld rfl rfl .no rfl ta95 rfl rfl)<|
   .c (qJ1 (enc := qf) (xs := x0.2.2) rfl rfl .no rfl rfl sl95 qj2 hx2g.1 hx2g.2)<|
   .c (qa2 rfl rfl .no rfl fld101_0 (by decide) rfl rfl)<|
   .c (o_ld rfl rfl .no rfl ta31 rfl rfl)<|
   .c (uF rfl fld101_0 rfl)<|
   .c (uS [0] rfl sz31 rfl)<|.nil rfl
  ) ?_
  exact ⟨(x2.1,0,a0),(sJ h7),.w (wkF ⟨⟨_,rfl,.ptr rfl rfl⟩,⟨_,rfl,.ptr rfl rfl⟩,trivial⟩ ⟨.box rfl (.d rfl),.box rfl (.d rfl),trivial⟩ qG)⟩
 refine cwF rfl hc1 ?_
 refine cwK ?_
 exact ⟨((List.replicate 24 0),0,a0),(sJ h6),.w (wkF ⟨⟨_,rfl,.ptr rfl rfl⟩,⟨_,rfl,.ptr rfl rfl⟩,trivial⟩ ⟨.box rfl (.d rfl),.box rfl (.d rfl),trivial⟩ qG)⟩
theorem q73 {a0 : Option Fr} {r : ttP} (h : qc0 a0 = some r) : FnOk Try.prog 58 [.d (qY a0)] 0 (lk []) (fun rr oo => rr = .d (qf r) ∧ oo = lk []) := qt2 (qS4 h)
theorem tree_fresh_few_ok {a0 : Option Fr} {r : Bool} (h : q31 a0 = some r) : FnOk Try.prog 76 [.d (qY a0)] 0 (lk []) (fun rr oo => rr = .d (qU r) ∧ oo = lk []) := by
 refine fnO Try.func76 rfl rfl (cwP ?_)
 unfold q31 at h
 refine cwS (cwR (
  .c (uA rfl)<|.nil rfl) ?_)
 refine cwS ?_
 have ⟨x0,hx0,h0⟩ := bdS (x := frOf a0) h
 refine cwS (cwR (
  .c (uM rfl)<|
  .c (qp2 (y := qW x0) rfl rfl .no rfl (qr2 hx0))<|
  .c (qa2 rfl rfl .no rfl qb5 (by decide) rfl rfl)<|
  .c (o_ld rfl rfl .no rfl ta3 rfl rfl)<|
  .c (uB rfl (qd0 _ _) rfl)<|.nil rfl) ?_)
 rcases cdS h0 with ⟨hc0,h1⟩ | ⟨hc0,h2⟩
 ·refine cwT rfl hc0 ?_
  refine cwS (cwR (
   .c (uM rfl)<|
   .c (qp2 (y := qW x0) rfl rfl .no rfl (qr2 hx0))<|
   .c (qa2 rfl rfl .no rfl qf4 (by decide) rfl rfl)<|
   .c (o_ld rfl rfl .no rfl ta34 rfl rfl)<|
   .c (qV (enc := ePr) (xs := x0.2.1) rfl rfl .no rfl sl34)<|
   .c (uB rfl (qG0 _ _) rfl)<|
   .c (uA rfl)<|.nil rfl) ?_)
  have heq := ((sJ h1)).symm
  subst heq
  exact qw ⟨_,(show Leads _ _ (St.of [(2,.d (qU (decide ((x0.2.1.length : Int) < 3))))] []) from .w (wkF ⟨wD rfl,trivial⟩ trivial qG)),.inr rfl,_,res1 rfl rfl,rfl,rfl⟩
 refine cwF rfl hc0 ?_
 refine cwK ?_
 refine cwS (cwR (
  .c (uM rfl)<|
  .c (qp2 (y := qW x0) rfl rfl .no rfl (qr2 hx0))<|
  .c (qa2 rfl rfl .no rfl q42 (by decide) rfl rfl)<|
  .c (o_ld rfl rfl .no rfl ta95 rfl rfl)<|
  .c (qV (enc := qf) (xs := x0.2.2) rfl rfl .no rfl sl95)<|
  .c (uB rfl (qG0 _ _) rfl)<|
  .c (uA rfl)<|.nil rfl) ?_)
 have heq := ((sJ h2)).symm
 subst heq
 exact qw ⟨_,(show Leads _ _ (St.of [(2,.d (qU (decide ((x0.2.2.length : Int) < 9))))] []) from .w (wkF ⟨wD rfl,trivial⟩ trivial qG)),.inr rfl,_,res1 rfl rfl,rfl,rfl⟩
theorem qt3 {a0 : List ttR} {r : (List ttP)} (h : qT0 a0 = some r) : FnOk Try.prog 36 [.d (eSP_ a0)] 0 (lk []) (fun rr oo => rr = .d (qk r) ∧ oo = lk []) := by
 refine fnO Try.func36 rfl rfl (cwP ?_)
 unfold qT0 at h
 refine cwS (cwR (
  .c (uA rfl)<|.nil rfl) ?_)
 refine cwS (cwR (
  .c (uA rfl)<|.nil rfl) ?_)
 have ⟨o0,hj0,h0⟩ := bdS h
 refine cwJ (fun (z : (List ttP)) => St.of [(3,.arr 0 0)] [(0,.arr 0 26 (z.map qf))]) (fun (z : (List ttP)) => o0 = z) ?_ ?_
 ·intro v0 hv0; subst hv0
  refine cwS (cwR (
   .c (uM rfl)<|
   .c (uA rfl)<|.nil rfl) ?_)
  have heq := ((sJ h0)).symm
  subst heq
  exact qw ⟨_,(show Leads _ _ (St.of [(2,.d (qk o0))] []) from .w (wkF ⟨⟨_,rfl,.frz rfl rfl rfl⟩,trivial⟩ trivial qG)),.inr rfl,_,res1 rfl rfl,rfl,rfl⟩
 have ⟨x0,hx0,h1⟩ := bdS (x := q83 a0 7) hj0
 refine cwS (cwR (
  .c (uM rfl)<|
  .c (qe0 rfl rfl .no Try.func57 rfl rfl (tree_shareP_ok hx0) (.cons rfl .d (.cons rfl .d .nil)) ⟨trivial,trivial,trivial⟩ (.inl rfl))<|
  .c (qV (enc := eSP_) (xs := x0) rfl rfl .no rfl sl129)<|
  .c (uM rfl)<|.nil rfl) ?_)
 refine cwB ?_
 refine qM (V := (Int × (List ttP))) (O := (List ttP)) (fun (z : (Int × (List ttP))) => St.of [(3,.arr 0 0),(7,.d (qe2 x0)),(8,.d (eint (x0.length : Int))),(9,.d (eint z.1))] [(0,.arr 0 26 (z.2.map qf))]) h1 (.w (wkF ⟨⟨_,rfl,.nila rfl rfl⟩,wD rfl,wD rfl,wD rfl,trivial⟩ ⟨.nil rfl,trivial⟩ qG)) ?_
 intro v1 x1 hb0 hx1
 refine cwS (cwR (
  .c (uB rfl (qG0 _ _) rfl)<|.nil rfl) ?_)
 refine cwS ?_
 rcases cdS hb0 with ⟨hc0,h2⟩ | ⟨hc0,h3⟩
 ·refine cwT rfl hc0 ?_
  refine cwK ?_
  refine cwS ?_
  refine cwB ?_
  have ⟨x2,hx2,h4⟩ := bdS h2
  have hx2g := qD hx2
  refine cwS (cwR (
   .c (qJ1 (enc := eSP_) (xs := x0) rfl rfl .no rfl rfl sl129 sz34 hx2g.1 hx2g.2)<|
   .c (o_ld rfl rfl .no rfl ta34 rfl rfl)<|
   .c (uA rfl)<|.nil rfl) ?_)
  have ⟨x3,hx3,h5⟩ := bdS (x := qc0 (some (frMk (0,x2,[])))) h4
  have ⟨x4,hx4,h6⟩ := bdS h5
  have hx4g := qj0 hx4
  refine cwR (
   .c (uM rfl)<|
   .c (uM rfl)<|
   .c (qz5 (ds := [eint 0,eSP_ x2,qk ([])]) rfl rfl .no zs132 rfl pl132 (.cons rfl rfl rfl rfl rfl rfl rfl .nil))<|
   .c (o_boxFr rfl rfl .no rfl (eFo_mk (0,x2,[])))<|
   .c (qe0 rfl rfl .no Try.func58 rfl rfl (q73 hx3) (.cons rfl .d .nil) ⟨trivial,trivial⟩ (.inl rfl))<|
   .c (qu5 (rows := ([x3] : List ttP).map qf) rfl rfl .no (.cons rfl .nil) rfl sl95 qj2 qj5 rfl (qL1 qq) (by decide))<|
   .c (qo2 (enc := qf) (xs := v1.2) (ys := [x3]) rfl rfl .no rfl rfl rfl qq sl95 sl95 qj2 by101 qj5 rfl (by decide) hx4g)<|
   .c (uA rfl)<|.nil rfl
  ) ?_
  refine cwR (
   .c (uB rfl (qN0 _ _) rfl)<|
   .c (uM rfl)<|.nil rfl
  ) ?_
  exact ⟨((IntKind.wrap .i64 (v1.1 + 1)),(v1.2 ++ [x3])),(sJ h6),.w (wkF ⟨⟨_,rfl,.arr rfl rfl⟩,wD rfl,wD rfl,wD rfl,trivial⟩ ⟨.arr0 rfl rfl rfl,trivial⟩ qG)⟩
 refine cwF rfl hc0 ?_
 refine q10 ?_
 exact ⟨v1.2,(hx1 _ (sJ h3)).symm,.w (wkF ⟨⟨_,rfl,.arr rfl rfl⟩,trivial⟩ ⟨.arr rfl rfl,trivial⟩ qG)⟩
theorem qK3 {a0 : Int} {a1 : List ttP} {r : (List ttP)} (h : qf1 a0 a1 = some r) : FnOk Try.prog 63 [.d (eint a0),.d (qk a1)] 0 (lk []) (fun rr oo => rr = .d (qk r) ∧ oo = lk []) := by
 refine fnO Try.func63 rfl rfl (cwP ?_)
 unfold qf1 at h
 refine cwS (cwR (
  .c (uA rfl)<|.nil rfl) ?_)
 refine cwS (cwR (
  .c (uA rfl)<|.nil rfl) ?_)
 have ⟨o0,hj0,h0⟩ := bdS h
 refine cwJ (fun (z : (List ttP)) => St.of [(5,.arr 0 0)] [(0,.arr 0 26 (z.map qf))]) (fun (z : (List ttP)) => o0 = z) ?_ ?_
 ·intro v0 hv0; subst hv0
  refine cwS (cwR (
   .c (uM rfl)<|
   .c (uA rfl)<|.nil rfl) ?_)
  have heq := ((sJ h0)).symm
  subst heq
  exact qw ⟨_,(show Leads _ _ (St.of [(4,.d (qk o0))] []) from .w (wkF ⟨⟨_,rfl,.frz rfl rfl rfl⟩,trivial⟩ trivial qG)),.inr rfl,_,res1 rfl rfl,rfl,rfl⟩
 have ⟨x0,hx0,h1⟩ := bdS (x := q33 a1 18) hj0
 refine cwS (cwR (
  .c (uM rfl)<|
  .c (qe0 rfl rfl .no Try.func80 rfl rfl (tree_shareK_ok hx0) (.cons rfl .d (.cons rfl .d .nil)) ⟨trivial,trivial,trivial⟩ (.inl rfl))<|
  .c (qV (enc := qk) (xs := x0) rfl rfl .no rfl sl155)<|
  .c (uM rfl)<|.nil rfl) ?_)
 refine cwB ?_
 refine qM (V := (Int × (List ttP))) (O := (List ttP)) (fun (z : (Int × (List ttP))) => St.of [(0,.d (eint a0)),(5,.arr 0 0),(9,.d (qB1 x0)),(10,.d (eint (x0.length : Int))),(11,.d (eint z.1))] [(0,.arr 0 26 (z.2.map qf))]) h1 (.w (wkF ⟨wD rfl,⟨_,rfl,.nila rfl rfl⟩,wD rfl,wD rfl,wD rfl,trivial⟩ ⟨.nil rfl,trivial⟩ qG)) ?_
 intro v1 x1 hb0 hx1
 refine cwS (cwR (
  .c (uB rfl (qG0 _ _) rfl)<|.nil rfl) ?_)
 refine cwS ?_
 rcases cdS hb0 with ⟨hc0,h2⟩ | ⟨hc0,h3⟩
 ·refine cwT rfl hc0 ?_
  refine cwK ?_
  refine cwS ?_
  refine cwB ?_
  have ⟨x2,hx2,h4⟩ := bdS h2
  have hx2g := qD hx2
  refine cwS (cwR (
   .c (qJ1 (enc := qk) (xs := x0) rfl rfl .no rfl rfl sl155 sz95 hx2g.1 hx2g.2)<|
   .c (o_ld rfl rfl .no rfl ta95 rfl rfl)<|
   .c (uA rfl)<|.nil rfl) ?_)
  have ⟨x3,hx3,h5⟩ := bdS (x := qc0 (some (frMk (a0,[],x2)))) h4
  have ⟨x4,hx4,h6⟩ := bdS h5
  have hx4g := qj0 hx4
  refine cwR (
   .c (uM rfl)<|
   .c (uM rfl)<|
   .c (uM rfl)<|
   .c (qz5 (ds := [eint a0,eSP_ ([]),qk x2]) rfl rfl .no zs132 rfl pl132 (.cons rfl rfl rfl rfl rfl rfl rfl (.cons rfl rfl rfl rfl rfl rfl rfl .nil)))<|
   .c (o_boxFr rfl rfl .no rfl (eFo_mk (a0,[],x2)))<|
   .c (qe0 rfl rfl .no Try.func58 rfl rfl (q73 hx3) (.cons rfl .d .nil) ⟨trivial,trivial⟩ (.inl rfl))<|
   .c (qu5 (rows := ([x3] : List ttP).map qf) rfl rfl .no (.cons rfl .nil) rfl sl95 qj2 qj5 rfl (qL1 qq) (by decide))<|
   .c (qo2 (enc := qf) (xs := v1.2) (ys := [x3]) rfl rfl .no rfl rfl rfl qq sl95 sl95 qj2 by101 qj5 rfl (by decide) hx4g)<|
   .c (uA rfl)<|.nil rfl
  ) ?_
  refine cwR (
   .c (uB rfl (qN0 _ _) rfl)<|
   .c (uM rfl)<|.nil rfl
  ) ?_
  exact ⟨((IntKind.wrap .i64 (v1.1 + 1)),(v1.2 ++ [x3])),(sJ h6),.w (wkF ⟨wD rfl,⟨_,rfl,.arr rfl rfl⟩,wD rfl,wD rfl,wD rfl,trivial⟩ ⟨.arr0 rfl rfl rfl,trivial⟩ qG)⟩
 refine cwF rfl hc0 ?_
 refine q10 ?_
 exact ⟨v1.2,(hx1 _ (sJ h3)).symm,.w (wkF ⟨⟨_,rfl,.arr rfl rfl⟩,trivial⟩ ⟨.arr rfl rfl,trivial⟩ qG)⟩
theorem tree_top_okc {a0 : Int} {a1 : List ttP} {r : (ttP × Bool × Int)} (h : qN3 a0 a1 = some r) : FnOk Try.prog 39 [.d (eint a0),.d (qk a1)] 0 (lk []) (fun rr oo => rr = .tup [.d (qf r.1),.d (qU r.2.1),.d (eErr r.2.2)] ∧ oo = lk [(0,.box (.d (qf r.1)))]) := by
 refine fnO Try.func39 rfl rfl (cwP ?_)
 unfold qN3 at h
 refine cwS (cwR (
  .c (q50 0 rfl rfl .no qj5 rfl)<|
  .c (uA rfl)<|
  .c (uA rfl)<|.nil rfl) ?_)
 have ⟨o0,hj0,h0⟩ := bdS h
 refine cwJ (fun (z : (List ttP)) => St.of [(1,.d (qk z)),(4,.ptr 0 0)] [(0,.box (.d (qf ((List.replicate 24 0),0,(none : Option Fr)))))]) (fun (z : (List ttP)) => o0 = (.inl z)) ?_ ?_
 ·intro v0 hv0; subst hv0
  simp only [Sum.elim_inl] at h0
  refine cwS ?_
  refine cwS (cwR (
   .c (uM rfl)<|
   .c (qV (enc := qf) (xs := v0) rfl rfl .no rfl sl95)<|
   .c (uB rfl (qd0 _ _) rfl)<|.nil rfl) ?_)
  rcases cdS h0 with ⟨hc0,h1⟩ | ⟨hc0,h2⟩
  ·refine cwT rfl hc0 ?_
   refine cwS (cwR (
    .c (qz5 (ds := [eK (List.replicate 24 0),eint 0,qY (none : Option Fr)]) rfl rfl .no zs101 rfl pl101 .nil)<|
    .c (o_st [] rfl .no rfl rfl rfl rfl rfl qj2 (qq ((List.replicate 24 0),0,(none : Option Fr))) (qq ((List.replicate 24 0),0,(none : Option Fr))))<|
    .c (uA rfl)<|
    .c (uA rfl)<|.nil rfl) ?_)
   have heq := ((sJ h1)).symm
   subst heq
   exact qw ⟨_,(show Leads _ _ (St.of [(4,.ptr 0 0),(5,.d (qU false)),(6,.d (eErr 0))] [(0,.box (.d (qf ((List.replicate 24 0),0,(none : Option Fr)))))]) from .w (wkF ⟨⟨_,rfl,.ptr rfl rfl⟩,wD rfl,wD rfl,trivial⟩ ⟨.box rfl (.d rfl),trivial⟩ qG)),.inr rfl,_,resCTT rfl rfl rfl qA5 rfl (qq _) rfl rfl,rfl,rfl⟩
  refine cwF rfl hc0 ?_
  refine cwK ?_
  have ⟨x0,hx0,h3⟩ := bdS h2
  have hx0g := qD hx0
  refine cwS (cwR (
   .c (uM rfl)<|
   .c (qJ1 (enc := qf) (xs := v0) rfl rfl .no rfl rfl sl95 qj2 hx0g.1 hx0g.2)<|
   .c (o_ld rfl rfl .no rfl qA5 rfl (qq x0))<|
   .c (q50 1 rfl rfl .no qj5 rfl)<|
   .c (o_st [] rfl .no rfl rfl rfl rfl rfl qj2 (qq x0) (qq ((List.replicate 24 0),0,(none : Option Fr))))<|.nil rfl) ?_)
  have ⟨o1,hj1,h4⟩ := bdS h3
  refine cwJ (fun (z : ttP) => St.of [(4,.ptr 0 0),(7,.ptr 1 0)] [(0,.box (.d (qf ((List.replicate 24 0),0,(none : Option Fr))))),(1,.box (.d (qf z)))]) (fun (z : ttP) => o1 = z) ?_ ?_
  ·intro v1 hv1; subst hv1
   refine cwS (cwR (
    .c (qA [] rfl rfl .no rfl rfl rfl qA5 rfl (qq o1))<|
    .c (o_st [] rfl .no rfl rfl rfl rfl rfl qj2 (qq o1) (qq ((List.replicate 24 0),0,(none : Option Fr))))<|
    .c (uA rfl)<|
    .c (uA rfl)<|.nil rfl) ?_)
   have heq := ((sJ h4)).symm
   subst heq
   exact qw ⟨_,(show Leads _ _ (St.of [(4,.ptr 0 0),(5,.d (qU true)),(6,.d (eErr 0))] [(0,.box (.d (qf o1)))]) from .w (wkF ⟨⟨_,rfl,.ptr rfl rfl⟩,wD rfl,wD rfl,trivial⟩ ⟨.box rfl (.d rfl),trivial⟩ qG)),.inr rfl,_,resCTT rfl rfl rfl qA5 rfl (qq _) rfl rfl,rfl,rfl⟩
  refine cwB ?_
  refine qM (V := ttP) (O := ttP) (fun (z : ttP) => St.of [(4,.ptr 0 0),(7,.ptr 1 0)] [(0,.box (.d (qf ((List.replicate 24 0),0,(none : Option Fr))))),(1,.box (.d (qf z)))]) hj1 (.w (wkF ⟨⟨_,rfl,.ptr rfl rfl⟩,⟨_,rfl,.ptr rfl rfl⟩,trivial⟩ ⟨.box rfl (.d rfl),.box rfl (.d rfl),trivial⟩ qG)) ?_
  intro v2 x1 hb0 hx1
  refine cwS ?_
  have ⟨o2,hj2,h5⟩ := bdS hb0
  refine cwJ (fun (z : Bool) => St.of [(4,.ptr 0 0),(7,.ptr 1 0),(37,.d (qU z))] [(0,.box (.d (qf ((List.replicate 24 0),0,(none : Option Fr))))),(1,.box (.d (qf v2)))]) (fun (z : Bool) => o2 = z) ?_ ?_
  ·intro v3 hv2; subst hv2
   rcases cdS h5 with ⟨hc1,h6⟩ | ⟨hc1,h7⟩
   ·refine cwT rfl hc1 ?_
    refine cwK ?_
    refine cwB ?_
    have ⟨x2,hx2,h8⟩ := bdS (x := frOf v2.2.2) h6
    have ⟨x3,hx3,h9⟩ := bdS h8
    have hx3g := qD hx3
    refine cwR (
     .c (uF rfl qQ1 rfl)<|
     .c (qA [2] rfl rfl .no rfl rfl rfl ta99 (qX v2.2.2) (qE v2.2.2))<|
     .c (qp2 (y := qW x2) rfl rfl .no rfl (qr2 hx2))<|
     .c (qa2 rfl rfl .no rfl q42 (by decide) rfl rfl)<|
     .c (o_ld rfl rfl .no rfl ta95 rfl rfl)<|
     .c (qJ1 (enc := qf) (xs := x2.2.2) rfl rfl .no rfl rfl sl95 qj2 hx3g.1 hx3g.2)<|
     .c (o_ld rfl rfl .no rfl qA5 rfl (qq x3))<|
     .c (o_st [] rfl .no rfl rfl rfl rfl rfl qj2 (qq x3) (qq v2))<|.nil rfl
    ) ?_
    exact ⟨x3,(sJ h9),.w (wkF ⟨⟨_,rfl,.ptr rfl rfl⟩,⟨_,rfl,.ptr rfl rfl⟩,trivial⟩ ⟨.box rfl (.d rfl),.box rfl (.d rfl),trivial⟩ qG)⟩
   refine cwF rfl hc1 ?_
   refine q10 ?_
   exact ⟨v2,(hx1 _ (sJ h7)).symm,.w (wkF ⟨⟨_,rfl,.ptr rfl rfl⟩,⟨_,rfl,.ptr rfl rfl⟩,trivial⟩ ⟨.box rfl (.d rfl),.box rfl (.d rfl),trivial⟩ qG)⟩
  rcases cdS hj2 with ⟨hc2,h10⟩ | ⟨hc2,h11⟩
  ·skip
   have ⟨x4,hx4,h12⟩ := bdS (x := frOf v2.2.2) h10
   refine cwR (
    .c (uF rfl qQ1 rfl)<|
    .c (qA [2] rfl rfl .no rfl rfl rfl ta99 (qX v2.2.2) (qE v2.2.2))<|
    .c (o_pO true rfl rfl .no rfl rfl up99)<|
    .c (uM rfl)<|
    .c (qn rfl rfl (.yes rfl rfl hc2) rfl qQ1 (by decide))<|
    .c (qA [2] rfl rfl (.yes rfl rfl hc2) rfl rfl rfl ta99 (qX v2.2.2) (qE v2.2.2))<|
    .c (qp2 (y := qW x4) rfl rfl (.yes rfl rfl hc2) rfl (qr2 hx4))<|
    .c (qa2 rfl rfl (.yes rfl rfl hc2) rfl q42 (by decide) rfl rfl)<|
    .c (o_ld rfl rfl (.yes rfl rfl hc2) rfl ta95 rfl rfl)<|
    .c (qV (enc := qf) (xs := x4.2.2) rfl rfl (.yes rfl rfl hc2) rfl sl95)<|
    .c (qj rfl rfl (.yes rfl rfl hc2) rfl rfl (qd0 _ _) rfl)<|
    .c (uPT rfl hc2)<|.nil rfl
   ) ?_
   exact ⟨(decide ((x4.2.2.length : Int) = 1)),(sJ h12),.w (wkF ⟨⟨_,rfl,.ptr rfl rfl⟩,⟨_,rfl,.ptr rfl rfl⟩,wD rfl,trivial⟩ ⟨.box rfl (.d rfl),.box rfl (.d rfl),trivial⟩ qG)⟩
  refine cwR (
   .c (uF rfl qQ1 rfl)<|
   .c (qA [2] rfl rfl .no rfl rfl rfl ta99 (qX v2.2.2) (qE v2.2.2))<|
   .c (o_pO true rfl rfl .no rfl rfl up99)<|
   .c (uM rfl)<|
   .c (uN rfl rfl hc2)<|
   .c (uN rfl rfl hc2)<|
   .c (uN rfl rfl hc2)<|
   .c (uN rfl rfl hc2)<|
   .c (uN rfl rfl hc2)<|
   .c (uN rfl rfl hc2)<|
   .c (uN rfl rfl hc2)<|
   .c (uPF rfl hc2)<|.nil rfl
  ) ?_
  exact ⟨false,(sJ h11),.w (wkF ⟨⟨_,rfl,.ptr rfl rfl⟩,⟨_,rfl,.ptr rfl rfl⟩,wD rfl,trivial⟩ ⟨.box rfl (.d rfl),.box rfl (.d rfl),trivial⟩ qG)⟩
 refine cwB ?_
 refine qM (V := (Int × (List ttP))) (O := ((List ttP) ⊕ (ttP × Bool × Int))) (fun (z : (Int × (List ttP))) => St.of [(0,.d (eint z.1)),(1,.d (qk z.2)),(4,.ptr 0 0)] [(0,.box (.d (qf ((List.replicate 24 0),0,(none : Option Fr)))))]) hj0 (.w (wkF ⟨wD rfl,wD rfl,⟨_,rfl,.ptr rfl rfl⟩,trivial⟩ ⟨.box rfl (.d rfl),trivial⟩ qG)) ?_
 intro v4 x5 hb1 hx5
 refine cwS ?_
 refine cwS (cwR (
  .c (uM rfl)<|
  .c (qV (enc := qf) (xs := v4.2) rfl rfl .no rfl sl95)<|
  .c (uB rfl (qy3 _ _) rfl)<|.nil rfl) ?_)
 rcases cdS hb1 with ⟨hc3,h13⟩ | ⟨hc3,h14⟩
 ·refine cwT rfl hc3 ?_
  refine cwK ?_
  refine cwB ?_
  refine cwS (cwR (
   .c (uM rfl)<|
   .c (uB rfl (qN0 _ _) rfl)<|
   .c (uA rfl)<|.nil rfl) ?_)
  refine cwS ?_
  refine cwS (cwR (
   .c (uM rfl)<|
   .c (uB rfl (b_geq _ _) rfl)<|.nil rfl) ?_)
  rcases cdS h13 with ⟨hc4,h15⟩ | ⟨hc4,h16⟩
  ·refine cwT rfl hc4 ?_
   refine cwS (cwR (
    .c (qz5 (ds := [eK (List.replicate 24 0),eint 0,qY (none : Option Fr)]) rfl rfl .no zs101 rfl pl101 .nil)<|
    .c (o_st [] rfl .no rfl rfl rfl rfl rfl qj2 (qq ((List.replicate 24 0),0,(none : Option Fr))) (qq ((List.replicate 24 0),0,(none : Option Fr))))<|
    .c (uA rfl)<|
    .c (uA rfl)<|.nil rfl) ?_)
   have he0 := ((hx5 _ (sJ h15)).symm).symm
   subst he0
   have heq := ((sJ h0)).symm
   subst heq
   exact qw ⟨_,(show Leads _ _ (St.of [(4,.ptr 0 0),(5,.d (qU false)),(6,.d (eErr 8))] [(0,.box (.d (qf ((List.replicate 24 0),0,(none : Option Fr)))))]) from .w (wkF ⟨⟨_,rfl,.ptr rfl rfl⟩,wD rfl,wD rfl,trivial⟩ ⟨.box rfl (.d rfl),trivial⟩ qG)),.inr rfl,_,resCTT rfl rfl rfl qA5 rfl (qq _) rfl rfl,rfl,rfl⟩
  refine cwF rfl hc4 ?_
  refine cwK ?_
  have ⟨x6,hx6,h17⟩ := bdS (x := qf1 (IntKind.wrap .i64 (v4.1 + 1)) v4.2) h16
  refine cwR (
   .c (uM rfl)<|
   .c (uM rfl)<|
   .c (qe0 rfl rfl .no Try.func63 rfl rfl (qK3 hx6) (.cons rfl .d (.cons rfl .d .nil)) ⟨trivial,trivial,trivial⟩ (.inl rfl))<|
   .c (uA rfl)<|.nil rfl
  ) ?_
  exact ⟨((IntKind.wrap .i64 (v4.1 + 1)),x6),(sJ h17),.w (wkF ⟨wD rfl,wD rfl,⟨_,rfl,.ptr rfl rfl⟩,trivial⟩ ⟨.box rfl (.d rfl),trivial⟩ qG)⟩
 refine cwF rfl hc3 ?_
 refine q10 ?_
 exact ⟨v4.2,(hx5 _ (sJ h14)).symm,.w (wkF ⟨wD rfl,⟨_,rfl,.ptr rfl rfl⟩,trivial⟩ ⟨.box rfl (.d rfl),trivial⟩ qG)⟩
theorem tree_top_ok {a0 : Int} {a1 : List ttP} {r : (ttP × Bool × Int)} (h : qN3 a0 a1 = some r) : FnOk Try.prog 39 [.d (eint a0),.d (qk a1)] 0 (lk []) (fun rr oo => rr = .tup [.d (qf r.1),.d (qU r.2.1),.d (eErr r.2.2)] ∧ oo = lk []) := fnOk_forget3 (tree_top_okc h)
theorem qv4 {a0 : List ttR} {a1 : List ttC} {r : (List ttR)} (h : qk1 a0 a1 = some r) : FnOk Try.prog 37 [.d (eSP_ a0),.d (eSC a1)] 0 (lk []) (fun rr oo => rr = .d (eSP_ r) ∧ oo = lk []) := by
 refine fnO Try.func37 rfl rfl (cwP ?_)
 unfold qk1 at h
 refine cwS (cwR (
  .c (uA rfl)<|.nil rfl) ?_)
 refine cwS (cwR (
  .c (uA rfl)<|.nil rfl) ?_)
 have ⟨o0,hj0,h0⟩ := bdS h
 refine cwJ (fun (z : (List ttR)) => St.of [(5,.arr 0 0)] [(0,.arr 0 25 (z.map ePr))]) (fun (z : (List ttR)) => o0 = z) ?_ ?_
 ·intro v0 hv0; subst hv0
  refine cwS (cwR (
   .c (uM rfl)<|
   .c (uA rfl)<|.nil rfl) ?_)
  have heq := ((sJ h0)).symm
  subst heq
  exact qw ⟨_,(show Leads _ _ (St.of [(4,.d (eSP_ o0))] []) from .w (wkF ⟨⟨_,rfl,.frz rfl rfl rfl⟩,trivial⟩ trivial qG)),.inr rfl,_,res1 rfl rfl,rfl,rfl⟩
 refine cwB ?_
 refine qM (V := ((List ttR) × (List ttC) × (List ttR))) (O := (List ttR)) (fun (z : ((List ttR) × (List ttC) × (List ttR))) => St.of [(0,.d (eSP_ z.1)),(1,.d (eSC z.2.1)),(5,.arr 0 0)] [(0,.arr 0 25 (z.2.2.map ePr))]) hj0 (.w (wkF ⟨wD rfl,wD rfl,⟨_,rfl,.nila rfl rfl⟩,trivial⟩ ⟨.nil rfl,trivial⟩ qG)) ?_
 intro v1 x0 hb0 hx0
 refine cwS ?_
 have ⟨o1,hj1,h1⟩ := bdS hb0
 refine cwJ (fun (z : Bool) => St.of [(0,.d (eSP_ v1.1)),(1,.d (eSC v1.2.1)),(5,.arr 0 0),(13,.d (qU z))] [(0,.arr 0 25 (v1.2.2.map ePr))]) (fun (z : Bool) => o1 = z) ?_ ?_
 ·intro v2 hv1; subst hv1
  rcases cdS h1 with ⟨hc0,h2⟩ | ⟨hc0,h3⟩
  ·refine cwT rfl hc0 ?_
   refine cwK ?_
   refine cwB ?_
   refine cwS ?_
   have ⟨o2,hj2,h4⟩ := bdS h2
   refine cwJ (fun (z : Bool) => St.of [(0,.d (eSP_ v1.1)),(1,.d (eSC v1.2.1)),(5,.arr 0 0),(33,.d (qU z))] [(0,.arr 0 25 (v1.2.2.map ePr))]) (fun (z : Bool) => o2 = z) ?_ ?_
   ·intro v3 hv2; subst hv2
    rcases cdS h4 with ⟨hc1,h5⟩ | ⟨hc1,h6⟩
    ·refine cwT rfl hc1 ?_
     have ⟨x1,hx1,h7⟩ := bdS h5
     have hx1g := qD hx1
     have ⟨x2,hx2,h8⟩ := bdS h7
     have hx2g := qj0 hx2
     have ⟨x3,hx3,h9⟩ := bdS h8
     have hx3g := qt1 hx3
     refine cwS (cwRA mixed (by kernel_rfl) (
      .c (uM rfl)<|
      .c (uM rfl)<|
      .c (qJ1 (enc := ePr) (xs := v1.1) rfl rfl .no rfl rfl sl34 sz52 hx1g.1 hx1g.2)<|
      .c (o_ld rfl rfl .no rfl ta52 rfl rfl)<|
      .c (qu5 (rows := ([x1] : List ttR).map ePr) rfl rfl .no (.cons rfl .nil) rfl sl34 sz52 ze52 rfl (qL1 q72) (by decide))<|
      .c (qo2 (enc := ePr) (xs := v1.2.2) (ys := [x1]) rfl rfl .no rfl rfl rfl q72 sl34 sl34 sz52 by52 ze52 rfl (by decide) hx2g)<|
      .c (uM rfl)<|
      .c (o_slM (enc := ePr) (xs := v1.1) rfl rfl .no rfl sl34 sz52 (.val rfl hx3g.1) .no hx3g.2.2.1 hx3g.2.2.2)<|
      .c (uA rfl)<|
      .c (uA rfl)<|.nil rfl) (by kernel_rfl) ?_)
     refine q10 ?_
     exact ⟨((qY0 v1.1 1 (v1.1.length : Int)),v1.2.1,(v1.2.2 ++ [x1])),(sJ h9),.w (wkF ⟨wD rfl,wD rfl,⟨_,rfl,.arr rfl rfl⟩,trivial⟩ ⟨.arr0 rfl rfl rfl,trivial⟩ qG)⟩
    refine cwF rfl hc1 ?_
    refine cwK ?_
    have ⟨o3,hj3,h10⟩ := bdS h6
    refine cwJ (fun (z : (List ttR)) => St.of [(0,.d (eSP_ z)),(1,.d (eSC v1.2.1)),(5,.arr 0 0)] [(0,.arr 0 25 (v1.2.2.map ePr))]) (fun (z : (List ttR)) => o3 = z) ?_ ?_
    ·intro v4 hv3; subst hv3
     have ⟨o4,hj4,h11⟩ := bdS h10
     refine cwJ (fun (z : (List ttR)) => St.of [(0,.d (eSP_ o3)),(1,.d (eSC v1.2.1)),(5,.arr 0 0)] [(0,.arr 0 25 (z.map ePr))]) (fun (z : (List ttR)) => o4 = z) ?_ ?_
     ·intro v5 hv4; subst hv4
      have ⟨x4,hx4,h12⟩ := bdS h11
      have hx4g := qt1 hx4
      refine cwR (
       .c (uM rfl)<|
       .c (o_slM (enc := eCg) (xs := v1.2.1) rfl rfl .no rfl sl22 sz33 (.val rfl hx4g.1) .no hx4g.2.2.1 hx4g.2.2.2)<|
       .c (uA rfl)<|.nil rfl
      ) ?_
      exact ⟨(o3,(qY0 v1.2.1 1 (v1.2.1.length : Int)),o4),(sJ h12),.w (wkF ⟨wD rfl,wD rfl,⟨_,rfl,.arr rfl rfl⟩,trivial⟩ ⟨.arr rfl rfl,trivial⟩ qG)⟩
     have ⟨x5,hx5,h13⟩ := bdS hj4
     have hx5g := qD hx5
     refine cwS (cwR (
      .c (uM rfl)<|
      .c (qJ1 (enc := eCg) (xs := v1.2.1) rfl rfl .no rfl rfl sl22 sz33 hx5g.1 hx5g.2)<|
      .c (qa2 rfl rfl .no rfl fld33_2 (by decide) rfl rfl)<|
      .c (o_ld rfl rfl .no rfl ta4 rfl rfl)<|
      .c (uT rfl)<|.nil rfl) ?_)
     rcases cdS h13 with ⟨hc2,h14⟩ | ⟨hc2,h15⟩
     ·refine cwT rfl hc2 ?_
      have ⟨x6,hx6,h16⟩ := bdS h14
      have hx6g := qj0 hx6
      refine cwRA mixed (by kernel_rfl) (
       .c (uM rfl)<|
       .c (uM rfl)<|
       .c (qJ1 (enc := eCg) (xs := v1.2.1) rfl rfl .no rfl rfl sl22 sz33 hx5g.1 hx5g.2)<|
       .c (qa2 rfl rfl .no rfl qf5 (by decide) rfl rfl)<|
       .c (o_ld rfl rfl .no rfl ta31 rfl rfl)<|
       .c (uM rfl)<|
       .c (qJ1 (enc := eCg) (xs := v1.2.1) rfl rfl .no rfl rfl sl22 sz33 hx5g.1 hx5g.2)<|
       .c (qa2 rfl rfl .no rfl fld33_1 (by decide) rfl rfl)<|
       .c (o_ld rfl rfl .no rfl ta9 rfl rfl)<|
       .c (qz5 (ds := [eK x5.1,eStr x5.2.1]) rfl rfl .no zs52 rfl pl52 (.cons rfl rfl rfl rfl rfl rfl rfl (.cons rfl rfl rfl rfl rfl rfl rfl .nil)))<|
       .c (qu5 (rows := ([(x5.1,x5.2.1)] : List ttR).map ePr) rfl rfl .no (.cons rfl .nil) rfl sl34 sz52 ze52 rfl (qL1 q72) (by decide))<|
       .c (qo2 (enc := ePr) (xs := v1.2.2) (ys := [(x5.1,x5.2.1)]) rfl rfl .no rfl rfl rfl q72 sl34 sl34 sz52 by52 ze52 rfl (by decide) hx6g)<|
       .c (uA rfl)<|.nil rfl) (by kernel_rfl) ?_
      exact ⟨(v1.2.2 ++ [(x5.1,x5.2.1)]),(sJ h16),.w (wkF ⟨wD rfl,wD rfl,⟨_,rfl,.arr rfl rfl⟩,trivial⟩ ⟨.arr0 rfl rfl rfl,trivial⟩ qG)⟩
     refine cwF rfl hc2 ?_
     refine cwK ?_
     exact ⟨v1.2.2,(sJ h15),.w (wkF ⟨wD rfl,wD rfl,⟨_,rfl,.arr rfl rfl⟩,trivial⟩ ⟨.arr rfl rfl,trivial⟩ qG)⟩
    have ⟨o5,hj5,h17⟩ := bdS hj3
    refine cwJ (fun (z : Bool) => St.of [(0,.d (eSP_ v1.1)),(1,.d (eSC v1.2.1)),(5,.arr 0 0),(55,.d (qU z))] [(0,.arr 0 25 (v1.2.2.map ePr))]) (fun (z : Bool) => o5 = z) ?_ ?_
    ·intro v6 hv5; subst hv5
     rcases cdS h17 with ⟨hc3,h18⟩ | ⟨hc3,h19⟩
     ·refine cwT rfl hc3 ?_
      have ⟨x7,hx7,h20⟩ := bdS h18
      have hx7g := qt1 hx7
      refine cwR (
       .c (uM rfl)<|
       .c (o_slM (enc := ePr) (xs := v1.1) rfl rfl .no rfl sl34 sz52 (.val rfl hx7g.1) .no hx7g.2.2.1 hx7g.2.2.2)<|
       .c (uA rfl)<|.nil rfl
      ) ?_
      exact ⟨(qY0 v1.1 1 (v1.1.length : Int)),(sJ h20),.w (wkF ⟨wD rfl,wD rfl,⟨_,rfl,.arr rfl rfl⟩,trivial⟩ ⟨.arr rfl rfl,trivial⟩ qG)⟩
     refine cwF rfl hc3 ?_
     refine cwK ?_
     exact ⟨v1.1,(sJ h19),.w (wkF ⟨wD rfl,wD rfl,⟨_,rfl,.arr rfl rfl⟩,trivial⟩ ⟨.arr rfl rfl,trivial⟩ qG)⟩
    rcases cdS hj5 with ⟨hc4,h21⟩ | ⟨hc4,h22⟩
    ·skip
     have ⟨x8,hx8,h23⟩ := bdS h21
     have hx8g := qD hx8
     have ⟨x9,hx9,h24⟩ := bdS h23
     have hx9g := qD hx9
     refine cwRA mixed (by kernel_rfl) (
      .c (uM rfl)<|
      .c (qV (enc := ePr) (xs := v1.1) rfl rfl .no rfl sl34)<|
      .c (uB rfl (qy3 _ _) rfl)<|
      .c (uM rfl)<|
      .c (o_mv rfl rfl (.yes rfl rfl hc4) rfl)<|
      .c (qJ1 (enc := ePr) (xs := v1.1) rfl rfl (.yes rfl rfl hc4) rfl rfl sl34 sz52 hx8g.1 hx8g.2)<|
      .c (qa2 rfl rfl (.yes rfl rfl hc4) rfl qD4 (by decide) rfl rfl)<|
      .c (o_ld rfl rfl (.yes rfl rfl hc4) rfl ta31 rfl rfl)<|
      .c (o_mv rfl rfl (.yes rfl rfl hc4) rfl)<|
      .c (qJ1 (enc := eCg) (xs := v1.2.1) rfl rfl (.yes rfl rfl hc4) rfl rfl sl22 sz33 hx9g.1 hx9g.2)<|
      .c (qa2 rfl rfl (.yes rfl rfl hc4) rfl qf5 (by decide) rfl rfl)<|
      .c (o_ld rfl rfl (.yes rfl rfl hc4) rfl ta31 rfl rfl)<|
      .c (o_eq rfl rfl (.yes rfl rfl hc4) rfl rfl rfl rfl eg31 (.bs ar31 un5 sz5))<|
      .c (uPT rfl hc4)<|.nil rfl) (by kernel_rfl) ?_
     exact ⟨(decide (x8.1 = x9.1)),(sJ h24),.w (wkF ⟨wD rfl,wD rfl,⟨_,rfl,.arr rfl rfl⟩,wD rfl,trivial⟩ ⟨.arr rfl rfl,trivial⟩ qG)⟩
    refine cwRA mixed (by kernel_rfl) (
     .c (uM rfl)<|
     .c (qV (enc := ePr) (xs := v1.1) rfl rfl .no rfl sl34)<|
     .c (uB rfl (qy3 _ _) rfl)<|
     .c (uM rfl)<|
     .c (uN rfl rfl hc4)<|
     .c (uN rfl rfl hc4)<|
     .c (uN rfl rfl hc4)<|
     .c (uN rfl rfl hc4)<|
     .c (uN rfl rfl hc4)<|
     .c (uN rfl rfl hc4)<|
     .c (uN rfl rfl hc4)<|
     .c (uN rfl rfl hc4)<|
     .c (uN rfl rfl hc4)<|
     .c (uPF rfl hc4)<|.nil rfl) (by kernel_rfl) ?_
    exact ⟨false,(sJ h22),.w (wkF ⟨wD rfl,wD rfl,⟨_,rfl,.arr rfl rfl⟩,wD rfl,trivial⟩ ⟨.arr rfl rfl,trivial⟩ qG)⟩
   rcases cdS hj2 with ⟨hc5,h25⟩ | ⟨hc5,h26⟩
   ·skip
    refine cwRA mixed (by kernel_rfl) (
     .c (uM rfl)<|
     .c (qV (enc := eCg) (xs := v1.2.1) rfl rfl .no rfl sl22)<|
     .c (uB rfl (qd0 _ _) rfl)<|
     .c (uM rfl)<|
     .c (uN rfl rfl hc5)<|
     .c (uN rfl rfl hc5)<|
     .c (uN rfl rfl hc5)<|
     .c (uN rfl rfl hc5)<|
     .c (qk5 rfl rfl rfl rfl)<|
     .c (qk5 rfl rfl rfl rfl)<|
     .c (qk5 rfl rfl rfl rfl)<|
     .c (qk5 rfl rfl rfl rfl)<|
     .c (qk5 rfl rfl rfl rfl)<|
     .c (qk5 rfl rfl rfl rfl)<|
     .c (qk5 rfl rfl rfl rfl)<|
     .c (qk5 rfl rfl rfl rfl)<|
     .c (qk5 rfl rfl rfl rfl)<|
     .c (qk5 rfl rfl rfl rfl)<|
     .c (uN rfl rfl hc5)<|
     .c (uPT rfl hc5)<|.nil rfl) (by kernel_rfl) ?_
    exact ⟨true,(sJ h25),.w (wkF ⟨wD rfl,wD rfl,⟨_,rfl,.arr rfl rfl⟩,wD rfl,trivial⟩ ⟨.arr rfl rfl,trivial⟩ qG)⟩
   rcases cdS h26 with ⟨hc6,h27⟩ | ⟨hc6,h28⟩
   ·skip
    have ⟨x10,hx10,h29⟩ := bdS h27
    have hx10g := qD hx10
    have ⟨x11,hx11,h30⟩ := bdS h29
    have hx11g := qD hx11
    have ⟨x12,hx12,h31⟩ := bdS (x := qu x10.1 x11.1) h30
    refine cwRA mixed (by kernel_rfl) (
     .c (uM rfl)<|
     .c (qV (enc := eCg) (xs := v1.2.1) rfl rfl .no rfl sl22)<|
     .c (uB rfl (qd0 _ _) rfl)<|
     .c (uM rfl)<|
     .c (o_mv rfl rfl (.yes rfl rfl hc5) rfl)<|
     .c (qV (enc := ePr) (xs := v1.1) rfl rfl (.yes rfl rfl hc5) rfl sl34)<|
     .c (qj rfl rfl (.yes rfl rfl hc5) rfl rfl (qy3 _ _) rfl)<|
     .c (o_mv rfl rfl (.yes rfl rfl hc5) rfl)<|
     .c (o_mv rfl rfl (.yes rfl rfl hc6) rfl)<|
     .c (qJ1 (enc := ePr) (xs := v1.1) rfl rfl (.yes rfl rfl hc6) rfl rfl sl34 sz52 hx10g.1 hx10g.2)<|
     .c (qa2 rfl rfl (.yes rfl rfl hc6) rfl qD4 (by decide) rfl rfl)<|
     .c (o_ld rfl rfl (.yes rfl rfl hc6) rfl ta31 rfl rfl)<|
     .c (o_mv rfl rfl (.yes rfl rfl hc6) rfl)<|
     .c (qJ1 (enc := eCg) (xs := v1.2.1) rfl rfl (.yes rfl rfl hc6) rfl rfl sl22 sz33 hx11g.1 hx11g.2)<|
     .c (qa2 rfl rfl (.yes rfl rfl hc6) rfl qf5 (by decide) rfl rfl)<|
     .c (o_ld rfl rfl (.yes rfl rfl hc6) rfl ta31 rfl rfl)<|
     .c (qe0 rfl rfl (.yes rfl rfl hc6) Try.func43 rfl rfl (q90 hx12) (.cons rfl .d (.cons rfl .d .nil)) ⟨trivial,trivial,trivial⟩ (.inl rfl))<|
     .c (qj rfl rfl (.yes rfl rfl hc6) rfl rfl (qG0 _ _) rfl)<|
     .c (qi rfl rfl (.yes rfl rfl hc5) rfl hc6 rfl)<|
     .c (uPF rfl hc5)<|.nil rfl) (by kernel_rfl) ?_
    exact ⟨(decide (x12 < 0)),(sJ h31),.w (wkF ⟨wD rfl,wD rfl,⟨_,rfl,.arr rfl rfl⟩,wD rfl,trivial⟩ ⟨.arr rfl rfl,trivial⟩ qG)⟩
   refine cwRA mixed (by kernel_rfl) (
    .c (uM rfl)<|
    .c (qV (enc := eCg) (xs := v1.2.1) rfl rfl .no rfl sl22)<|
    .c (uB rfl (qd0 _ _) rfl)<|
    .c (uM rfl)<|
    .c (o_mv rfl rfl (.yes rfl rfl hc5) rfl)<|
    .c (qV (enc := ePr) (xs := v1.1) rfl rfl (.yes rfl rfl hc5) rfl sl34)<|
    .c (qj rfl rfl (.yes rfl rfl hc5) rfl rfl (qy3 _ _) rfl)<|
    .c (o_mv rfl rfl (.yes rfl rfl hc5) rfl)<|
    .c (uN rfl rfl hc6)<|
    .c (uN rfl rfl hc6)<|
    .c (uN rfl rfl hc6)<|
    .c (uN rfl rfl hc6)<|
    .c (uN rfl rfl hc6)<|
    .c (uN rfl rfl hc6)<|
    .c (uN rfl rfl hc6)<|
    .c (uN rfl rfl hc6)<|
    .c (uN rfl rfl hc6)<|
    .c (uN rfl rfl hc6)<|
    .c (qg rfl rfl (.yes rfl rfl hc5) rfl hc6 rfl)<|
    .c (uPF rfl hc5)<|.nil rfl) (by kernel_rfl) ?_
   exact ⟨false,(sJ h28),.w (wkF ⟨wD rfl,wD rfl,⟨_,rfl,.arr rfl rfl⟩,wD rfl,trivial⟩ ⟨.arr rfl rfl,trivial⟩ qG)⟩
  refine cwF rfl hc0 ?_
  refine q10 ?_
  exact ⟨v1.2.2,(hx0 _ (sJ h3)).symm,.w (wkF ⟨⟨_,rfl,.arr rfl rfl⟩,trivial⟩ ⟨.arr rfl rfl,trivial⟩ qG)⟩
 rcases cdS hj1 with ⟨hc7,h32⟩ | ⟨hc7,h33⟩
 ·skip
  refine cwR (
   .c (uM rfl)<|
   .c (qV (enc := ePr) (xs := v1.1) rfl rfl .no rfl sl34)<|
   .c (uB rfl (qy3 _ _) rfl)<|
   .c (uM rfl)<|
   .c (uN rfl rfl hc7)<|
   .c (uN rfl rfl hc7)<|
   .c (uN rfl rfl hc7)<|
   .c (uPT rfl hc7)<|.nil rfl
  ) ?_
  exact ⟨true,(sJ h32),.w (wkF ⟨wD rfl,wD rfl,⟨_,rfl,.arr rfl rfl⟩,wD rfl,trivial⟩ ⟨.arr rfl rfl,trivial⟩ qG)⟩
 refine cwR (
  .c (uM rfl)<|
  .c (qV (enc := ePr) (xs := v1.1) rfl rfl .no rfl sl34)<|
  .c (uB rfl (qy3 _ _) rfl)<|
  .c (uM rfl)<|
  .c (o_mv rfl rfl (.yes rfl rfl hc7) rfl)<|
  .c (qV (enc := eCg) (xs := v1.2.1) rfl rfl (.yes rfl rfl hc7) rfl sl22)<|
  .c (qj rfl rfl (.yes rfl rfl hc7) rfl rfl (qy3 _ _) rfl)<|
  .c (uPF rfl hc7)<|.nil rfl
 ) ?_
 exact ⟨(decide ((v1.2.1.length : Int) > 0)),(sJ h33),.w (wkF ⟨wD rfl,wD rfl,⟨_,rfl,.arr rfl rfl⟩,wD rfl,trivial⟩ ⟨.arr rfl rfl,trivial⟩ qG)⟩
theorem qn2 {a0 : ttC} {a1 : List UInt8} {r : Int} (h : q30 a0 a1 = some r) : FnOk Try.prog 61 [.d (eCg a0),.d (eK a1)] 0 (lk []) (fun rr oo => rr = .d (eint r) ∧ oo = lk []) := by
 refine fnO Try.func61 rfl rfl (cwP ?_)
 unfold q30 at h
 refine cwS (cwR (
  .c (uX 0 rfl)<|
  .c (uX 1 rfl)<|
  .c (uA rfl)<|.nil rfl) ?_)
 have ⟨x0,hx0,h0⟩ := bdS (x := qu a0.1 a1) h
 refine cwS (cwR (
  .c (uF rfl qf5 rfl)<|
  .c (uL [0] rfl ta31 rfl)<|
  .c (uL [] rfl ta31 rfl)<|
  .c (qe0 rfl rfl .no Try.func43 rfl rfl (q90 hx0) (.cons rfl .d (.cons rfl .d .nil)) ⟨trivial,trivial,trivial⟩ (.inl rfl))<|
  .c (uA rfl)<|.nil rfl) ?_)
 have heq := ((sJ h0)).symm
 subst heq
 exact qw ⟨_,(show Leads _ _ (St.of [(4,.d (eint x0))] []) from .w (wkF ⟨wD rfl,trivial⟩ trivial qG)),.inr rfl,_,res1 rfl rfl,rfl,rfl⟩
end
end Go.Val
