/- Walks of the program's functions,printed. -/
import Derived.Test.YtfbnhflapgddbaaWe
import Derived.Test.YtfbnhflapgddbaaLe
set_option linter.all false
set_option maxRecDepth 100000
namespace Go.Val
open Go.RowKit Go.Proofs
section
variable [NoDrw]
noncomputable def qR3 (a0 : List ttR) (a1 : Int) : Option (List (List ttR)) := (ck (decide (a1 ≠ 0))).bind fun _ => (((qN (V := (Int × (List (List ttR)))) (O := (List (List ttR))) (fun v0 => cond (decide (v0.1 < (IntKind.wrap .i64 (Int.tdiv (IntKind.wrap .i64 ((IntKind.wrap .i64 ((a0.length : Int) + a1)) - 1)) a1)))) (
    (ck (decide ((IntKind.wrap .i64 (Int.tdiv (IntKind.wrap .i64 ((IntKind.wrap .i64 ((a0.length : Int) + a1)) - 1)) a1)) ≠ 0))).bind fun _ =>
    (cutB (IntKind.wrap .i64 (Int.tdiv (IntKind.wrap .i64 (v0.1 * (a0.length : Int))) (IntKind.wrap .i64 (Int.tdiv (IntKind.wrap .i64 ((IntKind.wrap .i64 ((a0.length : Int) + a1)) - 1)) a1)))) (IntKind.wrap .i64 (Int.tdiv (IntKind.wrap .i64 ((IntKind.wrap .i64 (v0.1 + 1)) * (a0.length : Int))) (IntKind.wrap .i64 (Int.tdiv (IntKind.wrap .i64 ((IntKind.wrap .i64 ((a0.length : Int) + a1)) - 1)) a1)))) a0.length).bind fun _ =>
    (fits (v0.2.length + ([(qR1 a0 (IntKind.wrap .i64 (Int.tdiv (IntKind.wrap .i64 (v0.1 * (a0.length : Int))) (IntKind.wrap .i64 (Int.tdiv (IntKind.wrap .i64 ((IntKind.wrap .i64 ((a0.length : Int) + a1)) - 1)) a1)))) (IntKind.wrap .i64 (Int.tdiv (IntKind.wrap .i64 ((IntKind.wrap .i64 (v0.1 + 1)) * (a0.length : Int))) (IntKind.wrap .i64 (Int.tdiv (IntKind.wrap .i64 ((IntKind.wrap .i64 ((a0.length : Int) + a1)) - 1)) a1)))))]).length) 24).bind fun _ =>
    some (.inl ((IntKind.wrap .i64 (v0.1 + 1)),(v0.2 ++ [(qR1 a0 (IntKind.wrap .i64 (Int.tdiv (IntKind.wrap .i64 (v0.1 * (a0.length : Int))) (IntKind.wrap .i64 (Int.tdiv (IntKind.wrap .i64 ((IntKind.wrap .i64 ((a0.length : Int) + a1)) - 1)) a1)))) (IntKind.wrap .i64 (Int.tdiv (IntKind.wrap .i64 ((IntKind.wrap .i64 (v0.1 + 1)) * (a0.length : Int))) (IntKind.wrap .i64 (Int.tdiv (IntKind.wrap .i64 ((IntKind.wrap .i64 ((a0.length : Int) + a1)) - 1)) a1)))))])))
   ) (some (.inr v0.2))) (0,[])) : Option (List (List ttR)))).bind fun o0 => some o0
noncomputable def qD2 (a0 : List ttP) (a1 : Int) : Option (List (List ttP)) := (ck (decide (a1 ≠ 0))).bind fun _ => (((qN (V := (Int × (List (List ttP)))) (O := (List (List ttP))) (fun v0 => cond (decide (v0.1 < (IntKind.wrap .i64 (Int.tdiv (IntKind.wrap .i64 ((IntKind.wrap .i64 ((a0.length : Int) + a1)) - 1)) a1)))) (
    (ck (decide ((IntKind.wrap .i64 (Int.tdiv (IntKind.wrap .i64 ((IntKind.wrap .i64 ((a0.length : Int) + a1)) - 1)) a1)) ≠ 0))).bind fun _ =>
    (cutB (IntKind.wrap .i64 (Int.tdiv (IntKind.wrap .i64 (v0.1 * (a0.length : Int))) (IntKind.wrap .i64 (Int.tdiv (IntKind.wrap .i64 ((IntKind.wrap .i64 ((a0.length : Int) + a1)) - 1)) a1)))) (IntKind.wrap .i64 (Int.tdiv (IntKind.wrap .i64 ((IntKind.wrap .i64 (v0.1 + 1)) * (a0.length : Int))) (IntKind.wrap .i64 (Int.tdiv (IntKind.wrap .i64 ((IntKind.wrap .i64 ((a0.length : Int) + a1)) - 1)) a1)))) a0.length).bind fun _ =>
    (fits (v0.2.length + ([(qR1 a0 (IntKind.wrap .i64 (Int.tdiv (IntKind.wrap .i64 (v0.1 * (a0.length : Int))) (IntKind.wrap .i64 (Int.tdiv (IntKind.wrap .i64 ((IntKind.wrap .i64 ((a0.length : Int) + a1)) - 1)) a1)))) (IntKind.wrap .i64 (Int.tdiv (IntKind.wrap .i64 ((IntKind.wrap .i64 (v0.1 + 1)) * (a0.length : Int))) (IntKind.wrap .i64 (Int.tdiv (IntKind.wrap .i64 ((IntKind.wrap .i64 ((a0.length : Int) + a1)) - 1)) a1)))))]).length) 24).bind fun _ =>
    some (.inl ((IntKind.wrap .i64 (v0.1 + 1)),(v0.2 ++ [(qR1 a0 (IntKind.wrap .i64 (Int.tdiv (IntKind.wrap .i64 (v0.1 * (a0.length : Int))) (IntKind.wrap .i64 (Int.tdiv (IntKind.wrap .i64 ((IntKind.wrap .i64 ((a0.length : Int) + a1)) - 1)) a1)))) (IntKind.wrap .i64 (Int.tdiv (IntKind.wrap .i64 ((IntKind.wrap .i64 (v0.1 + 1)) * (a0.length : Int))) (IntKind.wrap .i64 (Int.tdiv (IntKind.wrap .i64 ((IntKind.wrap .i64 ((a0.length : Int) + a1)) - 1)) a1)))))])))
   ) (some (.inr v0.2))) (0,[])) : Option (List (List ttP)))).bind fun o0 => some o0
noncomputable def qo0 (a0 : Option Fr) : Option ttP := ((((frOf a0).bind fun x0 => cond (decide ((x0.2.1.length : Int) > 0)) ((gx x0.2.1 0).bind fun x1 => some (x1.1,0,a0)) (cond (decide ((x0.2.2.length : Int) > 0)) ((gx x0.2.2 0).bind fun x2 => some (x2.1,0,a0)) (some ((List.replicate 24 0),0,a0)))) : Option ttP)).bind fun o0 => some o0
noncomputable def qV0 (a0 : Option Fr) : Option Bool := (frOf a0).bind fun x0 => cond (decide (x0.1 = 0)) (some (decide ((x0.2.1.length : Int) < 3))) (some (decide ((x0.2.2.length : Int) < 9)))
noncomputable def qy0 (a0 : List ttR) : Option (List ttP) := ((((qR3 a0 7).bind fun x0 => qN (V := (Int × (List ttP))) (O := (List ttP)) (fun v0 => cond (decide (v0.1 < (x0.length : Int))) ((gx x0 v0.1).bind fun x1 => (qo0 (some (frMk (0,x1,[])))).bind fun x2 => (fits (v0.2.length + ([x2]).length) 40).bind fun _ =>
    some (.inl ((IntKind.wrap .i64 (v0.1 + 1)),(v0.2 ++ [x2])))) (some (.inr v0.2))) (0,[])) : Option (List ttP))).bind fun o0 => some o0
noncomputable def qM0 (a0 : Int) (a1 : List ttP) : Option (List ttP) := ((((qD2 a1 18).bind fun x0 => qN (V := (Int × (List ttP))) (O := (List ttP)) (fun v0 => cond (decide (v0.1 < (x0.length : Int))) ((gx x0 v0.1).bind fun x1 => (qo0 (some (frMk (a0,[],x1)))).bind fun x2 => (fits (v0.2.length + ([x2]).length) 40).bind fun _ =>
    some (.inl ((IntKind.wrap .i64 (v0.1 + 1)),(v0.2 ++ [x2])))) (some (.inr v0.2))) (0,[])) : Option (List ttP))).bind fun o0 => some o0
noncomputable def qW2 (a0 : Int) (a1 : List ttP) : Option (ttP × Bool × Int) := (((qN (V := (Int × (List ttP))) (O := ((List ttP) ⊕ (ttP × Bool × Int))) (fun v0 => cond (decide ((v0.2.length : Int) > 1)) (cond (decide ((IntKind.wrap .i64 (v0.1 + 1)) ≥ 12)) (some (.inr (.inr (((List.replicate 24 0),0,(none : Option Fr)),false,8)))) (
     (qM0 (IntKind.wrap .i64 (v0.1 + 1)) v0.2).bind fun x0 => some (.inl ((IntKind.wrap .i64 (v0.1 + 1)),x0)))) (some (.inr (.inl v0.2)))) (a0,a1)) : Option ((List ttP) ⊕ (ttP × Bool × Int)))).bind fun o0 => Sum.elim (fun (v1 : (List ttP)) => cond (decide ((v1.length : Int) = 0)) (some (((List.replicate 24 0),0,(none : Option Fr)),false,0)) ((gx v1 0).bind fun x1 => (((
    qN (V := ttP) (O := ttP) (fun v2 => (((cond (Option.isSome v2.2.2) ((frOf v2.2.2).bind fun x2 => some (decide ((x2.2.2.length : Int) = 1))) (some false)) : Option Bool)).bind fun o1 => cond o1 ((frOf v2.2.2).bind fun x3 => (gx x3.2.2 0).bind fun x4 => some (.inl x4)) (some (.inr v2))) x1) : Option ttP)).bind fun o2 => some (o2,true,0))) (fun w0 => some w0) o0
noncomputable def q11 (a0 : List ttR) (a1 : List ttC) : Option (List ttR) := (((qN (V := ((List ttR) × (List ttC) × (List ttR))) (O := (List ttR)) (fun v0 => (((cond (decide ((v0.1.length : Int) > 0)) (some true) (some (decide ((v0.2.1.length : Int) > 0)))) : Option Bool)).bind fun o0 => cond o0 ((((cond (decide ((v0.2.1.length : Int) = 0)) (some true) (
      cond (decide ((v0.1.length : Int) > 0)) ((gx v0.1 0).bind fun x0 => (gx v0.2.1 0).bind fun x1 => (qD x0.1 x1.1).bind fun x2 => some (decide (x2 < 0))) (some false))) : Option Bool)).bind fun o1 => cond o1 ((gx v0.1 0).bind fun x3 => (fits (v0.2.2.length + ([x3]).length) 40).bind fun _ => (cutB 1 (v0.1.length : Int) v0.1.length).bind fun _ =>
     some (.inl ((qR1 v0.1 1 (v0.1.length : Int)),v0.2.1,(v0.2.2 ++ [x3])))) (((((((cond (decide ((v0.1.length : Int) > 0)) ((gx v0.1 0).bind fun x4 => (gx v0.2.1 0).bind fun x5 => some (decide (x4.1 = x5.1))) (some false)) : Option Bool)).bind fun o2 => cond o2 ((cutB 1 (v0.1.length : Int) v0.1.length).bind fun _ => some (qR1 v0.1 1 (v0.1.length : Int))) (some v0.1)
     ) : Option (List ttR))).bind fun o3 => ((((gx v0.2.1 0).bind fun x6 => cond (!x6.2.2) ((fits (v0.2.2.length + ([(x6.1,x6.2.1)]).length) 40).bind fun _ => some (v0.2.2 ++ [(x6.1,x6.2.1)])) (some v0.2.2)) : Option (List ttR))).bind fun o4 => (cutB 1 (v0.2.1.length : Int) v0.2.1.length).bind fun _ => some (.inl (o3,(qR1 v0.2.1 1 (v0.2.1.length : Int)),o4)))) (some (.inr v0.2.2))
  ) (a0,a1,[])) : Option (List ttR))).bind fun o5 => some o5
noncomputable def qd0 (a0 : ttC) (a1 : List UInt8) : Option Int := (qD a0.1 a1).bind fun x0 => some x0
theorem tree_shareP_ok {a0} {a1} {r} (h : qR3 a0 a1 = some r) : FO 57 [.d (eSP_ a0),.d (eint a1)] 0 [] (.d (qO2 r)) [] := by
 refine fnO Try.func57 rfl rfl (cwP ?_)
 unfold qR3 at h
 refine cSR (.A rfl<|.nil rfl) ?_
 have ⟨x0,hx0,h0⟩ := bdS h
 have hx0g := qU4 hx0
 refine cSR (.M rfl<|.c (qU (enc := ePr) (xs := a0) rfl rfl .no rfl sl34)<|.M rfl<|.B rfl (qR0 _ _) rfl<|.B rfl (qS3 _ _) rfl<|.M rfl<|.B rfl (b_quo _ _ hx0g) rfl<|.A rfl<|.nil rfl) ?_
 refine cSR (.A rfl<|.nil rfl) ?_
 have ⟨o0,hj0,h1⟩ := bdS h0
 refine cwJ (fun (z : (List (List ttR))) => St.of [(6,.arr 0 0)] [(0,.arr 0 1 (z.map eSP_))]) (fun z => o0 = z) ?_ ?_
 ·intro v0 hv0; subst hv0
  refine cSR (.M rfl<|.A rfl<|.nil rfl) ?_
  obtain rfl := zQ h1
  exact rt1 rfl rfl rfl
 refine cSR (.M rfl<|.M rfl<|.nil rfl) ?_
 refine cwB (qK (fun (z : (Int × (List (List ttR)))) => St.of [(0,.d (eSP_ a0)),(5,.d (eint (IntKind.wrap .i64 (Int.tdiv (IntKind.wrap .i64 ((IntKind.wrap .i64 ((a0.length : Int) + a1)) - 1)) a1)))),(6,.arr 0 0),(15,.d (eint (IntKind.wrap .i64 (Int.tdiv (IntKind.wrap .i64 ((IntKind.wrap .i64 ((a0.length : Int) + a1)) - 1)) a1)))),(16,.d (eint z.1))] [(0,.arr 0 1 (z.2.map eSP_))]) hj0 (.w (wkF ⟨wD rfl,wD rfl,⟨_,rfl,.nila rfl rfl⟩,wD rfl,wD rfl,tV⟩ ⟨.nil rfl,tV⟩ qM)) ?_)
 intro v1 x1 hb0 hx1
 refine cSR (.B rfl (qO0 _ _) rfl<|.nil rfl) ?_
 refine cwS (cwC hb0 rfl ?_ ?_)
 ·intro hc0 h2
  refine cwK (cwS ?_)
  refine cwB (cSR (.M rfl<|.A rfl<|.nil rfl) ?_)
  have ⟨x2,hx2,h4⟩ := bdS h2
  have hx2g := qU4 hx2
  have ⟨x3,hx3,h5⟩ := bdS h4
  have hx3g := qJ2 hx3
  have ⟨x4,hx4,h6⟩ := bdS h5
  have hx4g := qV hx4
  refine cwRA mixed (by kernel_rfl) (.M rfl<|.M rfl<|.M rfl<|.M rfl<|.c (qU (enc := ePr) (xs := a0) rfl rfl .no rfl sl34)<|.B rfl (b_mul _ _) rfl<|.M rfl<|.B rfl (b_quo _ _ hx2g) rfl<|.M rfl<|.B rfl (qR0 _ _) rfl<|.M rfl<|.c (qU (enc := ePr) (xs := a0) rfl rfl .no rfl sl34)<|.B rfl (b_mul _ _) rfl<|.M rfl<|.B rfl (b_quo _ _ hx2g) rfl<|.c (o_slM (enc := ePr) (xs := a0) rfl rfl .no rfl sl34 sz52 (.val rfl hx3g.1) (.val rfl hx3g.2.1) hx3g.2.2.1 hx3g.2.2.2)<|.c (ql4 (rows := ([(qR1 a0 (IntKind.wrap .i64 (Int.tdiv (IntKind.wrap .i64 (v1.1 * (a0.length : Int))) (IntKind.wrap .i64 (Int.tdiv (IntKind.wrap .i64 ((IntKind.wrap .i64 ((a0.length : Int) + a1)) - 1)) a1)))) (IntKind.wrap .i64 (Int.tdiv (IntKind.wrap .i64 ((IntKind.wrap .i64 (v1.1 + 1)) * (a0.length : Int))) (IntKind.wrap .i64 (Int.tdiv (IntKind.wrap .i64 ((IntKind.wrap .i64 ((a0.length : Int) + a1)) - 1)) a1)))))] : List (List ttR)).map eSP_) rfl rfl .no (.cons rfl .nil) rfl sl129 sz34 ze34 rfl (q51 qn5) (by decide))<|.c (q02 (enc := eSP_) (xs := v1.2) (ys := [(qR1 a0 (IntKind.wrap .i64 (Int.tdiv (IntKind.wrap .i64 (v1.1 * (a0.length : Int))) (IntKind.wrap .i64 (Int.tdiv (IntKind.wrap .i64 ((IntKind.wrap .i64 ((a0.length : Int) + a1)) - 1)) a1)))) (IntKind.wrap .i64 (Int.tdiv (IntKind.wrap .i64 ((IntKind.wrap .i64 (v1.1 + 1)) * (a0.length : Int))) (IntKind.wrap .i64 (Int.tdiv (IntKind.wrap .i64 ((IntKind.wrap .i64 ((a0.length : Int) + a1)) - 1)) a1)))))]) rfl rfl .no rfl rfl rfl qn5 sl129 sl129 sz34 by34 ze34 rfl (by decide) hx4g)<|.A rfl<|.nil rfl) (by kernel_rfl) ?_
  refine cwR (.B rfl (qR0 _ _) rfl<|.M rfl<|.nil rfl) ?_
  exact ⟨((IntKind.wrap .i64 (v1.1 + 1)),(v1.2 ++ [(qR1 a0 (IntKind.wrap .i64 (Int.tdiv (IntKind.wrap .i64 (v1.1 * (a0.length : Int))) (IntKind.wrap .i64 (Int.tdiv (IntKind.wrap .i64 ((IntKind.wrap .i64 ((a0.length : Int) + a1)) - 1)) a1)))) (IntKind.wrap .i64 (Int.tdiv (IntKind.wrap .i64 ((IntKind.wrap .i64 (v1.1 + 1)) * (a0.length : Int))) (IntKind.wrap .i64 (Int.tdiv (IntKind.wrap .i64 ((IntKind.wrap .i64 ((a0.length : Int) + a1)) - 1)) a1)))))])),(sJ h6),wA1 rfl⟩
 intro hc0 h3
 refine qR ?_
 exact ⟨v1.2,(hx1 _ (sJ h3)).symm,wA1 rfl⟩
theorem tree_shareK_ok {a0} {a1} {r} (h : qD2 a0 a1 = some r) : FO 80 [.d (qi a0),.d (eint a1)] 0 [] (.d (qd2 r)) [] := by
 refine fnO Try.func80 rfl rfl (cwP ?_)
 unfold qD2 at h
 refine cSR (.A rfl<|.nil rfl) ?_
 have ⟨x0,hx0,h0⟩ := bdS h
 have hx0g := qU4 hx0
 refine cSR (.M rfl<|.c (qU (enc := qh) (xs := a0) rfl rfl .no rfl sl95)<|.M rfl<|.B rfl (qR0 _ _) rfl<|.B rfl (qS3 _ _) rfl<|.M rfl<|.B rfl (b_quo _ _ hx0g) rfl<|.A rfl<|.nil rfl) ?_
 refine cSR (.A rfl<|.nil rfl) ?_
 have ⟨o0,hj0,h1⟩ := bdS h0
 refine cwJ (fun (z : (List (List ttP))) => St.of [(6,.arr 0 0)] [(0,.arr 0 1 (z.map qi))]) (fun z => o0 = z) ?_ ?_
 ·intro v0 hv0; subst hv0
  refine cSR (.M rfl<|.A rfl<|.nil rfl) ?_
  obtain rfl := zQ h1
  exact rt1 rfl rfl rfl
 refine cSR (.M rfl<|.M rfl<|.nil rfl) ?_
 refine cwB (qK (fun (z : (Int × (List (List ttP)))) => St.of [(0,.d (qi a0)),(5,.d (eint (IntKind.wrap .i64 (Int.tdiv (IntKind.wrap .i64 ((IntKind.wrap .i64 ((a0.length : Int) + a1)) - 1)) a1)))),(6,.arr 0 0),(15,.d (eint (IntKind.wrap .i64 (Int.tdiv (IntKind.wrap .i64 ((IntKind.wrap .i64 ((a0.length : Int) + a1)) - 1)) a1)))),(16,.d (eint z.1))] [(0,.arr 0 1 (z.2.map qi))]) hj0 (.w (wkF ⟨wD rfl,wD rfl,⟨_,rfl,.nila rfl rfl⟩,wD rfl,wD rfl,tV⟩ ⟨.nil rfl,tV⟩ qM)) ?_)
 intro v1 x1 hb0 hx1
 refine cSR (.B rfl (qO0 _ _) rfl<|.nil rfl) ?_
 refine cwS (cwC hb0 rfl ?_ ?_)
 ·intro hc0 h2
  refine cwK (cwS ?_)
  refine cwB (cSR (.M rfl<|.A rfl<|.nil rfl) ?_)
  have ⟨x2,hx2,h4⟩ := bdS h2
  have hx2g := qU4 hx2
  have ⟨x3,hx3,h5⟩ := bdS h4
  have hx3g := qJ2 hx3
  have ⟨x4,hx4,h6⟩ := bdS h5
  have hx4g := qV hx4
  refine cwRA mixed (by kernel_rfl) (.M rfl<|.M rfl<|.M rfl<|.M rfl<|.c (qU (enc := qh) (xs := a0) rfl rfl .no rfl sl95)<|.B rfl (b_mul _ _) rfl<|.M rfl<|.B rfl (b_quo _ _ hx2g) rfl<|.M rfl<|.B rfl (qR0 _ _) rfl<|.M rfl<|.c (qU (enc := qh) (xs := a0) rfl rfl .no rfl sl95)<|.B rfl (b_mul _ _) rfl<|.M rfl<|.B rfl (b_quo _ _ hx2g) rfl<|.c (o_slM (enc := qh) (xs := a0) rfl rfl .no rfl sl95 qH1 (.val rfl hx3g.1) (.val rfl hx3g.2.1) hx3g.2.2.1 hx3g.2.2.2)<|.c (ql4 (rows := ([(qR1 a0 (IntKind.wrap .i64 (Int.tdiv (IntKind.wrap .i64 (v1.1 * (a0.length : Int))) (IntKind.wrap .i64 (Int.tdiv (IntKind.wrap .i64 ((IntKind.wrap .i64 ((a0.length : Int) + a1)) - 1)) a1)))) (IntKind.wrap .i64 (Int.tdiv (IntKind.wrap .i64 ((IntKind.wrap .i64 (v1.1 + 1)) * (a0.length : Int))) (IntKind.wrap .i64 (Int.tdiv (IntKind.wrap .i64 ((IntKind.wrap .i64 ((a0.length : Int) + a1)) - 1)) a1)))))] : List (List ttP)).map qi) rfl rfl .no (.cons rfl .nil) rfl sl155 sz95 ze95 rfl (q51 qI4) (by decide))<|.c (q02 (enc := qi) (xs := v1.2) (ys := [(qR1 a0 (IntKind.wrap .i64 (Int.tdiv (IntKind.wrap .i64 (v1.1 * (a0.length : Int))) (IntKind.wrap .i64 (Int.tdiv (IntKind.wrap .i64 ((IntKind.wrap .i64 ((a0.length : Int) + a1)) - 1)) a1)))) (IntKind.wrap .i64 (Int.tdiv (IntKind.wrap .i64 ((IntKind.wrap .i64 (v1.1 + 1)) * (a0.length : Int))) (IntKind.wrap .i64 (Int.tdiv (IntKind.wrap .i64 ((IntKind.wrap .i64 ((a0.length : Int) + a1)) - 1)) a1)))))]) rfl rfl .no rfl rfl rfl qI4 sl155 sl155 sz95 by95 ze95 rfl (by decide) hx4g)<|.A rfl<|.nil rfl) (by kernel_rfl) ?_
  refine cwR (.B rfl (qR0 _ _) rfl<|.M rfl<|.nil rfl) ?_
  exact ⟨((IntKind.wrap .i64 (v1.1 + 1)),(v1.2 ++ [(qR1 a0 (IntKind.wrap .i64 (Int.tdiv (IntKind.wrap .i64 (v1.1 * (a0.length : Int))) (IntKind.wrap .i64 (Int.tdiv (IntKind.wrap .i64 ((IntKind.wrap .i64 ((a0.length : Int) + a1)) - 1)) a1)))) (IntKind.wrap .i64 (Int.tdiv (IntKind.wrap .i64 ((IntKind.wrap .i64 (v1.1 + 1)) * (a0.length : Int))) (IntKind.wrap .i64 (Int.tdiv (IntKind.wrap .i64 ((IntKind.wrap .i64 ((a0.length : Int) + a1)) - 1)) a1)))))])),(sJ h6),wA1 rfl⟩
 intro hc0 h3
 refine qR ?_
 exact ⟨v1.2,(hx1 _ (sJ h3)).symm,wA1 rfl⟩
theorem qg5 {a0} {r} (h : qo0 a0 = some r) : FO 58 [.d (qJ a0)] 0 [] (.d (qh r)) [(0,.box (.d (qh r)))] := by
 refine fnO Try.func58 rfl rfl (cwP ?_)
 unfold qo0 at h
 refine cSR (.c (qb0 0 rfl rfl .no qj4 rfl)<|.nil rfl) ?_
 refine cSR (.M rfl<|.c (qa6 (ds := [eK (List.replicate 24 0),eint 0,qJ a0]) rfl rfl .no zs101 rfl pl101 (.cons rfl rfl rfl rfl (qt a0) rfl rfl .nil))<|.c (qb0 1 rfl rfl .no qj4 rfl)<|.c (o_st [] rfl .no rfl rfl rfl rfl rfl qH1 (qo ((List.replicate 24 0),0,a0)) (qo ((List.replicate 24 0),0,(none : Option Fr))))<|.nil rfl) ?_
 have ⟨o0,hj0,h0⟩ := bdS h
 refine cwJ (fun (z : ttP) => St.of [(2,.ptr 0 0),(3,.ptr 1 0)] [(0,.box (.d (qh ((List.replicate 24 0),0,(none : Option Fr))))),(1,.box (.d (qh z)))]) (fun z => o0 = z) ?_ ?_
 ·intro v0 hv0; subst hv0
  refine cSR (.c (qC [] rfl rfl .no rfl rfl rfl qD5 rfl (qo o0))<|.c (o_st [] rfl .no rfl rfl rfl rfl rfl qH1 (qo o0) (qo ((List.replicate 24 0),0,(none : Option Fr))))<|.nil rfl) ?_
  obtain rfl := zQ h0
  exact qv ⟨_,(wA2 [(2,.ptr 0 0)] [(0,.box (.d (qh o0)))] rfl),.inr rfl,_,resC rfl rfl rfl qD5 rfl (qo _),rfl,rfl⟩
 refine cwB ?_
 have ⟨x0,hx0,h1⟩ := bdS hj0
 refine cSR (.M rfl<|.c (qy1 (y := qE x0) rfl rfl .no rfl (qx1 hx0))<|.c (qO1 rfl rfl .no rfl qs3 (by decide) rfl rfl)<|.c (o_ld rfl rfl .no rfl ta34 rfl rfl)<|.c (qU (enc := ePr) (xs := x0.2.1) rfl rfl .no rfl sl34)<|.B rfl (qT3 _ _) rfl<|.A rfl<|.nil rfl) ?_
 refine cwC h1 rfl ?_ ?_
 ·intro hc0 h2
  have ⟨x1,hx1,h4⟩ := bdS h2
  have hx1g := qB hx1
  refine cwR (.M rfl<|.c (qy1 (y := qE x0) rfl rfl .no rfl (qx1 hx0))<|.c (qO1 rfl rfl .no rfl qs3 (by decide) rfl rfl)<|.c (o_ld rfl rfl .no rfl ta34 rfl rfl)<|.c (qs1 (enc := ePr) (xs := x0.2.1) rfl rfl .no rfl rfl sl34 sz52 hx1g.1 hx1g.2)<|.c (qO1 rfl rfl .no rfl qr3 (by decide) rfl rfl)<|.c (o_ld rfl rfl .no rfl ta31 rfl rfl)<|.F rfl qV4 rfl<|.S [0] rfl sz31 rfl<|.nil rfl) ?_
  exact ⟨(x1.1,0,a0),(sJ h4),wA1 rfl⟩
 intro hc0 h3
 refine cSR (.M rfl<|.c (qy1 (y := qE x0) rfl rfl .no rfl (qx1 hx0))<|.c (qO1 rfl rfl .no rfl qj1 (by decide) rfl rfl)<|.c (o_ld rfl rfl .no rfl ta95 rfl rfl)<|.c (qU (enc := qh) (xs := x0.2.2) rfl rfl .no rfl sl95)<|.B rfl (qT3 _ _) rfl<|.A rfl<|.nil rfl) ?_
 refine cwC h3 rfl ?_ ?_
 ·intro hc1 h5
  have ⟨x2,hx2,h7⟩ := bdS h5
  have hx2g := qB hx2
  refine cwR (.M rfl<|.c (qy1 (y := qE x0) rfl rfl .no rfl (qx1 hx0))<|.c (qO1 rfl rfl .no rfl qj1 (by decide) rfl rfl)<|.c (o_ld rfl rfl .no rfl ta95 rfl rfl)<|.c (qs1 (enc := qh) (xs := x0.2.2) rfl rfl .no rfl rfl sl95 qH1 hx2g.1 hx2g.2)<|.c (qO1 rfl rfl .no rfl qV4 (by decide) rfl rfl)<|.c (o_ld rfl rfl .no rfl ta31 rfl rfl)<|.F rfl qV4 rfl<|.S [0] rfl sz31 rfl<|.nil rfl) ?_
  exact ⟨(x2.1,0,a0),(sJ h7),wA1 rfl⟩
 intro hc1 h6
 refine cwK ?_
 exact ⟨((List.replicate 24 0),0,a0),(sJ h6),wA1 rfl⟩
theorem qK3 {a0} {r} (h : qo0 a0 = some r) : FO 58 [.d (qJ a0)] 0 [] (.d (qh r)) [] := q93 (qg5 h)
theorem qe4 {a0} {r} (h : qV0 a0 = some r) : FnOk Try.prog 76 [.d (qJ a0)] 0 (lk []) (fun rr oo => rr = .d (qW r) ∧ oo = lk []) := by
 refine fnO Try.func76 rfl rfl (cwP ?_)
 unfold qV0 at h
 refine cSR (.A rfl<|.nil rfl) ?_
 refine cwS ?_
 have ⟨x0,hx0,h0⟩ := bdS h
 refine cSR (.M rfl<|.c (qy1 (y := qE x0) rfl rfl .no rfl (qx1 hx0))<|.c (qO1 rfl rfl .no rfl qi3 (by decide) rfl rfl)<|.c (o_ld rfl rfl .no rfl ta3 rfl rfl)<|.B rfl (qh0 _ _) rfl<|.nil rfl) ?_
 refine cwC h0 rfl ?_ ?_
 ·intro hc0 h1
  refine cSR (.M rfl<|.c (qy1 (y := qE x0) rfl rfl .no rfl (qx1 hx0))<|.c (qO1 rfl rfl .no rfl qs3 (by decide) rfl rfl)<|.c (o_ld rfl rfl .no rfl ta34 rfl rfl)<|.c (qU (enc := ePr) (xs := x0.2.1) rfl rfl .no rfl sl34)<|.B rfl (qO0 _ _) rfl<|.A rfl<|.nil rfl) ?_
  obtain rfl := zQ h1
  exact rt1 rfl rfl rfl
 intro hc0 h2
 refine cwK (cSR (.M rfl<|.c (qy1 (y := qE x0) rfl rfl .no rfl (qx1 hx0))<|.c (qO1 rfl rfl .no rfl qj1 (by decide) rfl rfl)<|.c (o_ld rfl rfl .no rfl ta95 rfl rfl)<|.c (qU (enc := qh) (xs := x0.2.2) rfl rfl .no rfl sl95)<|.B rfl (qO0 _ _) rfl<|.A rfl<|.nil rfl) ?_)
 obtain rfl := zQ h2
 exact rt1 rfl rfl rfl
theorem qW1 {a0} {r} (h : qy0 a0 = some r) : FO 36 [.d (eSP_ a0)] 0 [] (.d (qi r)) [] := by
 refine fnO Try.func36 rfl rfl (cwP ?_)
 unfold qy0 at h
 refine cSR (.A rfl<|.nil rfl) ?_
 refine cSR (.A rfl<|.nil rfl) ?_
 have ⟨o0,hj0,h0⟩ := bdS h
 refine cwJ (fun (z : (List ttP)) => St.of [(3,.arr 0 0)] [(0,.arr 0 26 (z.map qh))]) (fun z => o0 = z) ?_ ?_
 ·intro v0 hv0; subst hv0
  refine cSR (.M rfl<|.A rfl<|.nil rfl) ?_
  obtain rfl := zQ h0
  exact rt1 rfl rfl rfl
 have ⟨x0,hx0,h1⟩ := bdS hj0
 refine cSR (.M rfl<|.c (qc0 rfl rfl .no Try.func57 rfl rfl (tree_shareP_ok hx0) (.cons rfl .d (.cons rfl .d .nil)) ⟨tV,tV,tV⟩ (.inl rfl))<|.c (qU (enc := eSP_) (xs := x0) rfl rfl .no rfl sl129)<|.M rfl<|.nil rfl) ?_
 refine cwB (qK (fun (z : (Int × (List ttP))) => St.of [(3,.arr 0 0),(7,.d (qO2 x0)),(8,.d (eint (x0.length : Int))),(9,.d (eint z.1))] [(0,.arr 0 26 (z.2.map qh))]) h1 (.w (wkF ⟨⟨_,rfl,.nila rfl rfl⟩,wD rfl,wD rfl,wD rfl,tV⟩ ⟨.nil rfl,tV⟩ qM)) ?_)
 intro v1 x1 hb0 hx1
 refine cSR (.B rfl (qO0 _ _) rfl<|.nil rfl) ?_
 refine cwS (cwC hb0 rfl ?_ ?_)
 ·intro hc0 h2
  refine cwK ?_
  refine cwS (cwB ?_)
  have ⟨x2,hx2,h4⟩ := bdS h2
  have hx2g := qB hx2
  refine cSR (.c (qs1 (enc := eSP_) (xs := x0) rfl rfl .no rfl rfl sl129 sz34 hx2g.1 hx2g.2)<|.c (o_ld rfl rfl .no rfl ta34 rfl rfl)<|.A rfl<|.nil rfl) ?_
  have ⟨x3,hx3,h5⟩ := bdS h4
  have ⟨x4,hx4,h6⟩ := bdS h5
  have hx4g := qV hx4
  refine cwR (.M rfl<|.M rfl<|.c (qa6 (ds := [eint 0,eSP_ x2,qi ([])]) rfl rfl .no zs132 rfl pl132 (.cons rfl rfl rfl rfl rfl rfl rfl .nil))<|.c (o_boxFr rfl rfl .no rfl (eFo_mk (0,x2,[])))<|.c (qc0 rfl rfl .no Try.func58 rfl rfl (qK3 hx3) (.cons rfl .d .nil) ⟨tV,tV⟩ (.inl rfl))<|.c (ql4 (rows := ([x3] : List ttP).map qh) rfl rfl .no (.cons rfl .nil) rfl sl95 qH1 qj4 rfl (q51 qo) (by decide))<|.c (q02 (enc := qh) (xs := v1.2) (ys := [x3]) rfl rfl .no rfl rfl rfl qo sl95 sl95 qH1 by101 qj4 rfl (by decide) hx4g)<|.A rfl<|.nil rfl) ?_
  refine cwR (.B rfl (qR0 _ _) rfl<|.M rfl<|.nil rfl) ?_
  exact ⟨((IntKind.wrap .i64 (v1.1 + 1)),(v1.2 ++ [x3])),(sJ h6),wA1 rfl⟩
 intro hc0 h3
 refine qR ?_
 exact ⟨v1.2,(hx1 _ (sJ h3)).symm,wA1 rfl⟩
theorem qR2 {a0} {a1} {r} (h : qM0 a0 a1 = some r) : FO 63 [.d (eint a0),.d (qi a1)] 0 [] (.d (qi r)) [] := by
 refine fnO Try.func63 rfl rfl (cwP ?_)
 unfold qM0 at h
 refine cSR (.A rfl<|.nil rfl) ?_
 refine cSR (.A rfl<|.nil rfl) ?_
 have ⟨o0,hj0,h0⟩ := bdS h
 refine cwJ (fun (z : (List ttP)) => St.of [(5,.arr 0 0)] [(0,.arr 0 26 (z.map qh))]) (fun z => o0 = z) ?_ ?_
 ·intro v0 hv0; subst hv0
  refine cSR (.M rfl<|.A rfl<|.nil rfl) ?_
  obtain rfl := zQ h0
  exact rt1 rfl rfl rfl
 have ⟨x0,hx0,h1⟩ := bdS hj0
 refine cSR (.M rfl<|.c (qc0 rfl rfl .no Try.func80 rfl rfl (tree_shareK_ok hx0) (.cons rfl .d (.cons rfl .d .nil)) ⟨tV,tV,tV⟩ (.inl rfl))<|.c (qU (enc := qi) (xs := x0) rfl rfl .no rfl sl155)<|.M rfl<|.nil rfl) ?_
 refine cwB (qK (fun (z : (Int × (List ttP))) => St.of [(0,.d (eint a0)),(5,.arr 0 0),(9,.d (qd2 x0)),(10,.d (eint (x0.length : Int))),(11,.d (eint z.1))] [(0,.arr 0 26 (z.2.map qh))]) h1 (.w (wkF ⟨wD rfl,⟨_,rfl,.nila rfl rfl⟩,wD rfl,wD rfl,wD rfl,tV⟩ ⟨.nil rfl,tV⟩ qM)) ?_)
 intro v1 x1 hb0 hx1
 refine cSR (.B rfl (qO0 _ _) rfl<|.nil rfl) ?_
 refine cwS (cwC hb0 rfl ?_ ?_)
 ·intro hc0 h2
  refine cwK ?_
  refine cwS (cwB ?_)
  have ⟨x2,hx2,h4⟩ := bdS h2
  have hx2g := qB hx2
  refine cSR (.c (qs1 (enc := qi) (xs := x0) rfl rfl .no rfl rfl sl155 sz95 hx2g.1 hx2g.2)<|.c (o_ld rfl rfl .no rfl ta95 rfl rfl)<|.A rfl<|.nil rfl) ?_
  have ⟨x3,hx3,h5⟩ := bdS h4
  have ⟨x4,hx4,h6⟩ := bdS h5
  have hx4g := qV hx4
  refine cwR (.M rfl<|.M rfl<|.M rfl<|.c (qa6 (ds := [eint a0,eSP_ ([]),qi x2]) rfl rfl .no zs132 rfl pl132 (.cons rfl rfl rfl rfl rfl rfl rfl (.cons rfl rfl rfl rfl rfl rfl rfl .nil)))<|.c (o_boxFr rfl rfl .no rfl (eFo_mk (a0,[],x2)))<|.c (qc0 rfl rfl .no Try.func58 rfl rfl (qK3 hx3) (.cons rfl .d .nil) ⟨tV,tV⟩ (.inl rfl))<|.c (ql4 (rows := ([x3] : List ttP).map qh) rfl rfl .no (.cons rfl .nil) rfl sl95 qH1 qj4 rfl (q51 qo) (by decide))<|.c (q02 (enc := qh) (xs := v1.2) (ys := [x3]) rfl rfl .no rfl rfl rfl qo sl95 sl95 qH1 by101 qj4 rfl (by decide) hx4g)<|.A rfl<|.nil rfl) ?_
  refine cwR (.B rfl (qR0 _ _) rfl<|.M rfl<|.nil rfl) ?_
  exact ⟨((IntKind.wrap .i64 (v1.1 + 1)),(v1.2 ++ [x3])),(sJ h6),wA1 rfl⟩
 intro hc0 h3
 refine qR ?_
 exact ⟨v1.2,(hx1 _ (sJ h3)).symm,wA1 rfl⟩
theorem tree_top_okc {a0} {a1} {r} (h : qW2 a0 a1 = some r) : FnOk Try.prog 39 [.d (eint a0),.d (qi a1)] 0 (lk []) (fun rr oo => rr = .tup [.d (qh r.1),.d (qW r.2.1),.d (eErr r.2.2)] ∧ oo = lk [(0,.box (.d (qh r.1)))]) := by
 refine fnO Try.func39 rfl rfl (cwP ?_)
 unfold qW2 at h
 refine cSR (.c (qb0 0 rfl rfl .no qj4 rfl)<|.A rfl<|.A rfl<|.nil rfl) ?_
 have ⟨o0,hj0,h0⟩ := bdS h
 refine cwJ (fun (z : (List ttP)) => St.of [(1,.d (qi z)),(4,.ptr 0 0)] [(0,.box (.d (qh ((List.replicate 24 0),0,(none : Option Fr)))))]) (fun z => o0 = (.inl z)) ?_ ?_
 ·intro v0 hv0; subst hv0
  simp only [zN] at h0
  refine cwS (cSR (.M rfl<|.c (qU (enc := qh) (xs := v0) rfl rfl .no rfl sl95)<|.B rfl (qh0 _ _) rfl<|.nil rfl) ?_)
  refine cwC h0 rfl ?_ ?_
  ·intro hc0 h1
   refine cSR (.c (qa6 (ds := [eK (List.replicate 24 0),eint 0,qJ (none : Option Fr)]) rfl rfl .no zs101 rfl pl101 .nil)<|.c (o_st [] rfl .no rfl rfl rfl rfl rfl qH1 (qo ((List.replicate 24 0),0,(none : Option Fr))) (qo ((List.replicate 24 0),0,(none : Option Fr))))<|.A rfl<|.A rfl<|.nil rfl) ?_
   obtain rfl := zQ h1
   exact qv ⟨_,(wA2 [(4,.ptr 0 0),(5,.d (qW false)),(6,.d (eErr 0))] [(0,.box (.d (qh ((List.replicate 24 0),0,(none : Option Fr)))))] rfl),.inr rfl,_,resCTT rfl rfl rfl qD5 rfl (qo _) rfl rfl,rfl,rfl⟩
  intro hc0 h2
  refine cwK ?_
  have ⟨x0,hx0,h3⟩ := bdS h2
  have hx0g := qB hx0
  refine cSR (.M rfl<|.c (qs1 (enc := qh) (xs := v0) rfl rfl .no rfl rfl sl95 qH1 hx0g.1 hx0g.2)<|.c (o_ld rfl rfl .no rfl qD5 rfl (qo x0))<|.c (qb0 1 rfl rfl .no qj4 rfl)<|.c (o_st [] rfl .no rfl rfl rfl rfl rfl qH1 (qo x0) (qo ((List.replicate 24 0),0,(none : Option Fr))))<|.nil rfl) ?_
  have ⟨o1,hj1,h4⟩ := bdS h3
  refine cwJ (fun (z : ttP) => St.of [(4,.ptr 0 0),(7,.ptr 1 0)] [(0,.box (.d (qh ((List.replicate 24 0),0,(none : Option Fr))))),(1,.box (.d (qh z)))]) (fun z => o1 = z) ?_ ?_
  ·intro v1 hv1; subst hv1
   refine cSR (.c (qC [] rfl rfl .no rfl rfl rfl qD5 rfl (qo o1))<|.c (o_st [] rfl .no rfl rfl rfl rfl rfl qH1 (qo o1) (qo ((List.replicate 24 0),0,(none : Option Fr))))<|.A rfl<|.A rfl<|.nil rfl) ?_
   obtain rfl := zQ h4
   exact qv ⟨_,(wA2 [(4,.ptr 0 0),(5,.d (qW true)),(6,.d (eErr 0))] [(0,.box (.d (qh o1)))] rfl),.inr rfl,_,resCTT rfl rfl rfl qD5 rfl (qo _) rfl rfl,rfl,rfl⟩
  refine cwB (qK (fun (z : ttP) => St.of [(4,.ptr 0 0),(7,.ptr 1 0)] [(0,.box (.d (qh ((List.replicate 24 0),0,(none : Option Fr))))),(1,.box (.d (qh z)))]) hj1 (wA1 rfl) ?_)
  intro v2 x1 hb0 hx1
  refine cwS ?_
  have ⟨o2,hj2,h5⟩ := bdS hb0
  refine cwJ (fun (z : Bool) => St.of [(4,.ptr 0 0),(7,.ptr 1 0),(37,.d (qW z))] [(0,.box (.d (qh ((List.replicate 24 0),0,(none : Option Fr))))),(1,.box (.d (qh v2)))]) (fun z => o2 = z) ?_ ?_
  ·intro v3 hv2; subst hv2
   refine cwC h5 rfl ?_ ?_
   ·intro hc1 h6
    refine cwK (cwB ?_)
    have ⟨x2,hx2,h8⟩ := bdS h6
    have ⟨x3,hx3,h9⟩ := bdS h8
    have hx3g := qB hx3
    refine cwR (.F rfl qU0 rfl<|.c (qC [2] rfl rfl .no rfl rfl rfl ta99 (qA v2.2.2) (qt v2.2.2))<|.c (qy1 (y := qE x2) rfl rfl .no rfl (qx1 hx2))<|.c (qO1 rfl rfl .no rfl qj1 (by decide) rfl rfl)<|.c (o_ld rfl rfl .no rfl ta95 rfl rfl)<|.c (qs1 (enc := qh) (xs := x2.2.2) rfl rfl .no rfl rfl sl95 qH1 hx3g.1 hx3g.2)<|.c (o_ld rfl rfl .no rfl qD5 rfl (qo x3))<|.c (o_st [] rfl .no rfl rfl rfl rfl rfl qH1 (qo x3) (qo v2))<|.nil rfl) ?_
    exact ⟨x3,(sJ h9),wA1 rfl⟩
   intro hc1 h7
   refine qR ?_
   exact ⟨v2,(hx1 _ (sJ h7)).symm,wA1 rfl⟩
  rcases cdS hj2 with ⟨hc2,h10⟩ | ⟨hc2,h11⟩
  ·skip
   have ⟨x4,hx4,h12⟩ := bdS h10
   refine cwR (.F rfl qU0 rfl<|.c (qC [2] rfl rfl .no rfl rfl rfl ta99 (qA v2.2.2) (qt v2.2.2))<|.c (o_pO true rfl rfl .no rfl rfl up99)<|.M rfl<|.c (qu rfl rfl (.yes rfl rfl hc2) rfl qU0 (by decide))<|.c (qC [2] rfl rfl (.yes rfl rfl hc2) rfl rfl rfl ta99 (qA v2.2.2) (qt v2.2.2))<|.c (qy1 (y := qE x4) rfl rfl (.yes rfl rfl hc2) rfl (qx1 hx4))<|.c (qO1 rfl rfl (.yes rfl rfl hc2) rfl qj1 (by decide) rfl rfl)<|.c (o_ld rfl rfl (.yes rfl rfl hc2) rfl ta95 rfl rfl)<|.c (qU (enc := qh) (xs := x4.2.2) rfl rfl (.yes rfl rfl hc2) rfl sl95)<|.c (qn rfl rfl (.yes rfl rfl hc2) rfl rfl (qh0 _ _) rfl)<|.I rfl hc2<|.nil rfl) ?_
   exact ⟨(decide ((x4.2.2.length : Int) = 1)),(sJ h12),wA1 rfl⟩
  refine cwR (.F rfl qU0 rfl<|.c (qC [2] rfl rfl .no rfl rfl rfl ta99 (qA v2.2.2) (qt v2.2.2))<|.c (o_pO true rfl rfl .no rfl rfl up99)<|.M rfl<|.G rfl rfl hc2<|.G rfl rfl hc2<|.G rfl rfl hc2<|.G rfl rfl hc2<|.G rfl rfl hc2<|.G rfl rfl hc2<|.G rfl rfl hc2<|.J rfl hc2<|.nil rfl) ?_
  exact ⟨false,(sJ h11),wA1 rfl⟩
 refine cwB (qK (fun (z : (Int × (List ttP))) => St.of [(0,.d (eint z.1)),(1,.d (qi z.2)),(4,.ptr 0 0)] [(0,.box (.d (qh ((List.replicate 24 0),0,(none : Option Fr)))))]) hj0 (wA1 rfl) ?_)
 intro v4 x5 hb1 hx5
 refine cwS (cSR (.M rfl<|.c (qU (enc := qh) (xs := v4.2) rfl rfl .no rfl sl95)<|.B rfl (qT3 _ _) rfl<|.nil rfl) ?_)
 refine cwC hb1 rfl ?_ ?_
 ·intro hc3 h13
  refine cwK ?_
  refine cwB (cSR (.M rfl<|.B rfl (qR0 _ _) rfl<|.A rfl<|.nil rfl) ?_)
  refine cwS (cSR (.M rfl<|.B rfl (qf6 _ _) rfl<|.nil rfl) ?_)
  refine cwC h13 rfl ?_ ?_
  ·intro hc4 h15
   refine cSR (.c (qa6 (ds := [eK (List.replicate 24 0),eint 0,qJ (none : Option Fr)]) rfl rfl .no zs101 rfl pl101 .nil)<|.c (o_st [] rfl .no rfl rfl rfl rfl rfl qH1 (qo ((List.replicate 24 0),0,(none : Option Fr))) (qo ((List.replicate 24 0),0,(none : Option Fr))))<|.A rfl<|.A rfl<|.nil rfl) ?_
   have he0 := ((hx5 _ (sJ h15)).symm).symm
   subst he0
   obtain rfl := zQ h0
   exact qv ⟨_,(wA2 [(4,.ptr 0 0),(5,.d (qW false)),(6,.d (eErr 8))] [(0,.box (.d (qh ((List.replicate 24 0),0,(none : Option Fr)))))] rfl),.inr rfl,_,resCTT rfl rfl rfl qD5 rfl (qo _) rfl rfl,rfl,rfl⟩
  intro hc4 h16
  refine cwK ?_
  have ⟨x6,hx6,h17⟩ := bdS h16
  refine cwR (.M rfl<|.M rfl<|.c (qc0 rfl rfl .no Try.func63 rfl rfl (qR2 hx6) (.cons rfl .d (.cons rfl .d .nil)) ⟨tV,tV,tV⟩ (.inl rfl))<|.A rfl<|.nil rfl) ?_
  exact ⟨((IntKind.wrap .i64 (v4.1 + 1)),x6),(sJ h17),wA1 rfl⟩
 intro hc3 h14
 refine qR ?_
 exact ⟨v4.2,(hx5 _ (sJ h14)).symm,wA1 rfl⟩
theorem tree_top_ok {a0} {a1} {r} (h : qW2 a0 a1 = some r) : FnOk Try.prog 39 [.d (eint a0),.d (qi a1)] 0 (lk []) (fun rr oo => rr = .tup [.d (qh r.1),.d (qW r.2.1),.d (eErr r.2.2)] ∧ oo = lk []) := fnOk_forget3 (tree_top_okc h)
theorem q53 {a0} {a1} {r} (h : q11 a0 a1 = some r) : FO 37 [.d (eSP_ a0),.d (eSC a1)] 0 [] (.d (eSP_ r)) [] := by
 refine fnO Try.func37 rfl rfl (cwP ?_)
 unfold q11 at h
 refine cSR (.A rfl<|.nil rfl) ?_
 refine cSR (.A rfl<|.nil rfl) ?_
 have ⟨o0,hj0,h0⟩ := bdS h
 refine cwJ (fun (z : (List ttR)) => St.of [(5,.arr 0 0)] [(0,.arr 0 25 (z.map ePr))]) (fun z => o0 = z) ?_ ?_
 ·intro v0 hv0; subst hv0
  refine cSR (.M rfl<|.A rfl<|.nil rfl) ?_
  obtain rfl := zQ h0
  exact rt1 rfl rfl rfl
 refine cwB (qK (fun (z : ((List ttR) × (List ttC) × (List ttR))) => St.of [(0,.d (eSP_ z.1)),(1,.d (eSC z.2.1)),(5,.arr 0 0)] [(0,.arr 0 25 (z.2.2.map ePr))]) hj0 (.w (wkF ⟨wD rfl,wD rfl,⟨_,rfl,.nila rfl rfl⟩,tV⟩ ⟨.nil rfl,tV⟩ qM)) ?_)
 intro v1 x0 hb0 hx0
 refine cwS ?_
 have ⟨o1,hj1,h1⟩ := bdS hb0
 refine cwJ (fun (z : Bool) => St.of [(0,.d (eSP_ v1.1)),(1,.d (eSC v1.2.1)),(5,.arr 0 0),(13,.d (qW z))] [(0,.arr 0 25 (v1.2.2.map ePr))]) (fun z => o1 = z) ?_ ?_
 ·intro v2 hv1; subst hv1
  refine cwC h1 rfl ?_ ?_
  ·intro hc0 h2
   refine cwK ?_
   refine cwB (cwS ?_)
   have ⟨o2,hj2,h4⟩ := bdS h2
   refine cwJ (fun (z : Bool) => St.of [(0,.d (eSP_ v1.1)),(1,.d (eSC v1.2.1)),(5,.arr 0 0),(33,.d (qW z))] [(0,.arr 0 25 (v1.2.2.map ePr))]) (fun z => o2 = z) ?_ ?_
   ·intro v3 hv2; subst hv2
    refine cwC h4 rfl ?_ ?_
    ·intro hc1 h5
     have ⟨x1,hx1,h7⟩ := bdS h5
     have hx1g := qB hx1
     have ⟨x2,hx2,h8⟩ := bdS h7
     have hx2g := qV hx2
     have ⟨x3,hx3,h9⟩ := bdS h8
     have hx3g := qJ2 hx3
     refine cwS (cwRA mixed (by kernel_rfl) (.M rfl<|.M rfl<|.c (qs1 (enc := ePr) (xs := v1.1) rfl rfl .no rfl rfl sl34 sz52 hx1g.1 hx1g.2)<|.c (o_ld rfl rfl .no rfl ta52 rfl rfl)<|.c (ql4 (rows := ([x1] : List ttR).map ePr) rfl rfl .no (.cons rfl .nil) rfl sl34 sz52 ze52 rfl (q51 qN0) (by decide))<|.c (q02 (enc := ePr) (xs := v1.2.2) (ys := [x1]) rfl rfl .no rfl rfl rfl qN0 sl34 sl34 sz52 by52 ze52 rfl (by decide) hx2g)<|.M rfl<|.c (o_slM (enc := ePr) (xs := v1.1) rfl rfl .no rfl sl34 sz52 (.val rfl hx3g.1) .no hx3g.2.2.1 hx3g.2.2.2)<|.A rfl<|.A rfl<|.nil rfl) (by kernel_rfl) ?_)
     refine qR ?_
     exact ⟨((qR1 v1.1 1 (v1.1.length : Int)),v1.2.1,(v1.2.2 ++ [x1])),(sJ h9),wA1 rfl⟩
    intro hc1 h6
    refine cwK ?_
    have ⟨o3,hj3,h10⟩ := bdS h6
    refine cwJ (fun (z : (List ttR)) => St.of [(0,.d (eSP_ z)),(1,.d (eSC v1.2.1)),(5,.arr 0 0)] [(0,.arr 0 25 (v1.2.2.map ePr))]) (fun z => o3 = z) ?_ ?_
    ·intro v4 hv3; subst hv3
     have ⟨o4,hj4,h11⟩ := bdS h10
     refine cwJ (fun (z : (List ttR)) => St.of [(0,.d (eSP_ o3)),(1,.d (eSC v1.2.1)),(5,.arr 0 0)] [(0,.arr 0 25 (z.map ePr))]) (fun z => o4 = z) ?_ ?_
     ·intro v5 hv4; subst hv4
      have ⟨x4,hx4,h12⟩ := bdS h11
      have hx4g := qJ2 hx4
      refine cwR (.M rfl<|.c (o_slM (enc := eCg) (xs := v1.2.1) rfl rfl .no rfl sl22 sz33 (.val rfl hx4g.1) .no hx4g.2.2.1 hx4g.2.2.2)<|.A rfl<|.nil rfl) ?_
      exact ⟨(o3,(qR1 v1.2.1 1 (v1.2.1.length : Int)),o4),(sJ h12),wA1 rfl⟩
     have ⟨x5,hx5,h13⟩ := bdS hj4
     have hx5g := qB hx5
     refine cSR (.M rfl<|.c (qs1 (enc := eCg) (xs := v1.2.1) rfl rfl .no rfl rfl sl22 sz33 hx5g.1 hx5g.2)<|.c (qO1 rfl rfl .no rfl fld33_2 (by decide) rfl rfl)<|.c (o_ld rfl rfl .no rfl ta4 rfl rfl)<|.T rfl<|.nil rfl) ?_
     refine cwC h13 rfl ?_ ?_
     ·intro hc2 h14
      have ⟨x6,hx6,h16⟩ := bdS h14
      have hx6g := qV hx6
      refine cwRA mixed (by kernel_rfl) (.M rfl<|.M rfl<|.c (qs1 (enc := eCg) (xs := v1.2.1) rfl rfl .no rfl rfl sl22 sz33 hx5g.1 hx5g.2)<|.c (qO1 rfl rfl .no rfl qQ4 (by decide) rfl rfl)<|.c (o_ld rfl rfl .no rfl ta31 rfl rfl)<|.M rfl<|.c (qs1 (enc := eCg) (xs := v1.2.1) rfl rfl .no rfl rfl sl22 sz33 hx5g.1 hx5g.2)<|.c (qO1 rfl rfl .no rfl q16 (by decide) rfl rfl)<|.c (o_ld rfl rfl .no rfl ta9 rfl rfl)<|.c (qa6 (ds := [eK x5.1,eStr x5.2.1]) rfl rfl .no zs52 rfl pl52 (.cons rfl rfl rfl rfl rfl rfl rfl (.cons rfl rfl rfl rfl rfl rfl rfl .nil)))<|.c (ql4 (rows := ([(x5.1,x5.2.1)] : List ttR).map ePr) rfl rfl .no (.cons rfl .nil) rfl sl34 sz52 ze52 rfl (q51 qN0) (by decide))<|.c (q02 (enc := ePr) (xs := v1.2.2) (ys := [(x5.1,x5.2.1)]) rfl rfl .no rfl rfl rfl qN0 sl34 sl34 sz52 by52 ze52 rfl (by decide) hx6g)<|.A rfl<|.nil rfl) (by kernel_rfl) ?_
      exact ⟨(v1.2.2 ++ [(x5.1,x5.2.1)]),(sJ h16),wA1 rfl⟩
     intro hc2 h15
     refine cwK ?_
     exact ⟨v1.2.2,(sJ h15),wA1 rfl⟩
    have ⟨o5,hj5,h17⟩ := bdS hj3
    refine cwJ (fun (z : Bool) => St.of [(0,.d (eSP_ v1.1)),(1,.d (eSC v1.2.1)),(5,.arr 0 0),(55,.d (qW z))] [(0,.arr 0 25 (v1.2.2.map ePr))]) (fun z => o5 = z) ?_ ?_
    ·intro v6 hv5; subst hv5
     refine cwC h17 rfl ?_ ?_
     ·intro hc3 h18
      have ⟨x7,hx7,h20⟩ := bdS h18
      have hx7g := qJ2 hx7
      refine cwR (.M rfl<|.c (o_slM (enc := ePr) (xs := v1.1) rfl rfl .no rfl sl34 sz52 (.val rfl hx7g.1) .no hx7g.2.2.1 hx7g.2.2.2)<|.A rfl<|.nil rfl) ?_
      exact ⟨(qR1 v1.1 1 (v1.1.length : Int)),(sJ h20),wA1 rfl⟩
     intro hc3 h19
     refine cwK ?_
     exact ⟨v1.1,(sJ h19),wA1 rfl⟩
    rcases cdS hj5 with ⟨hc4,h21⟩ | ⟨hc4,h22⟩
    ·skip
     have ⟨x8,hx8,h23⟩ := bdS h21
     have hx8g := qB hx8
     have ⟨x9,hx9,h24⟩ := bdS h23
     have hx9g := qB hx9
     refine cwRA mixed (by kernel_rfl) (.M rfl<|.c (qU (enc := ePr) (xs := v1.1) rfl rfl .no rfl sl34)<|.B rfl (qT3 _ _) rfl<|.M rfl<|.c (o_mv rfl rfl (.yes rfl rfl hc4) rfl)<|.c (qs1 (enc := ePr) (xs := v1.1) rfl rfl (.yes rfl rfl hc4) rfl rfl sl34 sz52 hx8g.1 hx8g.2)<|.c (qO1 rfl rfl (.yes rfl rfl hc4) rfl qr3 (by decide) rfl rfl)<|.c (o_ld rfl rfl (.yes rfl rfl hc4) rfl ta31 rfl rfl)<|.c (o_mv rfl rfl (.yes rfl rfl hc4) rfl)<|.c (qs1 (enc := eCg) (xs := v1.2.1) rfl rfl (.yes rfl rfl hc4) rfl rfl sl22 sz33 hx9g.1 hx9g.2)<|.c (qO1 rfl rfl (.yes rfl rfl hc4) rfl qQ4 (by decide) rfl rfl)<|.c (o_ld rfl rfl (.yes rfl rfl hc4) rfl ta31 rfl rfl)<|.c (o_eq rfl rfl (.yes rfl rfl hc4) rfl rfl rfl rfl eg31 (.bs ar31 un5 sz5))<|.I rfl hc4<|.nil rfl) (by kernel_rfl) ?_
     exact ⟨(decide (x8.1 = x9.1)),(sJ h24),wA1 rfl⟩
    refine cwRA mixed (by kernel_rfl) (.M rfl<|.c (qU (enc := ePr) (xs := v1.1) rfl rfl .no rfl sl34)<|.B rfl (qT3 _ _) rfl<|.M rfl<|.G rfl rfl hc4<|.G rfl rfl hc4<|.G rfl rfl hc4<|.G rfl rfl hc4<|.G rfl rfl hc4<|.G rfl rfl hc4<|.G rfl rfl hc4<|.G rfl rfl hc4<|.G rfl rfl hc4<|.J rfl hc4<|.nil rfl) (by kernel_rfl) ?_
    exact ⟨false,(sJ h22),wA1 rfl⟩
   rcases cdS hj2 with ⟨hc5,h25⟩ | ⟨hc5,h26⟩
   ·skip
    refine cwRA mixed (by kernel_rfl) (.M rfl<|.c (qU (enc := eCg) (xs := v1.2.1) rfl rfl .no rfl sl22)<|.B rfl (qh0 _ _) rfl<|.M rfl<|.G rfl rfl hc5<|.G rfl rfl hc5<|.G rfl rfl hc5<|.G rfl rfl hc5<|.c (q45 rfl rfl rfl rfl)<|.c (q45 rfl rfl rfl rfl)<|.c (q45 rfl rfl rfl rfl)<|.c (q45 rfl rfl rfl rfl)<|.c (q45 rfl rfl rfl rfl)<|.c (q45 rfl rfl rfl rfl)<|.c (q45 rfl rfl rfl rfl)<|.c (q45 rfl rfl rfl rfl)<|.c (q45 rfl rfl rfl rfl)<|.c (q45 rfl rfl rfl rfl)<|.G rfl rfl hc5<|.I rfl hc5<|.nil rfl) (by kernel_rfl) ?_
    exact ⟨true,(sJ h25),wA1 rfl⟩
   rcases cdS h26 with ⟨hc6,h27⟩ | ⟨hc6,h28⟩
   ·skip
    have ⟨x10,hx10,h29⟩ := bdS h27
    have hx10g := qB hx10
    have ⟨x11,hx11,h30⟩ := bdS h29
    have hx11g := qB hx11
    have ⟨x12,hx12,h31⟩ := bdS h30
    refine cwRA mixed (by kernel_rfl) (.M rfl<|.c (qU (enc := eCg) (xs := v1.2.1) rfl rfl .no rfl sl22)<|.B rfl (qh0 _ _) rfl<|.M rfl<|.c (o_mv rfl rfl (.yes rfl rfl hc5) rfl)<|.c (qU (enc := ePr) (xs := v1.1) rfl rfl (.yes rfl rfl hc5) rfl sl34)<|.c (qn rfl rfl (.yes rfl rfl hc5) rfl rfl (qT3 _ _) rfl)<|.c (o_mv rfl rfl (.yes rfl rfl hc5) rfl)<|.c (o_mv rfl rfl (.yes rfl rfl hc6) rfl)<|.c (qs1 (enc := ePr) (xs := v1.1) rfl rfl (.yes rfl rfl hc6) rfl rfl sl34 sz52 hx10g.1 hx10g.2)<|.c (qO1 rfl rfl (.yes rfl rfl hc6) rfl qr3 (by decide) rfl rfl)<|.c (o_ld rfl rfl (.yes rfl rfl hc6) rfl ta31 rfl rfl)<|.c (o_mv rfl rfl (.yes rfl rfl hc6) rfl)<|.c (qs1 (enc := eCg) (xs := v1.2.1) rfl rfl (.yes rfl rfl hc6) rfl rfl sl22 sz33 hx11g.1 hx11g.2)<|.c (qO1 rfl rfl (.yes rfl rfl hc6) rfl qQ4 (by decide) rfl rfl)<|.c (o_ld rfl rfl (.yes rfl rfl hc6) rfl ta31 rfl rfl)<|.c (qc0 rfl rfl (.yes rfl rfl hc6) Try.func43 rfl rfl (qp0 hx12) (.cons rfl .d (.cons rfl .d .nil)) ⟨tV,tV,tV⟩ (.inl rfl))<|.c (qn rfl rfl (.yes rfl rfl hc6) rfl rfl (qO0 _ _) rfl)<|.c (qm rfl rfl (.yes rfl rfl hc5) rfl hc6 rfl)<|.J rfl hc5<|.nil rfl) (by kernel_rfl) ?_
    exact ⟨(decide (x12 < 0)),(sJ h31),wA1 rfl⟩
   refine cwRA mixed (by kernel_rfl) (.M rfl<|.c (qU (enc := eCg) (xs := v1.2.1) rfl rfl .no rfl sl22)<|.B rfl (qh0 _ _) rfl<|.M rfl<|.c (o_mv rfl rfl (.yes rfl rfl hc5) rfl)<|.c (qU (enc := ePr) (xs := v1.1) rfl rfl (.yes rfl rfl hc5) rfl sl34)<|.c (qn rfl rfl (.yes rfl rfl hc5) rfl rfl (qT3 _ _) rfl)<|.c (o_mv rfl rfl (.yes rfl rfl hc5) rfl)<|.G rfl rfl hc6<|.G rfl rfl hc6<|.G rfl rfl hc6<|.G rfl rfl hc6<|.G rfl rfl hc6<|.G rfl rfl hc6<|.G rfl rfl hc6<|.G rfl rfl hc6<|.G rfl rfl hc6<|.G rfl rfl hc6<|.c (qk rfl rfl (.yes rfl rfl hc5) rfl hc6 rfl)<|.J rfl hc5<|.nil rfl) (by kernel_rfl) ?_
   exact ⟨false,(sJ h28),wA1 rfl⟩
  intro hc0 h3
  refine qR ?_
  exact ⟨v1.2.2,(hx0 _ (sJ h3)).symm,wA1 rfl⟩
 rcases cdS hj1 with ⟨hc7,h32⟩ | ⟨hc7,h33⟩
 ·skip
  refine cwR (.M rfl<|.c (qU (enc := ePr) (xs := v1.1) rfl rfl .no rfl sl34)<|.B rfl (qT3 _ _) rfl<|.M rfl<|.G rfl rfl hc7<|.G rfl rfl hc7<|.G rfl rfl hc7<|.I rfl hc7<|.nil rfl) ?_
  exact ⟨true,(sJ h32),wA1 rfl⟩
 refine cwR (.M rfl<|.c (qU (enc := ePr) (xs := v1.1) rfl rfl .no rfl sl34)<|.B rfl (qT3 _ _) rfl<|.M rfl<|.c (o_mv rfl rfl (.yes rfl rfl hc7) rfl)<|.c (qU (enc := eCg) (xs := v1.2.1) rfl rfl (.yes rfl rfl hc7) rfl sl22)<|.c (qn rfl rfl (.yes rfl rfl hc7) rfl rfl (qT3 _ _) rfl)<|.J rfl hc7<|.nil rfl) ?_
 exact ⟨(decide ((v1.2.1.length : Int) > 0)),(sJ h33),wA1 rfl⟩
theorem q43 {a0} {a1} {r} (h : qd0 a0 a1 = some r) : FO 61 [.d (eCg a0),.d (eK a1)] 0 [] (.d (eint r)) [] := by
 refine fnO Try.func61 rfl rfl (cwP ?_)
 unfold qd0 at h
 refine cSR (.X 0 rfl<|.X 1 rfl<|.A rfl<|.nil rfl) ?_
 have ⟨x0,hx0,h0⟩ := bdS h
 refine cSR (.F rfl qQ4 rfl<|.L [0] rfl ta31 rfl<|.L [] rfl ta31 rfl<|.c (qc0 rfl rfl .no Try.func43 rfl rfl (qp0 hx0) (.cons rfl .d (.cons rfl .d .nil)) ⟨tV,tV,tV⟩ (.inl rfl))<|.A rfl<|.nil rfl) ?_
 obtain rfl := zQ h0
 exact rt1 rfl rfl rfl
end
end Go.Val
