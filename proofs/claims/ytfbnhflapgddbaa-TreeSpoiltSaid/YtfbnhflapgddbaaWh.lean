/- Walks of the program's functions,printed. -/
import Derived.Test.YtfbnhflapgddbaaWg
import Derived.Test.YtfbnhflapgddbaaHr
set_option linter.unusedSectionVars false
set_option linter.unusedVariables false
set_option linter.unusedSimpArgs false
set_option maxRecDepth 100000
namespace Go.Val
open Go.RowKit Go.Proofs
section
variable [NoDrw]
noncomputable def qj1 (a0 : List (List ttR)) : Option (List ttR) := (((qJ (V := (Int × Int)) (O := Int) (fun v0 => cond (decide (v0.2 < (a0.length : Int))) ((gx a0 v0.2).bind fun x0 => cond (decide ((IntKind.wrap .i64 (v0.1 + (x0.length : Int))) < 0)) (none) (some (.inl ((IntKind.wrap .i64 (v0.1 + (x0.length : Int))),(IntKind.wrap .i64 (v0.2 + 1)))))) (some (.inr v0.1))) (0,0)
 ) : Option Int)).bind fun o0 => (ck (decide (0 ≤ o0 ∧ o0.toNat * 40 ≤ 140737488355328))).bind fun _ => (((qJ (V := (Int × (List ttR))) (O := (List ttR)) (fun v1 => cond (decide (v1.1 < (a0.length : Int))) ((gx a0 v1.1).bind fun x1 => (fits (v1.2.length + x1.length) 40).bind fun _ => some (.inl ((IntKind.wrap .i64 (v1.1 + 1)),(v1.2 ++ x1)))) (some (.inr v1.2))) (0,([] : List ttR))
 ) : Option (List ttR))).bind fun o1 => some o1
noncomputable def ql1 (a0 : List (List ttP)) : Option (List ttP) := (((qJ (V := (Int × Int)) (O := Int) (fun v0 => cond (decide (v0.2 < (a0.length : Int))) ((gx a0 v0.2).bind fun x0 => cond (decide ((IntKind.wrap .i64 (v0.1 + (x0.length : Int))) < 0)) (none) (some (.inl ((IntKind.wrap .i64 (v0.1 + (x0.length : Int))),(IntKind.wrap .i64 (v0.2 + 1)))))) (some (.inr v0.1))) (0,0)
 ) : Option Int)).bind fun o0 => (ck (decide (0 ≤ o0 ∧ o0.toNat * 40 ≤ 140737488355328))).bind fun _ => (((qJ (V := (Int × (List ttP))) (O := (List ttP)) (fun v1 => cond (decide (v1.1 < (a0.length : Int))) ((gx a0 v1.1).bind fun x1 => (fits (v1.2.length + x1.length) 40).bind fun _ => some (.inl ((IntKind.wrap .i64 (v1.1 + 1)),(v1.2 ++ x1)))) (some (.inr v1.2))) (0,([] : List ttP))
 ) : Option (List ttP))).bind fun o1 => some o1
def q21 (a0 : List ttP) : Option (List ttP) := (fits (([] : List ttP).length + a0.length) 40).bind fun _ => some a0
noncomputable def qs0 (self : (List Int) → (List ttP) → ttM → Option ((List ttP) × Int × (List Int) × ttM)) (a0 : (List Int)) (a1 : ttP) (a2 : ttP) (b1 : ttM) : Option ((List ttP) × Int × (List Int) × ttM) := (((
  qJ (V := (Int × (List Int) × ttM × ((Option Fr) × (Option Fr)))) (O := (((List Int) × ttM × ((Option Fr) × (Option Fr))) ⊕ ((List ttP) × Int × (List Int) × ttM))) (fun v0 => cond (decide (v0.1 < (([a1,a2]).length : Int))) (((((gx ([a1,a2]) v0.1).bind fun x0 => ((((ck (decide (0 ≤ v0.1 ∧ v0.1 < 2))).bind fun _ => cond (decide (v0.1 = 0)) (some (x0.2.2,v0.2.2.2.2)) (
       some (v0.2.2.2.1,x0.2.2))) : Option ((Option Fr) × (Option Fr)))).bind fun o0 => cond (Option.isNone x0.2.2) ((q20 v0.2.1 x0.2.1 v0.2.2.1).bind fun x1 => cond (decide (x1.2.1 ≠ 0)) (some (.inr ([],x1.2.1,x1.2.2.1,x1.2.2.2))) ((ck (decide (0 ≤ v0.1 ∧ v0.1 < 2))).bind fun _ => cond (decide (v0.1 = 0)) (some (.inl (x1.2.2.1,x1.2.2.2,(x1.1,o0.2)))) (
        some (.inl (x1.2.2.1,x1.2.2.2,(o0.1,x1.1)))))) (some (.inl (v0.2.1,v0.2.2.1,o0)))) : Option (((List Int) × ttM × ((Option Fr) × (Option Fr))) ⊕ ((List ttP) × Int × (List Int) × ttM)))).bind fun o1 => Sum.elim (fun (v1 : ((List Int) × ttM × ((Option Fr) × (Option Fr)))) => some (.inl ((IntKind.wrap .i64 (v0.1 + 1)),v1.1,v1.2.1,v1.2.2))) (fun w0 => some (.inr (.inr w0))) o1
   ) (some (.inr (.inl (v0.2.1,v0.2.2.1,v0.2.2.2))))) (0,a0,b1,((none : Option Fr),(none : Option Fr)))) : Option (((List Int) × ttM × ((Option Fr) × (Option Fr))) ⊕ ((List ttP) × Int × (List Int) × ttM)))).bind fun o2 => Sum.elim (fun (v2 : ((List Int) × ttM × ((Option Fr) × (Option Fr)))) => (frOf v2.2.2.1).bind fun x2 => cond (decide (x2.1 = 0)) ((frOf v2.2.2.2).bind fun x3 =>
   (qj1 ([x2.2.1,x3.2.1])).bind fun x4 => (qT0 x4).bind fun x5 => some (x5,0,v2.1,v2.2.1)) ((frOf v2.2.2.2).bind fun x6 => (ql1 ([x2.2.2,x6.2.2])).bind fun x7 => (self v2.1 x7 v2.2.1).bind fun x8 => (qf1 x2.1 x8.1).bind fun x9 => some (x9,x8.2.1,x8.2.2.1,x8.2.2.2))) (fun w1 => some w1) o2
noncomputable def qi0 (self : (List Int) → (List ttP) → ttM → Option ((List ttP) × Int × (List Int) × ttM)) (a0 : (List Int)) (a1 : List ttP) (b1 : ttM) : Option ((List ttP) × Int × (List Int) × ttM) := (((qJ (V := ((List ttP) × Int × (List Int) × ttM)) (O := (((List ttP) × (List Int) × ttM) ⊕ ((List ttP) × Int × (List Int) × ttM))) (fun v0 => (((
    cond (decide (v0.2.1 < (v0.1.length : Int))) (some (decide ((v0.1.length : Int) > 1))) (some false)) : Option Bool)).bind fun o0 => cond o0 (((((gx v0.1 v0.2.1).bind fun x0 => cond (Option.isNone x0.2.2) (some true) ((q31 x0.2.2).bind fun x1 => some (!x1))) : Option Bool)).bind fun o1 => cond o1 (some (.inl (v0.1,(IntKind.wrap .i64 (v0.2.1 + 1)),v0.2.2.1,v0.2.2.2))) (
     (gx v0.1 (max (IntKind.wrap .i64 (v0.2.1 - 1)) 0)).bind fun x2 => (gx v0.1 (IntKind.wrap .i64 ((max (IntKind.wrap .i64 (v0.2.1 - 1)) 0) + 1))).bind fun x3 => (qs0 self v0.2.2.1 x2 x3 v0.2.2.2).bind fun x4 => cond (decide (x4.2.1 ≠ 0)) (some (.inr (.inr ([],x4.2.1,x4.2.2.1,x4.2.2.2)))) ((q21 v0.1).bind fun x5 =>
      (qi4 x5 (max (IntKind.wrap .i64 (v0.2.1 - 1)) 0) (IntKind.wrap .i64 ((max (IntKind.wrap .i64 (v0.2.1 - 1)) 0) + 2)) x4.1).bind fun x6 => some (.inl (x6,(max (IntKind.wrap .i64 (v0.2.1 - 1)) 0),x4.2.2.1,x4.2.2.2))))) (some (.inr (.inl (v0.1,v0.2.2.1,v0.2.2.2))))) (a1,0,a0,b1)
 ) : Option (((List ttP) × (List Int) × ttM) ⊕ ((List ttP) × Int × (List Int) × ttM)))).bind fun o2 => Sum.elim (fun (v1 : ((List ttP) × (List Int) × ttM)) => some (v1.1,0,v1.2.1,v1.2.2)) (fun w0 => some w0) o2
noncomputable def q00 : Nat → (List Int) → (List ttP) → ttM → Option ((List ttP) × Int × (List Int) × ttM) | 0 => fun _ _ _ => none | n + 1 => qi0 (q00 n)
noncomputable def q41 (a0 : (List Int)) (a1 : List ttP) (b1 : ttM) : Option ((List ttP) × Int × (List Int) × ttM) := q00 40 a0 a1 b1
noncomputable def qp0 (self : (List Int) → Int → (List ttC) → ttM → Option ((List ttP) × Int × (List Int) × ttM)) (a0 : (List Int)) (a1 : Int) (a2 : List ttC) (b1 : ttM) : Option ((List ttP) × Int × (List Int) × ttM) := (q20 a0 a1 b1).bind fun x0 => cond (decide (x0.2.1 ≠ 0)) (some ([],x0.2.1,x0.2.2.1,x0.2.2.2)) ((frOf x0.1).bind fun x1 =>
  cond (decide (x1.1 = 0)) ((qk1 x1.2.1 a2).bind fun x2 => (qT0 x2).bind fun x3 => some (x3,0,x0.2.2.1,x0.2.2.2)) ((((qJ (V := ((List ttC) × Int × (List Int) × ttM × (List ttP))) (O := (((List Int) × ttM × (List ttP)) ⊕ ((List ttP) × Int × (List Int) × ttM))) (fun v0 => cond (decide (v0.2.1 < (x1.2.2.length : Int))) (((((gx x1.2.2 v0.2.1).bind fun x4 => (((
        cond (decide ((IntKind.wrap .i64 (v0.2.1 + 1)) < (x1.2.2.length : Int))) ((gx x1.2.2 (IntKind.wrap .i64 (v0.2.1 + 1))).bind fun x5 => (qS v0.1 x5.1).bind fun x6 => some x6.1) (some (v0.1.length : Int))) : Option Int)).bind fun o0 => (cutB 0 o0 v0.1.length).bind fun _ => (cutB o0 (v0.1.length : Int) v0.1.length).bind fun _ =>
       cond (decide (((qY0 v0.1 0 o0).length : Int) = 0)) ((fits (v0.2.2.2.2.length + ([x4]).length) 40).bind fun _ => some (.inl ((qY0 v0.1 o0 (v0.1.length : Int)),v0.2.2.1,v0.2.2.2.1,(v0.2.2.2.2 ++ [x4])))) ((self v0.2.2.1 x4.2.1 (qY0 v0.1 0 o0) v0.2.2.2.1).bind fun x7 => cond (decide (x7.2.1 ≠ 0)) (some (.inr ([],x7.2.1,x7.2.2.1,x7.2.2.2))) (
         (fits (v0.2.2.2.2.length + x7.1.length) 40).bind fun _ => some (.inl ((qY0 v0.1 o0 (v0.1.length : Int)),x7.2.2.1,x7.2.2.2,(v0.2.2.2.2 ++ x7.1)))))) : Option (((List ttC) × (List Int) × ttM × (List ttP)) ⊕ ((List ttP) × Int × (List Int) × ttM)))).bind fun o1 => Sum.elim (fun (v1 : ((List ttC) × (List Int) × ttM × (List ttP))) =>
       some (.inl (v1.1,(IntKind.wrap .i64 (v0.2.1 + 1)),v1.2.1,v1.2.2.1,v1.2.2.2))) (fun w0 => some (.inr (.inr w0))) o1) (some (.inr (.inl (v0.2.2.1,v0.2.2.2.1,v0.2.2.2.2))))) (a2,0,x0.2.2.1,x0.2.2.2,[])) : Option (((List Int) × ttM × (List ttP)) ⊕ ((List ttP) × Int × (List Int) × ttM)))).bind fun o2 => Sum.elim (fun (v2 : ((List Int) × ttM × (List ttP))) =>
    (q41 v2.1 v2.2.2 v2.2.1).bind fun x8 => (qf1 x1.1 x8.1).bind fun x9 => some (x9,x8.2.1,x8.2.2.1,x8.2.2.2)) (fun w1 => some w1) o2))
noncomputable def q80 : Nat → (List Int) → Int → (List ttC) → ttM → Option ((List ttP) × Int × (List Int) × ttM) | 0 => fun _ _ _ _ => none | n + 1 => qp0 (q80 n)
noncomputable def qV0 (a0 : (List Int)) (a1 : Int) (a2 : List ttC) (b1 : ttM) : Option ((List ttP) × Int × (List Int) × ttM) := q80 16 a0 a1 a2 b1
noncomputable def qz0 (self : (List Int) → ttP → ttM → Option (Int × Int × (List Int) × ttM)) (a0 : (List Int)) (a1 : ttP) (b1 : ttM) : Option (Int × Int × (List Int) × ttM) := cond (Option.isNone a1.2.2) ((qt0 b1 a1.2.1).bind fun x0 => (((cond (decide (x0.1 = 0)) ((fits (a0.length + ([a1.2.1]).length) 8).bind fun _ => some (a0 ++ [a1.2.1])) (some a0)
  ) : Option (List Int))).bind fun o0 => some (a1.2.1,x0.1,o0,x0.2)) ((frOf a1.2.2).bind fun x1 => (((qJ (V := (Int × (List Int) × ttM × ttN)) (O := (((List Int) × ttM × ttN) ⊕ (Int × Int × (List Int) × ttM))) (fun v0 => cond (decide (v0.1 < (x1.2.2.length : Int))) ((gx x1.2.2 v0.1).bind fun x2 => (self v0.2.1 x2 v0.2.2.1).bind fun x3 => cond (decide (x3.2.1 ≠ 0)) (
      some (.inr (.inr (0,x3.2.1,x3.2.2.1,x3.2.2.2)))) ((fits (v0.2.2.2.2.2.length + ([(x2.1,x3.1)]).length) 32).bind fun _ => some (.inl ((IntKind.wrap .i64 (v0.1 + 1)),x3.2.2.1,x3.2.2.2,(v0.2.2.2.1,v0.2.2.2.2.1,(v0.2.2.2.2.2 ++ [(x2.1,x3.1)])))))) (some (.inr (.inl (v0.2.1,v0.2.2.1,v0.2.2.2))))) (0,a0,b1,(x1.1,x1.2.1,[]))
  ) : Option (((List Int) × ttM × ttN) ⊕ (Int × Int × (List Int) × ttM)))).bind fun o1 => Sum.elim (fun (v1 : ((List Int) × ttM × ttN)) => (qO0 v1.2.1 (v1.2.2.1,v1.2.2.2.1,v1.2.2.2.2)).bind fun x4 => (((cond (decide (x4.2.1 = 0)) ((fits (v1.1.length + ([x4.1]).length) 8).bind fun _ => some (v1.1 ++ [x4.1])) (some v1.1)) : Option (List Int))).bind fun o2 =>
   some (x4.1,x4.2.1,o2,x4.2.2)) (fun w0 => some w0) o1)
noncomputable def ql0 : Nat → (List Int) → ttP → ttM → Option (Int × Int × (List Int) × ttM) | 0 => fun _ _ _ => none | n + 1 => qz0 (ql0 n)
noncomputable def qa1 (a0 : (List Int)) (a1 : ttP) (b1 : ttM) : Option (Int × Int × (List Int) × ttM) := ql0 16 a0 a1 b1
theorem slices_ConcatP_ok {a0 : List (List ttR)} {r : (List ttR)} (h : qj1 a0 = some r) : FnOk Try.prog 90 [.d (qe2 a0)] 0 (lk []) (fun rr oo => rr = .d (eSP_ r) ∧ oo = lk []) := by
 refine fnO Try.func90 rfl rfl (cwP ?_)
 unfold qj1 at h
 refine cwS (cwR (
  .c (uA rfl)<|.nil rfl) ?_)
 refine cwS (cwR (
  .c (uA rfl)<|.nil rfl) ?_)
 have ⟨o0,hj0,h0⟩ := bdS h
 refine cwJ (fun (z : Int) => St.of [(0,.d (qe2 a0)),(3,.d (eint z))] []) (fun (z : Int) => o0 = z) ?_ ?_
 ·intro v0 hv0; subst hv0
  have ⟨x0,hx0,h1⟩ := bdS h0
  have hx0g := qs5 hx0
  refine cwS (cwR (
   .c (uM rfl)<|
   .c (qr5 0 rfl rfl .no Try.func98 rfl rfl (grow98_ok hx0g) (.cons rfl .d (.cons rfl .d .nil)) ⟨trivial,trivial,trivial⟩ rfl (.inl rfl))<|
   .c (uA rfl)<|.nil rfl) ?_)
  have ⟨o1,hj1,h2⟩ := bdS h1
  refine cwJ (fun (z : (List ttR)) => St.of [(6,.arr 0 0)] [(0,.arr 0 25 (z.map ePr))]) (fun (z : (List ttR)) => o1 = z) ?_ ?_
  ·intro v1 hv1; subst hv1
   refine cwS (cwR (
    .c (uM rfl)<|
    .c (uA rfl)<|.nil rfl) ?_)
   have heq := ((sJ h2)).symm
   subst heq
   exact qw ⟨_,(show Leads _ _ (St.of [(2,.d (eSP_ o1))] []) from .w (wkF ⟨⟨_,rfl,.frz rfl rfl rfl⟩,trivial⟩ trivial qG)),.inr rfl,_,res1 rfl rfl,rfl,rfl⟩
  refine cwS (cwR (
   .c (uM rfl)<|
   .c (qV (enc := eSP_) (xs := a0) rfl rfl .no rfl sl129)<|
   .c (uM rfl)<|.nil rfl) ?_)
  refine cwB ?_
  refine qM (V := (Int × (List ttR))) (O := (List ttR)) (fun (z : (Int × (List ttR))) => St.of [(6,.arr 0 0),(25,.d (qe2 a0)),(26,.d (eint (a0.length : Int))),(27,.d (eint z.1))] [(0,.arr 0 25 (z.2.map ePr))]) hj1 (.w (wkF ⟨⟨_,rfl,.arr rfl rfl⟩,wD rfl,wD rfl,wD rfl,trivial⟩ ⟨.arr rfl rfl,trivial⟩ qG)) ?_
  intro v2 x1 hb0 hx1
  refine cwS (cwR (
   .c (uB rfl (qG0 _ _) rfl)<|.nil rfl) ?_)
  refine cwS ?_
  rcases cdS hb0 with ⟨hc0,h3⟩ | ⟨hc0,h4⟩
  ·refine cwT rfl hc0 ?_
   refine cwK ?_
   refine cwS ?_
   refine cwB ?_
   have ⟨x2,hx2,h5⟩ := bdS h3
   have hx2g := qD hx2
   refine cwS (cwR (
    .c (qJ1 (enc := eSP_) (xs := a0) rfl rfl .no rfl rfl sl129 sz34 hx2g.1 hx2g.2)<|
    .c (o_ld rfl rfl .no rfl ta34 rfl rfl)<|
    .c (uA rfl)<|.nil rfl) ?_)
   have ⟨x3,hx3,h6⟩ := bdS h5
   have hx3g := qj0 hx3
   refine cwR (
    .c (uM rfl)<|
    .c (uM rfl)<|
    .c (qo2 (enc := ePr) (xs := v2.2) (ys := x2) rfl rfl .no rfl rfl rfl q72 sl34 sl34 sz52 by52 ze52 rfl (by decide) hx3g)<|
    .c (uA rfl)<|.nil rfl
   ) ?_
   refine cwR (
    .c (uB rfl (qN0 _ _) rfl)<|
    .c (uM rfl)<|.nil rfl
   ) ?_
   exact ⟨((IntKind.wrap .i64 (v2.1 + 1)),(v2.2 ++ x2)),(sJ h6),.w (wkF ⟨⟨_,rfl,.arr rfl rfl⟩,wD rfl,wD rfl,wD rfl,trivial⟩ ⟨.arr0 rfl rfl rfl,trivial⟩ qG)⟩
  refine cwF rfl hc0 ?_
  refine q10 ?_
  exact ⟨v2.2,(hx1 _ (sJ h4)).symm,.w (wkF ⟨⟨_,rfl,.arr rfl rfl⟩,trivial⟩ ⟨.arr rfl rfl,trivial⟩ qG)⟩
 refine cwS (cwR (
  .c (uM rfl)<|
  .c (qV (enc := eSP_) (xs := a0) rfl rfl .no rfl sl129)<|
  .c (uM rfl)<|.nil rfl) ?_)
 refine cwB ?_
 refine qM (V := (Int × Int)) (O := Int) (fun (z : (Int × Int)) => St.of [(0,.d (qe2 a0)),(3,.d (eint z.1)),(9,.d (qe2 a0)),(10,.d (eint (a0.length : Int))),(11,.d (eint z.2))] []) hj0 (.w (wkF ⟨wD rfl,wD rfl,wD rfl,wD rfl,wD rfl,trivial⟩ trivial qG)) ?_
 intro v3 x4 hb1 hx4
 refine cwS (cwR (
  .c (uB rfl (qG0 _ _) rfl)<|.nil rfl) ?_)
 refine cwS ?_
 rcases cdS hb1 with ⟨hc1,h7⟩ | ⟨hc1,h8⟩
 ·refine cwT rfl hc1 ?_
  refine cwK ?_
  refine cwS ?_
  refine cwB ?_
  have ⟨x5,hx5,h9⟩ := bdS h7
  have hx5g := qD hx5
  refine cwS (cwR (
   .c (qJ1 (enc := eSP_) (xs := a0) rfl rfl .no rfl rfl sl129 sz34 hx5g.1 hx5g.2)<|
   .c (o_ld rfl rfl .no rfl ta34 rfl rfl)<|
   .c (uA rfl)<|.nil rfl) ?_)
  refine cwS (cwR (
   .c (uM rfl)<|
   .c (uM rfl)<|
   .c (qV (enc := ePr) (xs := x5) rfl rfl .no rfl sl34)<|
   .c (uB rfl (qN0 _ _) rfl)<|
   .c (uA rfl)<|.nil rfl) ?_)
  refine cwS (cwR (
   .c (uM rfl)<|
   .c (uB rfl (qG0 _ _) rfl)<|.nil rfl) ?_)
  rcases cdS h9 with ⟨hc2,h10⟩ | ⟨hc2,h11⟩
  ·refine cwT rfl hc2 ?_
   exact nomatch h10
  refine cwF rfl hc2 ?_
  refine cwK ?_
  refine cwR (
   .c (uB rfl (qN0 _ _) rfl)<|
   .c (uM rfl)<|.nil rfl
  ) ?_
  exact ⟨((IntKind.wrap .i64 (v3.1 + (x5.length : Int))),(IntKind.wrap .i64 (v3.2 + 1))),(sJ h11),.w (wkF ⟨wD rfl,wD rfl,wD rfl,wD rfl,wD rfl,trivial⟩ trivial qG)⟩
 refine cwF rfl hc1 ?_
 refine q10 ?_
 exact ⟨v3.1,(hx4 _ (sJ h8)).symm,.w (wkF ⟨wD rfl,wD rfl,trivial⟩ trivial qG)⟩
theorem slices_ConcatK_ok {a0 : List (List ttP)} {r : (List ttP)} (h : ql1 a0 = some r) : FnOk Try.prog 91 [.d (qB1 a0)] 0 (lk []) (fun rr oo => rr = .d (qk r) ∧ oo = lk []) := by
 refine fnO Try.func91 rfl rfl (cwP ?_)
 unfold ql1 at h
 refine cwS (cwR (
  .c (uA rfl)<|.nil rfl) ?_)
 refine cwS (cwR (
  .c (uA rfl)<|.nil rfl) ?_)
 have ⟨o0,hj0,h0⟩ := bdS h
 refine cwJ (fun (z : Int) => St.of [(0,.d (qB1 a0)),(3,.d (eint z))] []) (fun (z : Int) => o0 = z) ?_ ?_
 ·intro v0 hv0; subst hv0
  have ⟨x0,hx0,h1⟩ := bdS h0
  have hx0g := qs5 hx0
  refine cwS (cwR (
   .c (uM rfl)<|
   .c (qr5 0 rfl rfl .no Try.func99 rfl rfl (grow99_ok hx0g) (.cons rfl .d (.cons rfl .d .nil)) ⟨trivial,trivial,trivial⟩ rfl (.inl rfl))<|
   .c (uA rfl)<|.nil rfl) ?_)
  have ⟨o1,hj1,h2⟩ := bdS h1
  refine cwJ (fun (z : (List ttP)) => St.of [(6,.arr 0 0)] [(0,.arr 0 26 (z.map qf))]) (fun (z : (List ttP)) => o1 = z) ?_ ?_
  ·intro v1 hv1; subst hv1
   refine cwS (cwR (
    .c (uM rfl)<|
    .c (uA rfl)<|.nil rfl) ?_)
   have heq := ((sJ h2)).symm
   subst heq
   exact qw ⟨_,(show Leads _ _ (St.of [(2,.d (qk o1))] []) from .w (wkF ⟨⟨_,rfl,.frz rfl rfl rfl⟩,trivial⟩ trivial qG)),.inr rfl,_,res1 rfl rfl,rfl,rfl⟩
  refine cwS (cwR (
   .c (uM rfl)<|
   .c (qV (enc := qk) (xs := a0) rfl rfl .no rfl sl155)<|
   .c (uM rfl)<|.nil rfl) ?_)
  refine cwB ?_
  refine qM (V := (Int × (List ttP))) (O := (List ttP)) (fun (z : (Int × (List ttP))) => St.of [(6,.arr 0 0),(25,.d (qB1 a0)),(26,.d (eint (a0.length : Int))),(27,.d (eint z.1))] [(0,.arr 0 26 (z.2.map qf))]) hj1 (.w (wkF ⟨⟨_,rfl,.arr rfl rfl⟩,wD rfl,wD rfl,wD rfl,trivial⟩ ⟨.arr rfl rfl,trivial⟩ qG)) ?_
  intro v2 x1 hb0 hx1
  refine cwS (cwR (
   .c (uB rfl (qG0 _ _) rfl)<|.nil rfl) ?_)
  refine cwS ?_
  rcases cdS hb0 with ⟨hc0,h3⟩ | ⟨hc0,h4⟩
  ·refine cwT rfl hc0 ?_
   refine cwK ?_
   refine cwS ?_
   refine cwB ?_
   have ⟨x2,hx2,h5⟩ := bdS h3
   have hx2g := qD hx2
   refine cwS (cwR (
    .c (qJ1 (enc := qk) (xs := a0) rfl rfl .no rfl rfl sl155 sz95 hx2g.1 hx2g.2)<|
    .c (o_ld rfl rfl .no rfl ta95 rfl rfl)<|
    .c (uA rfl)<|.nil rfl) ?_)
   have ⟨x3,hx3,h6⟩ := bdS h5
   have hx3g := qj0 hx3
   refine cwR (
    .c (uM rfl)<|
    .c (uM rfl)<|
    .c (qo2 (enc := qf) (xs := v2.2) (ys := x2) rfl rfl .no rfl rfl rfl qq sl95 sl95 qj2 by101 qj5 rfl (by decide) hx3g)<|
    .c (uA rfl)<|.nil rfl
   ) ?_
   refine cwR (
    .c (uB rfl (qN0 _ _) rfl)<|
    .c (uM rfl)<|.nil rfl
   ) ?_
   exact ⟨((IntKind.wrap .i64 (v2.1 + 1)),(v2.2 ++ x2)),(sJ h6),.w (wkF ⟨⟨_,rfl,.arr rfl rfl⟩,wD rfl,wD rfl,wD rfl,trivial⟩ ⟨.arr0 rfl rfl rfl,trivial⟩ qG)⟩
  refine cwF rfl hc0 ?_
  refine q10 ?_
  exact ⟨v2.2,(hx1 _ (sJ h4)).symm,.w (wkF ⟨⟨_,rfl,.arr rfl rfl⟩,trivial⟩ ⟨.arr rfl rfl,trivial⟩ qG)⟩
 refine cwS (cwR (
  .c (uM rfl)<|
  .c (qV (enc := qk) (xs := a0) rfl rfl .no rfl sl155)<|
  .c (uM rfl)<|.nil rfl) ?_)
 refine cwB ?_
 refine qM (V := (Int × Int)) (O := Int) (fun (z : (Int × Int)) => St.of [(0,.d (qB1 a0)),(3,.d (eint z.1)),(9,.d (qB1 a0)),(10,.d (eint (a0.length : Int))),(11,.d (eint z.2))] []) hj0 (.w (wkF ⟨wD rfl,wD rfl,wD rfl,wD rfl,wD rfl,trivial⟩ trivial qG)) ?_
 intro v3 x4 hb1 hx4
 refine cwS (cwR (
  .c (uB rfl (qG0 _ _) rfl)<|.nil rfl) ?_)
 refine cwS ?_
 rcases cdS hb1 with ⟨hc1,h7⟩ | ⟨hc1,h8⟩
 ·refine cwT rfl hc1 ?_
  refine cwK ?_
  refine cwS ?_
  refine cwB ?_
  have ⟨x5,hx5,h9⟩ := bdS h7
  have hx5g := qD hx5
  refine cwS (cwR (
   .c (qJ1 (enc := qk) (xs := a0) rfl rfl .no rfl rfl sl155 sz95 hx5g.1 hx5g.2)<|
   .c (o_ld rfl rfl .no rfl ta95 rfl rfl)<|
   .c (uA rfl)<|.nil rfl) ?_)
  refine cwS (cwR (
   .c (uM rfl)<|
   .c (uM rfl)<|
   .c (qV (enc := qf) (xs := x5) rfl rfl .no rfl sl95)<|
   .c (uB rfl (qN0 _ _) rfl)<|
   .c (uA rfl)<|.nil rfl) ?_)
  refine cwS (cwR (
   .c (uM rfl)<|
   .c (uB rfl (qG0 _ _) rfl)<|.nil rfl) ?_)
  rcases cdS h9 with ⟨hc2,h10⟩ | ⟨hc2,h11⟩
  ·refine cwT rfl hc2 ?_
   exact nomatch h10
  refine cwF rfl hc2 ?_
  refine cwK ?_
  refine cwR (
   .c (uB rfl (qN0 _ _) rfl)<|
   .c (uM rfl)<|.nil rfl
  ) ?_
  exact ⟨((IntKind.wrap .i64 (v3.1 + (x5.length : Int))),(IntKind.wrap .i64 (v3.2 + 1))),(sJ h11),.w (wkF ⟨wD rfl,wD rfl,wD rfl,wD rfl,wD rfl,trivial⟩ trivial qG)⟩
 refine cwF rfl hc1 ?_
 refine q10 ?_
 exact ⟨v3.1,(hx4 _ (sJ h8)).symm,.w (wkF ⟨wD rfl,wD rfl,trivial⟩ trivial qG)⟩
theorem slices_Clone79_ok {a0 : List ttP} {r : List ttP} (h : q21 a0 = some r) : FnOk Try.prog 79 [.d (qk a0)] 0 (lk []) (fun rr oo => rr = .arr 0 0 ∧ oo = lk [(0,.arr 0 26 (List.map qf r))]) := by
 refine fnO Try.func79 rfl rfl (cwP ?_)
 unfold q21 at h
 have ⟨x0,hx0,h0⟩ := bdS h
 have hx0g := qj0 hx0
 have heq := Option.some.inj h0
 subst heq
 refine cwS (cwR (
  .c (uA rfl)<|.nil rfl) ?_)
 refine cwS (cwS (qM3 (.cons (uM rfl) <| .any (a_nilq rfl rfl rfl sl95) fun s' hs => .nil rfl ?_)))
 obtain ⟨b,hb,rfl⟩ := hs
 cases b with
 | true =>
  have hz : a0 = [] := List.map_eq_nil_iff.1 (hb rfl)
  subst hz
  refine cwT rfl rfl (cwS (cwR (
   .c (uA rfl)<|.nil rfl) ?_))
  exact qw ⟨_,(show Leads _ _ (St.of [(2,.arr 0 0)] [(0,.arr 0 26 (List.map qf []))]) from .w (wkF ⟨⟨_,rfl,.nila rfl rfl⟩,trivial⟩ ⟨.nil rfl,trivial⟩ qG)),.inr rfl,_,res1 rfl rfl,rfl,rfl⟩
 | false =>
  refine cwF rfl rfl (cwK ?_)
  refine cwS (cwR (
   .c (o_bslO (rows := ([] : List ttP).map qf) 0 rfl rfl .no .nil rfl sl95 qj2 qj5 rfl (qL1 qq) (by decide) rfl)<|
   .c (uM rfl)<|
   .c (qo2 (enc := qf) (xs := ([] : List ttP)) (ys := a0) rfl rfl .no rfl rfl rfl qq sl95 sl95 qj2 by101 qj5 rfl (by decide) hx0g)<|
   .c (uA rfl)<|.nil rfl) ?_)
  exact qw ⟨_,(show Leads _ _ (St.of [(2,.arr 0 0)] [(0,.arr 0 26 (List.map qf a0))]) from .w (wkF ⟨⟨_,rfl,.arr rfl rfl⟩,trivial⟩ ⟨.arr0 rfl rfl rfl,trivial⟩ qG)),.inr rfl,_,res1 rfl rfl,rfl,rfl⟩
theorem q74 {self : (List Int) → (List ttP) → ttM → Option ((List ttP) × Int × (List Int) × ttM)} (self_ok : ∀ {a0 : (List Int)} {a1 : List ttP} {b1 : ttM} {r : ((List ttP) × Int × (List Int) × ttM)},self a0 a1 b1 = some r → FnOk Try.prog 62 [.ptr 0 0,.d (qk a1)] 2 (lk [(0,.own (qd 1 a0)),(1,.own (qc b1))]) (fun rr oo => rr = .tup [.d (qk r.1),.d (eErr r.2.1)] ∧ oo = lk [(0,.own (qd 1 r.2.2.1)),(1,.own (qc r.2.2.2))])) {a0 : (List Int)} {a1 : ttP} {a2 : ttP} {b1 : ttM} {r : ((List ttP) × Int × (List Int) × ttM)} (h : qs0 self a0 a1 a2 b1 = some r) : FnOk Try.prog 77 [.ptr 0 0,.d (qf a1),.d (qf a2)] 2 (lk [(0,.own (qd 1 a0)),(1,.own (qc b1))]) (fun rr oo => rr = .tup [.d (qk r.1),.d (eErr r.2.1)] ∧ oo = lk [(0,.own (qd 1 r.2.2.1)),(1,.own (qc r.2.2.2))]) := by
 refine fnO Try.func77 rfl rfl (cwP ?_)
 unfold qs0 at h
 refine cwS (cwR (
  .c (uX 2 rfl)<|
  .c (uX 3 rfl)<|
  .c (uA rfl)<|
  .c (uA rfl)<|.nil rfl) ?_)
 refine cwS (cwR (
  .c (q50 4 rfl rfl .no ze166 rfl)<|.nil rfl) ?_)
 have ⟨o0,hj0,h0⟩ := bdS h
 refine cwJ (fun (z : ((List Int) × ttM × ((Option Fr) × (Option Fr)))) => St.of [(0,.ptr 0 0),(8,.ptr 4 0)] [(0,.own (qd 1 z.1)),(1,.own (qc z.2.1)),(4,.box (.d (q12 z.2.2)))]) (fun (z : ((List Int) × ttM × ((Option Fr) × (Option Fr)))) => o0 = (.inl z)) ?_ ?_
 ·intro v0 hv0; subst hv0
  simp only [Sum.elim_inl] at h0
  refine cwS ?_
  have ⟨x0,hx0,h1⟩ := bdS (x := frOf v0.2.2.1) h0
  refine cwS (cwR (
   .c (o_ixP rfl rfl .no rfl rfl ar166 sz99 (by decide))<|
   .c (qA [0] rfl rfl .no rfl rfl rfl ta99 (qX v0.2.2.1) (qE v0.2.2.1))<|
   .c (qp2 (y := qW x0) rfl rfl .no rfl (qr2 hx0))<|
   .c (qa2 rfl rfl .no rfl qb5 (by decide) rfl rfl)<|
   .c (o_ld rfl rfl .no rfl ta3 rfl rfl)<|
   .c (uB rfl (qd0 _ _) rfl)<|.nil rfl) ?_)
  rcases cdS h1 with ⟨hc0,h2⟩ | ⟨hc0,h3⟩
  ·refine cwT rfl hc0 ?_
   have ⟨x1,hx1,h4⟩ := bdS (x := frOf v0.2.2.2) h2
   have ⟨x2,hx2,h5⟩ := bdS (x := qj1 ([x0.2.1,x1.2.1])) h4
   have ⟨x3,hx3,h6⟩ := bdS (x := qT0 x2) h5
   refine cwS (cwRA mixed (by kernel_rfl) (
    .c (o_ixP rfl rfl .no rfl rfl ar166 sz99 (by decide))<|
    .c (qA [0] rfl rfl .no rfl rfl rfl ta99 (qX v0.2.2.1) (qE v0.2.2.1))<|
    .c (qp2 (y := qW x0) rfl rfl .no rfl (qr2 hx0))<|
    .c (qa2 rfl rfl .no rfl qf4 (by decide) rfl rfl)<|
    .c (o_ld rfl rfl .no rfl ta34 rfl rfl)<|
    .c (o_ixP rfl rfl .no rfl rfl ar166 sz99 (by decide))<|
    .c (qA [1] rfl rfl .no rfl rfl (gt166_1 v0.2.2) ta99 (qX v0.2.2.2) (qE v0.2.2.2))<|
    .c (qp2 (y := qW x1) rfl rfl .no rfl (qr2 hx1))<|
    .c (qa2 rfl rfl .no rfl qf4 (by decide) rfl rfl)<|
    .c (o_ld rfl rfl .no rfl ta34 rfl rfl)<|
    .c (qu5 (rows := ([x0.2.1,x1.2.1] : List (List ttR)).map eSP_) rfl rfl .no (.cons rfl (.cons rfl .nil)) rfl sl129 sz34 ze34 rfl (qL1 siSapiPair) (by decide))<|
    .c (qe0 rfl rfl .no Try.func90 rfl rfl (slices_ConcatP_ok hx2) (.cons rfl .d .nil) ⟨trivial,trivial⟩ (.inl rfl))<|
    .c (qe0 rfl rfl .no Try.func36 rfl rfl (qt3 hx3) (.cons rfl .d .nil) ⟨trivial,trivial⟩ (.inl rfl))<|
    .c (uA rfl)<|
    .c (uA rfl)<|.nil rfl) (by kernel_rfl) ?_)
   have heq := ((sJ h6)).symm
   subst heq
   exact qw ⟨_,(show Leads _ _ (St.of [(6,.d (qk x3)),(7,.d (eErr 0))] [(0,.own (qd 1 v0.1)),(1,.own (qc v0.2.1))]) from .w (wkF ⟨wD rfl,wD rfl,trivial⟩ ⟨.own rfl (.st (.cons (.av (.ifc (.ptro rfl rfl))) (.cons (.arr rfl) .nil))),.own rfl (.of_eq rfl (q9 _)),trivial⟩ (qv rfl))),.inr rfl,_,res2 rfl rfl rfl,rfl,rfl⟩
  refine cwF rfl hc0 ?_
  refine cwK ?_
  have ⟨x4,hx4,h7⟩ := bdS (x := frOf v0.2.2.2) h3
  have ⟨x5,hx5,h8⟩ := bdS (x := ql1 ([x0.2.2,x4.2.2])) h7
  have ⟨x6,hx6,h9⟩ := bdS (x := self v0.1 x5 v0.2.1) h8
  refine cwS (cwRA mixed (by kernel_rfl) (
   .c (uM rfl)<|
   .c (o_ixP rfl rfl .no rfl rfl ar166 sz99 (by decide))<|
   .c (qA [0] rfl rfl .no rfl rfl rfl ta99 (qX v0.2.2.1) (qE v0.2.2.1))<|
   .c (qp2 (y := qW x0) rfl rfl .no rfl (qr2 hx0))<|
   .c (qa2 rfl rfl .no rfl q42 (by decide) rfl rfl)<|
   .c (o_ld rfl rfl .no rfl ta95 rfl rfl)<|
   .c (o_ixP rfl rfl .no rfl rfl ar166 sz99 (by decide))<|
   .c (qA [1] rfl rfl .no rfl rfl (gt166_1 v0.2.2) ta99 (qX v0.2.2.2) (qE v0.2.2.2))<|
   .c (qp2 (y := qW x4) rfl rfl .no rfl (qr2 hx4))<|
   .c (qa2 rfl rfl .no rfl q42 (by decide) rfl rfl)<|
   .c (o_ld rfl rfl .no rfl ta95 rfl rfl)<|
   .c (qu5 (rows := ([x0.2.2,x4.2.2] : List (List ttP)).map qk) rfl rfl .no (.cons rfl (.cons rfl .nil)) rfl sl155 sz95 ze95 rfl (qL1 qU4) (by decide))<|
   .c (qe0 rfl rfl .no Try.func91 rfl rfl (slices_ConcatK_ok hx5) (.cons rfl .d .nil) ⟨trivial,trivial⟩ (.inl rfl))<|
   .c (qQ (fun n => bif Nat.beq n 0 then 0 else 1) rfl rfl .no Try.func62 rfl rfl (self_ok hx6) (.cons rfl (.p rfl) (.cons rfl .d .nil)) (qQ4 rfl ⟨(by simp [AV.live,lk,Nat.beq]),trivial,trivial⟩ (by decide) rfl (by simp [qd,OB.live,OD.live,OD.lives,AV.live,lk,Nat.beq]) rfl (OD.dat_live (q9 _)) (by simp)) (.inl rfl))<|
   .c (uM rfl)<|
   .c (uE rfl)<|
   .c (uE rfl)<|
   .c (uA rfl)<|
   .c (uA rfl)<|.nil rfl) (by kernel_rfl) ?_)
  have ⟨x7,hx7,h10⟩ := bdS (x := qf1 x0.1 x6.1) h9
  refine cwS (cwR (
   .c (o_ixP rfl rfl .no rfl rfl ar166 sz99 (by decide))<|
   .c (qA [0] rfl rfl .no rfl rfl rfl ta99 (qX v0.2.2.1) (qE v0.2.2.1))<|
   .c (qp2 (y := qW x0) rfl rfl .no rfl (qr2 hx0))<|
   .c (qa2 rfl rfl .no rfl qb5 (by decide) rfl rfl)<|
   .c (o_ld rfl rfl .no rfl ta3 rfl rfl)<|
   .c (uM rfl)<|
   .c (qe0 rfl rfl .no Try.func63 rfl rfl (qK3 hx7) (.cons rfl .d (.cons rfl .d .nil)) ⟨trivial,trivial,trivial⟩ (.inl rfl))<|
   .c (uM rfl)<|
   .c (uA rfl)<|
   .c (uA rfl)<|.nil rfl) ?_)
  have heq := ((sJ h10)).symm
  subst heq
  exact qw ⟨_,(show Leads _ _ (St.of [(6,.d (qk x7)),(7,.d (eErr x6.2.1))] [(0,.own (qd 1 x6.2.2.1)),(1,.own (qc x6.2.2.2))]) from .w (wkF ⟨wD rfl,wD rfl,trivial⟩ ⟨.own rfl (.st (.cons (.av (.ifc (.ptro rfl rfl))) (.cons (.arr rfl) .nil))),.own rfl (.of_eq rfl (q9 _)),trivial⟩ (qv rfl))),.inr rfl,_,res2 rfl rfl rfl,rfl,rfl⟩
 refine cwS (cwR (
  .c (qA [] rfl rfl .no rfl rfl rfl qA5 rfl (qq a1))<|
  .c (qA [] rfl rfl .no rfl rfl rfl qA5 rfl (qq a2))<|
  .c (qu5 (rows := ([a1,a2] : List ttP).map qf) rfl rfl .no (.cons rfl (.cons rfl .nil)) rfl sl95 qj2 qj5 rfl (qL1 qq) (by decide))<|
  .c (qV (enc := qf) (xs := [a1,a2]) rfl rfl .no rfl sl95)<|
  .c (uM rfl)<|.nil rfl) ?_)
 refine cwB ?_
 refine qM (V := (Int × (List Int) × ttM × ((Option Fr) × (Option Fr)))) (O := (((List Int) × ttM × ((Option Fr) × (Option Fr))) ⊕ ((List ttP) × Int × (List Int) × ttM))) (fun (z : (Int × (List Int) × ttM × ((Option Fr) × (Option Fr)))) => St.of [(0,.ptr 0 0),(8,.ptr 4 0),(17,.d (qk ([a1,a2]))),(18,.d (eint (([a1,a2]).length : Int))),(19,.d (eint z.1))] [(0,.own (qd 1 z.2.1)),(1,.own (qc z.2.2.1)),(4,.box (.d (q12 z.2.2.2)))]) hj0 (.w (wkF ⟨⟨_,rfl,.ptro rfl rfl⟩,⟨_,rfl,.ptr rfl rfl⟩,wD rfl,wD rfl,wD rfl,trivial⟩ ⟨.own rfl (.st (.cons (.av (.ifc (.ptro rfl rfl))) (.cons (.arr rfl) .nil))),.own rfl (.of_eq rfl (q9 _)),.box rfl (.d rfl),trivial⟩ (qv rfl))) ?_
 intro v1 x8 hb0 hx8
 refine cwS (cwR (
  .c (uB rfl (qG0 _ _) rfl)<|.nil rfl) ?_)
 refine cwS ?_
 rcases cdS hb0 with ⟨hc1,h11⟩ | ⟨hc1,h12⟩
 ·refine cwT rfl hc1 ?_
  refine cwK ?_
  have ⟨o1,hj1,h13⟩ := bdS h11
  refine cwJ (fun (z : ((List Int) × ttM × ((Option Fr) × (Option Fr)))) => St.of [(0,.ptr 0 0),(8,.ptr 4 0),(17,.d (qk ([a1,a2]))),(18,.d (eint (([a1,a2]).length : Int))),(19,.d (eint v1.1))] [(0,.own (qd 1 z.1)),(1,.own (qc z.2.1)),(4,.box (.d (q12 z.2.2)))]) (fun (z : ((List Int) × ttM × ((Option Fr) × (Option Fr)))) => o1 = (.inl z)) ?_ ?_
  ·intro v2 hv1; subst hv1
   simp only [Sum.elim_inl] at h13
   refine cwR (
    .c (uB rfl (qN0 _ _) rfl)<|
    .c (uM rfl)<|.nil rfl
   ) ?_
   exact ⟨((IntKind.wrap .i64 (v1.1 + 1)),v2.1,v2.2.1,v2.2.2),(sJ h13),.w (wkF ⟨⟨_,rfl,.ptro rfl rfl⟩,⟨_,rfl,.ptr rfl rfl⟩,wD rfl,wD rfl,wD rfl,trivial⟩ ⟨.own rfl (.st (.cons (.av (.ifc (.ptro rfl rfl))) (.cons (.arr rfl) .nil))),.own rfl (.of_eq rfl (q9 _)),.box rfl (.d rfl),trivial⟩ (qv rfl))⟩
  refine cwB ?_
  have ⟨x9,hx9,h14⟩ := bdS hj1
  have hx9g := qD hx9
  refine cwS (cwR (
   .c (uM rfl)<|
   .c (qJ1 (enc := qf) (xs := [a1,a2]) rfl rfl .no rfl rfl sl95 qj2 hx9g.1 hx9g.2)<|
   .c (o_ld rfl rfl .no rfl qA5 rfl (qq x9))<|
   .c (q50 5 rfl rfl .no qj5 rfl)<|
   .c (uA rfl)<|
   .c (o_st [] rfl .no rfl rfl rfl rfl rfl qj2 (qq x9) (qq ((List.replicate 24 0),0,(none : Option Fr))))<|.nil rfl) ?_)
  have ⟨o2,hj2,h15⟩ := bdS h14
  refine cwJ (fun (z : ((Option Fr) × (Option Fr))) => St.of [(0,.ptr 0 0),(8,.ptr 4 0),(9,.d (eint v1.1)),(10,.ptr 5 0),(17,.d (qk ([a1,a2]))),(18,.d (eint (([a1,a2]).length : Int))),(19,.d (eint v1.1))] [(0,.own (qd 1 v1.2.1)),(1,.own (qc v1.2.2.1)),(4,.box (.d (q12 z))),(5,.box (.d (qf x9)))]) (fun (z : ((Option Fr) × (Option Fr))) => o2 = z) ?_ ?_
  ·intro v3 hv2; subst hv2
   refine cwS (cwR (
    .c (uF rfl qQ1 rfl)<|
    .c (qA [2] rfl rfl .no rfl rfl rfl ta99 (qX x9.2.2) (qE x9.2.2))<|
    .c (o_pO false rfl rfl .no rfl rfl up99)<|.nil rfl) ?_)
   rcases cdS h15 with ⟨hc2,h16⟩ | ⟨hc2,h17⟩
   ·refine cwT rfl hc2 ?_
    have ⟨x10,hx10,h18⟩ := bdS (x := q20 v1.2.1 x9.2.1 v1.2.2.1) h16
    refine cwS (cwR (
     .c (uM rfl)<|
     .c (uF rfl fld101_1 rfl)<|
     .c (uL [1] rfl ta3 rfl)<|
     .c (qQ (fun n => bif Nat.beq n 0 then 0 else 1) rfl rfl .no Try.func59 rfl rfl (qm2 hx10) (.cons rfl (.p rfl) (.cons rfl .d .nil)) (qQ4 rfl ⟨(by simp [AV.live,lk,Nat.beq]),trivial,trivial⟩ (by decide) rfl (by simp [qd,OB.live,OD.live,OD.lives,AV.live,lk,Nat.beq]) rfl (OD.dat_live (q9 _)) (by simp)) (.inl rfl))<|
     .c (uM rfl)<|
     .c (uE rfl)<|
     .c (uE rfl)<|
     .c (uA rfl)<|
     .c (uA rfl)<|.nil rfl) ?_)
    refine cwS ?_
    refine cwS (cwR (
     .c (uM rfl)<|
     .c (uB rfl (qd3 _ _) rfl)<|.nil rfl) ?_)
    rcases cdS h18 with ⟨hc3,h19⟩ | ⟨hc3,h20⟩
    ·refine cwT rfl hc3 ?_
     refine cwS (cwR (
      .c (uM rfl)<|
      .c (uA rfl)<|
      .c (uA rfl)<|.nil rfl) ?_)
     have he0 := ((sJ h19)).symm
     subst he0
     have he1 := ((hx8 _ (sJ h13)).symm).symm
     subst he1
     have heq := ((sJ h0)).symm
     subst heq
     exact qw ⟨_,(show Leads _ _ (St.of [(6,.d (qk ([]))),(7,.d (eErr x10.2.1))] [(0,.own (qd 1 x10.2.2.1)),(1,.own (qc x10.2.2.2))]) from .w (wkF ⟨⟨_,rfl,.nil0⟩,wD rfl,trivial⟩ ⟨.own rfl (.st (.cons (.av (.ifc (.ptro rfl rfl))) (.cons (.arr rfl) .nil))),.own rfl (.of_eq rfl (q9 _)),trivial⟩ (qv rfl))),.inr rfl,_,res2 rfl rfl rfl,rfl,rfl⟩
    refine cwF rfl hc3 ?_
    refine cwK ?_
    have ⟨x11,hx11,h21⟩ := bdS h20
    have hx11g := qs5 hx11
    rcases cdS h21 with ⟨hc4,h22⟩ | ⟨hc4,h23⟩
    ·skip
     refine cwR (
      .c (uM rfl)<|
      .c (uM rfl)<|
      .c (o_ixPc 0 rfl rfl .no rfl rfl ar166 sz99 hx11g (ixc0 hc4 hx11g))<|
      .c (o_st [0] rfl .no rfl rfl rfl rfl rfl sz99 (qE x10.1) (qE o2.1))<|.nil rfl
     ) ?_
     exact ⟨(x10.2.2.1,x10.2.2.2,(x10.1,o2.2)),(sJ h22),.w (wkF ⟨⟨_,rfl,.ptro rfl rfl⟩,⟨_,rfl,.ptr rfl rfl⟩,wD rfl,wD rfl,wD rfl,trivial⟩ ⟨.own rfl (.st (.cons (.av (.ifc (.ptro rfl rfl))) (.cons (.arr rfl) .nil))),.own rfl (.of_eq rfl (q9 _)),.box rfl (.d rfl),trivial⟩ (qv rfl))⟩
    refine cwR (
     .c (uM rfl)<|
     .c (uM rfl)<|
     .c (o_ixPc 1 rfl rfl .no rfl rfl ar166 sz99 hx11g (ixc1 hc4 hx11g))<|
     .c (o_st [1] rfl .no rfl rfl rfl (gt166_1 o2) rfl sz99 (qE x10.1) (qE o2.2))<|.nil rfl
    ) ?_
    exact ⟨(x10.2.2.1,x10.2.2.2,(o2.1,x10.1)),(sJ h23),.w (wkF ⟨⟨_,rfl,.ptro rfl rfl⟩,⟨_,rfl,.ptr rfl rfl⟩,wD rfl,wD rfl,wD rfl,trivial⟩ ⟨.own rfl (.st (.cons (.av (.ifc (.ptro rfl rfl))) (.cons (.arr rfl) .nil))),.own rfl (.of_eq rfl (q9 _)),.box rfl (.d rfl),trivial⟩ (qv rfl))⟩
   refine cwF rfl hc2 ?_
   refine cwK ?_
   exact ⟨(v1.2.1,v1.2.2.1,o2),(sJ h17),.w (wkF ⟨⟨_,rfl,.ptro rfl rfl⟩,⟨_,rfl,.ptr rfl rfl⟩,wD rfl,wD rfl,wD rfl,trivial⟩ ⟨.own rfl (.st (.cons (.av (.ifc (.ptro rfl rfl))) (.cons (.arr rfl) .nil))),.own rfl (.of_eq rfl (q9 _)),.box rfl (.d rfl),trivial⟩ (qv rfl))⟩
  have ⟨x12,hx12,h24⟩ := bdS hj2
  have hx12g := qs5 hx12
  rcases cdS h24 with ⟨hc5,h25⟩ | ⟨hc5,h26⟩
  ·skip
   refine cwR (
    .c (uM rfl)<|
    .c (uF rfl qQ1 rfl)<|
    .c (qA [2] rfl rfl .no rfl rfl rfl ta99 (qX x9.2.2) (qE x9.2.2))<|
    .c (o_ixPc 0 rfl rfl .no rfl rfl ar166 sz99 hx12g (ixc0 hc5 hx12g))<|
    .c (o_st [0] rfl .no rfl rfl rfl rfl rfl sz99 (qE x9.2.2) (qE v1.2.2.2.1))<|.nil rfl
   ) ?_
   exact ⟨(x9.2.2,v1.2.2.2.2),(sJ h25),.w (wkF ⟨⟨_,rfl,.ptro rfl rfl⟩,⟨_,rfl,.ptr rfl rfl⟩,wD rfl,⟨_,rfl,.ptr rfl rfl⟩,wD rfl,wD rfl,wD rfl,trivial⟩ ⟨.own rfl (.st (.cons (.av (.ifc (.ptro rfl rfl))) (.cons (.arr rfl) .nil))),.own rfl (.of_eq rfl (q9 _)),.box rfl (.d rfl),.box rfl (.d rfl),trivial⟩ (qv rfl))⟩
  refine cwR (
   .c (uM rfl)<|
   .c (uF rfl qQ1 rfl)<|
   .c (qA [2] rfl rfl .no rfl rfl rfl ta99 (qX x9.2.2) (qE x9.2.2))<|
   .c (o_ixPc 1 rfl rfl .no rfl rfl ar166 sz99 hx12g (ixc1 hc5 hx12g))<|
   .c (o_st [1] rfl .no rfl rfl rfl (gt166_1 v1.2.2.2) rfl sz99 (qE x9.2.2) (qE v1.2.2.2.2))<|.nil rfl
  ) ?_
  exact ⟨(v1.2.2.2.1,x9.2.2),(sJ h26),.w (wkF ⟨⟨_,rfl,.ptro rfl rfl⟩,⟨_,rfl,.ptr rfl rfl⟩,wD rfl,⟨_,rfl,.ptr rfl rfl⟩,wD rfl,wD rfl,wD rfl,trivial⟩ ⟨.own rfl (.st (.cons (.av (.ifc (.ptro rfl rfl))) (.cons (.arr rfl) .nil))),.own rfl (.of_eq rfl (q9 _)),.box rfl (.d rfl),.box rfl (.d rfl),trivial⟩ (qv rfl))⟩
 refine cwF rfl hc1 ?_
 refine q10 ?_
 exact ⟨(v1.2.1,v1.2.2.1,v1.2.2.2),(hx8 _ (sJ h12)).symm,.w (wkF ⟨⟨_,rfl,.ptro rfl rfl⟩,⟨_,rfl,.ptr rfl rfl⟩,trivial⟩ ⟨.own rfl (.st (.cons (.av (.ifc (.ptro rfl rfl))) (.cons (.arr rfl) .nil))),.own rfl (.of_eq rfl (q9 _)),.box rfl (.d rfl),trivial⟩ (qv rfl))⟩
theorem qG2 {self : (List Int) → (List ttP) → ttM → Option ((List ttP) × Int × (List Int) × ttM)} (self_ok : ∀ {a0 : (List Int)} {a1 : List ttP} {b1 : ttM} {r : ((List ttP) × Int × (List Int) × ttM)},self a0 a1 b1 = some r → FnOk Try.prog 62 [.ptr 0 0,.d (qk a1)] 2 (lk [(0,.own (qd 1 a0)),(1,.own (qc b1))]) (fun rr oo => rr = .tup [.d (qk r.1),.d (eErr r.2.1)] ∧ oo = lk [(0,.own (qd 1 r.2.2.1)),(1,.own (qc r.2.2.2))])) {a0 : (List Int)} {a1 : List ttP} {b1 : ttM} {r : ((List ttP) × Int × (List Int) × ttM)} (h : qi0 self a0 a1 b1 = some r) : FnOk Try.prog 62 [.ptr 0 0,.d (qk a1)] 2 (lk [(0,.own (qd 1 a0)),(1,.own (qc b1))]) (fun rr oo => rr = .tup [.d (qk r.1),.d (eErr r.2.1)] ∧ oo = lk [(0,.own (qd 1 r.2.2.1)),(1,.own (qc r.2.2.2))]) := by
 refine fnO Try.func62 rfl rfl (cwP ?_)
 unfold qi0 at h
 refine cwS (cwR (
  .c (uA rfl)<|
  .c (uA rfl)<|.nil rfl) ?_)
 have ⟨o0,hj0,h0⟩ := bdS h
 refine cwJ (fun (z : ((List ttP) × (List Int) × ttM)) => St.of [(1,.d (qk z.1))] [(0,.own (qd 1 z.2.1)),(1,.own (qc z.2.2))]) (fun (z : ((List ttP) × (List Int) × ttM)) => o0 = (.inl z)) ?_ ?_
 ·intro v0 hv0; subst hv0
  simp only [Sum.elim_inl] at h0
  refine cwS (cwR (
   .c (uM rfl)<|
   .c (uA rfl)<|
   .c (uA rfl)<|.nil rfl) ?_)
  have heq := ((sJ h0)).symm
  subst heq
  exact qw ⟨_,(show Leads _ _ (St.of [(4,.d (qk v0.1)),(5,.d (eErr 0))] [(0,.own (qd 1 v0.2.1)),(1,.own (qc v0.2.2))]) from .w (wkF ⟨wD rfl,wD rfl,trivial⟩ ⟨.own rfl (.st (.cons (.av (.ifc (.ptro rfl rfl))) (.cons (.arr rfl) .nil))),.own rfl (.of_eq rfl (q9 _)),trivial⟩ (qv rfl))),.inr rfl,_,res2 rfl rfl rfl,rfl,rfl⟩
 refine cwS (cwR (
  .c (uA rfl)<|.nil rfl) ?_)
 refine cwB ?_
 refine qM (V := ((List ttP) × Int × (List Int) × ttM)) (O := (((List ttP) × (List Int) × ttM) ⊕ ((List ttP) × Int × (List Int) × ttM))) (fun (z : ((List ttP) × Int × (List Int) × ttM)) => St.of [(0,.ptr 0 0),(1,.d (qk z.1)),(6,.d (eint z.2.1))] [(0,.own (qd 1 z.2.2.1)),(1,.own (qc z.2.2.2))]) hj0 (.w (wkF ⟨⟨_,rfl,.ptro rfl rfl⟩,wD rfl,wD rfl,trivial⟩ ⟨.own rfl (.st (.cons (.av (.ifc (.ptro rfl rfl))) (.cons (.arr rfl) .nil))),.own rfl (.of_eq rfl (q9 _)),trivial⟩ (qv rfl))) ?_
 intro v1 x0 hb0 hx0
 refine cwS ?_
 have ⟨o1,hj1,h1⟩ := bdS hb0
 refine cwJ (fun (z : Bool) => St.of [(0,.ptr 0 0),(1,.d (qk v1.1)),(6,.d (eint v1.2.1)),(17,.d (qU z))] [(0,.own (qd 1 v1.2.2.1)),(1,.own (qc v1.2.2.2))]) (fun (z : Bool) => o1 = z) ?_ ?_
 ·intro v2 hv1; subst hv1
  rcases cdS h1 with ⟨hc0,h2⟩ | ⟨hc0,h3⟩
  ·refine cwT rfl hc0 ?_
   refine cwK ?_
   refine cwB ?_
   refine cwS ?_
   have ⟨o2,hj2,h4⟩ := bdS h2
   refine cwJ (fun (z : Bool) => St.of [(0,.ptr 0 0),(1,.d (qk v1.1)),(6,.d (eint v1.2.1)),(32,.d (qU z))] [(0,.own (qd 1 v1.2.2.1)),(1,.own (qc v1.2.2.2))]) (fun (z : Bool) => o2 = z) ?_ ?_
   ·intro v3 hv2; subst hv2
    rcases cdS h4 with ⟨hc1,h5⟩ | ⟨hc1,h6⟩
    ·refine cwT rfl hc1 ?_
     refine cwS (cwR (
      .c (uM rfl)<|
      .c (uB rfl (qN0 _ _) rfl)<|
      .c (uA rfl)<|.nil rfl) ?_)
     refine q10 ?_
     exact ⟨(v1.1,(IntKind.wrap .i64 (v1.2.1 + 1)),v1.2.2.1,v1.2.2.2),(sJ h5),.w (wkF ⟨⟨_,rfl,.ptro rfl rfl⟩,wD rfl,wD rfl,trivial⟩ ⟨.own rfl (.st (.cons (.av (.ifc (.ptro rfl rfl))) (.cons (.arr rfl) .nil))),.own rfl (.of_eq rfl (q9 _)),trivial⟩ (qv rfl))⟩
    refine cwF rfl hc1 ?_
    refine cwK ?_
    refine cwS (cwR (
     .c (uM rfl)<|
     .c (uB rfl (qW2 _ _) rfl)<|
     .c (o_max rfl rfl .no rfl rfl)<|
     .c (uA rfl)<|.nil rfl) ?_)
    have ⟨x1,hx1,h7⟩ := bdS h6
    have hx1g := qD hx1
    have ⟨x2,hx2,h8⟩ := bdS h7
    have hx2g := qD hx2
    have ⟨x3,hx3,h9⟩ := bdS (x := qs0 self v1.2.2.1 x1 x2 v1.2.2.2) h8
    refine cwS (cwRA mixed (by kernel_rfl) (
     .c (uM rfl)<|
     .c (uM rfl)<|
     .c (uM rfl)<|
     .c (qJ1 (enc := qf) (xs := v1.1) rfl rfl .no rfl rfl sl95 qj2 hx1g.1 hx1g.2)<|
     .c (o_ld rfl rfl .no rfl qA5 rfl (qq x1))<|
     .c (uM rfl)<|
     .c (uM rfl)<|
     .c (uB rfl (qN0 _ _) rfl)<|
     .c (qJ1 (enc := qf) (xs := v1.1) rfl rfl .no rfl rfl sl95 qj2 hx2g.1 hx2g.2)<|
     .c (o_ld rfl rfl .no rfl qA5 rfl (qq x2))<|
     .c (qQ (fun n => bif Nat.beq n 0 then 0 else 1) rfl rfl .no Try.func77 rfl rfl (q74 self_ok hx3) (.cons rfl (.p rfl) (.cons rfl .d (.cons rfl .d .nil))) (qQ4 rfl ⟨(by simp [AV.live,lk,Nat.beq]),trivial,trivial,trivial⟩ (by decide) rfl (by simp [qd,OB.live,OD.live,OD.lives,AV.live,lk,Nat.beq]) rfl (OD.dat_live (q9 _)) (by simp)) (.inl rfl))<|
     .c (uM rfl)<|
     .c (uE rfl)<|
     .c (uE rfl)<|
     .c (uA rfl)<|
     .c (uA rfl)<|.nil rfl) (by kernel_rfl) ?_)
    refine cwS ?_
    refine cwS (cwR (
     .c (uM rfl)<|
     .c (uB rfl (qd3 _ _) rfl)<|.nil rfl) ?_)
    rcases cdS h9 with ⟨hc2,h10⟩ | ⟨hc2,h11⟩
    ·refine cwT rfl hc2 ?_
     refine cwS (cwR (
      .c (uM rfl)<|
      .c (uA rfl)<|
      .c (uA rfl)<|.nil rfl) ?_)
     have he0 := ((hx0 _ (sJ h10)).symm).symm
     subst he0
     have heq := ((sJ h0)).symm
     subst heq
     exact qw ⟨_,(show Leads _ _ (St.of [(4,.d (qk ([]))),(5,.d (eErr x3.2.1))] [(0,.own (qd 1 x3.2.2.1)),(1,.own (qc x3.2.2.2))]) from .w (wkF ⟨⟨_,rfl,.nil0⟩,wD rfl,trivial⟩ ⟨.own rfl (.st (.cons (.av (.ifc (.ptro rfl rfl))) (.cons (.arr rfl) .nil))),.own rfl (.of_eq rfl (q9 _)),trivial⟩ (qv rfl))),.inr rfl,_,res2 rfl rfl rfl,rfl,rfl⟩
    refine cwF rfl hc2 ?_
    refine cwK ?_
    have ⟨x4,hx4,h12⟩ := bdS (x := q21 v1.1) h11
    have ⟨x5,hx5,h13⟩ := bdS (x := qi4 x4 (max (IntKind.wrap .i64 (v1.2.1 - 1)) 0) (IntKind.wrap .i64 ((max (IntKind.wrap .i64 (v1.2.1 - 1)) 0) + 2)) x3.1) h12
    refine cwR (
     .c (uM rfl)<|
     .c (qr5 2 rfl rfl .no Try.func79 rfl rfl (slices_Clone79_ok hx4) (.cons rfl .d .nil) ⟨trivial,trivial⟩ rfl (.inl rfl))<|
     .c (uM rfl)<|
     .c (uM rfl)<|
     .c (uB rfl (qN0 _ _) rfl)<|
     .c (uM rfl)<|
     .c (qQ (fun _ => 2) rfl rfl .no Try.func78 rfl rfl (replaceK_ok hx5 0) (.cons rfl (.a rfl) (.cons rfl .d (.cons rfl .d (.cons rfl .d .nil)))) (q40 rfl ⟨(by simp [AV.live,lk,Nat.beq]),trivial,trivial,trivial,trivial⟩ rfl trivial (by simp)) (.inl rfl))<|
     .c (uA rfl)<|.nil rfl
    ) ?_
    exact ⟨(x5,(max (IntKind.wrap .i64 (v1.2.1 - 1)) 0),x3.2.2.1,x3.2.2.2),(sJ h13),.w (wkF ⟨⟨_,rfl,.ptro rfl rfl⟩,⟨_,rfl,.frz rfl rfl rfl⟩,wD rfl,trivial⟩ ⟨.own rfl (.st (.cons (.av (.ifc (.ptro rfl rfl))) (.cons (.arr rfl) .nil))),.own rfl (.of_eq rfl (q9 _)),trivial⟩ (qv rfl))⟩
   have ⟨x6,hx6,h14⟩ := bdS hj2
   have hx6g := qD hx6
   rcases cdS h14 with ⟨hc3,h15⟩ | ⟨hc3,h16⟩
   ·skip
    refine cwR (
     .c (uM rfl)<|
     .c (uM rfl)<|
     .c (qJ1 (enc := qf) (xs := v1.1) rfl rfl .no rfl rfl sl95 qj2 hx6g.1 hx6g.2)<|
     .c (qa2 rfl rfl .no rfl qQ1 (by decide) rfl rfl)<|
     .c (o_ld rfl rfl .no rfl ta99 (qX x6.2.2) (qE x6.2.2))<|
     .c (o_pO false rfl rfl .no rfl rfl up99)<|
     .c (uM rfl)<|
     .c (uN rfl rfl hc3)<|
     .c (uN rfl rfl hc3)<|
     .c (uN rfl rfl hc3)<|
     .c (uN rfl rfl hc3)<|
     .c (uN rfl rfl hc3)<|
     .c (uN rfl rfl hc3)<|
     .c (uN rfl rfl hc3)<|
     .c (uPT rfl hc3)<|.nil rfl
    ) ?_
    exact ⟨true,(sJ h15),.w (wkF ⟨⟨_,rfl,.ptro rfl rfl⟩,wD rfl,wD rfl,wD rfl,trivial⟩ ⟨.own rfl (.st (.cons (.av (.ifc (.ptro rfl rfl))) (.cons (.arr rfl) .nil))),.own rfl (.of_eq rfl (q9 _)),trivial⟩ (qv rfl))⟩
   have ⟨x7,hx7,h17⟩ := bdS (x := q31 x6.2.2) h16
   refine cwR (
    .c (uM rfl)<|
    .c (uM rfl)<|
    .c (qJ1 (enc := qf) (xs := v1.1) rfl rfl .no rfl rfl sl95 qj2 hx6g.1 hx6g.2)<|
    .c (qa2 rfl rfl .no rfl qQ1 (by decide) rfl rfl)<|
    .c (o_ld rfl rfl .no rfl ta99 (qX x6.2.2) (qE x6.2.2))<|
    .c (o_pO false rfl rfl .no rfl rfl up99)<|
    .c (uM rfl)<|
    .c (o_mv rfl rfl (.yes rfl rfl hc3) rfl)<|
    .c (o_mv rfl rfl (.yes rfl rfl hc3) rfl)<|
    .c (qJ1 (enc := qf) (xs := v1.1) rfl rfl (.yes rfl rfl hc3) rfl rfl sl95 qj2 hx6g.1 hx6g.2)<|
    .c (qa2 rfl rfl (.yes rfl rfl hc3) rfl qQ1 (by decide) rfl rfl)<|
    .c (o_ld rfl rfl (.yes rfl rfl hc3) rfl ta99 (qX x6.2.2) (qE x6.2.2))<|
    .c (qe0 rfl rfl (.yes rfl rfl hc3) Try.func76 rfl rfl (tree_fresh_few_ok hx7) (.cons rfl .d .nil) ⟨trivial,trivial⟩ (.inl rfl))<|
    .c (qo5 rfl rfl (.yes rfl rfl hc3) rfl)<|
    .c (uPF rfl hc3)<|.nil rfl
   ) ?_
   exact ⟨(!x7),(sJ h17),.w (wkF ⟨⟨_,rfl,.ptro rfl rfl⟩,wD rfl,wD rfl,wD rfl,trivial⟩ ⟨.own rfl (.st (.cons (.av (.ifc (.ptro rfl rfl))) (.cons (.arr rfl) .nil))),.own rfl (.of_eq rfl (q9 _)),trivial⟩ (qv rfl))⟩
  refine cwF rfl hc0 ?_
  refine q10 ?_
  exact ⟨(v1.1,v1.2.2.1,v1.2.2.2),(hx0 _ (sJ h3)).symm,.w (wkF ⟨wD rfl,trivial⟩ ⟨.own rfl (.st (.cons (.av (.ifc (.ptro rfl rfl))) (.cons (.arr rfl) .nil))),.own rfl (.of_eq rfl (q9 _)),trivial⟩ (qv rfl))⟩
 rcases cdS hj1 with ⟨hc4,h18⟩ | ⟨hc4,h19⟩
 ·skip
  refine cwR (
   .c (uM rfl)<|
   .c (uM rfl)<|
   .c (qV (enc := qf) (xs := v1.1) rfl rfl .no rfl sl95)<|
   .c (uB rfl (qG0 _ _) rfl)<|
   .c (uM rfl)<|
   .c (o_mv rfl rfl (.yes rfl rfl hc4) rfl)<|
   .c (qV (enc := qf) (xs := v1.1) rfl rfl (.yes rfl rfl hc4) rfl sl95)<|
   .c (qj rfl rfl (.yes rfl rfl hc4) rfl rfl (qy3 _ _) rfl)<|
   .c (uPT rfl hc4)<|.nil rfl
  ) ?_
  exact ⟨(decide ((v1.1.length : Int) > 1)),(sJ h18),.w (wkF ⟨⟨_,rfl,.ptro rfl rfl⟩,wD rfl,wD rfl,wD rfl,trivial⟩ ⟨.own rfl (.st (.cons (.av (.ifc (.ptro rfl rfl))) (.cons (.arr rfl) .nil))),.own rfl (.of_eq rfl (q9 _)),trivial⟩ (qv rfl))⟩
 refine cwR (
  .c (uM rfl)<|
  .c (uM rfl)<|
  .c (qV (enc := qf) (xs := v1.1) rfl rfl .no rfl sl95)<|
  .c (uB rfl (qG0 _ _) rfl)<|
  .c (uM rfl)<|
  .c (uN rfl rfl hc4)<|
  .c (uN rfl rfl hc4)<|
  .c (uN rfl rfl hc4)<|
  .c (uPF rfl hc4)<|.nil rfl
 ) ?_
 exact ⟨false,(sJ h19),.w (wkF ⟨⟨_,rfl,.ptro rfl rfl⟩,wD rfl,wD rfl,wD rfl,trivial⟩ ⟨.own rfl (.st (.cons (.av (.ifc (.ptro rfl rfl))) (.cons (.arr rfl) .nil))),.own rfl (.of_eq rfl (q9 _)),trivial⟩ (qv rfl))⟩
theorem qE1 : ∀ (n : Nat) {a0 : (List Int)} {a1 : List ttP} {b1 : ttM} {r : ((List ttP) × Int × (List Int) × ttM)},q00 n a0 a1 b1 = some r → FnOk Try.prog 62 [.ptr 0 0,.d (qk a1)] 2 (lk [(0,.own (qd 1 a0)),(1,.own (qc b1))]) (fun rr oo => rr = .tup [.d (qk r.1),.d (eErr r.2.1)] ∧ oo = lk [(0,.own (qd 1 r.2.2.1)),(1,.own (qc r.2.2.2))])
 | 0,_,_,_,_,h => nomatch h
 | n + 1,_,_,_,_,h => qG2 (self := q00 n) (fun h => qE1 n h) h
theorem qA3 {a0 : (List Int)} {a1 : List ttP} {b1 : ttM} {r : ((List ttP) × Int × (List Int) × ttM)} (h : q41 a0 a1 b1 = some r) : FnOk Try.prog 62 [.ptr 0 0,.d (qk a1)] 2 (lk [(0,.own (qd 1 a0)),(1,.own (qc b1))]) (fun rr oo => rr = .tup [.d (qk r.1),.d (eErr r.2.1)] ∧ oo = lk [(0,.own (qd 1 r.2.2.1)),(1,.own (qc r.2.2.2))]) := qE1 40 h
theorem qV2 {self : (List Int) → Int → (List ttC) → ttM → Option ((List ttP) × Int × (List Int) × ttM)} (self_ok : ∀ {a0 : (List Int)} {a1 : Int} {a2 : List ttC} {b1 : ttM} {r : ((List ttP) × Int × (List Int) × ttM)},self a0 a1 a2 b1 = some r → FnOk Try.prog 38 [.ptr 0 0,.d (eint a1),.d (eSC a2)] 2 (lk [(0,.own (qd 1 a0)),(1,.own (qc b1))]) (fun rr oo => rr = .tup [.d (qk r.1),.d (eErr r.2.1)] ∧ oo = lk [(0,.own (qd 1 r.2.2.1)),(1,.own (qc r.2.2.2))])) {a0 : (List Int)} {a1 : Int} {a2 : List ttC} {b1 : ttM} {r : ((List ttP) × Int × (List Int) × ttM)} (h : qp0 self a0 a1 a2 b1 = some r) : FnOk Try.prog 38 [.ptr 0 0,.d (eint a1),.d (eSC a2)] 2 (lk [(0,.own (qd 1 a0)),(1,.own (qc b1))]) (fun rr oo => rr = .tup [.d (qk r.1),.d (eErr r.2.1)] ∧ oo = lk [(0,.own (qd 1 r.2.2.1)),(1,.own (qc r.2.2.2))]) := by
 refine fnO Try.func38 rfl rfl (cwP ?_)
 unfold qp0 at h
 refine cwS (cwR (
  .c (uA rfl)<|
  .c (uA rfl)<|.nil rfl) ?_)
 have ⟨x0,hx0,h0⟩ := bdS (x := q20 a0 a1 b1) h
 refine cwS (cwR (
  .c (uM rfl)<|
  .c (uM rfl)<|
  .c (qQ (fun n => bif Nat.beq n 0 then 0 else 1) rfl rfl .no Try.func59 rfl rfl (qm2 hx0) (.cons rfl (.p rfl) (.cons rfl .d .nil)) (qQ4 rfl ⟨(by simp [AV.live,lk,Nat.beq]),trivial,trivial⟩ (by decide) rfl (by simp [qd,OB.live,OD.live,OD.lives,AV.live,lk,Nat.beq]) rfl (OD.dat_live (q9 _)) (by simp)) (.inl rfl))<|
  .c (uM rfl)<|
  .c (uE rfl)<|
  .c (uE rfl)<|
  .c (uA rfl)<|
  .c (uA rfl)<|.nil rfl) ?_)
 refine cwS ?_
 refine cwS (cwR (
  .c (uM rfl)<|
  .c (uB rfl (qd3 _ _) rfl)<|.nil rfl) ?_)
 rcases cdS h0 with ⟨hc0,h1⟩ | ⟨hc0,h2⟩
 ·refine cwT rfl hc0 ?_
  refine cwS (cwR (
   .c (uM rfl)<|
   .c (uA rfl)<|
   .c (uA rfl)<|.nil rfl) ?_)
  have heq := ((sJ h1)).symm
  subst heq
  exact qw ⟨_,(show Leads _ _ (St.of [(6,.d (qk ([]))),(7,.d (eErr x0.2.1))] [(0,.own (qd 1 x0.2.2.1)),(1,.own (qc x0.2.2.2))]) from .w (wkF ⟨⟨_,rfl,.nil0⟩,wD rfl,trivial⟩ ⟨.own rfl (.st (.cons (.av (.ifc (.ptro rfl rfl))) (.cons (.arr rfl) .nil))),.own rfl (.of_eq rfl (q9 _)),trivial⟩ (qv rfl))),.inr rfl,_,res2 rfl rfl rfl,rfl,rfl⟩
 refine cwF rfl hc0 ?_
 refine cwK ?_
 refine cwS ?_
 have ⟨x1,hx1,h3⟩ := bdS (x := frOf x0.1) h2
 refine cwS (cwR (
  .c (uM rfl)<|
  .c (qp2 (y := qW x1) rfl rfl .no rfl (qr2 hx1))<|
  .c (qa2 rfl rfl .no rfl qb5 (by decide) rfl rfl)<|
  .c (o_ld rfl rfl .no rfl ta3 rfl rfl)<|
  .c (uB rfl (qd0 _ _) rfl)<|.nil rfl) ?_)
 rcases cdS h3 with ⟨hc1,h4⟩ | ⟨hc1,h5⟩
 ·refine cwT rfl hc1 ?_
  have ⟨x2,hx2,h6⟩ := bdS (x := qk1 x1.2.1 a2) h4
  have ⟨x3,hx3,h7⟩ := bdS (x := qT0 x2) h6
  refine cwS (cwR (
   .c (uM rfl)<|
   .c (qp2 (y := qW x1) rfl rfl .no rfl (qr2 hx1))<|
   .c (qa2 rfl rfl .no rfl qf4 (by decide) rfl rfl)<|
   .c (o_ld rfl rfl .no rfl ta34 rfl rfl)<|
   .c (uM rfl)<|
   .c (qe0 rfl rfl .no Try.func37 rfl rfl (qv4 hx2) (.cons rfl .d (.cons rfl .d .nil)) ⟨trivial,trivial,trivial⟩ (.inl rfl))<|
   .c (qe0 rfl rfl .no Try.func36 rfl rfl (qt3 hx3) (.cons rfl .d .nil) ⟨trivial,trivial⟩ (.inl rfl))<|
   .c (uA rfl)<|
   .c (uA rfl)<|.nil rfl) ?_)
  have heq := ((sJ h7)).symm
  subst heq
  exact qw ⟨_,(show Leads _ _ (St.of [(6,.d (qk x3)),(7,.d (eErr 0))] [(0,.own (qd 1 x0.2.2.1)),(1,.own (qc x0.2.2.2))]) from .w (wkF ⟨wD rfl,wD rfl,trivial⟩ ⟨.own rfl (.st (.cons (.av (.ifc (.ptro rfl rfl))) (.cons (.arr rfl) .nil))),.own rfl (.of_eq rfl (q9 _)),trivial⟩ (qv rfl))),.inr rfl,_,res2 rfl rfl rfl,rfl,rfl⟩
 refine cwF rfl hc1 ?_
 refine cwK ?_
 refine cwS (cwR (
  .c (uA rfl)<|.nil rfl) ?_)
 have ⟨o0,hj0,h8⟩ := bdS h5
 refine cwJ (fun (z : ((List Int) × ttM × (List ttP))) => St.of [(0,.ptr 0 0),(8,.d (qY x0.1)),(10,.arr 3 0)] [(0,.own (qd 1 z.1)),(1,.own (qc z.2.1)),(3,.arr 0 26 (z.2.2.map qf))]) (fun (z : ((List Int) × ttM × (List ttP))) => o0 = (.inl z)) ?_ ?_
 ·intro v0 hv0; subst hv0
  simp only [Sum.elim_inl] at h8
  refine cwW (wkF (l := [(0,.ptr 0 0),(8,.d (qY x0.1)),(10,.d (qk v0.2.2))]) (m := [(0,.own (qd 1 v0.1)),(1,.own (qc v0.2.1))]) ⟨⟨_,rfl,.ptro rfl rfl⟩,wD rfl,⟨_,rfl,.frz rfl rfl rfl⟩,trivial⟩ ⟨.own rfl (.st (.cons (.av (.ifc (.ptro rfl rfl))) (.cons (.arr rfl) .nil))),.own rfl (.of_eq rfl (q9 _)),trivial⟩ (qv rfl)) ?_
  have ⟨x4,hx4,h9⟩ := bdS (x := q41 v0.1 v0.2.2 v0.2.1) h8
  refine cwS (cwR (
   .c (uM rfl)<|
   .c (uM rfl)<|
   .c (qQ (fun n => bif Nat.beq n 0 then 0 else 1) rfl rfl .no Try.func62 rfl rfl (qA3 hx4) (.cons rfl (.p rfl) (.cons rfl .d .nil)) (qQ4 rfl ⟨(by simp [AV.live,lk,Nat.beq]),trivial,trivial⟩ (by decide) rfl (by simp [qd,OB.live,OD.live,OD.lives,AV.live,lk,Nat.beq]) rfl (OD.dat_live (q9 _)) (by simp)) (.inl rfl))<|
   .c (uM rfl)<|
   .c (uE rfl)<|
   .c (uE rfl)<|
   .c (uA rfl)<|
   .c (uA rfl)<|.nil rfl) ?_)
  have ⟨x5,hx5,h10⟩ := bdS (x := qf1 x1.1 x4.1) h9
  refine cwS (cwR (
   .c (uM rfl)<|
   .c (qp2 (y := qW x1) rfl rfl .no rfl (qr2 hx1))<|
   .c (qa2 rfl rfl .no rfl qb5 (by decide) rfl rfl)<|
   .c (o_ld rfl rfl .no rfl ta3 rfl rfl)<|
   .c (uM rfl)<|
   .c (qe0 rfl rfl .no Try.func63 rfl rfl (qK3 hx5) (.cons rfl .d (.cons rfl .d .nil)) ⟨trivial,trivial,trivial⟩ (.inl rfl))<|
   .c (uM rfl)<|
   .c (uA rfl)<|
   .c (uA rfl)<|.nil rfl) ?_)
  have heq := ((sJ h10)).symm
  subst heq
  exact qw ⟨_,(show Leads _ _ (St.of [(6,.d (qk x5)),(7,.d (eErr x4.2.1))] [(0,.own (qd 1 x4.2.2.1)),(1,.own (qc x4.2.2.2))]) from .w (wkF ⟨wD rfl,wD rfl,trivial⟩ ⟨.own rfl (.st (.cons (.av (.ifc (.ptro rfl rfl))) (.cons (.arr rfl) .nil))),.own rfl (.of_eq rfl (q9 _)),trivial⟩ (qv rfl))),.inr rfl,_,res2 rfl rfl rfl,rfl,rfl⟩
 refine cwS (cwR (
  .c (uM rfl)<|
  .c (qp2 (y := qW x1) rfl rfl .no rfl (qr2 hx1))<|
  .c (qa2 rfl rfl .no rfl q42 (by decide) rfl rfl)<|
  .c (o_ld rfl rfl .no rfl ta95 rfl rfl)<|
  .c (qV (enc := qf) (xs := x1.2.2) rfl rfl .no rfl sl95)<|
  .c (uM rfl)<|.nil rfl) ?_)
 refine cwB ?_
 refine qM (V := ((List ttC) × Int × (List Int) × ttM × (List ttP))) (O := (((List Int) × ttM × (List ttP)) ⊕ ((List ttP) × Int × (List Int) × ttM))) (fun (z : ((List ttC) × Int × (List Int) × ttM × (List ttP))) => St.of [(0,.ptr 0 0),(2,.d (eSC z.1)),(8,.d (qY x0.1)),(10,.arr 3 0),(41,.d (qk x1.2.2)),(42,.d (eint (x1.2.2.length : Int))),(43,.d (eint z.2.1))] [(0,.own (qd 1 z.2.2.1)),(1,.own (qc z.2.2.2.1)),(3,.arr 0 26 (z.2.2.2.2.map qf))]) hj0 (.w (wkF ⟨⟨_,rfl,.ptro rfl rfl⟩,wD rfl,wD rfl,⟨_,rfl,.nila rfl rfl⟩,wD rfl,wD rfl,wD rfl,trivial⟩ ⟨.own rfl (.st (.cons (.av (.ifc (.ptro rfl rfl))) (.cons (.arr rfl) .nil))),.own rfl (.of_eq rfl (q9 _)),.nil rfl,trivial⟩ (qv rfl))) ?_
 intro v1 x6 hb0 hx6
 refine cwS (cwR (
  .c (uB rfl (qG0 _ _) rfl)<|.nil rfl) ?_)
 refine cwS ?_
 rcases cdS hb0 with ⟨hc2,h11⟩ | ⟨hc2,h12⟩
 ·refine cwT rfl hc2 ?_
  refine cwK ?_
  have ⟨o1,hj1,h13⟩ := bdS h11
  refine cwJ (fun (z : ((List ttC) × (List Int) × ttM × (List ttP))) => St.of [(0,.ptr 0 0),(2,.d (eSC z.1)),(8,.d (qY x0.1)),(10,.arr 3 0),(41,.d (qk x1.2.2)),(42,.d (eint (x1.2.2.length : Int))),(43,.d (eint v1.2.1))] [(0,.own (qd 1 z.2.1)),(1,.own (qc z.2.2.1)),(3,.arr 0 26 (z.2.2.2.map qf))]) (fun (z : ((List ttC) × (List Int) × ttM × (List ttP))) => o1 = (.inl z)) ?_ ?_
  ·intro v2 hv1; subst hv1
   simp only [Sum.elim_inl] at h13
   refine cwR (
    .c (uB rfl (qN0 _ _) rfl)<|
    .c (uM rfl)<|.nil rfl
   ) ?_
   exact ⟨(v2.1,(IntKind.wrap .i64 (v1.2.1 + 1)),v2.2.1,v2.2.2.1,v2.2.2.2),(sJ h13),.w (wkF ⟨⟨_,rfl,.ptro rfl rfl⟩,wD rfl,wD rfl,⟨_,rfl,.arr rfl rfl⟩,wD rfl,wD rfl,wD rfl,trivial⟩ ⟨.own rfl (.st (.cons (.av (.ifc (.ptro rfl rfl))) (.cons (.arr rfl) .nil))),.own rfl (.of_eq rfl (q9 _)),.arr rfl rfl,trivial⟩ (qv rfl))⟩
  refine cwB ?_
  have ⟨x7,hx7,h14⟩ := bdS hj1
  have hx7g := qD hx7
  refine cwS (cwR (
   .c (uM rfl)<|
   .c (qJ1 (enc := qf) (xs := x1.2.2) rfl rfl .no rfl rfl sl95 qj2 hx7g.1 hx7g.2)<|
   .c (o_ld rfl rfl .no rfl qA5 rfl (qq x7))<|
   .c (q50 2 rfl rfl .no qj5 rfl)<|
   .c (uA rfl)<|
   .c (o_st [] rfl .no rfl rfl rfl rfl rfl qj2 (qq x7) (qq ((List.replicate 24 0),0,(none : Option Fr))))<|.nil rfl) ?_)
  refine cwS (cwR (
   .c (uM rfl)<|
   .c (qV (enc := eCg) (xs := v1.1) rfl rfl .no rfl sl22)<|
   .c (uA rfl)<|.nil rfl) ?_)
  have ⟨o2,hj2,h15⟩ := bdS h14
  refine cwJ (fun (z : Int) => St.of [(0,.ptr 0 0),(2,.d (eSC v1.1)),(8,.d (qY x0.1)),(10,.arr 3 0),(12,.ptr 2 0),(13,.d (eint z)),(41,.d (qk x1.2.2)),(42,.d (eint (x1.2.2.length : Int))),(43,.d (eint v1.2.1))] [(0,.own (qd 1 v1.2.2.1)),(1,.own (qc v1.2.2.2.1)),(2,.box (.d (qf x7))),(3,.arr 0 26 (v1.2.2.2.2.map qf))]) (fun (z : Int) => o2 = z) ?_ ?_
  ·intro v3 hv2; subst hv2
   have ⟨x8,hx8,h16⟩ := bdS h15
   have hx8g := qt1 hx8
   refine cwS (cwR (
    .c (uM rfl)<|
    .c (uM rfl)<|
    .c (o_slM (enc := eCg) (xs := v1.1) rfl rfl .no rfl sl22 sz33 .no (.val rfl hx8g.2.1) hx8g.2.2.1 hx8g.2.2.2)<|
    .c (uA rfl)<|.nil rfl) ?_)
   have ⟨x9,hx9,h17⟩ := bdS h16
   have hx9g := qt1 hx9
   refine cwS (cwR (
    .c (uM rfl)<|
    .c (uM rfl)<|
    .c (o_slM (enc := eCg) (xs := v1.1) rfl rfl .no rfl sl22 sz33 (.val rfl hx9g.1) .no hx9g.2.2.1 hx9g.2.2.2)<|
    .c (uA rfl)<|.nil rfl) ?_)
   refine cwS ?_
   refine cwS (cwR (
    .c (uM rfl)<|
    .c (qV (enc := eCg) (xs := (qY0 v1.1 0 o2)) rfl rfl .no rfl sl22)<|
    .c (uB rfl (qd0 _ _) rfl)<|.nil rfl) ?_)
   rcases cdS h17 with ⟨hc3,h18⟩ | ⟨hc3,h19⟩
   ·refine cwT rfl hc3 ?_
    have ⟨x10,hx10,h20⟩ := bdS h18
    have hx10g := qj0 hx10
    refine cwS (cwR (
     .c (uM rfl)<|
     .c (qA [] rfl rfl .no rfl rfl rfl qA5 rfl (qq x7))<|
     .c (qu5 (rows := ([x7] : List ttP).map qf) rfl rfl .no (.cons rfl .nil) rfl sl95 qj2 qj5 rfl (qL1 qq) (by decide))<|
     .c (qo2 (enc := qf) (xs := v1.2.2.2.2) (ys := [x7]) rfl rfl .no rfl rfl rfl qq sl95 sl95 qj2 by101 qj5 rfl (by decide) hx10g)<|
     .c (uA rfl)<|.nil rfl) ?_)
    refine q10 ?_
    exact ⟨((qY0 v1.1 o2 (v1.1.length : Int)),v1.2.2.1,v1.2.2.2.1,(v1.2.2.2.2 ++ [x7])),(sJ h20),.w (wkF ⟨⟨_,rfl,.ptro rfl rfl⟩,wD rfl,wD rfl,⟨_,rfl,.arr rfl rfl⟩,wD rfl,wD rfl,wD rfl,trivial⟩ ⟨.own rfl (.st (.cons (.av (.ifc (.ptro rfl rfl))) (.cons (.arr rfl) .nil))),.own rfl (.of_eq rfl (q9 _)),.arr0 rfl rfl rfl,trivial⟩ (qv rfl))⟩
   refine cwF rfl hc3 ?_
   refine cwK ?_
   have ⟨x11,hx11,h21⟩ := bdS (x := self v1.2.2.1 x7.2.1 (qY0 v1.1 0 o2) v1.2.2.2.1) h19
   refine cwS (cwR (
    .c (uM rfl)<|
    .c (uF rfl fld101_1 rfl)<|
    .c (uL [1] rfl ta3 rfl)<|
    .c (uM rfl)<|
    .c (qQ (fun n => bif Nat.beq n 0 then 0 else 1) rfl rfl .no Try.func38 rfl rfl (self_ok hx11) (.cons rfl (.p rfl) (.cons rfl .d (.cons rfl .d .nil))) (qQ4 rfl ⟨(by simp [AV.live,lk,Nat.beq]),trivial,trivial,trivial⟩ (by decide) rfl (by simp [qd,OB.live,OD.live,OD.lives,AV.live,lk,Nat.beq]) rfl (OD.dat_live (q9 _)) (by simp)) (.inl rfl))<|
    .c (uM rfl)<|
    .c (uE rfl)<|
    .c (uE rfl)<|
    .c (uA rfl)<|
    .c (uA rfl)<|.nil rfl) ?_)
   refine cwS ?_
   refine cwS (cwR (
    .c (uM rfl)<|
    .c (uB rfl (qd3 _ _) rfl)<|.nil rfl) ?_)
   rcases cdS h21 with ⟨hc4,h22⟩ | ⟨hc4,h23⟩
   ·refine cwT rfl hc4 ?_
    refine cwS (cwR (
     .c (uM rfl)<|
     .c (uA rfl)<|
     .c (uA rfl)<|.nil rfl) ?_)
    have he0 := ((sJ h22)).symm
    subst he0
    have he1 := ((hx6 _ (sJ h13)).symm).symm
    subst he1
    have heq := ((sJ h8)).symm
    subst heq
    exact qw ⟨_,(show Leads _ _ (St.of [(6,.d (qk ([]))),(7,.d (eErr x11.2.1))] [(0,.own (qd 1 x11.2.2.1)),(1,.own (qc x11.2.2.2))]) from .w (wkF ⟨⟨_,rfl,.nil0⟩,wD rfl,trivial⟩ ⟨.own rfl (.st (.cons (.av (.ifc (.ptro rfl rfl))) (.cons (.arr rfl) .nil))),.own rfl (.of_eq rfl (q9 _)),trivial⟩ (qv rfl))),.inr rfl,_,res2 rfl rfl rfl,rfl,rfl⟩
   refine cwF rfl hc4 ?_
   refine cwK ?_
   have ⟨x12,hx12,h24⟩ := bdS h23
   have hx12g := qj0 hx12
   refine cwR (
    .c (uM rfl)<|
    .c (uM rfl)<|
    .c (qo2 (enc := qf) (xs := v1.2.2.2.2) (ys := x11.1) rfl rfl .no rfl rfl rfl qq sl95 sl95 qj2 by101 qj5 rfl (by decide) hx12g)<|
    .c (uA rfl)<|.nil rfl
   ) ?_
   exact ⟨((qY0 v1.1 o2 (v1.1.length : Int)),x11.2.2.1,x11.2.2.2,(v1.2.2.2.2 ++ x11.1)),(sJ h24),.w (wkF ⟨⟨_,rfl,.ptro rfl rfl⟩,wD rfl,wD rfl,⟨_,rfl,.arr rfl rfl⟩,wD rfl,wD rfl,wD rfl,trivial⟩ ⟨.own rfl (.st (.cons (.av (.ifc (.ptro rfl rfl))) (.cons (.arr rfl) .nil))),.own rfl (.of_eq rfl (q9 _)),.arr0 rfl rfl rfl,trivial⟩ (qv rfl))⟩
  refine cwS (cwR (
   .c (uM rfl)<|
   .c (uB rfl (qN0 _ _) rfl)<|
   .c (uM rfl)<|
   .c (qp2 (y := qW x1) rfl rfl .no rfl (qr2 hx1))<|
   .c (qa2 rfl rfl .no rfl q42 (by decide) rfl rfl)<|
   .c (o_ld rfl rfl .no rfl ta95 rfl rfl)<|
   .c (qV (enc := qf) (xs := x1.2.2) rfl rfl .no rfl sl95)<|
   .c (uB rfl (qG0 _ _) rfl)<|.nil rfl) ?_)
  rcases cdS hj2 with ⟨hc5,h25⟩ | ⟨hc5,h26⟩
  ·refine cwT rfl hc5 ?_
   have ⟨x13,hx13,h27⟩ := bdS h25
   have hx13g := qD hx13
   have ⟨x14,hx14,h28⟩ := bdS (x := qS v1.1 x13.1) h27
   refine cwR (
    .c (uM rfl)<|
    .c (uM rfl)<|
    .c (qp2 (y := qW x1) rfl rfl .no rfl (qr2 hx1))<|
    .c (qa2 rfl rfl .no rfl q42 (by decide) rfl rfl)<|
    .c (o_ld rfl rfl .no rfl ta95 rfl rfl)<|
    .c (uM rfl)<|
    .c (uB rfl (qN0 _ _) rfl)<|
    .c (qJ1 (enc := qf) (xs := x1.2.2) rfl rfl .no rfl rfl sl95 qj2 hx13g.1 hx13g.2)<|
    .c (qa2 rfl rfl .no rfl fld101_0 (by decide) rfl rfl)<|
    .c (o_ld rfl rfl .no rfl ta31 rfl rfl)<|
    .c (qe0 rfl rfl .no Try.func60 rfl rfl (qU2 hx14) (.cons rfl .d (.cons rfl .d (.cons rfl .f0 .nil))) ⟨trivial,trivial,(by simp [AV.live,AV.lives]),trivial⟩ (.inl rfl))<|
    .c (uM rfl)<|
    .c (uE rfl)<|
    .c (uE rfl)<|
    .c (uA rfl)<|.nil rfl
   ) ?_
   exact ⟨x14.1,(sJ h28),.w (wkF ⟨⟨_,rfl,.ptro rfl rfl⟩,wD rfl,wD rfl,⟨_,rfl,.arr rfl rfl⟩,⟨_,rfl,.ptr rfl rfl⟩,wD rfl,wD rfl,wD rfl,wD rfl,trivial⟩ ⟨.own rfl (.st (.cons (.av (.ifc (.ptro rfl rfl))) (.cons (.arr rfl) .nil))),.own rfl (.of_eq rfl (q9 _)),.box rfl (.d rfl),.arr rfl rfl,trivial⟩ (qv rfl))⟩
  refine cwF rfl hc5 ?_
  refine cwK ?_
  exact ⟨(v1.1.length : Int),(sJ h26),.w (wkF ⟨⟨_,rfl,.ptro rfl rfl⟩,wD rfl,wD rfl,⟨_,rfl,.arr rfl rfl⟩,⟨_,rfl,.ptr rfl rfl⟩,wD rfl,wD rfl,wD rfl,wD rfl,trivial⟩ ⟨.own rfl (.st (.cons (.av (.ifc (.ptro rfl rfl))) (.cons (.arr rfl) .nil))),.own rfl (.of_eq rfl (q9 _)),.box rfl (.d rfl),.arr rfl rfl,trivial⟩ (qv rfl))⟩
 refine cwF rfl hc2 ?_
 refine q10 ?_
 exact ⟨(v1.2.2.1,v1.2.2.2.1,v1.2.2.2.2),(hx6 _ (sJ h12)).symm,.w (wkF ⟨⟨_,rfl,.ptro rfl rfl⟩,wD rfl,⟨_,rfl,.arr rfl rfl⟩,trivial⟩ ⟨.own rfl (.st (.cons (.av (.ifc (.ptro rfl rfl))) (.cons (.arr rfl) .nil))),.own rfl (.of_eq rfl (q9 _)),.arr rfl rfl,trivial⟩ (qv rfl))⟩
theorem qZ1 : ∀ (n : Nat) {a0 : (List Int)} {a1 : Int} {a2 : List ttC} {b1 : ttM} {r : ((List ttP) × Int × (List Int) × ttM)},q80 n a0 a1 a2 b1 = some r → FnOk Try.prog 38 [.ptr 0 0,.d (eint a1),.d (eSC a2)] 2 (lk [(0,.own (qd 1 a0)),(1,.own (qc b1))]) (fun rr oo => rr = .tup [.d (qk r.1),.d (eErr r.2.1)] ∧ oo = lk [(0,.own (qd 1 r.2.2.1)),(1,.own (qc r.2.2.2))])
 | 0,_,_,_,_,_,h => nomatch h
 | n + 1,_,_,_,_,_,h => qV2 (self := q80 n) (fun h => qZ1 n h) h
theorem q64 {a0 : (List Int)} {a1 : Int} {a2 : List ttC} {b1 : ttM} {r : ((List ttP) × Int × (List Int) × ttM)} (h : qV0 a0 a1 a2 b1 = some r) : FnOk Try.prog 38 [.ptr 0 0,.d (eint a1),.d (eSC a2)] 2 (lk [(0,.own (qd 1 a0)),(1,.own (qc b1))]) (fun rr oo => rr = .tup [.d (qk r.1),.d (eErr r.2.1)] ∧ oo = lk [(0,.own (qd 1 r.2.2.1)),(1,.own (qc r.2.2.2))]) := qZ1 16 h
theorem qI2 {self : (List Int) → ttP → ttM → Option (Int × Int × (List Int) × ttM)} (self_ok : ∀ {a0 : (List Int)} {a1 : ttP} {b1 : ttM} {r : (Int × Int × (List Int) × ttM)},self a0 a1 b1 = some r → FnOk Try.prog 40 [.ptr 0 0,.d (qf a1)] 2 (lk [(0,.own (qd 1 a0)),(1,.own (qc b1))]) (fun rr oo => rr = .tup [.d (eint r.1),.d (eErr r.2.1)] ∧ oo = lk [(0,.own (qd 1 r.2.2.1)),(1,.own (qc r.2.2.2))])) {a0 : (List Int)} {a1 : ttP} {b1 : ttM} {r : (Int × Int × (List Int) × ttM)} (h : qz0 self a0 a1 b1 = some r) : FnOk Try.prog 40 [.ptr 0 0,.d (qf a1)] 2 (lk [(0,.own (qd 1 a0)),(1,.own (qc b1))]) (fun rr oo => rr = .tup [.d (eint r.1),.d (eErr r.2.1)] ∧ oo = lk [(0,.own (qd 1 r.2.2.1)),(1,.own (qc r.2.2.2))]) := by
 refine fnO Try.func40 rfl rfl (cwP ?_)
 unfold qz0 at h
 refine cwS (cwR (
  .c (uX 2 rfl)<|
  .c (uA rfl)<|
  .c (uA rfl)<|.nil rfl) ?_)
 refine cwS ?_
 refine cwS (cwR (
  .c (uF rfl qQ1 rfl)<|
  .c (qA [2] rfl rfl .no rfl rfl rfl ta99 (qX a1.2.2) (qE a1.2.2))<|
  .c (o_pO false rfl rfl .no rfl rfl up99)<|.nil rfl) ?_)
 rcases cdS h with ⟨hc0,h0⟩ | ⟨hc0,h1⟩
 ·refine cwT rfl hc0 ?_
  refine cwL (lOp (o := 0) (y := .st [.ifc 24 (.ptr 1 0),.arr 3 0]) (news := [(3,.arr 0 1 (a0.map eint))]) rfl (.st (.cons (.av rfl) (.cons (.arr rfl) .nil))) rfl rfl ⟨rfl,trivial⟩) ?_
  refine cwW (wkF (l := [(0,.ptr 0 0),(3,.ptr 2 0)]) (m := [(0,.box (.st [.ifc 24 (.ptr 1 0),.arr 3 0])),(1,.own (qc b1)),(2,.box (.d (qf a1))),(3,.arr 0 1 (a0.map eint))]) ⟨⟨_,rfl,.ptr rfl rfl⟩,⟨_,rfl,.ptr rfl rfl⟩,trivial⟩ ⟨.box rfl (.st (.cons (.ifc (.ptro rfl rfl)) (.cons (.arr rfl rfl) .nil))),.own rfl (.of_eq rfl (q9 _)),.box rfl (.d rfl),.arr rfl rfl,trivial⟩ (qv rfl)) ?_
  have ⟨x0,hx0,h2⟩ := bdS (x := qt0 b1 a1.2.1) h0
  refine cwS (cwRA mixed (by kernel_rfl) (
   .c (uM rfl)<|
   .c (uP rfl)<|
   .c (uF rfl fld93_0 rfl)<|
   .c (uL [0] rfl ta90 rfl)<|
   .c (uF rfl fld101_1 rfl)<|
   .c (uL [1] rfl ta3 rfl)<|
   .c (o_inv (fun _ => 1) rfl rfl .no rfl Try.func119 rfl rfl rfl hm24_Inc (q13 hx0) (.cons rfl (.p rfl) (.cons rfl .d .nil)) (by decide) (q40 rfl ⟨(by simp [AV.live,lk,Nat.beq]),trivial,trivial⟩ rfl (OD.dat_live (q9 _)) (by simp)) (.inl rfl))<|
   .c (uA rfl)<|.nil rfl) (by kernel_rfl) ?_)
  have ⟨o0,hj0,h3⟩ := bdS h2
  refine cwJ (fun (z : (List Int)) => St.of [(3,.ptr 2 0),(6,.d (eErr x0.1))] [(0,.own (qd 1 z)),(1,.own (qc x0.2)),(2,.box (.d (qf a1)))]) (fun (z : (List Int)) => o0 = z) ?_ ?_
  ·intro v0 hv0; subst hv0
   refine cwS (cwR (
    .c (uF rfl fld101_1 rfl)<|
    .c (uL [1] rfl ta3 rfl)<|
    .c (uM rfl)<|
    .c (uA rfl)<|
    .c (uA rfl)<|.nil rfl) ?_)
   have heq := ((sJ h3)).symm
   subst heq
   exact qw ⟨_,(show Leads _ _ (St.of [(4,.d (eint a1.2.1)),(5,.d (eErr x0.1))] [(0,.own (qd 1 o0)),(1,.own (qc x0.2))]) from .w (wkF ⟨wD rfl,wD rfl,trivial⟩ ⟨.own rfl (.st (.cons (.av (.ifc (.ptro rfl rfl))) (.cons (.arr rfl) .nil))),.own rfl (.of_eq rfl (q9 _)),trivial⟩ (qv rfl))),.inr rfl,_,res2 rfl rfl rfl,rfl,rfl⟩
  refine cwS (cwR (
   .c (uM rfl)<|
   .c (uB rfl (qd0 _ _) rfl)<|.nil rfl) ?_)
  rcases cdS hj0 with ⟨hc1,h4⟩ | ⟨hc1,h5⟩
  ·refine cwT rfl hc1 ?_
   have ⟨x1,hx1,h6⟩ := bdS h4
   have hx1g := qj0 hx1
   refine cwRA mixed (by kernel_rfl) (
    .c (uM rfl)<|
    .c (uM rfl)<|
    .c (uP rfl)<|
    .c (uF rfl fld93_1 rfl)<|
    .c (uL [1] rfl ta59 rfl)<|
    .c (uF rfl fld101_1 rfl)<|
    .c (uL [1] rfl ta3 rfl)<|
    .c (qu5 (rows := ([a1.2.1] : List Int).map eint) rfl rfl .no (.cons rfl .nil) rfl sl59 sz3 ze3 rfl (qL1 siint) (by decide))<|
    .c (qo2 (enc := eint) (xs := a0) (ys := [a1.2.1]) rfl rfl .no rfl rfl rfl siint sl59 sl59 sz3 by3 ze3 rfl (by decide) hx1g)<|
    .c (uP rfl)<|
    .c (uF rfl fld93_1 rfl)<|
    .c (uS [1] rfl sz59 rfl)<|.nil rfl) (by kernel_rfl) ?_
   exact ⟨(a0 ++ [a1.2.1]),(sJ h6),.trans (lPk (o := 0) (y := .st [.ifc 24 (.ptr 1 0),.arr 3 (0 + 1)]) (x := qd 1 (a0 ++ [a1.2.1])) (l := [(3,.ptr 2 0),(6,.d (eErr x0.1))]) (m := [(0,.own (qd 1 (a0 ++ [a1.2.1]))),(1,.own (qc x0.2)),(2,.box (.d (qf a1)))]) rfl (.st (.cons (.av rfl) (.cons (.arr rfl) .nil))) rfl rfl ⟨⟨rfl,(by simp [AV.live,AV.lives,lk,Nat.beq])⟩,⟨rfl,trivial⟩,trivial⟩ ⟨.inl rfl,(.inr ⟨rfl,(OD.dat_live (q9 _))⟩),(.inr ⟨rfl,trivial⟩),trivial⟩ rfl (by simp [qd,OB.live,OD.live,OD.lives,AV.live,lk,Nat.beq]) ⟨rfl,trivial⟩ (qv rfl)) (.w (wkF ⟨⟨_,rfl,.ptr rfl rfl⟩,wD rfl,trivial⟩ ⟨.own rfl (.st (.cons (.av (.ifc (.ptro rfl rfl))) (.cons (.arr rfl) .nil))),.own rfl (.of_eq rfl (q9 _)),.box rfl (.d rfl),trivial⟩ (qv rfl)))⟩
  refine cwF rfl hc1 ?_
  refine cwK ?_
  exact ⟨a0,(sJ h5),.trans (lPk (o := 0) (y := .st [.ifc 24 (.ptr 1 0),.arr 3 0]) (x := qd 1 a0) (l := [(3,.ptr 2 0),(6,.d (eErr x0.1))]) (m := [(0,.own (qd 1 a0)),(1,.own (qc x0.2)),(2,.box (.d (qf a1)))]) rfl (.st (.cons (.av rfl) (.cons (.arr rfl) .nil))) rfl rfl ⟨⟨rfl,(by simp [AV.live,AV.lives,lk,Nat.beq])⟩,⟨rfl,trivial⟩,trivial⟩ ⟨.inl rfl,(.inr ⟨rfl,(OD.dat_live (q9 _))⟩),(.inr ⟨rfl,trivial⟩),trivial⟩ rfl (by simp [qd,OB.live,OD.live,OD.lives,AV.live,lk,Nat.beq]) ⟨rfl,trivial⟩ (qv rfl)) (.w (wkF ⟨⟨_,rfl,.ptr rfl rfl⟩,wD rfl,trivial⟩ ⟨.own rfl (.st (.cons (.av (.ifc (.ptro rfl rfl))) (.cons (.arr rfl) .nil))),.own rfl (.of_eq rfl (q9 _)),.box rfl (.d rfl),trivial⟩ (qv rfl)))⟩
 refine cwF rfl hc0 ?_
 refine cwK ?_
 have ⟨x2,hx2,h7⟩ := bdS (x := frOf a1.2.2) h1
 refine cwS (cwRA mixed (by kernel_rfl) (
  .c (uF rfl qQ1 rfl)<|
  .c (qA [2] rfl rfl .no rfl rfl rfl ta99 (qX a1.2.2) (qE a1.2.2))<|
  .c (qp2 (y := qW x2) rfl rfl .no rfl (qr2 hx2))<|
  .c (qa2 rfl rfl .no rfl qb5 (by decide) rfl rfl)<|
  .c (o_ld rfl rfl .no rfl ta3 rfl rfl)<|
  .c (uF rfl qQ1 rfl)<|
  .c (qA [2] rfl rfl .no rfl rfl rfl ta99 (qX a1.2.2) (qE a1.2.2))<|
  .c (qp2 (y := qW x2) rfl rfl .no rfl (qr2 hx2))<|
  .c (qa2 rfl rfl .no rfl qf4 (by decide) rfl rfl)<|
  .c (o_ld rfl rfl .no rfl ta34 rfl rfl)<|
  .c (o_bldA rfl rfl .no zo46 rfl pl46 (.cons rfl rfl rfl rfl rfl rfl rfl (.cons rfl rfl rfl rfl rfl rfl rfl .nil)))<|
  .c (q50 4 rfl rfl .no ze46 rfl)<|
  .c (uS [] rfl sz46 rfl)<|.nil rfl) (by kernel_rfl) ?_)
 have ⟨o1,hj1,h8⟩ := bdS h7
 refine cwJ (fun (z : ((List Int) × ttM × ttN)) => St.of [(0,.ptr 0 0),(7,.ptr 4 0)] [(0,.own (qd 1 z.1)),(1,.own (qc z.2.1)),(4,.own (qh4 z.2.2))]) (fun (z : ((List Int) × ttM × ttN)) => o1 = (.inl z)) ?_ ?_
 ·intro v1 hv1; subst hv1
  simp only [Sum.elim_inl] at h8
  refine cwL (lOp (o := 4) (y := .st [.d (eint v1.2.2.1),.d (eSP_ v1.2.2.2.1),.arr 7 0]) (news := [(7,.arr 0 25 (v1.2.2.2.2.map qP))]) rfl (.st (.cons (.av rfl) (.cons (.av rfl) (.cons (.arr rfl) .nil)))) rfl rfl ⟨rfl,trivial⟩) ?_
  refine cwW (wkF (l := [(0,.ptr 0 0),(7,.ptr 4 0)]) (m := [(0,.own (qd 1 v1.1)),(1,.own (qc v1.2.1)),(4,.box (.st [.d (eint v1.2.2.1),.d (eSP_ v1.2.2.2.1),.arr 7 0])),(7,.arr 0 25 (v1.2.2.2.2.map qP))]) ⟨⟨_,rfl,.ptro rfl rfl⟩,⟨_,rfl,.ptr rfl rfl⟩,trivial⟩ ⟨.own rfl (.st (.cons (.av (.ifc (.ptro rfl rfl))) (.cons (.arr rfl) .nil))),.own rfl (.of_eq rfl (q9 _)),.box rfl (.st (.cons (.d rfl) (.cons (.d rfl) (.cons (.arr rfl rfl) .nil)))),.arr rfl rfl,trivial⟩ (qv rfl)) ?_
  refine cwW (wkF (l := [(0,.ptr 0 0),(7,.ptr 4 0)]) (m := [(0,.own (qd 1 v1.1)),(1,.own (qc v1.2.1)),(4,.box (.d (qm (v1.2.2.1,v1.2.2.2.1,v1.2.2.2.2))))]) ⟨⟨_,rfl,.ptro rfl rfl⟩,⟨_,rfl,.ptr rfl rfl⟩,trivial⟩ ⟨.own rfl (.st (.cons (.av (.ifc (.ptro rfl rfl))) (.cons (.arr rfl) .nil))),.own rfl (.of_eq rfl (q9 _)),.box rfl (.flat (.cons (.d rfl) (.cons (.d rfl) (.cons (.frz rfl rfl rfl) .nil)))),trivial⟩ (qv rfl)) ?_
  refine cwL (lOp (o := 0) (y := .st [.ifc 24 (.ptr 1 0),.arr 8 0]) (news := [(8,.arr 0 1 (v1.1.map eint))]) rfl (.st (.cons (.av rfl) (.cons (.arr rfl) .nil))) rfl rfl ⟨rfl,trivial⟩) ?_
  refine cwW (wkF (l := [(0,.ptr 0 0),(7,.ptr 4 0)]) (m := [(0,.box (.st [.ifc 24 (.ptr 1 0),.arr 8 0])),(1,.own (qc v1.2.1)),(4,.box (.d (qm (v1.2.2.1,v1.2.2.2.1,v1.2.2.2.2)))),(8,.arr 0 1 (v1.1.map eint))]) ⟨⟨_,rfl,.ptr rfl rfl⟩,⟨_,rfl,.ptr rfl rfl⟩,trivial⟩ ⟨.box rfl (.st (.cons (.ifc (.ptro rfl rfl)) (.cons (.arr rfl rfl) .nil))),.own rfl (.of_eq rfl (q9 _)),.box rfl (.d rfl),.arr rfl rfl,trivial⟩ (qv rfl)) ?_
  have ⟨x3,hx3,h9⟩ := bdS (x := qO0 v1.2.1 (v1.2.2.1,v1.2.2.2.1,v1.2.2.2.2)) h8
  refine cwS (cwRA mixed (by kernel_rfl) (
   .c (uM rfl)<|
   .c (uP rfl)<|
   .c (uF rfl fld93_0 rfl)<|
   .c (uL [0] rfl ta90 rfl)<|
   .c (uL [] rfl ta46 rfl)<|
   .c (o_inv (fun _ => 1) rfl rfl .no rfl Try.func120 rfl rfl rfl hm24_Put (tree_Memory_Put_ok hx3) (.cons rfl (.p rfl) (.cons rfl .d .nil)) (by decide) (q40 rfl ⟨(by simp [AV.live,lk,Nat.beq]),trivial,trivial⟩ rfl (OD.dat_live (q9 _)) (by simp)) (.inl rfl))<|
   .c (uM rfl)<|
   .c (uE rfl)<|
   .c (uE rfl)<|
   .c (uA rfl)<|
   .c (uA rfl)<|.nil rfl) (by kernel_rfl) ?_)
  have ⟨o2,hj2,h10⟩ := bdS h9
  refine cwJ (fun (z : (List Int)) => St.of [(12,.d (eint x3.1)),(13,.d (eErr x3.2.1))] [(0,.own (qd 1 z)),(1,.own (qc x3.2.2))]) (fun (z : (List Int)) => o2 = z) ?_ ?_
  ·intro v2 hv2; subst hv2
   refine cwS (cwR (
    .c (uM rfl)<|
    .c (uM rfl)<|
    .c (uA rfl)<|
    .c (uA rfl)<|.nil rfl) ?_)
   have heq := ((sJ h10)).symm
   subst heq
   exact qw ⟨_,(show Leads _ _ (St.of [(4,.d (eint x3.1)),(5,.d (eErr x3.2.1))] [(0,.own (qd 1 o2)),(1,.own (qc x3.2.2))]) from .w (wkF ⟨wD rfl,wD rfl,trivial⟩ ⟨.own rfl (.st (.cons (.av (.ifc (.ptro rfl rfl))) (.cons (.arr rfl) .nil))),.own rfl (.of_eq rfl (q9 _)),trivial⟩ (qv rfl))),.inr rfl,_,res2 rfl rfl rfl,rfl,rfl⟩
  refine cwS (cwR (
   .c (uM rfl)<|
   .c (uB rfl (qd0 _ _) rfl)<|.nil rfl) ?_)
  rcases cdS hj2 with ⟨hc2,h11⟩ | ⟨hc2,h12⟩
  ·refine cwT rfl hc2 ?_
   have ⟨x4,hx4,h13⟩ := bdS h11
   have hx4g := qj0 hx4
   refine cwR (
    .c (uM rfl)<|
    .c (uM rfl)<|
    .c (uP rfl)<|
    .c (uF rfl fld93_1 rfl)<|
    .c (uL [1] rfl ta59 rfl)<|
    .c (uM rfl)<|
    .c (qu5 (rows := ([x3.1] : List Int).map eint) rfl rfl .no (.cons rfl .nil) rfl sl59 sz3 ze3 rfl (qL1 siint) (by decide))<|
    .c (qo2 (enc := eint) (xs := v1.1) (ys := [x3.1]) rfl rfl .no rfl rfl rfl siint sl59 sl59 sz3 by3 ze3 rfl (by decide) hx4g)<|
    .c (uP rfl)<|
    .c (uF rfl fld93_1 rfl)<|
    .c (uS [1] rfl sz59 rfl)<|.nil rfl
   ) ?_
   exact ⟨(v1.1 ++ [x3.1]),(sJ h13),.trans (lPk (o := 0) (y := .st [.ifc 24 (.ptr 1 0),.arr 8 (0 + 1)]) (x := qd 1 (v1.1 ++ [x3.1])) (l := [(12,.d (eint x3.1)),(13,.d (eErr x3.2.1))]) (m := [(0,.own (qd 1 (v1.1 ++ [x3.1]))),(1,.own (qc x3.2.2))]) rfl (.st (.cons (.av rfl) (.cons (.arr rfl) .nil))) rfl rfl ⟨⟨rfl,trivial⟩,⟨rfl,trivial⟩,trivial⟩ ⟨.inl rfl,(.inr ⟨rfl,(OD.dat_live (q9 _))⟩),trivial⟩ rfl (by simp [qd,OB.live,OD.live,OD.lives,AV.live,lk,Nat.beq]) ⟨rfl,trivial⟩ (qv rfl)) (.w (wkF ⟨wD rfl,wD rfl,trivial⟩ ⟨.own rfl (.st (.cons (.av (.ifc (.ptro rfl rfl))) (.cons (.arr rfl) .nil))),.own rfl (.of_eq rfl (q9 _)),trivial⟩ (qv rfl)))⟩
  refine cwF rfl hc2 ?_
  refine cwK ?_
  exact ⟨v1.1,(sJ h12),.trans (lPk (o := 0) (y := .st [.ifc 24 (.ptr 1 0),.arr 8 0]) (x := qd 1 v1.1) (l := [(12,.d (eint x3.1)),(13,.d (eErr x3.2.1))]) (m := [(0,.own (qd 1 v1.1)),(1,.own (qc x3.2.2))]) rfl (.st (.cons (.av rfl) (.cons (.arr rfl) .nil))) rfl rfl ⟨⟨rfl,trivial⟩,⟨rfl,trivial⟩,trivial⟩ ⟨.inl rfl,(.inr ⟨rfl,(OD.dat_live (q9 _))⟩),trivial⟩ rfl (by simp [qd,OB.live,OD.live,OD.lives,AV.live,lk,Nat.beq]) ⟨rfl,trivial⟩ (qv rfl)) (.w (wkF ⟨wD rfl,wD rfl,trivial⟩ ⟨.own rfl (.st (.cons (.av (.ifc (.ptro rfl rfl))) (.cons (.arr rfl) .nil))),.own rfl (.of_eq rfl (q9 _)),trivial⟩ (qv rfl)))⟩
 refine cwS (cwR (
  .c (uF rfl qQ1 rfl)<|
  .c (qA [2] rfl rfl .no rfl rfl rfl ta99 (qX a1.2.2) (qE a1.2.2))<|
  .c (qp2 (y := qW x2) rfl rfl .no rfl (qr2 hx2))<|
  .c (qa2 rfl rfl .no rfl q42 (by decide) rfl rfl)<|
  .c (o_ld rfl rfl .no rfl ta95 rfl rfl)<|
  .c (qV (enc := qf) (xs := x2.2.2) rfl rfl .no rfl sl95)<|
  .c (uM rfl)<|.nil rfl) ?_)
 refine cwB ?_
 refine qM (V := (Int × (List Int) × ttM × ttN)) (O := (((List Int) × ttM × ttN) ⊕ (Int × Int × (List Int) × ttM))) (fun (z : (Int × (List Int) × ttM × ttN)) => St.of [(0,.ptr 0 0),(7,.ptr 4 0),(55,.d (qk x2.2.2)),(56,.d (eint (x2.2.2.length : Int))),(57,.d (eint z.1))] [(0,.own (qd 1 z.2.1)),(1,.own (qc z.2.2.1)),(4,.own (qh4 z.2.2.2))]) hj1 (.trans (lPk (o := 4) (y := .st [.d (eint x2.1),.d (eSP_ x2.2.1),.d (.v (.slice none 0 0))]) (x := qh4 (x2.1,x2.2.1,[])) (l := [(0,.ptr 0 0),(7,.ptr 4 0),(55,.d (qk x2.2.2)),(56,.d (eint (x2.2.2.length : Int))),(57,.d (eint 0))]) (m := [(0,.own (qd 1 a0)),(1,.own (qc b1)),(4,.own (qh4 (x2.1,x2.2.1,[])))]) rfl (.st (.cons (.av rfl) (.cons (.av rfl) (.cons (.nil rfl) .nil)))) rfl rfl ⟨⟨rfl,(by simp [AV.live,AV.lives,lk,Nat.beq])⟩,⟨rfl,(by simp [AV.live,AV.lives,lk,Nat.beq])⟩,⟨rfl,trivial⟩,⟨rfl,trivial⟩,⟨rfl,trivial⟩,trivial⟩ ⟨(.inr ⟨rfl,(by simp [qd,OB.live,OD.live,OD.lives,AV.live,lk,Nat.beq])⟩),(.inr ⟨rfl,(OD.dat_live (q9 _))⟩),.inl rfl,trivial⟩ rfl (OD.dat_live (qA2 _)) trivial (qv rfl)) (.w (wkF ⟨⟨_,rfl,.ptro rfl rfl⟩,⟨_,rfl,.ptro rfl rfl⟩,wD rfl,wD rfl,wD rfl,trivial⟩ ⟨.own rfl (.st (.cons (.av (.ifc (.ptro rfl rfl))) (.cons (.arr rfl) .nil))),.own rfl (.of_eq rfl (q9 _)),.own rfl (.of_eq rfl (qA2 _)),trivial⟩ (qv rfl)))) ?_
 intro v3 x5 hb0 hx5
 refine cwS (cwR (
  .c (uB rfl (qG0 _ _) rfl)<|.nil rfl) ?_)
 refine cwS ?_
 rcases cdS hb0 with ⟨hc3,h14⟩ | ⟨hc3,h15⟩
 ·refine cwT rfl hc3 ?_
  refine cwK ?_
  refine cwS ?_
  refine cwB ?_
  have ⟨x6,hx6,h16⟩ := bdS h14
  have hx6g := qD hx6
  refine cwS (cwR (
   .c (qJ1 (enc := qf) (xs := x2.2.2) rfl rfl .no rfl rfl sl95 qj2 hx6g.1 hx6g.2)<|
   .c (o_ld rfl rfl .no rfl qA5 rfl (qq x6))<|
   .c (q50 5 rfl rfl .no qj5 rfl)<|
   .c (o_st [] rfl .no rfl rfl rfl rfl rfl qj2 (qq x6) (qq ((List.replicate 24 0),0,(none : Option Fr))))<|.nil rfl) ?_)
  have ⟨x7,hx7,h17⟩ := bdS (x := self v3.2.1 x6 v3.2.2.1) h16
  refine cwS (cwR (
   .c (uM rfl)<|
   .c (qA [] rfl rfl .no rfl rfl rfl qA5 rfl (qq x6))<|
   .c (qQ (fun n => bif Nat.beq n 0 then 0 else 1) rfl rfl .no Try.func40 rfl rfl (self_ok hx7) (.cons rfl (.p rfl) (.cons rfl .d .nil)) (qQ4 rfl ⟨(by simp [AV.live,lk,Nat.beq]),trivial,trivial⟩ (by decide) rfl (by simp [qd,OB.live,OD.live,OD.lives,AV.live,lk,Nat.beq]) rfl (OD.dat_live (q9 _)) (by simp)) (.inl rfl))<|
   .c (uM rfl)<|
   .c (uE rfl)<|
   .c (uE rfl)<|
   .c (uA rfl)<|
   .c (uA rfl)<|.nil rfl) ?_)
  refine cwS ?_
  refine cwS (cwR (
   .c (uM rfl)<|
   .c (uB rfl (qd3 _ _) rfl)<|.nil rfl) ?_)
  rcases cdS h17 with ⟨hc4,h18⟩ | ⟨hc4,h19⟩
  ·refine cwT rfl hc4 ?_
   refine cwS (cwR (
    .c (uM rfl)<|
    .c (uA rfl)<|
    .c (uA rfl)<|.nil rfl) ?_)
   have he0 := ((hx5 _ (sJ h18)).symm).symm
   subst he0
   have heq := ((sJ h8)).symm
   subst heq
   exact qw ⟨_,(show Leads _ _ (St.of [(4,.d (eint 0)),(5,.d (eErr x7.2.1))] [(0,.own (qd 1 x7.2.2.1)),(1,.own (qc x7.2.2.2))]) from .w (wkF ⟨wD rfl,wD rfl,trivial⟩ ⟨.own rfl (.st (.cons (.av (.ifc (.ptro rfl rfl))) (.cons (.arr rfl) .nil))),.own rfl (.of_eq rfl (q9 _)),trivial⟩ (qv rfl))),.inr rfl,_,res2 rfl rfl rfl,rfl,rfl⟩
  refine cwF rfl hc4 ?_
  refine cwK ?_
  refine cwL (lOp (o := 4) (y := .st [.d (eint v3.2.2.2.1),.d (eSP_ v3.2.2.2.2.1),.arr 6 0]) (news := [(6,.arr 0 25 (v3.2.2.2.2.2.map qP))]) rfl (.st (.cons (.av rfl) (.cons (.av rfl) (.cons (.arr rfl) .nil)))) rfl rfl ⟨rfl,trivial⟩) ?_
  refine cwW (wkF (l := [(0,.ptr 0 0),(7,.ptr 4 0),(9,.ptr 5 0),(10,.d (eint x7.1)),(55,.d (qk x2.2.2)),(56,.d (eint (x2.2.2.length : Int))),(57,.d (eint v3.1))]) (m := [(0,.own (qd 1 x7.2.2.1)),(1,.own (qc x7.2.2.2)),(4,.box (.st [.d (eint v3.2.2.2.1),.d (eSP_ v3.2.2.2.2.1),.arr 6 0])),(5,.box (.d (qf x6))),(6,.arr 0 25 (v3.2.2.2.2.2.map qP))]) ⟨⟨_,rfl,.ptro rfl rfl⟩,⟨_,rfl,.ptr rfl rfl⟩,⟨_,rfl,.ptr rfl rfl⟩,wD rfl,wD rfl,wD rfl,wD rfl,trivial⟩ ⟨.own rfl (.st (.cons (.av (.ifc (.ptro rfl rfl))) (.cons (.arr rfl) .nil))),.own rfl (.of_eq rfl (q9 _)),.box rfl (.st (.cons (.d rfl) (.cons (.d rfl) (.cons (.arr rfl rfl) .nil)))),.box rfl (.d rfl),.arr rfl rfl,trivial⟩ (qv rfl)) ?_
  have ⟨x8,hx8,h20⟩ := bdS h19
  have hx8g := qj0 hx8
  refine cwR (
   .c (uF rfl qo0 rfl)<|
   .c (uL [2] rfl ta44 rfl)<|
   .c (uF rfl fld101_0 rfl)<|
   .c (uL [0] rfl ta31 rfl)<|
   .c (uM rfl)<|
   .c (qz5 (ds := [eK x6.1,eint x7.1]) rfl rfl .no zs69 rfl pl69 (.cons rfl rfl rfl rfl rfl rfl rfl (.cons rfl rfl rfl rfl rfl rfl rfl .nil)))<|
   .c (qu5 (rows := ([(x6.1,x7.1)] : List ttK).map qP) rfl rfl .no (.cons rfl .nil) rfl sl44 sz69 ze69 rfl (qL1 siapiKid) (by decide))<|
   .c (qo2 (enc := qP) (xs := v3.2.2.2.2.2) (ys := [(x6.1,x7.1)]) rfl rfl .no rfl rfl rfl siapiKid sl44 sl44 sz69 by69 ze69 rfl (by decide) hx8g)<|
   .c (uF rfl qo0 rfl)<|
   .c (uS [2] rfl sz44 rfl)<|.nil rfl
  ) ?_
  refine cwR (
   .c (uB rfl (qN0 _ _) rfl)<|
   .c (uM rfl)<|.nil rfl
  ) ?_
  exact ⟨((IntKind.wrap .i64 (v3.1 + 1)),x7.2.2.1,x7.2.2.2,(v3.2.2.2.1,v3.2.2.2.2.1,(v3.2.2.2.2.2 ++ [(x6.1,x7.1)]))),(sJ h20),.trans (lPk (o := 4) (y := .st [.d (eint v3.2.2.2.1),.d (eSP_ v3.2.2.2.2.1),.arr 6 (0 + 1)]) (x := qh4 (v3.2.2.2.1,v3.2.2.2.2.1,(v3.2.2.2.2.2 ++ [(x6.1,x7.1)]))) (l := [(0,.ptr 0 0),(7,.ptr 4 0),(55,.d (qk x2.2.2)),(56,.d (eint (x2.2.2.length : Int))),(57,.d (eint (IntKind.wrap .i64 (v3.1 + 1))))]) (m := [(0,.own (qd 1 x7.2.2.1)),(1,.own (qc x7.2.2.2)),(4,.own (qh4 (v3.2.2.2.1,v3.2.2.2.2.1,(v3.2.2.2.2.2 ++ [(x6.1,x7.1)]))))]) rfl (.st (.cons (.av rfl) (.cons (.av rfl) (.cons (.arr rfl) .nil)))) rfl rfl ⟨⟨rfl,(by simp [AV.live,AV.lives,lk,Nat.beq])⟩,⟨rfl,(by simp [AV.live,AV.lives,lk,Nat.beq])⟩,⟨rfl,trivial⟩,⟨rfl,trivial⟩,⟨rfl,trivial⟩,trivial⟩ ⟨(.inr ⟨rfl,(by simp [qd,OB.live,OD.live,OD.lives,AV.live,lk,Nat.beq])⟩),(.inr ⟨rfl,(OD.dat_live (q9 _))⟩),.inl rfl,trivial⟩ rfl (OD.dat_live (qA2 _)) ⟨rfl,trivial⟩ (qv rfl)) (.w (wkF ⟨⟨_,rfl,.ptro rfl rfl⟩,⟨_,rfl,.ptro rfl rfl⟩,wD rfl,wD rfl,wD rfl,trivial⟩ ⟨.own rfl (.st (.cons (.av (.ifc (.ptro rfl rfl))) (.cons (.arr rfl) .nil))),.own rfl (.of_eq rfl (q9 _)),.own rfl (.of_eq rfl (qA2 _)),trivial⟩ (qv rfl)))⟩
 refine cwF rfl hc3 ?_
 refine q10 ?_
 exact ⟨(v3.2.1,v3.2.2.1,v3.2.2.2),(hx5 _ (sJ h15)).symm,.w (wkF ⟨⟨_,rfl,.ptro rfl rfl⟩,⟨_,rfl,.ptro rfl rfl⟩,trivial⟩ ⟨.own rfl (.st (.cons (.av (.ifc (.ptro rfl rfl))) (.cons (.arr rfl) .nil))),.own rfl (.of_eq rfl (q9 _)),.own rfl (.of_eq rfl (qA2 _)),trivial⟩ (qv rfl))⟩
theorem qS1 : ∀ (n : Nat) {a0 : (List Int)} {a1 : ttP} {b1 : ttM} {r : (Int × Int × (List Int) × ttM)},ql0 n a0 a1 b1 = some r → FnOk Try.prog 40 [.ptr 0 0,.d (qf a1)] 2 (lk [(0,.own (qd 1 a0)),(1,.own (qc b1))]) (fun rr oo => rr = .tup [.d (eint r.1),.d (eErr r.2.1)] ∧ oo = lk [(0,.own (qd 1 r.2.2.1)),(1,.own (qc r.2.2.2))])
 | 0,_,_,_,_,h => nomatch h
 | n + 1,_,_,_,_,h => qI2 (self := ql0 n) (fun h => qS1 n h) h
theorem qC3 {a0 : (List Int)} {a1 : ttP} {b1 : ttM} {r : (Int × Int × (List Int) × ttM)} (h : qa1 a0 a1 b1 = some r) : FnOk Try.prog 40 [.ptr 0 0,.d (qf a1)] 2 (lk [(0,.own (qd 1 a0)),(1,.own (qc b1))]) (fun rr oo => rr = .tup [.d (eint r.1),.d (eErr r.2.1)] ∧ oo = lk [(0,.own (qd 1 r.2.2.1)),(1,.own (qc r.2.2.2))]) := qS1 16 h
end
end Go.Val
