/- Walks of the program's functions,printed. -/
import Derived.Test.YtfbnhflapgddbaaWg
import Derived.Test.YtfbnhflapgddbaaHr
set_option linter.all false
set_option maxRecDepth 100000
namespace Go.Val
open Go.RowKit Go.Proofs
section
variable [NoDrw]
noncomputable def qc1 (a0 : List (List ttR)) : Option (List ttR) := (((qN (V := (Int × Int)) (O := Int) (fun v0 => cond (decide (v0.2 < (a0.length : Int))) ((gx a0 v0.2).bind fun x0 => cond (decide ((IntKind.wrap .i64 (v0.1 + (x0.length : Int))) < 0)) (none) (some (.inl ((IntKind.wrap .i64 (v0.1 + (x0.length : Int))),(IntKind.wrap .i64 (v0.2 + 1)))))) (some (.inr v0.1))) (0,0)
 ) : Option Int)).bind fun o0 => (ck (decide (0 ≤ o0 ∧ o0.toNat * 40 ≤ 140737488355328))).bind fun _ => (((qN (V := (Int × (List ttR))) (O := (List ttR)) (fun v1 => cond (decide (v1.1 < (a0.length : Int))) ((gx a0 v1.1).bind fun x1 => (fits (v1.2.length + x1.length) 40).bind fun _ => some (.inl ((IntKind.wrap .i64 (v1.1 + 1)),(v1.2 ++ x1)))) (some (.inr v1.2))) (0,([] : List ttR))
 ) : Option (List ttR))).bind fun o1 => some o1
noncomputable def qb1 (a0 : List (List ttP)) : Option (List ttP) := (((qN (V := (Int × Int)) (O := Int) (fun v0 => cond (decide (v0.2 < (a0.length : Int))) ((gx a0 v0.2).bind fun x0 => cond (decide ((IntKind.wrap .i64 (v0.1 + (x0.length : Int))) < 0)) (none) (some (.inl ((IntKind.wrap .i64 (v0.1 + (x0.length : Int))),(IntKind.wrap .i64 (v0.2 + 1)))))) (some (.inr v0.1))) (0,0)
 ) : Option Int)).bind fun o0 => (ck (decide (0 ≤ o0 ∧ o0.toNat * 40 ≤ 140737488355328))).bind fun _ => (((qN (V := (Int × (List ttP))) (O := (List ttP)) (fun v1 => cond (decide (v1.1 < (a0.length : Int))) ((gx a0 v1.1).bind fun x1 => (fits (v1.2.length + x1.length) 40).bind fun _ => some (.inl ((IntKind.wrap .i64 (v1.1 + 1)),(v1.2 ++ x1)))) (some (.inr v1.2))) (0,([] : List ttP))
 ) : Option (List ttP))).bind fun o1 => some o1
def qW0 (a0 : List ttP) : Option (List ttP) := (fits (([] : List ttP).length + a0.length) 40).bind fun _ => some a0
noncomputable def ql0 (self : (List Int) → (List ttP) → ttM → Option ((List ttP) × Int × (List Int) × ttM)) (a0 : (List Int)) (a1 : ttP) (a2 : ttP) (b1 : ttM) : Option ((List ttP) × Int × (List Int) × ttM) := (((
  qN (V := (Int × (List Int) × ttM × ((Option Fr) × (Option Fr)))) (O := (((List Int) × ttM × ((Option Fr) × (Option Fr))) ⊕ ((List ttP) × Int × (List Int) × ttM))) (fun v0 => cond (decide (v0.1 < (([a1,a2]).length : Int))) (((((gx ([a1,a2]) v0.1).bind fun x0 => ((((ck (decide (0 ≤ v0.1 ∧ v0.1 < 2))).bind fun _ => cond (decide (v0.1 = 0)) (some (x0.2.2,v0.2.2.2.2)) (
       some (v0.2.2.2.1,x0.2.2))) : Option ((Option Fr) × (Option Fr)))).bind fun o0 => cond (Option.isNone x0.2.2) ((qX v0.2.1 x0.2.1 v0.2.2.1).bind fun x1 => cond (decide (x1.2.1 ≠ 0)) (some (.inr ([],x1.2.1,x1.2.2.1,x1.2.2.2))) ((ck (decide (0 ≤ v0.1 ∧ v0.1 < 2))).bind fun _ => cond (decide (v0.1 = 0)) (some (.inl (x1.2.2.1,x1.2.2.2,(x1.1,o0.2)))) (
        some (.inl (x1.2.2.1,x1.2.2.2,(o0.1,x1.1)))))) (some (.inl (v0.2.1,v0.2.2.1,o0)))) : Option (((List Int) × ttM × ((Option Fr) × (Option Fr))) ⊕ ((List ttP) × Int × (List Int) × ttM)))).bind fun o1 => Sum.elim (fun (v1 : ((List Int) × ttM × ((Option Fr) × (Option Fr)))) => some (.inl ((IntKind.wrap .i64 (v0.1 + 1)),v1.1,v1.2.1,v1.2.2))) (fun w0 => some (.inr (.inr w0))) o1
   ) (some (.inr (.inl (v0.2.1,v0.2.2.1,v0.2.2.2))))) (0,a0,b1,((none : Option Fr),(none : Option Fr)))) : Option (((List Int) × ttM × ((Option Fr) × (Option Fr))) ⊕ ((List ttP) × Int × (List Int) × ttM)))).bind fun o2 => Sum.elim (fun (v2 : ((List Int) × ttM × ((Option Fr) × (Option Fr)))) => (frOf v2.2.2.1).bind fun x2 => cond (decide (x2.1 = 0)) ((frOf v2.2.2.2).bind fun x3 =>
   (qc1 ([x2.2.1,x3.2.1])).bind fun x4 => (qy0 x4).bind fun x5 => some (x5,0,v2.1,v2.2.1)) ((frOf v2.2.2.2).bind fun x6 => (qb1 ([x2.2.2,x6.2.2])).bind fun x7 => (self v2.1 x7 v2.2.1).bind fun x8 => (qM0 x2.1 x8.1).bind fun x9 => some (x9,x8.2.1,x8.2.2.1,x8.2.2.2))) (fun w1 => some w1) o2
noncomputable def q70 (self : (List Int) → (List ttP) → ttM → Option ((List ttP) × Int × (List Int) × ttM)) (a0 : (List Int)) (a1 : List ttP) (b1 : ttM) : Option ((List ttP) × Int × (List Int) × ttM) := (((qN (V := ((List ttP) × Int × (List Int) × ttM)) (O := (((List ttP) × (List Int) × ttM) ⊕ ((List ttP) × Int × (List Int) × ttM))) (fun v0 => (((
    cond (decide (v0.2.1 < (v0.1.length : Int))) (some (decide ((v0.1.length : Int) > 1))) (some false)) : Option Bool)).bind fun o0 => cond o0 (((((gx v0.1 v0.2.1).bind fun x0 => cond (Option.isNone x0.2.2) (some true) ((qV0 x0.2.2).bind fun x1 => some (!x1))) : Option Bool)).bind fun o1 => cond o1 (some (.inl (v0.1,(IntKind.wrap .i64 (v0.2.1 + 1)),v0.2.2.1,v0.2.2.2))) (
     (gx v0.1 (max (IntKind.wrap .i64 (v0.2.1 - 1)) 0)).bind fun x2 => (gx v0.1 (IntKind.wrap .i64 ((max (IntKind.wrap .i64 (v0.2.1 - 1)) 0) + 1))).bind fun x3 => (ql0 self v0.2.2.1 x2 x3 v0.2.2.2).bind fun x4 => cond (decide (x4.2.1 ≠ 0)) (some (.inr (.inr ([],x4.2.1,x4.2.2.1,x4.2.2.2)))) ((qW0 v0.1).bind fun x5 =>
      (q64 x5 (max (IntKind.wrap .i64 (v0.2.1 - 1)) 0) (IntKind.wrap .i64 ((max (IntKind.wrap .i64 (v0.2.1 - 1)) 0) + 2)) x4.1).bind fun x6 => some (.inl (x6,(max (IntKind.wrap .i64 (v0.2.1 - 1)) 0),x4.2.2.1,x4.2.2.2))))) (some (.inr (.inl (v0.1,v0.2.2.1,v0.2.2.2))))) (a1,0,a0,b1)
 ) : Option (((List ttP) × (List Int) × ttM) ⊕ ((List ttP) × Int × (List Int) × ttM)))).bind fun o2 => Sum.elim (fun (v1 : ((List ttP) × (List Int) × ttM)) => some (v1.1,0,v1.2.1,v1.2.2)) (fun w0 => some w0) o2
noncomputable def qS : Nat → (List Int) → (List ttP) → ttM → Option ((List ttP) × Int × (List Int) × ttM) | 0 => fun _ _ _ => none | n + 1 => q70 (qS n)
noncomputable def qw1 (a0 : (List Int)) (a1 : List ttP) (b1 : ttM) : Option ((List ttP) × Int × (List Int) × ttM) := qS 40 a0 a1 b1
noncomputable def qg0 (self : (List Int) → Int → (List ttC) → ttM → Option ((List ttP) × Int × (List Int) × ttM)) (a0 : (List Int)) (a1 : Int) (a2 : List ttC) (b1 : ttM) : Option ((List ttP) × Int × (List Int) × ttM) := (qX a0 a1 b1).bind fun x0 => cond (decide (x0.2.1 ≠ 0)) (some ([],x0.2.1,x0.2.2.1,x0.2.2.2)) ((frOf x0.1).bind fun x1 =>
  cond (decide (x1.1 = 0)) ((q11 x1.2.1 a2).bind fun x2 => (qy0 x2).bind fun x3 => some (x3,0,x0.2.2.1,x0.2.2.2)) ((((qN (V := ((List ttC) × Int × (List Int) × ttM × (List ttP))) (O := (((List Int) × ttM × (List ttP)) ⊕ ((List ttP) × Int × (List Int) × ttM))) (fun v0 => cond (decide (v0.2.1 < (x1.2.2.length : Int))) (((((gx x1.2.2 v0.2.1).bind fun x4 => (((
        cond (decide ((IntKind.wrap .i64 (v0.2.1 + 1)) < (x1.2.2.length : Int))) ((gx x1.2.2 (IntKind.wrap .i64 (v0.2.1 + 1))).bind fun x5 => (qQ v0.1 x5.1).bind fun x6 => some x6.1) (some (v0.1.length : Int))) : Option Int)).bind fun o0 => (cutB 0 o0 v0.1.length).bind fun _ => (cutB o0 (v0.1.length : Int) v0.1.length).bind fun _ =>
       cond (decide (((qR1 v0.1 0 o0).length : Int) = 0)) ((fits (v0.2.2.2.2.length + ([x4]).length) 40).bind fun _ => some (.inl ((qR1 v0.1 o0 (v0.1.length : Int)),v0.2.2.1,v0.2.2.2.1,(v0.2.2.2.2 ++ [x4])))) ((self v0.2.2.1 x4.2.1 (qR1 v0.1 0 o0) v0.2.2.2.1).bind fun x7 => cond (decide (x7.2.1 ≠ 0)) (some (.inr ([],x7.2.1,x7.2.2.1,x7.2.2.2))) (
         (fits (v0.2.2.2.2.length + x7.1.length) 40).bind fun _ => some (.inl ((qR1 v0.1 o0 (v0.1.length : Int)),x7.2.2.1,x7.2.2.2,(v0.2.2.2.2 ++ x7.1)))))) : Option (((List ttC) × (List Int) × ttM × (List ttP)) ⊕ ((List ttP) × Int × (List Int) × ttM)))).bind fun o1 => Sum.elim (fun (v1 : ((List ttC) × (List Int) × ttM × (List ttP))) =>
       some (.inl (v1.1,(IntKind.wrap .i64 (v0.2.1 + 1)),v1.2.1,v1.2.2.1,v1.2.2.2))) (fun w0 => some (.inr (.inr w0))) o1) (some (.inr (.inl (v0.2.2.1,v0.2.2.2.1,v0.2.2.2.2))))) (a2,0,x0.2.2.1,x0.2.2.2,[])) : Option (((List Int) × ttM × (List ttP)) ⊕ ((List ttP) × Int × (List Int) × ttM)))).bind fun o2 => Sum.elim (fun (v2 : ((List Int) × ttM × (List ttP))) =>
    (qw1 v2.1 v2.2.2 v2.2.1).bind fun x8 => (qM0 x1.1 x8.1).bind fun x9 => some (x9,x8.2.1,x8.2.2.1,x8.2.2.2)) (fun w1 => some w1) o2))
noncomputable def q40 : Nat → (List Int) → Int → (List ttC) → ttM → Option ((List ttP) × Int × (List Int) × ttM) | 0 => fun _ _ _ _ => none | n + 1 => qg0 (q40 n)
noncomputable def qm1 (a0 : (List Int)) (a1 : Int) (a2 : List ttC) (b1 : ttM) : Option ((List ttP) × Int × (List Int) × ttM) := q40 16 a0 a1 a2 b1
noncomputable def qj0 (self : (List Int) → ttP → ttM → Option (Int × Int × (List Int) × ttM)) (a0 : (List Int)) (a1 : ttP) (b1 : ttM) : Option (Int × Int × (List Int) × ttM) := cond (Option.isNone a1.2.2) ((q30 b1 a1.2.1).bind fun x0 => (((cond (decide (x0.1 = 0)) ((fits (a0.length + ([a1.2.1]).length) 8).bind fun _ => some (a0 ++ [a1.2.1])) (some a0)
  ) : Option (List Int))).bind fun o0 => some (a1.2.1,x0.1,o0,x0.2)) ((frOf a1.2.2).bind fun x1 => (((qN (V := (Int × (List Int) × ttM × ttN)) (O := (((List Int) × ttM × ttN) ⊕ (Int × Int × (List Int) × ttM))) (fun v0 => cond (decide (v0.1 < (x1.2.2.length : Int))) ((gx x1.2.2 v0.1).bind fun x2 => (self v0.2.1 x2 v0.2.2.1).bind fun x3 => cond (decide (x3.2.1 ≠ 0)) (
      some (.inr (.inr (0,x3.2.1,x3.2.2.1,x3.2.2.2)))) ((fits (v0.2.2.2.2.2.length + ([(x2.1,x3.1)]).length) 32).bind fun _ => some (.inl ((IntKind.wrap .i64 (v0.1 + 1)),x3.2.2.1,x3.2.2.2,(v0.2.2.2.1,v0.2.2.2.2.1,(v0.2.2.2.2.2 ++ [(x2.1,x3.1)])))))) (some (.inr (.inl (v0.2.1,v0.2.2.1,v0.2.2.2))))) (0,a0,b1,(x1.1,x1.2.1,[]))
  ) : Option (((List Int) × ttM × ttN) ⊕ (Int × Int × (List Int) × ttM)))).bind fun o1 => Sum.elim (fun (v1 : ((List Int) × ttM × ttN)) => (qi0 v1.2.1 (v1.2.2.1,v1.2.2.2.1,v1.2.2.2.2)).bind fun x4 => (((cond (decide (x4.2.1 = 0)) ((fits (v1.1.length + ([x4.1]).length) 8).bind fun _ => some (v1.1 ++ [x4.1])) (some v1.1)) : Option (List Int))).bind fun o2 =>
   some (x4.1,x4.2.1,o2,x4.2.2)) (fun w0 => some w0) o1)
noncomputable def qf0 : Nat → (List Int) → ttP → ttM → Option (Int × Int × (List Int) × ttM) | 0 => fun _ _ _ => none | n + 1 => qj0 (qf0 n)
noncomputable def qa1 (a0 : (List Int)) (a1 : ttP) (b1 : ttM) : Option (Int × Int × (List Int) × ttM) := qf0 16 a0 a1 b1
theorem qd4 {a0} {r} (h : qc1 a0 = some r) : FO 90 [.d (qO2 a0)] 0 [] (.d (eSP_ r)) [] := by
 refine fnO Try.func90 rfl rfl (cwP ?_)
 unfold qc1 at h
 refine cSR (.A rfl<|.nil rfl) ?_
 refine cSR (.A rfl<|.nil rfl) ?_
 have ⟨o0,hj0,h0⟩ := bdS h
 refine cwJ (fun (z : Int) => St.of [(0,.d (qO2 a0)),(3,.d (eint z))] []) (fun z => o0 = z) ?_ ?_
 ·intro v0 hv0; subst hv0
  have ⟨x0,hx0,h1⟩ := bdS h0
  have hx0g := qU4 hx0
  refine cSR (.M rfl<|.c (qW5 0 rfl rfl .no Try.func98 rfl rfl (grow98_ok hx0g) (.cons rfl .d (.cons rfl .d .nil)) ⟨tV,tV,tV⟩ rfl (.inl rfl))<|.A rfl<|.nil rfl) ?_
  have ⟨o1,hj1,h2⟩ := bdS h1
  refine cwJ (fun (z : (List ttR)) => St.of [(6,.arr 0 0)] [(0,.arr 0 25 (z.map ePr))]) (fun z => o1 = z) ?_ ?_
  ·intro v1 hv1; subst hv1
   refine cSR (.M rfl<|.A rfl<|.nil rfl) ?_
   obtain rfl := zQ h2
   exact rt1 rfl rfl rfl
  refine cSR (.M rfl<|.c (qU (enc := eSP_) (xs := a0) rfl rfl .no rfl sl129)<|.M rfl<|.nil rfl) ?_
  refine cwB (qK (fun (z : (Int × (List ttR))) => St.of [(6,.arr 0 0),(25,.d (qO2 a0)),(26,.d (eint (a0.length : Int))),(27,.d (eint z.1))] [(0,.arr 0 25 (z.2.map ePr))]) hj1 (wA1 rfl) ?_)
  intro v2 x1 hb0 hx1
  refine cSR (.B rfl (qO0 _ _) rfl<|.nil rfl) ?_
  refine cwS (cwC hb0 rfl ?_ ?_)
  ·intro hc0 h3
   refine cwK ?_
   refine cwS (cwB ?_)
   have ⟨x2,hx2,h5⟩ := bdS h3
   have hx2g := qB hx2
   refine cSR (.c (qs1 (enc := eSP_) (xs := a0) rfl rfl .no rfl rfl sl129 sz34 hx2g.1 hx2g.2)<|.c (o_ld rfl rfl .no rfl ta34 rfl rfl)<|.A rfl<|.nil rfl) ?_
   have ⟨x3,hx3,h6⟩ := bdS h5
   have hx3g := qV hx3
   refine cwR (.M rfl<|.M rfl<|.c (q02 (enc := ePr) (xs := v2.2) (ys := x2) rfl rfl .no rfl rfl rfl qN0 sl34 sl34 sz52 by52 ze52 rfl (by decide) hx3g)<|.A rfl<|.nil rfl) ?_
   refine cwR (.B rfl (qR0 _ _) rfl<|.M rfl<|.nil rfl) ?_
   exact ⟨((IntKind.wrap .i64 (v2.1 + 1)),(v2.2 ++ x2)),(sJ h6),wA1 rfl⟩
  intro hc0 h4
  refine qR ?_
  exact ⟨v2.2,(hx1 _ (sJ h4)).symm,wA1 rfl⟩
 refine cSR (.M rfl<|.c (qU (enc := eSP_) (xs := a0) rfl rfl .no rfl sl129)<|.M rfl<|.nil rfl) ?_
 refine cwB (qK (fun (z : (Int × Int)) => St.of [(0,.d (qO2 a0)),(3,.d (eint z.1)),(9,.d (qO2 a0)),(10,.d (eint (a0.length : Int))),(11,.d (eint z.2))] []) hj0 (wA1 rfl) ?_)
 intro v3 x4 hb1 hx4
 refine cSR (.B rfl (qO0 _ _) rfl<|.nil rfl) ?_
 refine cwS (cwC hb1 rfl ?_ ?_)
 ·intro hc1 h7
  refine cwK ?_
  refine cwS (cwB ?_)
  have ⟨x5,hx5,h9⟩ := bdS h7
  have hx5g := qB hx5
  refine cSR (.c (qs1 (enc := eSP_) (xs := a0) rfl rfl .no rfl rfl sl129 sz34 hx5g.1 hx5g.2)<|.c (o_ld rfl rfl .no rfl ta34 rfl rfl)<|.A rfl<|.nil rfl) ?_
  refine cSR (.M rfl<|.M rfl<|.c (qU (enc := ePr) (xs := x5) rfl rfl .no rfl sl34)<|.B rfl (qR0 _ _) rfl<|.A rfl<|.nil rfl) ?_
  refine cSR (.M rfl<|.B rfl (qO0 _ _) rfl<|.nil rfl) ?_
  refine cwC h9 rfl ?_ ?_
  ·intro hc2 h10
   exact nomatch h10
  intro hc2 h11
  refine cwK (cwR (.B rfl (qR0 _ _) rfl<|.M rfl<|.nil rfl) ?_)
  exact ⟨((IntKind.wrap .i64 (v3.1 + (x5.length : Int))),(IntKind.wrap .i64 (v3.2 + 1))),(sJ h11),wA1 rfl⟩
 intro hc1 h8
 refine qR ?_
 exact ⟨v3.1,(hx4 _ (sJ h8)).symm,wA1 rfl⟩
theorem qc4 {a0} {r} (h : qb1 a0 = some r) : FO 91 [.d (qd2 a0)] 0 [] (.d (qi r)) [] := by
 refine fnO Try.func91 rfl rfl (cwP ?_)
 unfold qb1 at h
 refine cSR (.A rfl<|.nil rfl) ?_
 refine cSR (.A rfl<|.nil rfl) ?_
 have ⟨o0,hj0,h0⟩ := bdS h
 refine cwJ (fun (z : Int) => St.of [(0,.d (qd2 a0)),(3,.d (eint z))] []) (fun z => o0 = z) ?_ ?_
 ·intro v0 hv0; subst hv0
  have ⟨x0,hx0,h1⟩ := bdS h0
  have hx0g := qU4 hx0
  refine cSR (.M rfl<|.c (qW5 0 rfl rfl .no Try.func99 rfl rfl (grow99_ok hx0g) (.cons rfl .d (.cons rfl .d .nil)) ⟨tV,tV,tV⟩ rfl (.inl rfl))<|.A rfl<|.nil rfl) ?_
  have ⟨o1,hj1,h2⟩ := bdS h1
  refine cwJ (fun (z : (List ttP)) => St.of [(6,.arr 0 0)] [(0,.arr 0 26 (z.map qh))]) (fun z => o1 = z) ?_ ?_
  ·intro v1 hv1; subst hv1
   refine cSR (.M rfl<|.A rfl<|.nil rfl) ?_
   obtain rfl := zQ h2
   exact rt1 rfl rfl rfl
  refine cSR (.M rfl<|.c (qU (enc := qi) (xs := a0) rfl rfl .no rfl sl155)<|.M rfl<|.nil rfl) ?_
  refine cwB (qK (fun (z : (Int × (List ttP))) => St.of [(6,.arr 0 0),(25,.d (qd2 a0)),(26,.d (eint (a0.length : Int))),(27,.d (eint z.1))] [(0,.arr 0 26 (z.2.map qh))]) hj1 (wA1 rfl) ?_)
  intro v2 x1 hb0 hx1
  refine cSR (.B rfl (qO0 _ _) rfl<|.nil rfl) ?_
  refine cwS (cwC hb0 rfl ?_ ?_)
  ·intro hc0 h3
   refine cwK ?_
   refine cwS (cwB ?_)
   have ⟨x2,hx2,h5⟩ := bdS h3
   have hx2g := qB hx2
   refine cSR (.c (qs1 (enc := qi) (xs := a0) rfl rfl .no rfl rfl sl155 sz95 hx2g.1 hx2g.2)<|.c (o_ld rfl rfl .no rfl ta95 rfl rfl)<|.A rfl<|.nil rfl) ?_
   have ⟨x3,hx3,h6⟩ := bdS h5
   have hx3g := qV hx3
   refine cwR (.M rfl<|.M rfl<|.c (q02 (enc := qh) (xs := v2.2) (ys := x2) rfl rfl .no rfl rfl rfl qo sl95 sl95 qH1 by101 qj4 rfl (by decide) hx3g)<|.A rfl<|.nil rfl) ?_
   refine cwR (.B rfl (qR0 _ _) rfl<|.M rfl<|.nil rfl) ?_
   exact ⟨((IntKind.wrap .i64 (v2.1 + 1)),(v2.2 ++ x2)),(sJ h6),wA1 rfl⟩
  intro hc0 h4
  refine qR ?_
  exact ⟨v2.2,(hx1 _ (sJ h4)).symm,wA1 rfl⟩
 refine cSR (.M rfl<|.c (qU (enc := qi) (xs := a0) rfl rfl .no rfl sl155)<|.M rfl<|.nil rfl) ?_
 refine cwB (qK (fun (z : (Int × Int)) => St.of [(0,.d (qd2 a0)),(3,.d (eint z.1)),(9,.d (qd2 a0)),(10,.d (eint (a0.length : Int))),(11,.d (eint z.2))] []) hj0 (wA1 rfl) ?_)
 intro v3 x4 hb1 hx4
 refine cSR (.B rfl (qO0 _ _) rfl<|.nil rfl) ?_
 refine cwS (cwC hb1 rfl ?_ ?_)
 ·intro hc1 h7
  refine cwK ?_
  refine cwS (cwB ?_)
  have ⟨x5,hx5,h9⟩ := bdS h7
  have hx5g := qB hx5
  refine cSR (.c (qs1 (enc := qi) (xs := a0) rfl rfl .no rfl rfl sl155 sz95 hx5g.1 hx5g.2)<|.c (o_ld rfl rfl .no rfl ta95 rfl rfl)<|.A rfl<|.nil rfl) ?_
  refine cSR (.M rfl<|.M rfl<|.c (qU (enc := qh) (xs := x5) rfl rfl .no rfl sl95)<|.B rfl (qR0 _ _) rfl<|.A rfl<|.nil rfl) ?_
  refine cSR (.M rfl<|.B rfl (qO0 _ _) rfl<|.nil rfl) ?_
  refine cwC h9 rfl ?_ ?_
  ·intro hc2 h10
   exact nomatch h10
  intro hc2 h11
  refine cwK (cwR (.B rfl (qR0 _ _) rfl<|.M rfl<|.nil rfl) ?_)
  exact ⟨((IntKind.wrap .i64 (v3.1 + (x5.length : Int))),(IntKind.wrap .i64 (v3.2 + 1))),(sJ h11),wA1 rfl⟩
 intro hc1 h8
 refine qR ?_
 exact ⟨v3.1,(hx4 _ (sJ h8)).symm,wA1 rfl⟩
theorem qa4 {a0} {r} (h : qW0 a0 = some r) : FnOk Try.prog 79 [.d (qi a0)] 0 (lk []) (fun rr oo => rr = .arr 0 0 ∧ oo = lk [(0,.arr 0 26 (List.map qh r))]) := by
 refine fnO Try.func79 rfl rfl (cwP ?_)
 unfold qW0 at h
 have ⟨x0,hx0,h0⟩ := bdS h
 have hx0g := qV hx0
 have heq := zQ h0
 subst heq
 refine cSR (.A rfl<|.nil rfl) ?_
 refine cwS (cwS (qN3 (.cons (uM rfl) <| .any (a_nilq rfl rfl rfl sl95) fun s' hs => .nil rfl ?_)))
 obtain ⟨b,hb,rfl⟩ := hs
 cases b with
 | true =>
  have hz : a0 = [] := List.map_eq_nil_iff.1 (hb rfl)
  subst hz
  refine cwT rfl rfl (cwS (cwR (.A rfl<|.nil rfl) ?_))
  exact qv ⟨_,(show Leads _ _ (St.of [(2,.arr 0 0)] [(0,.arr 0 26 (List.map qh []))]) from .w (wkF ⟨⟨_,rfl,.nila rfl rfl⟩,tV⟩ ⟨.nil rfl,tV⟩ qM)),.inr rfl,_,res1 rfl rfl,rfl,rfl⟩
 | false =>
  refine cwF rfl rfl (cwK ?_)
  refine cSR (.c (o_bslO (rows := ([] : List ttP).map qh) 0 rfl rfl .no .nil rfl sl95 qH1 qj4 rfl (q51 qo) (by decide) rfl)<|.M rfl<|.c (q02 (enc := qh) (xs := ([] : List ttP)) (ys := a0) rfl rfl .no rfl rfl rfl qo sl95 sl95 qH1 by101 qj4 rfl (by decide) hx0g)<|.A rfl<|.nil rfl) ?_
  exact rt1 rfl rfl rfl
theorem qK4 {self : (List Int) → (List ttP) → ttM → Option ((List ttP) × Int × (List Int) × ttM)} (self_ok : ∀ {a0 : (List Int)} {a1 : List ttP} {b1 : ttM} {r : ((List ttP) × Int × (List Int) × ttM)},self a0 a1 b1 = some r → FnOk Try.prog 62 [.ptr 0 0,.d (qi a1)] 2 (lk [(0,.own (qg 1 a0)),(1,.own (qe b1))]) (fun rr oo => rr = .tup [.d (qi r.1),.d (eErr r.2.1)] ∧ oo = lk [(0,.own (qg 1 r.2.2.1)),(1,.own (qe r.2.2.2))])) {a0 : (List Int)} {a1 : ttP} {a2 : ttP} {b1 : ttM} {r : ((List ttP) × Int × (List Int) × ttM)} (h : ql0 self a0 a1 a2 b1 = some r) : FnOk Try.prog 77 [.ptr 0 0,.d (qh a1),.d (qh a2)] 2 (lk [(0,.own (qg 1 a0)),(1,.own (qe b1))]) (fun rr oo => rr = .tup [.d (qi r.1),.d (eErr r.2.1)] ∧ oo = lk [(0,.own (qg 1 r.2.2.1)),(1,.own (qe r.2.2.2))]) := by
 refine fnO Try.func77 rfl rfl (cwP ?_)
 unfold ql0 at h
 refine cSR (.X 2 rfl<|.X 3 rfl<|.A rfl<|.A rfl<|.nil rfl) ?_
 refine cSR (.c (qb0 4 rfl rfl .no ze166 rfl)<|.nil rfl) ?_
 have ⟨o0,hj0,h0⟩ := bdS h
 refine cwJ (fun (z : ((List Int) × ttM × ((Option Fr) × (Option Fr)))) => St.of [(0,.ptr 0 0),(8,.ptr 4 0)] [(0,.own (qg 1 z.1)),(1,.own (qe z.2.1)),(4,.box (.d (qi1 z.2.2)))]) (fun z => o0 = (.inl z)) ?_ ?_
 ·intro v0 hv0; subst hv0
  simp only [zN] at h0
  refine cwS ?_
  have ⟨x0,hx0,h1⟩ := bdS h0
  refine cSR (.c (qd6 rfl rfl .no rfl rfl q86 sz99 (by decide))<|.c (qC [0] rfl rfl .no rfl rfl rfl ta99 (qA v0.2.2.1) (qt v0.2.2.1))<|.c (qy1 (y := qE x0) rfl rfl .no rfl (qx1 hx0))<|.c (qO1 rfl rfl .no rfl qi3 (by decide) rfl rfl)<|.c (o_ld rfl rfl .no rfl ta3 rfl rfl)<|.B rfl (qh0 _ _) rfl<|.nil rfl) ?_
  refine cwC h1 rfl ?_ ?_
  ·intro hc0 h2
   have ⟨x1,hx1,h4⟩ := bdS h2
   have ⟨x2,hx2,h5⟩ := bdS h4
   have ⟨x3,hx3,h6⟩ := bdS h5
   refine cwS (cwRA mixed (by kernel_rfl) (.c (qd6 rfl rfl .no rfl rfl q86 sz99 (by decide))<|.c (qC [0] rfl rfl .no rfl rfl rfl ta99 (qA v0.2.2.1) (qt v0.2.2.1))<|.c (qy1 (y := qE x0) rfl rfl .no rfl (qx1 hx0))<|.c (qO1 rfl rfl .no rfl qs3 (by decide) rfl rfl)<|.c (o_ld rfl rfl .no rfl ta34 rfl rfl)<|.c (qd6 rfl rfl .no rfl rfl q86 sz99 (by decide))<|.c (qC [1] rfl rfl .no rfl rfl (qU5 v0.2.2) ta99 (qA v0.2.2.2) (qt v0.2.2.2))<|.c (qy1 (y := qE x1) rfl rfl .no rfl (qx1 hx1))<|.c (qO1 rfl rfl .no rfl qs3 (by decide) rfl rfl)<|.c (o_ld rfl rfl .no rfl ta34 rfl rfl)<|.c (ql4 (rows := ([x0.2.1,x1.2.1] : List (List ttR)).map eSP_) rfl rfl .no (.cons rfl (.cons rfl .nil)) rfl sl129 sz34 ze34 rfl (q51 qn5) (by decide))<|.c (qc0 rfl rfl .no Try.func90 rfl rfl (qd4 hx2) (.cons rfl .d .nil) ⟨tV,tV⟩ (.inl rfl))<|.c (qc0 rfl rfl .no Try.func36 rfl rfl (qW1 hx3) (.cons rfl .d .nil) ⟨tV,tV⟩ (.inl rfl))<|.A rfl<|.A rfl<|.nil rfl) (by kernel_rfl) ?_)
   obtain rfl := zQ h6
   exact rt2 rfl rfl rfl rfl
  intro hc0 h3
  refine cwK ?_
  have ⟨x4,hx4,h7⟩ := bdS h3
  have ⟨x5,hx5,h8⟩ := bdS h7
  have ⟨x6,hx6,h9⟩ := bdS h8
  refine cwS (cwRA mixed (by kernel_rfl) (.M rfl<|.c (qd6 rfl rfl .no rfl rfl q86 sz99 (by decide))<|.c (qC [0] rfl rfl .no rfl rfl rfl ta99 (qA v0.2.2.1) (qt v0.2.2.1))<|.c (qy1 (y := qE x0) rfl rfl .no rfl (qx1 hx0))<|.c (qO1 rfl rfl .no rfl qj1 (by decide) rfl rfl)<|.c (o_ld rfl rfl .no rfl ta95 rfl rfl)<|.c (qd6 rfl rfl .no rfl rfl q86 sz99 (by decide))<|.c (qC [1] rfl rfl .no rfl rfl (qU5 v0.2.2) ta99 (qA v0.2.2.2) (qt v0.2.2.2))<|.c (qy1 (y := qE x4) rfl rfl .no rfl (qx1 hx4))<|.c (qO1 rfl rfl .no rfl qj1 (by decide) rfl rfl)<|.c (o_ld rfl rfl .no rfl ta95 rfl rfl)<|.c (ql4 (rows := ([x0.2.2,x4.2.2] : List (List ttP)).map qi) rfl rfl .no (.cons rfl (.cons rfl .nil)) rfl sl155 sz95 ze95 rfl (q51 qI4) (by decide))<|.c (qc0 rfl rfl .no Try.func91 rfl rfl (qc4 hx5) (.cons rfl .d .nil) ⟨tV,tV⟩ (.inl rfl))<|.c (qG (fun n => bif Nat.beq n 0 then 0 else 1) rfl rfl .no Try.func62 rfl rfl (self_ok hx6) (.cons rfl (.p rfl) (.cons rfl .d .nil)) (qu2 rfl ⟨(by simp [AV.live,lk,Nat.beq]),tV,tV⟩ (by decide) rfl (by simp [qg,OB.live,OD.live,OD.lives,AV.live,lk,Nat.beq]) rfl (OD.dat_live (qc _)) (by simp)) (.inl rfl))<|.M rfl<|.E rfl<|.E rfl<|.A rfl<|.A rfl<|.nil rfl) (by kernel_rfl) ?_)
  have ⟨x7,hx7,h10⟩ := bdS h9
  refine cSR (.c (qd6 rfl rfl .no rfl rfl q86 sz99 (by decide))<|.c (qC [0] rfl rfl .no rfl rfl rfl ta99 (qA v0.2.2.1) (qt v0.2.2.1))<|.c (qy1 (y := qE x0) rfl rfl .no rfl (qx1 hx0))<|.c (qO1 rfl rfl .no rfl qi3 (by decide) rfl rfl)<|.c (o_ld rfl rfl .no rfl ta3 rfl rfl)<|.M rfl<|.c (qc0 rfl rfl .no Try.func63 rfl rfl (qR2 hx7) (.cons rfl .d (.cons rfl .d .nil)) ⟨tV,tV,tV⟩ (.inl rfl))<|.M rfl<|.A rfl<|.A rfl<|.nil rfl) ?_
  obtain rfl := zQ h10
  exact rt2 rfl rfl rfl rfl
 refine cSR (.c (qC [] rfl rfl .no rfl rfl rfl qD5 rfl (qo a1))<|.c (qC [] rfl rfl .no rfl rfl rfl qD5 rfl (qo a2))<|.c (ql4 (rows := ([a1,a2] : List ttP).map qh) rfl rfl .no (.cons rfl (.cons rfl .nil)) rfl sl95 qH1 qj4 rfl (q51 qo) (by decide))<|.c (qU (enc := qh) (xs := [a1,a2]) rfl rfl .no rfl sl95)<|.M rfl<|.nil rfl) ?_
 refine cwB (qK (fun (z : (Int × (List Int) × ttM × ((Option Fr) × (Option Fr)))) => St.of [(0,.ptr 0 0),(8,.ptr 4 0),(17,.d (qi ([a1,a2]))),(18,.d (eint (([a1,a2]).length : Int))),(19,.d (eint z.1))] [(0,.own (qg 1 z.2.1)),(1,.own (qe z.2.2.1)),(4,.box (.d (qi1 z.2.2.2)))]) hj0 (wA1 rfl) ?_)
 intro v1 x8 hb0 hx8
 refine cSR (.B rfl (qO0 _ _) rfl<|.nil rfl) ?_
 refine cwS (cwC hb0 rfl ?_ ?_)
 ·intro hc1 h11
  refine cwK ?_
  have ⟨o1,hj1,h13⟩ := bdS h11
  refine cwJ (fun (z : ((List Int) × ttM × ((Option Fr) × (Option Fr)))) => St.of [(0,.ptr 0 0),(8,.ptr 4 0),(17,.d (qi ([a1,a2]))),(18,.d (eint (([a1,a2]).length : Int))),(19,.d (eint v1.1))] [(0,.own (qg 1 z.1)),(1,.own (qe z.2.1)),(4,.box (.d (qi1 z.2.2)))]) (fun z => o1 = (.inl z)) ?_ ?_
  ·intro v2 hv1; subst hv1
   simp only [zN] at h13
   refine cwR (.B rfl (qR0 _ _) rfl<|.M rfl<|.nil rfl) ?_
   exact ⟨((IntKind.wrap .i64 (v1.1 + 1)),v2.1,v2.2.1,v2.2.2),(sJ h13),wA1 rfl⟩
  refine cwB ?_
  have ⟨x9,hx9,h14⟩ := bdS hj1
  have hx9g := qB hx9
  refine cSR (.M rfl<|.c (qs1 (enc := qh) (xs := [a1,a2]) rfl rfl .no rfl rfl sl95 qH1 hx9g.1 hx9g.2)<|.c (o_ld rfl rfl .no rfl qD5 rfl (qo x9))<|.c (qb0 5 rfl rfl .no qj4 rfl)<|.A rfl<|.c (o_st [] rfl .no rfl rfl rfl rfl rfl qH1 (qo x9) (qo ((List.replicate 24 0),0,(none : Option Fr))))<|.nil rfl) ?_
  have ⟨o2,hj2,h15⟩ := bdS h14
  refine cwJ (fun (z : ((Option Fr) × (Option Fr))) => St.of [(0,.ptr 0 0),(8,.ptr 4 0),(9,.d (eint v1.1)),(10,.ptr 5 0),(17,.d (qi ([a1,a2]))),(18,.d (eint (([a1,a2]).length : Int))),(19,.d (eint v1.1))] [(0,.own (qg 1 v1.2.1)),(1,.own (qe v1.2.2.1)),(4,.box (.d (qi1 z))),(5,.box (.d (qh x9)))]) (fun z => o2 = z) ?_ ?_
  ·intro v3 hv2; subst hv2
   refine cSR (.F rfl qU0 rfl<|.c (qC [2] rfl rfl .no rfl rfl rfl ta99 (qA x9.2.2) (qt x9.2.2))<|.c (o_pO false rfl rfl .no rfl rfl up99)<|.nil rfl) ?_
   refine cwC h15 rfl ?_ ?_
   ·intro hc2 h16
    have ⟨x10,hx10,h18⟩ := bdS h16
    refine cSR (.M rfl<|.F rfl qC3 rfl<|.L [1] rfl ta3 rfl<|.c (qG (fun n => bif Nat.beq n 0 then 0 else 1) rfl rfl .no Try.func59 rfl rfl (q03 hx10) (.cons rfl (.p rfl) (.cons rfl .d .nil)) (qu2 rfl ⟨(by simp [AV.live,lk,Nat.beq]),tV,tV⟩ (by decide) rfl (by simp [qg,OB.live,OD.live,OD.lives,AV.live,lk,Nat.beq]) rfl (OD.dat_live (qc _)) (by simp)) (.inl rfl))<|.M rfl<|.E rfl<|.E rfl<|.A rfl<|.A rfl<|.nil rfl) ?_
    refine cwS (cSR (.M rfl<|.B rfl (qT2 _ _) rfl<|.nil rfl) ?_)
    refine cwC h18 rfl ?_ ?_
    ·intro hc3 h19
     refine cSR (.M rfl<|.A rfl<|.A rfl<|.nil rfl) ?_
     have he0 := ((sJ h19)).symm
     subst he0
     have he1 := ((hx8 _ (sJ h13)).symm).symm
     subst he1
     obtain rfl := zQ h0
     exact qv ⟨_,(show Leads _ _ (St.of [(6,.d (qi ([]))),(7,.d (eErr x10.2.1))] [(0,.own (qg 1 x10.2.2.1)),(1,.own (qe x10.2.2.2))]) from .w (wkF ⟨⟨_,rfl,.nil0⟩,wD rfl,tV⟩ ⟨oE rfl,oM rfl,tV⟩ (qq rfl))),.inr rfl,_,res2 rfl rfl rfl,rfl,rfl⟩
    intro hc3 h20
    refine cwK ?_
    have ⟨x11,hx11,h21⟩ := bdS h20
    have hx11g := qU4 hx11
    rcases cdS h21 with ⟨hc4,h22⟩ | ⟨hc4,h23⟩
    ·skip
     refine cwR (.M rfl<|.M rfl<|.c (o_ixPc 0 rfl rfl .no rfl rfl q86 sz99 hx11g (ixc0 hc4 hx11g))<|.c (o_st [0] rfl .no rfl rfl rfl rfl rfl sz99 (qt x10.1) (qt o2.1))<|.nil rfl) ?_
     exact ⟨(x10.2.2.1,x10.2.2.2,(x10.1,o2.2)),(sJ h22),wA1 rfl⟩
    refine cwR (.M rfl<|.M rfl<|.c (o_ixPc 1 rfl rfl .no rfl rfl q86 sz99 hx11g (ixc1 hc4 hx11g))<|.c (o_st [1] rfl .no rfl rfl rfl (qU5 o2) rfl sz99 (qt x10.1) (qt o2.2))<|.nil rfl) ?_
    exact ⟨(x10.2.2.1,x10.2.2.2,(o2.1,x10.1)),(sJ h23),wA1 rfl⟩
   intro hc2 h17
   refine cwK ?_
   exact ⟨(v1.2.1,v1.2.2.1,o2),(sJ h17),wA1 rfl⟩
  have ⟨x12,hx12,h24⟩ := bdS hj2
  have hx12g := qU4 hx12
  rcases cdS h24 with ⟨hc5,h25⟩ | ⟨hc5,h26⟩
  ·skip
   refine cwR (.M rfl<|.F rfl qU0 rfl<|.c (qC [2] rfl rfl .no rfl rfl rfl ta99 (qA x9.2.2) (qt x9.2.2))<|.c (o_ixPc 0 rfl rfl .no rfl rfl q86 sz99 hx12g (ixc0 hc5 hx12g))<|.c (o_st [0] rfl .no rfl rfl rfl rfl rfl sz99 (qt x9.2.2) (qt v1.2.2.2.1))<|.nil rfl) ?_
   exact ⟨(x9.2.2,v1.2.2.2.2),(sJ h25),wA1 rfl⟩
  refine cwR (.M rfl<|.F rfl qU0 rfl<|.c (qC [2] rfl rfl .no rfl rfl rfl ta99 (qA x9.2.2) (qt x9.2.2))<|.c (o_ixPc 1 rfl rfl .no rfl rfl q86 sz99 hx12g (ixc1 hc5 hx12g))<|.c (o_st [1] rfl .no rfl rfl rfl (qU5 v1.2.2.2) rfl sz99 (qt x9.2.2) (qt v1.2.2.2.2))<|.nil rfl) ?_
  exact ⟨(v1.2.2.2.1,x9.2.2),(sJ h26),wA1 rfl⟩
 intro hc1 h12
 refine qR ?_
 exact ⟨(v1.2.1,v1.2.2.1,v1.2.2.2),(hx8 _ (sJ h12)).symm,wA1 rfl⟩
theorem qo3 {self : (List Int) → (List ttP) → ttM → Option ((List ttP) × Int × (List Int) × ttM)} (self_ok : ∀ {a0 : (List Int)} {a1 : List ttP} {b1 : ttM} {r : ((List ttP) × Int × (List Int) × ttM)},self a0 a1 b1 = some r → FnOk Try.prog 62 [.ptr 0 0,.d (qi a1)] 2 (lk [(0,.own (qg 1 a0)),(1,.own (qe b1))]) (fun rr oo => rr = .tup [.d (qi r.1),.d (eErr r.2.1)] ∧ oo = lk [(0,.own (qg 1 r.2.2.1)),(1,.own (qe r.2.2.2))])) {a0 : (List Int)} {a1 : List ttP} {b1 : ttM} {r : ((List ttP) × Int × (List Int) × ttM)} (h : q70 self a0 a1 b1 = some r) : FnOk Try.prog 62 [.ptr 0 0,.d (qi a1)] 2 (lk [(0,.own (qg 1 a0)),(1,.own (qe b1))]) (fun rr oo => rr = .tup [.d (qi r.1),.d (eErr r.2.1)] ∧ oo = lk [(0,.own (qg 1 r.2.2.1)),(1,.own (qe r.2.2.2))]) := by
 refine fnO Try.func62 rfl rfl (cwP ?_)
 unfold q70 at h
 refine cSR (.A rfl<|.A rfl<|.nil rfl) ?_
 have ⟨o0,hj0,h0⟩ := bdS h
 refine cwJ (fun (z : ((List ttP) × (List Int) × ttM)) => St.of [(1,.d (qi z.1))] [(0,.own (qg 1 z.2.1)),(1,.own (qe z.2.2))]) (fun z => o0 = (.inl z)) ?_ ?_
 ·intro v0 hv0; subst hv0
  simp only [zN] at h0
  refine cSR (.M rfl<|.A rfl<|.A rfl<|.nil rfl) ?_
  obtain rfl := zQ h0
  exact rt2 rfl rfl rfl rfl
 refine cSR (.A rfl<|.nil rfl) ?_
 refine cwB (qK (fun (z : ((List ttP) × Int × (List Int) × ttM)) => St.of [(0,.ptr 0 0),(1,.d (qi z.1)),(6,.d (eint z.2.1))] [(0,.own (qg 1 z.2.2.1)),(1,.own (qe z.2.2.2))]) hj0 (wA1 rfl) ?_)
 intro v1 x0 hb0 hx0
 refine cwS ?_
 have ⟨o1,hj1,h1⟩ := bdS hb0
 refine cwJ (fun (z : Bool) => St.of [(0,.ptr 0 0),(1,.d (qi v1.1)),(6,.d (eint v1.2.1)),(17,.d (qW z))] [(0,.own (qg 1 v1.2.2.1)),(1,.own (qe v1.2.2.2))]) (fun z => o1 = z) ?_ ?_
 ·intro v2 hv1; subst hv1
  refine cwC h1 rfl ?_ ?_
  ·intro hc0 h2
   refine cwK ?_
   refine cwB (cwS ?_)
   have ⟨o2,hj2,h4⟩ := bdS h2
   refine cwJ (fun (z : Bool) => St.of [(0,.ptr 0 0),(1,.d (qi v1.1)),(6,.d (eint v1.2.1)),(32,.d (qW z))] [(0,.own (qg 1 v1.2.2.1)),(1,.own (qe v1.2.2.2))]) (fun z => o2 = z) ?_ ?_
   ·intro v3 hv2; subst hv2
    refine cwC h4 rfl ?_ ?_
    ·intro hc1 h5
     refine cSR (.M rfl<|.B rfl (qR0 _ _) rfl<|.A rfl<|.nil rfl) ?_
     refine qR ?_
     exact ⟨(v1.1,(IntKind.wrap .i64 (v1.2.1 + 1)),v1.2.2.1,v1.2.2.2),(sJ h5),wA1 rfl⟩
    intro hc1 h6
    refine cwK (cSR (.M rfl<|.B rfl (qS3 _ _) rfl<|.c (o_max rfl rfl .no rfl rfl)<|.A rfl<|.nil rfl) ?_)
    have ⟨x1,hx1,h7⟩ := bdS h6
    have hx1g := qB hx1
    have ⟨x2,hx2,h8⟩ := bdS h7
    have hx2g := qB hx2
    have ⟨x3,hx3,h9⟩ := bdS h8
    refine cwS (cwRA mixed (by kernel_rfl) (.M rfl<|.M rfl<|.M rfl<|.c (qs1 (enc := qh) (xs := v1.1) rfl rfl .no rfl rfl sl95 qH1 hx1g.1 hx1g.2)<|.c (o_ld rfl rfl .no rfl qD5 rfl (qo x1))<|.M rfl<|.M rfl<|.B rfl (qR0 _ _) rfl<|.c (qs1 (enc := qh) (xs := v1.1) rfl rfl .no rfl rfl sl95 qH1 hx2g.1 hx2g.2)<|.c (o_ld rfl rfl .no rfl qD5 rfl (qo x2))<|.c (qG (fun n => bif Nat.beq n 0 then 0 else 1) rfl rfl .no Try.func77 rfl rfl (qK4 self_ok hx3) (.cons rfl (.p rfl) (.cons rfl .d (.cons rfl .d .nil))) (qu2 rfl ⟨(by simp [AV.live,lk,Nat.beq]),tV,tV,tV⟩ (by decide) rfl (by simp [qg,OB.live,OD.live,OD.lives,AV.live,lk,Nat.beq]) rfl (OD.dat_live (qc _)) (by simp)) (.inl rfl))<|.M rfl<|.E rfl<|.E rfl<|.A rfl<|.A rfl<|.nil rfl) (by kernel_rfl) ?_)
    refine cwS (cSR (.M rfl<|.B rfl (qT2 _ _) rfl<|.nil rfl) ?_)
    refine cwC h9 rfl ?_ ?_
    ·intro hc2 h10
     refine cSR (.M rfl<|.A rfl<|.A rfl<|.nil rfl) ?_
     have he0 := ((hx0 _ (sJ h10)).symm).symm
     subst he0
     obtain rfl := zQ h0
     exact qv ⟨_,(show Leads _ _ (St.of [(4,.d (qi ([]))),(5,.d (eErr x3.2.1))] [(0,.own (qg 1 x3.2.2.1)),(1,.own (qe x3.2.2.2))]) from .w (wkF ⟨⟨_,rfl,.nil0⟩,wD rfl,tV⟩ ⟨oE rfl,oM rfl,tV⟩ (qq rfl))),.inr rfl,_,res2 rfl rfl rfl,rfl,rfl⟩
    intro hc2 h11
    refine cwK ?_
    have ⟨x4,hx4,h12⟩ := bdS h11
    have ⟨x5,hx5,h13⟩ := bdS (x := q64 x4 (max (IntKind.wrap .i64 (v1.2.1 - 1)) 0) (IntKind.wrap .i64 ((max (IntKind.wrap .i64 (v1.2.1 - 1)) 0) + 2)) x3.1) h12
    refine cwR (.M rfl<|.c (qW5 2 rfl rfl .no Try.func79 rfl rfl (qa4 hx4) (.cons rfl .d .nil) ⟨tV,tV⟩ rfl (.inl rfl))<|.M rfl<|.M rfl<|.B rfl (qR0 _ _) rfl<|.M rfl<|.c (qG (fun _ => 2) rfl rfl .no Try.func78 rfl rfl (replaceK_ok hx5 0) (.cons rfl (.a rfl) (.cons rfl .d (.cons rfl .d (.cons rfl .d .nil)))) (q20 rfl ⟨(by simp [AV.live,lk,Nat.beq]),tV,tV,tV,tV⟩ rfl trivial (by simp)) (.inl rfl))<|.A rfl<|.nil rfl) ?_
    exact ⟨(x5,(max (IntKind.wrap .i64 (v1.2.1 - 1)) 0),x3.2.2.1,x3.2.2.2),(sJ h13),wA1 rfl⟩
   have ⟨x6,hx6,h14⟩ := bdS hj2
   have hx6g := qB hx6
   rcases cdS h14 with ⟨hc3,h15⟩ | ⟨hc3,h16⟩
   ·skip
    refine cwR (.M rfl<|.M rfl<|.c (qs1 (enc := qh) (xs := v1.1) rfl rfl .no rfl rfl sl95 qH1 hx6g.1 hx6g.2)<|.c (qO1 rfl rfl .no rfl qU0 (by decide) rfl rfl)<|.c (o_ld rfl rfl .no rfl ta99 (qA x6.2.2) (qt x6.2.2))<|.c (o_pO false rfl rfl .no rfl rfl up99)<|.M rfl<|.G rfl rfl hc3<|.G rfl rfl hc3<|.G rfl rfl hc3<|.G rfl rfl hc3<|.G rfl rfl hc3<|.G rfl rfl hc3<|.G rfl rfl hc3<|.I rfl hc3<|.nil rfl) ?_
    exact ⟨true,(sJ h15),wA1 rfl⟩
   have ⟨x7,hx7,h17⟩ := bdS h16
   refine cwR (.M rfl<|.M rfl<|.c (qs1 (enc := qh) (xs := v1.1) rfl rfl .no rfl rfl sl95 qH1 hx6g.1 hx6g.2)<|.c (qO1 rfl rfl .no rfl qU0 (by decide) rfl rfl)<|.c (o_ld rfl rfl .no rfl ta99 (qA x6.2.2) (qt x6.2.2))<|.c (o_pO false rfl rfl .no rfl rfl up99)<|.M rfl<|.c (o_mv rfl rfl (.yes rfl rfl hc3) rfl)<|.c (o_mv rfl rfl (.yes rfl rfl hc3) rfl)<|.c (qs1 (enc := qh) (xs := v1.1) rfl rfl (.yes rfl rfl hc3) rfl rfl sl95 qH1 hx6g.1 hx6g.2)<|.c (qO1 rfl rfl (.yes rfl rfl hc3) rfl qU0 (by decide) rfl rfl)<|.c (o_ld rfl rfl (.yes rfl rfl hc3) rfl ta99 (qA x6.2.2) (qt x6.2.2))<|.c (qc0 rfl rfl (.yes rfl rfl hc3) Try.func76 rfl rfl (qe4 hx7) (.cons rfl .d .nil) ⟨tV,tV⟩ (.inl rfl))<|.c (qb5 rfl rfl (.yes rfl rfl hc3) rfl)<|.J rfl hc3<|.nil rfl) ?_
   exact ⟨(!x7),(sJ h17),wA1 rfl⟩
  intro hc0 h3
  refine qR ?_
  exact ⟨(v1.1,v1.2.2.1,v1.2.2.2),(hx0 _ (sJ h3)).symm,wA1 rfl⟩
 rcases cdS hj1 with ⟨hc4,h18⟩ | ⟨hc4,h19⟩
 ·skip
  refine cwR (.M rfl<|.M rfl<|.c (qU (enc := qh) (xs := v1.1) rfl rfl .no rfl sl95)<|.B rfl (qO0 _ _) rfl<|.M rfl<|.c (o_mv rfl rfl (.yes rfl rfl hc4) rfl)<|.c (qU (enc := qh) (xs := v1.1) rfl rfl (.yes rfl rfl hc4) rfl sl95)<|.c (qn rfl rfl (.yes rfl rfl hc4) rfl rfl (qT3 _ _) rfl)<|.I rfl hc4<|.nil rfl) ?_
  exact ⟨(decide ((v1.1.length : Int) > 1)),(sJ h18),wA1 rfl⟩
 refine cwR (.M rfl<|.M rfl<|.c (qU (enc := qh) (xs := v1.1) rfl rfl .no rfl sl95)<|.B rfl (qO0 _ _) rfl<|.M rfl<|.G rfl rfl hc4<|.G rfl rfl hc4<|.G rfl rfl hc4<|.J rfl hc4<|.nil rfl) ?_
 exact ⟨false,(sJ h19),wA1 rfl⟩
theorem qe2 : ∀ (n : Nat) {a0 : (List Int)} {a1 : List ttP} {b1 : ttM} {r : ((List ttP) × Int × (List Int) × ttM)},qS n a0 a1 b1 = some r → FnOk Try.prog 62 [.ptr 0 0,.d (qi a1)] 2 (lk [(0,.own (qg 1 a0)),(1,.own (qe b1))]) (fun rr oo => rr = .tup [.d (qi r.1),.d (eErr r.2.1)] ∧ oo = lk [(0,.own (qg 1 r.2.2.1)),(1,.own (qe r.2.2.2))])
 | 0,_,_,_,_,h => nomatch h
 | n + 1,_,_,_,_,h => qo3 (self := qS n) (fun h => qe2 n h) h
theorem qi4 {a0} {a1} {b1} {r} (h : qw1 a0 a1 b1 = some r) : FnOk Try.prog 62 [.ptr 0 0,.d (qi a1)] 2 (lk [(0,.own (qg 1 a0)),(1,.own (qe b1))]) (fun rr oo => rr = .tup [.d (qi r.1),.d (eErr r.2.1)] ∧ oo = lk [(0,.own (qg 1 r.2.2.1)),(1,.own (qe r.2.2.2))]) := qe2 40 h
theorem qD3 {self : (List Int) → Int → (List ttC) → ttM → Option ((List ttP) × Int × (List Int) × ttM)} (self_ok : ∀ {a0 : (List Int)} {a1 : Int} {a2 : List ttC} {b1 : ttM} {r : ((List ttP) × Int × (List Int) × ttM)},self a0 a1 a2 b1 = some r → FnOk Try.prog 38 [.ptr 0 0,.d (eint a1),.d (eSC a2)] 2 (lk [(0,.own (qg 1 a0)),(1,.own (qe b1))]) (fun rr oo => rr = .tup [.d (qi r.1),.d (eErr r.2.1)] ∧ oo = lk [(0,.own (qg 1 r.2.2.1)),(1,.own (qe r.2.2.2))])) {a0 : (List Int)} {a1 : Int} {a2 : List ttC} {b1 : ttM} {r : ((List ttP) × Int × (List Int) × ttM)} (h : qg0 self a0 a1 a2 b1 = some r) : FnOk Try.prog 38 [.ptr 0 0,.d (eint a1),.d (eSC a2)] 2 (lk [(0,.own (qg 1 a0)),(1,.own (qe b1))]) (fun rr oo => rr = .tup [.d (qi r.1),.d (eErr r.2.1)] ∧ oo = lk [(0,.own (qg 1 r.2.2.1)),(1,.own (qe r.2.2.2))]) := by
 refine fnO Try.func38 rfl rfl (cwP ?_)
 unfold qg0 at h
 refine cSR (.A rfl<|.A rfl<|.nil rfl) ?_
 have ⟨x0,hx0,h0⟩ := bdS h
 refine cSR (.M rfl<|.M rfl<|.c (qG (fun n => bif Nat.beq n 0 then 0 else 1) rfl rfl .no Try.func59 rfl rfl (q03 hx0) (.cons rfl (.p rfl) (.cons rfl .d .nil)) (qu2 rfl ⟨(by simp [AV.live,lk,Nat.beq]),tV,tV⟩ (by decide) rfl (by simp [qg,OB.live,OD.live,OD.lives,AV.live,lk,Nat.beq]) rfl (OD.dat_live (qc _)) (by simp)) (.inl rfl))<|.M rfl<|.E rfl<|.E rfl<|.A rfl<|.A rfl<|.nil rfl) ?_
 refine cwS (cSR (.M rfl<|.B rfl (qT2 _ _) rfl<|.nil rfl) ?_)
 refine cwC h0 rfl ?_ ?_
 ·intro hc0 h1
  refine cSR (.M rfl<|.A rfl<|.A rfl<|.nil rfl) ?_
  obtain rfl := zQ h1
  exact qv ⟨_,(show Leads _ _ (St.of [(6,.d (qi ([]))),(7,.d (eErr x0.2.1))] [(0,.own (qg 1 x0.2.2.1)),(1,.own (qe x0.2.2.2))]) from .w (wkF ⟨⟨_,rfl,.nil0⟩,wD rfl,tV⟩ ⟨oE rfl,oM rfl,tV⟩ (qq rfl))),.inr rfl,_,res2 rfl rfl rfl,rfl,rfl⟩
 intro hc0 h2
 refine cwK (cwS ?_)
 have ⟨x1,hx1,h3⟩ := bdS h2
 refine cSR (.M rfl<|.c (qy1 (y := qE x1) rfl rfl .no rfl (qx1 hx1))<|.c (qO1 rfl rfl .no rfl qi3 (by decide) rfl rfl)<|.c (o_ld rfl rfl .no rfl ta3 rfl rfl)<|.B rfl (qh0 _ _) rfl<|.nil rfl) ?_
 refine cwC h3 rfl ?_ ?_
 ·intro hc1 h4
  have ⟨x2,hx2,h6⟩ := bdS h4
  have ⟨x3,hx3,h7⟩ := bdS h6
  refine cSR (.M rfl<|.c (qy1 (y := qE x1) rfl rfl .no rfl (qx1 hx1))<|.c (qO1 rfl rfl .no rfl qs3 (by decide) rfl rfl)<|.c (o_ld rfl rfl .no rfl ta34 rfl rfl)<|.M rfl<|.c (qc0 rfl rfl .no Try.func37 rfl rfl (q53 hx2) (.cons rfl .d (.cons rfl .d .nil)) ⟨tV,tV,tV⟩ (.inl rfl))<|.c (qc0 rfl rfl .no Try.func36 rfl rfl (qW1 hx3) (.cons rfl .d .nil) ⟨tV,tV⟩ (.inl rfl))<|.A rfl<|.A rfl<|.nil rfl) ?_
  obtain rfl := zQ h7
  exact rt2 rfl rfl rfl rfl
 intro hc1 h5
 refine cwK (cSR (.A rfl<|.nil rfl) ?_)
 have ⟨o0,hj0,h8⟩ := bdS h5
 refine cwJ (fun (z : ((List Int) × ttM × (List ttP))) => St.of [(0,.ptr 0 0),(8,.d (qJ x0.1)),(10,.arr 3 0)] [(0,.own (qg 1 z.1)),(1,.own (qe z.2.1)),(3,.arr 0 26 (z.2.2.map qh))]) (fun z => o0 = (.inl z)) ?_ ?_
 ·intro v0 hv0; subst hv0
  simp only [zN] at h8
  refine cwW (wA0 (l := [(0,.ptr 0 0),(8,.d (qJ x0.1)),(10,.d (qi v0.2.2))]) (m := [(0,.own (qg 1 v0.1)),(1,.own (qe v0.2.1))]) rfl) ?_
  have ⟨x4,hx4,h9⟩ := bdS h8
  refine cSR (.M rfl<|.M rfl<|.c (qG (fun n => bif Nat.beq n 0 then 0 else 1) rfl rfl .no Try.func62 rfl rfl (qi4 hx4) (.cons rfl (.p rfl) (.cons rfl .d .nil)) (qu2 rfl ⟨(by simp [AV.live,lk,Nat.beq]),tV,tV⟩ (by decide) rfl (by simp [qg,OB.live,OD.live,OD.lives,AV.live,lk,Nat.beq]) rfl (OD.dat_live (qc _)) (by simp)) (.inl rfl))<|.M rfl<|.E rfl<|.E rfl<|.A rfl<|.A rfl<|.nil rfl) ?_
  have ⟨x5,hx5,h10⟩ := bdS h9
  refine cSR (.M rfl<|.c (qy1 (y := qE x1) rfl rfl .no rfl (qx1 hx1))<|.c (qO1 rfl rfl .no rfl qi3 (by decide) rfl rfl)<|.c (o_ld rfl rfl .no rfl ta3 rfl rfl)<|.M rfl<|.c (qc0 rfl rfl .no Try.func63 rfl rfl (qR2 hx5) (.cons rfl .d (.cons rfl .d .nil)) ⟨tV,tV,tV⟩ (.inl rfl))<|.M rfl<|.A rfl<|.A rfl<|.nil rfl) ?_
  obtain rfl := zQ h10
  exact rt2 rfl rfl rfl rfl
 refine cSR (.M rfl<|.c (qy1 (y := qE x1) rfl rfl .no rfl (qx1 hx1))<|.c (qO1 rfl rfl .no rfl qj1 (by decide) rfl rfl)<|.c (o_ld rfl rfl .no rfl ta95 rfl rfl)<|.c (qU (enc := qh) (xs := x1.2.2) rfl rfl .no rfl sl95)<|.M rfl<|.nil rfl) ?_
 refine cwB (qK (fun (z : ((List ttC) × Int × (List Int) × ttM × (List ttP))) => St.of [(0,.ptr 0 0),(2,.d (eSC z.1)),(8,.d (qJ x0.1)),(10,.arr 3 0),(41,.d (qi x1.2.2)),(42,.d (eint (x1.2.2.length : Int))),(43,.d (eint z.2.1))] [(0,.own (qg 1 z.2.2.1)),(1,.own (qe z.2.2.2.1)),(3,.arr 0 26 (z.2.2.2.2.map qh))]) hj0 (.w (wkF ⟨wO rfl,wD rfl,wD rfl,⟨_,rfl,.nila rfl rfl⟩,wD rfl,wD rfl,wD rfl,tV⟩ ⟨oE rfl,oM rfl,.nil rfl,tV⟩ (qq rfl))) ?_)
 intro v1 x6 hb0 hx6
 refine cSR (.B rfl (qO0 _ _) rfl<|.nil rfl) ?_
 refine cwS (cwC hb0 rfl ?_ ?_)
 ·intro hc2 h11
  refine cwK ?_
  have ⟨o1,hj1,h13⟩ := bdS h11
  refine cwJ (fun (z : ((List ttC) × (List Int) × ttM × (List ttP))) => St.of [(0,.ptr 0 0),(2,.d (eSC z.1)),(8,.d (qJ x0.1)),(10,.arr 3 0),(41,.d (qi x1.2.2)),(42,.d (eint (x1.2.2.length : Int))),(43,.d (eint v1.2.1))] [(0,.own (qg 1 z.2.1)),(1,.own (qe z.2.2.1)),(3,.arr 0 26 (z.2.2.2.map qh))]) (fun z => o1 = (.inl z)) ?_ ?_
  ·intro v2 hv1; subst hv1
   simp only [zN] at h13
   refine cwR (.B rfl (qR0 _ _) rfl<|.M rfl<|.nil rfl) ?_
   exact ⟨(v2.1,(IntKind.wrap .i64 (v1.2.1 + 1)),v2.2.1,v2.2.2.1,v2.2.2.2),(sJ h13),wA1 rfl⟩
  refine cwB ?_
  have ⟨x7,hx7,h14⟩ := bdS hj1
  have hx7g := qB hx7
  refine cSR (.M rfl<|.c (qs1 (enc := qh) (xs := x1.2.2) rfl rfl .no rfl rfl sl95 qH1 hx7g.1 hx7g.2)<|.c (o_ld rfl rfl .no rfl qD5 rfl (qo x7))<|.c (qb0 2 rfl rfl .no qj4 rfl)<|.A rfl<|.c (o_st [] rfl .no rfl rfl rfl rfl rfl qH1 (qo x7) (qo ((List.replicate 24 0),0,(none : Option Fr))))<|.nil rfl) ?_
  refine cSR (.M rfl<|.c (qU (enc := eCg) (xs := v1.1) rfl rfl .no rfl sl22)<|.A rfl<|.nil rfl) ?_
  have ⟨o2,hj2,h15⟩ := bdS h14
  refine cwJ (fun (z : Int) => St.of [(0,.ptr 0 0),(2,.d (eSC v1.1)),(8,.d (qJ x0.1)),(10,.arr 3 0),(12,.ptr 2 0),(13,.d (eint z)),(41,.d (qi x1.2.2)),(42,.d (eint (x1.2.2.length : Int))),(43,.d (eint v1.2.1))] [(0,.own (qg 1 v1.2.2.1)),(1,.own (qe v1.2.2.2.1)),(2,.box (.d (qh x7))),(3,.arr 0 26 (v1.2.2.2.2.map qh))]) (fun z => o2 = z) ?_ ?_
  ·intro v3 hv2; subst hv2
   have ⟨x8,hx8,h16⟩ := bdS h15
   have hx8g := qJ2 hx8
   refine cSR (.M rfl<|.M rfl<|.c (o_slM (enc := eCg) (xs := v1.1) rfl rfl .no rfl sl22 sz33 .no (.val rfl hx8g.2.1) hx8g.2.2.1 hx8g.2.2.2)<|.A rfl<|.nil rfl) ?_
   have ⟨x9,hx9,h17⟩ := bdS h16
   have hx9g := qJ2 hx9
   refine cSR (.M rfl<|.M rfl<|.c (o_slM (enc := eCg) (xs := v1.1) rfl rfl .no rfl sl22 sz33 (.val rfl hx9g.1) .no hx9g.2.2.1 hx9g.2.2.2)<|.A rfl<|.nil rfl) ?_
   refine cwS (cSR (.M rfl<|.c (qU (enc := eCg) (xs := (qR1 v1.1 0 o2)) rfl rfl .no rfl sl22)<|.B rfl (qh0 _ _) rfl<|.nil rfl) ?_)
   refine cwC h17 rfl ?_ ?_
   ·intro hc3 h18
    have ⟨x10,hx10,h20⟩ := bdS h18
    have hx10g := qV hx10
    refine cSR (.M rfl<|.c (qC [] rfl rfl .no rfl rfl rfl qD5 rfl (qo x7))<|.c (ql4 (rows := ([x7] : List ttP).map qh) rfl rfl .no (.cons rfl .nil) rfl sl95 qH1 qj4 rfl (q51 qo) (by decide))<|.c (q02 (enc := qh) (xs := v1.2.2.2.2) (ys := [x7]) rfl rfl .no rfl rfl rfl qo sl95 sl95 qH1 by101 qj4 rfl (by decide) hx10g)<|.A rfl<|.nil rfl) ?_
    refine qR ?_
    exact ⟨((qR1 v1.1 o2 (v1.1.length : Int)),v1.2.2.1,v1.2.2.2.1,(v1.2.2.2.2 ++ [x7])),(sJ h20),wA1 rfl⟩
   intro hc3 h19
   refine cwK ?_
   have ⟨x11,hx11,h21⟩ := bdS h19
   refine cSR (.M rfl<|.F rfl qC3 rfl<|.L [1] rfl ta3 rfl<|.M rfl<|.c (qG (fun n => bif Nat.beq n 0 then 0 else 1) rfl rfl .no Try.func38 rfl rfl (self_ok hx11) (.cons rfl (.p rfl) (.cons rfl .d (.cons rfl .d .nil))) (qu2 rfl ⟨(by simp [AV.live,lk,Nat.beq]),tV,tV,tV⟩ (by decide) rfl (by simp [qg,OB.live,OD.live,OD.lives,AV.live,lk,Nat.beq]) rfl (OD.dat_live (qc _)) (by simp)) (.inl rfl))<|.M rfl<|.E rfl<|.E rfl<|.A rfl<|.A rfl<|.nil rfl) ?_
   refine cwS (cSR (.M rfl<|.B rfl (qT2 _ _) rfl<|.nil rfl) ?_)
   refine cwC h21 rfl ?_ ?_
   ·intro hc4 h22
    refine cSR (.M rfl<|.A rfl<|.A rfl<|.nil rfl) ?_
    have he0 := ((sJ h22)).symm
    subst he0
    have he1 := ((hx6 _ (sJ h13)).symm).symm
    subst he1
    obtain rfl := zQ h8
    exact qv ⟨_,(show Leads _ _ (St.of [(6,.d (qi ([]))),(7,.d (eErr x11.2.1))] [(0,.own (qg 1 x11.2.2.1)),(1,.own (qe x11.2.2.2))]) from .w (wkF ⟨⟨_,rfl,.nil0⟩,wD rfl,tV⟩ ⟨oE rfl,oM rfl,tV⟩ (qq rfl))),.inr rfl,_,res2 rfl rfl rfl,rfl,rfl⟩
   intro hc4 h23
   refine cwK ?_
   have ⟨x12,hx12,h24⟩ := bdS h23
   have hx12g := qV hx12
   refine cwR (.M rfl<|.M rfl<|.c (q02 (enc := qh) (xs := v1.2.2.2.2) (ys := x11.1) rfl rfl .no rfl rfl rfl qo sl95 sl95 qH1 by101 qj4 rfl (by decide) hx12g)<|.A rfl<|.nil rfl) ?_
   exact ⟨((qR1 v1.1 o2 (v1.1.length : Int)),x11.2.2.1,x11.2.2.2,(v1.2.2.2.2 ++ x11.1)),(sJ h24),wA1 rfl⟩
  refine cSR (.M rfl<|.B rfl (qR0 _ _) rfl<|.M rfl<|.c (qy1 (y := qE x1) rfl rfl .no rfl (qx1 hx1))<|.c (qO1 rfl rfl .no rfl qj1 (by decide) rfl rfl)<|.c (o_ld rfl rfl .no rfl ta95 rfl rfl)<|.c (qU (enc := qh) (xs := x1.2.2) rfl rfl .no rfl sl95)<|.B rfl (qO0 _ _) rfl<|.nil rfl) ?_
  refine cwC hj2 rfl ?_ ?_
  ·intro hc5 h25
   have ⟨x13,hx13,h27⟩ := bdS h25
   have hx13g := qB hx13
   have ⟨x14,hx14,h28⟩ := bdS h27
   refine cwR (.M rfl<|.M rfl<|.c (qy1 (y := qE x1) rfl rfl .no rfl (qx1 hx1))<|.c (qO1 rfl rfl .no rfl qj1 (by decide) rfl rfl)<|.c (o_ld rfl rfl .no rfl ta95 rfl rfl)<|.M rfl<|.B rfl (qR0 _ _) rfl<|.c (qs1 (enc := qh) (xs := x1.2.2) rfl rfl .no rfl rfl sl95 qH1 hx13g.1 hx13g.2)<|.c (qO1 rfl rfl .no rfl qV4 (by decide) rfl rfl)<|.c (o_ld rfl rfl .no rfl ta31 rfl rfl)<|.c (qc0 rfl rfl .no Try.func60 rfl rfl (q22 hx14) (.cons rfl .d (.cons rfl .d (.cons rfl .f0 .nil))) ⟨tV,tV,(by simp [AV.live,AV.lives]),tV⟩ (.inl rfl))<|.M rfl<|.E rfl<|.E rfl<|.A rfl<|.nil rfl) ?_
   exact ⟨x14.1,(sJ h28),wA1 rfl⟩
  intro hc5 h26
  refine cwK ?_
  exact ⟨(v1.1.length : Int),(sJ h26),wA1 rfl⟩
 intro hc2 h12
 refine qR ?_
 exact ⟨(v1.2.2.1,v1.2.2.2.1,v1.2.2.2.2),(hx6 _ (sJ h12)).symm,wA1 rfl⟩
theorem qw2 : ∀ (n : Nat) {a0 : (List Int)} {a1 : Int} {a2 : List ttC} {b1 : ttM} {r : ((List ttP) × Int × (List Int) × ttM)},q40 n a0 a1 a2 b1 = some r → FnOk Try.prog 38 [.ptr 0 0,.d (eint a1),.d (eSC a2)] 2 (lk [(0,.own (qg 1 a0)),(1,.own (qe b1))]) (fun rr oo => rr = .tup [.d (qi r.1),.d (eErr r.2.1)] ∧ oo = lk [(0,.own (qg 1 r.2.2.1)),(1,.own (qe r.2.2.2))])
 | 0,_,_,_,_,_,h => nomatch h
 | n + 1,_,_,_,_,_,h => qD3 (self := q40 n) (fun h => qw2 n h) h
theorem qN4 {a0} {a1} {a2} {b1} {r} (h : qm1 a0 a1 a2 b1 = some r) : FnOk Try.prog 38 [.ptr 0 0,.d (eint a1),.d (eSC a2)] 2 (lk [(0,.own (qg 1 a0)),(1,.own (qe b1))]) (fun rr oo => rr = .tup [.d (qi r.1),.d (eErr r.2.1)] ∧ oo = lk [(0,.own (qg 1 r.2.2.1)),(1,.own (qe r.2.2.2))]) := qw2 16 h
theorem qu3 {self : (List Int) → ttP → ttM → Option (Int × Int × (List Int) × ttM)} (self_ok : ∀ {a0 : (List Int)} {a1 : ttP} {b1 : ttM} {r : (Int × Int × (List Int) × ttM)},self a0 a1 b1 = some r → FnOk Try.prog 40 [.ptr 0 0,.d (qh a1)] 2 (lk [(0,.own (qg 1 a0)),(1,.own (qe b1))]) (fun rr oo => rr = .tup [.d (eint r.1),.d (eErr r.2.1)] ∧ oo = lk [(0,.own (qg 1 r.2.2.1)),(1,.own (qe r.2.2.2))])) {a0 : (List Int)} {a1 : ttP} {b1 : ttM} {r : (Int × Int × (List Int) × ttM)} (h : qj0 self a0 a1 b1 = some r) : FnOk Try.prog 40 [.ptr 0 0,.d (qh a1)] 2 (lk [(0,.own (qg 1 a0)),(1,.own (qe b1))]) (fun rr oo => rr = .tup [.d (eint r.1),.d (eErr r.2.1)] ∧ oo = lk [(0,.own (qg 1 r.2.2.1)),(1,.own (qe r.2.2.2))]) := by
 refine fnO Try.func40 rfl rfl (cwP ?_)
 unfold qj0 at h
 refine cSR (.X 2 rfl<|.A rfl<|.A rfl<|.nil rfl) ?_
 refine cwS (cSR (.F rfl qU0 rfl<|.c (qC [2] rfl rfl .no rfl rfl rfl ta99 (qA a1.2.2) (qt a1.2.2))<|.c (o_pO false rfl rfl .no rfl rfl up99)<|.nil rfl) ?_)
 refine cwC h rfl ?_ ?_
 ·intro hc0 h0
  refine cwL (lOp (o := 0) (y := .st [.ifc 24 (.ptr 1 0),.arr 3 0]) (news := [(3,.arr 0 1 (a0.map eint))]) rfl (.st (.cons (.av rfl) (.cons (.arr rfl) .nil))) rfl rfl ⟨rfl,tV⟩) ?_
  refine cwW (wA0 (l := [(0,.ptr 0 0),(3,.ptr 2 0)]) (m := [(0,.box (.st [.ifc 24 (.ptr 1 0),.arr 3 0])),(1,.own (qe b1)),(2,.box (.d (qh a1))),(3,.arr 0 1 (a0.map eint))]) rfl) ?_
  have ⟨x0,hx0,h2⟩ := bdS h0
  refine cwS (cwRA mixed (by kernel_rfl) (.M rfl<|.K rfl<|.F rfl fld93_0 rfl<|.L [0] rfl ta90 rfl<|.F rfl qC3 rfl<|.L [1] rfl ta3 rfl<|.c (qc6 (fun _ => 1) rfl rfl .no rfl Try.func119 rfl rfl rfl hm24_Inc (qF2 hx0) (.cons rfl (.p rfl) (.cons rfl .d .nil)) (by decide) (q20 rfl ⟨(by simp [AV.live,lk,Nat.beq]),tV,tV⟩ rfl (OD.dat_live (qc _)) (by simp)) (.inl rfl))<|.A rfl<|.nil rfl) (by kernel_rfl) ?_)
  have ⟨o0,hj0,h3⟩ := bdS h2
  refine cwJ (fun (z : (List Int)) => St.of [(3,.ptr 2 0),(6,.d (eErr x0.1))] [(0,.own (qg 1 z)),(1,.own (qe x0.2)),(2,.box (.d (qh a1)))]) (fun z => o0 = z) ?_ ?_
  ·intro v0 hv0; subst hv0
   refine cSR (.F rfl qC3 rfl<|.L [1] rfl ta3 rfl<|.M rfl<|.A rfl<|.A rfl<|.nil rfl) ?_
   obtain rfl := zQ h3
   exact rt2 rfl rfl rfl rfl
  refine cSR (.M rfl<|.B rfl (qh0 _ _) rfl<|.nil rfl) ?_
  refine cwC hj0 rfl ?_ ?_
  ·intro hc1 h4
   have ⟨x1,hx1,h6⟩ := bdS h4
   have hx1g := qV hx1
   refine cwRA mixed (by kernel_rfl) (.M rfl<|.M rfl<|.K rfl<|.F rfl qy5 rfl<|.L [1] rfl ta59 rfl<|.F rfl qC3 rfl<|.L [1] rfl ta3 rfl<|.c (ql4 (rows := ([a1.2.1] : List Int).map eint) rfl rfl .no (.cons rfl .nil) rfl sl59 sz3 ze3 rfl (q51 qg6) (by decide))<|.c (q02 (enc := eint) (xs := a0) (ys := [a1.2.1]) rfl rfl .no rfl rfl rfl qg6 sl59 sl59 sz3 by3 ze3 rfl (by decide) hx1g)<|.K rfl<|.F rfl qy5 rfl<|.S [1] rfl sz59 rfl<|.nil rfl) (by kernel_rfl) ?_
   exact ⟨(a0 ++ [a1.2.1]),(sJ h6),.trans (lPk (o := 0) (y := .st [.ifc 24 (.ptr 1 0),.arr 3 (0 + 1)]) (x := qg 1 (a0 ++ [a1.2.1])) (l := [(3,.ptr 2 0),(6,.d (eErr x0.1))]) (m := [(0,.own (qg 1 (a0 ++ [a1.2.1]))),(1,.own (qe x0.2)),(2,.box (.d (qh a1)))]) rfl (.st (.cons (.av rfl) (.cons (.arr rfl) .nil))) rfl rfl ⟨⟨rfl,(by simp [AV.live,AV.lives,lk,Nat.beq])⟩,⟨rfl,tV⟩,tV⟩ ⟨.inl rfl,(.inr ⟨rfl,(OD.dat_live (qc _))⟩),(.inr ⟨rfl,tV⟩),tV⟩ rfl (by simp [qg,OB.live,OD.live,OD.lives,AV.live,lk,Nat.beq]) ⟨rfl,tV⟩ (qq rfl)) (wA1 rfl)⟩
  intro hc1 h5
  refine cwK ?_
  exact ⟨a0,(sJ h5),.trans (lPk (o := 0) (y := .st [.ifc 24 (.ptr 1 0),.arr 3 0]) (x := qg 1 a0) (l := [(3,.ptr 2 0),(6,.d (eErr x0.1))]) (m := [(0,.own (qg 1 a0)),(1,.own (qe x0.2)),(2,.box (.d (qh a1)))]) rfl (.st (.cons (.av rfl) (.cons (.arr rfl) .nil))) rfl rfl ⟨⟨rfl,(by simp [AV.live,AV.lives,lk,Nat.beq])⟩,⟨rfl,tV⟩,tV⟩ ⟨.inl rfl,(.inr ⟨rfl,(OD.dat_live (qc _))⟩),(.inr ⟨rfl,tV⟩),tV⟩ rfl (by simp [qg,OB.live,OD.live,OD.lives,AV.live,lk,Nat.beq]) ⟨rfl,tV⟩ (qq rfl)) (wA1 rfl)⟩
 intro hc0 h1
 refine cwK ?_
 have ⟨x2,hx2,h7⟩ := bdS h1
 refine cwS (cwRA mixed (by kernel_rfl) (.F rfl qU0 rfl<|.c (qC [2] rfl rfl .no rfl rfl rfl ta99 (qA a1.2.2) (qt a1.2.2))<|.c (qy1 (y := qE x2) rfl rfl .no rfl (qx1 hx2))<|.c (qO1 rfl rfl .no rfl qi3 (by decide) rfl rfl)<|.c (o_ld rfl rfl .no rfl ta3 rfl rfl)<|.F rfl qU0 rfl<|.c (qC [2] rfl rfl .no rfl rfl rfl ta99 (qA a1.2.2) (qt a1.2.2))<|.c (qy1 (y := qE x2) rfl rfl .no rfl (qx1 hx2))<|.c (qO1 rfl rfl .no rfl qs3 (by decide) rfl rfl)<|.c (o_ld rfl rfl .no rfl ta34 rfl rfl)<|.c (o_bldA rfl rfl .no zo46 rfl pl46 (.cons rfl rfl rfl rfl rfl rfl rfl (.cons rfl rfl rfl rfl rfl rfl rfl .nil)))<|.c (qb0 4 rfl rfl .no ze46 rfl)<|.S [] rfl sz46 rfl<|.nil rfl) (by kernel_rfl) ?_)
 have ⟨o1,hj1,h8⟩ := bdS h7
 refine cwJ (fun (z : ((List Int) × ttM × ttN)) => St.of [(0,.ptr 0 0),(7,.ptr 4 0)] [(0,.own (qg 1 z.1)),(1,.own (qe z.2.1)),(4,.own (qE2 z.2.2))]) (fun z => o1 = (.inl z)) ?_ ?_
 ·intro v1 hv1; subst hv1
  simp only [zN] at h8
  refine cwL (lOp (o := 4) (y := .st [.d (eint v1.2.2.1),.d (eSP_ v1.2.2.2.1),.arr 7 0]) (news := [(7,.arr 0 25 (v1.2.2.2.2.map q50))]) rfl (.st (.cons (.av rfl) (.cons (.av rfl) (.cons (.arr rfl) .nil)))) rfl rfl ⟨rfl,tV⟩) ?_
  refine cwW (wA0 (l := [(0,.ptr 0 0),(7,.ptr 4 0)]) (m := [(0,.own (qg 1 v1.1)),(1,.own (qe v1.2.1)),(4,.box (.st [.d (eint v1.2.2.1),.d (eSP_ v1.2.2.2.1),.arr 7 0])),(7,.arr 0 25 (v1.2.2.2.2.map q50))]) rfl) ?_
  refine cwW (wkF (l := [(0,.ptr 0 0),(7,.ptr 4 0)]) (m := [(0,.own (qg 1 v1.1)),(1,.own (qe v1.2.1)),(4,.box (.d (qw (v1.2.2.1,v1.2.2.2.1,v1.2.2.2.2))))]) ⟨wO rfl,wP rfl,tV⟩ ⟨oE rfl,oM rfl,.box rfl (.flat (.cons (.d rfl) (.cons (.d rfl) (.cons (.frz rfl rfl rfl) .nil)))),tV⟩ (qq rfl)) ?_
  refine cwL (lOp (o := 0) (y := .st [.ifc 24 (.ptr 1 0),.arr 8 0]) (news := [(8,.arr 0 1 (v1.1.map eint))]) rfl (.st (.cons (.av rfl) (.cons (.arr rfl) .nil))) rfl rfl ⟨rfl,tV⟩) ?_
  refine cwW (wA0 (l := [(0,.ptr 0 0),(7,.ptr 4 0)]) (m := [(0,.box (.st [.ifc 24 (.ptr 1 0),.arr 8 0])),(1,.own (qe v1.2.1)),(4,.box (.d (qw (v1.2.2.1,v1.2.2.2.1,v1.2.2.2.2)))),(8,.arr 0 1 (v1.1.map eint))]) rfl) ?_
  have ⟨x3,hx3,h9⟩ := bdS h8
  refine cwS (cwRA mixed (by kernel_rfl) (.M rfl<|.K rfl<|.F rfl fld93_0 rfl<|.L [0] rfl ta90 rfl<|.L [] rfl ta46 rfl<|.c (qc6 (fun _ => 1) rfl rfl .no rfl Try.func120 rfl rfl rfl hm24_Put (qQ3 hx3) (.cons rfl (.p rfl) (.cons rfl .d .nil)) (by decide) (q20 rfl ⟨(by simp [AV.live,lk,Nat.beq]),tV,tV⟩ rfl (OD.dat_live (qc _)) (by simp)) (.inl rfl))<|.M rfl<|.E rfl<|.E rfl<|.A rfl<|.A rfl<|.nil rfl) (by kernel_rfl) ?_)
  have ⟨o2,hj2,h10⟩ := bdS h9
  refine cwJ (fun (z : (List Int)) => St.of [(12,.d (eint x3.1)),(13,.d (eErr x3.2.1))] [(0,.own (qg 1 z)),(1,.own (qe x3.2.2))]) (fun z => o2 = z) ?_ ?_
  ·intro v2 hv2; subst hv2
   refine cSR (.M rfl<|.M rfl<|.A rfl<|.A rfl<|.nil rfl) ?_
   obtain rfl := zQ h10
   exact rt2 rfl rfl rfl rfl
  refine cSR (.M rfl<|.B rfl (qh0 _ _) rfl<|.nil rfl) ?_
  refine cwC hj2 rfl ?_ ?_
  ·intro hc2 h11
   have ⟨x4,hx4,h13⟩ := bdS h11
   have hx4g := qV hx4
   refine cwR (.M rfl<|.M rfl<|.K rfl<|.F rfl qy5 rfl<|.L [1] rfl ta59 rfl<|.M rfl<|.c (ql4 (rows := ([x3.1] : List Int).map eint) rfl rfl .no (.cons rfl .nil) rfl sl59 sz3 ze3 rfl (q51 qg6) (by decide))<|.c (q02 (enc := eint) (xs := v1.1) (ys := [x3.1]) rfl rfl .no rfl rfl rfl qg6 sl59 sl59 sz3 by3 ze3 rfl (by decide) hx4g)<|.K rfl<|.F rfl qy5 rfl<|.S [1] rfl sz59 rfl<|.nil rfl) ?_
   exact ⟨(v1.1 ++ [x3.1]),(sJ h13),.trans (lPk (o := 0) (y := .st [.ifc 24 (.ptr 1 0),.arr 8 (0 + 1)]) (x := qg 1 (v1.1 ++ [x3.1])) (l := [(12,.d (eint x3.1)),(13,.d (eErr x3.2.1))]) (m := [(0,.own (qg 1 (v1.1 ++ [x3.1]))),(1,.own (qe x3.2.2))]) rfl (.st (.cons (.av rfl) (.cons (.arr rfl) .nil))) rfl rfl ⟨⟨rfl,tV⟩,⟨rfl,tV⟩,tV⟩ ⟨.inl rfl,(.inr ⟨rfl,(OD.dat_live (qc _))⟩),tV⟩ rfl (by simp [qg,OB.live,OD.live,OD.lives,AV.live,lk,Nat.beq]) ⟨rfl,tV⟩ (qq rfl)) (wA1 rfl)⟩
  intro hc2 h12
  refine cwK ?_
  exact ⟨v1.1,(sJ h12),.trans (lPk (o := 0) (y := .st [.ifc 24 (.ptr 1 0),.arr 8 0]) (x := qg 1 v1.1) (l := [(12,.d (eint x3.1)),(13,.d (eErr x3.2.1))]) (m := [(0,.own (qg 1 v1.1)),(1,.own (qe x3.2.2))]) rfl (.st (.cons (.av rfl) (.cons (.arr rfl) .nil))) rfl rfl ⟨⟨rfl,tV⟩,⟨rfl,tV⟩,tV⟩ ⟨.inl rfl,(.inr ⟨rfl,(OD.dat_live (qc _))⟩),tV⟩ rfl (by simp [qg,OB.live,OD.live,OD.lives,AV.live,lk,Nat.beq]) ⟨rfl,tV⟩ (qq rfl)) (wA1 rfl)⟩
 refine cSR (.F rfl qU0 rfl<|.c (qC [2] rfl rfl .no rfl rfl rfl ta99 (qA a1.2.2) (qt a1.2.2))<|.c (qy1 (y := qE x2) rfl rfl .no rfl (qx1 hx2))<|.c (qO1 rfl rfl .no rfl qj1 (by decide) rfl rfl)<|.c (o_ld rfl rfl .no rfl ta95 rfl rfl)<|.c (qU (enc := qh) (xs := x2.2.2) rfl rfl .no rfl sl95)<|.M rfl<|.nil rfl) ?_
 refine cwB (qK (fun (z : (Int × (List Int) × ttM × ttN)) => St.of [(0,.ptr 0 0),(7,.ptr 4 0),(55,.d (qi x2.2.2)),(56,.d (eint (x2.2.2.length : Int))),(57,.d (eint z.1))] [(0,.own (qg 1 z.2.1)),(1,.own (qe z.2.2.1)),(4,.own (qE2 z.2.2.2))]) hj1 (.trans (lPk (o := 4) (y := .st [.d (eint x2.1),.d (eSP_ x2.2.1),.d (.v (.slice none 0 0))]) (x := qE2 (x2.1,x2.2.1,[])) (l := [(0,.ptr 0 0),(7,.ptr 4 0),(55,.d (qi x2.2.2)),(56,.d (eint (x2.2.2.length : Int))),(57,.d (eint 0))]) (m := [(0,.own (qg 1 a0)),(1,.own (qe b1)),(4,.own (qE2 (x2.1,x2.2.1,[])))]) rfl (.st (.cons (.av rfl) (.cons (.av rfl) (.cons (.nil rfl) .nil)))) rfl rfl ⟨⟨rfl,(by simp [AV.live,AV.lives,lk,Nat.beq])⟩,⟨rfl,(by simp [AV.live,AV.lives,lk,Nat.beq])⟩,⟨rfl,tV⟩,⟨rfl,tV⟩,⟨rfl,tV⟩,tV⟩ ⟨(.inr ⟨rfl,(by simp [qg,OB.live,OD.live,OD.lives,AV.live,lk,Nat.beq])⟩),(.inr ⟨rfl,(OD.dat_live (qc _))⟩),.inl rfl,tV⟩ rfl (OD.dat_live (qg1 _)) trivial (qq rfl)) (wA1 rfl)) ?_)
 intro v3 x5 hb0 hx5
 refine cSR (.B rfl (qO0 _ _) rfl<|.nil rfl) ?_
 refine cwS (cwC hb0 rfl ?_ ?_)
 ·intro hc3 h14
  refine cwK ?_
  refine cwS (cwB ?_)
  have ⟨x6,hx6,h16⟩ := bdS h14
  have hx6g := qB hx6
  refine cSR (.c (qs1 (enc := qh) (xs := x2.2.2) rfl rfl .no rfl rfl sl95 qH1 hx6g.1 hx6g.2)<|.c (o_ld rfl rfl .no rfl qD5 rfl (qo x6))<|.c (qb0 5 rfl rfl .no qj4 rfl)<|.c (o_st [] rfl .no rfl rfl rfl rfl rfl qH1 (qo x6) (qo ((List.replicate 24 0),0,(none : Option Fr))))<|.nil rfl) ?_
  have ⟨x7,hx7,h17⟩ := bdS h16
  refine cSR (.M rfl<|.c (qC [] rfl rfl .no rfl rfl rfl qD5 rfl (qo x6))<|.c (qG (fun n => bif Nat.beq n 0 then 0 else 1) rfl rfl .no Try.func40 rfl rfl (self_ok hx7) (.cons rfl (.p rfl) (.cons rfl .d .nil)) (qu2 rfl ⟨(by simp [AV.live,lk,Nat.beq]),tV,tV⟩ (by decide) rfl (by simp [qg,OB.live,OD.live,OD.lives,AV.live,lk,Nat.beq]) rfl (OD.dat_live (qc _)) (by simp)) (.inl rfl))<|.M rfl<|.E rfl<|.E rfl<|.A rfl<|.A rfl<|.nil rfl) ?_
  refine cwS (cSR (.M rfl<|.B rfl (qT2 _ _) rfl<|.nil rfl) ?_)
  refine cwC h17 rfl ?_ ?_
  ·intro hc4 h18
   refine cSR (.M rfl<|.A rfl<|.A rfl<|.nil rfl) ?_
   have he0 := ((hx5 _ (sJ h18)).symm).symm
   subst he0
   obtain rfl := zQ h8
   exact rt2 rfl rfl rfl rfl
  intro hc4 h19
  refine cwK (cwL (lOp (o := 4) (y := .st [.d (eint v3.2.2.2.1),.d (eSP_ v3.2.2.2.2.1),.arr 6 0]) (news := [(6,.arr 0 25 (v3.2.2.2.2.2.map q50))]) rfl (.st (.cons (.av rfl) (.cons (.av rfl) (.cons (.arr rfl) .nil)))) rfl rfl ⟨rfl,tV⟩) ?_)
  refine cwW (wA0 (l := [(0,.ptr 0 0),(7,.ptr 4 0),(9,.ptr 5 0),(10,.d (eint x7.1)),(55,.d (qi x2.2.2)),(56,.d (eint (x2.2.2.length : Int))),(57,.d (eint v3.1))]) (m := [(0,.own (qg 1 x7.2.2.1)),(1,.own (qe x7.2.2.2)),(4,.box (.st [.d (eint v3.2.2.2.1),.d (eSP_ v3.2.2.2.2.1),.arr 6 0])),(5,.box (.d (qh x6))),(6,.arr 0 25 (v3.2.2.2.2.2.map q50))]) rfl) ?_
  have ⟨x8,hx8,h20⟩ := bdS h19
  have hx8g := qV hx8
  refine cwR (.F rfl q31 rfl<|.L [2] rfl ta44 rfl<|.F rfl qV4 rfl<|.L [0] rfl ta31 rfl<|.M rfl<|.c (qa6 (ds := [eK x6.1,eint x7.1]) rfl rfl .no zs69 rfl pl69 (.cons rfl rfl rfl rfl rfl rfl rfl (.cons rfl rfl rfl rfl rfl rfl rfl .nil)))<|.c (ql4 (rows := ([(x6.1,x7.1)] : List ttK).map q50) rfl rfl .no (.cons rfl .nil) rfl sl44 sz69 ze69 rfl (q51 qK5) (by decide))<|.c (q02 (enc := q50) (xs := v3.2.2.2.2.2) (ys := [(x6.1,x7.1)]) rfl rfl .no rfl rfl rfl qK5 sl44 sl44 sz69 by69 ze69 rfl (by decide) hx8g)<|.F rfl q31 rfl<|.S [2] rfl sz44 rfl<|.nil rfl) ?_
  refine cwR (.B rfl (qR0 _ _) rfl<|.M rfl<|.nil rfl) ?_
  exact ⟨((IntKind.wrap .i64 (v3.1 + 1)),x7.2.2.1,x7.2.2.2,(v3.2.2.2.1,v3.2.2.2.2.1,(v3.2.2.2.2.2 ++ [(x6.1,x7.1)]))),(sJ h20),.trans (lPk (o := 4) (y := .st [.d (eint v3.2.2.2.1),.d (eSP_ v3.2.2.2.2.1),.arr 6 (0 + 1)]) (x := qE2 (v3.2.2.2.1,v3.2.2.2.2.1,(v3.2.2.2.2.2 ++ [(x6.1,x7.1)]))) (l := [(0,.ptr 0 0),(7,.ptr 4 0),(55,.d (qi x2.2.2)),(56,.d (eint (x2.2.2.length : Int))),(57,.d (eint (IntKind.wrap .i64 (v3.1 + 1))))]) (m := [(0,.own (qg 1 x7.2.2.1)),(1,.own (qe x7.2.2.2)),(4,.own (qE2 (v3.2.2.2.1,v3.2.2.2.2.1,(v3.2.2.2.2.2 ++ [(x6.1,x7.1)]))))]) rfl (.st (.cons (.av rfl) (.cons (.av rfl) (.cons (.arr rfl) .nil)))) rfl rfl ⟨⟨rfl,(by simp [AV.live,AV.lives,lk,Nat.beq])⟩,⟨rfl,(by simp [AV.live,AV.lives,lk,Nat.beq])⟩,⟨rfl,tV⟩,⟨rfl,tV⟩,⟨rfl,tV⟩,tV⟩ ⟨(.inr ⟨rfl,(by simp [qg,OB.live,OD.live,OD.lives,AV.live,lk,Nat.beq])⟩),(.inr ⟨rfl,(OD.dat_live (qc _))⟩),.inl rfl,tV⟩ rfl (OD.dat_live (qg1 _)) ⟨rfl,tV⟩ (qq rfl)) (wA1 rfl)⟩
 intro hc3 h15
 refine qR ?_
 exact ⟨(v3.2.1,v3.2.2.1,v3.2.2.2),(hx5 _ (sJ h15)).symm,wA1 rfl⟩
theorem qq2 : ∀ (n : Nat) {a0 : (List Int)} {a1 : ttP} {b1 : ttM} {r : (Int × Int × (List Int) × ttM)},qf0 n a0 a1 b1 = some r → FnOk Try.prog 40 [.ptr 0 0,.d (qh a1)] 2 (lk [(0,.own (qg 1 a0)),(1,.own (qe b1))]) (fun rr oo => rr = .tup [.d (eint r.1),.d (eErr r.2.1)] ∧ oo = lk [(0,.own (qg 1 r.2.2.1)),(1,.own (qe r.2.2.2))])
 | 0,_,_,_,_,h => nomatch h
 | n + 1,_,_,_,_,h => qu3 (self := qf0 n) (fun h => qq2 n h) h
theorem qC4 {a0} {a1} {b1} {r} (h : qa1 a0 a1 b1 = some r) : FnOk Try.prog 40 [.ptr 0 0,.d (qh a1)] 2 (lk [(0,.own (qg 1 a0)),(1,.own (qe b1))]) (fun rr oo => rr = .tup [.d (eint r.1),.d (eErr r.2.1)] ∧ oo = lk [(0,.own (qg 1 r.2.2.1)),(1,.own (qe r.2.2.2))]) := qq2 16 h
end
end Go.Val
