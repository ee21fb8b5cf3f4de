/- Walks of the program's functions,printed. -/
import Derived.Test.YtfbnhflapgddbaaWb
set_option linter.all false
set_option maxRecDepth 100000
namespace Go.Val
open Go.RowKit Go.Proofs
section
variable [NoDrw]
noncomputable def q62 (a0 : ttR) : Option Bool := some (decide ((a0.2.size : Int) > 40))
noncomputable def qL1 (a0 : List ttR) : Option Int := (((qN (V := Int) (O := (Unit ⊕ Int)) (fun v0 => cond (decide (v0 < (a0.length : Int))) ((gx a0 v0).bind fun x0 => (q62 x0).bind fun x1 => cond x1 (some (.inr (.inr v0))) (some (.inl (IntKind.wrap .i64 (v0 + 1))))) (some (.inr (.inl ())))) 0) : Option (Unit ⊕ Int))).bind fun o0 => Sum.elim (fun (v1 : Unit) => some (-1)
 ) (fun w0 => some w0) o0
noncomputable def qP0 (a0 : List ttR) : Option Bool := (qL1 a0).bind fun x0 => some (decide (x0 ≥ 0))
noncomputable def qz2 (a0 : ttR) : Option B8 := some a0.1
noncomputable def qm3 (a0 : ttK) : Option B8 := some a0.1
noncomputable def qJ3 (a0 : List ttR) : Option Bool := (((qN (V := Int) (O := (Unit ⊕ Bool)) (fun v0 => cond (decide (v0 < (a0.length : Int))) ((gx a0 (IntKind.wrap .i64 (v0 - 1))).bind fun x0 => (qz2 x0).bind fun x1 => (gx a0 v0).bind fun x2 => (qz2 x2).bind fun x3 => (q60 x1 x3).bind fun x4 => cond (decide (x4 ≥ 0)) (some (.inr (.inr false))) (
     some (.inl (IntKind.wrap .i64 (v0 + 1))))) (some (.inr (.inl ())))) 1) : Option (Unit ⊕ Bool))).bind fun o0 => Sum.elim (fun (v1 : Unit) => some true) (fun w0 => some w0) o0
noncomputable def qH3 (a0 : List ttK) : Option Bool := (((qN (V := Int) (O := (Unit ⊕ Bool)) (fun v0 => cond (decide (v0 < (a0.length : Int))) ((gx a0 (IntKind.wrap .i64 (v0 - 1))).bind fun x0 => (qm3 x0).bind fun x1 => (gx a0 v0).bind fun x2 => (qm3 x2).bind fun x3 => (q60 x1 x3).bind fun x4 => cond (decide (x4 ≥ 0)) (some (.inr (.inr false))) (
     some (.inl (IntKind.wrap .i64 (v0 + 1))))) (some (.inr (.inl ())))) 1) : Option (Unit ⊕ Bool))).bind fun o0 => Sum.elim (fun (v1 : Unit) => some true) (fun w0 => some w0) o0
noncomputable def ql2 (a0 : ttN) : Option Bool := (((cond (decide (a0.1 < 0)) (some true) (some (decide (a0.1 ≥ 12)))) : Option Bool)).bind fun o0 => cond o0 (some false) ((((cond (decide (a0.1 = 0)) (cond (decide ((a0.2.1.length : Int) < 1)) (some true) (cond (decide ((a0.2.1.length : Int) > 7)) (some true) (some (decide ((a0.2.2.length : Int) > 0))))) (some false)
  ) : Option Bool)).bind fun o1 => cond o1 (some false) ((((cond (decide (a0.1 > 0)) (cond (decide ((a0.2.2.length : Int) < 2)) (some true) (cond (decide ((a0.2.2.length : Int) > 18)) (some true) (some (decide ((a0.2.1.length : Int) > 0))))) (some false)) : Option Bool)).bind fun o2 => cond o2 (some false) ((qP0 a0.2.1).bind fun x0 => cond x0 (some false) ((((
      qN (V := (Int × (List (Int × Bool)))) (O := (Unit ⊕ Bool)) (fun v0 => cond (decide (v0.1 < (a0.2.2.length : Int))) ((gx a0.2.2 v0.1).bind fun x1 => (((cond (decide (x1.2 < 2)) (some true) (cond (decide (x1.2 > 4294967295)) (some true) (some ((mget v0.2 x1.2).getD false)))) : Option Bool)).bind fun o3 => cond o3 (some (.inr (.inr false))) (
         some (.inl ((IntKind.wrap .i64 (v0.1 + 1)),(mset v0.2 x1.2 true))))) (some (.inr (.inl ())))) (0,[])) : Option (Unit ⊕ Bool))).bind fun o4 => Sum.elim (fun (v1 : Unit) => ((((qJ3 a0.2.1).bind fun x2 => cond x2 ((qH3 a0.2.2).bind fun x3 => some x3) (some false)) : Option Bool)).bind fun o5 => some o5) (fun w0 => some w0) o4))))
noncomputable def qL2 (a0 : ttN) : Option B8 := cond (decide ((a0.2.1.length : Int) > 0)) ((gx a0.2.1 0).bind fun x0 => some x0.1) (cond (decide ((a0.2.2.length : Int) > 0)) ((gx a0.2.2 0).bind fun x1 => some x1.1) (some (List.replicate 24 0)))
noncomputable def qJ5 (a0 : ttN) : Option Bool := cond (decide (a0.1 = 0)) (some (decide ((a0.2.1.length : Int) < 3))) (some (decide ((a0.2.2.length : Int) < 9)))
noncomputable def q83 (a0 : Int) : Option Int := cond (decide (a0 = 1)) (some 12) (some a0)
noncomputable def qi0 (a0 : ttM) (a1 : ttN) : Option (Int × Int × ttM) := (ql2 a1).bind fun x0 => cond (!x0) (some (0,1,a0)) ((qe1 a0.1).bind fun x1 => cond (!x1.2.1) (some (0,7,(x1.2.2,a0.2))) ((qj3 a1).bind fun x2 => some (x1.1,0,(x1.2.2,(mset a0.2 x1.1 x2)))))
theorem node_Right_1_ok {a0} {r} (h : q62 a0 = some r) : FnOk Try.prog 83 [.d (ePr a0)] 0 (lk []) (fun rr oo => rr = .d (qW r) ∧ oo = lk []) := by
 refine fnO Try.func83 rfl rfl (cwP ?_)
 unfold q62 at h
 refine cSR (.X 0 rfl<|.A rfl<|.nil rfl) ?_
 refine cSR (.F rfl fld52_1 rfl<|.L [1] rfl ta9 rfl<|.c (o_lenS rfl rfl .no rfl un9)<|.B rfl (qT3 _ _) rfl<|.A rfl<|.nil rfl) ?_
 obtain rfl := zQ h
 exact rt1 rfl rfl rfl
theorem qs5 {a0} {r} (h : qL1 a0 = some r) : FO 96 [.d (eSP_ a0),.fn 83 [] []] 0 [] (.d (eint r)) [] := by
 refine fnO Try.func96 rfl rfl (cwP ?_)
 unfold qL1 at h
 refine cSR (.A rfl<|.nil rfl) ?_
 have ⟨o0,hj0,h0⟩ := bdS h
 refine cwJ (fun (z : Unit) => St.of [] []) (fun z => o0 = (.inl z)) ?_ ?_
 ·intro v0 hv0; subst hv0
  simp only [zN] at h0
  refine cSR (.A rfl<|.nil rfl) ?_
  obtain rfl := zQ h0
  exact rt1 rfl rfl rfl
 refine cSR (.M rfl<|.c (qU (enc := ePr) (xs := a0) rfl rfl .no rfl sl34)<|.M rfl<|.nil rfl) ?_
 refine cwB (qK (fun (z : Int) => St.of [(0,.d (eSP_ a0)),(1,.fn 83 [] []),(7,.d (eint (a0.length : Int))),(8,.d (eint z))] []) hj0 (wA1 rfl) ?_)
 intro v1 x0 hb0 hx0
 refine cSR (.B rfl (qO0 _ _) rfl<|.nil rfl) ?_
 refine cwS (cwC hb0 rfl ?_ ?_)
 ·intro hc0 h1
  refine cwK (cwS ?_)
  refine cwB (cSR (.M rfl<|.A rfl<|.nil rfl) ?_)
  have ⟨x1,hx1,h3⟩ := bdS h1
  have hx1g := qB hx1
  have ⟨x2,hx2,h4⟩ := bdS h3
  refine cSR (.M rfl<|.M rfl<|.M rfl<|.c (qs1 (enc := ePr) (xs := a0) rfl rfl .no rfl rfl sl34 sz52 hx1g.1 hx1g.2)<|.c (o_ld rfl rfl .no rfl ta52 rfl rfl)<|.c (qm4 rfl rfl .no rfl Try.func83 rfl rfl (node_Right_1_ok hx2) (.cons rfl .d .nil) ⟨tV,tV⟩ (.inl rfl))<|.nil rfl) ?_
  refine cwC h4 rfl ?_ ?_
  ·intro hc1 h5
   refine cSR (.M rfl<|.A rfl<|.nil rfl) ?_
   have he0 := ((hx0 _ (sJ h5)).symm).symm
   subst he0
   obtain rfl := zQ h0
   exact rt1 rfl rfl rfl
  intro hc1 h6
  refine cwK (cwR (.B rfl (qR0 _ _) rfl<|.M rfl<|.nil rfl) ?_)
  exact ⟨(IntKind.wrap .i64 (v1 + 1)),(sJ h6),wA1 rfl⟩
 intro hc0 h2
 refine qR ?_
 exact ⟨(),(hx0 _ (sJ h2)).symm,wA1 rfl⟩
theorem qp4 {a0} {r} (h : qP0 a0 = some r) : FnOk Try.prog 82 [.d (eSP_ a0),.fn 83 [] []] 0 (lk []) (fun rr oo => rr = .d (qW r) ∧ oo = lk []) := by
 refine fnO Try.func82 rfl rfl (cwP ?_)
 unfold qP0 at h
 refine cSR (.A rfl<|.nil rfl) ?_
 have ⟨x0,hx0,h0⟩ := bdS h
 refine cSR (.M rfl<|.M rfl<|.c (qc0 rfl rfl .no Try.func96 rfl rfl (qs5 hx0) (.cons rfl .d (.cons rfl .f0 .nil)) ⟨tV,(by simp [AV.live,AV.lives]),tV⟩ (.inl rfl))<|.B rfl (qf6 _ _) rfl<|.A rfl<|.nil rfl) ?_
 obtain rfl := zQ h0
 exact rt1 rfl rfl rfl
theorem node_ofPair_okc {a0} {r} (h : qz2 a0 = some r) : FO 85 [.d (ePr a0)] 0 [] (.d (eK r)) [(1,.box (.d (eK r)))] := by
 refine fnO Try.func85 rfl rfl (cwP ?_)
 unfold qz2 at h
 refine cSR (.X 0 rfl<|.c (qb0 1 rfl rfl .no ze31 rfl)<|.nil rfl) ?_
 refine cSR (.F rfl qr3 rfl<|.L [0] rfl ta31 rfl<|.S [] rfl sz31 rfl<|.nil rfl) ?_
 obtain rfl := zQ h
 exact qv ⟨_,(wA2 [(2,.ptr 1 0)] [(1,.box (.d (eK a0.1)))] rfl),.inr rfl,_,resC rfl rfl rfl ta31 rfl rfl,rfl,rfl⟩
theorem qh5 {a0} {r} (h : qz2 a0 = some r) : FO 85 [.d (ePr a0)] 0 [] (.d (eK r)) [] := q93 (node_ofPair_okc h)
theorem node_ofKid_okc {a0} {r} (h : qm3 a0 = some r) : FO 87 [.d (q50 a0)] 0 [] (.d (eK r)) [(1,.box (.d (eK r)))] := by
 refine fnO Try.func87 rfl rfl (cwP ?_)
 unfold qm3 at h
 refine cSR (.X 0 rfl<|.c (qb0 1 rfl rfl .no ze31 rfl)<|.nil rfl) ?_
 refine cSR (.F rfl qE4 rfl<|.L [0] rfl ta31 rfl<|.S [] rfl sz31 rfl<|.nil rfl) ?_
 obtain rfl := zQ h
 exact qv ⟨_,(wA2 [(2,.ptr 1 0)] [(1,.box (.d (eK a0.1)))] rfl),.inr rfl,_,resC rfl rfl rfl ta31 rfl rfl,rfl,rfl⟩
theorem node_ofKid_ok {a0} {r} (h : qm3 a0 = some r) : FO 87 [.d (q50 a0)] 0 [] (.d (eK r)) [] := q93 (node_ofKid_okc h)
theorem qe5 {a0} {r} (h : qJ3 a0 = some r) : FnOk Try.prog 84 [.d (eSP_ a0),.fn 85 [] []] 0 (lk []) (fun rr oo => rr = .d (qW r) ∧ oo = lk []) := by
 refine fnO Try.func84 rfl rfl (cwP ?_)
 unfold qJ3 at h
 refine cSR (.A rfl<|.nil rfl) ?_
 have ⟨o0,hj0,h0⟩ := bdS h
 refine cwJ (fun (z : Unit) => St.of [] []) (fun z => o0 = (.inl z)) ?_ ?_
 ·intro v0 hv0; subst hv0
  simp only [zN] at h0
  refine cSR (.A rfl<|.nil rfl) ?_
  obtain rfl := zQ h0
  exact rt1 rfl rfl rfl
 refine cSR (.A rfl<|.nil rfl) ?_
 refine cwB (qK (fun (z : Int) => St.of [(0,.d (eSP_ a0)),(1,.fn 85 [] []),(5,.d (eint z))] []) hj0 (wA1 rfl) ?_)
 intro v1 x0 hb0 hx0
 refine cwS (cSR (.M rfl<|.M rfl<|.c (qU (enc := ePr) (xs := a0) rfl rfl .no rfl sl34)<|.B rfl (qO0 _ _) rfl<|.nil rfl) ?_)
 refine cwC hb0 rfl ?_ ?_
 ·intro hc0 h1
  refine cwK ?_
  refine cwS (cwB ?_)
  have ⟨x1,hx1,h3⟩ := bdS h1
  have hx1g := qB hx1
  have ⟨x2,hx2,h4⟩ := bdS h3
  have ⟨x3,hx3,h5⟩ := bdS h4
  have hx3g := qB hx3
  have ⟨x4,hx4,h6⟩ := bdS h5
  refine cwS (cwRA mixed (by kernel_rfl) (.M rfl<|.M rfl<|.M rfl<|.B rfl (qS3 _ _) rfl<|.c (qs1 (enc := ePr) (xs := a0) rfl rfl .no rfl rfl sl34 sz52 hx1g.1 hx1g.2)<|.c (o_ld rfl rfl .no rfl ta52 rfl rfl)<|.c (qm4 rfl rfl .no rfl Try.func85 rfl rfl (qh5 hx2) (.cons rfl .d .nil) ⟨tV,tV⟩ (.inl rfl))<|.M rfl<|.M rfl<|.M rfl<|.c (qs1 (enc := ePr) (xs := a0) rfl rfl .no rfl rfl sl34 sz52 hx3g.1 hx3g.2)<|.c (o_ld rfl rfl .no rfl ta52 rfl rfl)<|.c (qm4 rfl rfl .no rfl Try.func85 rfl rfl (qh5 hx4) (.cons rfl .d .nil) ⟨tV,tV⟩ (.inl rfl))<|.c (qb0 0 rfl rfl .no ze31 rfl)<|.c (qb0 1 rfl rfl .no ze31 rfl)<|.S [] rfl sz31 rfl<|.S [] rfl sz31 rfl<|.nil rfl) (by kernel_rfl) ?_)
  have ⟨x5,hx5,h7⟩ := bdS h6
  refine cwS (cwRA mixed (by kernel_rfl) (.c (o_slP rfl rfl .no rfl ar31 sz5 .no .no (by decide) (by decide) (by decide))<|.c (o_slP rfl rfl .no rfl ar31 sz5 .no .no (by decide) (by decide) (by decide))<|.c (qc0 rfl rfl .no Try.func65 rfl rfl (qk3 hx5) (.cons rfl (.bsl [] rfl rfl rfl) (.cons rfl (.bsl [] rfl rfl rfl) .nil)) ⟨tV,tV,tV⟩ (.inr (DFlat.v _)))<|.B rfl (qf6 _ _) rfl<|.nil rfl) (by kernel_rfl) ?_)
  refine cwC h7 rfl ?_ ?_
  ·intro hc1 h8
   refine cSR (.A rfl<|.nil rfl) ?_
   have he0 := ((hx0 _ (sJ h8)).symm).symm
   subst he0
   obtain rfl := zQ h0
   exact rt1 rfl rfl rfl
  intro hc1 h9
  refine cwK (cwR (.M rfl<|.B rfl (qR0 _ _) rfl<|.A rfl<|.nil rfl) ?_)
  exact ⟨(IntKind.wrap .i64 (v1 + 1)),(sJ h9),wA1 rfl⟩
 intro hc0 h2
 refine qR ?_
 exact ⟨(),(hx0 _ (sJ h2)).symm,wA1 rfl⟩
theorem node_risesK_ok {a0} {r} (h : qH3 a0 = some r) : FnOk Try.prog 86 [.d (qH0 a0),.fn 87 [] []] 0 (lk []) (fun rr oo => rr = .d (qW r) ∧ oo = lk []) := by
 refine fnO Try.func86 rfl rfl (cwP ?_)
 unfold qH3 at h
 refine cSR (.A rfl<|.nil rfl) ?_
 have ⟨o0,hj0,h0⟩ := bdS h
 refine cwJ (fun (z : Unit) => St.of [] []) (fun z => o0 = (.inl z)) ?_ ?_
 ·intro v0 hv0; subst hv0
  simp only [zN] at h0
  refine cSR (.A rfl<|.nil rfl) ?_
  obtain rfl := zQ h0
  exact rt1 rfl rfl rfl
 refine cSR (.A rfl<|.nil rfl) ?_
 refine cwB (qK (fun (z : Int) => St.of [(0,.d (qH0 a0)),(1,.fn 87 [] []),(5,.d (eint z))] []) hj0 (wA1 rfl) ?_)
 intro v1 x0 hb0 hx0
 refine cwS (cSR (.M rfl<|.M rfl<|.c (qU (enc := q50) (xs := a0) rfl rfl .no rfl sl44)<|.B rfl (qO0 _ _) rfl<|.nil rfl) ?_)
 refine cwC hb0 rfl ?_ ?_
 ·intro hc0 h1
  refine cwK ?_
  refine cwS (cwB ?_)
  have ⟨x1,hx1,h3⟩ := bdS h1
  have hx1g := qB hx1
  have ⟨x2,hx2,h4⟩ := bdS h3
  have ⟨x3,hx3,h5⟩ := bdS h4
  have hx3g := qB hx3
  have ⟨x4,hx4,h6⟩ := bdS h5
  refine cwS (cwRA mixed (by kernel_rfl) (.M rfl<|.M rfl<|.M rfl<|.B rfl (qS3 _ _) rfl<|.c (qs1 (enc := q50) (xs := a0) rfl rfl .no rfl rfl sl44 sz69 hx1g.1 hx1g.2)<|.c (o_ld rfl rfl .no rfl ta69 rfl rfl)<|.c (qm4 rfl rfl .no rfl Try.func87 rfl rfl (node_ofKid_ok hx2) (.cons rfl .d .nil) ⟨tV,tV⟩ (.inl rfl))<|.M rfl<|.M rfl<|.M rfl<|.c (qs1 (enc := q50) (xs := a0) rfl rfl .no rfl rfl sl44 sz69 hx3g.1 hx3g.2)<|.c (o_ld rfl rfl .no rfl ta69 rfl rfl)<|.c (qm4 rfl rfl .no rfl Try.func87 rfl rfl (node_ofKid_ok hx4) (.cons rfl .d .nil) ⟨tV,tV⟩ (.inl rfl))<|.c (qb0 0 rfl rfl .no ze31 rfl)<|.c (qb0 1 rfl rfl .no ze31 rfl)<|.S [] rfl sz31 rfl<|.S [] rfl sz31 rfl<|.nil rfl) (by kernel_rfl) ?_)
  have ⟨x5,hx5,h7⟩ := bdS h6
  refine cwS (cwRA mixed (by kernel_rfl) (.c (o_slP rfl rfl .no rfl ar31 sz5 .no .no (by decide) (by decide) (by decide))<|.c (o_slP rfl rfl .no rfl ar31 sz5 .no .no (by decide) (by decide) (by decide))<|.c (qc0 rfl rfl .no Try.func65 rfl rfl (qk3 hx5) (.cons rfl (.bsl [] rfl rfl rfl) (.cons rfl (.bsl [] rfl rfl rfl) .nil)) ⟨tV,tV,tV⟩ (.inr (DFlat.v _)))<|.B rfl (qf6 _ _) rfl<|.nil rfl) (by kernel_rfl) ?_)
  refine cwC h7 rfl ?_ ?_
  ·intro hc1 h8
   refine cSR (.A rfl<|.nil rfl) ?_
   have he0 := ((hx0 _ (sJ h8)).symm).symm
   subst he0
   obtain rfl := zQ h0
   exact rt1 rfl rfl rfl
  intro hc1 h9
  refine cwK (cwR (.M rfl<|.B rfl (qR0 _ _) rfl<|.A rfl<|.nil rfl) ?_)
  exact ⟨(IntKind.wrap .i64 (v1 + 1)),(sJ h9),wA1 rfl⟩
 intro hc0 h2
 refine qR ?_
 exact ⟨(),(hx0 _ (sJ h2)).symm,wA1 rfl⟩
theorem node_Right_ok {a0} {r} (h : ql2 a0 = some r) : FnOk Try.prog 66 [.d (qw a0)] 0 (lk []) (fun rr oo => rr = .d (qW r) ∧ oo = lk []) := by
 refine fnO Try.func66 rfl rfl (cwP ?_)
 unfold ql2 at h
 refine cSR (.X 0 rfl<|.A rfl<|.nil rfl) ?_
 refine cwS (cwRA mixed (by kernel_rfl) (.F rfl qy3 rfl<|.L [1] rfl ta34 rfl<|.c (qU (enc := ePr) (xs := a0.2.1) rfl rfl .no rfl sl34)<|.F rfl q31 rfl<|.L [2] rfl ta44 rfl<|.c (qU (enc := q50) (xs := a0.2.2) rfl rfl .no rfl sl44)<|.A rfl<|.A rfl<|.nil rfl) (by kernel_rfl) ?_)
 refine cwS (cwB ?_)
 have ⟨o0,hj0,h0⟩ := bdS h
 refine cwJ (fun (z : Bool) => St.of [(1,.ptr 0 0),(3,.d (eint (a0.2.1.length : Int))),(4,.d (eint (a0.2.2.length : Int))),(14,.d (qW z))] [(0,.box (.d (qw a0)))]) (fun z => o0 = z) ?_ ?_
 ·intro v0 hv0; subst hv0
  refine cwC h0 rfl ?_ ?_
  ·intro hc0 h1
   refine cSR (.A rfl<|.nil rfl) ?_
   obtain rfl := zQ h1
   exact rt1 rfl rfl rfl
  intro hc0 h2
  have ⟨o1,hj1,h3⟩ := bdS h2
  refine cwJ (fun (z : Bool) => St.of [(1,.ptr 0 0),(3,.d (eint (a0.2.1.length : Int))),(4,.d (eint (a0.2.2.length : Int))),(23,.d (qW z))] [(0,.box (.d (qw a0)))]) (fun z => o1 = z) ?_ ?_
  ·intro v1 hv1; subst hv1
   refine cwC h3 rfl ?_ ?_
   ·intro hc1 h4
    refine cSR (.A rfl<|.nil rfl) ?_
    obtain rfl := zQ h4
    exact rt1 rfl rfl rfl
   intro hc1 h5
   have ⟨o2,hj2,h6⟩ := bdS h5
   refine cwJ (fun (z : Bool) => St.of [(1,.ptr 0 0),(39,.d (qW z))] [(0,.box (.d (qw a0)))]) (fun z => o2 = z) ?_ ?_
   ·intro v2 hv2; subst hv2
    refine cwC h6 rfl ?_ ?_
    ·intro hc2 h7
     refine cSR (.A rfl<|.nil rfl) ?_
     obtain rfl := zQ h7
     exact rt1 rfl rfl rfl
    intro hc2 h8
    have ⟨x0,hx0,h9⟩ := bdS h8
    refine cSR (.F rfl qy3 rfl<|.L [1] rfl ta34 rfl<|.c (qc0 rfl rfl .no Try.func82 rfl rfl (qp4 hx0) (.cons rfl .d (.cons rfl .f0 .nil)) ⟨tV,(by simp [AV.live,AV.lives]),tV⟩ (.inl rfl))<|.A rfl<|.nil rfl) ?_
    refine cwC h9 rfl ?_ ?_
    ·intro hc3 h10
     refine cSR (.A rfl<|.nil rfl) ?_
     obtain rfl := zQ h10
     exact rt1 rfl rfl rfl
    intro hc3 h11
    refine cwK (cSR (.c (o_mkmap eint qW 1 rfl rfl .no rfl)<|.A rfl<|.nil rfl) ?_)
    have ⟨o3,hj3,h12⟩ := bdS h11
    refine cwJ (fun (z : Unit) => St.of [(1,.ptr 0 0)] [(0,.box (.d (qw a0)))]) (fun z => o3 = (.inl z)) ?_ ?_
    ·intro v3 hv3; subst hv3
     simp only [zN] at h12
     have ⟨o4,hj4,h13⟩ := bdS h12
     refine cwJ (fun (z : Bool) => St.of [(2,.d (qW z))] []) (fun z => o4 = z) ?_ ?_
     ·intro v4 hv4; subst hv4
      obtain rfl := zQ h13
      exact rt1 rfl rfl rfl
     have ⟨x1,hx1,h14⟩ := bdS hj4
     rcases cdS h14 with ⟨hc4,h15⟩ | ⟨hc4,h16⟩
     ·skip
      have ⟨x2,hx2,h17⟩ := bdS h15
      refine cwR (.F rfl qy3 rfl<|.L [1] rfl ta34 rfl<|.c (qc0 rfl rfl .no Try.func84 rfl rfl (qe5 hx1) (.cons rfl .d (.cons rfl .f0 .nil)) ⟨tV,(by simp [AV.live,AV.lives]),tV⟩ (.inl rfl))<|.M rfl<|.c (qu rfl rfl (.yes rfl rfl hc4) rfl q31 (by decide))<|.c (qC [2] rfl rfl (.yes rfl rfl hc4) rfl rfl rfl ta44 rfl rfl)<|.c (qc0 rfl rfl (.yes rfl rfl hc4) Try.func86 rfl rfl (node_risesK_ok hx2) (.cons rfl .d (.cons rfl .f0 .nil)) ⟨tV,(by simp [AV.live,AV.lives]),tV⟩ (.inl rfl))<|.I rfl hc4<|.A rfl<|.nil rfl) ?_
      exact ⟨x2,(sJ h17),wA1 rfl⟩
     refine cwR (.F rfl qy3 rfl<|.L [1] rfl ta34 rfl<|.c (qc0 rfl rfl .no Try.func84 rfl rfl (qe5 hx1) (.cons rfl .d (.cons rfl .f0 .nil)) ⟨tV,(by simp [AV.live,AV.lives]),tV⟩ (.inl rfl))<|.M rfl<|.G rfl rfl hc4<|.G rfl rfl hc4<|.G rfl rfl hc4<|.J rfl hc4<|.A rfl<|.nil rfl) ?_
     exact ⟨false,(sJ h16),wA1 rfl⟩
    refine cSR (.F rfl q31 rfl<|.L [2] rfl ta44 rfl<|.c (qU (enc := q50) (xs := a0.2.2) rfl rfl .no rfl sl44)<|.M rfl<|.nil rfl) ?_
    refine cwB (qK (fun (z : (Int × (List (Int × Bool)))) => St.of [(1,.ptr 0 0),(5,.map 1),(61,.d (qH0 a0.2.2)),(62,.d (eint (a0.2.2.length : Int))),(63,.d (eint z.1))] [(0,.box (.d (qw a0))),(1,.map 0 (mD eint qW z.2))]) hj3 (wA1 rfl) ?_)
    intro v5 x3 hb0 hx3
    refine cSR (.B rfl (qO0 _ _) rfl<|.nil rfl) ?_
    refine cwS (cwC hb0 rfl ?_ ?_)
    ·intro hc5 h18
     refine cwK ?_
     refine cwS (cwB ?_)
     have ⟨x4,hx4,h20⟩ := bdS h18
     have hx4g := qB hx4
     refine cSR (.c (qs1 (enc := q50) (xs := a0.2.2) rfl rfl .no rfl rfl sl44 sz69 hx4g.1 hx4g.2)<|.c (o_ld rfl rfl .no rfl ta69 rfl rfl)<|.c (qb0 2 rfl rfl .no ze69 rfl)<|.S [] rfl sz69 rfl<|.nil rfl) ?_
     refine cwS ?_
     have ⟨o5,hj5,h21⟩ := bdS h20
     refine cwJ (fun (z : Bool) => St.of [(1,.ptr 0 0),(5,.map 1),(7,.ptr 2 0),(61,.d (qH0 a0.2.2)),(62,.d (eint (a0.2.2.length : Int))),(63,.d (eint v5.1)),(80,.d (qW z))] [(0,.box (.d (qw a0))),(1,.map 0 (mD eint qW v5.2)),(2,.box (.d (q50 x4)))]) (fun z => o5 = z) ?_ ?_
     ·intro v6 hv5; subst hv5
      refine cwC h21 rfl ?_ ?_
      ·intro hc6 h22
       refine cSR (.A rfl<|.nil rfl) ?_
       have he0 := ((hx3 _ (sJ h22)).symm).symm
       subst he0
       obtain rfl := zQ h12
       exact rt1 rfl rfl rfl
      intro hc6 h23
      refine cwK (cwR (.M rfl<|.F rfl qw3 rfl<|.L [1] rfl ta3 rfl<|.c (o_mapset (ek := eint) (ev := qW) (m := v5.2) x4.2 true rfl .no rfl rfl rfl rfl mp159 kl3 rfl)<|.nil rfl) ?_)
      refine cwR (.B rfl (qR0 _ _) rfl<|.M rfl<|.nil rfl) ?_
      exact ⟨((IntKind.wrap .i64 (v5.1 + 1)),(mset v5.2 x4.2 true)),(sJ h23),.w (wkF ⟨wP rfl,⟨_,rfl,.map rfl rfl⟩,wD rfl,wD rfl,wD rfl,tV⟩ ⟨.box rfl (.d rfl),.map0 rfl rfl rfl (noIter rfl),tV⟩ qM)⟩
     rcases cdS hj5 with ⟨hc7,h24⟩ | ⟨hc7,h25⟩
     ·skip
      refine cwR (.F rfl qw3 rfl<|.L [1] rfl ta3 rfl<|.B rfl (qO0 _ _) rfl<|.M rfl<|.G rfl rfl hc7<|.G rfl rfl hc7<|.G rfl rfl hc7<|.I rfl hc7<|.M rfl<|.G rfl rfl rfl<|.G rfl rfl rfl<|.G rfl rfl rfl<|.G rfl rfl rfl<|.I rfl rfl<|.nil rfl) ?_
      exact ⟨true,(sJ h24),wA1 rfl⟩
     rcases cdS h25 with ⟨hc8,h26⟩ | ⟨hc8,h27⟩
     ·skip
      refine cwR (.F rfl qw3 rfl<|.L [1] rfl ta3 rfl<|.B rfl (qO0 _ _) rfl<|.M rfl<|.c (qu rfl rfl (.yes rfl rfl hc7) rfl qw3 (by decide))<|.c (qC [1] rfl rfl (.yes rfl rfl hc7) rfl rfl rfl ta3 rfl rfl)<|.c (qn rfl rfl (.yes rfl rfl hc7) rfl rfl (qT3 _ _) rfl)<|.J rfl hc7<|.M rfl<|.G rfl rfl hc8<|.G rfl rfl hc8<|.G rfl rfl hc8<|.G rfl rfl hc8<|.I rfl hc8<|.nil rfl) ?_
      exact ⟨true,(sJ h26),wA1 rfl⟩
     refine cwR (.F rfl qw3 rfl<|.L [1] rfl ta3 rfl<|.B rfl (qO0 _ _) rfl<|.M rfl<|.c (qu rfl rfl (.yes rfl rfl hc7) rfl qw3 (by decide))<|.c (qC [1] rfl rfl (.yes rfl rfl hc7) rfl rfl rfl ta3 rfl rfl)<|.c (qn rfl rfl (.yes rfl rfl hc7) rfl rfl (qT3 _ _) rfl)<|.J rfl hc7<|.M rfl<|.c (o_mv rfl rfl (.yes rfl rfl hc8) rfl)<|.c (qu rfl rfl (.yes rfl rfl hc8) rfl qw3 (by decide))<|.c (qC [1] rfl rfl (.yes rfl rfl hc8) rfl rfl rfl ta3 rfl rfl)<|.c (qL5 (ek := eint) (ev := qW) (m := v5.2) x4.2 false rfl rfl (.yes rfl rfl hc8) rfl rfl rfl mp159 kl3 ze4 rfl rfl)<|.J rfl hc8<|.nil rfl) ?_
     exact ⟨((mget v5.2 x4.2).getD false),(sJ h27),wA1 rfl⟩
    intro hc5 h19
    refine qR ?_
    exact ⟨(),(hx3 _ (sJ h19)).symm,wA1 rfl⟩
   rcases cdS hj2 with ⟨hc9,h28⟩ | ⟨hc9,h29⟩
   ·skip
    rcases cdS h28 with ⟨hc10,h30⟩ | ⟨hc10,h31⟩
    ·skip
     refine cwR (.F rfl qG1 rfl<|.L [0] rfl ta3 rfl<|.B rfl (qT3 _ _) rfl<|.M rfl<|.c (o_mv rfl rfl (.yes rfl rfl hc9) rfl)<|.c (qn rfl rfl (.yes rfl rfl hc9) rfl rfl (qO0 _ _) rfl)<|.c (o_mv rfl rfl (.yes rfl rfl hc9) rfl)<|.G rfl rfl hc10<|.G rfl rfl hc10<|.c (qm rfl rfl (.yes rfl rfl hc9) rfl hc10 rfl)<|.c (o_mv rfl rfl (.yes rfl rfl hc9) rfl)<|.G rfl rfl rfl<|.G rfl rfl rfl<|.c (qm rfl rfl (.yes rfl rfl hc9) rfl rfl rfl)<|.I rfl hc9<|.A rfl<|.nil rfl) ?_
     exact ⟨true,(sJ h30),wA1 rfl⟩
    rcases cdS h31 with ⟨hc11,h32⟩ | ⟨hc11,h33⟩
    ·skip
     refine cwR (.F rfl qG1 rfl<|.L [0] rfl ta3 rfl<|.B rfl (qT3 _ _) rfl<|.M rfl<|.c (o_mv rfl rfl (.yes rfl rfl hc9) rfl)<|.c (qn rfl rfl (.yes rfl rfl hc9) rfl rfl (qO0 _ _) rfl)<|.c (o_mv rfl rfl (.yes rfl rfl hc9) rfl)<|.c (o_mv rfl rfl (.yes rfl rfl hc10) rfl)<|.c (qn rfl rfl (.yes rfl rfl hc10) rfl rfl (qT3 _ _) rfl)<|.c (qk rfl rfl (.yes rfl rfl hc9) rfl hc10 rfl)<|.c (o_mv rfl rfl (.yes rfl rfl hc9) rfl)<|.G rfl rfl hc11<|.G rfl rfl hc11<|.c (qm rfl rfl (.yes rfl rfl hc9) rfl hc11 rfl)<|.I rfl hc9<|.A rfl<|.nil rfl) ?_
     exact ⟨true,(sJ h32),wA1 rfl⟩
    refine cwR (.F rfl qG1 rfl<|.L [0] rfl ta3 rfl<|.B rfl (qT3 _ _) rfl<|.M rfl<|.c (o_mv rfl rfl (.yes rfl rfl hc9) rfl)<|.c (qn rfl rfl (.yes rfl rfl hc9) rfl rfl (qO0 _ _) rfl)<|.c (o_mv rfl rfl (.yes rfl rfl hc9) rfl)<|.c (o_mv rfl rfl (.yes rfl rfl hc10) rfl)<|.c (qn rfl rfl (.yes rfl rfl hc10) rfl rfl (qT3 _ _) rfl)<|.c (qk rfl rfl (.yes rfl rfl hc9) rfl hc10 rfl)<|.c (o_mv rfl rfl (.yes rfl rfl hc9) rfl)<|.c (o_mv rfl rfl (.yes rfl rfl hc11) rfl)<|.c (qn rfl rfl (.yes rfl rfl hc11) rfl rfl (qT3 _ _) rfl)<|.c (qk rfl rfl (.yes rfl rfl hc9) rfl hc11 rfl)<|.I rfl hc9<|.A rfl<|.nil rfl) ?_
    exact ⟨(decide ((a0.2.1.length : Int) > 0)),(sJ h33),wA1 rfl⟩
   refine cwR (.F rfl qG1 rfl<|.L [0] rfl ta3 rfl<|.B rfl (qT3 _ _) rfl<|.M rfl<|.G rfl rfl hc9<|.G rfl rfl hc9<|.G rfl rfl hc9<|.c (q45 rfl rfl rfl rfl)<|.c (q45 rfl rfl rfl rfl)<|.G rfl rfl hc9<|.G rfl rfl hc9<|.c (q45 rfl rfl rfl rfl)<|.c (q45 rfl rfl rfl rfl)<|.G rfl rfl hc9<|.J rfl hc9<|.A rfl<|.nil rfl) ?_
   exact ⟨false,(sJ h29),wA1 rfl⟩
  rcases cdS hj1 with ⟨hc12,h34⟩ | ⟨hc12,h35⟩
  ·skip
   rcases cdS h34 with ⟨hc13,h36⟩ | ⟨hc13,h37⟩
   ·skip
    refine cwR (.F rfl qG1 rfl<|.L [0] rfl ta3 rfl<|.B rfl (qh0 _ _) rfl<|.M rfl<|.c (o_mv rfl rfl (.yes rfl rfl hc12) rfl)<|.c (qn rfl rfl (.yes rfl rfl hc12) rfl rfl (qO0 _ _) rfl)<|.c (o_mv rfl rfl (.yes rfl rfl hc12) rfl)<|.G rfl rfl hc13<|.G rfl rfl hc13<|.c (qm rfl rfl (.yes rfl rfl hc12) rfl hc13 rfl)<|.c (o_mv rfl rfl (.yes rfl rfl hc12) rfl)<|.G rfl rfl rfl<|.G rfl rfl rfl<|.c (qm rfl rfl (.yes rfl rfl hc12) rfl rfl rfl)<|.I rfl hc12<|.A rfl<|.nil rfl) ?_
    exact ⟨true,(sJ h36),wA1 rfl⟩
   rcases cdS h37 with ⟨hc14,h38⟩ | ⟨hc14,h39⟩
   ·skip
    refine cwR (.F rfl qG1 rfl<|.L [0] rfl ta3 rfl<|.B rfl (qh0 _ _) rfl<|.M rfl<|.c (o_mv rfl rfl (.yes rfl rfl hc12) rfl)<|.c (qn rfl rfl (.yes rfl rfl hc12) rfl rfl (qO0 _ _) rfl)<|.c (o_mv rfl rfl (.yes rfl rfl hc12) rfl)<|.c (o_mv rfl rfl (.yes rfl rfl hc13) rfl)<|.c (qn rfl rfl (.yes rfl rfl hc13) rfl rfl (qT3 _ _) rfl)<|.c (qk rfl rfl (.yes rfl rfl hc12) rfl hc13 rfl)<|.c (o_mv rfl rfl (.yes rfl rfl hc12) rfl)<|.G rfl rfl hc14<|.G rfl rfl hc14<|.c (qm rfl rfl (.yes rfl rfl hc12) rfl hc14 rfl)<|.I rfl hc12<|.A rfl<|.nil rfl) ?_
    exact ⟨true,(sJ h38),wA1 rfl⟩
   refine cwR (.F rfl qG1 rfl<|.L [0] rfl ta3 rfl<|.B rfl (qh0 _ _) rfl<|.M rfl<|.c (o_mv rfl rfl (.yes rfl rfl hc12) rfl)<|.c (qn rfl rfl (.yes rfl rfl hc12) rfl rfl (qO0 _ _) rfl)<|.c (o_mv rfl rfl (.yes rfl rfl hc12) rfl)<|.c (o_mv rfl rfl (.yes rfl rfl hc13) rfl)<|.c (qn rfl rfl (.yes rfl rfl hc13) rfl rfl (qT3 _ _) rfl)<|.c (qk rfl rfl (.yes rfl rfl hc12) rfl hc13 rfl)<|.c (o_mv rfl rfl (.yes rfl rfl hc12) rfl)<|.c (o_mv rfl rfl (.yes rfl rfl hc14) rfl)<|.c (qn rfl rfl (.yes rfl rfl hc14) rfl rfl (qT3 _ _) rfl)<|.c (qk rfl rfl (.yes rfl rfl hc12) rfl hc14 rfl)<|.I rfl hc12<|.A rfl<|.nil rfl) ?_
   exact ⟨(decide ((a0.2.2.length : Int) > 0)),(sJ h39),wA1 rfl⟩
  refine cwR (.F rfl qG1 rfl<|.L [0] rfl ta3 rfl<|.B rfl (qh0 _ _) rfl<|.M rfl<|.G rfl rfl hc12<|.G rfl rfl hc12<|.G rfl rfl hc12<|.c (q45 rfl rfl rfl rfl)<|.c (q45 rfl rfl rfl rfl)<|.G rfl rfl hc12<|.G rfl rfl hc12<|.c (q45 rfl rfl rfl rfl)<|.c (q45 rfl rfl rfl rfl)<|.G rfl rfl hc12<|.J rfl hc12<|.A rfl<|.nil rfl) ?_
  exact ⟨false,(sJ h35),wA1 rfl⟩
 rcases cdS hj0 with ⟨hc15,h40⟩ | ⟨hc15,h41⟩
 ·skip
  refine cwR (.F rfl qG1 rfl<|.L [0] rfl ta3 rfl<|.B rfl (qO0 _ _) rfl<|.M rfl<|.G rfl rfl hc15<|.G rfl rfl hc15<|.G rfl rfl hc15<|.I rfl hc15<|.A rfl<|.nil rfl) ?_
  exact ⟨true,(sJ h40),wA1 rfl⟩
 refine cwR (.F rfl qG1 rfl<|.L [0] rfl ta3 rfl<|.B rfl (qO0 _ _) rfl<|.M rfl<|.c (qu rfl rfl (.yes rfl rfl hc15) rfl qG1 (by decide))<|.c (qC [0] rfl rfl (.yes rfl rfl hc15) rfl rfl rfl ta3 rfl rfl)<|.c (qn rfl rfl (.yes rfl rfl hc15) rfl rfl (qf6 _ _) rfl)<|.J rfl hc15<|.A rfl<|.nil rfl) ?_
 exact ⟨(decide (a0.1 ≥ 12)),(sJ h41),wA1 rfl⟩
theorem node_First_okc {a0} {r} (h : qL2 a0 = some r) : FO 67 [.d (qw a0)] 0 [] (.d (eK r)) [(1,.box (.d (eK r)))] := by
 refine fnO Try.func67 rfl rfl (cwP ?_)
 unfold qL2 at h
 refine cSR (.X 0 rfl<|.c (qb0 1 rfl rfl .no ze31 rfl)<|.nil rfl) ?_
 refine cwS ?_
 refine cwB (cSR (.F rfl qy3 rfl<|.L [1] rfl ta34 rfl<|.c (qU (enc := ePr) (xs := a0.2.1) rfl rfl .no rfl sl34)<|.B rfl (qT3 _ _) rfl<|.A rfl<|.nil rfl) ?_)
 refine cwC h rfl ?_ ?_
 ·intro hc0 h0
  have ⟨x0,hx0,h2⟩ := bdS h0
  have hx0g := qB hx0
  refine cSR (.F rfl qy3 rfl<|.L [1] rfl ta34 rfl<|.c (qs1 (enc := ePr) (xs := a0.2.1) rfl rfl .no rfl rfl sl34 sz52 hx0g.1 hx0g.2)<|.c (qO1 rfl rfl .no rfl qr3 (by decide) rfl rfl)<|.c (o_ld rfl rfl .no rfl ta31 rfl rfl)<|.S [] rfl sz31 rfl<|.nil rfl) ?_
  obtain rfl := zQ h2
  exact qv ⟨_,(wA2 [(2,.ptr 1 0)] [(1,.box (.d (eK x0.1)))] rfl),.inr rfl,_,resC rfl rfl rfl ta31 rfl rfl,rfl,rfl⟩
 intro hc0 h1
 refine cSR (.F rfl q31 rfl<|.L [2] rfl ta44 rfl<|.c (qU (enc := q50) (xs := a0.2.2) rfl rfl .no rfl sl44)<|.B rfl (qT3 _ _) rfl<|.A rfl<|.nil rfl) ?_
 refine cwC h1 rfl ?_ ?_
 ·intro hc1 h3
  have ⟨x1,hx1,h5⟩ := bdS h3
  have hx1g := qB hx1
  refine cSR (.F rfl q31 rfl<|.L [2] rfl ta44 rfl<|.c (qs1 (enc := q50) (xs := a0.2.2) rfl rfl .no rfl rfl sl44 sz69 hx1g.1 hx1g.2)<|.c (qO1 rfl rfl .no rfl qE4 (by decide) rfl rfl)<|.c (o_ld rfl rfl .no rfl ta31 rfl rfl)<|.S [] rfl sz31 rfl<|.nil rfl) ?_
  obtain rfl := zQ h5
  exact qv ⟨_,(wA2 [(2,.ptr 1 0)] [(1,.box (.d (eK x1.1)))] rfl),.inr rfl,_,resC rfl rfl rfl ta31 rfl rfl,rfl,rfl⟩
 intro hc1 h4
 refine cwK (cSR (.c (o_bldB (l := (List.replicate 24 0)) (r := (List.replicate 24 0)) rfl rfl .no ze31 ar31 sz5 .nil)<|.S [] rfl sz31 rfl<|.nil rfl) ?_)
 obtain rfl := zQ h4
 exact qv ⟨_,(wA2 [(2,.ptr 1 0)] [(1,.box (.d (eK (List.replicate 24 0))))] rfl),.inr rfl,_,resC rfl rfl rfl ta31 rfl rfl,rfl,rfl⟩
theorem node_First_ok {a0} {r} (h : qL2 a0 = some r) : FO 67 [.d (qw a0)] 0 [] (.d (eK r)) [] := q93 (node_First_okc h)
theorem tree_few_ok {a0} {r} (h : qJ5 a0 = some r) : FnOk Try.prog 68 [.d (qw a0)] 0 (lk []) (fun rr oo => rr = .d (qW r) ∧ oo = lk []) := by
 refine fnO Try.func68 rfl rfl (cwP ?_)
 unfold qJ5 at h
 refine cSR (.X 0 rfl<|.A rfl<|.nil rfl) ?_
 refine cwS (cSR (.F rfl qG1 rfl<|.L [0] rfl ta3 rfl<|.B rfl (qh0 _ _) rfl<|.nil rfl) ?_)
 refine cwC h rfl ?_ ?_
 ·intro hc0 h0
  refine cSR (.F rfl qy3 rfl<|.L [1] rfl ta34 rfl<|.c (qU (enc := ePr) (xs := a0.2.1) rfl rfl .no rfl sl34)<|.B rfl (qO0 _ _) rfl<|.A rfl<|.nil rfl) ?_
  obtain rfl := zQ h0
  exact rt1 rfl rfl rfl
 intro hc0 h1
 refine cwK (cSR (.F rfl q31 rfl<|.L [2] rfl ta44 rfl<|.c (qU (enc := q50) (xs := a0.2.2) rfl rfl .no rfl sl44)<|.B rfl (qO0 _ _) rfl<|.A rfl<|.nil rfl) ?_)
 obtain rfl := zQ h1
 exact rt1 rfl rfl rfl
theorem qr5 {a0} {r} (h : q83 a0 = some r) : FnOk Try.prog 44 [.d (eErr a0)] 0 (lk []) (fun rr oo => rr = .d (eErr r) ∧ oo = lk []) := by
 refine fnO Try.func44 rfl rfl (cwP ?_)
 unfold q83 at h
 refine cSR (.A rfl<|.nil rfl) ?_
 refine cwS (cSR (.M rfl<|.B rfl (qh0 _ _) rfl<|.nil rfl) ?_)
 refine cwC h rfl ?_ ?_
 ·intro hc0 h0
  refine cSR (.A rfl<|.nil rfl) ?_
  obtain rfl := zQ h0
  exact rt1 rfl rfl rfl
 intro hc0 h1
 refine cwK (cSR (.M rfl<|.A rfl<|.nil rfl) ?_)
 obtain rfl := zQ h1
 exact rt1 rfl rfl rfl
theorem qQ3 {a0} {a1} {r} (h : qi0 a0 a1 = some r) : FnOk Try.prog 120 [.ptr 0 0,.d (qw a1)] 1 (lk [(0,.own (qe a0))]) (fun rr oo => rr = .tup [.d (eint r.1),.d (eErr r.2.1)] ∧ oo = lk [(0,.own (qe r.2.2))]) := by
 refine fnO Try.func120 rfl rfl (cwP ?_)
 unfold qi0 at h
 refine cSR (.X 1 rfl<|.A rfl<|.A rfl<|.nil rfl) ?_
 refine cwS ?_
 have ⟨x0,hx0,h0⟩ := bdS h
 refine cSR (.L [] rfl ta46 rfl<|.c (qc0 rfl rfl .no Try.func66 rfl rfl (node_Right_ok hx0) (.cons rfl .d .nil) ⟨tV,tV⟩ (.inl rfl))<|.T rfl<|.nil rfl) ?_
 refine cwC h0 rfl ?_ ?_
 ·intro hc0 h1
  refine cSR (.A rfl<|.A rfl<|.nil rfl) ?_
  obtain rfl := zQ h1
  exact rt2 rfl rfl rfl rfl
 intro hc0 h2
 refine cwK (cwL (lOp (o := 0) (y := .st [.ptr 2 0,.map 3]) (news := [(2,.own (qp a0.1)),(3,.map 0 (mD eint qw a0.2))]) rfl (.st (.cons (.box rfl) (.cons (.map rfl) .nil))) rfl rfl ⟨rfl,rfl,tV⟩) ?_)
 refine cwW (wA0 (l := [(0,.ptr 0 0),(3,.ptr 1 0)]) (m := [(0,.box (.st [.ptr 2 0,.map 3])),(1,.box (.d (qw a1))),(2,.own (qp a0.1)),(3,.map 0 (mD eint qw a0.2))]) rfl) ?_
 have ⟨x1,hx1,h3⟩ := bdS h2
 refine cSR (.M rfl<|.K rfl<|.F rfl fld88_0 rfl<|.L [0] rfl ta84 rfl<|.c (qG (fun _ => 2) rfl rfl .no Try.func123 rfl rfl (refs_Refs_Take_ok hx1) (.cons rfl (.p rfl) .nil) (q20 rfl ⟨(by simp [AV.live,lk,Nat.beq]),tV⟩ rfl (OD.dat_live (ql _)) (by simp)) (.inl rfl))<|.M rfl<|.E rfl<|.E rfl<|.A rfl<|.A rfl<|.nil rfl) ?_
 refine cwS (cSR (.M rfl<|.T rfl<|.nil rfl) ?_)
 refine cwC h3 rfl ?_ ?_
 ·intro hc1 h4
  refine cSR (.A rfl<|.A rfl<|.nil rfl) ?_
  obtain rfl := zQ h4
  exact qv ⟨_,(show Leads _ _ (St.of [(4,.d (eint 0)),(5,.d (eErr 7))] [(0,.own (qe (x1.2.2,a0.2)))]) from .trans (lPk (o := 0) (y := .st [.ptr 2 0,.map 3]) (x := qe (x1.2.2,a0.2)) (l := [(4,.d (eint 0)),(5,.d (eint 7))]) (m := [(0,.own (qe (x1.2.2,a0.2)))]) rfl (.st (.cons (.box rfl) (.cons (.map rfl) .nil))) rfl rfl ⟨⟨rfl,tV⟩,⟨rfl,tV⟩,tV⟩ ⟨.inl rfl,tV⟩ rfl (OD.dat_live (qc _)) ⟨rfl,rfl,tV⟩ (qq rfl)) (wA1 rfl)),.inr rfl,_,res2 rfl rfl rfl,rfl,rfl⟩
 intro hc1 h5
 refine cwK ?_
 have ⟨x2,hx2,h6⟩ := bdS h5
 refine cwS (cwRA mixed (by kernel_rfl) (.M rfl<|.K rfl<|.F rfl fld88_1 rfl<|.L [1] rfl ta86 rfl<|.M rfl<|.L [] rfl ta46 rfl<|.c (qc0 rfl rfl .no Try.func47 rfl rfl (tree_own_ok hx2) (.cons rfl .d .nil) ⟨tV,tV⟩ (.inl rfl))<|.c (o_mapset (ek := eint) (ev := qw) (m := a0.2) x1.1 x2 rfl .no rfl rfl rfl rfl mp86 kl3 rfl)<|.nil rfl) (by kernel_rfl) ?_)
 refine cSR (.M rfl<|.A rfl<|.A rfl<|.nil rfl) ?_
 obtain rfl := zQ h6
 exact qv ⟨_,(show Leads _ _ (St.of [(4,.d (eint x1.1)),(5,.d (eErr 0))] [(0,.own (qe (x1.2.2,(mset a0.2 x1.1 x2))))]) from .trans (lPk (o := 0) (y := .st [.ptr 2 0,.map 3]) (x := qe (x1.2.2,(mset a0.2 x1.1 x2))) (l := [(4,.d (eint x1.1)),(5,.d (eint 0))]) (m := [(0,.own (qe (x1.2.2,(mset a0.2 x1.1 x2))))]) rfl (.st (.cons (.box rfl) (.cons (.map rfl) .nil))) rfl rfl ⟨⟨rfl,tV⟩,⟨rfl,tV⟩,tV⟩ ⟨.inl rfl,tV⟩ rfl (OD.dat_live (qc _)) ⟨rfl,rfl,tV⟩ (qq rfl)) (wA1 rfl)),.inr rfl,_,res2 rfl rfl rfl,rfl,rfl⟩
end
end Go.Val
