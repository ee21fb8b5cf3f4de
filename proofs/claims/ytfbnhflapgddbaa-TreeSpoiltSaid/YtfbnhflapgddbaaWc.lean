/- Walks of the program's functions,printed. -/
import Derived.Test.YtfbnhflapgddbaaWb
set_option linter.unusedSectionVars false
set_option linter.unusedVariables false
set_option linter.unusedSimpArgs false
set_option maxRecDepth 100000
namespace Go.Val
open Go.RowKit Go.Proofs
section
variable [NoDrw]
noncomputable def qy1 (a0 : ttR) : Option Bool := some (decide ((a0.2.size : Int) > 40))
noncomputable def qd1 (a0 : List ttR) : Option Int := (((qJ (V := Int) (O := (Unit ⊕ Int)) (fun v0 => cond (decide (v0 < (a0.length : Int))) ((gx a0 v0).bind fun x0 => (qy1 x0).bind fun x1 => cond x1 (some (.inr (.inr v0))) (some (.inl (IntKind.wrap .i64 (v0 + 1))))) (some (.inr (.inl ())))) 0) : Option (Unit ⊕ Int))).bind fun o0 => Sum.elim (fun (v1 : Unit) => some (-1)
 ) (fun w0 => some w0) o0
noncomputable def qu0 (a0 : List ttR) : Option Bool := (qd1 a0).bind fun x0 => some (decide (x0 ≥ 0))
noncomputable def q32 (a0 : ttR) : Option B8 := some a0.1
noncomputable def qz2 (a0 : ttK) : Option B8 := some a0.1
noncomputable def q43 (a0 : List ttR) : Option Bool := (((qJ (V := Int) (O := (Unit ⊕ Bool)) (fun v0 => cond (decide (v0 < (a0.length : Int))) ((gx a0 (IntKind.wrap .i64 (v0 - 1))).bind fun x0 => (q32 x0).bind fun x1 => (gx a0 v0).bind fun x2 => (q32 x2).bind fun x3 => (qT x1 x3).bind fun x4 => cond (decide (x4 ≥ 0)) (some (.inr (.inr false))) (
     some (.inl (IntKind.wrap .i64 (v0 + 1))))) (some (.inr (.inl ())))) 1) : Option (Unit ⊕ Bool))).bind fun o0 => Sum.elim (fun (v1 : Unit) => some true) (fun w0 => some w0) o0
noncomputable def qY2 (a0 : List ttK) : Option Bool := (((qJ (V := Int) (O := (Unit ⊕ Bool)) (fun v0 => cond (decide (v0 < (a0.length : Int))) ((gx a0 (IntKind.wrap .i64 (v0 - 1))).bind fun x0 => (qz2 x0).bind fun x1 => (gx a0 v0).bind fun x2 => (qz2 x2).bind fun x3 => (qT x1 x3).bind fun x4 => cond (decide (x4 ≥ 0)) (some (.inr (.inr false))) (
     some (.inl (IntKind.wrap .i64 (v0 + 1))))) (some (.inr (.inl ())))) 1) : Option (Unit ⊕ Bool))).bind fun o0 => Sum.elim (fun (v1 : Unit) => some true) (fun w0 => some w0) o0
noncomputable def qe1 (a0 : ttN) : Option Bool := (((cond (decide (a0.1 < 0)) (some true) (some (decide (a0.1 ≥ 12)))) : Option Bool)).bind fun o0 => cond o0 (some false) ((((cond (decide (a0.1 = 0)) (cond (decide ((a0.2.1.length : Int) < 1)) (some true) (cond (decide ((a0.2.1.length : Int) > 7)) (some true) (some (decide ((a0.2.2.length : Int) > 0))))) (some false)
  ) : Option Bool)).bind fun o1 => cond o1 (some false) ((((cond (decide (a0.1 > 0)) (cond (decide ((a0.2.2.length : Int) < 2)) (some true) (cond (decide ((a0.2.2.length : Int) > 18)) (some true) (some (decide ((a0.2.1.length : Int) > 0))))) (some false)) : Option Bool)).bind fun o2 => cond o2 (some false) ((qu0 a0.2.1).bind fun x0 => cond x0 (some false) ((((
      qJ (V := (Int × (List (Int × Bool)))) (O := (Unit ⊕ Bool)) (fun v0 => cond (decide (v0.1 < (a0.2.2.length : Int))) ((gx a0.2.2 v0.1).bind fun x1 => (((cond (decide (x1.2 < 2)) (some true) (cond (decide (x1.2 > 4294967295)) (some true) (some ((mget v0.2 x1.2).getD false)))) : Option Bool)).bind fun o3 => cond o3 (some (.inr (.inr false))) (
         some (.inl ((IntKind.wrap .i64 (v0.1 + 1)),(mset v0.2 x1.2 true))))) (some (.inr (.inl ())))) (0,[])) : Option (Unit ⊕ Bool))).bind fun o4 => Sum.elim (fun (v1 : Unit) => ((((q43 a0.2.1).bind fun x2 => cond x2 ((qY2 a0.2.2).bind fun x3 => some x3) (some false)) : Option Bool)).bind fun o5 => some o5) (fun w0 => some w0) o4))))
noncomputable def qR0 (a0 : ttN) : Option B8 := cond (decide ((a0.2.1.length : Int) > 0)) ((gx a0.2.1 0).bind fun x0 => some x0.1) (cond (decide ((a0.2.2.length : Int) > 0)) ((gx a0.2.2 0).bind fun x1 => some x1.1) (some (List.replicate 24 0)))
noncomputable def ql3 (a0 : ttN) : Option Bool := cond (decide (a0.1 = 0)) (some (decide ((a0.2.1.length : Int) < 3))) (some (decide ((a0.2.2.length : Int) < 9)))
noncomputable def qI0 (a0 : Int) : Option Int := cond (decide (a0 = 1)) (some 12) (some a0)
noncomputable def qO0 (a0 : ttM) (a1 : ttN) : Option (Int × Int × ttM) := (qe1 a1).bind fun x0 => cond (!x0) (some (0,1,a0)) ((qp1 a0.1).bind fun x1 => cond (!x1.2.1) (some (0,7,(x1.2.2,a0.2))) ((qn3 a1).bind fun x2 => some (x1.1,0,(x1.2.2,(mset a0.2 x1.1 x2)))))
theorem node_Right_1_ok {a0 : ttR} {r : Bool} (h : qy1 a0 = some r) : FnOk Try.prog 83 [.d (ePr a0)] 0 (lk []) (fun rr oo => rr = .d (qU r) ∧ oo = lk []) := by
 refine fnO Try.func83 rfl rfl (cwP ?_)
 unfold qy1 at h
 refine cwS (cwR (
  .c (uX 0 rfl)<|
  .c (uA rfl)<|.nil rfl) ?_)
 refine cwS (cwR (
  .c (uF rfl fld52_1 rfl)<|
  .c (uL [1] rfl ta9 rfl)<|
  .c (o_lenS rfl rfl .no rfl un9)<|
  .c (uB rfl (qy3 _ _) rfl)<|
  .c (uA rfl)<|.nil rfl) ?_)
 have heq := ((sJ h)).symm
 subst heq
 exact qw ⟨_,(show Leads _ _ (St.of [(2,.d (qU (decide ((a0.2.size : Int) > 40))))] []) from .w (wkF ⟨wD rfl,trivial⟩ trivial qG)),.inr rfl,_,res1 rfl rfl,rfl,rfl⟩
theorem qR4 {a0 : List ttR} {r : Int} (h : qd1 a0 = some r) : FnOk Try.prog 96 [.d (eSP_ a0),.fn 83 [] []] 0 (lk []) (fun rr oo => rr = .d (eint r) ∧ oo = lk []) := by
 refine fnO Try.func96 rfl rfl (cwP ?_)
 unfold qd1 at h
 refine cwS (cwR (
  .c (uA rfl)<|.nil rfl) ?_)
 have ⟨o0,hj0,h0⟩ := bdS h
 refine cwJ (fun (z : Unit) => St.of [] []) (fun (z : Unit) => o0 = (.inl z)) ?_ ?_
 ·intro v0 hv0; subst hv0
  simp only [Sum.elim_inl] at h0
  refine cwS (cwR (
   .c (uA rfl)<|.nil rfl) ?_)
  have heq := ((sJ h0)).symm
  subst heq
  exact qw ⟨_,(show Leads _ _ (St.of [(4,.d (eint (-1)))] []) from .w (wkF ⟨wD rfl,trivial⟩ trivial qG)),.inr rfl,_,res1 rfl rfl,rfl,rfl⟩
 refine cwS (cwR (
  .c (uM rfl)<|
  .c (qV (enc := ePr) (xs := a0) rfl rfl .no rfl sl34)<|
  .c (uM rfl)<|.nil rfl) ?_)
 refine cwB ?_
 refine qM (V := Int) (O := (Unit ⊕ Int)) (fun (z : Int) => St.of [(0,.d (eSP_ a0)),(1,.fn 83 [] []),(7,.d (eint (a0.length : Int))),(8,.d (eint z))] []) hj0 (.w (wkF ⟨wD rfl,⟨_,rfl,.fn .nil .nil⟩,wD rfl,wD rfl,trivial⟩ trivial qG)) ?_
 intro v1 x0 hb0 hx0
 refine cwS (cwR (
  .c (uB rfl (qG0 _ _) rfl)<|.nil rfl) ?_)
 refine cwS ?_
 rcases cdS hb0 with ⟨hc0,h1⟩ | ⟨hc0,h2⟩
 ·refine cwT rfl hc0 ?_
  refine cwK ?_
  refine cwS ?_
  refine cwB ?_
  refine cwS (cwR (
   .c (uM rfl)<|
   .c (uA rfl)<|.nil rfl) ?_)
  have ⟨x1,hx1,h3⟩ := bdS h1
  have hx1g := qD hx1
  have ⟨x2,hx2,h4⟩ := bdS (x := qy1 x1) h3
  refine cwS (cwR (
   .c (uM rfl)<|
   .c (uM rfl)<|
   .c (uM rfl)<|
   .c (qJ1 (enc := ePr) (xs := a0) rfl rfl .no rfl rfl sl34 sz52 hx1g.1 hx1g.2)<|
   .c (o_ld rfl rfl .no rfl ta52 rfl rfl)<|
   .c (qG3 rfl rfl .no rfl Try.func83 rfl rfl (node_Right_1_ok hx2) (.cons rfl .d .nil) ⟨trivial,trivial⟩ (.inl rfl))<|.nil rfl) ?_)
  rcases cdS h4 with ⟨hc1,h5⟩ | ⟨hc1,h6⟩
  ·refine cwT rfl hc1 ?_
   refine cwS (cwR (
    .c (uM rfl)<|
    .c (uA rfl)<|.nil rfl) ?_)
   have he0 := ((hx0 _ (sJ h5)).symm).symm
   subst he0
   have heq := ((sJ h0)).symm
   subst heq
   exact qw ⟨_,(show Leads _ _ (St.of [(4,.d (eint v1))] []) from .w (wkF ⟨wD rfl,trivial⟩ trivial qG)),.inr rfl,_,res1 rfl rfl,rfl,rfl⟩
  refine cwF rfl hc1 ?_
  refine cwK ?_
  refine cwR (
   .c (uB rfl (qN0 _ _) rfl)<|
   .c (uM rfl)<|.nil rfl
  ) ?_
  exact ⟨(IntKind.wrap .i64 (v1 + 1)),(sJ h6),.w (wkF ⟨wD rfl,⟨_,rfl,.fn .nil .nil⟩,wD rfl,wD rfl,trivial⟩ trivial qG)⟩
 refine cwF rfl hc0 ?_
 refine q10 ?_
 exact ⟨(),(hx0 _ (sJ h2)).symm,.w (wkF trivial trivial qG)⟩
theorem qQ3 {a0 : List ttR} {r : Bool} (h : qu0 a0 = some r) : FnOk Try.prog 82 [.d (eSP_ a0),.fn 83 [] []] 0 (lk []) (fun rr oo => rr = .d (qU r) ∧ oo = lk []) := by
 refine fnO Try.func82 rfl rfl (cwP ?_)
 unfold qu0 at h
 refine cwS (cwR (
  .c (uA rfl)<|.nil rfl) ?_)
 have ⟨x0,hx0,h0⟩ := bdS (x := qd1 a0) h
 refine cwS (cwR (
  .c (uM rfl)<|
  .c (uM rfl)<|
  .c (qe0 rfl rfl .no Try.func96 rfl rfl (qR4 hx0) (.cons rfl .d (.cons rfl .f0 .nil)) ⟨trivial,(by simp [AV.live,AV.lives]),trivial⟩ (.inl rfl))<|
  .c (uB rfl (b_geq _ _) rfl)<|
  .c (uA rfl)<|.nil rfl) ?_)
 have heq := ((sJ h0)).symm
 subst heq
 exact qw ⟨_,(show Leads _ _ (St.of [(4,.d (qU (decide (x0 ≥ 0))))] []) from .w (wkF ⟨wD rfl,trivial⟩ trivial qG)),.inr rfl,_,res1 rfl rfl,rfl,rfl⟩
theorem node_ofPair_okc {a0 : ttR} {r : B8} (h : q32 a0 = some r) : FnOk Try.prog 85 [.d (ePr a0)] 0 (lk []) (fun rr oo => rr = .d (eK r) ∧ oo = lk [(1,.box (.d (eK r)))]) := by
 refine fnO Try.func85 rfl rfl (cwP ?_)
 unfold q32 at h
 refine cwS (cwR (
  .c (uX 0 rfl)<|
  .c (q50 1 rfl rfl .no ze31 rfl)<|.nil rfl) ?_)
 refine cwS (cwR (
  .c (uF rfl qD4 rfl)<|
  .c (uL [0] rfl ta31 rfl)<|
  .c (uS [] rfl sz31 rfl)<|.nil rfl) ?_)
 have heq := ((sJ h)).symm
 subst heq
 exact qw ⟨_,(show Leads _ _ (St.of [(2,.ptr 1 0)] [(1,.box (.d (eK a0.1)))]) from .w (wkF ⟨⟨_,rfl,.ptr rfl rfl⟩,trivial⟩ ⟨.box rfl (.d rfl),trivial⟩ qG)),.inr rfl,_,resC rfl rfl rfl ta31 rfl rfl,rfl,rfl⟩
theorem qI4 {a0 : ttR} {r : B8} (h : q32 a0 = some r) : FnOk Try.prog 85 [.d (ePr a0)] 0 (lk []) (fun rr oo => rr = .d (eK r) ∧ oo = lk []) := qt2 (node_ofPair_okc h)
theorem node_ofKid_okc {a0 : ttK} {r : B8} (h : qz2 a0 = some r) : FnOk Try.prog 87 [.d (qP a0)] 0 (lk []) (fun rr oo => rr = .d (eK r) ∧ oo = lk [(1,.box (.d (eK r)))]) := by
 refine fnO Try.func87 rfl rfl (cwP ?_)
 unfold qz2 at h
 refine cwS (cwR (
  .c (uX 0 rfl)<|
  .c (q50 1 rfl rfl .no ze31 rfl)<|.nil rfl) ?_)
 refine cwS (cwR (
  .c (uF rfl qN2 rfl)<|
  .c (uL [0] rfl ta31 rfl)<|
  .c (uS [] rfl sz31 rfl)<|.nil rfl) ?_)
 have heq := ((sJ h)).symm
 subst heq
 exact qw ⟨_,(show Leads _ _ (St.of [(2,.ptr 1 0)] [(1,.box (.d (eK a0.1)))]) from .w (wkF ⟨⟨_,rfl,.ptr rfl rfl⟩,trivial⟩ ⟨.box rfl (.d rfl),trivial⟩ qG)),.inr rfl,_,resC rfl rfl rfl ta31 rfl rfl,rfl,rfl⟩
theorem node_ofKid_ok {a0 : ttK} {r : B8} (h : qz2 a0 = some r) : FnOk Try.prog 87 [.d (qP a0)] 0 (lk []) (fun rr oo => rr = .d (eK r) ∧ oo = lk []) := qt2 (node_ofKid_okc h)
theorem qG4 {a0 : List ttR} {r : Bool} (h : q43 a0 = some r) : FnOk Try.prog 84 [.d (eSP_ a0),.fn 85 [] []] 0 (lk []) (fun rr oo => rr = .d (qU r) ∧ oo = lk []) := by
 refine fnO Try.func84 rfl rfl (cwP ?_)
 unfold q43 at h
 refine cwS (cwR (
  .c (uA rfl)<|.nil rfl) ?_)
 have ⟨o0,hj0,h0⟩ := bdS h
 refine cwJ (fun (z : Unit) => St.of [] []) (fun (z : Unit) => o0 = (.inl z)) ?_ ?_
 ·intro v0 hv0; subst hv0
  simp only [Sum.elim_inl] at h0
  refine cwS (cwR (
   .c (uA rfl)<|.nil rfl) ?_)
  have heq := ((sJ h0)).symm
  subst heq
  exact qw ⟨_,(show Leads _ _ (St.of [(4,.d (qU true))] []) from .w (wkF ⟨wD rfl,trivial⟩ trivial qG)),.inr rfl,_,res1 rfl rfl,rfl,rfl⟩
 refine cwS (cwR (
  .c (uA rfl)<|.nil rfl) ?_)
 refine cwB ?_
 refine qM (V := Int) (O := (Unit ⊕ Bool)) (fun (z : Int) => St.of [(0,.d (eSP_ a0)),(1,.fn 85 [] []),(5,.d (eint z))] []) hj0 (.w (wkF ⟨wD rfl,⟨_,rfl,.fn .nil .nil⟩,wD rfl,trivial⟩ trivial qG)) ?_
 intro v1 x0 hb0 hx0
 refine cwS ?_
 refine cwS (cwR (
  .c (uM rfl)<|
  .c (uM rfl)<|
  .c (qV (enc := ePr) (xs := a0) rfl rfl .no rfl sl34)<|
  .c (uB rfl (qG0 _ _) rfl)<|.nil rfl) ?_)
 rcases cdS hb0 with ⟨hc0,h1⟩ | ⟨hc0,h2⟩
 ·refine cwT rfl hc0 ?_
  refine cwK ?_
  refine cwS ?_
  refine cwB ?_
  have ⟨x1,hx1,h3⟩ := bdS h1
  have hx1g := qD hx1
  have ⟨x2,hx2,h4⟩ := bdS (x := q32 x1) h3
  have ⟨x3,hx3,h5⟩ := bdS h4
  have hx3g := qD hx3
  have ⟨x4,hx4,h6⟩ := bdS (x := q32 x3) h5
  refine cwS (cwRA mixed (by kernel_rfl) (
   .c (uM rfl)<|
   .c (uM rfl)<|
   .c (uM rfl)<|
   .c (uB rfl (qW2 _ _) rfl)<|
   .c (qJ1 (enc := ePr) (xs := a0) rfl rfl .no rfl rfl sl34 sz52 hx1g.1 hx1g.2)<|
   .c (o_ld rfl rfl .no rfl ta52 rfl rfl)<|
   .c (qG3 rfl rfl .no rfl Try.func85 rfl rfl (qI4 hx2) (.cons rfl .d .nil) ⟨trivial,trivial⟩ (.inl rfl))<|
   .c (uM rfl)<|
   .c (uM rfl)<|
   .c (uM rfl)<|
   .c (qJ1 (enc := ePr) (xs := a0) rfl rfl .no rfl rfl sl34 sz52 hx3g.1 hx3g.2)<|
   .c (o_ld rfl rfl .no rfl ta52 rfl rfl)<|
   .c (qG3 rfl rfl .no rfl Try.func85 rfl rfl (qI4 hx4) (.cons rfl .d .nil) ⟨trivial,trivial⟩ (.inl rfl))<|
   .c (q50 0 rfl rfl .no ze31 rfl)<|
   .c (q50 1 rfl rfl .no ze31 rfl)<|
   .c (uS [] rfl sz31 rfl)<|
   .c (uS [] rfl sz31 rfl)<|.nil rfl) (by kernel_rfl) ?_)
  have ⟨x5,hx5,h7⟩ := bdS (x := qT x2 x4) h6
  refine cwS (cwRA mixed (by kernel_rfl) (
   .c (o_slP rfl rfl .no rfl ar31 sz5 .no .no (by decide) (by decide) (by decide))<|
   .c (o_slP rfl rfl .no rfl ar31 sz5 .no .no (by decide) (by decide) (by decide))<|
   .c (qe0 rfl rfl .no Try.func65 rfl rfl (qy2 hx5) (.cons rfl (.bsl [] rfl rfl rfl) (.cons rfl (.bsl [] rfl rfl rfl) .nil)) ⟨trivial,trivial,trivial⟩ (.inr (DFlat.v _)))<|
   .c (uB rfl (b_geq _ _) rfl)<|.nil rfl) (by kernel_rfl) ?_)
  rcases cdS h7 with ⟨hc1,h8⟩ | ⟨hc1,h9⟩
  ·refine cwT rfl hc1 ?_
   refine cwS (cwR (
    .c (uA rfl)<|.nil rfl) ?_)
   have he0 := ((hx0 _ (sJ h8)).symm).symm
   subst he0
   have heq := ((sJ h0)).symm
   subst heq
   exact qw ⟨_,(show Leads _ _ (St.of [(4,.d (qU false))] []) from .w (wkF ⟨wD rfl,trivial⟩ trivial qG)),.inr rfl,_,res1 rfl rfl,rfl,rfl⟩
  refine cwF rfl hc1 ?_
  refine cwK ?_
  refine cwR (
   .c (uM rfl)<|
   .c (uB rfl (qN0 _ _) rfl)<|
   .c (uA rfl)<|.nil rfl
  ) ?_
  exact ⟨(IntKind.wrap .i64 (v1 + 1)),(sJ h9),.w (wkF ⟨wD rfl,⟨_,rfl,.fn .nil .nil⟩,wD rfl,trivial⟩ trivial qG)⟩
 refine cwF rfl hc0 ?_
 refine q10 ?_
 exact ⟨(),(hx0 _ (sJ h2)).symm,.w (wkF trivial trivial qG)⟩
theorem node_risesK_ok {a0 : List ttK} {r : Bool} (h : qY2 a0 = some r) : FnOk Try.prog 86 [.d (qv0 a0),.fn 87 [] []] 0 (lk []) (fun rr oo => rr = .d (qU r) ∧ oo = lk []) := by
 refine fnO Try.func86 rfl rfl (cwP ?_)
 unfold qY2 at h
 refine cwS (cwR (
  .c (uA rfl)<|.nil rfl) ?_)
 have ⟨o0,hj0,h0⟩ := bdS h
 refine cwJ (fun (z : Unit) => St.of [] []) (fun (z : Unit) => o0 = (.inl z)) ?_ ?_
 ·intro v0 hv0; subst hv0
  simp only [Sum.elim_inl] at h0
  refine cwS (cwR (
   .c (uA rfl)<|.nil rfl) ?_)
  have heq := ((sJ h0)).symm
  subst heq
  exact qw ⟨_,(show Leads _ _ (St.of [(4,.d (qU true))] []) from .w (wkF ⟨wD rfl,trivial⟩ trivial qG)),.inr rfl,_,res1 rfl rfl,rfl,rfl⟩
 refine cwS (cwR (
  .c (uA rfl)<|.nil rfl) ?_)
 refine cwB ?_
 refine qM (V := Int) (O := (Unit ⊕ Bool)) (fun (z : Int) => St.of [(0,.d (qv0 a0)),(1,.fn 87 [] []),(5,.d (eint z))] []) hj0 (.w (wkF ⟨wD rfl,⟨_,rfl,.fn .nil .nil⟩,wD rfl,trivial⟩ trivial qG)) ?_
 intro v1 x0 hb0 hx0
 refine cwS ?_
 refine cwS (cwR (
  .c (uM rfl)<|
  .c (uM rfl)<|
  .c (qV (enc := qP) (xs := a0) rfl rfl .no rfl sl44)<|
  .c (uB rfl (qG0 _ _) rfl)<|.nil rfl) ?_)
 rcases cdS hb0 with ⟨hc0,h1⟩ | ⟨hc0,h2⟩
 ·refine cwT rfl hc0 ?_
  refine cwK ?_
  refine cwS ?_
  refine cwB ?_
  have ⟨x1,hx1,h3⟩ := bdS h1
  have hx1g := qD hx1
  have ⟨x2,hx2,h4⟩ := bdS (x := qz2 x1) h3
  have ⟨x3,hx3,h5⟩ := bdS h4
  have hx3g := qD hx3
  have ⟨x4,hx4,h6⟩ := bdS (x := qz2 x3) h5
  refine cwS (cwRA mixed (by kernel_rfl) (
   .c (uM rfl)<|
   .c (uM rfl)<|
   .c (uM rfl)<|
   .c (uB rfl (qW2 _ _) rfl)<|
   .c (qJ1 (enc := qP) (xs := a0) rfl rfl .no rfl rfl sl44 sz69 hx1g.1 hx1g.2)<|
   .c (o_ld rfl rfl .no rfl ta69 rfl rfl)<|
   .c (qG3 rfl rfl .no rfl Try.func87 rfl rfl (node_ofKid_ok hx2) (.cons rfl .d .nil) ⟨trivial,trivial⟩ (.inl rfl))<|
   .c (uM rfl)<|
   .c (uM rfl)<|
   .c (uM rfl)<|
   .c (qJ1 (enc := qP) (xs := a0) rfl rfl .no rfl rfl sl44 sz69 hx3g.1 hx3g.2)<|
   .c (o_ld rfl rfl .no rfl ta69 rfl rfl)<|
   .c (qG3 rfl rfl .no rfl Try.func87 rfl rfl (node_ofKid_ok hx4) (.cons rfl .d .nil) ⟨trivial,trivial⟩ (.inl rfl))<|
   .c (q50 0 rfl rfl .no ze31 rfl)<|
   .c (q50 1 rfl rfl .no ze31 rfl)<|
   .c (uS [] rfl sz31 rfl)<|
   .c (uS [] rfl sz31 rfl)<|.nil rfl) (by kernel_rfl) ?_)
  have ⟨x5,hx5,h7⟩ := bdS (x := qT x2 x4) h6
  refine cwS (cwRA mixed (by kernel_rfl) (
   .c (o_slP rfl rfl .no rfl ar31 sz5 .no .no (by decide) (by decide) (by decide))<|
   .c (o_slP rfl rfl .no rfl ar31 sz5 .no .no (by decide) (by decide) (by decide))<|
   .c (qe0 rfl rfl .no Try.func65 rfl rfl (qy2 hx5) (.cons rfl (.bsl [] rfl rfl rfl) (.cons rfl (.bsl [] rfl rfl rfl) .nil)) ⟨trivial,trivial,trivial⟩ (.inr (DFlat.v _)))<|
   .c (uB rfl (b_geq _ _) rfl)<|.nil rfl) (by kernel_rfl) ?_)
  rcases cdS h7 with ⟨hc1,h8⟩ | ⟨hc1,h9⟩
  ·refine cwT rfl hc1 ?_
   refine cwS (cwR (
    .c (uA rfl)<|.nil rfl) ?_)
   have he0 := ((hx0 _ (sJ h8)).symm).symm
   subst he0
   have heq := ((sJ h0)).symm
   subst heq
   exact qw ⟨_,(show Leads _ _ (St.of [(4,.d (qU false))] []) from .w (wkF ⟨wD rfl,trivial⟩ trivial qG)),.inr rfl,_,res1 rfl rfl,rfl,rfl⟩
  refine cwF rfl hc1 ?_
  refine cwK ?_
  refine cwR (
   .c (uM rfl)<|
   .c (uB rfl (qN0 _ _) rfl)<|
   .c (uA rfl)<|.nil rfl
  ) ?_
  exact ⟨(IntKind.wrap .i64 (v1 + 1)),(sJ h9),.w (wkF ⟨wD rfl,⟨_,rfl,.fn .nil .nil⟩,wD rfl,trivial⟩ trivial qG)⟩
 refine cwF rfl hc0 ?_
 refine q10 ?_
 exact ⟨(),(hx0 _ (sJ h2)).symm,.w (wkF trivial trivial qG)⟩
theorem qI3 {a0 : ttN} {r : Bool} (h : qe1 a0 = some r) : FnOk Try.prog 66 [.d (qm a0)] 0 (lk []) (fun rr oo => rr = .d (qU r) ∧ oo = lk []) := by
 refine fnO Try.func66 rfl rfl (cwP ?_)
 unfold qe1 at h
 refine cwS (cwR (
  .c (uX 0 rfl)<|
  .c (uA rfl)<|.nil rfl) ?_)
 refine cwS (cwRA mixed (by kernel_rfl) (
  .c (uF rfl qr1 rfl)<|
  .c (uL [1] rfl ta34 rfl)<|
  .c (qV (enc := ePr) (xs := a0.2.1) rfl rfl .no rfl sl34)<|
  .c (uF rfl qo0 rfl)<|
  .c (uL [2] rfl ta44 rfl)<|
  .c (qV (enc := qP) (xs := a0.2.2) rfl rfl .no rfl sl44)<|
  .c (uA rfl)<|
  .c (uA rfl)<|.nil rfl) (by kernel_rfl) ?_)
 refine cwS ?_
 refine cwB ?_
 have ⟨o0,hj0,h0⟩ := bdS h
 refine cwJ (fun (z : Bool) => St.of [(1,.ptr 0 0),(3,.d (eint (a0.2.1.length : Int))),(4,.d (eint (a0.2.2.length : Int))),(14,.d (qU z))] [(0,.box (.d (qm a0)))]) (fun (z : Bool) => o0 = z) ?_ ?_
 ·intro v0 hv0; subst hv0
  rcases cdS h0 with ⟨hc0,h1⟩ | ⟨hc0,h2⟩
  ·refine cwT rfl hc0 ?_
   refine cwS (cwR (
    .c (uA rfl)<|.nil rfl) ?_)
   have heq := ((sJ h1)).symm
   subst heq
   exact qw ⟨_,(show Leads _ _ (St.of [(2,.d (qU false))] []) from .w (wkF ⟨wD rfl,trivial⟩ trivial qG)),.inr rfl,_,res1 rfl rfl,rfl,rfl⟩
  refine cwF rfl hc0 ?_
  have ⟨o1,hj1,h3⟩ := bdS h2
  refine cwJ (fun (z : Bool) => St.of [(1,.ptr 0 0),(3,.d (eint (a0.2.1.length : Int))),(4,.d (eint (a0.2.2.length : Int))),(23,.d (qU z))] [(0,.box (.d (qm a0)))]) (fun (z : Bool) => o1 = z) ?_ ?_
  ·intro v1 hv1; subst hv1
   rcases cdS h3 with ⟨hc1,h4⟩ | ⟨hc1,h5⟩
   ·refine cwT rfl hc1 ?_
    refine cwS (cwR (
     .c (uA rfl)<|.nil rfl) ?_)
    have heq := ((sJ h4)).symm
    subst heq
    exact qw ⟨_,(show Leads _ _ (St.of [(2,.d (qU false))] []) from .w (wkF ⟨wD rfl,trivial⟩ trivial qG)),.inr rfl,_,res1 rfl rfl,rfl,rfl⟩
   refine cwF rfl hc1 ?_
   have ⟨o2,hj2,h6⟩ := bdS h5
   refine cwJ (fun (z : Bool) => St.of [(1,.ptr 0 0),(39,.d (qU z))] [(0,.box (.d (qm a0)))]) (fun (z : Bool) => o2 = z) ?_ ?_
   ·intro v2 hv2; subst hv2
    rcases cdS h6 with ⟨hc2,h7⟩ | ⟨hc2,h8⟩
    ·refine cwT rfl hc2 ?_
     refine cwS (cwR (
      .c (uA rfl)<|.nil rfl) ?_)
     have heq := ((sJ h7)).symm
     subst heq
     exact qw ⟨_,(show Leads _ _ (St.of [(2,.d (qU false))] []) from .w (wkF ⟨wD rfl,trivial⟩ trivial qG)),.inr rfl,_,res1 rfl rfl,rfl,rfl⟩
    refine cwF rfl hc2 ?_
    have ⟨x0,hx0,h9⟩ := bdS (x := qu0 a0.2.1) h8
    refine cwS (cwR (
     .c (uF rfl qr1 rfl)<|
     .c (uL [1] rfl ta34 rfl)<|
     .c (qe0 rfl rfl .no Try.func82 rfl rfl (qQ3 hx0) (.cons rfl .d (.cons rfl .f0 .nil)) ⟨trivial,(by simp [AV.live,AV.lives]),trivial⟩ (.inl rfl))<|
     .c (uA rfl)<|.nil rfl) ?_)
    rcases cdS h9 with ⟨hc3,h10⟩ | ⟨hc3,h11⟩
    ·refine cwT rfl hc3 ?_
     refine cwS (cwR (
      .c (uA rfl)<|.nil rfl) ?_)
     have heq := ((sJ h10)).symm
     subst heq
     exact qw ⟨_,(show Leads _ _ (St.of [(2,.d (qU false))] []) from .w (wkF ⟨wD rfl,trivial⟩ trivial qG)),.inr rfl,_,res1 rfl rfl,rfl,rfl⟩
    refine cwF rfl hc3 ?_
    refine cwK ?_
    refine cwS (cwR (
     .c (o_mkmap eint qU 1 rfl rfl .no rfl)<|
     .c (uA rfl)<|.nil rfl) ?_)
    have ⟨o3,hj3,h12⟩ := bdS h11
    refine cwJ (fun (z : Unit) => St.of [(1,.ptr 0 0)] [(0,.box (.d (qm a0)))]) (fun (z : Unit) => o3 = (.inl z)) ?_ ?_
    ·intro v3 hv3; subst hv3
     simp only [Sum.elim_inl] at h12
     have ⟨o4,hj4,h13⟩ := bdS h12
     refine cwJ (fun (z : Bool) => St.of [(2,.d (qU z))] []) (fun (z : Bool) => o4 = z) ?_ ?_
     ·intro v4 hv4; subst hv4
      have heq := ((sJ h13)).symm
      subst heq
      exact qw ⟨_,(show Leads _ _ (St.of [(2,.d (qU o4))] []) from .w (wkF ⟨wD rfl,trivial⟩ trivial qG)),.inr rfl,_,res1 rfl rfl,rfl,rfl⟩
     have ⟨x1,hx1,h14⟩ := bdS (x := q43 a0.2.1) hj4
     rcases cdS h14 with ⟨hc4,h15⟩ | ⟨hc4,h16⟩
     ·skip
      have ⟨x2,hx2,h17⟩ := bdS (x := qY2 a0.2.2) h15
      refine cwR (
       .c (uF rfl qr1 rfl)<|
       .c (uL [1] rfl ta34 rfl)<|
       .c (qe0 rfl rfl .no Try.func84 rfl rfl (qG4 hx1) (.cons rfl .d (.cons rfl .f0 .nil)) ⟨trivial,(by simp [AV.live,AV.lives]),trivial⟩ (.inl rfl))<|
       .c (uM rfl)<|
       .c (qn rfl rfl (.yes rfl rfl hc4) rfl qo0 (by decide))<|
       .c (qA [2] rfl rfl (.yes rfl rfl hc4) rfl rfl rfl ta44 rfl rfl)<|
       .c (qe0 rfl rfl (.yes rfl rfl hc4) Try.func86 rfl rfl (node_risesK_ok hx2) (.cons rfl .d (.cons rfl .f0 .nil)) ⟨trivial,(by simp [AV.live,AV.lives]),trivial⟩ (.inl rfl))<|
       .c (uPT rfl hc4)<|
       .c (uA rfl)<|.nil rfl
      ) ?_
      exact ⟨x2,(sJ h17),.w (wkF ⟨wD rfl,trivial⟩ trivial qG)⟩
     refine cwR (
      .c (uF rfl qr1 rfl)<|
      .c (uL [1] rfl ta34 rfl)<|
      .c (qe0 rfl rfl .no Try.func84 rfl rfl (qG4 hx1) (.cons rfl .d (.cons rfl .f0 .nil)) ⟨trivial,(by simp [AV.live,AV.lives]),trivial⟩ (.inl rfl))<|
      .c (uM rfl)<|
      .c (uN rfl rfl hc4)<|
      .c (uN rfl rfl hc4)<|
      .c (uN rfl rfl hc4)<|
      .c (uPF rfl hc4)<|
      .c (uA rfl)<|.nil rfl
     ) ?_
     exact ⟨false,(sJ h16),.w (wkF ⟨wD rfl,trivial⟩ trivial qG)⟩
    refine cwS (cwR (
     .c (uF rfl qo0 rfl)<|
     .c (uL [2] rfl ta44 rfl)<|
     .c (qV (enc := qP) (xs := a0.2.2) rfl rfl .no rfl sl44)<|
     .c (uM rfl)<|.nil rfl) ?_)
    refine cwB ?_
    refine qM (V := (Int × (List (Int × Bool)))) (O := (Unit ⊕ Bool)) (fun (z : (Int × (List (Int × Bool)))) => St.of [(1,.ptr 0 0),(5,.map 1),(61,.d (qv0 a0.2.2)),(62,.d (eint (a0.2.2.length : Int))),(63,.d (eint z.1))] [(0,.box (.d (qm a0))),(1,.map 0 (mD eint qU z.2))]) hj3 (.w (wkF ⟨⟨_,rfl,.ptr rfl rfl⟩,⟨_,rfl,.map rfl rfl⟩,wD rfl,wD rfl,wD rfl,trivial⟩ ⟨.box rfl (.d rfl),.map rfl rfl,trivial⟩ qG)) ?_
    intro v5 x3 hb0 hx3
    refine cwS (cwR (
     .c (uB rfl (qG0 _ _) rfl)<|.nil rfl) ?_)
    refine cwS ?_
    rcases cdS hb0 with ⟨hc5,h18⟩ | ⟨hc5,h19⟩
    ·refine cwT rfl hc5 ?_
     refine cwK ?_
     refine cwS ?_
     refine cwB ?_
     have ⟨x4,hx4,h20⟩ := bdS h18
     have hx4g := qD hx4
     refine cwS (cwR (
      .c (qJ1 (enc := qP) (xs := a0.2.2) rfl rfl .no rfl rfl sl44 sz69 hx4g.1 hx4g.2)<|
      .c (o_ld rfl rfl .no rfl ta69 rfl rfl)<|
      .c (q50 2 rfl rfl .no ze69 rfl)<|
      .c (uS [] rfl sz69 rfl)<|.nil rfl) ?_)
     refine cwS ?_
     have ⟨o5,hj5,h21⟩ := bdS h20
     refine cwJ (fun (z : Bool) => St.of [(1,.ptr 0 0),(5,.map 1),(7,.ptr 2 0),(61,.d (qv0 a0.2.2)),(62,.d (eint (a0.2.2.length : Int))),(63,.d (eint v5.1)),(80,.d (qU z))] [(0,.box (.d (qm a0))),(1,.map 0 (mD eint qU v5.2)),(2,.box (.d (qP x4)))]) (fun (z : Bool) => o5 = z) ?_ ?_
     ·intro v6 hv5; subst hv5
      rcases cdS h21 with ⟨hc6,h22⟩ | ⟨hc6,h23⟩
      ·refine cwT rfl hc6 ?_
       refine cwS (cwR (
        .c (uA rfl)<|.nil rfl) ?_)
       have he0 := ((hx3 _ (sJ h22)).symm).symm
       subst he0
       have heq := ((sJ h12)).symm
       subst heq
       exact qw ⟨_,(show Leads _ _ (St.of [(2,.d (qU false))] []) from .w (wkF ⟨wD rfl,trivial⟩ trivial qG)),.inr rfl,_,res1 rfl rfl,rfl,rfl⟩
      refine cwF rfl hc6 ?_
      refine cwK ?_
      refine cwR (
       .c (uM rfl)<|
       .c (uF rfl qM2 rfl)<|
       .c (uL [1] rfl ta3 rfl)<|
       .c (o_mapset (ek := eint) (ev := qU) (m := v5.2) x4.2 true rfl .no rfl rfl rfl rfl mp159 kl3 rfl)<|.nil rfl
      ) ?_
      refine cwR (
       .c (uB rfl (qN0 _ _) rfl)<|
       .c (uM rfl)<|.nil rfl
      ) ?_
      exact ⟨((IntKind.wrap .i64 (v5.1 + 1)),(mset v5.2 x4.2 true)),(sJ h23),.w (wkF ⟨⟨_,rfl,.ptr rfl rfl⟩,⟨_,rfl,.map rfl rfl⟩,wD rfl,wD rfl,wD rfl,trivial⟩ ⟨.box rfl (.d rfl),.map0 rfl rfl rfl (noIter rfl),trivial⟩ qG)⟩
     rcases cdS hj5 with ⟨hc7,h24⟩ | ⟨hc7,h25⟩
     ·skip
      refine cwR (
       .c (uF rfl qM2 rfl)<|
       .c (uL [1] rfl ta3 rfl)<|
       .c (uB rfl (qG0 _ _) rfl)<|
       .c (uM rfl)<|
       .c (uN rfl rfl hc7)<|
       .c (uN rfl rfl hc7)<|
       .c (uN rfl rfl hc7)<|
       .c (uPT rfl hc7)<|
       .c (uM rfl)<|
       .c (uN rfl rfl rfl)<|
       .c (uN rfl rfl rfl)<|
       .c (uN rfl rfl rfl)<|
       .c (uN rfl rfl rfl)<|
       .c (uPT rfl rfl)<|.nil rfl
      ) ?_
      exact ⟨true,(sJ h24),.w (wkF ⟨⟨_,rfl,.ptr rfl rfl⟩,⟨_,rfl,.map rfl rfl⟩,⟨_,rfl,.ptr rfl rfl⟩,wD rfl,wD rfl,wD rfl,wD rfl,trivial⟩ ⟨.box rfl (.d rfl),.map rfl rfl,.box rfl (.d rfl),trivial⟩ qG)⟩
     rcases cdS h25 with ⟨hc8,h26⟩ | ⟨hc8,h27⟩
     ·skip
      refine cwR (
       .c (uF rfl qM2 rfl)<|
       .c (uL [1] rfl ta3 rfl)<|
       .c (uB rfl (qG0 _ _) rfl)<|
       .c (uM rfl)<|
       .c (qn rfl rfl (.yes rfl rfl hc7) rfl qM2 (by decide))<|
       .c (qA [1] rfl rfl (.yes rfl rfl hc7) rfl rfl rfl ta3 rfl rfl)<|
       .c (qj rfl rfl (.yes rfl rfl hc7) rfl rfl (qy3 _ _) rfl)<|
       .c (uPF rfl hc7)<|
       .c (uM rfl)<|
       .c (uN rfl rfl hc8)<|
       .c (uN rfl rfl hc8)<|
       .c (uN rfl rfl hc8)<|
       .c (uN rfl rfl hc8)<|
       .c (uPT rfl hc8)<|.nil rfl
      ) ?_
      exact ⟨true,(sJ h26),.w (wkF ⟨⟨_,rfl,.ptr rfl rfl⟩,⟨_,rfl,.map rfl rfl⟩,⟨_,rfl,.ptr rfl rfl⟩,wD rfl,wD rfl,wD rfl,wD rfl,trivial⟩ ⟨.box rfl (.d rfl),.map rfl rfl,.box rfl (.d rfl),trivial⟩ qG)⟩
     refine cwR (
      .c (uF rfl qM2 rfl)<|
      .c (uL [1] rfl ta3 rfl)<|
      .c (uB rfl (qG0 _ _) rfl)<|
      .c (uM rfl)<|
      .c (qn rfl rfl (.yes rfl rfl hc7) rfl qM2 (by decide))<|
      .c (qA [1] rfl rfl (.yes rfl rfl hc7) rfl rfl rfl ta3 rfl rfl)<|
      .c (qj rfl rfl (.yes rfl rfl hc7) rfl rfl (qy3 _ _) rfl)<|
      .c (uPF rfl hc7)<|
      .c (uM rfl)<|
      .c (o_mv rfl rfl (.yes rfl rfl hc8) rfl)<|
      .c (qn rfl rfl (.yes rfl rfl hc8) rfl qM2 (by decide))<|
      .c (qA [1] rfl rfl (.yes rfl rfl hc8) rfl rfl rfl ta3 rfl rfl)<|
      .c (q75 (ek := eint) (ev := qU) (m := v5.2) x4.2 false rfl rfl (.yes rfl rfl hc8) rfl rfl rfl mp159 kl3 ze4 rfl rfl)<|
      .c (uPF rfl hc8)<|.nil rfl
     ) ?_
     exact ⟨((mget v5.2 x4.2).getD false),(sJ h27),.w (wkF ⟨⟨_,rfl,.ptr rfl rfl⟩,⟨_,rfl,.map rfl rfl⟩,⟨_,rfl,.ptr rfl rfl⟩,wD rfl,wD rfl,wD rfl,wD rfl,trivial⟩ ⟨.box rfl (.d rfl),.map rfl rfl,.box rfl (.d rfl),trivial⟩ qG)⟩
    refine cwF rfl hc5 ?_
    refine q10 ?_
    exact ⟨(),(hx3 _ (sJ h19)).symm,.w (wkF ⟨⟨_,rfl,.ptr rfl rfl⟩,trivial⟩ ⟨.box rfl (.d rfl),trivial⟩ qG)⟩
   rcases cdS hj2 with ⟨hc9,h28⟩ | ⟨hc9,h29⟩
   ·skip
    rcases cdS h28 with ⟨hc10,h30⟩ | ⟨hc10,h31⟩
    ·skip
     refine cwR (
      .c (uF rfl qE0 rfl)<|
      .c (uL [0] rfl ta3 rfl)<|
      .c (uB rfl (qy3 _ _) rfl)<|
      .c (uM rfl)<|
      .c (o_mv rfl rfl (.yes rfl rfl hc9) rfl)<|
      .c (qj rfl rfl (.yes rfl rfl hc9) rfl rfl (qG0 _ _) rfl)<|
      .c (o_mv rfl rfl (.yes rfl rfl hc9) rfl)<|
      .c (uN rfl rfl hc10)<|
      .c (uN rfl rfl hc10)<|
      .c (qi rfl rfl (.yes rfl rfl hc9) rfl hc10 rfl)<|
      .c (o_mv rfl rfl (.yes rfl rfl hc9) rfl)<|
      .c (uN rfl rfl rfl)<|
      .c (uN rfl rfl rfl)<|
      .c (qi rfl rfl (.yes rfl rfl hc9) rfl rfl rfl)<|
      .c (uPT rfl hc9)<|
      .c (uA rfl)<|.nil rfl
     ) ?_
     exact ⟨true,(sJ h30),.w (wkF ⟨⟨_,rfl,.ptr rfl rfl⟩,wD rfl,trivial⟩ ⟨.box rfl (.d rfl),trivial⟩ qG)⟩
    rcases cdS h31 with ⟨hc11,h32⟩ | ⟨hc11,h33⟩
    ·skip
     refine cwR (
      .c (uF rfl qE0 rfl)<|
      .c (uL [0] rfl ta3 rfl)<|
      .c (uB rfl (qy3 _ _) rfl)<|
      .c (uM rfl)<|
      .c (o_mv rfl rfl (.yes rfl rfl hc9) rfl)<|
      .c (qj rfl rfl (.yes rfl rfl hc9) rfl rfl (qG0 _ _) rfl)<|
      .c (o_mv rfl rfl (.yes rfl rfl hc9) rfl)<|
      .c (o_mv rfl rfl (.yes rfl rfl hc10) rfl)<|
      .c (qj rfl rfl (.yes rfl rfl hc10) rfl rfl (qy3 _ _) rfl)<|
      .c (qg rfl rfl (.yes rfl rfl hc9) rfl hc10 rfl)<|
      .c (o_mv rfl rfl (.yes rfl rfl hc9) rfl)<|
      .c (uN rfl rfl hc11)<|
      .c (uN rfl rfl hc11)<|
      .c (qi rfl rfl (.yes rfl rfl hc9) rfl hc11 rfl)<|
      .c (uPT rfl hc9)<|
      .c (uA rfl)<|.nil rfl
     ) ?_
     exact ⟨true,(sJ h32),.w (wkF ⟨⟨_,rfl,.ptr rfl rfl⟩,wD rfl,trivial⟩ ⟨.box rfl (.d rfl),trivial⟩ qG)⟩
    refine cwR (
     .c (uF rfl qE0 rfl)<|
     .c (uL [0] rfl ta3 rfl)<|
     .c (uB rfl (qy3 _ _) rfl)<|
     .c (uM rfl)<|
     .c (o_mv rfl rfl (.yes rfl rfl hc9) rfl)<|
     .c (qj rfl rfl (.yes rfl rfl hc9) rfl rfl (qG0 _ _) rfl)<|
     .c (o_mv rfl rfl (.yes rfl rfl hc9) rfl)<|
     .c (o_mv rfl rfl (.yes rfl rfl hc10) rfl)<|
     .c (qj rfl rfl (.yes rfl rfl hc10) rfl rfl (qy3 _ _) rfl)<|
     .c (qg rfl rfl (.yes rfl rfl hc9) rfl hc10 rfl)<|
     .c (o_mv rfl rfl (.yes rfl rfl hc9) rfl)<|
     .c (o_mv rfl rfl (.yes rfl rfl hc11) rfl)<|
     .c (qj rfl rfl (.yes rfl rfl hc11) rfl rfl (qy3 _ _) rfl)<|
     .c (qg rfl rfl (.yes rfl rfl hc9) rfl hc11 rfl)<|
     .c (uPT rfl hc9)<|
     .c (uA rfl)<|.nil rfl
    ) ?_
    exact ⟨(decide ((a0.2.1.length : Int) > 0)),(sJ h33),.w (wkF ⟨⟨_,rfl,.ptr rfl rfl⟩,wD rfl,trivial⟩ ⟨.box rfl (.d rfl),trivial⟩ qG)⟩
   refine cwR (
    .c (uF rfl qE0 rfl)<|
    .c (uL [0] rfl ta3 rfl)<|
    .c (uB rfl (qy3 _ _) rfl)<|
    .c (uM rfl)<|
    .c (uN rfl rfl hc9)<|
    .c (uN rfl rfl hc9)<|
    .c (uN rfl rfl hc9)<|
    .c (qk5 rfl rfl rfl rfl)<|
    .c (qk5 rfl rfl rfl rfl)<|
    .c (uN rfl rfl hc9)<|
    .c (uN rfl rfl hc9)<|
    .c (qk5 rfl rfl rfl rfl)<|
    .c (qk5 rfl rfl rfl rfl)<|
    .c (uN rfl rfl hc9)<|
    .c (uPF rfl hc9)<|
    .c (uA rfl)<|.nil rfl
   ) ?_
   exact ⟨false,(sJ h29),.w (wkF ⟨⟨_,rfl,.ptr rfl rfl⟩,wD rfl,trivial⟩ ⟨.box rfl (.d rfl),trivial⟩ qG)⟩
  rcases cdS hj1 with ⟨hc12,h34⟩ | ⟨hc12,h35⟩
  ·skip
   rcases cdS h34 with ⟨hc13,h36⟩ | ⟨hc13,h37⟩
   ·skip
    refine cwR (
     .c (uF rfl qE0 rfl)<|
     .c (uL [0] rfl ta3 rfl)<|
     .c (uB rfl (qd0 _ _) rfl)<|
     .c (uM rfl)<|
     .c (o_mv rfl rfl (.yes rfl rfl hc12) rfl)<|
     .c (qj rfl rfl (.yes rfl rfl hc12) rfl rfl (qG0 _ _) rfl)<|
     .c (o_mv rfl rfl (.yes rfl rfl hc12) rfl)<|
     .c (uN rfl rfl hc13)<|
     .c (uN rfl rfl hc13)<|
     .c (qi rfl rfl (.yes rfl rfl hc12) rfl hc13 rfl)<|
     .c (o_mv rfl rfl (.yes rfl rfl hc12) rfl)<|
     .c (uN rfl rfl rfl)<|
     .c (uN rfl rfl rfl)<|
     .c (qi rfl rfl (.yes rfl rfl hc12) rfl rfl rfl)<|
     .c (uPT rfl hc12)<|
     .c (uA rfl)<|.nil rfl
    ) ?_
    exact ⟨true,(sJ h36),.w (wkF ⟨⟨_,rfl,.ptr rfl rfl⟩,wD rfl,wD rfl,wD rfl,trivial⟩ ⟨.box rfl (.d rfl),trivial⟩ qG)⟩
   rcases cdS h37 with ⟨hc14,h38⟩ | ⟨hc14,h39⟩
   ·skip
    refine cwR (
     .c (uF rfl qE0 rfl)<|
     .c (uL [0] rfl ta3 rfl)<|
     .c (uB rfl (qd0 _ _) rfl)<|
     .c (uM rfl)<|
     .c (o_mv rfl rfl (.yes rfl rfl hc12) rfl)<|
     .c (qj rfl rfl (.yes rfl rfl hc12) rfl rfl (qG0 _ _) rfl)<|
     .c (o_mv rfl rfl (.yes rfl rfl hc12) rfl)<|
     .c (o_mv rfl rfl (.yes rfl rfl hc13) rfl)<|
     .c (qj rfl rfl (.yes rfl rfl hc13) rfl rfl (qy3 _ _) rfl)<|
     .c (qg rfl rfl (.yes rfl rfl hc12) rfl hc13 rfl)<|
     .c (o_mv rfl rfl (.yes rfl rfl hc12) rfl)<|
     .c (uN rfl rfl hc14)<|
     .c (uN rfl rfl hc14)<|
     .c (qi rfl rfl (.yes rfl rfl hc12) rfl hc14 rfl)<|
     .c (uPT rfl hc12)<|
     .c (uA rfl)<|.nil rfl
    ) ?_
    exact ⟨true,(sJ h38),.w (wkF ⟨⟨_,rfl,.ptr rfl rfl⟩,wD rfl,wD rfl,wD rfl,trivial⟩ ⟨.box rfl (.d rfl),trivial⟩ qG)⟩
   refine cwR (
    .c (uF rfl qE0 rfl)<|
    .c (uL [0] rfl ta3 rfl)<|
    .c (uB rfl (qd0 _ _) rfl)<|
    .c (uM rfl)<|
    .c (o_mv rfl rfl (.yes rfl rfl hc12) rfl)<|
    .c (qj rfl rfl (.yes rfl rfl hc12) rfl rfl (qG0 _ _) rfl)<|
    .c (o_mv rfl rfl (.yes rfl rfl hc12) rfl)<|
    .c (o_mv rfl rfl (.yes rfl rfl hc13) rfl)<|
    .c (qj rfl rfl (.yes rfl rfl hc13) rfl rfl (qy3 _ _) rfl)<|
    .c (qg rfl rfl (.yes rfl rfl hc12) rfl hc13 rfl)<|
    .c (o_mv rfl rfl (.yes rfl rfl hc12) rfl)<|
    .c (o_mv rfl rfl (.yes rfl rfl hc14) rfl)<|
    .c (qj rfl rfl (.yes rfl rfl hc14) rfl rfl (qy3 _ _) rfl)<|
    .c (qg rfl rfl (.yes rfl rfl hc12) rfl hc14 rfl)<|
    .c (uPT rfl hc12)<|
    .c (uA rfl)<|.nil rfl
   ) ?_
   exact ⟨(decide ((a0.2.2.length : Int) > 0)),(sJ h39),.w (wkF ⟨⟨_,rfl,.ptr rfl rfl⟩,wD rfl,wD rfl,wD rfl,trivial⟩ ⟨.box rfl (.d rfl),trivial⟩ qG)⟩
  refine cwR (
   .c (uF rfl qE0 rfl)<|
   .c (uL [0] rfl ta3 rfl)<|
   .c (uB rfl (qd0 _ _) rfl)<|
   .c (uM rfl)<|
   .c (uN rfl rfl hc12)<|
   .c (uN rfl rfl hc12)<|
   .c (uN rfl rfl hc12)<|
   .c (qk5 rfl rfl rfl rfl)<|
   .c (qk5 rfl rfl rfl rfl)<|
   .c (uN rfl rfl hc12)<|
   .c (uN rfl rfl hc12)<|
   .c (qk5 rfl rfl rfl rfl)<|
   .c (qk5 rfl rfl rfl rfl)<|
   .c (uN rfl rfl hc12)<|
   .c (uPF rfl hc12)<|
   .c (uA rfl)<|.nil rfl
  ) ?_
  exact ⟨false,(sJ h35),.w (wkF ⟨⟨_,rfl,.ptr rfl rfl⟩,wD rfl,wD rfl,wD rfl,trivial⟩ ⟨.box rfl (.d rfl),trivial⟩ qG)⟩
 rcases cdS hj0 with ⟨hc15,h40⟩ | ⟨hc15,h41⟩
 ·skip
  refine cwR (
   .c (uF rfl qE0 rfl)<|
   .c (uL [0] rfl ta3 rfl)<|
   .c (uB rfl (qG0 _ _) rfl)<|
   .c (uM rfl)<|
   .c (uN rfl rfl hc15)<|
   .c (uN rfl rfl hc15)<|
   .c (uN rfl rfl hc15)<|
   .c (uPT rfl hc15)<|
   .c (uA rfl)<|.nil rfl
  ) ?_
  exact ⟨true,(sJ h40),.w (wkF ⟨⟨_,rfl,.ptr rfl rfl⟩,wD rfl,wD rfl,wD rfl,trivial⟩ ⟨.box rfl (.d rfl),trivial⟩ qG)⟩
 refine cwR (
  .c (uF rfl qE0 rfl)<|
  .c (uL [0] rfl ta3 rfl)<|
  .c (uB rfl (qG0 _ _) rfl)<|
  .c (uM rfl)<|
  .c (qn rfl rfl (.yes rfl rfl hc15) rfl qE0 (by decide))<|
  .c (qA [0] rfl rfl (.yes rfl rfl hc15) rfl rfl rfl ta3 rfl rfl)<|
  .c (qj rfl rfl (.yes rfl rfl hc15) rfl rfl (b_geq _ _) rfl)<|
  .c (uPF rfl hc15)<|
  .c (uA rfl)<|.nil rfl
 ) ?_
 exact ⟨(decide (a0.1 ≥ 12)),(sJ h41),.w (wkF ⟨⟨_,rfl,.ptr rfl rfl⟩,wD rfl,wD rfl,wD rfl,trivial⟩ ⟨.box rfl (.d rfl),trivial⟩ qG)⟩
theorem node_First_okc {a0 : ttN} {r : B8} (h : qR0 a0 = some r) : FnOk Try.prog 67 [.d (qm a0)] 0 (lk []) (fun rr oo => rr = .d (eK r) ∧ oo = lk [(1,.box (.d (eK r)))]) := by
 refine fnO Try.func67 rfl rfl (cwP ?_)
 unfold qR0 at h
 refine cwS (cwR (
  .c (uX 0 rfl)<|
  .c (q50 1 rfl rfl .no ze31 rfl)<|.nil rfl) ?_)
 refine cwS ?_
 refine cwB ?_
 refine cwS (cwR (
  .c (uF rfl qr1 rfl)<|
  .c (uL [1] rfl ta34 rfl)<|
  .c (qV (enc := ePr) (xs := a0.2.1) rfl rfl .no rfl sl34)<|
  .c (uB rfl (qy3 _ _) rfl)<|
  .c (uA rfl)<|.nil rfl) ?_)
 rcases cdS h with ⟨hc0,h0⟩ | ⟨hc0,h1⟩
 ·refine cwT rfl hc0 ?_
  have ⟨x0,hx0,h2⟩ := bdS h0
  have hx0g := qD hx0
  refine cwS (cwR (
   .c (uF rfl qr1 rfl)<|
   .c (uL [1] rfl ta34 rfl)<|
   .c (qJ1 (enc := ePr) (xs := a0.2.1) rfl rfl .no rfl rfl sl34 sz52 hx0g.1 hx0g.2)<|
   .c (qa2 rfl rfl .no rfl qD4 (by decide) rfl rfl)<|
   .c (o_ld rfl rfl .no rfl ta31 rfl rfl)<|
   .c (uS [] rfl sz31 rfl)<|.nil rfl) ?_)
  have heq := ((sJ h2)).symm
  subst heq
  exact qw ⟨_,(show Leads _ _ (St.of [(2,.ptr 1 0)] [(1,.box (.d (eK x0.1)))]) from .w (wkF ⟨⟨_,rfl,.ptr rfl rfl⟩,trivial⟩ ⟨.box rfl (.d rfl),trivial⟩ qG)),.inr rfl,_,resC rfl rfl rfl ta31 rfl rfl,rfl,rfl⟩
 refine cwF rfl hc0 ?_
 refine cwS (cwR (
  .c (uF rfl qo0 rfl)<|
  .c (uL [2] rfl ta44 rfl)<|
  .c (qV (enc := qP) (xs := a0.2.2) rfl rfl .no rfl sl44)<|
  .c (uB rfl (qy3 _ _) rfl)<|
  .c (uA rfl)<|.nil rfl) ?_)
 rcases cdS h1 with ⟨hc1,h3⟩ | ⟨hc1,h4⟩
 ·refine cwT rfl hc1 ?_
  have ⟨x1,hx1,h5⟩ := bdS h3
  have hx1g := qD hx1
  refine cwS (cwR (
   .c (uF rfl qo0 rfl)<|
   .c (uL [2] rfl ta44 rfl)<|
   .c (qJ1 (enc := qP) (xs := a0.2.2) rfl rfl .no rfl rfl sl44 sz69 hx1g.1 hx1g.2)<|
   .c (qa2 rfl rfl .no rfl qN2 (by decide) rfl rfl)<|
   .c (o_ld rfl rfl .no rfl ta31 rfl rfl)<|
   .c (uS [] rfl sz31 rfl)<|.nil rfl) ?_)
  have heq := ((sJ h5)).symm
  subst heq
  exact qw ⟨_,(show Leads _ _ (St.of [(2,.ptr 1 0)] [(1,.box (.d (eK x1.1)))]) from .w (wkF ⟨⟨_,rfl,.ptr rfl rfl⟩,trivial⟩ ⟨.box rfl (.d rfl),trivial⟩ qG)),.inr rfl,_,resC rfl rfl rfl ta31 rfl rfl,rfl,rfl⟩
 refine cwF rfl hc1 ?_
 refine cwK ?_
 refine cwS (cwR (
  .c (o_bldB (l := (List.replicate 24 0)) (r := (List.replicate 24 0)) rfl rfl .no ze31 ar31 sz5 .nil)<|
  .c (uS [] rfl sz31 rfl)<|.nil rfl) ?_)
 have heq := ((sJ h4)).symm
 subst heq
 exact qw ⟨_,(show Leads _ _ (St.of [(2,.ptr 1 0)] [(1,.box (.d (eK (List.replicate 24 0))))]) from .w (wkF ⟨⟨_,rfl,.ptr rfl rfl⟩,trivial⟩ ⟨.box rfl (.d rfl),trivial⟩ qG)),.inr rfl,_,resC rfl rfl rfl ta31 rfl rfl,rfl,rfl⟩
theorem qO2 {a0 : ttN} {r : B8} (h : qR0 a0 = some r) : FnOk Try.prog 67 [.d (qm a0)] 0 (lk []) (fun rr oo => rr = .d (eK r) ∧ oo = lk []) := qt2 (node_First_okc h)
theorem tree_few_ok {a0 : ttN} {r : Bool} (h : ql3 a0 = some r) : FnOk Try.prog 68 [.d (qm a0)] 0 (lk []) (fun rr oo => rr = .d (qU r) ∧ oo = lk []) := by
 refine fnO Try.func68 rfl rfl (cwP ?_)
 unfold ql3 at h
 refine cwS (cwR (
  .c (uX 0 rfl)<|
  .c (uA rfl)<|.nil rfl) ?_)
 refine cwS ?_
 refine cwS (cwR (
  .c (uF rfl qE0 rfl)<|
  .c (uL [0] rfl ta3 rfl)<|
  .c (uB rfl (qd0 _ _) rfl)<|.nil rfl) ?_)
 rcases cdS h with ⟨hc0,h0⟩ | ⟨hc0,h1⟩
 ·refine cwT rfl hc0 ?_
  refine cwS (cwR (
   .c (uF rfl qr1 rfl)<|
   .c (uL [1] rfl ta34 rfl)<|
   .c (qV (enc := ePr) (xs := a0.2.1) rfl rfl .no rfl sl34)<|
   .c (uB rfl (qG0 _ _) rfl)<|
   .c (uA rfl)<|.nil rfl) ?_)
  have heq := ((sJ h0)).symm
  subst heq
  exact qw ⟨_,(show Leads _ _ (St.of [(2,.d (qU (decide ((a0.2.1.length : Int) < 3))))] []) from .w (wkF ⟨wD rfl,trivial⟩ trivial qG)),.inr rfl,_,res1 rfl rfl,rfl,rfl⟩
 refine cwF rfl hc0 ?_
 refine cwK ?_
 refine cwS (cwR (
  .c (uF rfl qo0 rfl)<|
  .c (uL [2] rfl ta44 rfl)<|
  .c (qV (enc := qP) (xs := a0.2.2) rfl rfl .no rfl sl44)<|
  .c (uB rfl (qG0 _ _) rfl)<|
  .c (uA rfl)<|.nil rfl) ?_)
 have heq := ((sJ h1)).symm
 subst heq
 exact qw ⟨_,(show Leads _ _ (St.of [(2,.d (qU (decide ((a0.2.2.length : Int) < 9))))] []) from .w (wkF ⟨wD rfl,trivial⟩ trivial qG)),.inr rfl,_,res1 rfl rfl,rfl,rfl⟩
theorem qs2 {a0 : Int} {r : Int} (h : qI0 a0 = some r) : FnOk Try.prog 44 [.d (eErr a0)] 0 (lk []) (fun rr oo => rr = .d (eErr r) ∧ oo = lk []) := by
 refine fnO Try.func44 rfl rfl (cwP ?_)
 unfold qI0 at h
 refine cwS (cwR (
  .c (uA rfl)<|.nil rfl) ?_)
 refine cwS ?_
 refine cwS (cwR (
  .c (uM rfl)<|
  .c (uB rfl (qd0 _ _) rfl)<|.nil rfl) ?_)
 rcases cdS h with ⟨hc0,h0⟩ | ⟨hc0,h1⟩
 ·refine cwT rfl hc0 ?_
  refine cwS (cwR (
   .c (uA rfl)<|.nil rfl) ?_)
  have heq := ((sJ h0)).symm
  subst heq
  exact qw ⟨_,(show Leads _ _ (St.of [(2,.d (eErr 12))] []) from .w (wkF ⟨wD rfl,trivial⟩ trivial qG)),.inr rfl,_,res1 rfl rfl,rfl,rfl⟩
 refine cwF rfl hc0 ?_
 refine cwK ?_
 refine cwS (cwR (
  .c (uM rfl)<|
  .c (uA rfl)<|.nil rfl) ?_)
 have heq := ((sJ h1)).symm
 subst heq
 exact qw ⟨_,(show Leads _ _ (St.of [(2,.d (eErr a0))] []) from .w (wkF ⟨wD rfl,trivial⟩ trivial qG)),.inr rfl,_,res1 rfl rfl,rfl,rfl⟩
theorem tree_Memory_Put_ok {a0 : ttM} {a1 : ttN} {r : (Int × Int × ttM)} (h : qO0 a0 a1 = some r) : FnOk Try.prog 120 [.ptr 0 0,.d (qm a1)] 1 (lk [(0,.own (qc a0))]) (fun rr oo => rr = .tup [.d (eint r.1),.d (eErr r.2.1)] ∧ oo = lk [(0,.own (qc r.2.2))]) := by
 refine fnO Try.func120 rfl rfl (cwP ?_)
 unfold qO0 at h
 refine cwS (cwR (
  .c (uX 1 rfl)<|
  .c (uA rfl)<|
  .c (uA rfl)<|.nil rfl) ?_)
 refine cwS ?_
 have ⟨x0,hx0,h0⟩ := bdS (x := qe1 a1) h
 refine cwS (cwR (
  .c (uL [] rfl ta46 rfl)<|
  .c (qe0 rfl rfl .no Try.func66 rfl rfl (qI3 hx0) (.cons rfl .d .nil) ⟨trivial,trivial⟩ (.inl rfl))<|
  .c (uT rfl)<|.nil rfl) ?_)
 rcases cdS h0 with ⟨hc0,h1⟩ | ⟨hc0,h2⟩
 ·refine cwT rfl hc0 ?_
  refine cwS (cwR (
   .c (uA rfl)<|
   .c (uA rfl)<|.nil rfl) ?_)
  have heq := ((sJ h1)).symm
  subst heq
  exact qw ⟨_,(show Leads _ _ (St.of [(4,.d (eint 0)),(5,.d (eErr 1))] [(0,.own (qc a0))]) from .w (wkF ⟨wD rfl,wD rfl,trivial⟩ ⟨.own rfl (.of_eq rfl (q9 _)),trivial⟩ (qv rfl))),.inr rfl,_,res2 rfl rfl rfl,rfl,rfl⟩
 refine cwF rfl hc0 ?_
 refine cwK ?_
 refine cwL (lOp (o := 0) (y := .st [.ptr 2 0,.map 3]) (news := [(2,.own (ql a0.1)),(3,.map 0 (mD eint qm a0.2))]) rfl (.st (.cons (.box rfl) (.cons (.map rfl) .nil))) rfl rfl ⟨rfl,rfl,trivial⟩) ?_
 refine cwW (wkF (l := [(0,.ptr 0 0),(3,.ptr 1 0)]) (m := [(0,.box (.st [.ptr 2 0,.map 3])),(1,.box (.d (qm a1))),(2,.own (ql a0.1)),(3,.map 0 (mD eint qm a0.2))]) ⟨⟨_,rfl,.ptr rfl rfl⟩,⟨_,rfl,.ptr rfl rfl⟩,trivial⟩ ⟨.box rfl (.st (.cons (.ptro rfl rfl) (.cons (.map rfl rfl) .nil))),.box rfl (.d rfl),.own rfl (.of_eq rfl (qe _)),.map rfl rfl,trivial⟩ (qv rfl)) ?_
 have ⟨x1,hx1,h3⟩ := bdS (x := qp1 a0.1) h2
 refine cwS (cwR (
  .c (uM rfl)<|
  .c (uP rfl)<|
  .c (uF rfl fld88_0 rfl)<|
  .c (uL [0] rfl ta84 rfl)<|
  .c (qQ (fun _ => 2) rfl rfl .no Try.func123 rfl rfl (refs_Refs_Take_ok hx1) (.cons rfl (.p rfl) .nil) (q40 rfl ⟨(by simp [AV.live,lk,Nat.beq]),trivial⟩ rfl (OD.dat_live (qe _)) (by simp)) (.inl rfl))<|
  .c (uM rfl)<|
  .c (uE rfl)<|
  .c (uE rfl)<|
  .c (uA rfl)<|
  .c (uA rfl)<|.nil rfl) ?_)
 refine cwS ?_
 refine cwS (cwR (
  .c (uM rfl)<|
  .c (uT rfl)<|.nil rfl) ?_)
 rcases cdS h3 with ⟨hc1,h4⟩ | ⟨hc1,h5⟩
 ·refine cwT rfl hc1 ?_
  refine cwS (cwR (
   .c (uA rfl)<|
   .c (uA rfl)<|.nil rfl) ?_)
  have heq := ((sJ h4)).symm
  subst heq
  exact qw ⟨_,(show Leads _ _ (St.of [(4,.d (eint 0)),(5,.d (eErr 7))] [(0,.own (qc (x1.2.2,a0.2)))]) from .trans (lPk (o := 0) (y := .st [.ptr 2 0,.map 3]) (x := qc (x1.2.2,a0.2)) (l := [(4,.d (eint 0)),(5,.d (eint 7))]) (m := [(0,.own (qc (x1.2.2,a0.2)))]) rfl (.st (.cons (.box rfl) (.cons (.map rfl) .nil))) rfl rfl ⟨⟨rfl,trivial⟩,⟨rfl,trivial⟩,trivial⟩ ⟨.inl rfl,trivial⟩ rfl (OD.dat_live (q9 _)) ⟨rfl,rfl,trivial⟩ (qv rfl)) (.w (wkF ⟨wD rfl,wD rfl,trivial⟩ ⟨.own rfl (.of_eq rfl (q9 _)),trivial⟩ (qv rfl)))),.inr rfl,_,res2 rfl rfl rfl,rfl,rfl⟩
 refine cwF rfl hc1 ?_
 refine cwK ?_
 have ⟨x2,hx2,h6⟩ := bdS (x := qn3 a1) h5
 refine cwS (cwRA mixed (by kernel_rfl) (
  .c (uM rfl)<|
  .c (uP rfl)<|
  .c (uF rfl fld88_1 rfl)<|
  .c (uL [1] rfl ta86 rfl)<|
  .c (uM rfl)<|
  .c (uL [] rfl ta46 rfl)<|
  .c (qe0 rfl rfl .no Try.func47 rfl rfl (tree_own_ok hx2) (.cons rfl .d .nil) ⟨trivial,trivial⟩ (.inl rfl))<|
  .c (o_mapset (ek := eint) (ev := qm) (m := a0.2) x1.1 x2 rfl .no rfl rfl rfl rfl mp86 kl3 rfl)<|.nil rfl) (by kernel_rfl) ?_)
 refine cwS (cwR (
  .c (uM rfl)<|
  .c (uA rfl)<|
  .c (uA rfl)<|.nil rfl) ?_)
 have heq := ((sJ h6)).symm
 subst heq
 exact qw ⟨_,(show Leads _ _ (St.of [(4,.d (eint x1.1)),(5,.d (eErr 0))] [(0,.own (qc (x1.2.2,(mset a0.2 x1.1 x2))))]) from .trans (lPk (o := 0) (y := .st [.ptr 2 0,.map 3]) (x := qc (x1.2.2,(mset a0.2 x1.1 x2))) (l := [(4,.d (eint x1.1)),(5,.d (eint 0))]) (m := [(0,.own (qc (x1.2.2,(mset a0.2 x1.1 x2))))]) rfl (.st (.cons (.box rfl) (.cons (.map rfl) .nil))) rfl rfl ⟨⟨rfl,trivial⟩,⟨rfl,trivial⟩,trivial⟩ ⟨.inl rfl,trivial⟩ rfl (OD.dat_live (q9 _)) ⟨rfl,rfl,trivial⟩ (qv rfl)) (.w (wkF ⟨wD rfl,wD rfl,trivial⟩ ⟨.own rfl (.of_eq rfl (q9 _)),trivial⟩ (qv rfl)))),.inr rfl,_,res2 rfl rfl rfl,rfl,rfl⟩
end
end Go.Val
