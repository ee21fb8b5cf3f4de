/- Walks of the program's functions,printed. -/
import Derived.Test.YtfbnhflapgddbaaWa
import Derived.Test.YtfbnhflapgddbaaLe
set_option linter.unusedSectionVars false
set_option linter.unusedVariables false
set_option linter.unusedSimpArgs false
set_option maxRecDepth 100000
namespace Go.Val
open Go.RowKit Go.Proofs
section
variable [NoDrw]
noncomputable def q91 (a0 : Int) (b0 : (Int × (List (Int × Int)) × Int)) (c2 : Int) : Option (Bool × (Int × (List (Int × Int)) × Int)) := cond (decide (a0 > 1)) (some (false,(b0.1,(mset b0.2.1 c2 (IntKind.wrap .i64 (a0 - 1))),b0.2.2))) (some (true,(b0.1,(mdel b0.2.1 c2),(min b0.2.2 c2))))
noncomputable def qs1 (a0 : Int) (b0 : (Int × (List (Int × Int)) × Int)) (c2 : Int) : Option (Bool × (Int × (List (Int × Int)) × Int)) := some (true,(b0.1,(mset b0.2.1 c2 (IntKind.wrap .i64 (a0 + 1))),b0.2.2))
noncomputable def qH0 (a0 : (Int × (List (Int × Int)) × Int)) (a1 : Int) (a2 : Bool) (c2 : Int) : Option (Bool × Int × (Int × (List (Int × Int)) × Int)) := (((cond (decide (a1 < 2)) (some true) (some (decide (a1 ≥ a0.1)))) : Option Bool)).bind fun o0 => cond o0 (some (false,1,(a0.1,a0.2.1,a0.2.2))) ((((cond a2 (some (decide (((mget a0.2.1 a1).getD 0) = 0))) (some false)
  ) : Option Bool)).bind fun o1 => cond o1 (some (false,13,(a0.1,a0.2.1,a0.2.2))) ((q91 ((mget a0.2.1 a1).getD 0) (a0.1,a0.2.1,a0.2.2) c2).bind fun x0 => some (x0.1,0,x0.2)))
noncomputable def q51 (a0 : (Int × (List (Int × Int)) × Int)) (a1 : Int) (a2 : Bool) (c2 : Int) : Option (Bool × Int × (Int × (List (Int × Int)) × Int)) := (((cond (decide (a1 < 2)) (some true) (some (decide (a1 ≥ a0.1)))) : Option Bool)).bind fun o0 => cond o0 (some (false,1,(a0.1,a0.2.1,a0.2.2))) ((((cond a2 (some (decide (((mget a0.2.1 a1).getD 0) = 0))) (some false)
  ) : Option Bool)).bind fun o1 => cond o1 (some (false,13,(a0.1,a0.2.1,a0.2.2))) ((qs1 ((mget a0.2.1 a1).getD 0) (a0.1,a0.2.1,a0.2.2) c2).bind fun x0 => some (x0.1,0,x0.2)))
noncomputable def qF1 (a0 : (Int × (List (Int × Int)) × Int)) (a1 : Int) : Option (Bool × Int × (Int × (List (Int × Int)) × Int)) := (qH0 a0 a1 true a1).bind fun x0 => some (x0.1,x0.2.1,x0.2.2)
noncomputable def qb2 (a0 : (Int × (List (Int × Int)) × Int)) (a1 : Int) : Option (Int × (Int × (List (Int × Int)) × Int)) := (q51 a0 a1 true a1).bind fun x0 => some (x0.2.1,x0.2.2)
noncomputable def qt0 (a0 : ttM) (a1 : Int) : Option (Int × ttM) := (qb2 a0.1 a1).bind fun x0 => cond (decide (x0.1 ≠ 0)) (some (1,(x0.2,a0.2))) (some (0,(x0.2,a0.2)))
noncomputable def qA0 (a0 : ttM) (a1 : Int) : Option (Bool × Int × ttM) := (qF1 a0.1 a1).bind fun x0 => cond (decide (x0.2.1 ≠ 0)) (some (false,1,(x0.2.2,a0.2))) ((((cond x0.1 (some (x0.2.2,(mdel a0.2 a1))) (some (x0.2.2,a0.2))) : Option ttM)).bind fun o0 => some (x0.1,0,o0))
theorem refs_Refs_Dec_1_ok {a0 : Int} {b0 : (Int × (List (Int × Int)) × Int)} {c2 : Int} {r : (Bool × (Int × (List (Int × Int)) × Int))} (h : q91 a0 b0 c2 = some r) : FnOk Try.prog 125 [.d (eint a0),.ptr 1 0,.ptr 2 0] 3 (lk [(0,.own (ql b0)),(1,.box (.ptr 0 0)),(2,.box (.d (eint c2)))]) (fun rr oo => rr = .d (qU r.1) ∧ oo = lk [(0,.own (ql r.2)),(1,.box (.ptr 0 0)),(2,.box (.d (eint c2)))]) := by
 refine fnO Try.func125 rfl rfl (cwP ?_)
 unfold q91 at h
 refine cwS (cwR (
  .c (uA rfl)<|.nil rfl) ?_)
 refine cwS ?_
 refine cwS (cwR (
  .c (uM rfl)<|
  .c (uB rfl (qy3 _ _) rfl)<|.nil rfl) ?_)
 rcases cdS h with ⟨hc0,h0⟩ | ⟨hc0,h1⟩
 ·refine cwT rfl hc0 ?_
  refine cwL (lOp (o := 0) (y := .st [.d (eint b0.1),.map 3,.d (eint b0.2.2)]) (news := [(3,.map 0 (mD eint eint b0.2.1))]) rfl (.st (.cons (.av rfl) (.cons (.map rfl) (.cons (.av rfl) .nil)))) rfl rfl ⟨rfl,trivial⟩) ?_
  refine cwW (wkF (l := [(0,.d (eint a0)),(1,.ptr 1 0),(2,.ptr 2 0)]) (m := [(0,.box (.st [.d (eint b0.1),.map 3,.d (eint b0.2.2)])),(1,.box (.ptr 0 0)),(2,.box (.d (eint c2))),(3,.map 0 (mD eint eint b0.2.1))]) ⟨wD rfl,⟨_,rfl,.ptr rfl rfl⟩,⟨_,rfl,.ptr rfl rfl⟩,trivial⟩ ⟨.box rfl (.st (.cons (.d rfl) (.cons (.map rfl rfl) (.cons (.d rfl) .nil)))),.box rfl (.ptr rfl rfl),.box rfl (.d rfl),.map rfl rfl,trivial⟩ (qv rfl)) ?_
  refine cwS (cwRA mixed (by kernel_rfl) (
   .c (uL [] rfl ta84 rfl)<|
   .c (uP rfl)<|
   .c (uF rfl qo3 rfl)<|
   .c (uL [1] rfl ta124 rfl)<|
   .c (uL [] rfl ta3 rfl)<|
   .c (uM rfl)<|
   .c (uB rfl (qW2 _ _) rfl)<|
   .c (o_mapset (ek := eint) (ev := eint) (m := b0.2.1) c2 (IntKind.wrap .i64 (a0 - 1)) rfl .no rfl rfl rfl rfl mp124 kl3 rfl)<|.nil rfl) (by kernel_rfl) ?_)
  refine cwS (cwR (
   .c (uA rfl)<|.nil rfl) ?_)
  have heq := ((sJ h0)).symm
  subst heq
  exact qw ⟨_,(show Leads _ _ (St.of [(4,.d (qU false))] [(0,.own (ql (b0.1,(mset b0.2.1 c2 (IntKind.wrap .i64 (a0 - 1))),b0.2.2))),(1,.box (.ptr 0 0)),(2,.box (.d (eint c2)))]) from .trans (lPk (o := 0) (y := .st [.d (eint b0.1),.map 3,.d (eint b0.2.2)]) (x := ql (b0.1,(mset b0.2.1 c2 (IntKind.wrap .i64 (a0 - 1))),b0.2.2)) (l := [(4,.d (qU false))]) (m := [(0,.own (ql (b0.1,(mset b0.2.1 c2 (IntKind.wrap .i64 (a0 - 1))),b0.2.2))),(1,.box (.ptr 0 0)),(2,.box (.d (eint c2)))]) rfl (.st (.cons (.av rfl) (.cons (.map rfl) (.cons (.av rfl) .nil)))) rfl rfl ⟨⟨rfl,trivial⟩,trivial⟩ ⟨.inl rfl,(.inr ⟨rfl,(by simp [OB.live,AV.live,AV.lives,lk,Nat.beq])⟩),(.inr ⟨rfl,trivial⟩),trivial⟩ rfl (OD.dat_live (qe _)) ⟨rfl,trivial⟩ (qv rfl)) (.w (wkF ⟨wD rfl,trivial⟩ ⟨.own rfl (.of_eq rfl (qe _)),.box rfl (.ptro rfl rfl),.box rfl (.d rfl),trivial⟩ (qv rfl)))),.inr rfl,_,res1 rfl rfl,rfl,rfl⟩
 refine cwF rfl hc0 ?_
 refine cwK ?_
 refine cwL (lOp (o := 0) (y := .st [.d (eint b0.1),.map 4,.d (eint b0.2.2)]) (news := [(4,.map 0 (mD eint eint b0.2.1))]) rfl (.st (.cons (.av rfl) (.cons (.map rfl) (.cons (.av rfl) .nil)))) rfl rfl ⟨rfl,trivial⟩) ?_
 refine cwW (wkF (l := [(1,.ptr 1 0),(2,.ptr 2 0)]) (m := [(0,.box (.st [.d (eint b0.1),.map 4,.d (eint b0.2.2)])),(1,.box (.ptr 0 0)),(2,.box (.d (eint c2))),(4,.map 0 (mD eint eint b0.2.1))]) ⟨⟨_,rfl,.ptr rfl rfl⟩,⟨_,rfl,.ptr rfl rfl⟩,trivial⟩ ⟨.box rfl (.st (.cons (.d rfl) (.cons (.map rfl rfl) (.cons (.d rfl) .nil)))),.box rfl (.ptr rfl rfl),.box rfl (.d rfl),.map rfl rfl,trivial⟩ (qv rfl)) ?_
 refine cwS (cwRA mixed (by kernel_rfl) (
  .c (uL [] rfl ta84 rfl)<|
  .c (uP rfl)<|
  .c (uF rfl qo3 rfl)<|
  .c (uL [1] rfl ta124 rfl)<|
  .c (uL [] rfl ta3 rfl)<|
  .c (o_mapdel (ek := eint) (ev := eint) (m := b0.2.1) c2 rfl .no rfl rfl rfl mp124 kl3 rfl)<|.nil rfl) (by kernel_rfl) ?_)
 refine cwS (cwRA mixed (by kernel_rfl) (
  .c (uL [] rfl ta84 rfl)<|
  .c (uL [] rfl ta84 rfl)<|
  .c (uP rfl)<|
  .c (uF rfl qF3 rfl)<|
  .c (uL [2] rfl ta3 rfl)<|
  .c (uL [] rfl ta3 rfl)<|
  .c (o_min rfl rfl .no rfl rfl)<|
  .c (uP rfl)<|
  .c (uF rfl qF3 rfl)<|
  .c (uS [2] rfl sz3 rfl)<|.nil rfl) (by kernel_rfl) ?_)
 refine cwS (cwR (
  .c (uA rfl)<|.nil rfl) ?_)
 have heq := ((sJ h1)).symm
 subst heq
 exact qw ⟨_,(show Leads _ _ (St.of [(4,.d (qU true))] [(0,.own (ql (b0.1,(mdel b0.2.1 c2),(min b0.2.2 c2)))),(1,.box (.ptr 0 0)),(2,.box (.d (eint c2)))]) from .trans (lPk (o := 0) (y := .st [.d (eint b0.1),.map 4,.d (eint (min b0.2.2 c2))]) (x := ql (b0.1,(mdel b0.2.1 c2),(min b0.2.2 c2))) (l := [(4,.d (qU true))]) (m := [(0,.own (ql (b0.1,(mdel b0.2.1 c2),(min b0.2.2 c2)))),(1,.box (.ptr 0 0)),(2,.box (.d (eint c2)))]) rfl (.st (.cons (.av rfl) (.cons (.map rfl) (.cons (.av rfl) .nil)))) rfl rfl ⟨⟨rfl,trivial⟩,trivial⟩ ⟨.inl rfl,(.inr ⟨rfl,(by simp [OB.live,AV.live,AV.lives,lk,Nat.beq])⟩),(.inr ⟨rfl,trivial⟩),trivial⟩ rfl (OD.dat_live (qe _)) ⟨rfl,trivial⟩ (qv rfl)) (.w (wkF ⟨wD rfl,trivial⟩ ⟨.own rfl (.of_eq rfl (qe _)),.box rfl (.ptro rfl rfl),.box rfl (.d rfl),trivial⟩ (qv rfl)))),.inr rfl,_,res1 rfl rfl,rfl,rfl⟩
theorem refs_Refs_Inc_1_ok {a0 : Int} {b0 : (Int × (List (Int × Int)) × Int)} {c2 : Int} {r : (Bool × (Int × (List (Int × Int)) × Int))} (h : qs1 a0 b0 c2 = some r) : FnOk Try.prog 126 [.d (eint a0),.ptr 1 0,.ptr 2 0] 3 (lk [(0,.own (ql b0)),(1,.box (.ptr 0 0)),(2,.box (.d (eint c2)))]) (fun rr oo => rr = .d (qU r.1) ∧ oo = lk [(0,.own (ql r.2)),(1,.box (.ptr 0 0)),(2,.box (.d (eint c2)))]) := by
 refine fnO Try.func126 rfl rfl (cwP ?_)
 unfold qs1 at h
 refine cwS (cwR (
  .c (uA rfl)<|.nil rfl) ?_)
 refine cwL (lOp (o := 0) (y := .st [.d (eint b0.1),.map 3,.d (eint b0.2.2)]) (news := [(3,.map 0 (mD eint eint b0.2.1))]) rfl (.st (.cons (.av rfl) (.cons (.map rfl) (.cons (.av rfl) .nil)))) rfl rfl ⟨rfl,trivial⟩) ?_
 refine cwW (wkF (l := [(0,.d (eint a0)),(1,.ptr 1 0),(2,.ptr 2 0)]) (m := [(0,.box (.st [.d (eint b0.1),.map 3,.d (eint b0.2.2)])),(1,.box (.ptr 0 0)),(2,.box (.d (eint c2))),(3,.map 0 (mD eint eint b0.2.1))]) ⟨wD rfl,⟨_,rfl,.ptr rfl rfl⟩,⟨_,rfl,.ptr rfl rfl⟩,trivial⟩ ⟨.box rfl (.st (.cons (.d rfl) (.cons (.map rfl rfl) (.cons (.d rfl) .nil)))),.box rfl (.ptr rfl rfl),.box rfl (.d rfl),.map rfl rfl,trivial⟩ (qv rfl)) ?_
 refine cwS (cwRA mixed (by kernel_rfl) (
  .c (uL [] rfl ta84 rfl)<|
  .c (uP rfl)<|
  .c (uF rfl qo3 rfl)<|
  .c (uL [1] rfl ta124 rfl)<|
  .c (uL [] rfl ta3 rfl)<|
  .c (uM rfl)<|
  .c (uB rfl (qN0 _ _) rfl)<|
  .c (o_mapset (ek := eint) (ev := eint) (m := b0.2.1) c2 (IntKind.wrap .i64 (a0 + 1)) rfl .no rfl rfl rfl rfl mp124 kl3 rfl)<|.nil rfl) (by kernel_rfl) ?_)
 refine cwS (cwR (
  .c (uA rfl)<|.nil rfl) ?_)
 have heq := ((sJ h)).symm
 subst heq
 exact qw ⟨_,(show Leads _ _ (St.of [(4,.d (qU true))] [(0,.own (ql (b0.1,(mset b0.2.1 c2 (IntKind.wrap .i64 (a0 + 1))),b0.2.2))),(1,.box (.ptr 0 0)),(2,.box (.d (eint c2)))]) from .trans (lPk (o := 0) (y := .st [.d (eint b0.1),.map 3,.d (eint b0.2.2)]) (x := ql (b0.1,(mset b0.2.1 c2 (IntKind.wrap .i64 (a0 + 1))),b0.2.2)) (l := [(4,.d (qU true))]) (m := [(0,.own (ql (b0.1,(mset b0.2.1 c2 (IntKind.wrap .i64 (a0 + 1))),b0.2.2))),(1,.box (.ptr 0 0)),(2,.box (.d (eint c2)))]) rfl (.st (.cons (.av rfl) (.cons (.map rfl) (.cons (.av rfl) .nil)))) rfl rfl ⟨⟨rfl,trivial⟩,trivial⟩ ⟨.inl rfl,(.inr ⟨rfl,(by simp [OB.live,AV.live,AV.lives,lk,Nat.beq])⟩),(.inr ⟨rfl,trivial⟩),trivial⟩ rfl (OD.dat_live (qe _)) ⟨rfl,trivial⟩ (qv rfl)) (.w (wkF ⟨wD rfl,trivial⟩ ⟨.own rfl (.of_eq rfl (qe _)),.box rfl (.ptro rfl rfl),.box rfl (.d rfl),trivial⟩ (qv rfl)))),.inr rfl,_,res1 rfl rfl,rfl,rfl⟩
theorem qb4 {a0 : (Int × (List (Int × Int)) × Int)} {a1 : Int} {a2 : Bool} {c2 : Int} {r : (Bool × Int × (Int × (List (Int × Int)) × Int))} (h : qH0 a0 a1 a2 c2 = some r) : FnOk Try.prog 124 [.ptr 0 0,.d (eint a1),.d (qU a2),.fn 125 [] [.ptr 1 0,.ptr 2 0]] 3 (lk [(0,.own (ql a0)),(1,.box (.ptr 0 0)),(2,.box (.d (eint c2)))]) (fun rr oo => rr = .tup [.d (qU r.1),.d (eErr r.2.1)] ∧ oo = lk [(0,.own (ql r.2.2)),(1,.box (.ptr 0 0)),(2,.box (.d (eint c2)))]) := by
 refine fnO Try.func124 rfl rfl (cwP ?_)
 unfold qH0 at h
 refine cwS (cwR (
  .c (uA rfl)<|
  .c (uA rfl)<|.nil rfl) ?_)
 refine cwS ?_
 refine cwL (lOp (o := 0) (y := .st [.d (eint a0.1),.map 3,.d (eint a0.2.2)]) (news := [(3,.map 0 (mD eint eint a0.2.1))]) rfl (.st (.cons (.av rfl) (.cons (.map rfl) (.cons (.av rfl) .nil)))) rfl rfl ⟨rfl,trivial⟩) ?_
 refine cwW (wkF (l := [(0,.ptr 0 0),(1,.d (eint a1)),(2,.d (qU a2)),(3,.fn 125 [] [.ptr 1 0,.ptr 2 0])]) (m := [(0,.box (.st [.d (eint a0.1),.map 3,.d (eint a0.2.2)])),(1,.box (.ptr 0 0)),(2,.box (.d (eint c2))),(3,.map 0 (mD eint eint a0.2.1))]) ⟨⟨_,rfl,.ptr rfl rfl⟩,wD rfl,wD rfl,⟨_,rfl,.fn .nil (.cons (.ptr rfl rfl) (.cons (.ptr rfl rfl) .nil))⟩,trivial⟩ ⟨.box rfl (.st (.cons (.d rfl) (.cons (.map rfl rfl) (.cons (.d rfl) .nil)))),.box rfl (.ptr rfl rfl),.box rfl (.d rfl),.map rfl rfl,trivial⟩ (qv rfl)) ?_
 have ⟨o0,hj0,h0⟩ := bdS h
 refine cwJ (fun (z : Bool) => St.of [(0,.ptr 0 0),(1,.d (eint a1)),(2,.d (qU a2)),(3,.fn 125 [] [.ptr 1 0,.ptr 2 0]),(20,.d (qU z))] [(0,.own (ql (a0.1,a0.2.1,a0.2.2))),(1,.box (.ptr 0 0)),(2,.box (.d (eint c2)))]) (fun (z : Bool) => o0 = z) ?_ ?_
 ·intro v0 hv0; subst hv0
  rcases cdS h0 with ⟨hc0,h1⟩ | ⟨hc0,h2⟩
  ·refine cwT rfl hc0 ?_
   refine cwS (cwR (
    .c (uA rfl)<|
    .c (uA rfl)<|.nil rfl) ?_)
   have heq := ((sJ h1)).symm
   subst heq
   exact qw ⟨_,(show Leads _ _ (St.of [(8,.d (qU false)),(9,.d (eErr 1))] [(0,.own (ql (a0.1,a0.2.1,a0.2.2))),(1,.box (.ptr 0 0)),(2,.box (.d (eint c2)))]) from .w (wkF ⟨wD rfl,wD rfl,trivial⟩ ⟨.own rfl (.of_eq rfl (qe _)),.box rfl (.ptro rfl rfl),.box rfl (.d rfl),trivial⟩ (qv rfl))),.inr rfl,_,res2 rfl rfl rfl,rfl,rfl⟩
  refine cwF rfl hc0 ?_
  refine cwK ?_
  refine cwL (lOp (o := 0) (y := .st [.d (eint a0.1),.map 4,.d (eint a0.2.2)]) (news := [(4,.map 0 (mD eint eint a0.2.1))]) rfl (.st (.cons (.av rfl) (.cons (.map rfl) (.cons (.av rfl) .nil)))) rfl rfl ⟨rfl,trivial⟩) ?_
  refine cwW (wkF (l := [(0,.ptr 0 0),(1,.d (eint a1)),(2,.d (qU a2)),(3,.fn 125 [] [.ptr 1 0,.ptr 2 0])]) (m := [(0,.box (.st [.d (eint a0.1),.map 4,.d (eint a0.2.2)])),(1,.box (.ptr 0 0)),(2,.box (.d (eint c2))),(4,.map 0 (mD eint eint a0.2.1))]) ⟨⟨_,rfl,.ptr rfl rfl⟩,wD rfl,wD rfl,⟨_,rfl,.fn .nil (.cons (.ptr rfl rfl) (.cons (.ptr rfl rfl) .nil))⟩,trivial⟩ ⟨.box rfl (.st (.cons (.d rfl) (.cons (.map rfl rfl) (.cons (.d rfl) .nil)))),.box rfl (.ptr rfl rfl),.box rfl (.d rfl),.map rfl rfl,trivial⟩ (qv rfl)) ?_
  refine cwS (cwR (
   .c (uM rfl)<|
   .c (uP rfl)<|
   .c (uF rfl qo3 rfl)<|
   .c (uL [1] rfl ta124 rfl)<|
   .c (uM rfl)<|
   .c (q75 (ek := eint) (ev := eint) (m := a0.2.1) a1 0 rfl rfl .no rfl rfl rfl mp124 kl3 ze3 rfl rfl)<|
   .c (uA rfl)<|.nil rfl) ?_)
  refine cwS ?_
  have ⟨o1,hj1,h3⟩ := bdS h2
  refine cwJ (fun (z : Bool) => St.of [(3,.fn 125 [] [.ptr 1 0,.ptr 2 0]),(10,.d (eint ((mget a0.2.1 a1).getD 0))),(31,.d (qU z))] [(0,.own (ql (a0.1,a0.2.1,a0.2.2))),(1,.box (.ptr 0 0)),(2,.box (.d (eint c2)))]) (fun (z : Bool) => o1 = z) ?_ ?_
  ·intro v1 hv1; subst hv1
   rcases cdS h3 with ⟨hc1,h4⟩ | ⟨hc1,h5⟩
   ·refine cwT rfl hc1 ?_
    refine cwS (cwR (
     .c (uA rfl)<|
     .c (uA rfl)<|.nil rfl) ?_)
    have heq := ((sJ h4)).symm
    subst heq
    exact qw ⟨_,(show Leads _ _ (St.of [(8,.d (qU false)),(9,.d (eErr 13))] [(0,.own (ql (a0.1,a0.2.1,a0.2.2))),(1,.box (.ptr 0 0)),(2,.box (.d (eint c2)))]) from .w (wkF ⟨wD rfl,wD rfl,trivial⟩ ⟨.own rfl (.of_eq rfl (qe _)),.box rfl (.ptro rfl rfl),.box rfl (.d rfl),trivial⟩ (qv rfl))),.inr rfl,_,res2 rfl rfl rfl,rfl,rfl⟩
   refine cwF rfl hc1 ?_
   refine cwK ?_
   have ⟨x0,hx0,h6⟩ := bdS (x := q91 ((mget a0.2.1 a1).getD 0) (a0.1,a0.2.1,a0.2.2) c2) h5
   refine cwS (cwR (
    .c (uM rfl)<|
    .c (uM rfl)<|
    .c (o_callVX (ys := [.d (eint ((mget a0.2.1 a1).getD 0))]) (zs := [.ptr 1 0,.ptr 2 0]) (fun n => bif Nat.beq n 0 then 0 else bif Nat.beq n 1 then 1 else 2) rfl rfl .no rfl rfl Try.func125 rfl rfl (refs_Refs_Dec_1_ok hx0) (.cons rfl .d .nil) (qP2 [] rfl ⟨trivial,(by simp [AV.live,AV.lives,lk,Nat.beq]),(by simp [AV.live,AV.lives,lk,Nat.beq]),trivial⟩ ⟨⟨rfl,(OD.dat_live (qe _))⟩,⟨rfl,(by simp [OB.live,AV.live,lk,Nat.beq])⟩,⟨rfl,trivial⟩,trivial⟩ rfl rfl rfl trivial rfl) (.inl rfl))<|
    .c (uA rfl)<|
    .c (uA rfl)<|.nil rfl) ?_)
   have heq := ((sJ h6)).symm
   subst heq
   exact qw ⟨_,(show Leads _ _ (St.of [(8,.d (qU x0.1)),(9,.d (eErr 0))] [(0,.own (ql x0.2)),(1,.box (.ptr 0 0)),(2,.box (.d (eint c2)))]) from .w (wkF ⟨wD rfl,wD rfl,trivial⟩ ⟨.own rfl (.of_eq rfl (qe _)),.box rfl (.ptro rfl rfl),.box rfl (.d rfl),trivial⟩ (qv rfl))),.inr rfl,_,res2 rfl rfl rfl,rfl,rfl⟩
  rcases cdS hj1 with ⟨hc2,h7⟩ | ⟨hc2,h8⟩
  ·skip
   refine cwR (
    .c (uM rfl)<|
    .c (uM rfl)<|
    .c (o_mv rfl rfl (.yes rfl rfl hc2) rfl)<|
    .c (qj rfl rfl (.yes rfl rfl hc2) rfl rfl (qd0 _ _) rfl)<|
    .c (uPT rfl hc2)<|.nil rfl
   ) ?_
   exact ⟨(decide (((mget a0.2.1 a1).getD 0) = 0)),(sJ h7),.trans (lPk (o := 0) (y := .st [.d (eint a0.1),.map 4,.d (eint a0.2.2)]) (x := ql (a0.1,a0.2.1,a0.2.2)) (l := [(3,.fn 125 [] [.ptr 1 0,.ptr 2 0]),(10,.d (eint ((mget a0.2.1 a1).getD 0))),(31,.d (qU (decide (((mget a0.2.1 a1).getD 0) = 0))))]) (m := [(0,.own (ql (a0.1,a0.2.1,a0.2.2))),(1,.box (.ptr 0 0)),(2,.box (.d (eint c2)))]) rfl (.st (.cons (.av rfl) (.cons (.map rfl) (.cons (.av rfl) .nil)))) rfl rfl ⟨⟨rfl,(by simp [AV.live,AV.lives,lk,Nat.beq])⟩,⟨rfl,trivial⟩,⟨rfl,trivial⟩,trivial⟩ ⟨.inl rfl,(.inr ⟨rfl,(by simp [OB.live,AV.live,AV.lives,lk,Nat.beq])⟩),(.inr ⟨rfl,trivial⟩),trivial⟩ rfl (OD.dat_live (qe _)) ⟨rfl,trivial⟩ (qv rfl)) (.w (wkF ⟨⟨_,rfl,.fn .nil (.cons (.ptr rfl rfl) (.cons (.ptr rfl rfl) .nil))⟩,wD rfl,wD rfl,trivial⟩ ⟨.own rfl (.of_eq rfl (qe _)),.box rfl (.ptro rfl rfl),.box rfl (.d rfl),trivial⟩ (qv rfl)))⟩
  refine cwR (
   .c (uM rfl)<|
   .c (uM rfl)<|
   .c (uN rfl rfl hc2)<|
   .c (uN rfl rfl hc2)<|
   .c (uPF rfl hc2)<|.nil rfl
  ) ?_
  exact ⟨false,(sJ h8),.trans (lPk (o := 0) (y := .st [.d (eint a0.1),.map 4,.d (eint a0.2.2)]) (x := ql (a0.1,a0.2.1,a0.2.2)) (l := [(3,.fn 125 [] [.ptr 1 0,.ptr 2 0]),(10,.d (eint ((mget a0.2.1 a1).getD 0))),(31,.d (qU false))]) (m := [(0,.own (ql (a0.1,a0.2.1,a0.2.2))),(1,.box (.ptr 0 0)),(2,.box (.d (eint c2)))]) rfl (.st (.cons (.av rfl) (.cons (.map rfl) (.cons (.av rfl) .nil)))) rfl rfl ⟨⟨rfl,(by simp [AV.live,AV.lives,lk,Nat.beq])⟩,⟨rfl,trivial⟩,⟨rfl,trivial⟩,trivial⟩ ⟨.inl rfl,(.inr ⟨rfl,(by simp [OB.live,AV.live,AV.lives,lk,Nat.beq])⟩),(.inr ⟨rfl,trivial⟩),trivial⟩ rfl (OD.dat_live (qe _)) ⟨rfl,trivial⟩ (qv rfl)) (.w (wkF ⟨⟨_,rfl,.fn .nil (.cons (.ptr rfl rfl) (.cons (.ptr rfl rfl) .nil))⟩,wD rfl,wD rfl,trivial⟩ ⟨.own rfl (.of_eq rfl (qe _)),.box rfl (.ptro rfl rfl),.box rfl (.d rfl),trivial⟩ (qv rfl)))⟩
 rcases cdS hj0 with ⟨hc3,h9⟩ | ⟨hc3,h10⟩
 ·skip
  refine cwR (
   .c (uM rfl)<|
   .c (uB rfl (qG0 _ _) rfl)<|
   .c (uM rfl)<|
   .c (uN rfl rfl hc3)<|
   .c (uN rfl rfl hc3)<|
   .c (uN rfl rfl hc3)<|
   .c (uN rfl rfl hc3)<|
   .c (uN rfl rfl hc3)<|
   .c (uN rfl rfl hc3)<|
   .c (uPT rfl hc3)<|.nil rfl
  ) ?_
  exact ⟨true,(sJ h9),.trans (lPk (o := 0) (y := .st [.d (eint a0.1),.map 3,.d (eint a0.2.2)]) (x := ql (a0.1,a0.2.1,a0.2.2)) (l := [(0,.ptr 0 0),(1,.d (eint a1)),(2,.d (qU a2)),(3,.fn 125 [] [.ptr 1 0,.ptr 2 0]),(20,.d (qU true))]) (m := [(0,.own (ql (a0.1,a0.2.1,a0.2.2))),(1,.box (.ptr 0 0)),(2,.box (.d (eint c2)))]) rfl (.st (.cons (.av rfl) (.cons (.map rfl) (.cons (.av rfl) .nil)))) rfl rfl ⟨⟨rfl,(by simp [AV.live,AV.lives,lk,Nat.beq])⟩,⟨rfl,trivial⟩,⟨rfl,trivial⟩,⟨rfl,(by simp [AV.live,AV.lives,lk,Nat.beq])⟩,⟨rfl,trivial⟩,trivial⟩ ⟨.inl rfl,(.inr ⟨rfl,(by simp [OB.live,AV.live,AV.lives,lk,Nat.beq])⟩),(.inr ⟨rfl,trivial⟩),trivial⟩ rfl (OD.dat_live (qe _)) ⟨rfl,trivial⟩ (qv rfl)) (.w (wkF ⟨⟨_,rfl,.ptro rfl rfl⟩,wD rfl,wD rfl,⟨_,rfl,.fn .nil (.cons (.ptr rfl rfl) (.cons (.ptr rfl rfl) .nil))⟩,wD rfl,trivial⟩ ⟨.own rfl (.of_eq rfl (qe _)),.box rfl (.ptro rfl rfl),.box rfl (.d rfl),trivial⟩ (qv rfl)))⟩
 refine cwR (
  .c (uM rfl)<|
  .c (uB rfl (qG0 _ _) rfl)<|
  .c (uM rfl)<|
  .c (o_mv rfl rfl (.yes rfl rfl hc3) rfl)<|
  .c (o_mv rfl rfl (.yes rfl rfl hc3) rfl)<|
  .c (qX0 rfl rfl (.yes rfl rfl hc3) rfl)<|
  .c (qn rfl rfl (.yes rfl rfl hc3) rfl fld126_0 (by decide))<|
  .c (qA [0] rfl rfl (.yes rfl rfl hc3) rfl rfl rfl ta3 rfl rfl)<|
  .c (qj rfl rfl (.yes rfl rfl hc3) rfl rfl (b_geq _ _) rfl)<|
  .c (uPF rfl hc3)<|.nil rfl
 ) ?_
 exact ⟨(decide (a1 ≥ a0.1)),(sJ h10),.trans (lPk (o := 0) (y := .st [.d (eint a0.1),.map 3,.d (eint a0.2.2)]) (x := ql (a0.1,a0.2.1,a0.2.2)) (l := [(0,.ptr 0 0),(1,.d (eint a1)),(2,.d (qU a2)),(3,.fn 125 [] [.ptr 1 0,.ptr 2 0]),(20,.d (qU (decide (a1 ≥ a0.1))))]) (m := [(0,.own (ql (a0.1,a0.2.1,a0.2.2))),(1,.box (.ptr 0 0)),(2,.box (.d (eint c2)))]) rfl (.st (.cons (.av rfl) (.cons (.map rfl) (.cons (.av rfl) .nil)))) rfl rfl ⟨⟨rfl,(by simp [AV.live,AV.lives,lk,Nat.beq])⟩,⟨rfl,trivial⟩,⟨rfl,trivial⟩,⟨rfl,(by simp [AV.live,AV.lives,lk,Nat.beq])⟩,⟨rfl,trivial⟩,trivial⟩ ⟨.inl rfl,(.inr ⟨rfl,(by simp [OB.live,AV.live,AV.lives,lk,Nat.beq])⟩),(.inr ⟨rfl,trivial⟩),trivial⟩ rfl (OD.dat_live (qe _)) ⟨rfl,trivial⟩ (qv rfl)) (.w (wkF ⟨⟨_,rfl,.ptro rfl rfl⟩,wD rfl,wD rfl,⟨_,rfl,.fn .nil (.cons (.ptr rfl rfl) (.cons (.ptr rfl rfl) .nil))⟩,wD rfl,trivial⟩ ⟨.own rfl (.of_eq rfl (qe _)),.box rfl (.ptro rfl rfl),.box rfl (.d rfl),trivial⟩ (qv rfl)))⟩
theorem qg4 {a0 : (Int × (List (Int × Int)) × Int)} {a1 : Int} {a2 : Bool} {c2 : Int} {r : (Bool × Int × (Int × (List (Int × Int)) × Int))} (h : q51 a0 a1 a2 c2 = some r) : FnOk Try.prog 124 [.ptr 0 0,.d (eint a1),.d (qU a2),.fn 126 [] [.ptr 1 0,.ptr 2 0]] 3 (lk [(0,.own (ql a0)),(1,.box (.ptr 0 0)),(2,.box (.d (eint c2)))]) (fun rr oo => rr = .tup [.d (qU r.1),.d (eErr r.2.1)] ∧ oo = lk [(0,.own (ql r.2.2)),(1,.box (.ptr 0 0)),(2,.box (.d (eint c2)))]) := by
 refine fnO Try.func124 rfl rfl (cwP ?_)
 unfold q51 at h
 refine cwS (cwR (
  .c (uA rfl)<|
  .c (uA rfl)<|.nil rfl) ?_)
 refine cwS ?_
 refine cwL (lOp (o := 0) (y := .st [.d (eint a0.1),.map 3,.d (eint a0.2.2)]) (news := [(3,.map 0 (mD eint eint a0.2.1))]) rfl (.st (.cons (.av rfl) (.cons (.map rfl) (.cons (.av rfl) .nil)))) rfl rfl ⟨rfl,trivial⟩) ?_
 refine cwW (wkF (l := [(0,.ptr 0 0),(1,.d (eint a1)),(2,.d (qU a2)),(3,.fn 126 [] [.ptr 1 0,.ptr 2 0])]) (m := [(0,.box (.st [.d (eint a0.1),.map 3,.d (eint a0.2.2)])),(1,.box (.ptr 0 0)),(2,.box (.d (eint c2))),(3,.map 0 (mD eint eint a0.2.1))]) ⟨⟨_,rfl,.ptr rfl rfl⟩,wD rfl,wD rfl,⟨_,rfl,.fn .nil (.cons (.ptr rfl rfl) (.cons (.ptr rfl rfl) .nil))⟩,trivial⟩ ⟨.box rfl (.st (.cons (.d rfl) (.cons (.map rfl rfl) (.cons (.d rfl) .nil)))),.box rfl (.ptr rfl rfl),.box rfl (.d rfl),.map rfl rfl,trivial⟩ (qv rfl)) ?_
 have ⟨o0,hj0,h0⟩ := bdS h
 refine cwJ (fun (z : Bool) => St.of [(0,.ptr 0 0),(1,.d (eint a1)),(2,.d (qU a2)),(3,.fn 126 [] [.ptr 1 0,.ptr 2 0]),(20,.d (qU z))] [(0,.own (ql (a0.1,a0.2.1,a0.2.2))),(1,.box (.ptr 0 0)),(2,.box (.d (eint c2)))]) (fun (z : Bool) => o0 = z) ?_ ?_
 ·intro v0 hv0; subst hv0
  rcases cdS h0 with ⟨hc0,h1⟩ | ⟨hc0,h2⟩
  ·refine cwT rfl hc0 ?_
   refine cwS (cwR (
    .c (uA rfl)<|
    .c (uA rfl)<|.nil rfl) ?_)
   have heq := ((sJ h1)).symm
   subst heq
   exact qw ⟨_,(show Leads _ _ (St.of [(8,.d (qU false)),(9,.d (eErr 1))] [(0,.own (ql (a0.1,a0.2.1,a0.2.2))),(1,.box (.ptr 0 0)),(2,.box (.d (eint c2)))]) from .w (wkF ⟨wD rfl,wD rfl,trivial⟩ ⟨.own rfl (.of_eq rfl (qe _)),.box rfl (.ptro rfl rfl),.box rfl (.d rfl),trivial⟩ (qv rfl))),.inr rfl,_,res2 rfl rfl rfl,rfl,rfl⟩
  refine cwF rfl hc0 ?_
  refine cwK ?_
  refine cwL (lOp (o := 0) (y := .st [.d (eint a0.1),.map 4,.d (eint a0.2.2)]) (news := [(4,.map 0 (mD eint eint a0.2.1))]) rfl (.st (.cons (.av rfl) (.cons (.map rfl) (.cons (.av rfl) .nil)))) rfl rfl ⟨rfl,trivial⟩) ?_
  refine cwW (wkF (l := [(0,.ptr 0 0),(1,.d (eint a1)),(2,.d (qU a2)),(3,.fn 126 [] [.ptr 1 0,.ptr 2 0])]) (m := [(0,.box (.st [.d (eint a0.1),.map 4,.d (eint a0.2.2)])),(1,.box (.ptr 0 0)),(2,.box (.d (eint c2))),(4,.map 0 (mD eint eint a0.2.1))]) ⟨⟨_,rfl,.ptr rfl rfl⟩,wD rfl,wD rfl,⟨_,rfl,.fn .nil (.cons (.ptr rfl rfl) (.cons (.ptr rfl rfl) .nil))⟩,trivial⟩ ⟨.box rfl (.st (.cons (.d rfl) (.cons (.map rfl rfl) (.cons (.d rfl) .nil)))),.box rfl (.ptr rfl rfl),.box rfl (.d rfl),.map rfl rfl,trivial⟩ (qv rfl)) ?_
  refine cwS (cwR (
   .c (uM rfl)<|
   .c (uP rfl)<|
   .c (uF rfl qo3 rfl)<|
   .c (uL [1] rfl ta124 rfl)<|
   .c (uM rfl)<|
   .c (q75 (ek := eint) (ev := eint) (m := a0.2.1) a1 0 rfl rfl .no rfl rfl rfl mp124 kl3 ze3 rfl rfl)<|
   .c (uA rfl)<|.nil rfl) ?_)
  refine cwS ?_
  have ⟨o1,hj1,h3⟩ := bdS h2
  refine cwJ (fun (z : Bool) => St.of [(3,.fn 126 [] [.ptr 1 0,.ptr 2 0]),(10,.d (eint ((mget a0.2.1 a1).getD 0))),(31,.d (qU z))] [(0,.own (ql (a0.1,a0.2.1,a0.2.2))),(1,.box (.ptr 0 0)),(2,.box (.d (eint c2)))]) (fun (z : Bool) => o1 = z) ?_ ?_
  ·intro v1 hv1; subst hv1
   rcases cdS h3 with ⟨hc1,h4⟩ | ⟨hc1,h5⟩
   ·refine cwT rfl hc1 ?_
    refine cwS (cwR (
     .c (uA rfl)<|
     .c (uA rfl)<|.nil rfl) ?_)
    have heq := ((sJ h4)).symm
    subst heq
    exact qw ⟨_,(show Leads _ _ (St.of [(8,.d (qU false)),(9,.d (eErr 13))] [(0,.own (ql (a0.1,a0.2.1,a0.2.2))),(1,.box (.ptr 0 0)),(2,.box (.d (eint c2)))]) from .w (wkF ⟨wD rfl,wD rfl,trivial⟩ ⟨.own rfl (.of_eq rfl (qe _)),.box rfl (.ptro rfl rfl),.box rfl (.d rfl),trivial⟩ (qv rfl))),.inr rfl,_,res2 rfl rfl rfl,rfl,rfl⟩
   refine cwF rfl hc1 ?_
   refine cwK ?_
   have ⟨x0,hx0,h6⟩ := bdS (x := qs1 ((mget a0.2.1 a1).getD 0) (a0.1,a0.2.1,a0.2.2) c2) h5
   refine cwS (cwR (
    .c (uM rfl)<|
    .c (uM rfl)<|
    .c (o_callVX (ys := [.d (eint ((mget a0.2.1 a1).getD 0))]) (zs := [.ptr 1 0,.ptr 2 0]) (fun n => bif Nat.beq n 0 then 0 else bif Nat.beq n 1 then 1 else 2) rfl rfl .no rfl rfl Try.func126 rfl rfl (refs_Refs_Inc_1_ok hx0) (.cons rfl .d .nil) (qP2 [] rfl ⟨trivial,(by simp [AV.live,AV.lives,lk,Nat.beq]),(by simp [AV.live,AV.lives,lk,Nat.beq]),trivial⟩ ⟨⟨rfl,(OD.dat_live (qe _))⟩,⟨rfl,(by simp [OB.live,AV.live,lk,Nat.beq])⟩,⟨rfl,trivial⟩,trivial⟩ rfl rfl rfl trivial rfl) (.inl rfl))<|
    .c (uA rfl)<|
    .c (uA rfl)<|.nil rfl) ?_)
   have heq := ((sJ h6)).symm
   subst heq
   exact qw ⟨_,(show Leads _ _ (St.of [(8,.d (qU x0.1)),(9,.d (eErr 0))] [(0,.own (ql x0.2)),(1,.box (.ptr 0 0)),(2,.box (.d (eint c2)))]) from .w (wkF ⟨wD rfl,wD rfl,trivial⟩ ⟨.own rfl (.of_eq rfl (qe _)),.box rfl (.ptro rfl rfl),.box rfl (.d rfl),trivial⟩ (qv rfl))),.inr rfl,_,res2 rfl rfl rfl,rfl,rfl⟩
  rcases cdS hj1 with ⟨hc2,h7⟩ | ⟨hc2,h8⟩
  ·skip
   refine cwR (
    .c (uM rfl)<|
    .c (uM rfl)<|
    .c (o_mv rfl rfl (.yes rfl rfl hc2) rfl)<|
    .c (qj rfl rfl (.yes rfl rfl hc2) rfl rfl (qd0 _ _) rfl)<|
    .c (uPT rfl hc2)<|.nil rfl
   ) ?_
   exact ⟨(decide (((mget a0.2.1 a1).getD 0) = 0)),(sJ h7),.trans (lPk (o := 0) (y := .st [.d (eint a0.1),.map 4,.d (eint a0.2.2)]) (x := ql (a0.1,a0.2.1,a0.2.2)) (l := [(3,.fn 126 [] [.ptr 1 0,.ptr 2 0]),(10,.d (eint ((mget a0.2.1 a1).getD 0))),(31,.d (qU (decide (((mget a0.2.1 a1).getD 0) = 0))))]) (m := [(0,.own (ql (a0.1,a0.2.1,a0.2.2))),(1,.box (.ptr 0 0)),(2,.box (.d (eint c2)))]) rfl (.st (.cons (.av rfl) (.cons (.map rfl) (.cons (.av rfl) .nil)))) rfl rfl ⟨⟨rfl,(by simp [AV.live,AV.lives,lk,Nat.beq])⟩,⟨rfl,trivial⟩,⟨rfl,trivial⟩,trivial⟩ ⟨.inl rfl,(.inr ⟨rfl,(by simp [OB.live,AV.live,AV.lives,lk,Nat.beq])⟩),(.inr ⟨rfl,trivial⟩),trivial⟩ rfl (OD.dat_live (qe _)) ⟨rfl,trivial⟩ (qv rfl)) (.w (wkF ⟨⟨_,rfl,.fn .nil (.cons (.ptr rfl rfl) (.cons (.ptr rfl rfl) .nil))⟩,wD rfl,wD rfl,trivial⟩ ⟨.own rfl (.of_eq rfl (qe _)),.box rfl (.ptro rfl rfl),.box rfl (.d rfl),trivial⟩ (qv rfl)))⟩
  refine cwR (
   .c (uM rfl)<|
   .c (uM rfl)<|
   .c (uN rfl rfl hc2)<|
   .c (uN rfl rfl hc2)<|
   .c (uPF rfl hc2)<|.nil rfl
  ) ?_
  exact ⟨false,(sJ h8),.trans (lPk (o := 0) (y := .st [.d (eint a0.1),.map 4,.d (eint a0.2.2)]) (x := ql (a0.1,a0.2.1,a0.2.2)) (l := [(3,.fn 126 [] [.ptr 1 0,.ptr 2 0]),(10,.d (eint ((mget a0.2.1 a1).getD 0))),(31,.d (qU false))]) (m := [(0,.own (ql (a0.1,a0.2.1,a0.2.2))),(1,.box (.ptr 0 0)),(2,.box (.d (eint c2)))]) rfl (.st (.cons (.av rfl) (.cons (.map rfl) (.cons (.av rfl) .nil)))) rfl rfl ⟨⟨rfl,(by simp [AV.live,AV.lives,lk,Nat.beq])⟩,⟨rfl,trivial⟩,⟨rfl,trivial⟩,trivial⟩ ⟨.inl rfl,(.inr ⟨rfl,(by simp [OB.live,AV.live,AV.lives,lk,Nat.beq])⟩),(.inr ⟨rfl,trivial⟩),trivial⟩ rfl (OD.dat_live (qe _)) ⟨rfl,trivial⟩ (qv rfl)) (.w (wkF ⟨⟨_,rfl,.fn .nil (.cons (.ptr rfl rfl) (.cons (.ptr rfl rfl) .nil))⟩,wD rfl,wD rfl,trivial⟩ ⟨.own rfl (.of_eq rfl (qe _)),.box rfl (.ptro rfl rfl),.box rfl (.d rfl),trivial⟩ (qv rfl)))⟩
 rcases cdS hj0 with ⟨hc3,h9⟩ | ⟨hc3,h10⟩
 ·skip
  refine cwR (
   .c (uM rfl)<|
   .c (uB rfl (qG0 _ _) rfl)<|
   .c (uM rfl)<|
   .c (uN rfl rfl hc3)<|
   .c (uN rfl rfl hc3)<|
   .c (uN rfl rfl hc3)<|
   .c (uN rfl rfl hc3)<|
   .c (uN rfl rfl hc3)<|
   .c (uN rfl rfl hc3)<|
   .c (uPT rfl hc3)<|.nil rfl
  ) ?_
  exact ⟨true,(sJ h9),.trans (lPk (o := 0) (y := .st [.d (eint a0.1),.map 3,.d (eint a0.2.2)]) (x := ql (a0.1,a0.2.1,a0.2.2)) (l := [(0,.ptr 0 0),(1,.d (eint a1)),(2,.d (qU a2)),(3,.fn 126 [] [.ptr 1 0,.ptr 2 0]),(20,.d (qU true))]) (m := [(0,.own (ql (a0.1,a0.2.1,a0.2.2))),(1,.box (.ptr 0 0)),(2,.box (.d (eint c2)))]) rfl (.st (.cons (.av rfl) (.cons (.map rfl) (.cons (.av rfl) .nil)))) rfl rfl ⟨⟨rfl,(by simp [AV.live,AV.lives,lk,Nat.beq])⟩,⟨rfl,trivial⟩,⟨rfl,trivial⟩,⟨rfl,(by simp [AV.live,AV.lives,lk,Nat.beq])⟩,⟨rfl,trivial⟩,trivial⟩ ⟨.inl rfl,(.inr ⟨rfl,(by simp [OB.live,AV.live,AV.lives,lk,Nat.beq])⟩),(.inr ⟨rfl,trivial⟩),trivial⟩ rfl (OD.dat_live (qe _)) ⟨rfl,trivial⟩ (qv rfl)) (.w (wkF ⟨⟨_,rfl,.ptro rfl rfl⟩,wD rfl,wD rfl,⟨_,rfl,.fn .nil (.cons (.ptr rfl rfl) (.cons (.ptr rfl rfl) .nil))⟩,wD rfl,trivial⟩ ⟨.own rfl (.of_eq rfl (qe _)),.box rfl (.ptro rfl rfl),.box rfl (.d rfl),trivial⟩ (qv rfl)))⟩
 refine cwR (
  .c (uM rfl)<|
  .c (uB rfl (qG0 _ _) rfl)<|
  .c (uM rfl)<|
  .c (o_mv rfl rfl (.yes rfl rfl hc3) rfl)<|
  .c (o_mv rfl rfl (.yes rfl rfl hc3) rfl)<|
  .c (qX0 rfl rfl (.yes rfl rfl hc3) rfl)<|
  .c (qn rfl rfl (.yes rfl rfl hc3) rfl fld126_0 (by decide))<|
  .c (qA [0] rfl rfl (.yes rfl rfl hc3) rfl rfl rfl ta3 rfl rfl)<|
  .c (qj rfl rfl (.yes rfl rfl hc3) rfl rfl (b_geq _ _) rfl)<|
  .c (uPF rfl hc3)<|.nil rfl
 ) ?_
 exact ⟨(decide (a1 ≥ a0.1)),(sJ h10),.trans (lPk (o := 0) (y := .st [.d (eint a0.1),.map 3,.d (eint a0.2.2)]) (x := ql (a0.1,a0.2.1,a0.2.2)) (l := [(0,.ptr 0 0),(1,.d (eint a1)),(2,.d (qU a2)),(3,.fn 126 [] [.ptr 1 0,.ptr 2 0]),(20,.d (qU (decide (a1 ≥ a0.1))))]) (m := [(0,.own (ql (a0.1,a0.2.1,a0.2.2))),(1,.box (.ptr 0 0)),(2,.box (.d (eint c2)))]) rfl (.st (.cons (.av rfl) (.cons (.map rfl) (.cons (.av rfl) .nil)))) rfl rfl ⟨⟨rfl,(by simp [AV.live,AV.lives,lk,Nat.beq])⟩,⟨rfl,trivial⟩,⟨rfl,trivial⟩,⟨rfl,(by simp [AV.live,AV.lives,lk,Nat.beq])⟩,⟨rfl,trivial⟩,trivial⟩ ⟨.inl rfl,(.inr ⟨rfl,(by simp [OB.live,AV.live,AV.lives,lk,Nat.beq])⟩),(.inr ⟨rfl,trivial⟩),trivial⟩ rfl (OD.dat_live (qe _)) ⟨rfl,trivial⟩ (qv rfl)) (.w (wkF ⟨⟨_,rfl,.ptro rfl rfl⟩,wD rfl,wD rfl,⟨_,rfl,.fn .nil (.cons (.ptr rfl rfl) (.cons (.ptr rfl rfl) .nil))⟩,wD rfl,trivial⟩ ⟨.own rfl (.of_eq rfl (qe _)),.box rfl (.ptro rfl rfl),.box rfl (.d rfl),trivial⟩ (qv rfl)))⟩
theorem refs_Refs_Dec_ok {a0 : (Int × (List (Int × Int)) × Int)} {a1 : Int} {r : (Bool × Int × (Int × (List (Int × Int)) × Int))} (h : qF1 a0 a1 = some r) : FnOk Try.prog 121 [.ptr 0 0,.d (eint a1)] 1 (lk [(0,.own (ql a0))]) (fun rr oo => rr = .tup [.d (qU r.1),.d (eErr r.2.1)] ∧ oo = lk [(0,.own (ql r.2.2))]) := by
 refine fnO Try.func121 rfl rfl (cwP ?_)
 unfold qF1 at h
 refine cwS (cwR (
  .c (uX 1 rfl)<|
  .c (uX 2 rfl)<|
  .c (uA rfl)<|
  .c (uA rfl)<|.nil rfl) ?_)
 have ⟨x0,hx0,h0⟩ := bdS (x := qH0 a0 a1 true a1) h
 refine cwS (cwR (
  .c (uL [] rfl ta84 rfl)<|
  .c (uL [] rfl ta3 rfl)<|
  .c (o_fn2 rfl rfl .no rfl rfl)<|
  .c (qQ (fun n => bif Nat.beq n 0 then 0 else bif Nat.beq n 1 then 1 else 2) rfl rfl .no Try.func124 rfl rfl (qb4 hx0) (.cons rfl (.p rfl) (.cons rfl .d (.cons rfl .d (.cons rfl (.re rfl) .nil)))) (qP2 [] rfl ⟨(by simp [AV.live,AV.lives,lk,Nat.beq]),trivial,trivial,(by simp [AV.live,AV.lives,lk,Nat.beq]),trivial⟩ ⟨⟨rfl,(OD.dat_live (qe _))⟩,⟨rfl,(by simp [OB.live,AV.live,lk,Nat.beq])⟩,⟨rfl,trivial⟩,trivial⟩ rfl rfl rfl trivial rfl) (.inl rfl))<|
  .c (uE rfl)<|
  .c (uE rfl)<|
  .c (uA rfl)<|
  .c (uA rfl)<|.nil rfl) ?_)
 have heq := ((sJ h0)).symm
 subst heq
 exact qw ⟨_,(show Leads _ _ (St.of [(4,.d (qU x0.1)),(5,.d (eErr x0.2.1))] [(0,.own (ql x0.2.2))]) from .w (wkF ⟨wD rfl,wD rfl,trivial⟩ ⟨.own rfl (.of_eq rfl (qe _)),trivial⟩ (qv rfl))),.inr rfl,_,res2 rfl rfl rfl,rfl,rfl⟩
theorem refs_Refs_Inc_ok {a0 : (Int × (List (Int × Int)) × Int)} {a1 : Int} {r : (Int × (Int × (List (Int × Int)) × Int))} (h : qb2 a0 a1 = some r) : FnOk Try.prog 122 [.ptr 0 0,.d (eint a1)] 1 (lk [(0,.own (ql a0))]) (fun rr oo => rr = .d (eErr r.1) ∧ oo = lk [(0,.own (ql r.2))]) := by
 refine fnO Try.func122 rfl rfl (cwP ?_)
 unfold qb2 at h
 refine cwS (cwR (
  .c (uX 1 rfl)<|
  .c (uX 2 rfl)<|
  .c (uA rfl)<|.nil rfl) ?_)
 have ⟨x0,hx0,h0⟩ := bdS (x := q51 a0 a1 true a1) h
 refine cwS (cwR (
  .c (uL [] rfl ta84 rfl)<|
  .c (uL [] rfl ta3 rfl)<|
  .c (o_fn2 rfl rfl .no rfl rfl)<|
  .c (qQ (fun n => bif Nat.beq n 0 then 0 else bif Nat.beq n 1 then 1 else 2) rfl rfl .no Try.func124 rfl rfl (qg4 hx0) (.cons rfl (.p rfl) (.cons rfl .d (.cons rfl .d (.cons rfl (.re rfl) .nil)))) (qP2 [] rfl ⟨(by simp [AV.live,AV.lives,lk,Nat.beq]),trivial,trivial,(by simp [AV.live,AV.lives,lk,Nat.beq]),trivial⟩ ⟨⟨rfl,(OD.dat_live (qe _))⟩,⟨rfl,(by simp [OB.live,AV.live,lk,Nat.beq])⟩,⟨rfl,trivial⟩,trivial⟩ rfl rfl rfl trivial rfl) (.inl rfl))<|
  .c (uM rfl)<|
  .c (uE rfl)<|
  .c (uE rfl)<|
  .c (uA rfl)<|
  .c (uA rfl)<|.nil rfl) ?_)
 refine cwS (cwR (
  .c (uM rfl)<|
  .c (uA rfl)<|.nil rfl) ?_)
 have heq := ((sJ h0)).symm
 subst heq
 exact qw ⟨_,(show Leads _ _ (St.of [(4,.d (eErr x0.2.1))] [(0,.own (ql x0.2.2))]) from .w (wkF ⟨wD rfl,trivial⟩ ⟨.own rfl (.of_eq rfl (qe _)),trivial⟩ (qv rfl))),.inr rfl,_,res1 rfl rfl,rfl,rfl⟩
theorem q13 {a0 : ttM} {a1 : Int} {r : (Int × ttM)} (h : qt0 a0 a1 = some r) : FnOk Try.prog 119 [.ptr 0 0,.d (eint a1)] 1 (lk [(0,.own (qc a0))]) (fun rr oo => rr = .d (eErr r.1) ∧ oo = lk [(0,.own (qc r.2))]) := by
 refine fnO Try.func119 rfl rfl (cwP ?_)
 unfold qt0 at h
 refine cwS (cwR (
  .c (uA rfl)<|.nil rfl) ?_)
 refine cwS ?_
 refine cwL (lOp (o := 0) (y := .st [.ptr 1 0,.map 2]) (news := [(1,.own (ql a0.1)),(2,.map 0 (mD eint qm a0.2))]) rfl (.st (.cons (.box rfl) (.cons (.map rfl) .nil))) rfl rfl ⟨rfl,rfl,trivial⟩) ?_
 refine cwW (wkF (l := [(0,.ptr 0 0),(1,.d (eint a1))]) (m := [(0,.box (.st [.ptr 1 0,.map 2])),(1,.own (ql a0.1)),(2,.map 0 (mD eint qm a0.2))]) ⟨⟨_,rfl,.ptr rfl rfl⟩,wD rfl,trivial⟩ ⟨.box rfl (.st (.cons (.ptro rfl rfl) (.cons (.map rfl rfl) .nil))),.own rfl (.of_eq rfl (qe _)),.map rfl rfl,trivial⟩ (qv rfl)) ?_
 have ⟨x0,hx0,h0⟩ := bdS (x := qb2 a0.1 a1) h
 refine cwS (cwR (
  .c (uM rfl)<|
  .c (uP rfl)<|
  .c (uF rfl fld88_0 rfl)<|
  .c (uL [0] rfl ta84 rfl)<|
  .c (uM rfl)<|
  .c (qQ (fun _ => 1) rfl rfl .no Try.func122 rfl rfl (refs_Refs_Inc_ok hx0) (.cons rfl (.p rfl) (.cons rfl .d .nil)) (q40 rfl ⟨(by simp [AV.live,lk,Nat.beq]),trivial,trivial⟩ rfl (OD.dat_live (qe _)) (by simp)) (.inl rfl))<|
  .c (uB rfl (qd3 _ _) rfl)<|.nil rfl) ?_)
 rcases cdS h0 with ⟨hc0,h1⟩ | ⟨hc0,h2⟩
 ·refine cwT rfl hc0 ?_
  refine cwS (cwR (
   .c (uA rfl)<|.nil rfl) ?_)
  have heq := ((sJ h1)).symm
  subst heq
  exact qw ⟨_,(show Leads _ _ (St.of [(4,.d (eErr 1))] [(0,.own (qc (x0.2,a0.2)))]) from .trans (lPk (o := 0) (y := .st [.ptr 1 0,.map 2]) (x := qc (x0.2,a0.2)) (l := [(4,.d (eint 1))]) (m := [(0,.own (qc (x0.2,a0.2)))]) rfl (.st (.cons (.box rfl) (.cons (.map rfl) .nil))) rfl rfl ⟨⟨rfl,trivial⟩,trivial⟩ ⟨.inl rfl,trivial⟩ rfl (OD.dat_live (q9 _)) ⟨rfl,rfl,trivial⟩ (qv rfl)) (.w (wkF ⟨wD rfl,trivial⟩ ⟨.own rfl (.of_eq rfl (q9 _)),trivial⟩ (qv rfl)))),.inr rfl,_,res1 rfl rfl,rfl,rfl⟩
 refine cwF rfl hc0 ?_
 refine cwK ?_
 refine cwS (cwR (
  .c (uA rfl)<|.nil rfl) ?_)
 have heq := ((sJ h2)).symm
 subst heq
 exact qw ⟨_,(show Leads _ _ (St.of [(4,.d (eErr 0))] [(0,.own (qc (x0.2,a0.2)))]) from .trans (lPk (o := 0) (y := .st [.ptr 1 0,.map 2]) (x := qc (x0.2,a0.2)) (l := [(4,.d (eint 0))]) (m := [(0,.own (qc (x0.2,a0.2)))]) rfl (.st (.cons (.box rfl) (.cons (.map rfl) .nil))) rfl rfl ⟨⟨rfl,trivial⟩,trivial⟩ ⟨.inl rfl,trivial⟩ rfl (OD.dat_live (q9 _)) ⟨rfl,rfl,trivial⟩ (qv rfl)) (.w (wkF ⟨wD rfl,trivial⟩ ⟨.own rfl (.of_eq rfl (q9 _)),trivial⟩ (qv rfl)))),.inr rfl,_,res1 rfl rfl,rfl,rfl⟩
theorem tree_Memory_Dec_ok {a0 : ttM} {a1 : Int} {r : (Bool × Int × ttM)} (h : qA0 a0 a1 = some r) : FnOk Try.prog 118 [.ptr 0 0,.d (eint a1)] 1 (lk [(0,.own (qc a0))]) (fun rr oo => rr = .tup [.d (qU r.1),.d (eErr r.2.1)] ∧ oo = lk [(0,.own (qc r.2.2))]) := by
 refine fnO Try.func118 rfl rfl (cwP ?_)
 unfold qA0 at h
 refine cwS (cwR (
  .c (uA rfl)<|
  .c (uA rfl)<|.nil rfl) ?_)
 refine cwL (lOp (o := 0) (y := .st [.ptr 1 0,.map 2]) (news := [(1,.own (ql a0.1)),(2,.map 0 (mD eint qm a0.2))]) rfl (.st (.cons (.box rfl) (.cons (.map rfl) .nil))) rfl rfl ⟨rfl,rfl,trivial⟩) ?_
 refine cwW (wkF (l := [(0,.ptr 0 0),(1,.d (eint a1))]) (m := [(0,.box (.st [.ptr 1 0,.map 2])),(1,.own (ql a0.1)),(2,.map 0 (mD eint qm a0.2))]) ⟨⟨_,rfl,.ptr rfl rfl⟩,wD rfl,trivial⟩ ⟨.box rfl (.st (.cons (.ptro rfl rfl) (.cons (.map rfl rfl) .nil))),.own rfl (.of_eq rfl (qe _)),.map rfl rfl,trivial⟩ (qv rfl)) ?_
 have ⟨x0,hx0,h0⟩ := bdS (x := qF1 a0.1 a1) h
 refine cwS (cwR (
  .c (uM rfl)<|
  .c (uP rfl)<|
  .c (uF rfl fld88_0 rfl)<|
  .c (uL [0] rfl ta84 rfl)<|
  .c (uM rfl)<|
  .c (qQ (fun _ => 1) rfl rfl .no Try.func121 rfl rfl (refs_Refs_Dec_ok hx0) (.cons rfl (.p rfl) (.cons rfl .d .nil)) (q40 rfl ⟨(by simp [AV.live,lk,Nat.beq]),trivial,trivial⟩ rfl (OD.dat_live (qe _)) (by simp)) (.inl rfl))<|
  .c (uM rfl)<|
  .c (uE rfl)<|
  .c (uE rfl)<|
  .c (uA rfl)<|
  .c (uA rfl)<|.nil rfl) ?_)
 refine cwS ?_
 refine cwS (cwR (
  .c (uM rfl)<|
  .c (uB rfl (qd3 _ _) rfl)<|.nil rfl) ?_)
 rcases cdS h0 with ⟨hc0,h1⟩ | ⟨hc0,h2⟩
 ·refine cwT rfl hc0 ?_
  refine cwS (cwR (
   .c (uA rfl)<|
   .c (uA rfl)<|.nil rfl) ?_)
  have heq := ((sJ h1)).symm
  subst heq
  exact qw ⟨_,(show Leads _ _ (St.of [(4,.d (qU false)),(5,.d (eErr 1))] [(0,.own (qc (x0.2.2,a0.2)))]) from .trans (lPk (o := 0) (y := .st [.ptr 1 0,.map 2]) (x := qc (x0.2.2,a0.2)) (l := [(4,.d (qU false)),(5,.d (eint 1))]) (m := [(0,.own (qc (x0.2.2,a0.2)))]) rfl (.st (.cons (.box rfl) (.cons (.map rfl) .nil))) rfl rfl ⟨⟨rfl,trivial⟩,⟨rfl,trivial⟩,trivial⟩ ⟨.inl rfl,trivial⟩ rfl (OD.dat_live (q9 _)) ⟨rfl,rfl,trivial⟩ (qv rfl)) (.w (wkF ⟨wD rfl,wD rfl,trivial⟩ ⟨.own rfl (.of_eq rfl (q9 _)),trivial⟩ (qv rfl)))),.inr rfl,_,res2 rfl rfl rfl,rfl,rfl⟩
 refine cwF rfl hc0 ?_
 refine cwK ?_
 have ⟨o0,hj0,h3⟩ := bdS h2
 refine cwJ (fun (z : ttM) => St.of [(6,.d (qU x0.1))] [(0,.own (qc z))]) (fun (z : ttM) => o0 = z) ?_ ?_
 ·intro v0 hv0; subst hv0
  refine cwS (cwR (
   .c (uM rfl)<|
   .c (uA rfl)<|
   .c (uA rfl)<|.nil rfl) ?_)
  have heq := ((sJ h3)).symm
  subst heq
  exact qw ⟨_,(show Leads _ _ (St.of [(4,.d (qU x0.1)),(5,.d (eErr 0))] [(0,.own (qc o0))]) from .w (wkF ⟨wD rfl,wD rfl,trivial⟩ ⟨.own rfl (.of_eq rfl (q9 _)),trivial⟩ (qv rfl))),.inr rfl,_,res2 rfl rfl rfl,rfl,rfl⟩
 refine cwS (cwR (
  .c (uM rfl)<|.nil rfl) ?_)
 rcases cdS hj0 with ⟨hc1,h4⟩ | ⟨hc1,h5⟩
 ·refine cwT rfl hc1 ?_
  refine cwR (
   .c (uM rfl)<|
   .c (uP rfl)<|
   .c (uF rfl fld88_1 rfl)<|
   .c (uL [1] rfl ta86 rfl)<|
   .c (uM rfl)<|
   .c (o_mapdel (ek := eint) (ev := qm) (m := a0.2) a1 rfl .no rfl rfl rfl mp86 kl3 rfl)<|.nil rfl
  ) ?_
  exact ⟨(x0.2.2,(mdel a0.2 a1)),(sJ h4),.trans (lPk (o := 0) (y := .st [.ptr 1 0,.map 2]) (x := qc (x0.2.2,(mdel a0.2 a1))) (l := [(6,.d (qU x0.1))]) (m := [(0,.own (qc (x0.2.2,(mdel a0.2 a1))))]) rfl (.st (.cons (.box rfl) (.cons (.map rfl) .nil))) rfl rfl ⟨⟨rfl,trivial⟩,trivial⟩ ⟨.inl rfl,trivial⟩ rfl (OD.dat_live (q9 _)) ⟨rfl,rfl,trivial⟩ (qv rfl)) (.w (wkF ⟨wD rfl,trivial⟩ ⟨.own rfl (.of_eq rfl (q9 _)),trivial⟩ (qv rfl)))⟩
 refine cwF rfl hc1 ?_
 refine cwK ?_
 exact ⟨(x0.2.2,a0.2),(sJ h5),.trans (lPk (o := 0) (y := .st [.ptr 1 0,.map 2]) (x := qc (x0.2.2,a0.2)) (l := [(6,.d (qU x0.1))]) (m := [(0,.own (qc (x0.2.2,a0.2)))]) rfl (.st (.cons (.box rfl) (.cons (.map rfl) .nil))) rfl rfl ⟨⟨rfl,trivial⟩,trivial⟩ ⟨.inl rfl,trivial⟩ rfl (OD.dat_live (q9 _)) ⟨rfl,rfl,trivial⟩ (qv rfl)) (.w (wkF ⟨wD rfl,trivial⟩ ⟨.own rfl (.of_eq rfl (q9 _)),trivial⟩ (qv rfl)))⟩
end
end Go.Val
