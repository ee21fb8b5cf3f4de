/- Walks of the program's functions,printed. -/
import Derived.Test.YtfbnhflapgddbaaWa
import Derived.Test.YtfbnhflapgddbaaLe
set_option linter.all false
set_option maxRecDepth 100000
namespace Go.Val
open Go.RowKit Go.Proofs
section
variable [NoDrw]
noncomputable def qY0 (a0 : Int) (b0 : (Int × (List (Int × Int)) × Int)) (c2 : Int) : Option (Bool × (Int × (List (Int × Int)) × Int)) := cond (decide (a0 > 1)) (some (false,(b0.1,(mset b0.2.1 c2 (IntKind.wrap .i64 (a0 - 1))),b0.2.2))) (some (true,(b0.1,(mdel b0.2.1 c2),(min b0.2.2 c2))))
noncomputable def qE1 (a0 : Int) (b0 : (Int × (List (Int × Int)) × Int)) (c2 : Int) : Option (Bool × (Int × (List (Int × Int)) × Int)) := some (true,(b0.1,(mset b0.2.1 c2 (IntKind.wrap .i64 (a0 + 1))),b0.2.2))
noncomputable def qD0 (a0 : (Int × (List (Int × Int)) × Int)) (a1 : Int) (a2 : Bool) (c2 : Int) : Option (Bool × Int × (Int × (List (Int × Int)) × Int)) := (((cond (decide (a1 < 2)) (some true) (some (decide (a1 ≥ a0.1)))) : Option Bool)).bind fun o0 => cond o0 (some (false,1,(a0.1,a0.2.1,a0.2.2))) ((((cond a2 (some (decide (((mget a0.2.1 a1).getD 0) = 0))) (some false)
  ) : Option Bool)).bind fun o1 => cond o1 (some (false,13,(a0.1,a0.2.1,a0.2.2))) ((qY0 ((mget a0.2.1 a1).getD 0) (a0.1,a0.2.1,a0.2.2) c2).bind fun x0 => some (x0.1,0,x0.2)))
noncomputable def qQ0 (a0 : (Int × (List (Int × Int)) × Int)) (a1 : Int) (a2 : Bool) (c2 : Int) : Option (Bool × Int × (Int × (List (Int × Int)) × Int)) := (((cond (decide (a1 < 2)) (some true) (some (decide (a1 ≥ a0.1)))) : Option Bool)).bind fun o0 => cond o0 (some (false,1,(a0.1,a0.2.1,a0.2.2))) ((((cond a2 (some (decide (((mget a0.2.1 a1).getD 0) = 0))) (some false)
  ) : Option Bool)).bind fun o1 => cond o1 (some (false,13,(a0.1,a0.2.1,a0.2.2))) ((qE1 ((mget a0.2.1 a1).getD 0) (a0.1,a0.2.1,a0.2.2) c2).bind fun x0 => some (x0.1,0,x0.2)))
noncomputable def qt1 (a0 : (Int × (List (Int × Int)) × Int)) (a1 : Int) : Option (Bool × Int × (Int × (List (Int × Int)) × Int)) := (qD0 a0 a1 true a1).bind fun x0 => some (x0.1,x0.2.1,x0.2.2)
noncomputable def qN1 (a0 : (Int × (List (Int × Int)) × Int)) (a1 : Int) : Option (Int × (Int × (List (Int × Int)) × Int)) := (qQ0 a0 a1 true a1).bind fun x0 => some (x0.2.1,x0.2.2)
noncomputable def q30 (a0 : ttM) (a1 : Int) : Option (Int × ttM) := (qN1 a0.1 a1).bind fun x0 => cond (decide (x0.1 ≠ 0)) (some (1,(x0.2,a0.2))) (some (0,(x0.2,a0.2)))
noncomputable def q80 (a0 : ttM) (a1 : Int) : Option (Bool × Int × ttM) := (qt1 a0.1 a1).bind fun x0 => cond (decide (x0.2.1 ≠ 0)) (some (false,1,(x0.2.2,a0.2))) ((((cond x0.1 (some (x0.2.2,(mdel a0.2 a1))) (some (x0.2.2,a0.2))) : Option ttM)).bind fun o0 => some (x0.1,0,o0))
theorem refs_Refs_Dec_1_ok {a0} {b0} {c2} {r} (h : qY0 a0 b0 c2 = some r) : FnOk Try.prog 125 [.d (eint a0),.ptr 1 0,.ptr 2 0] 3 (lk [(0,.own (qp b0)),(1,.box (.ptr 0 0)),(2,.box (.d (eint c2)))]) (fun rr oo => rr = .d (qW r.1) ∧ oo = lk [(0,.own (qp r.2)),(1,.box (.ptr 0 0)),(2,.box (.d (eint c2)))]) := by
 refine fnO Try.func125 rfl rfl (cwP ?_)
 unfold qY0 at h
 refine cSR (.A rfl<|.nil rfl) ?_
 refine cwS (cSR (.M rfl<|.B rfl (qT3 _ _) rfl<|.nil rfl) ?_)
 refine cwC h rfl ?_ ?_
 ·intro hc0 h0
  refine cwL (lOp (o := 0) (y := .st [.d (eint b0.1),.map 3,.d (eint b0.2.2)]) (news := [(3,.map 0 (mD eint eint b0.2.1))]) rfl (.st (.cons (.av rfl) (.cons (.map rfl) (.cons (.av rfl) .nil)))) rfl rfl ⟨rfl,tV⟩) ?_
  refine cwW (wA0 (l := [(0,.d (eint a0)),(1,.ptr 1 0),(2,.ptr 2 0)]) (m := [(0,.box (.st [.d (eint b0.1),.map 3,.d (eint b0.2.2)])),(1,.box (.ptr 0 0)),(2,.box (.d (eint c2))),(3,.map 0 (mD eint eint b0.2.1))]) rfl) ?_
  refine cwS (cwRA mixed (by kernel_rfl) (.L [] rfl ta84 rfl<|.K rfl<|.F rfl qX3 rfl<|.L [1] rfl ta124 rfl<|.L [] rfl ta3 rfl<|.M rfl<|.B rfl (qS3 _ _) rfl<|.c (o_mapset (ek := eint) (ev := eint) (m := b0.2.1) c2 (IntKind.wrap .i64 (a0 - 1)) rfl .no rfl rfl rfl rfl mp124 kl3 rfl)<|.nil rfl) (by kernel_rfl) ?_)
  refine cSR (.A rfl<|.nil rfl) ?_
  obtain rfl := zQ h0
  exact qv ⟨_,(show Leads _ _ (St.of [(4,.d (qW false))] [(0,.own (qp (b0.1,(mset b0.2.1 c2 (IntKind.wrap .i64 (a0 - 1))),b0.2.2))),(1,.box (.ptr 0 0)),(2,.box (.d (eint c2)))]) from .trans (lPk (o := 0) (y := .st [.d (eint b0.1),.map 3,.d (eint b0.2.2)]) (x := qp (b0.1,(mset b0.2.1 c2 (IntKind.wrap .i64 (a0 - 1))),b0.2.2)) (l := [(4,.d (qW false))]) (m := [(0,.own (qp (b0.1,(mset b0.2.1 c2 (IntKind.wrap .i64 (a0 - 1))),b0.2.2))),(1,.box (.ptr 0 0)),(2,.box (.d (eint c2)))]) rfl (.st (.cons (.av rfl) (.cons (.map rfl) (.cons (.av rfl) .nil)))) rfl rfl ⟨⟨rfl,tV⟩,tV⟩ ⟨.inl rfl,(.inr ⟨rfl,(by simp [OB.live,AV.live,AV.lives,lk,Nat.beq])⟩),(.inr ⟨rfl,tV⟩),tV⟩ rfl (OD.dat_live (ql _)) ⟨rfl,tV⟩ (qq rfl)) (wA1 rfl)),.inr rfl,_,res1 rfl rfl,rfl,rfl⟩
 intro hc0 h1
 refine cwK (cwL (lOp (o := 0) (y := .st [.d (eint b0.1),.map 4,.d (eint b0.2.2)]) (news := [(4,.map 0 (mD eint eint b0.2.1))]) rfl (.st (.cons (.av rfl) (.cons (.map rfl) (.cons (.av rfl) .nil)))) rfl rfl ⟨rfl,tV⟩) ?_)
 refine cwW (wA0 (l := [(1,.ptr 1 0),(2,.ptr 2 0)]) (m := [(0,.box (.st [.d (eint b0.1),.map 4,.d (eint b0.2.2)])),(1,.box (.ptr 0 0)),(2,.box (.d (eint c2))),(4,.map 0 (mD eint eint b0.2.1))]) rfl) ?_
 refine cwS (cwRA mixed (by kernel_rfl) (.L [] rfl ta84 rfl<|.K rfl<|.F rfl qX3 rfl<|.L [1] rfl ta124 rfl<|.L [] rfl ta3 rfl<|.c (o_mapdel (ek := eint) (ev := eint) (m := b0.2.1) c2 rfl .no rfl rfl rfl mp124 kl3 rfl)<|.nil rfl) (by kernel_rfl) ?_)
 refine cwS (cwRA mixed (by kernel_rfl) (.L [] rfl ta84 rfl<|.L [] rfl ta84 rfl<|.K rfl<|.F rfl qq4 rfl<|.L [2] rfl ta3 rfl<|.L [] rfl ta3 rfl<|.c (o_min rfl rfl .no rfl rfl)<|.K rfl<|.F rfl qq4 rfl<|.S [2] rfl sz3 rfl<|.nil rfl) (by kernel_rfl) ?_)
 refine cSR (.A rfl<|.nil rfl) ?_
 obtain rfl := zQ h1
 exact qv ⟨_,(show Leads _ _ (St.of [(4,.d (qW true))] [(0,.own (qp (b0.1,(mdel b0.2.1 c2),(min b0.2.2 c2)))),(1,.box (.ptr 0 0)),(2,.box (.d (eint c2)))]) from .trans (lPk (o := 0) (y := .st [.d (eint b0.1),.map 4,.d (eint (min b0.2.2 c2))]) (x := qp (b0.1,(mdel b0.2.1 c2),(min b0.2.2 c2))) (l := [(4,.d (qW true))]) (m := [(0,.own (qp (b0.1,(mdel b0.2.1 c2),(min b0.2.2 c2)))),(1,.box (.ptr 0 0)),(2,.box (.d (eint c2)))]) rfl (.st (.cons (.av rfl) (.cons (.map rfl) (.cons (.av rfl) .nil)))) rfl rfl ⟨⟨rfl,tV⟩,tV⟩ ⟨.inl rfl,(.inr ⟨rfl,(by simp [OB.live,AV.live,AV.lives,lk,Nat.beq])⟩),(.inr ⟨rfl,tV⟩),tV⟩ rfl (OD.dat_live (ql _)) ⟨rfl,tV⟩ (qq rfl)) (wA1 rfl)),.inr rfl,_,res1 rfl rfl,rfl,rfl⟩
theorem refs_Refs_Inc_1_ok {a0} {b0} {c2} {r} (h : qE1 a0 b0 c2 = some r) : FnOk Try.prog 126 [.d (eint a0),.ptr 1 0,.ptr 2 0] 3 (lk [(0,.own (qp b0)),(1,.box (.ptr 0 0)),(2,.box (.d (eint c2)))]) (fun rr oo => rr = .d (qW r.1) ∧ oo = lk [(0,.own (qp r.2)),(1,.box (.ptr 0 0)),(2,.box (.d (eint c2)))]) := by
 refine fnO Try.func126 rfl rfl (cwP ?_)
 unfold qE1 at h
 refine cSR (.A rfl<|.nil rfl) ?_
 refine cwL (lOp (o := 0) (y := .st [.d (eint b0.1),.map 3,.d (eint b0.2.2)]) (news := [(3,.map 0 (mD eint eint b0.2.1))]) rfl (.st (.cons (.av rfl) (.cons (.map rfl) (.cons (.av rfl) .nil)))) rfl rfl ⟨rfl,tV⟩) ?_
 refine cwW (wA0 (l := [(0,.d (eint a0)),(1,.ptr 1 0),(2,.ptr 2 0)]) (m := [(0,.box (.st [.d (eint b0.1),.map 3,.d (eint b0.2.2)])),(1,.box (.ptr 0 0)),(2,.box (.d (eint c2))),(3,.map 0 (mD eint eint b0.2.1))]) rfl) ?_
 refine cwS (cwRA mixed (by kernel_rfl) (.L [] rfl ta84 rfl<|.K rfl<|.F rfl qX3 rfl<|.L [1] rfl ta124 rfl<|.L [] rfl ta3 rfl<|.M rfl<|.B rfl (qR0 _ _) rfl<|.c (o_mapset (ek := eint) (ev := eint) (m := b0.2.1) c2 (IntKind.wrap .i64 (a0 + 1)) rfl .no rfl rfl rfl rfl mp124 kl3 rfl)<|.nil rfl) (by kernel_rfl) ?_)
 refine cSR (.A rfl<|.nil rfl) ?_
 obtain rfl := zQ h
 exact qv ⟨_,(show Leads _ _ (St.of [(4,.d (qW true))] [(0,.own (qp (b0.1,(mset b0.2.1 c2 (IntKind.wrap .i64 (a0 + 1))),b0.2.2))),(1,.box (.ptr 0 0)),(2,.box (.d (eint c2)))]) from .trans (lPk (o := 0) (y := .st [.d (eint b0.1),.map 3,.d (eint b0.2.2)]) (x := qp (b0.1,(mset b0.2.1 c2 (IntKind.wrap .i64 (a0 + 1))),b0.2.2)) (l := [(4,.d (qW true))]) (m := [(0,.own (qp (b0.1,(mset b0.2.1 c2 (IntKind.wrap .i64 (a0 + 1))),b0.2.2))),(1,.box (.ptr 0 0)),(2,.box (.d (eint c2)))]) rfl (.st (.cons (.av rfl) (.cons (.map rfl) (.cons (.av rfl) .nil)))) rfl rfl ⟨⟨rfl,tV⟩,tV⟩ ⟨.inl rfl,(.inr ⟨rfl,(by simp [OB.live,AV.live,AV.lives,lk,Nat.beq])⟩),(.inr ⟨rfl,tV⟩),tV⟩ rfl (OD.dat_live (ql _)) ⟨rfl,tV⟩ (qq rfl)) (wA1 rfl)),.inr rfl,_,res1 rfl rfl,rfl,rfl⟩
theorem qa5 {a0} {a1} {a2} {c2} {r} (h : qD0 a0 a1 a2 c2 = some r) : FnOk Try.prog 124 [.ptr 0 0,.d (eint a1),.d (qW a2),.fn 125 [] [.ptr 1 0,.ptr 2 0]] 3 (lk [(0,.own (qp a0)),(1,.box (.ptr 0 0)),(2,.box (.d (eint c2)))]) (fun rr oo => rr = .tup [.d (qW r.1),.d (eErr r.2.1)] ∧ oo = lk [(0,.own (qp r.2.2)),(1,.box (.ptr 0 0)),(2,.box (.d (eint c2)))]) := by
 refine fnO Try.func124 rfl rfl (cwP ?_)
 unfold qD0 at h
 refine cSR (.A rfl<|.A rfl<|.nil rfl) ?_
 refine cwS (cwL (lOp (o := 0) (y := .st [.d (eint a0.1),.map 3,.d (eint a0.2.2)]) (news := [(3,.map 0 (mD eint eint a0.2.1))]) rfl (.st (.cons (.av rfl) (.cons (.map rfl) (.cons (.av rfl) .nil)))) rfl rfl ⟨rfl,tV⟩) ?_)
 refine cwW (wA0 (l := [(0,.ptr 0 0),(1,.d (eint a1)),(2,.d (qW a2)),(3,.fn 125 [] [.ptr 1 0,.ptr 2 0])]) (m := [(0,.box (.st [.d (eint a0.1),.map 3,.d (eint a0.2.2)])),(1,.box (.ptr 0 0)),(2,.box (.d (eint c2))),(3,.map 0 (mD eint eint a0.2.1))]) rfl) ?_
 have ⟨o0,hj0,h0⟩ := bdS h
 refine cwJ (fun (z : Bool) => St.of [(0,.ptr 0 0),(1,.d (eint a1)),(2,.d (qW a2)),(3,.fn 125 [] [.ptr 1 0,.ptr 2 0]),(20,.d (qW z))] [(0,.own (qp (a0.1,a0.2.1,a0.2.2))),(1,.box (.ptr 0 0)),(2,.box (.d (eint c2)))]) (fun z => o0 = z) ?_ ?_
 ·intro v0 hv0; subst hv0
  refine cwC h0 rfl ?_ ?_
  ·intro hc0 h1
   refine cSR (.A rfl<|.A rfl<|.nil rfl) ?_
   obtain rfl := zQ h1
   exact rt2 rfl rfl rfl rfl
  intro hc0 h2
  refine cwK (cwL (lOp (o := 0) (y := .st [.d (eint a0.1),.map 4,.d (eint a0.2.2)]) (news := [(4,.map 0 (mD eint eint a0.2.1))]) rfl (.st (.cons (.av rfl) (.cons (.map rfl) (.cons (.av rfl) .nil)))) rfl rfl ⟨rfl,tV⟩) ?_)
  refine cwW (wA0 (l := [(0,.ptr 0 0),(1,.d (eint a1)),(2,.d (qW a2)),(3,.fn 125 [] [.ptr 1 0,.ptr 2 0])]) (m := [(0,.box (.st [.d (eint a0.1),.map 4,.d (eint a0.2.2)])),(1,.box (.ptr 0 0)),(2,.box (.d (eint c2))),(4,.map 0 (mD eint eint a0.2.1))]) rfl) ?_
  refine cSR (.M rfl<|.K rfl<|.F rfl qX3 rfl<|.L [1] rfl ta124 rfl<|.M rfl<|.c (qL5 (ek := eint) (ev := eint) (m := a0.2.1) a1 0 rfl rfl .no rfl rfl rfl mp124 kl3 ze3 rfl rfl)<|.A rfl<|.nil rfl) ?_
  refine cwS ?_
  have ⟨o1,hj1,h3⟩ := bdS h2
  refine cwJ (fun (z : Bool) => St.of [(3,.fn 125 [] [.ptr 1 0,.ptr 2 0]),(10,.d (eint ((mget a0.2.1 a1).getD 0))),(31,.d (qW z))] [(0,.own (qp (a0.1,a0.2.1,a0.2.2))),(1,.box (.ptr 0 0)),(2,.box (.d (eint c2)))]) (fun z => o1 = z) ?_ ?_
  ·intro v1 hv1; subst hv1
   refine cwC h3 rfl ?_ ?_
   ·intro hc1 h4
    refine cSR (.A rfl<|.A rfl<|.nil rfl) ?_
    obtain rfl := zQ h4
    exact rt2 rfl rfl rfl rfl
   intro hc1 h5
   refine cwK ?_
   have ⟨x0,hx0,h6⟩ := bdS h5
   refine cSR (.M rfl<|.M rfl<|.c (o_callVX (ys := [.d (eint ((mget a0.2.1 a1).getD 0))]) (zs := [.ptr 1 0,.ptr 2 0]) (fun n => bif Nat.beq n 0 then 0 else bif Nat.beq n 1 then 1 else 2) rfl rfl .no rfl rfl Try.func125 rfl rfl (refs_Refs_Dec_1_ok hx0) (.cons rfl .d .nil) (ql1 [] rfl ⟨tV,(by simp [AV.live,AV.lives,lk,Nat.beq]),(by simp [AV.live,AV.lives,lk,Nat.beq]),tV⟩ ⟨⟨rfl,(OD.dat_live (ql _))⟩,⟨rfl,(by simp [OB.live,AV.live,lk,Nat.beq])⟩,⟨rfl,tV⟩,tV⟩ rfl rfl rfl trivial rfl) (.inl rfl))<|.A rfl<|.A rfl<|.nil rfl) ?_
   obtain rfl := zQ h6
   exact rt2 rfl rfl rfl rfl
  rcases cdS hj1 with ⟨hc2,h7⟩ | ⟨hc2,h8⟩
  ·skip
   refine cwR (.M rfl<|.M rfl<|.c (o_mv rfl rfl (.yes rfl rfl hc2) rfl)<|.c (qn rfl rfl (.yes rfl rfl hc2) rfl rfl (qh0 _ _) rfl)<|.I rfl hc2<|.nil rfl) ?_
   exact ⟨(decide (((mget a0.2.1 a1).getD 0) = 0)),(sJ h7),.trans (lPk (o := 0) (y := .st [.d (eint a0.1),.map 4,.d (eint a0.2.2)]) (x := qp (a0.1,a0.2.1,a0.2.2)) (l := [(3,.fn 125 [] [.ptr 1 0,.ptr 2 0]),(10,.d (eint ((mget a0.2.1 a1).getD 0))),(31,.d (qW (decide (((mget a0.2.1 a1).getD 0) = 0))))]) (m := [(0,.own (qp (a0.1,a0.2.1,a0.2.2))),(1,.box (.ptr 0 0)),(2,.box (.d (eint c2)))]) rfl (.st (.cons (.av rfl) (.cons (.map rfl) (.cons (.av rfl) .nil)))) rfl rfl ⟨⟨rfl,(by simp [AV.live,AV.lives,lk,Nat.beq])⟩,⟨rfl,tV⟩,⟨rfl,tV⟩,tV⟩ ⟨.inl rfl,(.inr ⟨rfl,(by simp [OB.live,AV.live,AV.lives,lk,Nat.beq])⟩),(.inr ⟨rfl,tV⟩),tV⟩ rfl (OD.dat_live (ql _)) ⟨rfl,tV⟩ (qq rfl)) (wA1 rfl)⟩
  refine cwR (.M rfl<|.M rfl<|.G rfl rfl hc2<|.G rfl rfl hc2<|.J rfl hc2<|.nil rfl) ?_
  exact ⟨false,(sJ h8),.trans (lPk (o := 0) (y := .st [.d (eint a0.1),.map 4,.d (eint a0.2.2)]) (x := qp (a0.1,a0.2.1,a0.2.2)) (l := [(3,.fn 125 [] [.ptr 1 0,.ptr 2 0]),(10,.d (eint ((mget a0.2.1 a1).getD 0))),(31,.d (qW false))]) (m := [(0,.own (qp (a0.1,a0.2.1,a0.2.2))),(1,.box (.ptr 0 0)),(2,.box (.d (eint c2)))]) rfl (.st (.cons (.av rfl) (.cons (.map rfl) (.cons (.av rfl) .nil)))) rfl rfl ⟨⟨rfl,(by simp [AV.live,AV.lives,lk,Nat.beq])⟩,⟨rfl,tV⟩,⟨rfl,tV⟩,tV⟩ ⟨.inl rfl,(.inr ⟨rfl,(by simp [OB.live,AV.live,AV.lives,lk,Nat.beq])⟩),(.inr ⟨rfl,tV⟩),tV⟩ rfl (OD.dat_live (ql _)) ⟨rfl,tV⟩ (qq rfl)) (wA1 rfl)⟩
 rcases cdS hj0 with ⟨hc3,h9⟩ | ⟨hc3,h10⟩
 ·skip
  refine cwR (.M rfl<|.B rfl (qO0 _ _) rfl<|.M rfl<|.G rfl rfl hc3<|.G rfl rfl hc3<|.G rfl rfl hc3<|.G rfl rfl hc3<|.G rfl rfl hc3<|.G rfl rfl hc3<|.I rfl hc3<|.nil rfl) ?_
  exact ⟨true,(sJ h9),.trans (lPk (o := 0) (y := .st [.d (eint a0.1),.map 3,.d (eint a0.2.2)]) (x := qp (a0.1,a0.2.1,a0.2.2)) (l := [(0,.ptr 0 0),(1,.d (eint a1)),(2,.d (qW a2)),(3,.fn 125 [] [.ptr 1 0,.ptr 2 0]),(20,.d (qW true))]) (m := [(0,.own (qp (a0.1,a0.2.1,a0.2.2))),(1,.box (.ptr 0 0)),(2,.box (.d (eint c2)))]) rfl (.st (.cons (.av rfl) (.cons (.map rfl) (.cons (.av rfl) .nil)))) rfl rfl ⟨⟨rfl,(by simp [AV.live,AV.lives,lk,Nat.beq])⟩,⟨rfl,tV⟩,⟨rfl,tV⟩,⟨rfl,(by simp [AV.live,AV.lives,lk,Nat.beq])⟩,⟨rfl,tV⟩,tV⟩ ⟨.inl rfl,(.inr ⟨rfl,(by simp [OB.live,AV.live,AV.lives,lk,Nat.beq])⟩),(.inr ⟨rfl,tV⟩),tV⟩ rfl (OD.dat_live (ql _)) ⟨rfl,tV⟩ (qq rfl)) (wA1 rfl)⟩
 refine cwR (.M rfl<|.B rfl (qO0 _ _) rfl<|.M rfl<|.c (o_mv rfl rfl (.yes rfl rfl hc3) rfl)<|.c (o_mv rfl rfl (.yes rfl rfl hc3) rfl)<|.c (qz0 rfl rfl (.yes rfl rfl hc3) rfl)<|.c (qu rfl rfl (.yes rfl rfl hc3) rfl fld126_0 (by decide))<|.c (qC [0] rfl rfl (.yes rfl rfl hc3) rfl rfl rfl ta3 rfl rfl)<|.c (qn rfl rfl (.yes rfl rfl hc3) rfl rfl (qf6 _ _) rfl)<|.J rfl hc3<|.nil rfl) ?_
 exact ⟨(decide (a1 ≥ a0.1)),(sJ h10),.trans (lPk (o := 0) (y := .st [.d (eint a0.1),.map 3,.d (eint a0.2.2)]) (x := qp (a0.1,a0.2.1,a0.2.2)) (l := [(0,.ptr 0 0),(1,.d (eint a1)),(2,.d (qW a2)),(3,.fn 125 [] [.ptr 1 0,.ptr 2 0]),(20,.d (qW (decide (a1 ≥ a0.1))))]) (m := [(0,.own (qp (a0.1,a0.2.1,a0.2.2))),(1,.box (.ptr 0 0)),(2,.box (.d (eint c2)))]) rfl (.st (.cons (.av rfl) (.cons (.map rfl) (.cons (.av rfl) .nil)))) rfl rfl ⟨⟨rfl,(by simp [AV.live,AV.lives,lk,Nat.beq])⟩,⟨rfl,tV⟩,⟨rfl,tV⟩,⟨rfl,(by simp [AV.live,AV.lives,lk,Nat.beq])⟩,⟨rfl,tV⟩,tV⟩ ⟨.inl rfl,(.inr ⟨rfl,(by simp [OB.live,AV.live,AV.lives,lk,Nat.beq])⟩),(.inr ⟨rfl,tV⟩),tV⟩ rfl (OD.dat_live (ql _)) ⟨rfl,tV⟩ (qq rfl)) (wA1 rfl)⟩
theorem q15 {a0} {a1} {a2} {c2} {r} (h : qQ0 a0 a1 a2 c2 = some r) : FnOk Try.prog 124 [.ptr 0 0,.d (eint a1),.d (qW a2),.fn 126 [] [.ptr 1 0,.ptr 2 0]] 3 (lk [(0,.own (qp a0)),(1,.box (.ptr 0 0)),(2,.box (.d (eint c2)))]) (fun rr oo => rr = .tup [.d (qW r.1),.d (eErr r.2.1)] ∧ oo = lk [(0,.own (qp r.2.2)),(1,.box (.ptr 0 0)),(2,.box (.d (eint c2)))]) := by
 refine fnO Try.func124 rfl rfl (cwP ?_)
 unfold qQ0 at h
 refine cSR (.A rfl<|.A rfl<|.nil rfl) ?_
 refine cwS (cwL (lOp (o := 0) (y := .st [.d (eint a0.1),.map 3,.d (eint a0.2.2)]) (news := [(3,.map 0 (mD eint eint a0.2.1))]) rfl (.st (.cons (.av rfl) (.cons (.map rfl) (.cons (.av rfl) .nil)))) rfl rfl ⟨rfl,tV⟩) ?_)
 refine cwW (wA0 (l := [(0,.ptr 0 0),(1,.d (eint a1)),(2,.d (qW a2)),(3,.fn 126 [] [.ptr 1 0,.ptr 2 0])]) (m := [(0,.box (.st [.d (eint a0.1),.map 3,.d (eint a0.2.2)])),(1,.box (.ptr 0 0)),(2,.box (.d (eint c2))),(3,.map 0 (mD eint eint a0.2.1))]) rfl) ?_
 have ⟨o0,hj0,h0⟩ := bdS h
 refine cwJ (fun (z : Bool) => St.of [(0,.ptr 0 0),(1,.d (eint a1)),(2,.d (qW a2)),(3,.fn 126 [] [.ptr 1 0,.ptr 2 0]),(20,.d (qW z))] [(0,.own (qp (a0.1,a0.2.1,a0.2.2))),(1,.box (.ptr 0 0)),(2,.box (.d (eint c2)))]) (fun z => o0 = z) ?_ ?_
 ·intro v0 hv0; subst hv0
  refine cwC h0 rfl ?_ ?_
  ·intro hc0 h1
   refine cSR (.A rfl<|.A rfl<|.nil rfl) ?_
   obtain rfl := zQ h1
   exact rt2 rfl rfl rfl rfl
  intro hc0 h2
  refine cwK (cwL (lOp (o := 0) (y := .st [.d (eint a0.1),.map 4,.d (eint a0.2.2)]) (news := [(4,.map 0 (mD eint eint a0.2.1))]) rfl (.st (.cons (.av rfl) (.cons (.map rfl) (.cons (.av rfl) .nil)))) rfl rfl ⟨rfl,tV⟩) ?_)
  refine cwW (wA0 (l := [(0,.ptr 0 0),(1,.d (eint a1)),(2,.d (qW a2)),(3,.fn 126 [] [.ptr 1 0,.ptr 2 0])]) (m := [(0,.box (.st [.d (eint a0.1),.map 4,.d (eint a0.2.2)])),(1,.box (.ptr 0 0)),(2,.box (.d (eint c2))),(4,.map 0 (mD eint eint a0.2.1))]) rfl) ?_
  refine cSR (.M rfl<|.K rfl<|.F rfl qX3 rfl<|.L [1] rfl ta124 rfl<|.M rfl<|.c (qL5 (ek := eint) (ev := eint) (m := a0.2.1) a1 0 rfl rfl .no rfl rfl rfl mp124 kl3 ze3 rfl rfl)<|.A rfl<|.nil rfl) ?_
  refine cwS ?_
  have ⟨o1,hj1,h3⟩ := bdS h2
  refine cwJ (fun (z : Bool) => St.of [(3,.fn 126 [] [.ptr 1 0,.ptr 2 0]),(10,.d (eint ((mget a0.2.1 a1).getD 0))),(31,.d (qW z))] [(0,.own (qp (a0.1,a0.2.1,a0.2.2))),(1,.box (.ptr 0 0)),(2,.box (.d (eint c2)))]) (fun z => o1 = z) ?_ ?_
  ·intro v1 hv1; subst hv1
   refine cwC h3 rfl ?_ ?_
   ·intro hc1 h4
    refine cSR (.A rfl<|.A rfl<|.nil rfl) ?_
    obtain rfl := zQ h4
    exact rt2 rfl rfl rfl rfl
   intro hc1 h5
   refine cwK ?_
   have ⟨x0,hx0,h6⟩ := bdS h5
   refine cSR (.M rfl<|.M rfl<|.c (o_callVX (ys := [.d (eint ((mget a0.2.1 a1).getD 0))]) (zs := [.ptr 1 0,.ptr 2 0]) (fun n => bif Nat.beq n 0 then 0 else bif Nat.beq n 1 then 1 else 2) rfl rfl .no rfl rfl Try.func126 rfl rfl (refs_Refs_Inc_1_ok hx0) (.cons rfl .d .nil) (ql1 [] rfl ⟨tV,(by simp [AV.live,AV.lives,lk,Nat.beq]),(by simp [AV.live,AV.lives,lk,Nat.beq]),tV⟩ ⟨⟨rfl,(OD.dat_live (ql _))⟩,⟨rfl,(by simp [OB.live,AV.live,lk,Nat.beq])⟩,⟨rfl,tV⟩,tV⟩ rfl rfl rfl trivial rfl) (.inl rfl))<|.A rfl<|.A rfl<|.nil rfl) ?_
   obtain rfl := zQ h6
   exact rt2 rfl rfl rfl rfl
  rcases cdS hj1 with ⟨hc2,h7⟩ | ⟨hc2,h8⟩
  ·skip
   refine cwR (.M rfl<|.M rfl<|.c (o_mv rfl rfl (.yes rfl rfl hc2) rfl)<|.c (qn rfl rfl (.yes rfl rfl hc2) rfl rfl (qh0 _ _) rfl)<|.I rfl hc2<|.nil rfl) ?_
   exact ⟨(decide (((mget a0.2.1 a1).getD 0) = 0)),(sJ h7),.trans (lPk (o := 0) (y := .st [.d (eint a0.1),.map 4,.d (eint a0.2.2)]) (x := qp (a0.1,a0.2.1,a0.2.2)) (l := [(3,.fn 126 [] [.ptr 1 0,.ptr 2 0]),(10,.d (eint ((mget a0.2.1 a1).getD 0))),(31,.d (qW (decide (((mget a0.2.1 a1).getD 0) = 0))))]) (m := [(0,.own (qp (a0.1,a0.2.1,a0.2.2))),(1,.box (.ptr 0 0)),(2,.box (.d (eint c2)))]) rfl (.st (.cons (.av rfl) (.cons (.map rfl) (.cons (.av rfl) .nil)))) rfl rfl ⟨⟨rfl,(by simp [AV.live,AV.lives,lk,Nat.beq])⟩,⟨rfl,tV⟩,⟨rfl,tV⟩,tV⟩ ⟨.inl rfl,(.inr ⟨rfl,(by simp [OB.live,AV.live,AV.lives,lk,Nat.beq])⟩),(.inr ⟨rfl,tV⟩),tV⟩ rfl (OD.dat_live (ql _)) ⟨rfl,tV⟩ (qq rfl)) (wA1 rfl)⟩
  refine cwR (.M rfl<|.M rfl<|.G rfl rfl hc2<|.G rfl rfl hc2<|.J rfl hc2<|.nil rfl) ?_
  exact ⟨false,(sJ h8),.trans (lPk (o := 0) (y := .st [.d (eint a0.1),.map 4,.d (eint a0.2.2)]) (x := qp (a0.1,a0.2.1,a0.2.2)) (l := [(3,.fn 126 [] [.ptr 1 0,.ptr 2 0]),(10,.d (eint ((mget a0.2.1 a1).getD 0))),(31,.d (qW false))]) (m := [(0,.own (qp (a0.1,a0.2.1,a0.2.2))),(1,.box (.ptr 0 0)),(2,.box (.d (eint c2)))]) rfl (.st (.cons (.av rfl) (.cons (.map rfl) (.cons (.av rfl) .nil)))) rfl rfl ⟨⟨rfl,(by simp [AV.live,AV.lives,lk,Nat.beq])⟩,⟨rfl,tV⟩,⟨rfl,tV⟩,tV⟩ ⟨.inl rfl,(.inr ⟨rfl,(by simp [OB.live,AV.live,AV.lives,lk,Nat.beq])⟩),(.inr ⟨rfl,tV⟩),tV⟩ rfl (OD.dat_live (ql _)) ⟨rfl,tV⟩ (qq rfl)) (wA1 rfl)⟩
 rcases cdS hj0 with ⟨hc3,h9⟩ | ⟨hc3,h10⟩
 ·skip
  refine cwR (.M rfl<|.B rfl (qO0 _ _) rfl<|.M rfl<|.G rfl rfl hc3<|.G rfl rfl hc3<|.G rfl rfl hc3<|.G rfl rfl hc3<|.G rfl rfl hc3<|.G rfl rfl hc3<|.I rfl hc3<|.nil rfl) ?_
  exact ⟨true,(sJ h9),.trans (lPk (o := 0) (y := .st [.d (eint a0.1),.map 3,.d (eint a0.2.2)]) (x := qp (a0.1,a0.2.1,a0.2.2)) (l := [(0,.ptr 0 0),(1,.d (eint a1)),(2,.d (qW a2)),(3,.fn 126 [] [.ptr 1 0,.ptr 2 0]),(20,.d (qW true))]) (m := [(0,.own (qp (a0.1,a0.2.1,a0.2.2))),(1,.box (.ptr 0 0)),(2,.box (.d (eint c2)))]) rfl (.st (.cons (.av rfl) (.cons (.map rfl) (.cons (.av rfl) .nil)))) rfl rfl ⟨⟨rfl,(by simp [AV.live,AV.lives,lk,Nat.beq])⟩,⟨rfl,tV⟩,⟨rfl,tV⟩,⟨rfl,(by simp [AV.live,AV.lives,lk,Nat.beq])⟩,⟨rfl,tV⟩,tV⟩ ⟨.inl rfl,(.inr ⟨rfl,(by simp [OB.live,AV.live,AV.lives,lk,Nat.beq])⟩),(.inr ⟨rfl,tV⟩),tV⟩ rfl (OD.dat_live (ql _)) ⟨rfl,tV⟩ (qq rfl)) (wA1 rfl)⟩
 refine cwR (.M rfl<|.B rfl (qO0 _ _) rfl<|.M rfl<|.c (o_mv rfl rfl (.yes rfl rfl hc3) rfl)<|.c (o_mv rfl rfl (.yes rfl rfl hc3) rfl)<|.c (qz0 rfl rfl (.yes rfl rfl hc3) rfl)<|.c (qu rfl rfl (.yes rfl rfl hc3) rfl fld126_0 (by decide))<|.c (qC [0] rfl rfl (.yes rfl rfl hc3) rfl rfl rfl ta3 rfl rfl)<|.c (qn rfl rfl (.yes rfl rfl hc3) rfl rfl (qf6 _ _) rfl)<|.J rfl hc3<|.nil rfl) ?_
 exact ⟨(decide (a1 ≥ a0.1)),(sJ h10),.trans (lPk (o := 0) (y := .st [.d (eint a0.1),.map 3,.d (eint a0.2.2)]) (x := qp (a0.1,a0.2.1,a0.2.2)) (l := [(0,.ptr 0 0),(1,.d (eint a1)),(2,.d (qW a2)),(3,.fn 126 [] [.ptr 1 0,.ptr 2 0]),(20,.d (qW (decide (a1 ≥ a0.1))))]) (m := [(0,.own (qp (a0.1,a0.2.1,a0.2.2))),(1,.box (.ptr 0 0)),(2,.box (.d (eint c2)))]) rfl (.st (.cons (.av rfl) (.cons (.map rfl) (.cons (.av rfl) .nil)))) rfl rfl ⟨⟨rfl,(by simp [AV.live,AV.lives,lk,Nat.beq])⟩,⟨rfl,tV⟩,⟨rfl,tV⟩,⟨rfl,(by simp [AV.live,AV.lives,lk,Nat.beq])⟩,⟨rfl,tV⟩,tV⟩ ⟨.inl rfl,(.inr ⟨rfl,(by simp [OB.live,AV.live,AV.lives,lk,Nat.beq])⟩),(.inr ⟨rfl,tV⟩),tV⟩ rfl (OD.dat_live (ql _)) ⟨rfl,tV⟩ (qq rfl)) (wA1 rfl)⟩
theorem refs_Refs_Dec_ok {a0} {a1} {r} (h : qt1 a0 a1 = some r) : FnOk Try.prog 121 [.ptr 0 0,.d (eint a1)] 1 (lk [(0,.own (qp a0))]) (fun rr oo => rr = .tup [.d (qW r.1),.d (eErr r.2.1)] ∧ oo = lk [(0,.own (qp r.2.2))]) := by
 refine fnO Try.func121 rfl rfl (cwP ?_)
 unfold qt1 at h
 refine cSR (.X 1 rfl<|.X 2 rfl<|.A rfl<|.A rfl<|.nil rfl) ?_
 have ⟨x0,hx0,h0⟩ := bdS h
 refine cSR (.L [] rfl ta84 rfl<|.L [] rfl ta3 rfl<|.c (o_fn2 rfl rfl .no rfl rfl)<|.c (qG (fun n => bif Nat.beq n 0 then 0 else bif Nat.beq n 1 then 1 else 2) rfl rfl .no Try.func124 rfl rfl (qa5 hx0) (.cons rfl (.p rfl) (.cons rfl .d (.cons rfl .d (.cons rfl (.re rfl) .nil)))) (ql1 [] rfl ⟨(by simp [AV.live,AV.lives,lk,Nat.beq]),tV,tV,(by simp [AV.live,AV.lives,lk,Nat.beq]),tV⟩ ⟨⟨rfl,(OD.dat_live (ql _))⟩,⟨rfl,(by simp [OB.live,AV.live,lk,Nat.beq])⟩,⟨rfl,tV⟩,tV⟩ rfl rfl rfl trivial rfl) (.inl rfl))<|.E rfl<|.E rfl<|.A rfl<|.A rfl<|.nil rfl) ?_
 obtain rfl := zQ h0
 exact rt2 rfl rfl rfl rfl
theorem refs_Refs_Inc_ok {a0} {a1} {r} (h : qN1 a0 a1 = some r) : FnOk Try.prog 122 [.ptr 0 0,.d (eint a1)] 1 (lk [(0,.own (qp a0))]) (fun rr oo => rr = .d (eErr r.1) ∧ oo = lk [(0,.own (qp r.2))]) := by
 refine fnO Try.func122 rfl rfl (cwP ?_)
 unfold qN1 at h
 refine cSR (.X 1 rfl<|.X 2 rfl<|.A rfl<|.nil rfl) ?_
 have ⟨x0,hx0,h0⟩ := bdS h
 refine cSR (.L [] rfl ta84 rfl<|.L [] rfl ta3 rfl<|.c (o_fn2 rfl rfl .no rfl rfl)<|.c (qG (fun n => bif Nat.beq n 0 then 0 else bif Nat.beq n 1 then 1 else 2) rfl rfl .no Try.func124 rfl rfl (q15 hx0) (.cons rfl (.p rfl) (.cons rfl .d (.cons rfl .d (.cons rfl (.re rfl) .nil)))) (ql1 [] rfl ⟨(by simp [AV.live,AV.lives,lk,Nat.beq]),tV,tV,(by simp [AV.live,AV.lives,lk,Nat.beq]),tV⟩ ⟨⟨rfl,(OD.dat_live (ql _))⟩,⟨rfl,(by simp [OB.live,AV.live,lk,Nat.beq])⟩,⟨rfl,tV⟩,tV⟩ rfl rfl rfl trivial rfl) (.inl rfl))<|.M rfl<|.E rfl<|.E rfl<|.A rfl<|.A rfl<|.nil rfl) ?_
 refine cSR (.M rfl<|.A rfl<|.nil rfl) ?_
 obtain rfl := zQ h0
 exact rt1 rfl rfl rfl
theorem qF2 {a0} {a1} {r} (h : q30 a0 a1 = some r) : FnOk Try.prog 119 [.ptr 0 0,.d (eint a1)] 1 (lk [(0,.own (qe a0))]) (fun rr oo => rr = .d (eErr r.1) ∧ oo = lk [(0,.own (qe r.2))]) := by
 refine fnO Try.func119 rfl rfl (cwP ?_)
 unfold q30 at h
 refine cSR (.A rfl<|.nil rfl) ?_
 refine cwS (cwL (lOp (o := 0) (y := .st [.ptr 1 0,.map 2]) (news := [(1,.own (qp a0.1)),(2,.map 0 (mD eint qw a0.2))]) rfl (.st (.cons (.box rfl) (.cons (.map rfl) .nil))) rfl rfl ⟨rfl,rfl,tV⟩) ?_)
 refine cwW (wA0 (l := [(0,.ptr 0 0),(1,.d (eint a1))]) (m := [(0,.box (.st [.ptr 1 0,.map 2])),(1,.own (qp a0.1)),(2,.map 0 (mD eint qw a0.2))]) rfl) ?_
 have ⟨x0,hx0,h0⟩ := bdS h
 refine cSR (.M rfl<|.K rfl<|.F rfl fld88_0 rfl<|.L [0] rfl ta84 rfl<|.M rfl<|.c (qG (fun _ => 1) rfl rfl .no Try.func122 rfl rfl (refs_Refs_Inc_ok hx0) (.cons rfl (.p rfl) (.cons rfl .d .nil)) (q20 rfl ⟨(by simp [AV.live,lk,Nat.beq]),tV,tV⟩ rfl (OD.dat_live (ql _)) (by simp)) (.inl rfl))<|.B rfl (qT2 _ _) rfl<|.nil rfl) ?_
 refine cwC h0 rfl ?_ ?_
 ·intro hc0 h1
  refine cSR (.A rfl<|.nil rfl) ?_
  obtain rfl := zQ h1
  exact qv ⟨_,(show Leads _ _ (St.of [(4,.d (eErr 1))] [(0,.own (qe (x0.2,a0.2)))]) from .trans (lPk (o := 0) (y := .st [.ptr 1 0,.map 2]) (x := qe (x0.2,a0.2)) (l := [(4,.d (eint 1))]) (m := [(0,.own (qe (x0.2,a0.2)))]) rfl (.st (.cons (.box rfl) (.cons (.map rfl) .nil))) rfl rfl ⟨⟨rfl,tV⟩,tV⟩ ⟨.inl rfl,tV⟩ rfl (OD.dat_live (qc _)) ⟨rfl,rfl,tV⟩ (qq rfl)) (wA1 rfl)),.inr rfl,_,res1 rfl rfl,rfl,rfl⟩
 intro hc0 h2
 refine cwK (cSR (.A rfl<|.nil rfl) ?_)
 obtain rfl := zQ h2
 exact qv ⟨_,(show Leads _ _ (St.of [(4,.d (eErr 0))] [(0,.own (qe (x0.2,a0.2)))]) from .trans (lPk (o := 0) (y := .st [.ptr 1 0,.map 2]) (x := qe (x0.2,a0.2)) (l := [(4,.d (eint 0))]) (m := [(0,.own (qe (x0.2,a0.2)))]) rfl (.st (.cons (.box rfl) (.cons (.map rfl) .nil))) rfl rfl ⟨⟨rfl,tV⟩,tV⟩ ⟨.inl rfl,tV⟩ rfl (OD.dat_live (qc _)) ⟨rfl,rfl,tV⟩ (qq rfl)) (wA1 rfl)),.inr rfl,_,res1 rfl rfl,rfl,rfl⟩
theorem qI3 {a0} {a1} {r} (h : q80 a0 a1 = some r) : FnOk Try.prog 118 [.ptr 0 0,.d (eint a1)] 1 (lk [(0,.own (qe a0))]) (fun rr oo => rr = .tup [.d (qW r.1),.d (eErr r.2.1)] ∧ oo = lk [(0,.own (qe r.2.2))]) := by
 refine fnO Try.func118 rfl rfl (cwP ?_)
 unfold q80 at h
 refine cSR (.A rfl<|.A rfl<|.nil rfl) ?_
 refine cwL (lOp (o := 0) (y := .st [.ptr 1 0,.map 2]) (news := [(1,.own (qp a0.1)),(2,.map 0 (mD eint qw a0.2))]) rfl (.st (.cons (.box rfl) (.cons (.map rfl) .nil))) rfl rfl ⟨rfl,rfl,tV⟩) ?_
 refine cwW (wA0 (l := [(0,.ptr 0 0),(1,.d (eint a1))]) (m := [(0,.box (.st [.ptr 1 0,.map 2])),(1,.own (qp a0.1)),(2,.map 0 (mD eint qw a0.2))]) rfl) ?_
 have ⟨x0,hx0,h0⟩ := bdS h
 refine cSR (.M rfl<|.K rfl<|.F rfl fld88_0 rfl<|.L [0] rfl ta84 rfl<|.M rfl<|.c (qG (fun _ => 1) rfl rfl .no Try.func121 rfl rfl (refs_Refs_Dec_ok hx0) (.cons rfl (.p rfl) (.cons rfl .d .nil)) (q20 rfl ⟨(by simp [AV.live,lk,Nat.beq]),tV,tV⟩ rfl (OD.dat_live (ql _)) (by simp)) (.inl rfl))<|.M rfl<|.E rfl<|.E rfl<|.A rfl<|.A rfl<|.nil rfl) ?_
 refine cwS (cSR (.M rfl<|.B rfl (qT2 _ _) rfl<|.nil rfl) ?_)
 refine cwC h0 rfl ?_ ?_
 ·intro hc0 h1
  refine cSR (.A rfl<|.A rfl<|.nil rfl) ?_
  obtain rfl := zQ h1
  exact qv ⟨_,(show Leads _ _ (St.of [(4,.d (qW false)),(5,.d (eErr 1))] [(0,.own (qe (x0.2.2,a0.2)))]) from .trans (lPk (o := 0) (y := .st [.ptr 1 0,.map 2]) (x := qe (x0.2.2,a0.2)) (l := [(4,.d (qW false)),(5,.d (eint 1))]) (m := [(0,.own (qe (x0.2.2,a0.2)))]) rfl (.st (.cons (.box rfl) (.cons (.map rfl) .nil))) rfl rfl ⟨⟨rfl,tV⟩,⟨rfl,tV⟩,tV⟩ ⟨.inl rfl,tV⟩ rfl (OD.dat_live (qc _)) ⟨rfl,rfl,tV⟩ (qq rfl)) (wA1 rfl)),.inr rfl,_,res2 rfl rfl rfl,rfl,rfl⟩
 intro hc0 h2
 refine cwK ?_
 have ⟨o0,hj0,h3⟩ := bdS h2
 refine cwJ (fun (z : ttM) => St.of [(6,.d (qW x0.1))] [(0,.own (qe z))]) (fun z => o0 = z) ?_ ?_
 ·intro v0 hv0; subst hv0
  refine cSR (.M rfl<|.A rfl<|.A rfl<|.nil rfl) ?_
  obtain rfl := zQ h3
  exact rt2 rfl rfl rfl rfl
 refine cSR (.M rfl<|.nil rfl) ?_
 refine cwC hj0 rfl ?_ ?_
 ·intro hc1 h4
  refine cwR (.M rfl<|.K rfl<|.F rfl fld88_1 rfl<|.L [1] rfl ta86 rfl<|.M rfl<|.c (o_mapdel (ek := eint) (ev := qw) (m := a0.2) a1 rfl .no rfl rfl rfl mp86 kl3 rfl)<|.nil rfl) ?_
  exact ⟨(x0.2.2,(mdel a0.2 a1)),(sJ h4),.trans (lPk (o := 0) (y := .st [.ptr 1 0,.map 2]) (x := qe (x0.2.2,(mdel a0.2 a1))) (l := [(6,.d (qW x0.1))]) (m := [(0,.own (qe (x0.2.2,(mdel a0.2 a1))))]) rfl (.st (.cons (.box rfl) (.cons (.map rfl) .nil))) rfl rfl ⟨⟨rfl,tV⟩,tV⟩ ⟨.inl rfl,tV⟩ rfl (OD.dat_live (qc _)) ⟨rfl,rfl,tV⟩ (qq rfl)) (wA1 rfl)⟩
 intro hc1 h5
 refine cwK ?_
 exact ⟨(x0.2.2,a0.2),(sJ h5),.trans (lPk (o := 0) (y := .st [.ptr 1 0,.map 2]) (x := qe (x0.2.2,a0.2)) (l := [(6,.d (qW x0.1))]) (m := [(0,.own (qe (x0.2.2,a0.2)))]) rfl (.st (.cons (.box rfl) (.cons (.map rfl) .nil))) rfl rfl ⟨⟨rfl,tV⟩,tV⟩ ⟨.inl rfl,tV⟩ rfl (OD.dat_live (qc _)) ⟨rfl,rfl,tV⟩ (qq rfl)) (wA1 rfl)⟩
end
end Go.Val
