/- Walks of the program's functions,printed. -/
import Derived.Test.YtfbnhflapgddbaaWk
import Derived.Test.YtfbnhflapgddbaaHa
set_option linter.all false
set_option maxRecDepth 100000
namespace Go.Val
open Go.RowKit Go.Proofs
section
variable [NoDrw]
noncomputable def qG2 (a0 : List ttC) (a1 : List ttC) (a2 : Int) : Option Bool := (qa3).bind fun x0 => (qd1 3000).bind fun x1 => (qK2 a1 30 40).bind fun x2 => (qK2 a0 60 40).bind fun x3 => (qT0 x1 0 x3).bind fun x4 => cond (decide (x4.2.1 ≠ 0)) (some false) (
  (qy2 ((IntKind.wrap .i64 (1 + (qR4 .i64 a2 127))),0) x4.1 x2 x4.2.2).bind fun x5 => cond (decide (x5.2.2.1.2 ≥ x5.2.2.1.1)) ((((cond (decide (x5.2.1 ≠ 11)) (some (true,x5.2.2.2)) (cond (decide (x5.1 ≠ 0)) (some (true,x5.2.2.2)) ((qM1 x5.2.2.2 3000 ([x4.1])).bind fun x6 => some ((!x6.1),x6.2)))) : Option (Bool × ttM))).bind fun o0 => cond o0.1 (some false) (
    (qg2).bind fun x7 => (qp1 o0.2 x4.1 x7).bind fun x8 => (qo1 ([]) x3).bind fun x9 => (qQ2 x8.1 x9).bind fun x10 => (((cond x0 (cond (decide (x8.2.1 = 0)) (some x10) (some false)) (some false)) : Option Bool)).bind fun o1 => some o1)) ((qg2).bind fun x11 => (qp1 x5.2.2.2 x5.1 x11).bind fun x12 => (qo1 ([]) x3).bind fun x13 =>
   (qo1 x13 x2).bind fun x14 => (qQ2 x12.1 x14).bind fun x15 => (((cond x0 (cond (decide (x5.2.1 = 0)) (cond (decide (x12.2.1 = 0)) (cond x15 ((qM1 x12.2.2 3000 ([x4.1,x5.1])).bind fun x16 => some x16.1) (some false)) (some false)) (some false)) (some false)) : Option Bool)).bind fun o2 => some o2))
theorem law07_TreeFrail_ok {a0} {a1} {a2} {r} (h : qG2 a0 a1 a2 = some r) : FnOk Try.prog 5 [.d (eSC a0),.d (eSC a1),.d (eint a2)] 0 (lk []) (fun rr oo => rr = .d (qW r) ∧ oo = lk []) := by
 refine fnO Try.func5 rfl rfl (cwP ?_)
 unfold qG2 at h
 refine cSR (.A rfl<|.nil rfl) ?_
 have ⟨x0,hx0,h0⟩ := bdS h
 refine cSR (.c (qc0 rfl rfl .no Try.func13 rfl rfl (law07_shown_ok hx0) .nil trivial (.inl rfl))<|.A rfl<|.nil rfl) ?_
 refine cSR (.A rfl<|.nil rfl) ?_
 have ⟨x1,hx1,h1⟩ := bdS h0
 refine cSR (.M rfl<|.c (qW5 0 rfl rfl .no Try.func14 rfl rfl (qb4 hx1) (.cons rfl .d .nil) ⟨tV,tV⟩ rfl (.inl rfl))<|.A rfl<|.nil rfl) ?_
 refine cwS (cSR (.M rfl<|.c (o_pnilP rfl rfl .no rfl up24)<|.nil rfl) ?_)
 refine cwF rfl rfl ?_
 refine cwK ?_
 have ⟨x2,hx2,h2⟩ := bdS h1
 refine cSR (.M rfl<|.c (qc0 rfl rfl .no Try.func16 rfl rfl (law07_few_ok hx2) (.cons rfl .d (.cons rfl .d (.cons rfl .d .nil))) ⟨tV,tV,tV,tV⟩ (.inl rfl))<|.A rfl<|.nil rfl) ?_
 have ⟨x3,hx3,h3⟩ := bdS h2
 refine cSR (.M rfl<|.c (qc0 rfl rfl .no Try.func16 rfl rfl (law07_few_ok hx3) (.cons rfl .d (.cons rfl .d (.cons rfl .d .nil))) ⟨tV,tV,tV,tV⟩ (.inl rfl))<|.A rfl<|.nil rfl) ?_
 have ⟨x4,hx4,h4⟩ := bdS h3
 refine cSR (.M rfl<|.c (qL4 rfl rfl .no rfl qi6)<|.M rfl<|.c (qG (fun _ => 0) rfl rfl .no Try.func15 rfl rfl (qB3 hx4) (.cons rfl (.ip rfl) (.cons rfl .d (.cons rfl .d .nil))) (q20 rfl ⟨(by simp [AV.live,lk,Nat.beq]),tV,tV,tV⟩ rfl (OD.dat_live (qc _)) (by simp)) (.inl rfl))<|.M rfl<|.E rfl<|.E rfl<|.A rfl<|.A rfl<|.nil rfl) ?_
 refine cwS (cSR (.M rfl<|.B rfl (qT2 _ _) rfl<|.nil rfl) ?_)
 refine cwC h4 rfl ?_ ?_
 ·intro hc0 h5
  refine cSR (.A rfl<|.nil rfl) ?_
  obtain rfl := zQ h5
  exact rt1 rfl rfl rfl
 intro hc0 h6
 refine cwK (cSR (.M rfl<|.M rfl<|.B rfl (b_and _ _) rfl<|.B rfl (qR0 _ _) rfl<|.c (o_bldA rfl rfl .no zo57 rfl pl57 (.cons rfl rfl rfl rfl rfl rfl rfl (.cons rfl rfl rfl rfl rfl rfl rfl .nil)))<|.X 1 rfl<|.A rfl<|.nil rfl) ?_)
 refine cwL (lPk (o := 1) (y := .st [.ptr 0 0,.d (eint (IntKind.wrap .i64 (1 + (qR4 .i64 a2 127)))),.d (eint 0)]) (x := qd 0 ((IntKind.wrap .i64 (1 + (qR4 .i64 a2 127))),0)) (l := [(1,.d (eSC x2)),(7,.d (qW x0)),(8,.d (eint 3000)),(9,.ptr 0 0),(10,.d (eSC x3)),(11,.d (eint x4.1)),(13,.ptr 1 0)]) (m := [(0,.own (qe x4.2.2)),(1,.own (qd 0 ((IntKind.wrap .i64 (1 + (qR4 .i64 a2 127))),0)))]) rfl (.st (.cons (.av rfl) (.cons (.av rfl) (.cons (.av rfl) .nil)))) rfl rfl ⟨⟨rfl,tV⟩,⟨rfl,tV⟩,⟨rfl,tV⟩,⟨rfl,(by simp [AV.live,AV.lives,lk,Nat.beq])⟩,⟨rfl,tV⟩,⟨rfl,tV⟩,⟨rfl,(by simp [AV.live,AV.lives,lk,Nat.beq])⟩,tV⟩ ⟨(.inr ⟨rfl,(OD.dat_live (qc _))⟩),.inl rfl,tV⟩ rfl (by simp [qd,OB.live,OD.live,OD.lives,AV.live,lk,Nat.beq]) trivial qM) ?_
 have ⟨x5,hx5,h7⟩ := bdS (x := qy2 ((IntKind.wrap .i64 (1 + (qR4 .i64 a2 127))),0) x4.1 x2 x4.2.2) h6
 refine cSR (.M rfl<|.c (qL4 rfl rfl .no rfl ifB55)<|.M rfl<|.M rfl<|.c (qG (fun n => bif Nat.beq n 0 then 1 else 0) rfl rfl .no Try.func15 rfl rfl (tree_Apply_f_ok hx5) (.cons rfl (.ip rfl) (.cons rfl .d (.cons rfl .d .nil))) (qu2 rfl ⟨(by simp [AV.live,lk,Nat.beq]),tV,tV,tV⟩ (by decide) rfl (by simp [qd,OB.live,OD.live,OD.lives,AV.live,lk,Nat.beq]) rfl (OD.dat_live (qc _)) (by simp)) (.inl rfl))<|.M rfl<|.E rfl<|.E rfl<|.A rfl<|.A rfl<|.nil rfl) ?_
 refine cwS (cwL (lOp (o := 1) (y := .st [.ptr 0 0,.d (eint x5.2.2.1.1),.d (eint x5.2.2.1.2)]) (news := []) rfl (.st (.cons (.av rfl) (.cons (.av rfl) (.cons (.av rfl) .nil)))) rfl rfl trivial) ?_)
 refine cwW (wA0 (l := [(1,.d (eSC x2)),(7,.d (qW x0)),(8,.d (eint 3000)),(9,.ptr 0 0),(10,.d (eSC x3)),(11,.d (eint x4.1)),(13,.ptr 1 0),(14,.d (eint x5.1)),(15,.d (eErr x5.2.1))]) (m := [(0,.own (qe x5.2.2.2)),(1,.box (.st [.ptr 0 0,.d (eint x5.2.2.1.1),.d (eint x5.2.2.1.2)]))]) rfl) ?_
 refine cwS (cwRA mixed (by kernel_rfl) (.M rfl<|.K rfl<|.F rfl fld57_2 rfl<|.L [2] rfl ta3 rfl<|.M rfl<|.K rfl<|.F rfl fld57_1 rfl<|.L [1] rfl ta3 rfl<|.B rfl (qf6 _ _) rfl<|.nil rfl) (by kernel_rfl) ?_)
 refine cwC h7 rfl ?_ ?_
 ·intro hc1 h8
  refine cwS ?_
  have ⟨o0,hj0,h10⟩ := bdS h8
  refine cwJ (fun (z : (Bool × ttM)) => St.of [(7,.d (qW x0)),(9,.ptr 0 0),(10,.d (eSC x3)),(11,.d (eint x4.1)),(76,.d (qW z.1))] [(0,.own (qe z.2))]) (fun z => o0 = z) ?_ ?_
  ·intro v0 hv0; subst hv0
   refine cwC h10 rfl ?_ ?_
   ·intro hc2 h11
    refine cSR (.A rfl<|.nil rfl) ?_
    obtain rfl := zQ h11
    exact rt1 rfl rfl rfl
   intro hc2 h12
   refine cwK ?_
   have ⟨x6,hx6,h13⟩ := bdS h12
   have ⟨x7,hx7,h14⟩ := bdS h13
   refine cSR (.M rfl<|.c (qL4 rfl rfl .no rfl qi6)<|.M rfl<|.c (qc0 rfl rfl .no Try.func18 rfl rfl (q65 hx6) .nil trivial (.inl rfl))<|.c (qG (fun _ => 0) rfl rfl .no Try.func17 rfl rfl (qW3 hx7) (.cons rfl (.ip rfl) (.cons rfl .d (.cons rfl .d .nil))) (q20 rfl ⟨(by simp [AV.live,lk,Nat.beq]),tV,tV,tV⟩ rfl (OD.dat_live (qc _)) (by simp)) (.inl rfl))<|.M rfl<|.E rfl<|.E rfl<|.A rfl<|.A rfl<|.nil rfl) ?_
   have ⟨x8,hx8,h15⟩ := bdS h14
   have ⟨x9,hx9,h16⟩ := bdS h15
   refine cSR (.M rfl<|.M rfl<|.c (qc0 rfl rfl .no Try.func27 rfl rfl (qY3 hx8) (.cons rfl .nil (.cons rfl .d .nil)) ⟨tV,tV,tV⟩ (.inl rfl))<|.c (qc0 rfl rfl .no Try.func19 rfl rfl (ref07_Same_ok hx9) (.cons rfl .d (.cons rfl .d .nil)) ⟨tV,tV,tV⟩ (.inl rfl))<|.A rfl<|.nil rfl) ?_
   have ⟨o1,hj1,h17⟩ := bdS h16
   refine cwJ (fun (z : Bool) => St.of [(6,.d (qW z))] []) (fun z => o1 = z) ?_ ?_
   ·intro v1 hv1; subst hv1
    obtain rfl := zQ h17
    exact rt1 rfl rfl rfl
   rcases cdS hj1 with ⟨hc3,h18⟩ | ⟨hc3,h19⟩
   ·skip
    rcases cdS h18 with ⟨hc4,h20⟩ | ⟨hc4,h21⟩
    ·skip
     refine cwR (.M rfl<|.M rfl<|.c (o_mv rfl rfl (.yes rfl rfl hc3) rfl)<|.c (qn rfl rfl (.yes rfl rfl hc3) rfl rfl (qh0 _ _) rfl)<|.I rfl hc3<|.M rfl<|.c (o_mv rfl rfl (.yes rfl rfl hc4) rfl)<|.I rfl hc4<|.A rfl<|.nil rfl) ?_
     exact ⟨x9,(sJ h20),wA1 rfl⟩
    refine cwR (.M rfl<|.M rfl<|.c (o_mv rfl rfl (.yes rfl rfl hc3) rfl)<|.c (qn rfl rfl (.yes rfl rfl hc3) rfl rfl (qh0 _ _) rfl)<|.I rfl hc3<|.M rfl<|.G rfl rfl hc4<|.J rfl hc4<|.A rfl<|.nil rfl) ?_
    exact ⟨false,(sJ h21),wA1 rfl⟩
   refine cwR (.M rfl<|.M rfl<|.G rfl rfl hc3<|.G rfl rfl hc3<|.J rfl hc3<|.M rfl<|.G rfl rfl rfl<|.J rfl rfl<|.A rfl<|.nil rfl) ?_
   exact ⟨false,(sJ h19),wA1 rfl⟩
  rcases cdS hj0 with ⟨hc5,h22⟩ | ⟨hc5,h23⟩
  ·skip
   refine cwR (.M rfl<|.B rfl (qT2 _ _) rfl<|.M rfl<|.G rfl rfl hc5<|.G rfl rfl hc5<|.I rfl hc5<|.M rfl<|.G rfl rfl rfl<|.G rfl rfl rfl<|.G rfl rfl rfl<|.G rfl rfl rfl<|.G rfl rfl rfl<|.G rfl rfl rfl<|.I rfl rfl<|.nil rfl) ?_
   exact ⟨(true,x5.2.2.2),(sJ h22),wA1 rfl⟩
  rcases cdS h23 with ⟨hc6,h24⟩ | ⟨hc6,h25⟩
  ·skip
   refine cwR (.M rfl<|.B rfl (qT2 _ _) rfl<|.M rfl<|.c (o_mv rfl rfl (.yes rfl rfl hc5) rfl)<|.c (qn rfl rfl (.yes rfl rfl hc5) rfl rfl (qT2 _ _) rfl)<|.J rfl hc5<|.M rfl<|.G rfl rfl hc6<|.G rfl rfl hc6<|.G rfl rfl hc6<|.G rfl rfl hc6<|.G rfl rfl hc6<|.G rfl rfl hc6<|.I rfl hc6<|.nil rfl) ?_
   exact ⟨(true,x5.2.2.2),(sJ h24),wA1 rfl⟩
  have ⟨x10,hx10,h26⟩ := bdS h25
  refine cwR (.M rfl<|.B rfl (qT2 _ _) rfl<|.M rfl<|.c (o_mv rfl rfl (.yes rfl rfl hc5) rfl)<|.c (qn rfl rfl (.yes rfl rfl hc5) rfl rfl (qT2 _ _) rfl)<|.J rfl hc5<|.M rfl<|.c (o_mv rfl rfl (.yes rfl rfl hc6) rfl)<|.c (o_mv rfl rfl (.yes rfl rfl hc6) rfl)<|.c (o_mv rfl rfl (.yes rfl rfl hc6) rfl)<|.c (ql4 (rows := ([x4.1] : List Int).map eint) rfl rfl (.yes rfl rfl hc6) (.cons rfl .nil) rfl sl59 sz3 ze3 rfl (q51 qg6) (by decide))<|.c (qG (fun _ => 0) rfl rfl (.yes rfl rfl hc6) Try.func26 rfl rfl (qP4 hx10) (.cons rfl (.p rfl) (.cons rfl .d (.cons rfl .d .nil))) (q20 rfl ⟨(by simp [AV.live,lk,Nat.beq]),tV,tV,tV⟩ rfl (OD.dat_live (qc _)) (by simp)) (.inl rfl))<|.c (qb5 rfl rfl (.yes rfl rfl hc6) rfl)<|.J rfl hc6<|.nil rfl) ?_
  exact ⟨((!x10.1),x10.2),(sJ h26),wA1 rfl⟩
 intro hc1 h9
 refine cwK ?_
 have ⟨x11,hx11,h27⟩ := bdS h9
 have ⟨x12,hx12,h28⟩ := bdS h27
 refine cSR (.M rfl<|.c (qL4 rfl rfl .no rfl qi6)<|.M rfl<|.c (qc0 rfl rfl .no Try.func18 rfl rfl (q65 hx11) .nil trivial (.inl rfl))<|.c (qG (fun _ => 0) rfl rfl .no Try.func17 rfl rfl (qW3 hx12) (.cons rfl (.ip rfl) (.cons rfl .d (.cons rfl .d .nil))) (q20 rfl ⟨(by simp [AV.live,lk,Nat.beq]),tV,tV,tV⟩ rfl (OD.dat_live (qc _)) (by simp)) (.inl rfl))<|.M rfl<|.E rfl<|.E rfl<|.A rfl<|.A rfl<|.nil rfl) ?_
 have ⟨x13,hx13,h29⟩ := bdS h28
 have ⟨x14,hx14,h30⟩ := bdS h29
 have ⟨x15,hx15,h31⟩ := bdS h30
 refine cSR (.M rfl<|.M rfl<|.c (qc0 rfl rfl .no Try.func27 rfl rfl (qY3 hx13) (.cons rfl .nil (.cons rfl .d .nil)) ⟨tV,tV,tV⟩ (.inl rfl))<|.M rfl<|.c (qc0 rfl rfl .no Try.func27 rfl rfl (qY3 hx14) (.cons rfl .d (.cons rfl .d .nil)) ⟨tV,tV,tV⟩ (.inl rfl))<|.c (qc0 rfl rfl .no Try.func19 rfl rfl (ref07_Same_ok hx15) (.cons rfl .d (.cons rfl .d .nil)) ⟨tV,tV,tV⟩ (.inl rfl))<|.A rfl<|.nil rfl) ?_
 have ⟨o2,hj2,h32⟩ := bdS h31
 refine cwJ (fun (z : Bool) => St.of [(6,.d (qW z))] []) (fun z => o2 = z) ?_ ?_
 ·intro v2 hv2; subst hv2
  obtain rfl := zQ h32
  exact rt1 rfl rfl rfl
 rcases cdS hj2 with ⟨hc7,h33⟩ | ⟨hc7,h34⟩
 ·skip
  rcases cdS h33 with ⟨hc8,h35⟩ | ⟨hc8,h36⟩
  ·skip
   rcases cdS h35 with ⟨hc9,h37⟩ | ⟨hc9,h38⟩
   ·skip
    rcases cdS h37 with ⟨hc10,h39⟩ | ⟨hc10,h40⟩
    ·skip
     have ⟨x16,hx16,h41⟩ := bdS h39
     refine cwR (.M rfl<|.M rfl<|.c (o_mv rfl rfl (.yes rfl rfl hc7) rfl)<|.c (qn rfl rfl (.yes rfl rfl hc7) rfl rfl (qh0 _ _) rfl)<|.I rfl hc7<|.M rfl<|.c (o_mv rfl rfl (.yes rfl rfl hc8) rfl)<|.c (qn rfl rfl (.yes rfl rfl hc8) rfl rfl (qh0 _ _) rfl)<|.I rfl hc8<|.M rfl<|.c (o_mv rfl rfl (.yes rfl rfl hc9) rfl)<|.I rfl hc9<|.M rfl<|.c (o_mv rfl rfl (.yes rfl rfl hc10) rfl)<|.c (o_mv rfl rfl (.yes rfl rfl hc10) rfl)<|.c (o_mv rfl rfl (.yes rfl rfl hc10) rfl)<|.c (o_mv rfl rfl (.yes rfl rfl hc10) rfl)<|.c (ql4 (rows := ([x4.1,x5.1] : List Int).map eint) rfl rfl (.yes rfl rfl hc10) (.cons rfl (.cons rfl .nil)) rfl sl59 sz3 ze3 rfl (q51 qg6) (by decide))<|.c (qG (fun _ => 0) rfl rfl (.yes rfl rfl hc10) Try.func26 rfl rfl (qP4 hx16) (.cons rfl (.p rfl) (.cons rfl .d (.cons rfl .d .nil))) (q20 rfl ⟨(by simp [AV.live,lk,Nat.beq]),tV,tV,tV⟩ rfl (OD.dat_live (qc _)) (by simp)) (.inl rfl))<|.I rfl hc10<|.A rfl<|.nil rfl) ?_
     exact ⟨x16.1,(sJ h41),wA1 rfl⟩
    refine cwR (.M rfl<|.M rfl<|.c (o_mv rfl rfl (.yes rfl rfl hc7) rfl)<|.c (qn rfl rfl (.yes rfl rfl hc7) rfl rfl (qh0 _ _) rfl)<|.I rfl hc7<|.M rfl<|.c (o_mv rfl rfl (.yes rfl rfl hc8) rfl)<|.c (qn rfl rfl (.yes rfl rfl hc8) rfl rfl (qh0 _ _) rfl)<|.I rfl hc8<|.M rfl<|.c (o_mv rfl rfl (.yes rfl rfl hc9) rfl)<|.I rfl hc9<|.M rfl<|.G rfl rfl hc10<|.G rfl rfl hc10<|.G rfl rfl hc10<|.G rfl rfl hc10<|.G rfl rfl hc10<|.G rfl rfl hc10<|.J rfl hc10<|.A rfl<|.nil rfl) ?_
    exact ⟨false,(sJ h40),wA1 rfl⟩
   refine cwR (.M rfl<|.M rfl<|.c (o_mv rfl rfl (.yes rfl rfl hc7) rfl)<|.c (qn rfl rfl (.yes rfl rfl hc7) rfl rfl (qh0 _ _) rfl)<|.I rfl hc7<|.M rfl<|.c (o_mv rfl rfl (.yes rfl rfl hc8) rfl)<|.c (qn rfl rfl (.yes rfl rfl hc8) rfl rfl (qh0 _ _) rfl)<|.I rfl hc8<|.M rfl<|.G rfl rfl hc9<|.J rfl hc9<|.M rfl<|.G rfl rfl rfl<|.G rfl rfl rfl<|.G rfl rfl rfl<|.G rfl rfl rfl<|.G rfl rfl rfl<|.G rfl rfl rfl<|.J rfl rfl<|.A rfl<|.nil rfl) ?_
   exact ⟨false,(sJ h38),wA1 rfl⟩
  refine cwR (.M rfl<|.M rfl<|.c (o_mv rfl rfl (.yes rfl rfl hc7) rfl)<|.c (qn rfl rfl (.yes rfl rfl hc7) rfl rfl (qh0 _ _) rfl)<|.I rfl hc7<|.M rfl<|.G rfl rfl hc8<|.G rfl rfl hc8<|.J rfl hc8<|.M rfl<|.G rfl rfl rfl<|.J rfl rfl<|.M rfl<|.G rfl rfl rfl<|.G rfl rfl rfl<|.G rfl rfl rfl<|.G rfl rfl rfl<|.G rfl rfl rfl<|.G rfl rfl rfl<|.J rfl rfl<|.A rfl<|.nil rfl) ?_
  exact ⟨false,(sJ h36),wA1 rfl⟩
 refine cwR (.M rfl<|.M rfl<|.G rfl rfl hc7<|.G rfl rfl hc7<|.J rfl hc7<|.M rfl<|.G rfl rfl rfl<|.G rfl rfl rfl<|.J rfl rfl<|.M rfl<|.G rfl rfl rfl<|.J rfl rfl<|.M rfl<|.G rfl rfl rfl<|.G rfl rfl rfl<|.G rfl rfl rfl<|.G rfl rfl rfl<|.G rfl rfl rfl<|.G rfl rfl rfl<|.J rfl rfl<|.A rfl<|.nil rfl) ?_
 exact ⟨false,(sJ h34),wA1 rfl⟩
end
end Go.Val
