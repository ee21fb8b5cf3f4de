/- Walks of the program's functions,printed. -/
import Derived.Test.YtfbnhflapgddbaaWi
set_option linter.unusedSectionVars false
set_option linter.unusedVariables false
set_option linter.unusedSimpArgs false
set_option maxRecDepth 100000
namespace Go.Val
open Go.RowKit Go.Proofs
section
variable [NoDrw]
noncomputable def qV1 (a0 : List ttC) (a1 : List ttC) : Option Bool := (ql2).bind fun x0 => (qz0 6000).bind fun x1 => (qZ1 a0 40 40).bind fun x2 => (q20 x1 0 x2).bind fun x3 => cond (decide (x3.2.1 ≠ 0)) (some false) ((qZ1 a1 40 40).bind fun x4 => (((qM (V := ((List ttC) × Int × (List ttC))) (O := ((List ttC) × (List ttC))) (fun v0 =>
    cond (decide (v0.2.1 < (x4.length : Int))) (((((((qM (V := (Bool × Int)) (O := Bool) (fun v1 => cond (decide (v1.2 < (v0.2.2.length : Int))) ((((cond v1.1 (some true) ((gx v0.2.2 v1.2).bind fun x5 => (gx x4 v0.2.1).bind fun x6 => some (decide (x5.1 = x6.1)))) : Option Bool)).bind fun o0 => some (.inl (o0,(IntKind.wrap .i64 (v1.2 + 1))))) (some (.inr v1.1))) (false,0)
      ) : Option Bool)).bind fun o1 => cond (!o1) ((gx x4 v0.2.1).bind fun x7 => (fits (v0.2.2.length + ([x7]).length) 48).bind fun _ => (fits (([x7]).length + v0.1.length) 48).bind fun _ => some (([x7] ++ v0.1),(v0.2.2 ++ [x7]))) (some (v0.1,v0.2.2))) : Option ((List ttC) × (List ttC)))).bind fun o2 => some (.inl (o2.1,(IntKind.wrap .i64 (v0.2.1 + 1)),o2.2))) (
     some (.inr (v0.1,v0.2.2)))) ([],0,[])) : Option ((List ttC) × (List ttC)))).bind fun o3 => (q20 x3.2.2 x3.1 o3.2).bind fun x8 => (q20 x8.2.2 x3.1 o3.1).bind fun x9 => (((qM (V := (Int × Int × ttM)) (O := ((Int × ttM) ⊕ Bool)) (fun v2 => cond (decide (v2.2.1 < (o3.2.length : Int))) ((cutB v2.2.1 (IntKind.wrap .i64 (v2.2.1 + 1)) o3.2.length).bind fun _ =>
     (q20 v2.2.2 v2.1 (qk1 o3.2 v2.2.1 (IntKind.wrap .i64 (v2.2.1 + 1)))).bind fun x10 => cond (decide (x10.2.1 ≠ 0)) (some (.inr (.inr false))) (some (.inl (x10.1,(IntKind.wrap .i64 (v2.2.1 + 1)),x10.2.2)))) (some (.inr (.inl (v2.1,v2.2.2))))) (x3.1,0,x9.2.2)) : Option ((Int × ttM) ⊕ Bool))).bind fun o4 => Sum.elim (fun (v3 : (Int × ttM)) =>
   (q20 v3.2 x8.1 o3.2).bind fun x11 => (((cond (decide (x8.2.1 ≠ 0)) (some true) (cond (decide (x9.2.1 ≠ 0)) (some true) (some (decide (x11.2.1 ≠ 0))))) : Option Bool)).bind fun o5 => cond o5 (some false) ((qe2).bind fun x12 => (qk0 x11.2.2 x8.1 x12).bind fun x13 => (qk0 x13.2.2 x9.1 x12).bind fun x14 => (qk0 x14.2.2 v3.1 x12).bind fun x15 =>
    (qk0 x15.2.2 x11.1 x12).bind fun x16 => (((cond x0 ((qi1 x13.1 x14.1).bind fun x17 => cond x17 ((qi1 x13.1 x15.1).bind fun x18 => cond x18 ((qi1 x13.1 x16.1).bind fun x19 => some x19) (some false)) (some false)) (some false)) : Option Bool)).bind fun o6 => some o6)) (fun w0 => some w0) o4)
theorem law07_TreeOrder_ok {a0 : List ttC} {a1 : List ttC} {r : Bool} (h : qV1 a0 a1 = some r) : FnOk Try.prog 3 [.d (eSC a0),.d (eSC a1)] 0 (lk []) (fun rr oo => rr = .d (qU r) ∧ oo = lk []) := by
 refine fnO Try.func3 rfl rfl (cwP ?_)
 unfold qV1 at h
 refine cwS (cwR (
  .c (uA rfl)<|.nil rfl) ?_)
 have ⟨x0,hx0,h0⟩ := bdS (x := ql2) h
 refine cwS (cwR (
  .c (q90 rfl rfl .no Try.func13 rfl rfl (law07_shown_ok hx0) .nil trivial (.inl rfl))<|
  .c (uA rfl)<|.nil rfl) ?_)
 have ⟨x1,hx1,h1⟩ := bdS (x := qz0 6000) h0
 refine cwS (cwR (
  .c (qL4 0 rfl rfl .no Try.func14 rfl rfl (qh3 hx1) (.cons rfl .d .nil) ⟨trivial,trivial⟩ rfl (.inl rfl))<|
  .c (uA rfl)<|.nil rfl) ?_)
 refine cwS ?_
 refine cwS (cwR (
  .c (uM rfl)<|
  .c (o_pnilP rfl rfl .no rfl up24)<|.nil rfl) ?_)
 refine cwF rfl rfl ?_
 refine cwK ?_
 have ⟨x2,hx2,h2⟩ := bdS (x := qZ1 a0 40 40) h1
 have ⟨x3,hx3,h3⟩ := bdS (x := q20 x1 0 x2) h2
 refine cwS (cwR (
  .c (uM rfl)<|
  .c (qG2 rfl rfl .no rfl qU4)<|
  .c (uM rfl)<|
  .c (q90 rfl rfl .no Try.func16 rfl rfl (law07_few_ok hx2) (.cons rfl .d (.cons rfl .d (.cons rfl .d .nil))) ⟨trivial,trivial,trivial,trivial⟩ (.inl rfl))<|
  .c (qF (fun _ => 0) rfl rfl .no Try.func15 rfl rfl (qD0 hx3) (.cons rfl (.ip rfl) (.cons rfl .d (.cons rfl .d .nil))) (qN rfl ⟨(by simp [AV.live,lk,Nat.beq]),trivial,trivial,trivial⟩ rfl (OD.dat_live (q9 _)) (by simp)) (.inl rfl))<|
  .c (uM rfl)<|
  .c (uE rfl)<|
  .c (uE rfl)<|
  .c (uA rfl)<|
  .c (uA rfl)<|.nil rfl) ?_)
 refine cwS ?_
 refine cwS (cwR (
  .c (uM rfl)<|
  .c (uB rfl (qf3 _ _) rfl)<|.nil rfl) ?_)
 rcases cdS h3 with ⟨hc0,h4⟩ | ⟨hc0,h5⟩
 ·refine cwT rfl hc0 ?_
  refine cwS (cwR (
   .c (uA rfl)<|.nil rfl) ?_)
  have heq := ((sJ h4)).symm
  subst heq
  exact qq ⟨_,(show Leads _ _ (St.of [(4,.d (qU false))] []) from .w (wkF ⟨wD rfl,trivial⟩ trivial qC)),.inr rfl,_,res1 rfl rfl,rfl,rfl⟩
 refine cwF rfl hc0 ?_
 refine cwK ?_
 have ⟨x4,hx4,h6⟩ := bdS (x := qZ1 a1 40 40) h5
 refine cwS (cwR (
  .c (uM rfl)<|
  .c (q90 rfl rfl .no Try.func16 rfl rfl (law07_few_ok hx4) (.cons rfl .d (.cons rfl .d (.cons rfl .d .nil))) ⟨trivial,trivial,trivial,trivial⟩ (.inl rfl))<|
  .c (uA rfl)<|.nil rfl) ?_)
 refine cwS (cwR (
  .c (uA rfl)<|.nil rfl) ?_)
 refine cwS (cwR (
  .c (uA rfl)<|.nil rfl) ?_)
 have ⟨o0,hj0,h7⟩ := bdS h6
 refine cwJ (fun (z : ((List ttC) × (List ttC))) => St.of [(5,.d (qU x0)),(6,.ptr 0 0),(7,.d (eint x3.1)),(9,.arr 1 0),(10,.d (eSC z.1))] [(0,.own (qc x3.2.2)),(1,.arr 0 26 (z.2.map eCg))]) (fun (z : ((List ttC) × (List ttC))) => o0 = z) ?_ ?_
 ·intro v0 hv0; subst hv0
  refine cwW (wkF (l := [(5,.d (qU x0)),(6,.ptr 0 0),(7,.d (eint x3.1)),(9,.d (eSC o0.2)),(10,.d (eSC o0.1))]) (m := [(0,.own (qc x3.2.2))]) ⟨wD rfl,⟨_,rfl,.ptro rfl rfl⟩,wD rfl,⟨_,rfl,.frz rfl rfl rfl⟩,wD rfl,trivial⟩ ⟨.own rfl (.of_eq rfl (q9 _)),trivial⟩ qC) ?_
  have ⟨x5,hx5,h8⟩ := bdS (x := q20 x3.2.2 x3.1 o0.2) h7
  refine cwS (cwR (
   .c (uM rfl)<|
   .c (qG2 rfl rfl .no rfl qU4)<|
   .c (uM rfl)<|
   .c (uM rfl)<|
   .c (qF (fun _ => 0) rfl rfl .no Try.func15 rfl rfl (qD0 hx5) (.cons rfl (.ip rfl) (.cons rfl .d (.cons rfl .d .nil))) (qN rfl ⟨(by simp [AV.live,lk,Nat.beq]),trivial,trivial,trivial⟩ rfl (OD.dat_live (q9 _)) (by simp)) (.inl rfl))<|
   .c (uM rfl)<|
   .c (uE rfl)<|
   .c (uE rfl)<|
   .c (uA rfl)<|
   .c (uA rfl)<|.nil rfl) ?_)
  have ⟨x6,hx6,h9⟩ := bdS (x := q20 x5.2.2 x3.1 o0.1) h8
  refine cwS (cwR (
   .c (uM rfl)<|
   .c (qG2 rfl rfl .no rfl qU4)<|
   .c (uM rfl)<|
   .c (uM rfl)<|
   .c (qF (fun _ => 0) rfl rfl .no Try.func15 rfl rfl (qD0 hx6) (.cons rfl (.ip rfl) (.cons rfl .d (.cons rfl .d .nil))) (qN rfl ⟨(by simp [AV.live,lk,Nat.beq]),trivial,trivial,trivial⟩ rfl (OD.dat_live (q9 _)) (by simp)) (.inl rfl))<|
   .c (uM rfl)<|
   .c (uE rfl)<|
   .c (uE rfl)<|
   .c (uA rfl)<|
   .c (uA rfl)<|.nil rfl) ?_)
  refine cwS (cwR (
   .c (uM rfl)<|
   .c (uA rfl)<|.nil rfl) ?_)
  have ⟨o1,hj1,h10⟩ := bdS h9
  refine cwJ (fun (z : (Int × ttM)) => St.of [(5,.d (qU x0)),(6,.ptr 0 0),(9,.d (eSC o0.2)),(14,.d (eint x5.1)),(15,.d (eErr x5.2.1)),(16,.d (eint x6.1)),(17,.d (eErr x6.2.1)),(18,.d (eint z.1))] [(0,.own (qc z.2))]) (fun (z : (Int × ttM)) => o1 = (.inl z)) ?_ ?_
  ·intro v1 hv1; subst hv1
   simp only [Sum.elim_inl] at h10
   have ⟨x7,hx7,h11⟩ := bdS (x := q20 v1.2 x5.1 o0.2) h10
   refine cwS (cwR (
    .c (uM rfl)<|
    .c (qG2 rfl rfl .no rfl qU4)<|
    .c (uM rfl)<|
    .c (uM rfl)<|
    .c (qF (fun _ => 0) rfl rfl .no Try.func15 rfl rfl (qD0 hx7) (.cons rfl (.ip rfl) (.cons rfl .d (.cons rfl .d .nil))) (qN rfl ⟨(by simp [AV.live,lk,Nat.beq]),trivial,trivial,trivial⟩ rfl (OD.dat_live (q9 _)) (by simp)) (.inl rfl))<|
    .c (uM rfl)<|
    .c (uE rfl)<|
    .c (uE rfl)<|
    .c (uA rfl)<|
    .c (uA rfl)<|.nil rfl) ?_)
   refine cwS ?_
   have ⟨o2,hj2,h12⟩ := bdS h11
   refine cwJ (fun (z : Bool) => St.of [(5,.d (qU x0)),(6,.ptr 0 0),(14,.d (eint x5.1)),(16,.d (eint x6.1)),(18,.d (eint v1.1)),(22,.d (eint x7.1)),(145,.d (qU z))] [(0,.own (qc x7.2.2))]) (fun (z : Bool) => o2 = z) ?_ ?_
   ·intro v2 hv2; subst hv2
    rcases cdS h12 with ⟨hc1,h13⟩ | ⟨hc1,h14⟩
    ·refine cwT rfl hc1 ?_
     refine cwS (cwR (
      .c (uA rfl)<|.nil rfl) ?_)
     have heq := ((sJ h13)).symm
     subst heq
     exact qq ⟨_,(show Leads _ _ (St.of [(4,.d (qU false))] []) from .w (wkF ⟨wD rfl,trivial⟩ trivial qC)),.inr rfl,_,res1 rfl rfl,rfl,rfl⟩
    refine cwF rfl hc1 ?_
    refine cwK ?_
    have ⟨x8,hx8,h15⟩ := bdS (x := qe2) h14
    have ⟨x9,hx9,h16⟩ := bdS (x := qk0 x7.2.2 x5.1 x8) h15
    refine cwS (cwR (
     .c (uM rfl)<|
     .c (qG2 rfl rfl .no rfl qU4)<|
     .c (uM rfl)<|
     .c (q90 rfl rfl .no Try.func18 rfl rfl (qp2 hx8) .nil trivial (.inl rfl))<|
     .c (qF (fun _ => 0) rfl rfl .no Try.func17 rfl rfl (qH1 hx9) (.cons rfl (.ip rfl) (.cons rfl .d (.cons rfl .d .nil))) (qN rfl ⟨(by simp [AV.live,lk,Nat.beq]),trivial,trivial,trivial⟩ rfl (OD.dat_live (q9 _)) (by simp)) (.inl rfl))<|
     .c (uM rfl)<|
     .c (uE rfl)<|
     .c (uE rfl)<|
     .c (uA rfl)<|
     .c (uA rfl)<|.nil rfl) ?_)
    have ⟨x10,hx10,h17⟩ := bdS (x := qk0 x9.2.2 x6.1 x8) h16
    refine cwS (cwR (
     .c (uM rfl)<|
     .c (qG2 rfl rfl .no rfl qU4)<|
     .c (uM rfl)<|
     .c (q90 rfl rfl .no Try.func18 rfl rfl (qp2 hx8) .nil trivial (.inl rfl))<|
     .c (qF (fun _ => 0) rfl rfl .no Try.func17 rfl rfl (qH1 hx10) (.cons rfl (.ip rfl) (.cons rfl .d (.cons rfl .d .nil))) (qN rfl ⟨(by simp [AV.live,lk,Nat.beq]),trivial,trivial,trivial⟩ rfl (OD.dat_live (q9 _)) (by simp)) (.inl rfl))<|
     .c (uM rfl)<|
     .c (uE rfl)<|
     .c (uE rfl)<|
     .c (uA rfl)<|
     .c (uA rfl)<|.nil rfl) ?_)
    have ⟨x11,hx11,h18⟩ := bdS (x := qk0 x10.2.2 v1.1 x8) h17
    refine cwS (cwR (
     .c (uM rfl)<|
     .c (qG2 rfl rfl .no rfl qU4)<|
     .c (uM rfl)<|
     .c (q90 rfl rfl .no Try.func18 rfl rfl (qp2 hx8) .nil trivial (.inl rfl))<|
     .c (qF (fun _ => 0) rfl rfl .no Try.func17 rfl rfl (qH1 hx11) (.cons rfl (.ip rfl) (.cons rfl .d (.cons rfl .d .nil))) (qN rfl ⟨(by simp [AV.live,lk,Nat.beq]),trivial,trivial,trivial⟩ rfl (OD.dat_live (q9 _)) (by simp)) (.inl rfl))<|
     .c (uM rfl)<|
     .c (uE rfl)<|
     .c (uE rfl)<|
     .c (uA rfl)<|
     .c (uA rfl)<|.nil rfl) ?_)
    have ⟨x12,hx12,h19⟩ := bdS (x := qk0 x11.2.2 x7.1 x8) h18
    refine cwS (cwR (
     .c (uM rfl)<|
     .c (qG2 rfl rfl .no rfl qU4)<|
     .c (uM rfl)<|
     .c (q90 rfl rfl .no Try.func18 rfl rfl (qp2 hx8) .nil trivial (.inl rfl))<|
     .c (qF (fun _ => 0) rfl rfl .no Try.func17 rfl rfl (qH1 hx12) (.cons rfl (.ip rfl) (.cons rfl .d (.cons rfl .d .nil))) (qN rfl ⟨(by simp [AV.live,lk,Nat.beq]),trivial,trivial,trivial⟩ rfl (OD.dat_live (q9 _)) (by simp)) (.inl rfl))<|
     .c (uM rfl)<|
     .c (uE rfl)<|
     .c (uE rfl)<|
     .c (uA rfl)<|
     .c (uA rfl)<|.nil rfl) ?_)
    have ⟨o3,hj3,h20⟩ := bdS h19
    refine cwJ (fun (z : Bool) => St.of [(4,.d (qU z))] []) (fun (z : Bool) => o3 = z) ?_ ?_
    ·intro v3 hv3; subst hv3
     have heq := ((sJ h20)).symm
     subst heq
     exact qq ⟨_,(show Leads _ _ (St.of [(4,.d (qU o3))] []) from .w (wkF ⟨wD rfl,trivial⟩ trivial qC)),.inr rfl,_,res1 rfl rfl,rfl,rfl⟩
    rcases cdS hj3 with ⟨hc2,h21⟩ | ⟨hc2,h22⟩
    ·skip
     have ⟨x13,hx13,h23⟩ := bdS (x := qi1 x9.1 x10.1) h21
     rcases cdS h23 with ⟨hc3,h24⟩ | ⟨hc3,h25⟩
     ·skip
      have ⟨x14,hx14,h26⟩ := bdS (x := qi1 x9.1 x11.1) h24
      rcases cdS h26 with ⟨hc4,h27⟩ | ⟨hc4,h28⟩
      ·skip
       have ⟨x15,hx15,h29⟩ := bdS (x := qi1 x9.1 x12.1) h27
       refine cwR (
        .c (uM rfl)<|
        .c (uM rfl)<|
        .c (o_mv rfl rfl (.yes rfl rfl hc2) rfl)<|
        .c (o_mv rfl rfl (.yes rfl rfl hc2) rfl)<|
        .c (q90 rfl rfl (.yes rfl rfl hc2) Try.func19 rfl rfl (qn1 hx13) (.cons rfl .d (.cons rfl .d .nil)) ⟨trivial,trivial,trivial⟩ (.inl rfl))<|
        .c (uPT rfl hc2)<|
        .c (uM rfl)<|
        .c (o_mv rfl rfl (.yes rfl rfl hc3) rfl)<|
        .c (o_mv rfl rfl (.yes rfl rfl hc3) rfl)<|
        .c (q90 rfl rfl (.yes rfl rfl hc3) Try.func19 rfl rfl (qn1 hx14) (.cons rfl .d (.cons rfl .d .nil)) ⟨trivial,trivial,trivial⟩ (.inl rfl))<|
        .c (uPT rfl hc3)<|
        .c (uM rfl)<|
        .c (o_mv rfl rfl (.yes rfl rfl hc4) rfl)<|
        .c (o_mv rfl rfl (.yes rfl rfl hc4) rfl)<|
        .c (q90 rfl rfl (.yes rfl rfl hc4) Try.func19 rfl rfl (qn1 hx15) (.cons rfl .d (.cons rfl .d .nil)) ⟨trivial,trivial,trivial⟩ (.inl rfl))<|
        .c (uPT rfl hc4)<|
        .c (uA rfl)<|.nil rfl
       ) ?_
       exact ⟨x15,(sJ h29),.w (wkF ⟨wD rfl,trivial⟩ trivial qC)⟩
      refine cwR (
       .c (uM rfl)<|
       .c (uM rfl)<|
       .c (o_mv rfl rfl (.yes rfl rfl hc2) rfl)<|
       .c (o_mv rfl rfl (.yes rfl rfl hc2) rfl)<|
       .c (q90 rfl rfl (.yes rfl rfl hc2) Try.func19 rfl rfl (qn1 hx13) (.cons rfl .d (.cons rfl .d .nil)) ⟨trivial,trivial,trivial⟩ (.inl rfl))<|
       .c (uPT rfl hc2)<|
       .c (uM rfl)<|
       .c (o_mv rfl rfl (.yes rfl rfl hc3) rfl)<|
       .c (o_mv rfl rfl (.yes rfl rfl hc3) rfl)<|
       .c (q90 rfl rfl (.yes rfl rfl hc3) Try.func19 rfl rfl (qn1 hx14) (.cons rfl .d (.cons rfl .d .nil)) ⟨trivial,trivial,trivial⟩ (.inl rfl))<|
       .c (uPT rfl hc3)<|
       .c (uM rfl)<|
       .c (uN rfl rfl hc4)<|
       .c (uN rfl rfl hc4)<|
       .c (uN rfl rfl hc4)<|
       .c (uPF rfl hc4)<|
       .c (uA rfl)<|.nil rfl
      ) ?_
      exact ⟨false,(sJ h28),.w (wkF ⟨wD rfl,trivial⟩ trivial qC)⟩
     refine cwR (
      .c (uM rfl)<|
      .c (uM rfl)<|
      .c (o_mv rfl rfl (.yes rfl rfl hc2) rfl)<|
      .c (o_mv rfl rfl (.yes rfl rfl hc2) rfl)<|
      .c (q90 rfl rfl (.yes rfl rfl hc2) Try.func19 rfl rfl (qn1 hx13) (.cons rfl .d (.cons rfl .d .nil)) ⟨trivial,trivial,trivial⟩ (.inl rfl))<|
      .c (uPT rfl hc2)<|
      .c (uM rfl)<|
      .c (uN rfl rfl hc3)<|
      .c (uN rfl rfl hc3)<|
      .c (uN rfl rfl hc3)<|
      .c (uPF rfl hc3)<|
      .c (uM rfl)<|
      .c (uN rfl rfl rfl)<|
      .c (uN rfl rfl rfl)<|
      .c (uN rfl rfl rfl)<|
      .c (uPF rfl rfl)<|
      .c (uA rfl)<|.nil rfl
     ) ?_
     exact ⟨false,(sJ h25),.w (wkF ⟨wD rfl,trivial⟩ trivial qC)⟩
    refine cwR (
     .c (uM rfl)<|
     .c (uM rfl)<|
     .c (uN rfl rfl hc2)<|
     .c (uN rfl rfl hc2)<|
     .c (uN rfl rfl hc2)<|
     .c (uPF rfl hc2)<|
     .c (uM rfl)<|
     .c (uN rfl rfl rfl)<|
     .c (uN rfl rfl rfl)<|
     .c (uN rfl rfl rfl)<|
     .c (uPF rfl rfl)<|
     .c (uM rfl)<|
     .c (uN rfl rfl rfl)<|
     .c (uN rfl rfl rfl)<|
     .c (uN rfl rfl rfl)<|
     .c (uPF rfl rfl)<|
     .c (uA rfl)<|.nil rfl
    ) ?_
    exact ⟨false,(sJ h22),.w (wkF ⟨wD rfl,trivial⟩ trivial qC)⟩
   rcases cdS hj2 with ⟨hc5,h30⟩ | ⟨hc5,h31⟩
   ·skip
    refine cwR (
     .c (uM rfl)<|
     .c (uB rfl (qf3 _ _) rfl)<|
     .c (uM rfl)<|
     .c (uN rfl rfl hc5)<|
     .c (uN rfl rfl hc5)<|
     .c (uPT rfl hc5)<|
     .c (uM rfl)<|
     .c (uN rfl rfl rfl)<|
     .c (uN rfl rfl rfl)<|
     .c (uPT rfl rfl)<|.nil rfl
    ) ?_
    exact ⟨true,(sJ h30),.w (wkF ⟨wD rfl,⟨_,rfl,.ptro rfl rfl⟩,wD rfl,wD rfl,wD rfl,wD rfl,wD rfl,trivial⟩ ⟨.own rfl (.of_eq rfl (q9 _)),trivial⟩ qC)⟩
   rcases cdS h31 with ⟨hc6,h32⟩ | ⟨hc6,h33⟩
   ·skip
    refine cwR (
     .c (uM rfl)<|
     .c (uB rfl (qf3 _ _) rfl)<|
     .c (uM rfl)<|
     .c (o_mv rfl rfl (.yes rfl rfl hc5) rfl)<|
     .c (qk rfl rfl (.yes rfl rfl hc5) rfl rfl (qf3 _ _) rfl)<|
     .c (uPF rfl hc5)<|
     .c (uM rfl)<|
     .c (uN rfl rfl hc6)<|
     .c (uN rfl rfl hc6)<|
     .c (uPT rfl hc6)<|.nil rfl
    ) ?_
    exact ⟨true,(sJ h32),.w (wkF ⟨wD rfl,⟨_,rfl,.ptro rfl rfl⟩,wD rfl,wD rfl,wD rfl,wD rfl,wD rfl,trivial⟩ ⟨.own rfl (.of_eq rfl (q9 _)),trivial⟩ qC)⟩
   refine cwR (
    .c (uM rfl)<|
    .c (uB rfl (qf3 _ _) rfl)<|
    .c (uM rfl)<|
    .c (o_mv rfl rfl (.yes rfl rfl hc5) rfl)<|
    .c (qk rfl rfl (.yes rfl rfl hc5) rfl rfl (qf3 _ _) rfl)<|
    .c (uPF rfl hc5)<|
    .c (uM rfl)<|
    .c (o_mv rfl rfl (.yes rfl rfl hc6) rfl)<|
    .c (qk rfl rfl (.yes rfl rfl hc6) rfl rfl (qf3 _ _) rfl)<|
    .c (uPF rfl hc6)<|.nil rfl
   ) ?_
   exact ⟨(decide (x7.2.1 ≠ 0)),(sJ h33),.w (wkF ⟨wD rfl,⟨_,rfl,.ptro rfl rfl⟩,wD rfl,wD rfl,wD rfl,wD rfl,wD rfl,trivial⟩ ⟨.own rfl (.of_eq rfl (q9 _)),trivial⟩ qC)⟩
  refine cwS (cwR (
   .c (uA rfl)<|.nil rfl) ?_)
  refine cwB ?_
  refine qE (V := (Int × Int × ttM)) (O := ((Int × ttM) ⊕ Bool)) (fun (z : (Int × Int × ttM)) => St.of [(5,.d (qU x0)),(6,.ptr 0 0),(9,.d (eSC o0.2)),(14,.d (eint x5.1)),(15,.d (eErr x5.2.1)),(16,.d (eint x6.1)),(17,.d (eErr x6.2.1)),(18,.d (eint z.1)),(19,.d (eint z.2.1))] [(0,.own (qc z.2.2))]) hj1 (.w (wkF ⟨wD rfl,⟨_,rfl,.ptro rfl rfl⟩,wD rfl,wD rfl,wD rfl,wD rfl,wD rfl,wD rfl,wD rfl,trivial⟩ ⟨.own rfl (.of_eq rfl (q9 _)),trivial⟩ qC)) ?_
  intro v4 x16 hb0 hx16
  refine cwS ?_
  refine cwS (cwR (
   .c (uM rfl)<|
   .c (uM rfl)<|
   .c (qV (enc := eCg) (xs := o0.2) rfl rfl .no rfl sl22)<|
   .c (uB rfl (qB0 _ _) rfl)<|.nil rfl) ?_)
  rcases cdS hb0 with ⟨hc7,h34⟩ | ⟨hc7,h35⟩
  ·refine cwT rfl hc7 ?_
   refine cwK ?_
   refine cwS ?_
   refine cwB ?_
   have ⟨x17,hx17,h36⟩ := bdS h34
   have hx17g := qg2 hx17
   have ⟨x18,hx18,h37⟩ := bdS (x := q20 v4.2.2 v4.1 (qk1 o0.2 v4.2.1 (IntKind.wrap .i64 (v4.2.1 + 1)))) h36
   refine cwS (cwR (
    .c (uM rfl)<|
    .c (qG2 rfl rfl .no rfl qU4)<|
    .c (uM rfl)<|
    .c (uM rfl)<|
    .c (uM rfl)<|
    .c (uM rfl)<|
    .c (uB rfl (qG0 _ _) rfl)<|
    .c (o_slM (enc := eCg) (xs := o0.2) rfl rfl .no rfl sl22 sz33 (.val rfl hx17g.1) (.val rfl hx17g.2.1) hx17g.2.2.1 hx17g.2.2.2)<|
    .c (qF (fun _ => 0) rfl rfl .no Try.func15 rfl rfl (qD0 hx18) (.cons rfl (.ip rfl) (.cons rfl .d (.cons rfl .d .nil))) (qN rfl ⟨(by simp [AV.live,lk,Nat.beq]),trivial,trivial,trivial⟩ rfl (OD.dat_live (q9 _)) (by simp)) (.inl rfl))<|
    .c (uM rfl)<|
    .c (uE rfl)<|
    .c (uE rfl)<|
    .c (uA rfl)<|
    .c (uA rfl)<|.nil rfl) ?_)
   refine cwS ?_
   refine cwS (cwR (
    .c (uM rfl)<|
    .c (uB rfl (qf3 _ _) rfl)<|.nil rfl) ?_)
   rcases cdS h37 with ⟨hc8,h38⟩ | ⟨hc8,h39⟩
   ·refine cwT rfl hc8 ?_
    refine cwS (cwR (
     .c (uA rfl)<|.nil rfl) ?_)
    have he0 := ((hx16 _ (sJ h38)).symm).symm
    subst he0
    have heq := ((sJ h10)).symm
    subst heq
    exact qq ⟨_,(show Leads _ _ (St.of [(4,.d (qU false))] []) from .w (wkF ⟨wD rfl,trivial⟩ trivial qC)),.inr rfl,_,res1 rfl rfl,rfl,rfl⟩
   refine cwF rfl hc8 ?_
   refine cwK ?_
   refine cwR (
    .c (uM rfl)<|
    .c (uA rfl)<|.nil rfl
   ) ?_
   refine cwR (
    .c (uM rfl)<|
    .c (uB rfl (qG0 _ _) rfl)<|
    .c (uA rfl)<|.nil rfl
   ) ?_
   exact ⟨(x18.1,(IntKind.wrap .i64 (v4.2.1 + 1)),x18.2.2),(sJ h39),.w (wkF ⟨wD rfl,⟨_,rfl,.ptro rfl rfl⟩,wD rfl,wD rfl,wD rfl,wD rfl,wD rfl,wD rfl,wD rfl,trivial⟩ ⟨.own rfl (.of_eq rfl (q9 _)),trivial⟩ qC)⟩
  refine cwF rfl hc7 ?_
  refine qY ?_
  exact ⟨(v4.1,v4.2.2),(hx16 _ (sJ h35)).symm,.w (wkF ⟨wD rfl,⟨_,rfl,.ptro rfl rfl⟩,wD rfl,wD rfl,wD rfl,wD rfl,wD rfl,wD rfl,trivial⟩ ⟨.own rfl (.of_eq rfl (q9 _)),trivial⟩ qC)⟩
 refine cwS (cwR (
  .c (uA rfl)<|.nil rfl) ?_)
 refine cwB ?_
 refine qE (V := ((List ttC) × Int × (List ttC))) (O := ((List ttC) × (List ttC))) (fun (z : ((List ttC) × Int × (List ttC))) => St.of [(1,.d (eSC x4)),(5,.d (qU x0)),(6,.ptr 0 0),(7,.d (eint x3.1)),(9,.arr 1 0),(10,.d (eSC z.1)),(11,.d (eint z.2.1))] [(0,.own (qc x3.2.2)),(1,.arr 0 26 (z.2.2.map eCg))]) hj0 (.w (wkF ⟨wD rfl,wD rfl,⟨_,rfl,.ptro rfl rfl⟩,wD rfl,⟨_,rfl,.nila rfl rfl⟩,⟨_,rfl,.nil0⟩,wD rfl,trivial⟩ ⟨.own rfl (.of_eq rfl (q9 _)),.nil rfl,trivial⟩ qC)) ?_
 intro v5 x19 hb1 hx19
 refine cwS ?_
 refine cwS (cwR (
  .c (uM rfl)<|
  .c (uM rfl)<|
  .c (qV (enc := eCg) (xs := x4) rfl rfl .no rfl sl22)<|
  .c (uB rfl (qB0 _ _) rfl)<|.nil rfl) ?_)
 rcases cdS hb1 with ⟨hc9,h40⟩ | ⟨hc9,h41⟩
 ·refine cwT rfl hc9 ?_
  refine cwK ?_
  have ⟨o4,hj4,h42⟩ := bdS h40
  refine cwJ (fun (z : ((List ttC) × (List ttC))) => St.of [(1,.d (eSC x4)),(5,.d (qU x0)),(6,.ptr 0 0),(7,.d (eint x3.1)),(9,.arr 1 0),(10,.d (eSC z.1)),(11,.d (eint v5.2.1))] [(0,.own (qc x3.2.2)),(1,.arr 0 26 (z.2.map eCg))]) (fun (z : ((List ttC) × (List ttC))) => o4 = z) ?_ ?_
  ·intro v6 hv4; subst hv4
   refine cwR (
    .c (uM rfl)<|
    .c (uB rfl (qG0 _ _) rfl)<|
    .c (uA rfl)<|.nil rfl
   ) ?_
   exact ⟨(o4.1,(IntKind.wrap .i64 (v5.2.1 + 1)),o4.2),(sJ h42),.w (wkF ⟨wD rfl,wD rfl,⟨_,rfl,.ptro rfl rfl⟩,wD rfl,⟨_,rfl,.arr rfl rfl⟩,wD rfl,wD rfl,trivial⟩ ⟨.own rfl (.of_eq rfl (q9 _)),.arr rfl rfl,trivial⟩ qC)⟩
  refine cwB ?_
  refine cwS (cwR (
   .c (uA rfl)<|.nil rfl) ?_)
  have ⟨o5,hj5,h43⟩ := bdS hj4
  refine cwJ (fun (z : Bool) => St.of [(1,.d (eSC x4)),(5,.d (qU x0)),(6,.ptr 0 0),(7,.d (eint x3.1)),(9,.arr 1 0),(10,.d (eSC v5.1)),(11,.d (eint v5.2.1)),(12,.d (qU z))] [(0,.own (qc x3.2.2)),(1,.arr 0 26 (v5.2.2.map eCg))]) (fun (z : Bool) => o5 = z) ?_ ?_
  ·intro v7 hv5; subst hv5
   refine cwS (cwR (
    .c (uM rfl)<|
    .c (uT rfl)<|.nil rfl) ?_)
   rcases cdS h43 with ⟨hc10,h44⟩ | ⟨hc10,h45⟩
   ·refine cwT rfl hc10 ?_
    have ⟨x20,hx20,h46⟩ := bdS h44
    have hx20g := qA hx20
    have ⟨x21,hx21,h47⟩ := bdS h46
    have hx21g := qc0 hx21
    refine cwS (cwR (
     .c (uM rfl)<|
     .c (uM rfl)<|
     .c (uM rfl)<|
     .c (qI1 (enc := eCg) (xs := x4) rfl rfl .no rfl rfl sl22 sz33 hx20g.1 hx20g.2)<|
     .c (o_ld rfl rfl .no rfl ta33 rfl rfl)<|
     .c (qW4 (rows := ([x20] : List ttC).map eCg) rfl rfl .no (.cons rfl .nil) rfl sl22 sz33 ze33 rfl (qJ1 qZ) (by decide))<|
     .c (qf2 (enc := eCg) (xs := v5.2.2) (ys := [x20]) rfl rfl .no rfl rfl rfl qZ sl22 sl22 sz33 by33 ze33 rfl (by decide) hx21g)<|
     .c (uA rfl)<|.nil rfl) ?_)
    have ⟨x22,hx22,h48⟩ := bdS h47
    have hx22g := qc0 hx22
    refine cwR (
     .c (uM rfl)<|
     .c (uM rfl)<|
     .c (qI1 (enc := eCg) (xs := x4) rfl rfl .no rfl rfl sl22 sz33 hx20g.1 hx20g.2)<|
     .c (o_ld rfl rfl .no rfl ta33 rfl rfl)<|
     .c (o_bslO (rows := ([x20] : List ttC).map eCg) 2 rfl rfl .no (.cons rfl .nil) rfl sl22 sz33 ze33 rfl (qJ1 qZ) (by decide) rfl)<|
     .c (uM rfl)<|
     .c (qf2 (enc := eCg) (xs := [x20]) (ys := v5.1) rfl rfl .no rfl rfl rfl qZ sl22 sl22 sz33 by33 ze33 rfl (by decide) hx22g)<|
     .c (uA rfl)<|.nil rfl
    ) ?_
    exact ⟨(([x20] ++ v5.1),(v5.2.2 ++ [x20])),(sJ h48),.w (wkF ⟨wD rfl,wD rfl,⟨_,rfl,.ptro rfl rfl⟩,wD rfl,⟨_,rfl,.arr rfl rfl⟩,⟨_,rfl,.frz rfl rfl rfl⟩,wD rfl,trivial⟩ ⟨.own rfl (.of_eq rfl (q9 _)),.arr0 rfl rfl rfl,trivial⟩ qC)⟩
   refine cwF rfl hc10 ?_
   refine cwK ?_
   exact ⟨(v5.1,v5.2.2),(sJ h45),.w (wkF ⟨wD rfl,wD rfl,⟨_,rfl,.ptro rfl rfl⟩,wD rfl,⟨_,rfl,.arr rfl rfl⟩,wD rfl,wD rfl,trivial⟩ ⟨.own rfl (.of_eq rfl (q9 _)),.arr rfl rfl,trivial⟩ qC)⟩
  refine cwS (cwR (
   .c (uA rfl)<|.nil rfl) ?_)
  refine cwB ?_
  refine qE (V := (Bool × Int)) (O := Bool) (fun (z : (Bool × Int)) => St.of [(1,.d (eSC x4)),(5,.d (qU x0)),(6,.ptr 0 0),(7,.d (eint x3.1)),(9,.arr 1 0),(10,.d (eSC v5.1)),(11,.d (eint v5.2.1)),(12,.d (qU z.1)),(13,.d (eint z.2))] [(0,.own (qc x3.2.2)),(1,.arr 0 26 (v5.2.2.map eCg))]) hj5 (.w (wkF ⟨wD rfl,wD rfl,⟨_,rfl,.ptro rfl rfl⟩,wD rfl,⟨_,rfl,.arr rfl rfl⟩,wD rfl,wD rfl,wD rfl,wD rfl,trivial⟩ ⟨.own rfl (.of_eq rfl (q9 _)),.arr rfl rfl,trivial⟩ qC)) ?_
  intro v8 x23 hb2 hx23
  refine cwS ?_
  refine cwS (cwR (
   .c (uM rfl)<|
   .c (uM rfl)<|
   .c (o_lenAM (enc := eCg) (xs := v5.2.2) rfl rfl .no rfl rfl sl22)<|
   .c (uB rfl (qB0 _ _) rfl)<|.nil rfl) ?_)
  rcases cdS hb2 with ⟨hc11,h49⟩ | ⟨hc11,h50⟩
  ·refine cwT rfl hc11 ?_
   refine cwK ?_
   refine cwS ?_
   refine cwB ?_
   have ⟨o6,hj6,h51⟩ := bdS h49
   refine qO4 (fun (z : Bool) => St.of [(1,.d (eSC x4)),(5,.d (qU x0)),(6,.ptr 0 0),(7,.d (eint x3.1)),(9,.arr 1 0),(10,.d (eSC v5.1)),(11,.d (eint v5.2.1)),(12,.d (qU z)),(13,.d (eint v8.2))] [(0,.own (qc x3.2.2)),(1,.arr 0 26 (v5.2.2.map eCg))]) (fun (z : Bool) => o6 = z) ?_ ?_
   ·intro v9 hv6; subst hv6
    refine cwR (
     .c (uM rfl)<|
     .c (uB rfl (qG0 _ _) rfl)<|
     .c (uA rfl)<|.nil rfl
    ) ?_
    exact ⟨(o6,(IntKind.wrap .i64 (v8.2 + 1))),(sJ h51),.w (wkF ⟨wD rfl,wD rfl,⟨_,rfl,.ptro rfl rfl⟩,wD rfl,⟨_,rfl,.arr rfl rfl⟩,wD rfl,wD rfl,wD rfl,wD rfl,trivial⟩ ⟨.own rfl (.of_eq rfl (q9 _)),.arr rfl rfl,trivial⟩ qC)⟩
   rcases cdS hj6 with ⟨hc12,h52⟩ | ⟨hc12,h53⟩
   ·skip
    refine cwRA mixed (by kernel_rfl) (
     .c (uM rfl)<|
     .c (uM rfl)<|
     .c (uN rfl rfl hc12)<|
     .c (uN rfl rfl hc12)<|
     .c (uN rfl rfl hc12)<|
     .c (uN rfl rfl hc12)<|
     .c (uN rfl rfl hc12)<|
     .c (uN rfl rfl hc12)<|
     .c (uN rfl rfl hc12)<|
     .c (uN rfl rfl hc12)<|
     .c (uN rfl rfl hc12)<|
     .c (uN rfl rfl hc12)<|
     .c (uN rfl rfl hc12)<|
     .c (uPT rfl hc12)<|
     .c (uA rfl)<|.nil rfl) (by kernel_rfl) ?_
    exact ⟨true,(sJ h52),.w (wkF ⟨wD rfl,wD rfl,⟨_,rfl,.ptro rfl rfl⟩,wD rfl,⟨_,rfl,.arr rfl rfl⟩,wD rfl,wD rfl,wD rfl,wD rfl,trivial⟩ ⟨.own rfl (.of_eq rfl (q9 _)),.arr rfl rfl,trivial⟩ qC)⟩
   have ⟨x24,hx24,h54⟩ := bdS h53
   have hx24g := qA hx24
   have ⟨x25,hx25,h55⟩ := bdS h54
   have hx25g := qA hx25
   refine cwRA mixed (by kernel_rfl) (
    .c (uM rfl)<|
    .c (uM rfl)<|
    .c (o_mv rfl rfl (.yes rfl rfl hc12) rfl)<|
    .c (o_mv rfl rfl (.yes rfl rfl hc12) rfl)<|
    .c (qQ1 (enc := eCg) (xs := v5.2.2) rfl rfl (.yes rfl rfl hc12) rfl rfl rfl sl22 sz33 hx24g.1 hx24g.2)<|
    .c (o_fldE rfl rfl (.yes rfl rfl hc12) rfl rfl qR3 (by decide))<|
    .c (q13 (enc := eCg) (xs := v5.2.2) (r := x24) [0] rfl rfl (.yes rfl rfl hc12) rfl rfl hx24g.2 rfl ta31 rfl rfl)<|
    .c (o_mv rfl rfl (.yes rfl rfl hc12) rfl)<|
    .c (o_mv rfl rfl (.yes rfl rfl hc12) rfl)<|
    .c (qI1 (enc := eCg) (xs := x4) rfl rfl (.yes rfl rfl hc12) rfl rfl sl22 sz33 hx25g.1 hx25g.2)<|
    .c (qi2 rfl rfl (.yes rfl rfl hc12) rfl qR3 (by decide) rfl rfl)<|
    .c (o_ld rfl rfl (.yes rfl rfl hc12) rfl ta31 rfl rfl)<|
    .c (o_eq rfl rfl (.yes rfl rfl hc12) rfl rfl rfl rfl eg31 (.bs ar31 un5 sz5))<|
    .c (uPF rfl hc12)<|
    .c (uA rfl)<|.nil rfl) (by kernel_rfl) ?_
   exact ⟨(decide (x24.1 = x25.1)),(sJ h55),.w (wkF ⟨wD rfl,wD rfl,⟨_,rfl,.ptro rfl rfl⟩,wD rfl,⟨_,rfl,.arr rfl rfl⟩,wD rfl,wD rfl,wD rfl,wD rfl,trivial⟩ ⟨.own rfl (.of_eq rfl (q9 _)),.arr rfl rfl,trivial⟩ qC)⟩
  refine cwF rfl hc11 ?_
  refine qY ?_
  exact ⟨v8.1,(hx23 _ (sJ h50)).symm,.w (wkF ⟨wD rfl,wD rfl,⟨_,rfl,.ptro rfl rfl⟩,wD rfl,⟨_,rfl,.arr rfl rfl⟩,wD rfl,wD rfl,wD rfl,trivial⟩ ⟨.own rfl (.of_eq rfl (q9 _)),.arr rfl rfl,trivial⟩ qC)⟩
 refine cwF rfl hc9 ?_
 refine qY ?_
 exact ⟨(v5.1,v5.2.2),(hx19 _ (sJ h41)).symm,.w (wkF ⟨wD rfl,⟨_,rfl,.ptro rfl rfl⟩,wD rfl,⟨_,rfl,.arr rfl rfl⟩,wD rfl,trivial⟩ ⟨.own rfl (.of_eq rfl (q9 _)),.arr rfl rfl,trivial⟩ qC)⟩
end
end Go.Val
