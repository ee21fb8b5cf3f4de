/- Walks of the program's functions,printed. -/
import Derived.Test.YtfbnhflapgddbaaWi
set_option linter.unusedSectionVars false
set_option linter.unusedVariables false
set_option linter.unusedSimpArgs false
set_option maxRecDepth 100000
namespace Go.Val
open Go.RowKit Go.Proofs
section
variable [NoDrw]
noncomputable def qT1 (a0 : List ttC) (a1 : List UInt8) (a2 : List UInt8) (a3 : List UInt8) : Option Bool := (qe2).bind fun x0 => (qL1 a0).bind fun x1 => cond (!x1.2.2) (some false) (((((q51 a2 a1).bind fun x2 => cond x2 (some (a2,a1)) (some (a1,a2))) : Option (B8 × B8))).bind fun o0 => ((((q51 a3 o0.2).bind fun x3 => cond x3 (some (a3,o0.2)) (
    some (o0.2,a3))) : Option (B8 × B8))).bind fun o1 => ((((q51 o1.1 o0.1).bind fun x4 => cond x4 (some (o1.1,o0.1)) (some (o0.1,o1.1))) : Option (B8 × B8))).bind fun o2 => (qj0 x1.1 x1.2.1 (o2.1,o2.2,false)).bind fun x5 => (qj0 x5.2.2 x1.2.1 (o2.2,o1.2,false)).bind fun x6 => (qj0 x6.2.2 x1.2.1 (o2.1,o1.2,false)).bind fun x7 =>
  (qj0 x7.2.2 x1.2.1 (o1.2,o2.1,false)).bind fun x8 => (fits (([] : List ttR).length + x5.1.length) 40).bind fun _ => (fits ((([] : List ttR) ++ x5.1).length + x6.1.length) 40).bind fun _ => (((cond x0 (cond (decide (x5.2.1 = 0)) (cond (decide (x6.2.1 = 0)) (cond (decide (x7.2.1 = 0)) (cond (decide (x8.2.1 = 0)) ((qR2 ((([] : List ttR) ++ x5.1) ++ x6.1) x7.1).bind fun x9 =>
        cond x9 (some (decide ((x8.1.length : Int) = 0))) (some false)) (some false)) (some false)) (some false)) (some false)) (some false)) : Option Bool)).bind fun o3 => some o3)
theorem law07_TreeScans_ok {a0 : List ttC} {a1 : List UInt8} {a2 : List UInt8} {a3 : List UInt8} {r : Bool} (h : qT1 a0 a1 a2 a3 = some r) : FnOk Try.prog 9 [.d (eSC a0),.d (eK a1),.d (eK a2),.d (eK a3)] 0 (lk []) (fun rr oo => rr = .d (qT r) ∧ oo = lk []) := by
 refine fnO Try.func9 rfl rfl (cwP ?_)
 unfold qT1 at h
 refine cwS (cwR (
  .c (uX 0 rfl)<|
  .c (uX 1 rfl)<|
  .c (uX 2 rfl)<|
  .c (uA rfl)<|.nil rfl) ?_)
 have ⟨x0,hx0,h0⟩ := bdS (x := qe2) h
 refine cwS (cwR (
  .c (qe0 rfl rfl .no Try.func13 rfl rfl (law07_shown_ok hx0) .nil trivial (.inl rfl))<|
  .c (uA rfl)<|.nil rfl) ?_)
 have ⟨x1,hx1,h1⟩ := bdS (x := qL1 a0) h0
 refine cwS (cwR (
  .c (uM rfl)<|
  .c (qG4 3 rfl rfl .no Try.func29 rfl rfl (law07_grown_ok hx1) (.cons rfl .d .nil) ⟨trivial,trivial⟩ rfl (.inl rfl))<|
  .c (uM rfl)<|
  .c (uE rfl)<|
  .c (uE rfl)<|
  .c (uE rfl)<|
  .c (uA rfl)<|
  .c (uA rfl)<|
  .c (uA rfl)<|.nil rfl) ?_)
 refine cwS ?_
 refine cwS (cwR (
  .c (uM rfl)<|
  .c (uT rfl)<|.nil rfl) ?_)
 rcases cdS h1 with ⟨hc0,h2⟩ | ⟨hc0,h3⟩
 ·refine cwT rfl hc0 ?_
  refine cwS (cwR (
   .c (uA rfl)<|.nil rfl) ?_)
  have heq := ((sJ h2)).symm
  subst heq
  exact qq ⟨_,(show Leads _ _ (St.of [(8,.d (qT false))] []) from .w (wkF ⟨wD rfl,trivial⟩ trivial qC)),.inr rfl,_,res1 rfl rfl,rfl,rfl⟩
 refine cwF rfl hc0 ?_
 refine cwK ?_
 have ⟨o0,hj0,h4⟩ := bdS h3
 refine cwJ (fun (z : (B8 × B8)) => St.of [(5,.ptr 0 0),(6,.ptr 1 0),(7,.ptr 2 0),(9,.d (qT x0)),(10,.ptr 3 0),(11,.d (eint x1.2.1))] [(0,.box (.d (eK z.1))),(1,.box (.d (eK z.2))),(2,.box (.d (eK a3))),(3,.own (qc x1.1))]) (fun (z : (B8 × B8)) => o0 = z) ?_ ?_
 ·intro v0 hv0; subst hv0
  have ⟨o1,hj1,h5⟩ := bdS h4
  refine cwJ (fun (z : (B8 × B8)) => St.of [(5,.ptr 0 0),(6,.ptr 1 0),(7,.ptr 2 0),(9,.d (qT x0)),(10,.ptr 3 0),(11,.d (eint x1.2.1))] [(0,.box (.d (eK o0.1))),(1,.box (.d (eK z.1))),(2,.box (.d (eK z.2))),(3,.own (qc x1.1))]) (fun (z : (B8 × B8)) => o1 = z) ?_ ?_
  ·intro v1 hv1; subst hv1
   have ⟨o2,hj2,h6⟩ := bdS h5
   refine cwJ (fun (z : (B8 × B8)) => St.of [(5,.ptr 0 0),(6,.ptr 1 0),(7,.ptr 2 0),(9,.d (qT x0)),(10,.ptr 3 0),(11,.d (eint x1.2.1))] [(0,.box (.d (eK z.1))),(1,.box (.d (eK z.2))),(2,.box (.d (eK o1.2))),(3,.own (qc x1.1))]) (fun (z : (B8 × B8)) => o2 = z) ?_ ?_
   ·intro v2 hv2; subst hv2
    have ⟨x2,hx2,h7⟩ := bdS (x := qj0 x1.1 x1.2.1 (o2.1,o2.2,false)) h6
    refine cwS (cwR (
     .c (uM rfl)<|
     .c (qq3 rfl rfl .no rfl qU4)<|
     .c (uM rfl)<|
     .c (uL [] rfl ta31 rfl)<|
     .c (uL [] rfl ta31 rfl)<|
     .c (qS4 (ds := [eK o2.1,eK o2.2,qT false]) rfl rfl .no zs38 rfl pl38 (.cons rfl rfl rfl rfl rfl rfl rfl (.cons rfl rfl rfl rfl rfl rfl rfl .nil)))<|
     .c (qH (fun _ => 3) rfl rfl .no Try.func17 rfl rfl (qt1 hx2) (.cons rfl (.ip rfl) (.cons rfl .d (.cons rfl .d .nil))) (qW rfl ⟨(by simp [AV.live,lk,Nat.beq]),trivial,trivial,trivial⟩ rfl (OD.dat_live (q9 _)) (by simp)) (.inl rfl))<|
     .c (uM rfl)<|
     .c (uE rfl)<|
     .c (uE rfl)<|
     .c (uA rfl)<|
     .c (uA rfl)<|.nil rfl) ?_)
    have ⟨x3,hx3,h8⟩ := bdS (x := qj0 x2.2.2 x1.2.1 (o2.2,o1.2,false)) h7
    refine cwS (cwR (
     .c (uM rfl)<|
     .c (qq3 rfl rfl .no rfl qU4)<|
     .c (uM rfl)<|
     .c (uL [] rfl ta31 rfl)<|
     .c (uL [] rfl ta31 rfl)<|
     .c (qS4 (ds := [eK o2.2,eK o1.2,qT false]) rfl rfl .no zs38 rfl pl38 (.cons rfl rfl rfl rfl rfl rfl rfl (.cons rfl rfl rfl rfl rfl rfl rfl .nil)))<|
     .c (qH (fun _ => 3) rfl rfl .no Try.func17 rfl rfl (qt1 hx3) (.cons rfl (.ip rfl) (.cons rfl .d (.cons rfl .d .nil))) (qW rfl ⟨(by simp [AV.live,lk,Nat.beq]),trivial,trivial,trivial⟩ rfl (OD.dat_live (q9 _)) (by simp)) (.inl rfl))<|
     .c (uM rfl)<|
     .c (uE rfl)<|
     .c (uE rfl)<|
     .c (uA rfl)<|
     .c (uA rfl)<|.nil rfl) ?_)
    have ⟨x4,hx4,h9⟩ := bdS (x := qj0 x3.2.2 x1.2.1 (o2.1,o1.2,false)) h8
    refine cwS (cwR (
     .c (uM rfl)<|
     .c (qq3 rfl rfl .no rfl qU4)<|
     .c (uM rfl)<|
     .c (uL [] rfl ta31 rfl)<|
     .c (uL [] rfl ta31 rfl)<|
     .c (qS4 (ds := [eK o2.1,eK o1.2,qT false]) rfl rfl .no zs38 rfl pl38 (.cons rfl rfl rfl rfl rfl rfl rfl (.cons rfl rfl rfl rfl rfl rfl rfl .nil)))<|
     .c (qH (fun _ => 3) rfl rfl .no Try.func17 rfl rfl (qt1 hx4) (.cons rfl (.ip rfl) (.cons rfl .d (.cons rfl .d .nil))) (qW rfl ⟨(by simp [AV.live,lk,Nat.beq]),trivial,trivial,trivial⟩ rfl (OD.dat_live (q9 _)) (by simp)) (.inl rfl))<|
     .c (uM rfl)<|
     .c (uE rfl)<|
     .c (uE rfl)<|
     .c (uA rfl)<|
     .c (uA rfl)<|.nil rfl) ?_)
    have ⟨x5,hx5,h10⟩ := bdS (x := qj0 x4.2.2 x1.2.1 (o1.2,o2.1,false)) h9
    refine cwS (cwR (
     .c (uM rfl)<|
     .c (qq3 rfl rfl .no rfl qU4)<|
     .c (uM rfl)<|
     .c (uL [] rfl ta31 rfl)<|
     .c (uL [] rfl ta31 rfl)<|
     .c (qS4 (ds := [eK o1.2,eK o2.1,qT false]) rfl rfl .no zs38 rfl pl38 (.cons rfl rfl rfl rfl rfl rfl rfl (.cons rfl rfl rfl rfl rfl rfl rfl .nil)))<|
     .c (qH (fun _ => 3) rfl rfl .no Try.func17 rfl rfl (qt1 hx5) (.cons rfl (.ip rfl) (.cons rfl .d (.cons rfl .d .nil))) (qW rfl ⟨(by simp [AV.live,lk,Nat.beq]),trivial,trivial,trivial⟩ rfl (OD.dat_live (q9 _)) (by simp)) (.inl rfl))<|
     .c (uM rfl)<|
     .c (uE rfl)<|
     .c (uE rfl)<|
     .c (uA rfl)<|
     .c (uA rfl)<|.nil rfl) ?_)
    have ⟨x6,hx6,h11⟩ := bdS h10
    have hx6g := qa0 hx6
    have ⟨x7,hx7,h12⟩ := bdS h11
    have hx7g := qa0 hx7
    refine cwS (cwR (
     .c (o_bslO (rows := ([] : List ttR).map ePr) 4 rfl rfl .no .nil rfl sl34 sz52 ze52 rfl (qJ1 q81) (by decide) rfl)<|
     .c (uM rfl)<|
     .c (q82 (enc := ePr) (xs := ([] : List ttR)) (ys := x2.1) rfl rfl .no rfl rfl rfl q81 sl34 sl34 sz52 by52 ze52 rfl (by decide) hx6g)<|
     .c (uM rfl)<|
     .c (q82 (enc := ePr) (xs := (([] : List ttR) ++ x2.1)) (ys := x3.1) rfl rfl .no rfl rfl rfl q81 sl34 sl34 sz52 by52 ze52 rfl (by decide) hx7g)<|
     .c (uA rfl)<|.nil rfl) ?_)
    have ⟨o3,hj3,h13⟩ := bdS h12
    refine cwJ (fun (z : Bool) => St.of [(8,.d (qT z))] []) (fun (z : Bool) => o3 = z) ?_ ?_
    ·intro v3 hv3; subst hv3
     have heq := ((sJ h13)).symm
     subst heq
     exact qq ⟨_,(show Leads _ _ (St.of [(8,.d (qT o3))] []) from .w (wkF ⟨wD rfl,trivial⟩ trivial qC)),.inr rfl,_,res1 rfl rfl,rfl,rfl⟩
    rcases cdS hj3 with ⟨hc1,h14⟩ | ⟨hc1,h15⟩
    ·skip
     rcases cdS h14 with ⟨hc2,h16⟩ | ⟨hc2,h17⟩
     ·skip
      rcases cdS h16 with ⟨hc3,h18⟩ | ⟨hc3,h19⟩
      ·skip
       rcases cdS h18 with ⟨hc4,h20⟩ | ⟨hc4,h21⟩
       ·skip
        rcases cdS h20 with ⟨hc5,h22⟩ | ⟨hc5,h23⟩
        ·skip
         have ⟨x8,hx8,h24⟩ := bdS (x := qR2 ((([] : List ttR) ++ x2.1) ++ x3.1) x4.1) h22
         rcases cdS h24 with ⟨hc6,h25⟩ | ⟨hc6,h26⟩
         ·skip
          refine cwR (
           .c (uM rfl)<|
           .c (uM rfl)<|
           .c (o_mv rfl rfl (.yes rfl rfl hc1) rfl)<|
           .c (qj rfl rfl (.yes rfl rfl hc1) rfl rfl (q20 _ _) rfl)<|
           .c (uPT rfl hc1)<|
           .c (uM rfl)<|
           .c (o_mv rfl rfl (.yes rfl rfl hc2) rfl)<|
           .c (qj rfl rfl (.yes rfl rfl hc2) rfl rfl (q20 _ _) rfl)<|
           .c (uPT rfl hc2)<|
           .c (uM rfl)<|
           .c (o_mv rfl rfl (.yes rfl rfl hc3) rfl)<|
           .c (qj rfl rfl (.yes rfl rfl hc3) rfl rfl (q20 _ _) rfl)<|
           .c (uPT rfl hc3)<|
           .c (uM rfl)<|
           .c (o_mv rfl rfl (.yes rfl rfl hc4) rfl)<|
           .c (qj rfl rfl (.yes rfl rfl hc4) rfl rfl (q20 _ _) rfl)<|
           .c (uPT rfl hc4)<|
           .c (uM rfl)<|
           .c (o_mv rfl rfl (.yes rfl rfl hc5) rfl)<|
           .c (o_mv rfl rfl (.yes rfl rfl hc5) rfl)<|
           .c (qe0 rfl rfl (.yes rfl rfl hc5) Try.func19 rfl rfl (ref07_Same_ok hx8) (.cons rfl (.arrM rfl) (.cons rfl .d .nil)) ⟨trivial,trivial,trivial⟩ (.inr (DFlat.v _)))<|
           .c (uPT rfl hc5)<|
           .c (uM rfl)<|
           .c (o_mv rfl rfl (.yes rfl rfl hc6) rfl)<|
           .c (qU (enc := ePr) (xs := x5.1) rfl rfl (.yes rfl rfl hc6) rfl sl34)<|
           .c (qj rfl rfl (.yes rfl rfl hc6) rfl rfl (q20 _ _) rfl)<|
           .c (uPT rfl hc6)<|
           .c (uA rfl)<|.nil rfl
          ) ?_
          exact ⟨(decide ((x5.1.length : Int) = 0)),(sJ h25),.w (wkF ⟨wD rfl,trivial⟩ trivial qC)⟩
         refine cwR (
          .c (uM rfl)<|
          .c (uM rfl)<|
          .c (o_mv rfl rfl (.yes rfl rfl hc1) rfl)<|
          .c (qj rfl rfl (.yes rfl rfl hc1) rfl rfl (q20 _ _) rfl)<|
          .c (uPT rfl hc1)<|
          .c (uM rfl)<|
          .c (o_mv rfl rfl (.yes rfl rfl hc2) rfl)<|
          .c (qj rfl rfl (.yes rfl rfl hc2) rfl rfl (q20 _ _) rfl)<|
          .c (uPT rfl hc2)<|
          .c (uM rfl)<|
          .c (o_mv rfl rfl (.yes rfl rfl hc3) rfl)<|
          .c (qj rfl rfl (.yes rfl rfl hc3) rfl rfl (q20 _ _) rfl)<|
          .c (uPT rfl hc3)<|
          .c (uM rfl)<|
          .c (o_mv rfl rfl (.yes rfl rfl hc4) rfl)<|
          .c (qj rfl rfl (.yes rfl rfl hc4) rfl rfl (q20 _ _) rfl)<|
          .c (uPT rfl hc4)<|
          .c (uM rfl)<|
          .c (o_mv rfl rfl (.yes rfl rfl hc5) rfl)<|
          .c (o_mv rfl rfl (.yes rfl rfl hc5) rfl)<|
          .c (qe0 rfl rfl (.yes rfl rfl hc5) Try.func19 rfl rfl (ref07_Same_ok hx8) (.cons rfl (.arrM rfl) (.cons rfl .d .nil)) ⟨trivial,trivial,trivial⟩ (.inr (DFlat.v _)))<|
          .c (uPT rfl hc5)<|
          .c (uM rfl)<|
          .c (uN rfl rfl hc6)<|
          .c (uN rfl rfl hc6)<|
          .c (uN rfl rfl hc6)<|
          .c (uPF rfl hc6)<|
          .c (uA rfl)<|.nil rfl
         ) ?_
         exact ⟨false,(sJ h26),.w (wkF ⟨wD rfl,trivial⟩ trivial qC)⟩
        refine cwR (
         .c (uM rfl)<|
         .c (uM rfl)<|
         .c (o_mv rfl rfl (.yes rfl rfl hc1) rfl)<|
         .c (qj rfl rfl (.yes rfl rfl hc1) rfl rfl (q20 _ _) rfl)<|
         .c (uPT rfl hc1)<|
         .c (uM rfl)<|
         .c (o_mv rfl rfl (.yes rfl rfl hc2) rfl)<|
         .c (qj rfl rfl (.yes rfl rfl hc2) rfl rfl (q20 _ _) rfl)<|
         .c (uPT rfl hc2)<|
         .c (uM rfl)<|
         .c (o_mv rfl rfl (.yes rfl rfl hc3) rfl)<|
         .c (qj rfl rfl (.yes rfl rfl hc3) rfl rfl (q20 _ _) rfl)<|
         .c (uPT rfl hc3)<|
         .c (uM rfl)<|
         .c (o_mv rfl rfl (.yes rfl rfl hc4) rfl)<|
         .c (qj rfl rfl (.yes rfl rfl hc4) rfl rfl (q20 _ _) rfl)<|
         .c (uPT rfl hc4)<|
         .c (uM rfl)<|
         .c (uN rfl rfl hc5)<|
         .c (uN rfl rfl hc5)<|
         .c (uN rfl rfl hc5)<|
         .c (uPF rfl hc5)<|
         .c (uM rfl)<|
         .c (uN rfl rfl rfl)<|
         .c (uN rfl rfl rfl)<|
         .c (uN rfl rfl rfl)<|
         .c (uPF rfl rfl)<|
         .c (uA rfl)<|.nil rfl
        ) ?_
        exact ⟨false,(sJ h23),.w (wkF ⟨wD rfl,trivial⟩ trivial qC)⟩
       refine cwR (
        .c (uM rfl)<|
        .c (uM rfl)<|
        .c (o_mv rfl rfl (.yes rfl rfl hc1) rfl)<|
        .c (qj rfl rfl (.yes rfl rfl hc1) rfl rfl (q20 _ _) rfl)<|
        .c (uPT rfl hc1)<|
        .c (uM rfl)<|
        .c (o_mv rfl rfl (.yes rfl rfl hc2) rfl)<|
        .c (qj rfl rfl (.yes rfl rfl hc2) rfl rfl (q20 _ _) rfl)<|
        .c (uPT rfl hc2)<|
        .c (uM rfl)<|
        .c (o_mv rfl rfl (.yes rfl rfl hc3) rfl)<|
        .c (qj rfl rfl (.yes rfl rfl hc3) rfl rfl (q20 _ _) rfl)<|
        .c (uPT rfl hc3)<|
        .c (uM rfl)<|
        .c (uN rfl rfl hc4)<|
        .c (uN rfl rfl hc4)<|
        .c (uPF rfl hc4)<|
        .c (uM rfl)<|
        .c (uN rfl rfl rfl)<|
        .c (uN rfl rfl rfl)<|
        .c (uN rfl rfl rfl)<|
        .c (uPF rfl rfl)<|
        .c (uM rfl)<|
        .c (uN rfl rfl rfl)<|
        .c (uN rfl rfl rfl)<|
        .c (uN rfl rfl rfl)<|
        .c (uPF rfl rfl)<|
        .c (uA rfl)<|.nil rfl
       ) ?_
       exact ⟨false,(sJ h21),.w (wkF ⟨wD rfl,trivial⟩ trivial qC)⟩
      refine cwR (
       .c (uM rfl)<|
       .c (uM rfl)<|
       .c (o_mv rfl rfl (.yes rfl rfl hc1) rfl)<|
       .c (qj rfl rfl (.yes rfl rfl hc1) rfl rfl (q20 _ _) rfl)<|
       .c (uPT rfl hc1)<|
       .c (uM rfl)<|
       .c (o_mv rfl rfl (.yes rfl rfl hc2) rfl)<|
       .c (qj rfl rfl (.yes rfl rfl hc2) rfl rfl (q20 _ _) rfl)<|
       .c (uPT rfl hc2)<|
       .c (uM rfl)<|
       .c (uN rfl rfl hc3)<|
       .c (uN rfl rfl hc3)<|
       .c (uPF rfl hc3)<|
       .c (uM rfl)<|
       .c (uN rfl rfl rfl)<|
       .c (uN rfl rfl rfl)<|
       .c (uPF rfl rfl)<|
       .c (uM rfl)<|
       .c (uN rfl rfl rfl)<|
       .c (uN rfl rfl rfl)<|
       .c (uN rfl rfl rfl)<|
       .c (uPF rfl rfl)<|
       .c (uM rfl)<|
       .c (uN rfl rfl rfl)<|
       .c (uN rfl rfl rfl)<|
       .c (uN rfl rfl rfl)<|
       .c (uPF rfl rfl)<|
       .c (uA rfl)<|.nil rfl
      ) ?_
      exact ⟨false,(sJ h19),.w (wkF ⟨wD rfl,trivial⟩ trivial qC)⟩
     refine cwR (
      .c (uM rfl)<|
      .c (uM rfl)<|
      .c (o_mv rfl rfl (.yes rfl rfl hc1) rfl)<|
      .c (qj rfl rfl (.yes rfl rfl hc1) rfl rfl (q20 _ _) rfl)<|
      .c (uPT rfl hc1)<|
      .c (uM rfl)<|
      .c (uN rfl rfl hc2)<|
      .c (uN rfl rfl hc2)<|
      .c (uPF rfl hc2)<|
      .c (uM rfl)<|
      .c (uN rfl rfl rfl)<|
      .c (uN rfl rfl rfl)<|
      .c (uPF rfl rfl)<|
      .c (uM rfl)<|
      .c (uN rfl rfl rfl)<|
      .c (uN rfl rfl rfl)<|
      .c (uPF rfl rfl)<|
      .c (uM rfl)<|
      .c (uN rfl rfl rfl)<|
      .c (uN rfl rfl rfl)<|
      .c (uN rfl rfl rfl)<|
      .c (uPF rfl rfl)<|
      .c (uM rfl)<|
      .c (uN rfl rfl rfl)<|
      .c (uN rfl rfl rfl)<|
      .c (uN rfl rfl rfl)<|
      .c (uPF rfl rfl)<|
      .c (uA rfl)<|.nil rfl
     ) ?_
     exact ⟨false,(sJ h17),.w (wkF ⟨wD rfl,trivial⟩ trivial qC)⟩
    refine cwR (
     .c (uM rfl)<|
     .c (uM rfl)<|
     .c (uN rfl rfl hc1)<|
     .c (uN rfl rfl hc1)<|
     .c (uPF rfl hc1)<|
     .c (uM rfl)<|
     .c (uN rfl rfl rfl)<|
     .c (uN rfl rfl rfl)<|
     .c (uPF rfl rfl)<|
     .c (uM rfl)<|
     .c (uN rfl rfl rfl)<|
     .c (uN rfl rfl rfl)<|
     .c (uPF rfl rfl)<|
     .c (uM rfl)<|
     .c (uN rfl rfl rfl)<|
     .c (uN rfl rfl rfl)<|
     .c (uPF rfl rfl)<|
     .c (uM rfl)<|
     .c (uN rfl rfl rfl)<|
     .c (uN rfl rfl rfl)<|
     .c (uN rfl rfl rfl)<|
     .c (uPF rfl rfl)<|
     .c (uM rfl)<|
     .c (uN rfl rfl rfl)<|
     .c (uN rfl rfl rfl)<|
     .c (uN rfl rfl rfl)<|
     .c (uPF rfl rfl)<|
     .c (uA rfl)<|.nil rfl
    ) ?_
    exact ⟨false,(sJ h15),.w (wkF ⟨wD rfl,trivial⟩ trivial qC)⟩
   have ⟨x9,hx9,h27⟩ := bdS (x := q51 o1.1 o0.1) hj2
   refine cwS (cwR (
    .c (uL [] rfl ta31 rfl)<|
    .c (uL [] rfl ta31 rfl)<|
    .c (qe0 rfl rfl .no Try.func30 rfl rfl (ql3 hx9) (.cons rfl .d (.cons rfl .d .nil)) ⟨trivial,trivial,trivial⟩ (.inl rfl))<|.nil rfl) ?_)
   rcases cdS h27 with ⟨hc7,h28⟩ | ⟨hc7,h29⟩
   ·refine cwT rfl hc7 ?_
    refine cwR (
     .c (uL [] rfl ta31 rfl)<|
     .c (uL [] rfl ta31 rfl)<|
     .c (uS [] rfl sz31 rfl)<|
     .c (uS [] rfl sz31 rfl)<|.nil rfl
    ) ?_
    exact ⟨(o1.1,o0.1),(sJ h28),.w (wkF ⟨⟨_,rfl,.ptr rfl rfl⟩,⟨_,rfl,.ptr rfl rfl⟩,⟨_,rfl,.ptr rfl rfl⟩,wD rfl,⟨_,rfl,.ptro rfl rfl⟩,wD rfl,trivial⟩ ⟨.box rfl (.d rfl),.box rfl (.d rfl),.box rfl (.d rfl),.own rfl (.of_eq rfl (q9 _)),trivial⟩ qC)⟩
   refine cwF rfl hc7 ?_
   refine cwK ?_
   exact ⟨(o0.1,o1.1),(sJ h29),.w (wkF ⟨⟨_,rfl,.ptr rfl rfl⟩,⟨_,rfl,.ptr rfl rfl⟩,⟨_,rfl,.ptr rfl rfl⟩,wD rfl,⟨_,rfl,.ptro rfl rfl⟩,wD rfl,trivial⟩ ⟨.box rfl (.d rfl),.box rfl (.d rfl),.box rfl (.d rfl),.own rfl (.of_eq rfl (q9 _)),trivial⟩ qC)⟩
  have ⟨x10,hx10,h30⟩ := bdS (x := q51 a3 o0.2) hj1
  refine cwS (cwR (
   .c (uL [] rfl ta31 rfl)<|
   .c (uL [] rfl ta31 rfl)<|
   .c (qe0 rfl rfl .no Try.func30 rfl rfl (ql3 hx10) (.cons rfl .d (.cons rfl .d .nil)) ⟨trivial,trivial,trivial⟩ (.inl rfl))<|.nil rfl) ?_)
  rcases cdS h30 with ⟨hc8,h31⟩ | ⟨hc8,h32⟩
  ·refine cwT rfl hc8 ?_
   refine cwR (
    .c (uL [] rfl ta31 rfl)<|
    .c (uL [] rfl ta31 rfl)<|
    .c (uS [] rfl sz31 rfl)<|
    .c (uS [] rfl sz31 rfl)<|.nil rfl
   ) ?_
   exact ⟨(a3,o0.2),(sJ h31),.w (wkF ⟨⟨_,rfl,.ptr rfl rfl⟩,⟨_,rfl,.ptr rfl rfl⟩,⟨_,rfl,.ptr rfl rfl⟩,wD rfl,⟨_,rfl,.ptro rfl rfl⟩,wD rfl,trivial⟩ ⟨.box rfl (.d rfl),.box rfl (.d rfl),.box rfl (.d rfl),.own rfl (.of_eq rfl (q9 _)),trivial⟩ qC)⟩
  refine cwF rfl hc8 ?_
  refine cwK ?_
  exact ⟨(o0.2,a3),(sJ h32),.w (wkF ⟨⟨_,rfl,.ptr rfl rfl⟩,⟨_,rfl,.ptr rfl rfl⟩,⟨_,rfl,.ptr rfl rfl⟩,wD rfl,⟨_,rfl,.ptro rfl rfl⟩,wD rfl,trivial⟩ ⟨.box rfl (.d rfl),.box rfl (.d rfl),.box rfl (.d rfl),.own rfl (.of_eq rfl (q9 _)),trivial⟩ qC)⟩
 have ⟨x11,hx11,h33⟩ := bdS (x := q51 a2 a1) hj0
 refine cwS (cwR (
  .c (uL [] rfl ta31 rfl)<|
  .c (uL [] rfl ta31 rfl)<|
  .c (qe0 rfl rfl .no Try.func30 rfl rfl (ql3 hx11) (.cons rfl .d (.cons rfl .d .nil)) ⟨trivial,trivial,trivial⟩ (.inl rfl))<|.nil rfl) ?_)
 rcases cdS h33 with ⟨hc9,h34⟩ | ⟨hc9,h35⟩
 ·refine cwT rfl hc9 ?_
  refine cwR (
   .c (uL [] rfl ta31 rfl)<|
   .c (uL [] rfl ta31 rfl)<|
   .c (uS [] rfl sz31 rfl)<|
   .c (uS [] rfl sz31 rfl)<|.nil rfl
  ) ?_
  exact ⟨(a2,a1),(sJ h34),.w (wkF ⟨⟨_,rfl,.ptr rfl rfl⟩,⟨_,rfl,.ptr rfl rfl⟩,⟨_,rfl,.ptr rfl rfl⟩,wD rfl,⟨_,rfl,.ptro rfl rfl⟩,wD rfl,trivial⟩ ⟨.box rfl (.d rfl),.box rfl (.d rfl),.box rfl (.d rfl),.own rfl (.of_eq rfl (q9 _)),trivial⟩ qC)⟩
 refine cwF rfl hc9 ?_
 refine cwK ?_
 exact ⟨(a1,a2),(sJ h35),.w (wkF ⟨⟨_,rfl,.ptr rfl rfl⟩,⟨_,rfl,.ptr rfl rfl⟩,⟨_,rfl,.ptr rfl rfl⟩,wD rfl,⟨_,rfl,.ptro rfl rfl⟩,wD rfl,trivial⟩ ⟨.box rfl (.d rfl),.box rfl (.d rfl),.box rfl (.d rfl),.own rfl (.of_eq rfl (q9 _)),trivial⟩ qC)⟩
end
end Go.Val
