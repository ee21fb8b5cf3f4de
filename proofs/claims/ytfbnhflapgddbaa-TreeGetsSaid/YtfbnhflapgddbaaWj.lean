/- Walks of the program's functions,printed. -/
import Derived.Test.YtfbnhflapgddbaaWi
set_option linter.unusedSectionVars false
set_option linter.unusedVariables false
set_option linter.unusedSimpArgs false
set_option maxRecDepth 100000
namespace Go.Val
open Go.RowKit Go.Proofs
section
variable [NoDrw]
noncomputable def q62 (a0 : List ttC) (a1 : List UInt8) : Option Bool := (qc2).bind fun x0 => (qF1 a0).bind fun x1 => cond (!x1.2.2) (some false) ((((qT (V := (Int × B8)) (O := (Int × B8)) (fun v0 => (((cond (decide (v0.1 ≥ 0)) ((ck (decide (0 ≤ v0.1 ∧ v0.1 < 24))).bind fun _ => (gx v0.2 v0.1).bind fun x2 => some (decide ((x2.toNat : Int) = 255))) (some false)
    ) : Option Bool)).bind fun o0 => cond o0 ((ck (decide (0 ≤ v0.1 ∧ v0.1 < 24))).bind fun _ => (ck (decide (v0.1.toNat < v0.2.length))).bind fun _ => (ck (decide (0 ≤ (0 : Int) ∧ (0 : Int) < 256))).bind fun _ => some (.inl ((IntKind.wrap .i64 (v0.1 - 1)),(List.set v0.2 v0.1.toNat (UInt8.ofNat (0 : Int).toNat))))) (some (.inr (v0.1,v0.2)))) (23,a1)) : Option (Int × B8))).bind fun o1 => (((
   cond (decide (o1.1 ≥ 0)) ((ck (decide (0 ≤ o1.1 ∧ o1.1 < 24))).bind fun _ => (gx o1.2 o1.1).bind fun x3 => (ck (decide (o1.1.toNat < o1.2.length))).bind fun _ => (ck (decide (0 ≤ (IntKind.wrap .u8 ((x3.toNat : Int) + 1)) ∧ (IntKind.wrap .u8 ((x3.toNat : Int) + 1)) < 256))).bind fun _ =>
    some (a1,(List.set o1.2 o1.1.toNat (UInt8.ofNat (IntKind.wrap .u8 ((x3.toNat : Int) + 1)).toNat)),(decide (o1.1 < 0)))) (some (a1,o1.2,(decide (o1.1 < 0))))) : Option ttS)).bind fun o2 => (qT0 x1.1 x1.2.1 a1).bind fun x4 => (q51 x4.2.2.2 x1.2.1 o2).bind fun x5 => (((cond (decide (x4.2.2.1 ≠ 0)) (some true) (cond (decide (x5.2.1 ≠ 0)) (some true) (
     cond (decide ((x5.1.length : Int) > 1)) (some true) (some (!(x4.2.1 == (decide ((x5.1.length : Int) = 1)))))))) : Option Bool)).bind fun o3 => cond o3 (some false) ((((cond x0 (cond (!x4.2.1) (cond (decide (x4.1 = (ByteArray.mk #[]))) (some true) (cond x4.2.1 ((gx x5.1 0).bind fun x6 => cond (decide (x6.1 = a1)) (some (decide (x6.2 = x4.1))) (some false)) (some false))) (cond x4.2.1 (
       (gx x5.1 0).bind fun x7 => cond (decide (x7.1 = a1)) (some (decide (x7.2 = x4.1))) (some false)) (some false))) (some false)) : Option Bool)).bind fun o4 => some o4))
theorem law07_TreeGets_ok {a0 : List ttC} {a1 : List UInt8} {r : Bool} (h : q62 a0 a1 = some r) : FnOk Try.prog 8 [.d (eSC a0),.d (eK a1)] 0 (lk []) (fun rr oo => rr = .d (qV r) ∧ oo = lk []) := by
 refine fnO Try.func8 rfl rfl (cwP ?_)
 unfold q62 at h
 refine cwS (cwR (
  .c (uX 0 rfl)<|
  .c (uA rfl)<|.nil rfl) ?_)
 have ⟨x0,hx0,h0⟩ := bdS (x := qc2) h
 refine cwS (cwR (
  .c (qk0 rfl rfl .no Try.func13 rfl rfl (law07_shown_ok hx0) .nil trivial (.inl rfl))<|
  .c (uA rfl)<|.nil rfl) ?_)
 have ⟨x1,hx1,h1⟩ := bdS (x := qF1 a0) h0
 refine cwS (cwR (
  .c (uM rfl)<|
  .c (qG4 1 rfl rfl .no Try.func29 rfl rfl (law07_grown_ok hx1) (.cons rfl .d .nil) ⟨trivial,trivial⟩ rfl (.inl rfl))<|
  .c (uM rfl)<|
  .c (uE rfl)<|
  .c (uE rfl)<|
  .c (uE rfl)<|
  .c (uA rfl)<|
  .c (uA rfl)<|
  .c (uA rfl)<|.nil rfl) ?_)
 refine cwS ?_
 refine cwS (cwR (
  .c (uM rfl)<|
  .c (uT rfl)<|.nil rfl) ?_)
 rcases cdS h1 with ⟨hc0,h2⟩ | ⟨hc0,h3⟩
 ·refine cwT rfl hc0 ?_
  refine cwS (cwR (
   .c (uA rfl)<|.nil rfl) ?_)
  have heq := ((sJ h2)).symm
  subst heq
  exact qt ⟨_,(show Leads _ _ (St.of [(4,.d (qV false))] []) from .w (wkF ⟨wD rfl,trivial⟩ trivial qE)),.inr rfl,_,res1 rfl rfl,rfl,rfl⟩
 refine cwF rfl hc0 ?_
 refine cwK ?_
 refine cwS (cwR (
  .c (uL [] rfl ta31 rfl)<|
  .c (qa0 2 rfl rfl .no ze31 rfl)<|
  .c (uS [] rfl sz31 rfl)<|.nil rfl) ?_)
 refine cwS (cwR (
  .c (uA rfl)<|.nil rfl) ?_)
 have ⟨o0,hj0,h4⟩ := bdS h3
 refine cwJ (fun (z : (Int × B8)) => St.of [(3,.ptr 0 0),(5,.d (qV x0)),(6,.ptr 1 0),(7,.d (eint x1.2.1)),(9,.ptr 2 0),(10,.d (eint z.1))] [(0,.box (.d (eK a1))),(1,.own (qc x1.1)),(2,.box (.d (eK z.2)))]) (fun (z : (Int × B8)) => o0 = z) ?_ ?_
 ·intro v0 hv0; subst hv0
  refine cwS (cwR (
   .c (uL [] rfl ta31 rfl)<|
   .c (uL [] rfl ta31 rfl)<|
   .c (uM rfl)<|
   .c (uB rfl (qC0 _ _) rfl)<|
   .c (qU4 (ds := [eK a1,eK o0.2,qV (decide (o0.1 < 0))]) rfl rfl .no zs38 rfl pl38 (.cons rfl rfl rfl rfl rfl rfl rfl (.cons rfl rfl rfl rfl rfl rfl rfl (.cons rfl rfl rfl rfl rfl rfl rfl .nil))))<|
   .c (qa0 3 rfl rfl .no ze38 rfl)<|
   .c (uS [] rfl sz38 rfl)<|.nil rfl) ?_)
  have ⟨o1,hj1,h5⟩ := bdS h4
  refine cwJ (fun (z : ttS) => St.of [(3,.ptr 0 0),(5,.d (qV x0)),(6,.ptr 1 0),(7,.d (eint x1.2.1)),(11,.ptr 3 0)] [(0,.box (.d (eK a1))),(1,.own (qc x1.1)),(3,.box (.d (eSp z)))]) (fun (z : ttS) => o1 = z) ?_ ?_
  ·intro v1 hv1; subst hv1
   have ⟨x2,hx2,h6⟩ := bdS (x := qT0 x1.1 x1.2.1 a1) h5
   refine cwS (cwR (
    .c (uM rfl)<|
    .c (q14 rfl rfl .no rfl qV4)<|
    .c (uM rfl)<|
    .c (uL [] rfl ta31 rfl)<|
    .c (qI (fun _ => 1) rfl rfl .no Try.func24 rfl rfl (qF3 hx2) (.cons rfl (.ip rfl) (.cons rfl .d (.cons rfl .d .nil))) (qY rfl ⟨(by simp [AV.live,lk,Nat.beq]),trivial,trivial,trivial⟩ rfl (OD.dat_live (q9 _)) (by simp)) (.inl rfl))<|
    .c (uM rfl)<|
    .c (uE rfl)<|
    .c (uE rfl)<|
    .c (uE rfl)<|
    .c (uA rfl)<|
    .c (uA rfl)<|
    .c (uA rfl)<|.nil rfl) ?_)
   have ⟨x3,hx3,h7⟩ := bdS (x := q51 x2.2.2.2 x1.2.1 o1) h6
   refine cwS (cwR (
    .c (uM rfl)<|
    .c (q14 rfl rfl .no rfl qV4)<|
    .c (uM rfl)<|
    .c (uL [] rfl ta38 rfl)<|
    .c (qI (fun _ => 1) rfl rfl .no Try.func17 rfl rfl (qr4 hx3) (.cons rfl (.ip rfl) (.cons rfl .d (.cons rfl .d .nil))) (qY rfl ⟨(by simp [AV.live,lk,Nat.beq]),trivial,trivial,trivial⟩ rfl (OD.dat_live (q9 _)) (by simp)) (.inl rfl))<|
    .c (uM rfl)<|
    .c (uE rfl)<|
    .c (uE rfl)<|
    .c (uA rfl)<|
    .c (uA rfl)<|.nil rfl) ?_)
   refine cwS ?_
   have ⟨o2,hj2,h8⟩ := bdS h7
   refine cwJ (fun (z : Bool) => St.of [(3,.ptr 0 0),(5,.d (qV x0)),(12,.d (eStr x2.1)),(13,.d (qV x2.2.1)),(15,.d (eSP_ x3.1)),(88,.d (qV z))] [(0,.box (.d (eK a1)))]) (fun (z : Bool) => o2 = z) ?_ ?_
   ·intro v2 hv2; subst hv2
    rcases cdS h8 with ⟨hc1,h9⟩ | ⟨hc1,h10⟩
    ·refine cwT rfl hc1 ?_
     refine cwS (cwR (
      .c (uA rfl)<|.nil rfl) ?_)
     have heq := ((sJ h9)).symm
     subst heq
     exact qt ⟨_,(show Leads _ _ (St.of [(4,.d (qV false))] []) from .w (wkF ⟨wD rfl,trivial⟩ trivial qE)),.inr rfl,_,res1 rfl rfl,rfl,rfl⟩
    refine cwF rfl hc1 ?_
    refine cwK ?_
    have ⟨o3,hj3,h11⟩ := bdS h10
    refine cwJ (fun (z : Bool) => St.of [(4,.d (qV z))] []) (fun (z : Bool) => o3 = z) ?_ ?_
    ·intro v3 hv3; subst hv3
     have heq := ((sJ h11)).symm
     subst heq
     exact qt ⟨_,(show Leads _ _ (St.of [(4,.d (qV o3))] []) from .w (wkF ⟨wD rfl,trivial⟩ trivial qE)),.inr rfl,_,res1 rfl rfl,rfl,rfl⟩
    rcases cdS hj3 with ⟨hc2,h12⟩ | ⟨hc2,h13⟩
    ·skip
     rcases cdS h12 with ⟨hc3,h14⟩ | ⟨hc3,h15⟩
     ·skip
      rcases cdS h14 with ⟨hc4,h16⟩ | ⟨hc4,h17⟩
      ·skip
       refine cwRA mixed (by kernel_rfl) (
        .c (uM rfl)<|
        .c (uM rfl)<|
        .c (o_mv rfl rfl (.yes rfl rfl hc2) rfl)<|
        .c (q44 rfl rfl (.yes rfl rfl hc2) rfl)<|
        .c (o_mv rfl rfl (.yes rfl rfl hc2) rfl)<|
        .c (o_mv rfl rfl (.yes rfl rfl hc3) rfl)<|
        .c (qj rfl rfl (.yes rfl rfl hc3) rfl rfl (qS4 _ _) rfl)<|
        .c (qi rfl rfl (.yes rfl rfl hc2) rfl hc3 rfl)<|
        .c (o_mv rfl rfl (.yes rfl rfl hc2) rfl)<|
        .c (uN rfl rfl hc4)<|
        .c (uN rfl rfl hc4)<|
        .c (qP1 rfl rfl rfl rfl)<|
        .c (qP1 rfl rfl rfl rfl)<|
        .c (qP1 rfl rfl rfl rfl)<|
        .c (qP1 rfl rfl rfl rfl)<|
        .c (qP1 rfl rfl rfl rfl)<|
        .c (qP1 rfl rfl rfl rfl)<|
        .c (uN rfl rfl hc4)<|
        .c (uN rfl rfl hc4)<|
        .c (qP1 rfl rfl rfl rfl)<|
        .c (qP1 rfl rfl rfl rfl)<|
        .c (qP1 rfl rfl rfl rfl)<|
        .c (qP1 rfl rfl rfl rfl)<|
        .c (qP1 rfl rfl rfl rfl)<|
        .c (qP1 rfl rfl rfl rfl)<|
        .c (uN rfl rfl hc4)<|
        .c (qi rfl rfl (.yes rfl rfl hc2) rfl hc4 rfl)<|
        .c (uPT rfl hc2)<|
        .c (uA rfl)<|.nil rfl) (by kernel_rfl) ?_
       exact ⟨true,(sJ h16),.w (wkF ⟨wD rfl,trivial⟩ trivial qE)⟩
      rcases cdS h17 with ⟨hc5,h18⟩ | ⟨hc5,h19⟩
      ·skip
       have ⟨x4,hx4,h20⟩ := bdS h18
       have hx4g := qA hx4
       rcases cdS h20 with ⟨hc6,h21⟩ | ⟨hc6,h22⟩
       ·skip
        refine cwRA mixed (by kernel_rfl) (
         .c (uM rfl)<|
         .c (uM rfl)<|
         .c (o_mv rfl rfl (.yes rfl rfl hc2) rfl)<|
         .c (q44 rfl rfl (.yes rfl rfl hc2) rfl)<|
         .c (o_mv rfl rfl (.yes rfl rfl hc2) rfl)<|
         .c (o_mv rfl rfl (.yes rfl rfl hc3) rfl)<|
         .c (qj rfl rfl (.yes rfl rfl hc3) rfl rfl (qS4 _ _) rfl)<|
         .c (qi rfl rfl (.yes rfl rfl hc2) rfl hc3 rfl)<|
         .c (o_mv rfl rfl (.yes rfl rfl hc2) rfl)<|
         .c (o_mv rfl rfl (.yes rfl rfl hc4) rfl)<|
         .c (o_mv rfl rfl (.yes rfl rfl hc4) rfl)<|
         .c (o_mv rfl rfl (.yes rfl rfl hc5) rfl)<|
         .c (qC1 (enc := ePr) (xs := x3.1) rfl rfl (.yes rfl rfl hc5) rfl rfl sl34 sz52 hx4g.1 hx4g.2)<|
         .c (qV1 rfl rfl (.yes rfl rfl hc5) rfl q83 (by decide) rfl rfl)<|
         .c (o_ld rfl rfl (.yes rfl rfl hc5) rfl ta31 rfl rfl)<|
         .c (qB [] rfl rfl (.yes rfl rfl hc5) rfl rfl rfl ta31 rfl rfl)<|
         .c (o_eq rfl rfl (.yes rfl rfl hc5) rfl rfl rfl rfl eg31 (.bs ar31 un5 sz5))<|
         .c (qi rfl rfl (.yes rfl rfl hc4) rfl hc5 rfl)<|
         .c (o_mv rfl rfl (.yes rfl rfl hc4) rfl)<|
         .c (o_mv rfl rfl (.yes rfl rfl hc6) rfl)<|
         .c (qC1 (enc := ePr) (xs := x3.1) rfl rfl (.yes rfl rfl hc6) rfl rfl sl34 sz52 hx4g.1 hx4g.2)<|
         .c (qV1 rfl rfl (.yes rfl rfl hc6) rfl fld52_1 (by decide) rfl rfl)<|
         .c (o_ld rfl rfl (.yes rfl rfl hc6) rfl ta9 rfl rfl)<|
         .c (o_mv rfl rfl (.yes rfl rfl hc6) rfl)<|
         .c (qj rfl rfl (.yes rfl rfl hc6) rfl rfl (qS4 _ _) rfl)<|
         .c (qi rfl rfl (.yes rfl rfl hc4) rfl hc6 rfl)<|
         .c (qe rfl rfl (.yes rfl rfl hc2) rfl hc4 rfl)<|
         .c (uPT rfl hc2)<|
         .c (uA rfl)<|.nil rfl) (by kernel_rfl) ?_
        exact ⟨(decide (x4.2 = x2.1)),(sJ h21),.w (wkF ⟨wD rfl,trivial⟩ trivial qE)⟩
       refine cwRA mixed (by kernel_rfl) (
        .c (uM rfl)<|
        .c (uM rfl)<|
        .c (o_mv rfl rfl (.yes rfl rfl hc2) rfl)<|
        .c (q44 rfl rfl (.yes rfl rfl hc2) rfl)<|
        .c (o_mv rfl rfl (.yes rfl rfl hc2) rfl)<|
        .c (o_mv rfl rfl (.yes rfl rfl hc3) rfl)<|
        .c (qj rfl rfl (.yes rfl rfl hc3) rfl rfl (qS4 _ _) rfl)<|
        .c (qi rfl rfl (.yes rfl rfl hc2) rfl hc3 rfl)<|
        .c (o_mv rfl rfl (.yes rfl rfl hc2) rfl)<|
        .c (o_mv rfl rfl (.yes rfl rfl hc4) rfl)<|
        .c (o_mv rfl rfl (.yes rfl rfl hc4) rfl)<|
        .c (o_mv rfl rfl (.yes rfl rfl hc5) rfl)<|
        .c (qC1 (enc := ePr) (xs := x3.1) rfl rfl (.yes rfl rfl hc5) rfl rfl sl34 sz52 hx4g.1 hx4g.2)<|
        .c (qV1 rfl rfl (.yes rfl rfl hc5) rfl q83 (by decide) rfl rfl)<|
        .c (o_ld rfl rfl (.yes rfl rfl hc5) rfl ta31 rfl rfl)<|
        .c (qB [] rfl rfl (.yes rfl rfl hc5) rfl rfl rfl ta31 rfl rfl)<|
        .c (o_eq rfl rfl (.yes rfl rfl hc5) rfl rfl rfl rfl eg31 (.bs ar31 un5 sz5))<|
        .c (qi rfl rfl (.yes rfl rfl hc4) rfl hc5 rfl)<|
        .c (o_mv rfl rfl (.yes rfl rfl hc4) rfl)<|
        .c (uN rfl rfl hc6)<|
        .c (uN rfl rfl hc6)<|
        .c (uN rfl rfl hc6)<|
        .c (uN rfl rfl hc6)<|
        .c (uN rfl rfl hc6)<|
        .c (uN rfl rfl hc6)<|
        .c (qe rfl rfl (.yes rfl rfl hc4) rfl hc6 rfl)<|
        .c (qe rfl rfl (.yes rfl rfl hc2) rfl hc4 rfl)<|
        .c (uPT rfl hc2)<|
        .c (uA rfl)<|.nil rfl) (by kernel_rfl) ?_
       exact ⟨false,(sJ h22),.w (wkF ⟨wD rfl,trivial⟩ trivial qE)⟩
      refine cwRA mixed (by kernel_rfl) (
       .c (uM rfl)<|
       .c (uM rfl)<|
       .c (o_mv rfl rfl (.yes rfl rfl hc2) rfl)<|
       .c (q44 rfl rfl (.yes rfl rfl hc2) rfl)<|
       .c (o_mv rfl rfl (.yes rfl rfl hc2) rfl)<|
       .c (o_mv rfl rfl (.yes rfl rfl hc3) rfl)<|
       .c (qj rfl rfl (.yes rfl rfl hc3) rfl rfl (qS4 _ _) rfl)<|
       .c (qi rfl rfl (.yes rfl rfl hc2) rfl hc3 rfl)<|
       .c (o_mv rfl rfl (.yes rfl rfl hc2) rfl)<|
       .c (o_mv rfl rfl (.yes rfl rfl hc4) rfl)<|
       .c (o_mv rfl rfl (.yes rfl rfl hc4) rfl)<|
       .c (uN rfl rfl hc5)<|
       .c (uN rfl rfl hc5)<|
       .c (uN rfl rfl hc5)<|
       .c (uN rfl rfl hc5)<|
       .c (uN rfl rfl hc5)<|
       .c (uN rfl rfl hc5)<|
       .c (qe rfl rfl (.yes rfl rfl hc4) rfl hc5 rfl)<|
       .c (o_mv rfl rfl (.yes rfl rfl hc4) rfl)<|
       .c (uN rfl rfl rfl)<|
       .c (uN rfl rfl rfl)<|
       .c (uN rfl rfl rfl)<|
       .c (uN rfl rfl rfl)<|
       .c (uN rfl rfl rfl)<|
       .c (uN rfl rfl rfl)<|
       .c (qe rfl rfl (.yes rfl rfl hc4) rfl rfl rfl)<|
       .c (qe rfl rfl (.yes rfl rfl hc2) rfl hc4 rfl)<|
       .c (uPT rfl hc2)<|
       .c (uA rfl)<|.nil rfl) (by kernel_rfl) ?_
      exact ⟨false,(sJ h19),.w (wkF ⟨wD rfl,trivial⟩ trivial qE)⟩
     rcases cdS h15 with ⟨hc7,h23⟩ | ⟨hc7,h24⟩
     ·skip
      have ⟨x5,hx5,h25⟩ := bdS h23
      have hx5g := qA hx5
      rcases cdS h25 with ⟨hc8,h26⟩ | ⟨hc8,h27⟩
      ·skip
       refine cwRA mixed (by kernel_rfl) (
        .c (uM rfl)<|
        .c (uM rfl)<|
        .c (o_mv rfl rfl (.yes rfl rfl hc2) rfl)<|
        .c (q44 rfl rfl (.yes rfl rfl hc2) rfl)<|
        .c (o_mv rfl rfl (.yes rfl rfl hc2) rfl)<|
        .c (uN rfl rfl hc3)<|
        .c (uN rfl rfl hc3)<|
        .c (qe rfl rfl (.yes rfl rfl hc2) rfl hc3 rfl)<|
        .c (o_mv rfl rfl (.yes rfl rfl hc2) rfl)<|
        .c (o_mv rfl rfl (.yes rfl rfl rfl) rfl)<|
        .c (o_mv rfl rfl (.yes rfl rfl rfl) rfl)<|
        .c (o_mv rfl rfl (.yes rfl rfl hc7) rfl)<|
        .c (qC1 (enc := ePr) (xs := x3.1) rfl rfl (.yes rfl rfl hc7) rfl rfl sl34 sz52 hx5g.1 hx5g.2)<|
        .c (qV1 rfl rfl (.yes rfl rfl hc7) rfl q83 (by decide) rfl rfl)<|
        .c (o_ld rfl rfl (.yes rfl rfl hc7) rfl ta31 rfl rfl)<|
        .c (qB [] rfl rfl (.yes rfl rfl hc7) rfl rfl rfl ta31 rfl rfl)<|
        .c (o_eq rfl rfl (.yes rfl rfl hc7) rfl rfl rfl rfl eg31 (.bs ar31 un5 sz5))<|
        .c (qi rfl rfl (.yes rfl rfl rfl) rfl hc7 rfl)<|
        .c (o_mv rfl rfl (.yes rfl rfl rfl) rfl)<|
        .c (o_mv rfl rfl (.yes rfl rfl hc8) rfl)<|
        .c (qC1 (enc := ePr) (xs := x3.1) rfl rfl (.yes rfl rfl hc8) rfl rfl sl34 sz52 hx5g.1 hx5g.2)<|
        .c (qV1 rfl rfl (.yes rfl rfl hc8) rfl fld52_1 (by decide) rfl rfl)<|
        .c (o_ld rfl rfl (.yes rfl rfl hc8) rfl ta9 rfl rfl)<|
        .c (o_mv rfl rfl (.yes rfl rfl hc8) rfl)<|
        .c (qj rfl rfl (.yes rfl rfl hc8) rfl rfl (qS4 _ _) rfl)<|
        .c (qi rfl rfl (.yes rfl rfl rfl) rfl hc8 rfl)<|
        .c (qe rfl rfl (.yes rfl rfl hc2) rfl rfl rfl)<|
        .c (uPT rfl hc2)<|
        .c (uA rfl)<|.nil rfl) (by kernel_rfl) ?_
       exact ⟨(decide (x5.2 = x2.1)),(sJ h26),.w (wkF ⟨wD rfl,trivial⟩ trivial qE)⟩
      refine cwRA mixed (by kernel_rfl) (
       .c (uM rfl)<|
       .c (uM rfl)<|
       .c (o_mv rfl rfl (.yes rfl rfl hc2) rfl)<|
       .c (q44 rfl rfl (.yes rfl rfl hc2) rfl)<|
       .c (o_mv rfl rfl (.yes rfl rfl hc2) rfl)<|
       .c (uN rfl rfl hc3)<|
       .c (uN rfl rfl hc3)<|
       .c (qe rfl rfl (.yes rfl rfl hc2) rfl hc3 rfl)<|
       .c (o_mv rfl rfl (.yes rfl rfl hc2) rfl)<|
       .c (o_mv rfl rfl (.yes rfl rfl rfl) rfl)<|
       .c (o_mv rfl rfl (.yes rfl rfl rfl) rfl)<|
       .c (o_mv rfl rfl (.yes rfl rfl hc7) rfl)<|
       .c (qC1 (enc := ePr) (xs := x3.1) rfl rfl (.yes rfl rfl hc7) rfl rfl sl34 sz52 hx5g.1 hx5g.2)<|
       .c (qV1 rfl rfl (.yes rfl rfl hc7) rfl q83 (by decide) rfl rfl)<|
       .c (o_ld rfl rfl (.yes rfl rfl hc7) rfl ta31 rfl rfl)<|
       .c (qB [] rfl rfl (.yes rfl rfl hc7) rfl rfl rfl ta31 rfl rfl)<|
       .c (o_eq rfl rfl (.yes rfl rfl hc7) rfl rfl rfl rfl eg31 (.bs ar31 un5 sz5))<|
       .c (qi rfl rfl (.yes rfl rfl rfl) rfl hc7 rfl)<|
       .c (o_mv rfl rfl (.yes rfl rfl rfl) rfl)<|
       .c (uN rfl rfl hc8)<|
       .c (uN rfl rfl hc8)<|
       .c (uN rfl rfl hc8)<|
       .c (uN rfl rfl hc8)<|
       .c (uN rfl rfl hc8)<|
       .c (uN rfl rfl hc8)<|
       .c (qe rfl rfl (.yes rfl rfl rfl) rfl hc8 rfl)<|
       .c (qe rfl rfl (.yes rfl rfl hc2) rfl rfl rfl)<|
       .c (uPT rfl hc2)<|
       .c (uA rfl)<|.nil rfl) (by kernel_rfl) ?_
      exact ⟨false,(sJ h27),.w (wkF ⟨wD rfl,trivial⟩ trivial qE)⟩
     refine cwRA mixed (by kernel_rfl) (
      .c (uM rfl)<|
      .c (uM rfl)<|
      .c (o_mv rfl rfl (.yes rfl rfl hc2) rfl)<|
      .c (q44 rfl rfl (.yes rfl rfl hc2) rfl)<|
      .c (o_mv rfl rfl (.yes rfl rfl hc2) rfl)<|
      .c (uN rfl rfl hc3)<|
      .c (uN rfl rfl hc3)<|
      .c (qe rfl rfl (.yes rfl rfl hc2) rfl hc3 rfl)<|
      .c (o_mv rfl rfl (.yes rfl rfl hc2) rfl)<|
      .c (o_mv rfl rfl (.yes rfl rfl rfl) rfl)<|
      .c (o_mv rfl rfl (.yes rfl rfl rfl) rfl)<|
      .c (uN rfl rfl hc7)<|
      .c (uN rfl rfl hc7)<|
      .c (uN rfl rfl hc7)<|
      .c (uN rfl rfl hc7)<|
      .c (uN rfl rfl hc7)<|
      .c (uN rfl rfl hc7)<|
      .c (qe rfl rfl (.yes rfl rfl rfl) rfl hc7 rfl)<|
      .c (o_mv rfl rfl (.yes rfl rfl rfl) rfl)<|
      .c (uN rfl rfl rfl)<|
      .c (uN rfl rfl rfl)<|
      .c (uN rfl rfl rfl)<|
      .c (uN rfl rfl rfl)<|
      .c (uN rfl rfl rfl)<|
      .c (uN rfl rfl rfl)<|
      .c (qe rfl rfl (.yes rfl rfl rfl) rfl rfl rfl)<|
      .c (qe rfl rfl (.yes rfl rfl hc2) rfl rfl rfl)<|
      .c (uPT rfl hc2)<|
      .c (uA rfl)<|.nil rfl) (by kernel_rfl) ?_
     exact ⟨false,(sJ h24),.w (wkF ⟨wD rfl,trivial⟩ trivial qE)⟩
    refine cwRA mixed (by kernel_rfl) (
     .c (uM rfl)<|
     .c (uM rfl)<|
     .c (uN rfl rfl hc2)<|
     .c (uN rfl rfl hc2)<|
     .c (uN rfl rfl hc2)<|
     .c (qP1 rfl rfl rfl rfl)<|
     .c (qP1 rfl rfl rfl rfl)<|
     .c (uN rfl rfl hc2)<|
     .c (uN rfl rfl hc2)<|
     .c (qP1 rfl rfl rfl rfl)<|
     .c (qP1 rfl rfl rfl rfl)<|
     .c (qP1 rfl rfl rfl rfl)<|
     .c (qP1 rfl rfl rfl rfl)<|
     .c (qP1 rfl rfl rfl rfl)<|
     .c (qP1 rfl rfl rfl rfl)<|
     .c (qP1 rfl rfl rfl rfl)<|
     .c (qP1 rfl rfl rfl rfl)<|
     .c (qP1 rfl rfl rfl rfl)<|
     .c (qP1 rfl rfl rfl rfl)<|
     .c (qP1 rfl rfl rfl rfl)<|
     .c (qP1 rfl rfl rfl rfl)<|
     .c (qP1 rfl rfl rfl rfl)<|
     .c (qP1 rfl rfl rfl rfl)<|
     .c (qP1 rfl rfl rfl rfl)<|
     .c (qP1 rfl rfl rfl rfl)<|
     .c (qP1 rfl rfl rfl rfl)<|
     .c (uN rfl rfl hc2)<|
     .c (uPF rfl hc2)<|
     .c (uA rfl)<|.nil rfl) (by kernel_rfl) ?_
    exact ⟨false,(sJ h13),.w (wkF ⟨wD rfl,trivial⟩ trivial qE)⟩
   rcases cdS hj2 with ⟨hc9,h28⟩ | ⟨hc9,h29⟩
   ·skip
    refine cwR (
     .c (uM rfl)<|
     .c (uB rfl (qj3 _ _) rfl)<|
     .c (uM rfl)<|
     .c (uN rfl rfl hc9)<|
     .c (uN rfl rfl hc9)<|
     .c (uPT rfl hc9)<|
     .c (uM rfl)<|
     .c (uN rfl rfl rfl)<|
     .c (uN rfl rfl rfl)<|
     .c (uN rfl rfl rfl)<|
     .c (uPT rfl rfl)<|
     .c (uM rfl)<|
     .c (uN rfl rfl rfl)<|
     .c (uN rfl rfl rfl)<|
     .c (uN rfl rfl rfl)<|
     .c (uN rfl rfl rfl)<|
     .c (uN rfl rfl rfl)<|
     .c (uPT rfl rfl)<|.nil rfl
    ) ?_
    exact ⟨true,(sJ h28),.w (wkF ⟨⟨_,rfl,.ptr rfl rfl⟩,wD rfl,wD rfl,wD rfl,wD rfl,wD rfl,trivial⟩ ⟨.box rfl (.d rfl),trivial⟩ qE)⟩
   rcases cdS h29 with ⟨hc10,h30⟩ | ⟨hc10,h31⟩
   ·skip
    refine cwR (
     .c (uM rfl)<|
     .c (uB rfl (qj3 _ _) rfl)<|
     .c (uM rfl)<|
     .c (o_mv rfl rfl (.yes rfl rfl hc9) rfl)<|
     .c (qj rfl rfl (.yes rfl rfl hc9) rfl rfl (qj3 _ _) rfl)<|
     .c (uPF rfl hc9)<|
     .c (uM rfl)<|
     .c (uN rfl rfl hc10)<|
     .c (uN rfl rfl hc10)<|
     .c (uN rfl rfl hc10)<|
     .c (uPT rfl hc10)<|
     .c (uM rfl)<|
     .c (uN rfl rfl rfl)<|
     .c (uN rfl rfl rfl)<|
     .c (uN rfl rfl rfl)<|
     .c (uN rfl rfl rfl)<|
     .c (uN rfl rfl rfl)<|
     .c (uPT rfl rfl)<|.nil rfl
    ) ?_
    exact ⟨true,(sJ h30),.w (wkF ⟨⟨_,rfl,.ptr rfl rfl⟩,wD rfl,wD rfl,wD rfl,wD rfl,wD rfl,trivial⟩ ⟨.box rfl (.d rfl),trivial⟩ qE)⟩
   rcases cdS h31 with ⟨hc11,h32⟩ | ⟨hc11,h33⟩
   ·skip
    refine cwR (
     .c (uM rfl)<|
     .c (uB rfl (qj3 _ _) rfl)<|
     .c (uM rfl)<|
     .c (o_mv rfl rfl (.yes rfl rfl hc9) rfl)<|
     .c (qj rfl rfl (.yes rfl rfl hc9) rfl rfl (qj3 _ _) rfl)<|
     .c (uPF rfl hc9)<|
     .c (uM rfl)<|
     .c (o_mv rfl rfl (.yes rfl rfl hc10) rfl)<|
     .c (qU (enc := ePr) (xs := x3.1) rfl rfl (.yes rfl rfl hc10) rfl sl34)<|
     .c (qj rfl rfl (.yes rfl rfl hc10) rfl rfl (qa3 _ _) rfl)<|
     .c (uPF rfl hc10)<|
     .c (uM rfl)<|
     .c (uN rfl rfl hc11)<|
     .c (uN rfl rfl hc11)<|
     .c (uN rfl rfl hc11)<|
     .c (uN rfl rfl hc11)<|
     .c (uN rfl rfl hc11)<|
     .c (uPT rfl hc11)<|.nil rfl
    ) ?_
    exact ⟨true,(sJ h32),.w (wkF ⟨⟨_,rfl,.ptr rfl rfl⟩,wD rfl,wD rfl,wD rfl,wD rfl,wD rfl,trivial⟩ ⟨.box rfl (.d rfl),trivial⟩ qE)⟩
   refine cwR (
    .c (uM rfl)<|
    .c (uB rfl (qj3 _ _) rfl)<|
    .c (uM rfl)<|
    .c (o_mv rfl rfl (.yes rfl rfl hc9) rfl)<|
    .c (qj rfl rfl (.yes rfl rfl hc9) rfl rfl (qj3 _ _) rfl)<|
    .c (uPF rfl hc9)<|
    .c (uM rfl)<|
    .c (o_mv rfl rfl (.yes rfl rfl hc10) rfl)<|
    .c (qU (enc := ePr) (xs := x3.1) rfl rfl (.yes rfl rfl hc10) rfl sl34)<|
    .c (qj rfl rfl (.yes rfl rfl hc10) rfl rfl (qa3 _ _) rfl)<|
    .c (uPF rfl hc10)<|
    .c (uM rfl)<|
    .c (o_mv rfl rfl (.yes rfl rfl hc11) rfl)<|
    .c (o_mv rfl rfl (.yes rfl rfl hc11) rfl)<|
    .c (qU (enc := ePr) (xs := x3.1) rfl rfl (.yes rfl rfl hc11) rfl sl34)<|
    .c (qj rfl rfl (.yes rfl rfl hc11) rfl rfl (q80 _ _) rfl)<|
    .c (qj rfl rfl (.yes rfl rfl hc11) rfl rfl (t_neq _ _ un4) rfl)<|
    .c (uPF rfl hc11)<|.nil rfl
   ) ?_
   exact ⟨(!(x2.2.1 == (decide ((x3.1.length : Int) = 1)))),(sJ h33),.w (wkF ⟨⟨_,rfl,.ptr rfl rfl⟩,wD rfl,wD rfl,wD rfl,wD rfl,wD rfl,trivial⟩ ⟨.box rfl (.d rfl),trivial⟩ qE)⟩
  refine cwS (cwR (
   .c (uM rfl)<|
   .c (uB rfl (qW4 _ _) rfl)<|.nil rfl) ?_)
  rcases cdS hj1 with ⟨hc12,h34⟩ | ⟨hc12,h35⟩
  ·refine cwT rfl hc12 ?_
   have ⟨x6,hx6,h36⟩ := bdS h34
   have hx6g := qD3 hx6
   have ⟨x7,hx7,h37⟩ := bdS h36
   have hx7g := qA hx7
   have ⟨x8,hx8,h38⟩ := bdS h37
   have hx8g := qD3 hx8
   have ⟨x9,hx9,h39⟩ := bdS h38
   have hx9g := qD3 hx9
   refine cwS (cwR (
    .c (uM rfl)<|
    .c (uM rfl)<|
    .c (o_ixP rfl rfl .no rfl rfl ar31 sz5 hx6g)<|
    .c (o_ldB (l := o0.2) [] rfl rfl .no rfl rfl rfl hx7g.2 ta5)<|
    .c (uB rfl (qI0 _ _) rfl)<|
    .c (o_ixP rfl rfl .no rfl rfl ar31 sz5 hx6g)<|
    .c (o_stB (l := o0.2) [] rfl .no rfl rfl rfl rfl hx8g hx9g sz5)<|.nil rfl) ?_)
   refine cwR (
    .c (uL [] rfl ta31 rfl)<|
    .c (uF rfl fld38_1 rfl)<|
    .c (uS [1] rfl sz31 rfl)<|.nil rfl
   ) ?_
   exact ⟨(a1,(List.set o0.2 o0.1.toNat (UInt8.ofNat (IntKind.wrap .u8 ((x7.toNat : Int) + 1)).toNat)),(decide (o0.1 < 0))),(sJ h39),.w (wkF ⟨⟨_,rfl,.ptr rfl rfl⟩,wD rfl,⟨_,rfl,.ptro rfl rfl⟩,wD rfl,⟨_,rfl,.ptr rfl rfl⟩,trivial⟩ ⟨.box rfl (.d rfl),.own rfl (.of_eq rfl (q9 _)),.box rfl (.d rfl),trivial⟩ qE)⟩
  refine cwF rfl hc12 ?_
  refine cwK ?_
  exact ⟨(a1,o0.2,(decide (o0.1 < 0))),(sJ h35),.w (wkF ⟨⟨_,rfl,.ptr rfl rfl⟩,wD rfl,⟨_,rfl,.ptro rfl rfl⟩,wD rfl,⟨_,rfl,.ptr rfl rfl⟩,trivial⟩ ⟨.box rfl (.d rfl),.own rfl (.of_eq rfl (q9 _)),.box rfl (.d rfl),trivial⟩ qE)⟩
 refine cwB ?_
 refine qG (V := (Int × B8)) (O := (Int × B8)) (fun (z : (Int × B8)) => St.of [(3,.ptr 0 0),(5,.d (qV x0)),(6,.ptr 1 0),(7,.d (eint x1.2.1)),(9,.ptr 2 0),(10,.d (eint z.1))] [(0,.box (.d (eK a1))),(1,.own (qc x1.1)),(2,.box (.d (eK z.2)))]) hj0 (.w (wkF ⟨⟨_,rfl,.ptr rfl rfl⟩,wD rfl,⟨_,rfl,.ptro rfl rfl⟩,wD rfl,⟨_,rfl,.ptr rfl rfl⟩,wD rfl,trivial⟩ ⟨.box rfl (.d rfl),.own rfl (.of_eq rfl (q9 _)),.box rfl (.d rfl),trivial⟩ qE)) ?_
 intro v4 x10 hb0 hx10
 refine cwS ?_
 have ⟨o4,hj4,h40⟩ := bdS hb0
 refine cwJ (fun (z : Bool) => St.of [(3,.ptr 0 0),(5,.d (qV x0)),(6,.ptr 1 0),(7,.d (eint x1.2.1)),(9,.ptr 2 0),(10,.d (eint v4.1)),(34,.d (qV z))] [(0,.box (.d (eK a1))),(1,.own (qc x1.1)),(2,.box (.d (eK v4.2)))]) (fun (z : Bool) => o4 = z) ?_ ?_
 ·intro v5 hv4; subst hv4
  rcases cdS h40 with ⟨hc13,h41⟩ | ⟨hc13,h42⟩
  ·refine cwT rfl hc13 ?_
   refine cwK ?_
   refine cwB ?_
   have ⟨x11,hx11,h43⟩ := bdS h41
   have hx11g := qD3 hx11
   have ⟨x12,hx12,h44⟩ := bdS h43
   have hx12g := qD3 hx12
   have ⟨x13,hx13,h45⟩ := bdS h44
   have hx13g := qD3 hx13
   refine cwS (cwR (
    .c (uM rfl)<|
    .c (o_ixP rfl rfl .no rfl rfl ar31 sz5 hx11g)<|
    .c (o_stB (l := v4.2) [] rfl .no rfl rfl rfl rfl hx12g hx13g sz5)<|.nil rfl) ?_)
   refine cwR (
    .c (uM rfl)<|
    .c (uB rfl (qf3 _ _) rfl)<|
    .c (uA rfl)<|.nil rfl
   ) ?_
   exact ⟨((IntKind.wrap .i64 (v4.1 - 1)),(List.set v4.2 v4.1.toNat (UInt8.ofNat (0 : Int).toNat))),(sJ h45),.w (wkF ⟨⟨_,rfl,.ptr rfl rfl⟩,wD rfl,⟨_,rfl,.ptro rfl rfl⟩,wD rfl,⟨_,rfl,.ptr rfl rfl⟩,wD rfl,trivial⟩ ⟨.box rfl (.d rfl),.own rfl (.of_eq rfl (q9 _)),.box rfl (.d rfl),trivial⟩ qE)⟩
  refine cwF rfl hc13 ?_
  refine qZ ?_
  exact ⟨(v4.1,v4.2),(hx10 _ (sJ h42)).symm,.w (wkF ⟨⟨_,rfl,.ptr rfl rfl⟩,wD rfl,⟨_,rfl,.ptro rfl rfl⟩,wD rfl,⟨_,rfl,.ptr rfl rfl⟩,wD rfl,trivial⟩ ⟨.box rfl (.d rfl),.own rfl (.of_eq rfl (q9 _)),.box rfl (.d rfl),trivial⟩ qE)⟩
 rcases cdS hj4 with ⟨hc14,h46⟩ | ⟨hc14,h47⟩
 ·skip
  have ⟨x14,hx14,h48⟩ := bdS h46
  have hx14g := qD3 hx14
  have ⟨x15,hx15,h49⟩ := bdS h48
  have hx15g := qA hx15
  refine cwR (
   .c (uM rfl)<|
   .c (uB rfl (qW4 _ _) rfl)<|
   .c (uM rfl)<|
   .c (o_mv rfl rfl (.yes rfl rfl hc14) rfl)<|
   .c (o_ixP rfl rfl (.yes rfl rfl hc14) rfl rfl ar31 sz5 hx14g)<|
   .c (o_ldB (l := v4.2) [] rfl rfl (.yes rfl rfl hc14) rfl rfl rfl hx15g.2 ta5)<|
   .c (qj rfl rfl (.yes rfl rfl hc14) rfl rfl (q80 _ _) rfl)<|
   .c (uPT rfl hc14)<|.nil rfl
  ) ?_
  exact ⟨(decide ((x15.toNat : Int) = 255)),(sJ h49),.w (wkF ⟨⟨_,rfl,.ptr rfl rfl⟩,wD rfl,⟨_,rfl,.ptro rfl rfl⟩,wD rfl,⟨_,rfl,.ptr rfl rfl⟩,wD rfl,wD rfl,trivial⟩ ⟨.box rfl (.d rfl),.own rfl (.of_eq rfl (q9 _)),.box rfl (.d rfl),trivial⟩ qE)⟩
 refine cwR (
  .c (uM rfl)<|
  .c (uB rfl (qW4 _ _) rfl)<|
  .c (uM rfl)<|
  .c (uN rfl rfl hc14)<|
  .c (uN rfl rfl hc14)<|
  .c (uN rfl rfl hc14)<|
  .c (uN rfl rfl hc14)<|
  .c (uPF rfl hc14)<|.nil rfl
 ) ?_
 exact ⟨false,(sJ h47),.w (wkF ⟨⟨_,rfl,.ptr rfl rfl⟩,wD rfl,⟨_,rfl,.ptro rfl rfl⟩,wD rfl,⟨_,rfl,.ptr rfl rfl⟩,wD rfl,wD rfl,trivial⟩ ⟨.box rfl (.d rfl),.own rfl (.of_eq rfl (q9 _)),.box rfl (.d rfl),trivial⟩ qE)⟩
end
end Go.Val
