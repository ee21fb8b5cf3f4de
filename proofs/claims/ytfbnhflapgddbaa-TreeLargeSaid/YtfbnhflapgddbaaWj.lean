/- Walks of the program's functions,printed. -/
import Derived.Test.YtfbnhflapgddbaaWi
set_option linter.unusedSectionVars false
set_option linter.unusedVariables false
set_option linter.unusedSimpArgs false
set_option maxRecDepth 100000
namespace Go.Val
open Go.RowKit Go.Proofs
section
variable [NoDrw]
noncomputable def qT1 (a0 : Int) (a1 : Int) (a2 : Int) (a3 : Bool) : Option Bool := (qj2).bind fun x0 => (qD0 20000).bind fun x1 => (((qP (V := (Int × Int × ttM)) (O := ((Int × ttM) ⊕ Bool)) (fun v0 => cond (decide (v0.2.1 < (qC .i64 a0 4095))) (((((((qP (V := (Int × (List ttC))) (O := (List ttC)) (fun v1 => (((
        cond (decide (v1.1 < (IntKind.wrap .i64 (v0.2.1 + (IntKind.wrap .i64 (1 + (Int.tmod (qC .i64 a1 65535) 500))))))) (some (decide (v1.1 < (qC .i64 a0 4095)))) (some false)) : Option Bool)).bind fun o0 => cond o0 ((((cond a3 (some (IntKind.wrap .i64 ((IntKind.wrap .i64 ((qC .i64 a0 4095) - 1)) - v1.1))) (some v1.1)) : Option Int)).bind fun o1 =>
        (qg0 o1).bind fun x2 => (fits (v1.2.length + ([(x2,(ByteArray.mk #[118]),false)]).length) 48).bind fun _ => some (.inl ((IntKind.wrap .i64 (v1.1 + 1)),(v1.2 ++ [(x2,(ByteArray.mk #[118]),false)])))) (some (.inr v1.2))) (v0.2.1,[])) : Option (List ttC))).bind fun o2 => (qu0 v0.2.2 v0.1 o2).bind fun x3 => (((cond (decide (x3.2.1 ≠ 0)) (some (true,x3.2.2)) (
       (qf0 x3.2.2 v0.1).bind fun x4 => some ((decide (x4.1 ≠ 0)),x4.2))) : Option (Bool × ttM))).bind fun o3 => cond o3.1 (some (.inr false)) (some (.inl (x3.1,o3.2)))) : Option ((Int × ttM) ⊕ Bool))).bind fun o4 => Sum.elim (fun (v2 : (Int × ttM)) => some (.inl (v2.1,(IntKind.wrap .i64 (v0.2.1 + (IntKind.wrap .i64 (1 + (Int.tmod (qC .i64 a1 65535) 500))))),v2.2))
    ) (fun w0 => some (.inr (.inr w0))) o4) (some (.inr (.inl (v0.1,v0.2.2))))) (0,0,x1)) : Option ((Int × ttM) ⊕ Bool))).bind fun o5 => Sum.elim (fun (v3 : (Int × ttM)) => (qo0 v3.2 v3.1).bind fun x5 => cond (decide (x5.1 ≠ 0)) (some false) ((((qP (V := (Int × (List ttC))) (O := (List ttC)) (fun v4 => cond (decide (v4.1 < (qC .i64 a0 4095))) (
      (qg0 v4.1).bind fun x6 => (fits (v4.2.length + ([(x6,(ByteArray.mk #[]),true)]).length) 48).bind fun _ => some (.inl ((IntKind.wrap .i64 (v4.1 + (IntKind.wrap .i64 (1 + (qC .i64 a2 7))))),(v4.2 ++ [(x6,(ByteArray.mk #[]),true)])))) (some (.inr v4.2))) (0,[])) : Option (List ttC))).bind fun o6 => (qu0 x5.2 v3.1 o6).bind fun x7 => (((
    cond (decide (x7.2.1 ≠ 0)) (some (true,x7.2.2)) ((qf0 x7.2.2 v3.1).bind fun x8 => cond (decide (x8.1 ≠ 0)) (some (true,x8.2)) ((qo0 x8.2 x7.1).bind fun x9 => some ((decide (x9.1 ≠ 0)),x9.2)))) : Option (Bool × ttM))).bind fun o7 => cond o7.1 (some false) ((((cond (decide (x7.1 ≠ 0)) ((qu o7.2 x7.1).bind fun x10 => (((cond (decide (x10.2.1 ≠ 0)) (
        some true) (some (decide (x10.1.1 > 5)))) : Option Bool)).bind fun o8 => cond o8 (some (.inr false)) (some (.inl x10.2.2))) (some (.inl o7.2))) : Option (ttM ⊕ Bool))).bind fun o9 => Sum.elim (fun (v5 : ttM) => (qf2).bind fun x11 => (qf1 v5 x7.1 x11).bind fun x12 => cond (decide (x12.2.1 ≠ 0)) (some false) ((((
       qP (V := (Int × Int × ttM)) (O := ((Int × ttM) ⊕ Bool)) (fun v6 => cond (decide (v6.2.1 < (qC .i64 a0 4095))) (((((qg0 v6.2.1).bind fun x13 => (qW0 v6.2.2 x7.1 x13).bind fun x14 => (ck (decide ((IntKind.wrap .i64 (1 + (qC .i64 a2 7))) ≠ 0))).bind fun _ => (((cond (decide (x14.2.2.1 ≠ 0)) (some true) (
            some (x14.2.1 == (decide ((Int.tmod v6.2.1 (IntKind.wrap .i64 (1 + (qC .i64 a2 7)))) = 0))))) : Option Bool)).bind fun o10 => cond o10 (some (.inr false)) (cond (!(decide ((Int.tmod v6.2.1 (IntKind.wrap .i64 (1 + (qC .i64 a2 7)))) = 0))) ((((cond (decide (v6.1 ≥ (x12.1.length : Int))) (some true) ((gx x12.1 v6.1).bind fun x15 => some (!(decide (x15.1 = x13))))
            ) : Option Bool)).bind fun o11 => cond o11 (some (.inr false)) (some (.inl ((IntKind.wrap .i64 (v6.1 + 1)),x14.2.2.2)))) (some (.inl (v6.1,x14.2.2.2))))) : Option ((Int × ttM) ⊕ Bool))).bind fun o12 => Sum.elim (fun (v7 : (Int × ttM)) => some (.inl (v7.1,(IntKind.wrap .i64 (v6.2.1 + 1)),v7.2))) (fun w1 => some (.inr (.inr w1))) o12) (some (.inr (.inl (v6.1,v6.2.2))))
       ) (0,0,x12.2.2)) : Option ((Int × ttM) ⊕ Bool))).bind fun o13 => Sum.elim (fun (v8 : (Int × ttM)) => (((cond x0 (cond (decide (v8.1 = (x12.1.length : Int))) ((qf0 v8.2 x7.1).bind fun x16 => cond (decide (x16.1 = 0)) ((qr0 x16.2).bind fun x17 => some (decide (x17.1 = 20000))) (some false)) (some false)) (some false)) : Option Bool)).bind fun o14 => some o14
      ) (fun w2 => some w2) o13)) (fun w3 => some w3) o9))) (fun w4 => some w4) o5
theorem law07_TreeLarge_ok {a0 : Int} {a1 : Int} {a2 : Int} {a3 : Bool} {r : Bool} (h : qT1 a0 a1 a2 a3 = some r) : FnOk Try.prog 4 [.d (eint a0),.d (eint a1),.d (eint a2),.d (qI a3)] 0 (lk []) (fun rr oo => rr = .d (qI r) ∧ oo = lk []) := by
 refine fnO Try.func4 rfl rfl (cwP ?_)
 unfold qT1 at h
 refine cwS (cwR (
  .c (uA rfl)<|.nil rfl) ?_)
 have ⟨x0,hx0,h0⟩ := bdS (x := qj2) h
 refine cwS (cwR (
  .c (ql0 rfl rfl .no Try.func13 rfl rfl (law07_shown_ok hx0) .nil trivial (.inl rfl))<|
  .c (uA rfl)<|.nil rfl) ?_)
 refine cwS (cwR (
  .c (uM rfl)<|
  .c (uB rfl (b_and _ _) rfl)<|
  .c (uA rfl)<|.nil rfl) ?_)
 refine cwS (cwR (
  .c (uM rfl)<|
  .c (uB rfl (b_and _ _) rfl)<|
  .c (uB rfl (b_rem _ _ (by decide)) rfl)<|
  .c (uB rfl (qF0 _ _) rfl)<|
  .c (uA rfl)<|.nil rfl) ?_)
 refine cwS (cwR (
  .c (uM rfl)<|
  .c (uB rfl (b_and _ _) rfl)<|
  .c (uB rfl (qF0 _ _) rfl)<|
  .c (uA rfl)<|.nil rfl) ?_)
 have ⟨x1,hx1,h1⟩ := bdS (x := qD0 20000) h0
 refine cwS (cwR (
  .c (qQ4 0 rfl rfl .no Try.func14 rfl rfl (qe3 hx1) (.cons rfl .d .nil) ⟨trivial,trivial⟩ rfl (.inl rfl))<|
  .c (uA rfl)<|.nil rfl) ?_)
 refine cwS ?_
 refine cwS (cwR (
  .c (uM rfl)<|
  .c (o_pnilP rfl rfl .no rfl up24)<|.nil rfl) ?_)
 refine cwF rfl rfl ?_
 refine cwK ?_
 refine cwS (cwR (
  .c (uA rfl)<|.nil rfl) ?_)
 have ⟨o0,hj0,h2⟩ := bdS h1
 refine cwJ (fun (z : (Int × ttM)) => St.of [(0,.d (eint (qC .i64 a0 4095))),(2,.d (eint (IntKind.wrap .i64 (1 + (qC .i64 a2 7))))),(9,.d (qI x0)),(10,.ptr 0 0),(11,.d (eint z.1))] [(0,.own (qc z.2))]) (fun (z : (Int × ttM)) => o0 = (.inl z)) ?_ ?_
 ·intro v0 hv0; subst hv0
  simp only [Sum.elim_inl] at h2
  refine cwS ?_
  have ⟨x2,hx2,h3⟩ := bdS (x := qo0 v0.2 v0.1) h2
  refine cwS (cwR (
   .c (uM rfl)<|
   .c (qu2 rfl rfl .no rfl qO4)<|
   .c (uM rfl)<|
   .c (qE (fun _ => 0) rfl rfl .no Try.func22 rfl rfl (q01 hx2) (.cons rfl (.ip rfl) (.cons rfl .d .nil)) (qK rfl ⟨(by simp [AV.live,lk,Nat.beq]),trivial,trivial⟩ rfl (OD.dat_live (q9 _)) (by simp)) (.inl rfl))<|
   .c (uB rfl (qy2 _ _) rfl)<|.nil rfl) ?_)
  rcases cdS h3 with ⟨hc0,h4⟩ | ⟨hc0,h5⟩
  ·refine cwT rfl hc0 ?_
   refine cwS (cwR (
    .c (uA rfl)<|.nil rfl) ?_)
   have heq := ((sJ h4)).symm
   subst heq
   exact qq ⟨_,(show Leads _ _ (St.of [(8,.d (qI false))] []) from .w (wkF ⟨wD rfl,trivial⟩ trivial qA)),.inr rfl,_,res1 rfl rfl,rfl,rfl⟩
  refine cwF rfl hc0 ?_
  refine cwK ?_
  refine cwS (cwR (
   .c (uA rfl)<|.nil rfl) ?_)
  have ⟨o1,hj1,h6⟩ := bdS h5
  refine cwJ (fun (z : (List ttC)) => St.of [(0,.d (eint (qC .i64 a0 4095))),(2,.d (eint (IntKind.wrap .i64 (1 + (qC .i64 a2 7))))),(9,.d (qI x0)),(10,.ptr 0 0),(11,.d (eint v0.1)),(18,.arr 2 0)] [(0,.own (qc x2.2)),(2,.arr 0 26 (z.map eCg))]) (fun (z : (List ttC)) => o1 = z) ?_ ?_
  ·intro v1 hv1; subst hv1
   refine cwW (wkF (l := [(0,.d (eint (qC .i64 a0 4095))),(2,.d (eint (IntKind.wrap .i64 (1 + (qC .i64 a2 7))))),(9,.d (qI x0)),(10,.ptr 0 0),(11,.d (eint v0.1)),(18,.d (eSC o1))]) (m := [(0,.own (qc x2.2))]) ⟨wD rfl,wD rfl,wD rfl,⟨_,rfl,.ptro rfl rfl⟩,wD rfl,⟨_,rfl,.frz rfl rfl rfl⟩,trivial⟩ ⟨.own rfl (.of_eq rfl (q9 _)),trivial⟩ qA) ?_
   have ⟨x3,hx3,h7⟩ := bdS (x := qu0 x2.2 v0.1 o1) h6
   refine cwS (cwR (
    .c (uM rfl)<|
    .c (qu2 rfl rfl .no rfl qO4)<|
    .c (uM rfl)<|
    .c (uM rfl)<|
    .c (qE (fun _ => 0) rfl rfl .no Try.func15 rfl rfl (qX1 hx3) (.cons rfl (.ip rfl) (.cons rfl .d (.cons rfl .d .nil))) (qK rfl ⟨(by simp [AV.live,lk,Nat.beq]),trivial,trivial,trivial⟩ rfl (OD.dat_live (q9 _)) (by simp)) (.inl rfl))<|
    .c (uM rfl)<|
    .c (uE rfl)<|
    .c (uE rfl)<|
    .c (uA rfl)<|
    .c (uA rfl)<|.nil rfl) ?_)
   refine cwS ?_
   have ⟨o2,hj2,h8⟩ := bdS h7
   refine cwJ (fun (z : (Bool × ttM)) => St.of [(0,.d (eint (qC .i64 a0 4095))),(2,.d (eint (IntKind.wrap .i64 (1 + (qC .i64 a2 7))))),(9,.d (qI x0)),(10,.ptr 0 0),(20,.d (eint x3.1)),(134,.d (qI z.1))] [(0,.own (qc z.2))]) (fun (z : (Bool × ttM)) => o2 = z) ?_ ?_
   ·intro v2 hv2; subst hv2
    rcases cdS h8 with ⟨hc1,h9⟩ | ⟨hc1,h10⟩
    ·refine cwT rfl hc1 ?_
     refine cwS (cwR (
      .c (uA rfl)<|.nil rfl) ?_)
     have heq := ((sJ h9)).symm
     subst heq
     exact qq ⟨_,(show Leads _ _ (St.of [(8,.d (qI false))] []) from .w (wkF ⟨wD rfl,trivial⟩ trivial qA)),.inr rfl,_,res1 rfl rfl,rfl,rfl⟩
    refine cwF rfl hc1 ?_
    refine cwK ?_
    refine cwS (cwR (
     .c (uM rfl)<|
     .c (uA rfl)<|.nil rfl) ?_)
    have ⟨o3,hj3,h11⟩ := bdS h10
    refine cwJ (fun (z : ttM) => St.of [(0,.d (eint (qC .i64 a0 4095))),(2,.d (eint (IntKind.wrap .i64 (1 + (qC .i64 a2 7))))),(9,.d (qI x0)),(10,.ptr 0 0),(11,.d (eint x3.1))] [(0,.own (qc z))]) (fun (z : ttM) => o3 = (.inl z)) ?_ ?_
    ·intro v3 hv3; subst hv3
     simp only [Sum.elim_inl] at h11
     have ⟨x4,hx4,h12⟩ := bdS (x := qf2) h11
     have ⟨x5,hx5,h13⟩ := bdS (x := qf1 v3 x3.1 x4) h12
     refine cwS (cwR (
      .c (uM rfl)<|
      .c (qu2 rfl rfl .no rfl qO4)<|
      .c (uM rfl)<|
      .c (ql0 rfl rfl .no Try.func18 rfl rfl (law07_all_ok hx4) .nil trivial (.inl rfl))<|
      .c (qE (fun _ => 0) rfl rfl .no Try.func17 rfl rfl (q84 hx5) (.cons rfl (.ip rfl) (.cons rfl .d (.cons rfl .d .nil))) (qK rfl ⟨(by simp [AV.live,lk,Nat.beq]),trivial,trivial,trivial⟩ rfl (OD.dat_live (q9 _)) (by simp)) (.inl rfl))<|
      .c (uM rfl)<|
      .c (uE rfl)<|
      .c (uE rfl)<|
      .c (uA rfl)<|
      .c (uA rfl)<|.nil rfl) ?_)
     refine cwS ?_
     refine cwS (cwR (
      .c (uM rfl)<|
      .c (uB rfl (qy2 _ _) rfl)<|.nil rfl) ?_)
     rcases cdS h13 with ⟨hc2,h14⟩ | ⟨hc2,h15⟩
     ·refine cwT rfl hc2 ?_
      refine cwS (cwR (
       .c (uA rfl)<|.nil rfl) ?_)
      have heq := ((sJ h14)).symm
      subst heq
      exact qq ⟨_,(show Leads _ _ (St.of [(8,.d (qI false))] []) from .w (wkF ⟨wD rfl,trivial⟩ trivial qA)),.inr rfl,_,res1 rfl rfl,rfl,rfl⟩
     refine cwF rfl hc2 ?_
     refine cwK ?_
     refine cwS (cwR (
      .c (uA rfl)<|.nil rfl) ?_)
     have ⟨o4,hj4,h16⟩ := bdS h15
     refine cwJ (fun (z : (Int × ttM)) => St.of [(9,.d (qI x0)),(10,.ptr 0 0),(11,.d (eint x3.1)),(24,.d (eSP_ x5.1)),(26,.d (eint z.1))] [(0,.own (qc z.2))]) (fun (z : (Int × ttM)) => o4 = (.inl z)) ?_ ?_
     ·intro v4 hv4; subst hv4
      simp only [Sum.elim_inl] at h16
      have ⟨o5,hj5,h17⟩ := bdS h16
      refine cwJ (fun (z : Bool) => St.of [(8,.d (qI z))] []) (fun (z : Bool) => o5 = z) ?_ ?_
      ·intro v5 hv5; subst hv5
       have heq := ((sJ h17)).symm
       subst heq
       exact qq ⟨_,(show Leads _ _ (St.of [(8,.d (qI o5))] []) from .w (wkF ⟨wD rfl,trivial⟩ trivial qA)),.inr rfl,_,res1 rfl rfl,rfl,rfl⟩
      rcases cdS hj5 with ⟨hc3,h18⟩ | ⟨hc3,h19⟩
      ·skip
       rcases cdS h18 with ⟨hc4,h20⟩ | ⟨hc4,h21⟩
       ·skip
        have ⟨x6,hx6,h22⟩ := bdS (x := qf0 v4.2 x3.1) h20
        rcases cdS h22 with ⟨hc5,h23⟩ | ⟨hc5,h24⟩
        ·skip
         have ⟨x7,hx7,h25⟩ := bdS (x := qr0 x6.2) h23
         refine cwR (
          .c (uM rfl)<|
          .c (uM rfl)<|
          .c (o_mv rfl rfl (.yes rfl rfl hc3) rfl)<|
          .c (o_mv rfl rfl (.yes rfl rfl hc3) rfl)<|
          .c (qY (enc := ePr) (xs := x5.1) rfl rfl (.yes rfl rfl hc3) rfl sl34)<|
          .c (qj rfl rfl (.yes rfl rfl hc3) rfl rfl (q90 _ _) rfl)<|
          .c (uPT rfl hc3)<|
          .c (uM rfl)<|
          .c (o_mv rfl rfl (.yes rfl rfl hc4) rfl)<|
          .c (qu2 rfl rfl (.yes rfl rfl hc4) rfl qO4)<|
          .c (o_mv rfl rfl (.yes rfl rfl hc4) rfl)<|
          .c (qE (fun _ => 0) rfl rfl (.yes rfl rfl hc4) Try.func21 rfl rfl (qk0 hx6) (.cons rfl (.ip rfl) (.cons rfl .d .nil)) (qK rfl ⟨(by simp [AV.live,lk,Nat.beq]),trivial,trivial⟩ rfl (OD.dat_live (q9 _)) (by simp)) (.inl rfl))<|
          .c (qj rfl rfl (.yes rfl rfl hc4) rfl rfl (q90 _ _) rfl)<|
          .c (uPT rfl hc4)<|
          .c (uM rfl)<|
          .c (o_mv rfl rfl (.yes rfl rfl hc5) rfl)<|
          .c (qE (fun _ => 0) rfl rfl (.yes rfl rfl hc5) Try.func25 rfl rfl (qH1 hx7) (.cons rfl (.p rfl) .nil) (qK rfl ⟨(by simp [AV.live,lk,Nat.beq]),trivial⟩ rfl (OD.dat_live (q9 _)) (by simp)) (.inl rfl))<|
          .c (qj rfl rfl (.yes rfl rfl hc5) rfl rfl (q90 _ _) rfl)<|
          .c (uPT rfl hc5)<|
          .c (uA rfl)<|.nil rfl
         ) ?_
         exact ⟨(decide (x7.1 = 20000)),(sJ h25),.w (wkF ⟨wD rfl,trivial⟩ trivial qA)⟩
        refine cwR (
         .c (uM rfl)<|
         .c (uM rfl)<|
         .c (o_mv rfl rfl (.yes rfl rfl hc3) rfl)<|
         .c (o_mv rfl rfl (.yes rfl rfl hc3) rfl)<|
         .c (qY (enc := ePr) (xs := x5.1) rfl rfl (.yes rfl rfl hc3) rfl sl34)<|
         .c (qj rfl rfl (.yes rfl rfl hc3) rfl rfl (q90 _ _) rfl)<|
         .c (uPT rfl hc3)<|
         .c (uM rfl)<|
         .c (o_mv rfl rfl (.yes rfl rfl hc4) rfl)<|
         .c (qu2 rfl rfl (.yes rfl rfl hc4) rfl qO4)<|
         .c (o_mv rfl rfl (.yes rfl rfl hc4) rfl)<|
         .c (qE (fun _ => 0) rfl rfl (.yes rfl rfl hc4) Try.func21 rfl rfl (qk0 hx6) (.cons rfl (.ip rfl) (.cons rfl .d .nil)) (qK rfl ⟨(by simp [AV.live,lk,Nat.beq]),trivial,trivial⟩ rfl (OD.dat_live (q9 _)) (by simp)) (.inl rfl))<|
         .c (qj rfl rfl (.yes rfl rfl hc4) rfl rfl (q90 _ _) rfl)<|
         .c (uPT rfl hc4)<|
         .c (uM rfl)<|
         .c (uN rfl rfl hc5)<|
         .c (uN rfl rfl hc5)<|
         .c (uN rfl rfl hc5)<|
         .c (uPF rfl hc5)<|
         .c (uA rfl)<|.nil rfl
        ) ?_
        exact ⟨false,(sJ h24),.w (wkF ⟨wD rfl,trivial⟩ trivial qA)⟩
       refine cwR (
        .c (uM rfl)<|
        .c (uM rfl)<|
        .c (o_mv rfl rfl (.yes rfl rfl hc3) rfl)<|
        .c (o_mv rfl rfl (.yes rfl rfl hc3) rfl)<|
        .c (qY (enc := ePr) (xs := x5.1) rfl rfl (.yes rfl rfl hc3) rfl sl34)<|
        .c (qj rfl rfl (.yes rfl rfl hc3) rfl rfl (q90 _ _) rfl)<|
        .c (uPT rfl hc3)<|
        .c (uM rfl)<|
        .c (uN rfl rfl hc4)<|
        .c (uN rfl rfl hc4)<|
        .c (uN rfl rfl hc4)<|
        .c (uN rfl rfl hc4)<|
        .c (uN rfl rfl hc4)<|
        .c (uPF rfl hc4)<|
        .c (uM rfl)<|
        .c (uN rfl rfl rfl)<|
        .c (uN rfl rfl rfl)<|
        .c (uN rfl rfl rfl)<|
        .c (uPF rfl rfl)<|
        .c (uA rfl)<|.nil rfl
       ) ?_
       exact ⟨false,(sJ h21),.w (wkF ⟨wD rfl,trivial⟩ trivial qA)⟩
      refine cwR (
       .c (uM rfl)<|
       .c (uM rfl)<|
       .c (uN rfl rfl hc3)<|
       .c (uN rfl rfl hc3)<|
       .c (uN rfl rfl hc3)<|
       .c (uN rfl rfl hc3)<|
       .c (uPF rfl hc3)<|
       .c (uM rfl)<|
       .c (uN rfl rfl rfl)<|
       .c (uN rfl rfl rfl)<|
       .c (uN rfl rfl rfl)<|
       .c (uN rfl rfl rfl)<|
       .c (uN rfl rfl rfl)<|
       .c (uPF rfl rfl)<|
       .c (uM rfl)<|
       .c (uN rfl rfl rfl)<|
       .c (uN rfl rfl rfl)<|
       .c (uN rfl rfl rfl)<|
       .c (uPF rfl rfl)<|
       .c (uA rfl)<|.nil rfl
      ) ?_
      exact ⟨false,(sJ h19),.w (wkF ⟨wD rfl,trivial⟩ trivial qA)⟩
     refine cwS (cwR (
      .c (uA rfl)<|.nil rfl) ?_)
     refine cwB ?_
     refine qG (V := (Int × Int × ttM)) (O := ((Int × ttM) ⊕ Bool)) (fun (z : (Int × Int × ttM)) => St.of [(0,.d (eint (qC .i64 a0 4095))),(2,.d (eint (IntKind.wrap .i64 (1 + (qC .i64 a2 7))))),(9,.d (qI x0)),(10,.ptr 0 0),(11,.d (eint x3.1)),(24,.d (eSP_ x5.1)),(26,.d (eint z.1)),(27,.d (eint z.2.1))] [(0,.own (qc z.2.2))]) hj4 (.w (wkF ⟨wD rfl,wD rfl,wD rfl,⟨_,rfl,.ptro rfl rfl⟩,wD rfl,wD rfl,wD rfl,wD rfl,trivial⟩ ⟨.own rfl (.of_eq rfl (q9 _)),trivial⟩ qA)) ?_
     intro v6 x8 hb0 hx8
     refine cwS ?_
     refine cwS (cwR (
      .c (uM rfl)<|
      .c (uM rfl)<|
      .c (uB rfl (qK0 _ _) rfl)<|.nil rfl) ?_)
     rcases cdS hb0 with ⟨hc6,h26⟩ | ⟨hc6,h27⟩
     ·refine cwT rfl hc6 ?_
      refine cwK ?_
      have ⟨o6,hj6,h28⟩ := bdS h26
      refine cwJ (fun (z : (Int × ttM)) => St.of [(0,.d (eint (qC .i64 a0 4095))),(2,.d (eint (IntKind.wrap .i64 (1 + (qC .i64 a2 7))))),(9,.d (qI x0)),(10,.ptr 0 0),(11,.d (eint x3.1)),(24,.d (eSP_ x5.1)),(26,.d (eint z.1)),(27,.d (eint v6.2.1))] [(0,.own (qc z.2))]) (fun (z : (Int × ttM)) => o6 = (.inl z)) ?_ ?_
      ·intro v7 hv6; subst hv6
       simp only [Sum.elim_inl] at h28
       refine cwR (
        .c (uM rfl)<|
        .c (uB rfl (qF0 _ _) rfl)<|
        .c (uA rfl)<|.nil rfl
       ) ?_
       exact ⟨(v7.1,(IntKind.wrap .i64 (v6.2.1 + 1)),v7.2),(sJ h28),.w (wkF ⟨wD rfl,wD rfl,wD rfl,⟨_,rfl,.ptro rfl rfl⟩,wD rfl,wD rfl,wD rfl,wD rfl,trivial⟩ ⟨.own rfl (.of_eq rfl (q9 _)),trivial⟩ qA)⟩
      refine cwB ?_
      have ⟨x9,hx9,h29⟩ := bdS (x := qg0 v6.2.1) hj6
      have ⟨x10,hx10,h30⟩ := bdS (x := qW0 v6.2.2 x3.1 x9) h29
      refine cwS (cwR (
       .c (uM rfl)<|
       .c (qu2 rfl rfl .no rfl qO4)<|
       .c (uM rfl)<|
       .c (uM rfl)<|
       .c (ql0 rfl rfl .no Try.func20 rfl rfl (qW1 hx9) (.cons rfl .d .nil) ⟨trivial,trivial⟩ (.inl rfl))<|
       .c (qE (fun _ => 0) rfl rfl .no Try.func24 rfl rfl (qC3 hx10) (.cons rfl (.ip rfl) (.cons rfl .d (.cons rfl .d .nil))) (qK rfl ⟨(by simp [AV.live,lk,Nat.beq]),trivial,trivial,trivial⟩ rfl (OD.dat_live (q9 _)) (by simp)) (.inl rfl))<|
       .c (uM rfl)<|
       .c (uE rfl)<|
       .c (uE rfl)<|
       .c (uE rfl)<|
       .c (uA rfl)<|
       .c (uA rfl)<|
       .c (uA rfl)<|.nil rfl) ?_)
      have ⟨x11,hx11,h31⟩ := bdS h30
      have hx11g := qR3 hx11
      refine cwS (cwR (
       .c (uM rfl)<|
       .c (uM rfl)<|
       .c (uB rfl (b_rem _ _ hx11g) rfl)<|
       .c (uB rfl (q90 _ _) rfl)<|
       .c (uA rfl)<|.nil rfl) ?_)
      refine cwS ?_
      have ⟨o7,hj7,h32⟩ := bdS h31
      refine cwJ (fun (z : Bool) => St.of [(0,.d (eint (qC .i64 a0 4095))),(2,.d (eint (IntKind.wrap .i64 (1 + (qC .i64 a2 7))))),(9,.d (qI x0)),(10,.ptr 0 0),(11,.d (eint x3.1)),(24,.d (eSP_ x5.1)),(26,.d (eint v6.1)),(27,.d (eint v6.2.1)),(31,.d (qI (decide ((Int.tmod v6.2.1 (IntKind.wrap .i64 (1 + (qC .i64 a2 7)))) = 0)))),(186,.d (qI z))] [(0,.own (qc x10.2.2.2))]) (fun (z : Bool) => o7 = z) ?_ ?_
      ·intro v8 hv7; subst hv7
       rcases cdS h32 with ⟨hc7,h33⟩ | ⟨hc7,h34⟩
       ·refine cwT rfl hc7 ?_
        refine cwS (cwR (
         .c (uA rfl)<|.nil rfl) ?_)
        have he0 := ((sJ h33)).symm
        subst he0
        have he1 := ((hx8 _ (sJ h28)).symm).symm
        subst he1
        have heq := ((sJ h16)).symm
        subst heq
        exact qq ⟨_,(show Leads _ _ (St.of [(8,.d (qI false))] []) from .w (wkF ⟨wD rfl,trivial⟩ trivial qA)),.inr rfl,_,res1 rfl rfl,rfl,rfl⟩
       refine cwF rfl hc7 ?_
       refine cwK ?_
       refine cwS (cwR (
        .c (uM rfl)<|
        .c (uT rfl)<|.nil rfl) ?_)
       rcases cdS h34 with ⟨hc8,h35⟩ | ⟨hc8,h36⟩
       ·refine cwT rfl hc8 ?_
        refine cwS ?_
        have ⟨o8,hj8,h37⟩ := bdS h35
        refine cwJ (fun (z : Bool) => St.of [(0,.d (eint (qC .i64 a0 4095))),(2,.d (eint (IntKind.wrap .i64 (1 + (qC .i64 a2 7))))),(9,.d (qI x0)),(10,.ptr 0 0),(11,.d (eint x3.1)),(24,.d (eSP_ x5.1)),(26,.d (eint v6.1)),(27,.d (eint v6.2.1)),(202,.d (qI z))] [(0,.own (qc x10.2.2.2))]) (fun (z : Bool) => o8 = z) ?_ ?_
        ·intro v9 hv8; subst hv8
         rcases cdS h37 with ⟨hc9,h38⟩ | ⟨hc9,h39⟩
         ·refine cwT rfl hc9 ?_
          refine cwS (cwR (
           .c (uA rfl)<|.nil rfl) ?_)
          have he2 := ((sJ h38)).symm
          subst he2
          have he3 := ((hx8 _ (sJ h28)).symm).symm
          subst he3
          have heq := ((sJ h16)).symm
          subst heq
          exact qq ⟨_,(show Leads _ _ (St.of [(8,.d (qI false))] []) from .w (wkF ⟨wD rfl,trivial⟩ trivial qA)),.inr rfl,_,res1 rfl rfl,rfl,rfl⟩
         refine cwF rfl hc9 ?_
         refine cwK ?_
         refine cwR (
          .c (uM rfl)<|
          .c (uB rfl (qF0 _ _) rfl)<|
          .c (uA rfl)<|.nil rfl
         ) ?_
         exact ⟨((IntKind.wrap .i64 (v6.1 + 1)),x10.2.2.2),(sJ h39),.w (wkF ⟨wD rfl,wD rfl,wD rfl,⟨_,rfl,.ptro rfl rfl⟩,wD rfl,wD rfl,wD rfl,wD rfl,trivial⟩ ⟨.own rfl (.of_eq rfl (q9 _)),trivial⟩ qA)⟩
        rcases cdS hj8 with ⟨hc10,h40⟩ | ⟨hc10,h41⟩
        ·skip
         refine cwRA mixed (by kernel_rfl) (
          .c (uM rfl)<|
          .c (uM rfl)<|
          .c (qY (enc := ePr) (xs := x5.1) rfl rfl .no rfl sl34)<|
          .c (uB rfl (b_geq _ _) rfl)<|
          .c (uM rfl)<|
          .c (uN rfl rfl hc10)<|
          .c (uN rfl rfl hc10)<|
          .c (uN rfl rfl hc10)<|
          .c (uN rfl rfl hc10)<|
          .c (uN rfl rfl hc10)<|
          .c (uN rfl rfl hc10)<|
          .c (uN rfl rfl hc10)<|
          .c (uN rfl rfl hc10)<|
          .c (uPT rfl hc10)<|.nil rfl) (by kernel_rfl) ?_
         exact ⟨true,(sJ h40),.w (wkF ⟨wD rfl,wD rfl,wD rfl,⟨_,rfl,.ptro rfl rfl⟩,wD rfl,wD rfl,wD rfl,wD rfl,wD rfl,trivial⟩ ⟨.own rfl (.of_eq rfl (q9 _)),trivial⟩ qA)⟩
        have ⟨x12,hx12,h42⟩ := bdS h41
        have hx12g := qB hx12
        refine cwRA mixed (by kernel_rfl) (
         .c (uM rfl)<|
         .c (uM rfl)<|
         .c (qY (enc := ePr) (xs := x5.1) rfl rfl .no rfl sl34)<|
         .c (uB rfl (b_geq _ _) rfl)<|
         .c (uM rfl)<|
         .c (o_mv rfl rfl (.yes rfl rfl hc10) rfl)<|
         .c (o_mv rfl rfl (.yes rfl rfl hc10) rfl)<|
         .c (q52 (enc := ePr) (xs := x5.1) rfl rfl (.yes rfl rfl hc10) rfl rfl sl34 sz52 hx12g.1 hx12g.2)<|
         .c (qi2 rfl rfl (.yes rfl rfl hc10) rfl qk4 (by decide) rfl rfl)<|
         .c (o_ld rfl rfl (.yes rfl rfl hc10) rfl ta31 rfl rfl)<|
         .c (o_mv rfl rfl (.yes rfl rfl hc10) rfl)<|
         .c (ql0 rfl rfl (.yes rfl rfl hc10) Try.func20 rfl rfl (qW1 hx9) (.cons rfl .d .nil) ⟨trivial,trivial⟩ (.inl rfl))<|
         .c (o_ne rfl rfl (.yes rfl rfl hc10) rfl rfl rfl rfl eg31 (.bs ar31 un5 sz5))<|
         .c (uPF rfl hc10)<|.nil rfl) (by kernel_rfl) ?_
        exact ⟨(!(decide (x12.1 = x9))),(sJ h42),.w (wkF ⟨wD rfl,wD rfl,wD rfl,⟨_,rfl,.ptro rfl rfl⟩,wD rfl,wD rfl,wD rfl,wD rfl,wD rfl,trivial⟩ ⟨.own rfl (.of_eq rfl (q9 _)),trivial⟩ qA)⟩
       refine cwF rfl hc8 ?_
       refine cwK ?_
       exact ⟨(v6.1,x10.2.2.2),(sJ h36),.w (wkF ⟨wD rfl,wD rfl,wD rfl,⟨_,rfl,.ptro rfl rfl⟩,wD rfl,wD rfl,wD rfl,wD rfl,trivial⟩ ⟨.own rfl (.of_eq rfl (q9 _)),trivial⟩ qA)⟩
      rcases cdS hj7 with ⟨hc11,h43⟩ | ⟨hc11,h44⟩
      ·skip
       refine cwR (
        .c (uM rfl)<|
        .c (uB rfl (qy2 _ _) rfl)<|
        .c (uM rfl)<|
        .c (uN rfl rfl hc11)<|
        .c (uN rfl rfl hc11)<|
        .c (uN rfl rfl hc11)<|
        .c (uPT rfl hc11)<|.nil rfl
       ) ?_
       exact ⟨true,(sJ h43),.w (wkF ⟨wD rfl,wD rfl,wD rfl,⟨_,rfl,.ptro rfl rfl⟩,wD rfl,wD rfl,wD rfl,wD rfl,wD rfl,wD rfl,trivial⟩ ⟨.own rfl (.of_eq rfl (q9 _)),trivial⟩ qA)⟩
      refine cwR (
       .c (uM rfl)<|
       .c (uB rfl (qy2 _ _) rfl)<|
       .c (uM rfl)<|
       .c (o_mv rfl rfl (.yes rfl rfl hc11) rfl)<|
       .c (o_mv rfl rfl (.yes rfl rfl hc11) rfl)<|
       .c (qj rfl rfl (.yes rfl rfl hc11) rfl rfl (t_eql _ _ un4) rfl)<|
       .c (uPF rfl hc11)<|.nil rfl
      ) ?_
      exact ⟨(x10.2.1 == (decide ((Int.tmod v6.2.1 (IntKind.wrap .i64 (1 + (qC .i64 a2 7)))) = 0))),(sJ h44),.w (wkF ⟨wD rfl,wD rfl,wD rfl,⟨_,rfl,.ptro rfl rfl⟩,wD rfl,wD rfl,wD rfl,wD rfl,wD rfl,wD rfl,trivial⟩ ⟨.own rfl (.of_eq rfl (q9 _)),trivial⟩ qA)⟩
     refine cwF rfl hc6 ?_
     refine qX ?_
     exact ⟨(v6.1,v6.2.2),(hx8 _ (sJ h27)).symm,.w (wkF ⟨wD rfl,⟨_,rfl,.ptro rfl rfl⟩,wD rfl,wD rfl,wD rfl,trivial⟩ ⟨.own rfl (.of_eq rfl (q9 _)),trivial⟩ qA)⟩
    refine cwS (cwR (
     .c (uM rfl)<|
     .c (uB rfl (qy2 _ _) rfl)<|.nil rfl) ?_)
    rcases cdS hj3 with ⟨hc12,h45⟩ | ⟨hc12,h46⟩
    ·refine cwT rfl hc12 ?_
     have ⟨x13,hx13,h47⟩ := bdS (x := qu o2.2 x3.1) h45
     refine cwS (cwR (
      .c (uM rfl)<|
      .c (uM rfl)<|
      .c (qE (fun n => bif Nat.beq n 0 then 0 else 3) rfl rfl .no Try.func23 rfl rfl (qb0 hx13) (.cons rfl (.p rfl) (.cons rfl .d .nil)) (qE2 [1] rfl ⟨(by simp [AV.live,AV.lives,lk,Nat.beq]),trivial,trivial⟩ ⟨⟨rfl,(OD.dat_live (q9 _))⟩,trivial⟩ rfl rfl rfl ⟨rfl,trivial⟩ rfl) (.inl rfl))<|
      .c (uM rfl)<|
      .c (uE rfl)<|
      .c (uE rfl)<|
      .c (qd0 4 rfl rfl .no ze46 rfl)<|
      .c (uS [] rfl sz46 rfl)<|
      .c (uA rfl)<|.nil rfl) ?_)
     have ⟨o9,hj9,h48⟩ := bdS h47
     refine cwJ (fun (z : Bool) => St.of [(0,.d (eint (qC .i64 a0 4095))),(2,.d (eint (IntKind.wrap .i64 (1 + (qC .i64 a2 7))))),(9,.d (qI x0)),(10,.ptr 0 0),(11,.d (eint x3.1)),(150,.d (qI z))] [(0,.own (qc x13.2.2))]) (fun (z : Bool) => o9 = z) ?_ ?_
     ·intro v10 hv9; subst hv9
      rcases cdS h48 with ⟨hc13,h49⟩ | ⟨hc13,h50⟩
      ·refine cwT rfl hc13 ?_
       refine cwS (cwR (
        .c (uA rfl)<|.nil rfl) ?_)
       have he4 := ((sJ h49)).symm
       subst he4
       have heq := ((sJ h11)).symm
       subst heq
       exact qq ⟨_,(show Leads _ _ (St.of [(8,.d (qI false))] []) from .w (wkF ⟨wD rfl,trivial⟩ trivial qA)),.inr rfl,_,res1 rfl rfl,rfl,rfl⟩
      refine cwF rfl hc13 ?_
      refine cwK ?_
      exact ⟨x13.2.2,(sJ h50),.w (wkF ⟨wD rfl,wD rfl,wD rfl,⟨_,rfl,.ptro rfl rfl⟩,wD rfl,trivial⟩ ⟨.own rfl (.of_eq rfl (q9 _)),trivial⟩ qA)⟩
     rcases cdS hj9 with ⟨hc14,h51⟩ | ⟨hc14,h52⟩
     ·skip
      refine cwR (
       .c (uM rfl)<|
       .c (uB rfl (qy2 _ _) rfl)<|
       .c (uM rfl)<|
       .c (uN rfl rfl hc14)<|
       .c (uN rfl rfl hc14)<|
       .c (uN rfl rfl hc14)<|
       .c (uPT rfl hc14)<|.nil rfl
      ) ?_
      exact ⟨true,(sJ h51),.w (wkF ⟨wD rfl,wD rfl,wD rfl,⟨_,rfl,.ptro rfl rfl⟩,wD rfl,wD rfl,trivial⟩ ⟨.own rfl (.of_eq rfl (q9 _)),trivial⟩ qA)⟩
     refine cwR (
      .c (uM rfl)<|
      .c (uB rfl (qy2 _ _) rfl)<|
      .c (uM rfl)<|
      .c (qn rfl rfl (.yes rfl rfl hc14) rfl qa1 (by decide))<|
      .c (qD [0] rfl rfl (.yes rfl rfl hc14) rfl rfl rfl ta3 rfl rfl)<|
      .c (qj rfl rfl (.yes rfl rfl hc14) rfl rfl (qh3 _ _) rfl)<|
      .c (uPF rfl hc14)<|.nil rfl
     ) ?_
     exact ⟨(decide (x13.1.1 > 5)),(sJ h52),.w (wkF ⟨wD rfl,wD rfl,wD rfl,⟨_,rfl,.ptro rfl rfl⟩,wD rfl,wD rfl,trivial⟩ ⟨.own rfl (.of_eq rfl (q9 _)),trivial⟩ qA)⟩
    refine cwF rfl hc12 ?_
    refine cwK ?_
    exact ⟨o2.2,(sJ h46),.w (wkF ⟨wD rfl,wD rfl,wD rfl,⟨_,rfl,.ptro rfl rfl⟩,wD rfl,trivial⟩ ⟨.own rfl (.of_eq rfl (q9 _)),trivial⟩ qA)⟩
   rcases cdS hj2 with ⟨hc15,h53⟩ | ⟨hc15,h54⟩
   ·skip
    refine cwR (
     .c (uM rfl)<|
     .c (uB rfl (qy2 _ _) rfl)<|
     .c (uM rfl)<|
     .c (uN rfl rfl hc15)<|
     .c (uN rfl rfl hc15)<|
     .c (uN rfl rfl hc15)<|
     .c (uN rfl rfl hc15)<|
     .c (uN rfl rfl hc15)<|
     .c (uPT rfl hc15)<|
     .c (uM rfl)<|
     .c (uN rfl rfl rfl)<|
     .c (uN rfl rfl rfl)<|
     .c (uN rfl rfl rfl)<|
     .c (uN rfl rfl rfl)<|
     .c (uN rfl rfl rfl)<|
     .c (uPT rfl rfl)<|.nil rfl
    ) ?_
    exact ⟨(true,x3.2.2),(sJ h53),.w (wkF ⟨wD rfl,wD rfl,wD rfl,⟨_,rfl,.ptro rfl rfl⟩,wD rfl,wD rfl,trivial⟩ ⟨.own rfl (.of_eq rfl (q9 _)),trivial⟩ qA)⟩
   have ⟨x14,hx14,h55⟩ := bdS (x := qf0 x3.2.2 v0.1) h54
   rcases cdS h55 with ⟨hc16,h56⟩ | ⟨hc16,h57⟩
   ·skip
    refine cwR (
     .c (uM rfl)<|
     .c (uB rfl (qy2 _ _) rfl)<|
     .c (uM rfl)<|
     .c (o_mv rfl rfl (.yes rfl rfl hc15) rfl)<|
     .c (qu2 rfl rfl (.yes rfl rfl hc15) rfl qO4)<|
     .c (o_mv rfl rfl (.yes rfl rfl hc15) rfl)<|
     .c (qE (fun _ => 0) rfl rfl (.yes rfl rfl hc15) Try.func21 rfl rfl (qk0 hx14) (.cons rfl (.ip rfl) (.cons rfl .d .nil)) (qK rfl ⟨(by simp [AV.live,lk,Nat.beq]),trivial,trivial⟩ rfl (OD.dat_live (q9 _)) (by simp)) (.inl rfl))<|
     .c (qj rfl rfl (.yes rfl rfl hc15) rfl rfl (qy2 _ _) rfl)<|
     .c (uPF rfl hc15)<|
     .c (uM rfl)<|
     .c (uN rfl rfl hc16)<|
     .c (uN rfl rfl hc16)<|
     .c (uN rfl rfl hc16)<|
     .c (uN rfl rfl hc16)<|
     .c (uN rfl rfl hc16)<|
     .c (uPT rfl hc16)<|.nil rfl
    ) ?_
    exact ⟨(true,x14.2),(sJ h56),.w (wkF ⟨wD rfl,wD rfl,wD rfl,⟨_,rfl,.ptro rfl rfl⟩,wD rfl,wD rfl,trivial⟩ ⟨.own rfl (.of_eq rfl (q9 _)),trivial⟩ qA)⟩
   have ⟨x15,hx15,h58⟩ := bdS (x := qo0 x14.2 x3.1) h57
   refine cwR (
    .c (uM rfl)<|
    .c (uB rfl (qy2 _ _) rfl)<|
    .c (uM rfl)<|
    .c (o_mv rfl rfl (.yes rfl rfl hc15) rfl)<|
    .c (qu2 rfl rfl (.yes rfl rfl hc15) rfl qO4)<|
    .c (o_mv rfl rfl (.yes rfl rfl hc15) rfl)<|
    .c (qE (fun _ => 0) rfl rfl (.yes rfl rfl hc15) Try.func21 rfl rfl (qk0 hx14) (.cons rfl (.ip rfl) (.cons rfl .d .nil)) (qK rfl ⟨(by simp [AV.live,lk,Nat.beq]),trivial,trivial⟩ rfl (OD.dat_live (q9 _)) (by simp)) (.inl rfl))<|
    .c (qj rfl rfl (.yes rfl rfl hc15) rfl rfl (qy2 _ _) rfl)<|
    .c (uPF rfl hc15)<|
    .c (uM rfl)<|
    .c (o_mv rfl rfl (.yes rfl rfl hc16) rfl)<|
    .c (qu2 rfl rfl (.yes rfl rfl hc16) rfl qO4)<|
    .c (o_mv rfl rfl (.yes rfl rfl hc16) rfl)<|
    .c (qE (fun _ => 0) rfl rfl (.yes rfl rfl hc16) Try.func22 rfl rfl (q01 hx15) (.cons rfl (.ip rfl) (.cons rfl .d .nil)) (qK rfl ⟨(by simp [AV.live,lk,Nat.beq]),trivial,trivial⟩ rfl (OD.dat_live (q9 _)) (by simp)) (.inl rfl))<|
    .c (qj rfl rfl (.yes rfl rfl hc16) rfl rfl (qy2 _ _) rfl)<|
    .c (uPF rfl hc16)<|.nil rfl
   ) ?_
   exact ⟨((decide (x15.1 ≠ 0)),x15.2),(sJ h58),.w (wkF ⟨wD rfl,wD rfl,wD rfl,⟨_,rfl,.ptro rfl rfl⟩,wD rfl,wD rfl,trivial⟩ ⟨.own rfl (.of_eq rfl (q9 _)),trivial⟩ qA)⟩
  refine cwS (cwR (
   .c (uA rfl)<|.nil rfl) ?_)
  refine cwB ?_
  refine qG (V := (Int × (List ttC))) (O := (List ttC)) (fun (z : (Int × (List ttC))) => St.of [(0,.d (eint (qC .i64 a0 4095))),(2,.d (eint (IntKind.wrap .i64 (1 + (qC .i64 a2 7))))),(9,.d (qI x0)),(10,.ptr 0 0),(11,.d (eint v0.1)),(18,.arr 2 0),(19,.d (eint z.1))] [(0,.own (qc x2.2)),(2,.arr 0 26 (z.2.map eCg))]) hj1 (.w (wkF ⟨wD rfl,wD rfl,wD rfl,⟨_,rfl,.ptro rfl rfl⟩,wD rfl,⟨_,rfl,.nila rfl rfl⟩,wD rfl,trivial⟩ ⟨.own rfl (.of_eq rfl (q9 _)),.nil rfl,trivial⟩ qA)) ?_
  intro v11 x16 hb1 hx16
  refine cwS ?_
  refine cwS (cwR (
   .c (uM rfl)<|
   .c (uM rfl)<|
   .c (uB rfl (qK0 _ _) rfl)<|.nil rfl) ?_)
  rcases cdS hb1 with ⟨hc17,h59⟩ | ⟨hc17,h60⟩
  ·refine cwT rfl hc17 ?_
   refine cwK ?_
   refine cwS ?_
   refine cwB ?_
   have ⟨x17,hx17,h61⟩ := bdS (x := qg0 v11.1) h59
   have ⟨x18,hx18,h62⟩ := bdS h61
   have hx18g := qh0 hx18
   refine cwR (
    .c (uM rfl)<|
    .c (uM rfl)<|
    .c (ql0 rfl rfl .no Try.func20 rfl rfl (qW1 hx17) (.cons rfl .d .nil) ⟨trivial,trivial⟩ (.inl rfl))<|
    .c (q05 (ds := [eK x17,eStr (ByteArray.mk #[]),qI true]) rfl rfl .no zs33 rfl pl33 (.cons rfl rfl rfl rfl rfl rfl rfl (.cons rfl rfl rfl rfl rfl rfl rfl .nil)))<|
    .c (qX4 (rows := ([(x17,(ByteArray.mk #[]),true)] : List ttC).map eCg) rfl rfl .no (.cons rfl .nil) rfl sl22 sz33 ze33 rfl (q22 q60) (by decide))<|
    .c (ql2 (enc := eCg) (xs := v11.2) (ys := [(x17,(ByteArray.mk #[]),true)]) rfl rfl .no rfl rfl rfl q60 sl22 sl22 sz33 by33 ze33 rfl (by decide) hx18g)<|
    .c (uA rfl)<|.nil rfl
   ) ?_
   refine cwR (
    .c (uM rfl)<|
    .c (uM rfl)<|
    .c (uB rfl (qF0 _ _) rfl)<|
    .c (uA rfl)<|.nil rfl
   ) ?_
   exact ⟨((IntKind.wrap .i64 (v11.1 + (IntKind.wrap .i64 (1 + (qC .i64 a2 7))))),(v11.2 ++ [(x17,(ByteArray.mk #[]),true)])),(sJ h62),.w (wkF ⟨wD rfl,wD rfl,wD rfl,⟨_,rfl,.ptro rfl rfl⟩,wD rfl,⟨_,rfl,.arr rfl rfl⟩,wD rfl,trivial⟩ ⟨.own rfl (.of_eq rfl (q9 _)),.arr0 rfl rfl rfl,trivial⟩ qA)⟩
  refine cwF rfl hc17 ?_
  refine qX ?_
  exact ⟨v11.2,(hx16 _ (sJ h60)).symm,.w (wkF ⟨wD rfl,wD rfl,wD rfl,⟨_,rfl,.ptro rfl rfl⟩,wD rfl,⟨_,rfl,.arr rfl rfl⟩,trivial⟩ ⟨.own rfl (.of_eq rfl (q9 _)),.arr rfl rfl,trivial⟩ qA)⟩
 refine cwS (cwR (
  .c (uA rfl)<|.nil rfl) ?_)
 refine cwB ?_
 refine qG (V := (Int × Int × ttM)) (O := ((Int × ttM) ⊕ Bool)) (fun (z : (Int × Int × ttM)) => St.of [(0,.d (eint (qC .i64 a0 4095))),(1,.d (eint (IntKind.wrap .i64 (1 + (Int.tmod (qC .i64 a1 65535) 500))))),(2,.d (eint (IntKind.wrap .i64 (1 + (qC .i64 a2 7))))),(3,.d (qI a3)),(9,.d (qI x0)),(10,.ptr 0 0),(11,.d (eint z.1)),(12,.d (eint z.2.1))] [(0,.own (qc z.2.2))]) hj0 (.w (wkF ⟨wD rfl,wD rfl,wD rfl,wD rfl,wD rfl,⟨_,rfl,.ptro rfl rfl⟩,wD rfl,wD rfl,trivial⟩ ⟨.own rfl (.of_eq rfl (q9 _)),trivial⟩ qA)) ?_
 intro v12 x19 hb2 hx19
 refine cwS ?_
 refine cwS (cwR (
  .c (uM rfl)<|
  .c (uM rfl)<|
  .c (uB rfl (qK0 _ _) rfl)<|.nil rfl) ?_)
 rcases cdS hb2 with ⟨hc18,h63⟩ | ⟨hc18,h64⟩
 ·refine cwT rfl hc18 ?_
  refine cwK ?_
  have ⟨o10,hj10,h65⟩ := bdS h63
  refine cwJ (fun (z : (Int × ttM)) => St.of [(0,.d (eint (qC .i64 a0 4095))),(1,.d (eint (IntKind.wrap .i64 (1 + (Int.tmod (qC .i64 a1 65535) 500))))),(2,.d (eint (IntKind.wrap .i64 (1 + (qC .i64 a2 7))))),(3,.d (qI a3)),(9,.d (qI x0)),(10,.ptr 0 0),(11,.d (eint z.1)),(12,.d (eint v12.2.1))] [(0,.own (qc z.2))]) (fun (z : (Int × ttM)) => o10 = (.inl z)) ?_ ?_
  ·intro v13 hv10; subst hv10
   simp only [Sum.elim_inl] at h65
   refine cwR (
    .c (uM rfl)<|
    .c (uM rfl)<|
    .c (uB rfl (qF0 _ _) rfl)<|
    .c (uA rfl)<|.nil rfl
   ) ?_
   exact ⟨(v13.1,(IntKind.wrap .i64 (v12.2.1 + (IntKind.wrap .i64 (1 + (Int.tmod (qC .i64 a1 65535) 500))))),v13.2),(sJ h65),.w (wkF ⟨wD rfl,wD rfl,wD rfl,wD rfl,wD rfl,⟨_,rfl,.ptro rfl rfl⟩,wD rfl,wD rfl,trivial⟩ ⟨.own rfl (.of_eq rfl (q9 _)),trivial⟩ qA)⟩
  refine cwB ?_
  refine cwS (cwR (
   .c (uA rfl)<|.nil rfl) ?_)
  have ⟨o11,hj11,h66⟩ := bdS hj10
  refine cwJ (fun (z : (List ttC)) => St.of [(0,.d (eint (qC .i64 a0 4095))),(1,.d (eint (IntKind.wrap .i64 (1 + (Int.tmod (qC .i64 a1 65535) 500))))),(2,.d (eint (IntKind.wrap .i64 (1 + (qC .i64 a2 7))))),(3,.d (qI a3)),(9,.d (qI x0)),(10,.ptr 0 0),(11,.d (eint v12.1)),(12,.d (eint v12.2.1)),(13,.arr 1 0)] [(0,.own (qc v12.2.2)),(1,.arr 0 26 (z.map eCg))]) (fun (z : (List ttC)) => o11 = z) ?_ ?_
  ·intro v14 hv11; subst hv11
   refine cwW (wkF (l := [(0,.d (eint (qC .i64 a0 4095))),(1,.d (eint (IntKind.wrap .i64 (1 + (Int.tmod (qC .i64 a1 65535) 500))))),(2,.d (eint (IntKind.wrap .i64 (1 + (qC .i64 a2 7))))),(3,.d (qI a3)),(9,.d (qI x0)),(10,.ptr 0 0),(11,.d (eint v12.1)),(12,.d (eint v12.2.1)),(13,.d (eSC o11))]) (m := [(0,.own (qc v12.2.2))]) ⟨wD rfl,wD rfl,wD rfl,wD rfl,wD rfl,⟨_,rfl,.ptro rfl rfl⟩,wD rfl,wD rfl,⟨_,rfl,.frz rfl rfl rfl⟩,trivial⟩ ⟨.own rfl (.of_eq rfl (q9 _)),trivial⟩ qA) ?_
   have ⟨x20,hx20,h67⟩ := bdS (x := qu0 v12.2.2 v12.1 o11) h66
   refine cwS (cwR (
    .c (uM rfl)<|
    .c (qu2 rfl rfl .no rfl qO4)<|
    .c (uM rfl)<|
    .c (uM rfl)<|
    .c (qE (fun _ => 0) rfl rfl .no Try.func15 rfl rfl (qX1 hx20) (.cons rfl (.ip rfl) (.cons rfl .d (.cons rfl .d .nil))) (qK rfl ⟨(by simp [AV.live,lk,Nat.beq]),trivial,trivial,trivial⟩ rfl (OD.dat_live (q9 _)) (by simp)) (.inl rfl))<|
    .c (uM rfl)<|
    .c (uE rfl)<|
    .c (uE rfl)<|
    .c (uA rfl)<|
    .c (uA rfl)<|.nil rfl) ?_)
   refine cwS ?_
   have ⟨o12,hj12,h68⟩ := bdS h67
   refine cwJ (fun (z : (Bool × ttM)) => St.of [(0,.d (eint (qC .i64 a0 4095))),(1,.d (eint (IntKind.wrap .i64 (1 + (Int.tmod (qC .i64 a1 65535) 500))))),(2,.d (eint (IntKind.wrap .i64 (1 + (qC .i64 a2 7))))),(3,.d (qI a3)),(9,.d (qI x0)),(10,.ptr 0 0),(12,.d (eint v12.2.1)),(16,.d (eint x20.1)),(92,.d (qI z.1))] [(0,.own (qc z.2))]) (fun (z : (Bool × ttM)) => o12 = z) ?_ ?_
   ·intro v15 hv12; subst hv12
    rcases cdS h68 with ⟨hc19,h69⟩ | ⟨hc19,h70⟩
    ·refine cwT rfl hc19 ?_
     refine cwS (cwR (
      .c (uA rfl)<|.nil rfl) ?_)
     have he5 := ((sJ h69)).symm
     subst he5
     have he6 := ((hx19 _ (sJ h65)).symm).symm
     subst he6
     have heq := ((sJ h2)).symm
     subst heq
     exact qq ⟨_,(show Leads _ _ (St.of [(8,.d (qI false))] []) from .w (wkF ⟨wD rfl,trivial⟩ trivial qA)),.inr rfl,_,res1 rfl rfl,rfl,rfl⟩
    refine cwF rfl hc19 ?_
    refine cwK ?_
    refine cwR (
     .c (uM rfl)<|
     .c (uA rfl)<|.nil rfl
    ) ?_
    exact ⟨(x20.1,o12.2),(sJ h70),.w (wkF ⟨wD rfl,wD rfl,wD rfl,wD rfl,wD rfl,⟨_,rfl,.ptro rfl rfl⟩,wD rfl,wD rfl,trivial⟩ ⟨.own rfl (.of_eq rfl (q9 _)),trivial⟩ qA)⟩
   rcases cdS hj12 with ⟨hc20,h71⟩ | ⟨hc20,h72⟩
   ·skip
    refine cwR (
     .c (uM rfl)<|
     .c (uB rfl (qy2 _ _) rfl)<|
     .c (uM rfl)<|
     .c (uN rfl rfl hc20)<|
     .c (uN rfl rfl hc20)<|
     .c (uN rfl rfl hc20)<|
     .c (uN rfl rfl hc20)<|
     .c (uN rfl rfl hc20)<|
     .c (uPT rfl hc20)<|.nil rfl
    ) ?_
    exact ⟨(true,x20.2.2),(sJ h71),.w (wkF ⟨wD rfl,wD rfl,wD rfl,wD rfl,wD rfl,⟨_,rfl,.ptro rfl rfl⟩,wD rfl,wD rfl,wD rfl,trivial⟩ ⟨.own rfl (.of_eq rfl (q9 _)),trivial⟩ qA)⟩
   have ⟨x21,hx21,h73⟩ := bdS (x := qf0 x20.2.2 v12.1) h72
   refine cwR (
    .c (uM rfl)<|
    .c (uB rfl (qy2 _ _) rfl)<|
    .c (uM rfl)<|
    .c (o_mv rfl rfl (.yes rfl rfl hc20) rfl)<|
    .c (qu2 rfl rfl (.yes rfl rfl hc20) rfl qO4)<|
    .c (o_mv rfl rfl (.yes rfl rfl hc20) rfl)<|
    .c (qE (fun _ => 0) rfl rfl (.yes rfl rfl hc20) Try.func21 rfl rfl (qk0 hx21) (.cons rfl (.ip rfl) (.cons rfl .d .nil)) (qK rfl ⟨(by simp [AV.live,lk,Nat.beq]),trivial,trivial⟩ rfl (OD.dat_live (q9 _)) (by simp)) (.inl rfl))<|
    .c (qj rfl rfl (.yes rfl rfl hc20) rfl rfl (qy2 _ _) rfl)<|
    .c (uPF rfl hc20)<|.nil rfl
   ) ?_
   exact ⟨((decide (x21.1 ≠ 0)),x21.2),(sJ h73),.w (wkF ⟨wD rfl,wD rfl,wD rfl,wD rfl,wD rfl,⟨_,rfl,.ptro rfl rfl⟩,wD rfl,wD rfl,wD rfl,trivial⟩ ⟨.own rfl (.of_eq rfl (q9 _)),trivial⟩ qA)⟩
  refine cwS (cwR (
   .c (uM rfl)<|
   .c (uA rfl)<|.nil rfl) ?_)
  refine cwB ?_
  refine qG (V := (Int × (List ttC))) (O := (List ttC)) (fun (z : (Int × (List ttC))) => St.of [(0,.d (eint (qC .i64 a0 4095))),(1,.d (eint (IntKind.wrap .i64 (1 + (Int.tmod (qC .i64 a1 65535) 500))))),(2,.d (eint (IntKind.wrap .i64 (1 + (qC .i64 a2 7))))),(3,.d (qI a3)),(9,.d (qI x0)),(10,.ptr 0 0),(11,.d (eint v12.1)),(12,.d (eint v12.2.1)),(13,.arr 1 0),(14,.d (eint z.1))] [(0,.own (qc v12.2.2)),(1,.arr 0 26 (z.2.map eCg))]) hj11 (.w (wkF ⟨wD rfl,wD rfl,wD rfl,wD rfl,wD rfl,⟨_,rfl,.ptro rfl rfl⟩,wD rfl,wD rfl,⟨_,rfl,.nila rfl rfl⟩,wD rfl,trivial⟩ ⟨.own rfl (.of_eq rfl (q9 _)),.nil rfl,trivial⟩ qA)) ?_
  intro v16 x22 hb3 hx22
  refine cwS ?_
  have ⟨o13,hj13,h74⟩ := bdS hb3
  refine cwJ (fun (z : Bool) => St.of [(0,.d (eint (qC .i64 a0 4095))),(1,.d (eint (IntKind.wrap .i64 (1 + (Int.tmod (qC .i64 a1 65535) 500))))),(2,.d (eint (IntKind.wrap .i64 (1 + (qC .i64 a2 7))))),(3,.d (qI a3)),(9,.d (qI x0)),(10,.ptr 0 0),(11,.d (eint v12.1)),(12,.d (eint v12.2.1)),(13,.arr 1 0),(14,.d (eint v16.1)),(61,.d (qI z))] [(0,.own (qc v12.2.2)),(1,.arr 0 26 (v16.2.map eCg))]) (fun (z : Bool) => o13 = z) ?_ ?_
  ·intro v17 hv13; subst hv13
   rcases cdS h74 with ⟨hc21,h75⟩ | ⟨hc21,h76⟩
   ·refine cwT rfl hc21 ?_
    refine cwK ?_
    refine cwS ?_
    refine cwB ?_
    refine cwS (cwR (
     .c (uM rfl)<|
     .c (uA rfl)<|.nil rfl) ?_)
    have ⟨o14,hj14,h77⟩ := bdS h75
    refine cwJ (fun (z : Int) => St.of [(0,.d (eint (qC .i64 a0 4095))),(1,.d (eint (IntKind.wrap .i64 (1 + (Int.tmod (qC .i64 a1 65535) 500))))),(2,.d (eint (IntKind.wrap .i64 (1 + (qC .i64 a2 7))))),(3,.d (qI a3)),(9,.d (qI x0)),(10,.ptr 0 0),(11,.d (eint v12.1)),(12,.d (eint v12.2.1)),(13,.arr 1 0),(14,.d (eint v16.1)),(15,.d (eint z))] [(0,.own (qc v12.2.2)),(1,.arr 0 26 (v16.2.map eCg))]) (fun (z : Int) => o14 = z) ?_ ?_
    ·intro v18 hv14; subst hv14
     have ⟨x23,hx23,h78⟩ := bdS (x := qg0 o14) h77
     have ⟨x24,hx24,h79⟩ := bdS h78
     have hx24g := qh0 hx24
     refine cwR (
      .c (uM rfl)<|
      .c (uM rfl)<|
      .c (ql0 rfl rfl .no Try.func20 rfl rfl (qW1 hx23) (.cons rfl .d .nil) ⟨trivial,trivial⟩ (.inl rfl))<|
      .c (q05 (ds := [eK x23,eStr (ByteArray.mk #[118]),qI false]) rfl rfl .no zs33 rfl pl33 (.cons rfl rfl rfl rfl rfl rfl rfl (.cons rfl rfl rfl rfl rfl rfl rfl .nil)))<|
      .c (qX4 (rows := ([(x23,(ByteArray.mk #[118]),false)] : List ttC).map eCg) rfl rfl .no (.cons rfl .nil) rfl sl22 sz33 ze33 rfl (q22 q60) (by decide))<|
      .c (ql2 (enc := eCg) (xs := v16.2) (ys := [(x23,(ByteArray.mk #[118]),false)]) rfl rfl .no rfl rfl rfl q60 sl22 sl22 sz33 by33 ze33 rfl (by decide) hx24g)<|
      .c (uA rfl)<|.nil rfl
     ) ?_
     refine cwR (
      .c (uM rfl)<|
      .c (uB rfl (qF0 _ _) rfl)<|
      .c (uA rfl)<|.nil rfl
     ) ?_
     exact ⟨((IntKind.wrap .i64 (v16.1 + 1)),(v16.2 ++ [(x23,(ByteArray.mk #[118]),false)])),(sJ h79),.w (wkF ⟨wD rfl,wD rfl,wD rfl,wD rfl,wD rfl,⟨_,rfl,.ptro rfl rfl⟩,wD rfl,wD rfl,⟨_,rfl,.arr rfl rfl⟩,wD rfl,trivial⟩ ⟨.own rfl (.of_eq rfl (q9 _)),.arr0 rfl rfl rfl,trivial⟩ qA)⟩
    refine cwS (cwR (
     .c (uM rfl)<|.nil rfl) ?_)
    rcases cdS hj14 with ⟨hc22,h80⟩ | ⟨hc22,h81⟩
    ·refine cwT rfl hc22 ?_
     refine cwR (
      .c (uM rfl)<|
      .c (uB rfl (q03 _ _) rfl)<|
      .c (uM rfl)<|
      .c (uB rfl (q03 _ _) rfl)<|
      .c (uA rfl)<|.nil rfl
     ) ?_
     exact ⟨(IntKind.wrap .i64 ((IntKind.wrap .i64 ((qC .i64 a0 4095) - 1)) - v16.1)),(sJ h80),.w (wkF ⟨wD rfl,wD rfl,wD rfl,wD rfl,wD rfl,⟨_,rfl,.ptro rfl rfl⟩,wD rfl,wD rfl,⟨_,rfl,.arr rfl rfl⟩,wD rfl,wD rfl,trivial⟩ ⟨.own rfl (.of_eq rfl (q9 _)),.arr rfl rfl,trivial⟩ qA)⟩
    refine cwF rfl hc22 ?_
    refine cwK ?_
    exact ⟨v16.1,(sJ h81),.w (wkF ⟨wD rfl,wD rfl,wD rfl,wD rfl,wD rfl,⟨_,rfl,.ptro rfl rfl⟩,wD rfl,wD rfl,⟨_,rfl,.arr rfl rfl⟩,wD rfl,wD rfl,trivial⟩ ⟨.own rfl (.of_eq rfl (q9 _)),.arr rfl rfl,trivial⟩ qA)⟩
   refine cwF rfl hc21 ?_
   refine qX ?_
   exact ⟨v16.2,(hx22 _ (sJ h76)).symm,.w (wkF ⟨wD rfl,wD rfl,wD rfl,wD rfl,wD rfl,⟨_,rfl,.ptro rfl rfl⟩,wD rfl,wD rfl,⟨_,rfl,.arr rfl rfl⟩,trivial⟩ ⟨.own rfl (.of_eq rfl (q9 _)),.arr rfl rfl,trivial⟩ qA)⟩
  rcases cdS hj13 with ⟨hc23,h82⟩ | ⟨hc23,h83⟩
  ·skip
   refine cwR (
    .c (uM rfl)<|
    .c (uM rfl)<|
    .c (uM rfl)<|
    .c (uB rfl (qF0 _ _) rfl)<|
    .c (uB rfl (qK0 _ _) rfl)<|
    .c (uM rfl)<|
    .c (o_mv rfl rfl (.yes rfl rfl hc23) rfl)<|
    .c (o_mv rfl rfl (.yes rfl rfl hc23) rfl)<|
    .c (qj rfl rfl (.yes rfl rfl hc23) rfl rfl (qK0 _ _) rfl)<|
    .c (uPT rfl hc23)<|.nil rfl
   ) ?_
   exact ⟨(decide (v16.1 < (qC .i64 a0 4095))),(sJ h82),.w (wkF ⟨wD rfl,wD rfl,wD rfl,wD rfl,wD rfl,⟨_,rfl,.ptro rfl rfl⟩,wD rfl,wD rfl,⟨_,rfl,.arr rfl rfl⟩,wD rfl,wD rfl,trivial⟩ ⟨.own rfl (.of_eq rfl (q9 _)),.arr rfl rfl,trivial⟩ qA)⟩
  refine cwR (
   .c (uM rfl)<|
   .c (uM rfl)<|
   .c (uM rfl)<|
   .c (uB rfl (qF0 _ _) rfl)<|
   .c (uB rfl (qK0 _ _) rfl)<|
   .c (uM rfl)<|
   .c (uN rfl rfl hc23)<|
   .c (uN rfl rfl hc23)<|
   .c (uN rfl rfl hc23)<|
   .c (uPF rfl hc23)<|.nil rfl
  ) ?_
  exact ⟨false,(sJ h83),.w (wkF ⟨wD rfl,wD rfl,wD rfl,wD rfl,wD rfl,⟨_,rfl,.ptro rfl rfl⟩,wD rfl,wD rfl,⟨_,rfl,.arr rfl rfl⟩,wD rfl,wD rfl,trivial⟩ ⟨.own rfl (.of_eq rfl (q9 _)),.arr rfl rfl,trivial⟩ qA)⟩
 refine cwF rfl hc18 ?_
 refine qX ?_
 exact ⟨(v12.1,v12.2.2),(hx19 _ (sJ h64)).symm,.w (wkF ⟨wD rfl,wD rfl,wD rfl,⟨_,rfl,.ptro rfl rfl⟩,wD rfl,trivial⟩ ⟨.own rfl (.of_eq rfl (q9 _)),trivial⟩ qA)⟩
end
end Go.Val
