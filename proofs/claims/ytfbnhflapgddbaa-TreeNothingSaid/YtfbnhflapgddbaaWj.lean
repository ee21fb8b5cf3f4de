/- Walks of the program's functions,printed. -/
import Derived.Test.YtfbnhflapgddbaaWi
set_option linter.unusedSectionVars false
set_option linter.unusedVariables false
set_option linter.unusedSimpArgs false
set_option maxRecDepth 100000
namespace Go.Val
open Go.RowKit Go.Proofs
section
variable [NoDrw]
noncomputable def qi1 (a0 : List ttC) (a1 : List B8) : Option Bool := (qk2).bind fun x0 => (qK1 a0).bind fun x1 => cond (!x1.2.2) (some false) ((qh2).bind fun x2 => (qs0 x1.1 x1.2.1 x2).bind fun x3 => (((qR (V := (Int × (List ttC))) (O := (List ttC)) (fun v0 => cond (decide (v0.1 < (x3.1.length : Int))) ((gx x3.1 v0.1).bind fun x4 =>
     (fits (v0.2.length + ([(x4.1,x4.2,false)]).length) 48).bind fun _ => some (.inl ((IntKind.wrap .i64 (v0.1 + 1)),(v0.2 ++ [(x4.1,x4.2,false)])))) (some (.inr v0.2))) (0,[])) : Option (List ttC))).bind fun o0 => (((qR (V := (Int × (List ttC))) (O := (List ttC)) (fun v1 => (((cond (decide (v1.1 < (a1.length : Int))) (some (decide (v1.1 < 20))) (some false)
    ) : Option Bool)).bind fun o1 => cond o1 (((((gx a1 v1.1).bind fun x5 => (qD2 x3.1 x5).bind fun x6 => cond (!x6.2) ((fits (v1.2.length + ([(x5,(ByteArray.mk #[]),true)]).length) 48).bind fun _ => some (v1.2 ++ [(x5,(ByteArray.mk #[]),true)])) (some v1.2)) : Option (List ttC))).bind fun o2 => some (.inl ((IntKind.wrap .i64 (v1.1 + 1)),o2))) (some (.inr v1.2))) (0,o0)
  ) : Option (List ttC))).bind fun o3 => (qe0 x3.2.2 x1.2.1 o3).bind fun x7 => (qs0 x7.2.2 x7.1 x2).bind fun x8 => (q32 x8.1 x3.1).bind fun x9 => (((cond (decide (x3.2.1 ≠ 0)) (some (true,x8.2.2)) (cond (decide (x7.2.1 ≠ 0)) (some (true,x8.2.2)) (cond (decide (x8.2.1 ≠ 0)) (some (true,x8.2.2)) (cond (!x9) (some (true,x8.2.2)) (
       (qt0 x8.2.2 x7.1).bind fun x10 => some ((decide (x10.1 ≠ 0)),x10.2)))))) : Option (Bool × ttM))).bind fun o4 => cond o4.1 (some false) ((q40 o4.2 x1.2.1).bind fun x11 => (qe0 x11.2 x1.2.1 ([])).bind fun x12 => (qs0 x12.2.2 x12.1 x2).bind fun x13 => (((cond x0 (cond (decide (x12.2.1 = 0)) (cond (decide (x13.2.1 = 0)) (
       (q32 x13.1 x3.1).bind fun x14 => cond x14 (cond (decide (x1.2.1 = 0)) (some true) ((q40 x13.2.2 x1.2.1).bind fun x15 => cond (decide (x15.1 = (IntKind.wrap .i64 (x11.1 + 1)))) (some true) (some (decide (x12.1 ≠ x1.2.1))))) (some false)) (some false)) (some false)) (some false)) : Option Bool)).bind fun o5 => some o5))
theorem q54 {a0 : List ttC} {a1 : List B8} {r : Bool} (h : qi1 a0 a1 = some r) : FnOk Try.prog 11 [.d (eSC a0),.d (qI2 a1)] 0 (lk []) (fun rr oo => rr = .d (qT r) ∧ oo = lk []) := by
 refine fnO Try.func11 rfl rfl (cwP ?_)
 unfold qi1 at h
 refine cwS (cwR (
  .c (uA rfl)<|.nil rfl) ?_)
 have ⟨x0,hx0,h0⟩ := bdS (x := qk2) h
 refine cwS (cwR (
  .c (qc0 rfl rfl .no Try.func13 rfl rfl (law07_shown_ok hx0) .nil trivial (.inl rfl))<|
  .c (uA rfl)<|.nil rfl) ?_)
 have ⟨x1,hx1,h1⟩ := bdS (x := qK1 a0) h0
 refine cwS (cwR (
  .c (uM rfl)<|
  .c (qL4 0 rfl rfl .no Try.func29 rfl rfl (law07_grown_ok hx1) (.cons rfl .d .nil) ⟨trivial,trivial⟩ rfl (.inl rfl))<|
  .c (uM rfl)<|
  .c (uE rfl)<|
  .c (uE rfl)<|
  .c (uE rfl)<|
  .c (uA rfl)<|
  .c (uA rfl)<|
  .c (uA rfl)<|.nil rfl) ?_)
 refine cwS ?_
 refine cwS (cwR (
  .c (uM rfl)<|
  .c (uT rfl)<|.nil rfl) ?_)
 rcases cdS h1 with ⟨hc0,h2⟩ | ⟨hc0,h3⟩
 ·refine cwT rfl hc0 ?_
  refine cwS (cwR (
   .c (uA rfl)<|.nil rfl) ?_)
  have heq := ((sJ h2)).symm
  subst heq
  exact qq ⟨_,(show Leads _ _ (St.of [(4,.d (qT false))] []) from .w (wkF ⟨wD rfl,trivial⟩ trivial qC)),.inr rfl,_,res1 rfl rfl,rfl,rfl⟩
 refine cwF rfl hc0 ?_
 refine cwK ?_
 have ⟨x2,hx2,h4⟩ := bdS (x := qh2) h3
 have ⟨x3,hx3,h5⟩ := bdS (x := qs0 x1.1 x1.2.1 x2) h4
 refine cwS (cwR (
  .c (uM rfl)<|
  .c (qe3 rfl rfl .no rfl qW4)<|
  .c (uM rfl)<|
  .c (qc0 rfl rfl .no Try.func18 rfl rfl (qd3 hx2) .nil trivial (.inl rfl))<|
  .c (qE (fun _ => 0) rfl rfl .no Try.func17 rfl rfl (qf2 hx3) (.cons rfl (.ip rfl) (.cons rfl .d (.cons rfl .d .nil))) (qK rfl ⟨(by simp [AV.live,lk,Nat.beq]),trivial,trivial,trivial⟩ rfl (OD.dat_live (q9 _)) (by simp)) (.inl rfl))<|
  .c (uM rfl)<|
  .c (uE rfl)<|
  .c (uE rfl)<|
  .c (uA rfl)<|
  .c (uA rfl)<|.nil rfl) ?_)
 refine cwS (cwR (
  .c (uA rfl)<|.nil rfl) ?_)
 have ⟨o0,hj0,h6⟩ := bdS h5
 refine cwJ (fun (z : (List ttC)) => St.of [(1,.d (qI2 a1)),(5,.d (qT x0)),(6,.ptr 0 0),(7,.d (eint x1.2.1)),(9,.d (eSP_ x3.1)),(10,.d (eErr x3.2.1)),(11,.arr 1 0)] [(0,.own (qc x3.2.2)),(1,.arr 0 26 (z.map eCg))]) (fun (z : (List ttC)) => o0 = z) ?_ ?_
 ·intro v0 hv0; subst hv0
  have ⟨o1,hj1,h7⟩ := bdS h6
  refine cwJ (fun (z : (List ttC)) => St.of [(5,.d (qT x0)),(6,.ptr 0 0),(7,.d (eint x1.2.1)),(9,.d (eSP_ x3.1)),(10,.d (eErr x3.2.1)),(11,.arr 1 0)] [(0,.own (qc x3.2.2)),(1,.arr 0 26 (z.map eCg))]) (fun (z : (List ttC)) => o1 = z) ?_ ?_
  ·intro v1 hv1; subst hv1
   refine cwW (wkF (l := [(5,.d (qT x0)),(6,.ptr 0 0),(7,.d (eint x1.2.1)),(9,.d (eSP_ x3.1)),(10,.d (eErr x3.2.1)),(11,.d (eSC o1))]) (m := [(0,.own (qc x3.2.2))]) ⟨wD rfl,⟨_,rfl,.ptro rfl rfl⟩,wD rfl,wD rfl,wD rfl,⟨_,rfl,.frz rfl rfl rfl⟩,trivial⟩ ⟨.own rfl (.of_eq rfl (q9 _)),trivial⟩ qC) ?_
   have ⟨x4,hx4,h8⟩ := bdS (x := qe0 x3.2.2 x1.2.1 o1) h7
   refine cwS (cwR (
    .c (uM rfl)<|
    .c (qe3 rfl rfl .no rfl qW4)<|
    .c (uM rfl)<|
    .c (uM rfl)<|
    .c (qE (fun _ => 0) rfl rfl .no Try.func15 rfl rfl (qg1 hx4) (.cons rfl (.ip rfl) (.cons rfl .d (.cons rfl .d .nil))) (qK rfl ⟨(by simp [AV.live,lk,Nat.beq]),trivial,trivial,trivial⟩ rfl (OD.dat_live (q9 _)) (by simp)) (.inl rfl))<|
    .c (uM rfl)<|
    .c (uE rfl)<|
    .c (uE rfl)<|
    .c (uA rfl)<|
    .c (uA rfl)<|.nil rfl) ?_)
   have ⟨x5,hx5,h9⟩ := bdS (x := qs0 x4.2.2 x4.1 x2) h8
   refine cwS (cwR (
    .c (uM rfl)<|
    .c (qe3 rfl rfl .no rfl qW4)<|
    .c (uM rfl)<|
    .c (qc0 rfl rfl .no Try.func18 rfl rfl (qd3 hx2) .nil trivial (.inl rfl))<|
    .c (qE (fun _ => 0) rfl rfl .no Try.func17 rfl rfl (qf2 hx5) (.cons rfl (.ip rfl) (.cons rfl .d (.cons rfl .d .nil))) (qK rfl ⟨(by simp [AV.live,lk,Nat.beq]),trivial,trivial,trivial⟩ rfl (OD.dat_live (q9 _)) (by simp)) (.inl rfl))<|
    .c (uM rfl)<|
    .c (uE rfl)<|
    .c (uE rfl)<|
    .c (uA rfl)<|
    .c (uA rfl)<|.nil rfl) ?_)
   have ⟨x6,hx6,h10⟩ := bdS (x := q32 x5.1 x3.1) h9
   refine cwS (cwR (
    .c (uM rfl)<|
    .c (uM rfl)<|
    .c (qc0 rfl rfl .no Try.func19 rfl rfl (qY1 hx6) (.cons rfl .d (.cons rfl .d .nil)) ⟨trivial,trivial,trivial⟩ (.inl rfl))<|
    .c (uA rfl)<|.nil rfl) ?_)
   refine cwS ?_
   have ⟨o2,hj2,h11⟩ := bdS h10
   refine cwJ (fun (z : (Bool × ttM)) => St.of [(5,.d (qT x0)),(6,.ptr 0 0),(7,.d (eint x1.2.1)),(9,.d (eSP_ x3.1)),(131,.d (qT z.1))] [(0,.own (qc z.2))]) (fun (z : (Bool × ttM)) => o2 = z) ?_ ?_
   ·intro v2 hv2; subst hv2
    rcases cdS h11 with ⟨hc1,h12⟩ | ⟨hc1,h13⟩
    ·refine cwT rfl hc1 ?_
     refine cwS (cwR (
      .c (uA rfl)<|.nil rfl) ?_)
     have heq := ((sJ h12)).symm
     subst heq
     exact qq ⟨_,(show Leads _ _ (St.of [(4,.d (qT false))] []) from .w (wkF ⟨wD rfl,trivial⟩ trivial qC)),.inr rfl,_,res1 rfl rfl,rfl,rfl⟩
    refine cwF rfl hc1 ?_
    refine cwK ?_
    have ⟨x7,hx7,h14⟩ := bdS (x := q40 o2.2 x1.2.1) h13
    refine cwS (cwR (
     .c (uM rfl)<|
     .c (uM rfl)<|
     .c (qE (fun _ => 0) rfl rfl .no Try.func32 rfl rfl (q30 hx7) (.cons rfl (.p rfl) (.cons rfl .d .nil)) (qK rfl ⟨(by simp [AV.live,lk,Nat.beq]),trivial,trivial⟩ rfl (OD.dat_live (q9 _)) (by simp)) (.inl rfl))<|
     .c (uA rfl)<|.nil rfl) ?_)
    have ⟨x8,hx8,h15⟩ := bdS (x := qe0 x7.2 x1.2.1 ([])) h14
    refine cwS (cwR (
     .c (uM rfl)<|
     .c (qe3 rfl rfl .no rfl qW4)<|
     .c (uM rfl)<|
     .c (qE (fun _ => 0) rfl rfl .no Try.func15 rfl rfl (qg1 hx8) (.cons rfl (.ip rfl) (.cons rfl .d (.cons rfl .nil .nil))) (qK rfl ⟨(by simp [AV.live,lk,Nat.beq]),trivial,trivial,trivial⟩ rfl (OD.dat_live (q9 _)) (by simp)) (.inl rfl))<|
     .c (uM rfl)<|
     .c (uE rfl)<|
     .c (uE rfl)<|
     .c (uA rfl)<|
     .c (uA rfl)<|.nil rfl) ?_)
    have ⟨x9,hx9,h16⟩ := bdS (x := qs0 x8.2.2 x8.1 x2) h15
    refine cwS (cwR (
     .c (uM rfl)<|
     .c (qe3 rfl rfl .no rfl qW4)<|
     .c (uM rfl)<|
     .c (qc0 rfl rfl .no Try.func18 rfl rfl (qd3 hx2) .nil trivial (.inl rfl))<|
     .c (qE (fun _ => 0) rfl rfl .no Try.func17 rfl rfl (qf2 hx9) (.cons rfl (.ip rfl) (.cons rfl .d (.cons rfl .d .nil))) (qK rfl ⟨(by simp [AV.live,lk,Nat.beq]),trivial,trivial,trivial⟩ rfl (OD.dat_live (q9 _)) (by simp)) (.inl rfl))<|
     .c (uM rfl)<|
     .c (uE rfl)<|
     .c (uE rfl)<|
     .c (uA rfl)<|
     .c (uA rfl)<|.nil rfl) ?_)
    have ⟨o3,hj3,h17⟩ := bdS h16
    refine cwJ (fun (z : Bool) => St.of [(4,.d (qT z))] []) (fun (z : Bool) => o3 = z) ?_ ?_
    ·intro v3 hv3; subst hv3
     have heq := ((sJ h17)).symm
     subst heq
     exact qq ⟨_,(show Leads _ _ (St.of [(4,.d (qT o3))] []) from .w (wkF ⟨wD rfl,trivial⟩ trivial qC)),.inr rfl,_,res1 rfl rfl,rfl,rfl⟩
    rcases cdS hj3 with ⟨hc2,h18⟩ | ⟨hc2,h19⟩
    ·skip
     rcases cdS h18 with ⟨hc3,h20⟩ | ⟨hc3,h21⟩
     ·skip
      rcases cdS h20 with ⟨hc4,h22⟩ | ⟨hc4,h23⟩
      ·skip
       have ⟨x10,hx10,h24⟩ := bdS (x := q32 x9.1 x3.1) h22
       rcases cdS h24 with ⟨hc5,h25⟩ | ⟨hc5,h26⟩
       ·skip
        rcases cdS h25 with ⟨hc6,h27⟩ | ⟨hc6,h28⟩
        ·skip
         refine cwR (
          .c (uM rfl)<|
          .c (uM rfl)<|
          .c (o_mv rfl rfl (.yes rfl rfl hc2) rfl)<|
          .c (qj rfl rfl (.yes rfl rfl hc2) rfl rfl (q60 _ _) rfl)<|
          .c (uPT rfl hc2)<|
          .c (uM rfl)<|
          .c (o_mv rfl rfl (.yes rfl rfl hc3) rfl)<|
          .c (qj rfl rfl (.yes rfl rfl hc3) rfl rfl (q60 _ _) rfl)<|
          .c (uPT rfl hc3)<|
          .c (uM rfl)<|
          .c (o_mv rfl rfl (.yes rfl rfl hc4) rfl)<|
          .c (o_mv rfl rfl (.yes rfl rfl hc4) rfl)<|
          .c (qc0 rfl rfl (.yes rfl rfl hc4) Try.func19 rfl rfl (qY1 hx10) (.cons rfl .d (.cons rfl .d .nil)) ⟨trivial,trivial,trivial⟩ (.inl rfl))<|
          .c (uPT rfl hc4)<|
          .c (uM rfl)<|
          .c (o_mv rfl rfl (.yes rfl rfl hc5) rfl)<|
          .c (qj rfl rfl (.yes rfl rfl hc5) rfl rfl (q60 _ _) rfl)<|
          .c (o_mv rfl rfl (.yes rfl rfl hc5) rfl)<|
          .c (uN rfl rfl hc6)<|
          .c (uN rfl rfl hc6)<|
          .c (uN rfl rfl hc6)<|
          .c (uN rfl rfl hc6)<|
          .c (uN rfl rfl hc6)<|
          .c (uN rfl rfl hc6)<|
          .c (qg rfl rfl (.yes rfl rfl hc5) rfl hc6 rfl)<|
          .c (o_mv rfl rfl (.yes rfl rfl hc5) rfl)<|
          .c (uN rfl rfl rfl)<|
          .c (uN rfl rfl rfl)<|
          .c (uN rfl rfl rfl)<|
          .c (qg rfl rfl (.yes rfl rfl hc5) rfl rfl rfl)<|
          .c (uPT rfl hc5)<|
          .c (uA rfl)<|.nil rfl
         ) ?_
         exact ⟨true,(sJ h27),.w (wkF ⟨wD rfl,trivial⟩ trivial qC)⟩
        have ⟨x11,hx11,h29⟩ := bdS (x := q40 x9.2.2 x1.2.1) h28
        rcases cdS h29 with ⟨hc7,h30⟩ | ⟨hc7,h31⟩
        ·skip
         refine cwR (
          .c (uM rfl)<|
          .c (uM rfl)<|
          .c (o_mv rfl rfl (.yes rfl rfl hc2) rfl)<|
          .c (qj rfl rfl (.yes rfl rfl hc2) rfl rfl (q60 _ _) rfl)<|
          .c (uPT rfl hc2)<|
          .c (uM rfl)<|
          .c (o_mv rfl rfl (.yes rfl rfl hc3) rfl)<|
          .c (qj rfl rfl (.yes rfl rfl hc3) rfl rfl (q60 _ _) rfl)<|
          .c (uPT rfl hc3)<|
          .c (uM rfl)<|
          .c (o_mv rfl rfl (.yes rfl rfl hc4) rfl)<|
          .c (o_mv rfl rfl (.yes rfl rfl hc4) rfl)<|
          .c (qc0 rfl rfl (.yes rfl rfl hc4) Try.func19 rfl rfl (qY1 hx10) (.cons rfl .d (.cons rfl .d .nil)) ⟨trivial,trivial,trivial⟩ (.inl rfl))<|
          .c (uPT rfl hc4)<|
          .c (uM rfl)<|
          .c (o_mv rfl rfl (.yes rfl rfl hc5) rfl)<|
          .c (qj rfl rfl (.yes rfl rfl hc5) rfl rfl (q60 _ _) rfl)<|
          .c (o_mv rfl rfl (.yes rfl rfl hc5) rfl)<|
          .c (o_mv rfl rfl (.yes rfl rfl hc6) rfl)<|
          .c (o_mv rfl rfl (.yes rfl rfl hc6) rfl)<|
          .c (qE (fun _ => 0) rfl rfl (.yes rfl rfl hc6) Try.func32 rfl rfl (q30 hx11) (.cons rfl (.p rfl) (.cons rfl .d .nil)) (qK rfl ⟨(by simp [AV.live,lk,Nat.beq]),trivial,trivial⟩ rfl (OD.dat_live (q9 _)) (by simp)) (.inl rfl))<|
          .c (o_mv rfl rfl (.yes rfl rfl hc6) rfl)<|
          .c (qj rfl rfl (.yes rfl rfl hc6) rfl rfl (qG0 _ _) rfl)<|
          .c (qj rfl rfl (.yes rfl rfl hc6) rfl rfl (q60 _ _) rfl)<|
          .c (qf rfl rfl (.yes rfl rfl hc5) rfl hc6 rfl)<|
          .c (o_mv rfl rfl (.yes rfl rfl hc5) rfl)<|
          .c (uN rfl rfl hc7)<|
          .c (uN rfl rfl hc7)<|
          .c (uN rfl rfl hc7)<|
          .c (qg rfl rfl (.yes rfl rfl hc5) rfl hc7 rfl)<|
          .c (uPT rfl hc5)<|
          .c (uA rfl)<|.nil rfl
         ) ?_
         exact ⟨true,(sJ h30),.w (wkF ⟨wD rfl,trivial⟩ trivial qC)⟩
        refine cwR (
         .c (uM rfl)<|
         .c (uM rfl)<|
         .c (o_mv rfl rfl (.yes rfl rfl hc2) rfl)<|
         .c (qj rfl rfl (.yes rfl rfl hc2) rfl rfl (q60 _ _) rfl)<|
         .c (uPT rfl hc2)<|
         .c (uM rfl)<|
         .c (o_mv rfl rfl (.yes rfl rfl hc3) rfl)<|
         .c (qj rfl rfl (.yes rfl rfl hc3) rfl rfl (q60 _ _) rfl)<|
         .c (uPT rfl hc3)<|
         .c (uM rfl)<|
         .c (o_mv rfl rfl (.yes rfl rfl hc4) rfl)<|
         .c (o_mv rfl rfl (.yes rfl rfl hc4) rfl)<|
         .c (qc0 rfl rfl (.yes rfl rfl hc4) Try.func19 rfl rfl (qY1 hx10) (.cons rfl .d (.cons rfl .d .nil)) ⟨trivial,trivial,trivial⟩ (.inl rfl))<|
         .c (uPT rfl hc4)<|
         .c (uM rfl)<|
         .c (o_mv rfl rfl (.yes rfl rfl hc5) rfl)<|
         .c (qj rfl rfl (.yes rfl rfl hc5) rfl rfl (q60 _ _) rfl)<|
         .c (o_mv rfl rfl (.yes rfl rfl hc5) rfl)<|
         .c (o_mv rfl rfl (.yes rfl rfl hc6) rfl)<|
         .c (o_mv rfl rfl (.yes rfl rfl hc6) rfl)<|
         .c (qE (fun _ => 0) rfl rfl (.yes rfl rfl hc6) Try.func32 rfl rfl (q30 hx11) (.cons rfl (.p rfl) (.cons rfl .d .nil)) (qK rfl ⟨(by simp [AV.live,lk,Nat.beq]),trivial,trivial⟩ rfl (OD.dat_live (q9 _)) (by simp)) (.inl rfl))<|
         .c (o_mv rfl rfl (.yes rfl rfl hc6) rfl)<|
         .c (qj rfl rfl (.yes rfl rfl hc6) rfl rfl (qG0 _ _) rfl)<|
         .c (qj rfl rfl (.yes rfl rfl hc6) rfl rfl (q60 _ _) rfl)<|
         .c (qf rfl rfl (.yes rfl rfl hc5) rfl hc6 rfl)<|
         .c (o_mv rfl rfl (.yes rfl rfl hc5) rfl)<|
         .c (o_mv rfl rfl (.yes rfl rfl hc7) rfl)<|
         .c (o_mv rfl rfl (.yes rfl rfl hc7) rfl)<|
         .c (qj rfl rfl (.yes rfl rfl hc7) rfl rfl (qA2 _ _) rfl)<|
         .c (qf rfl rfl (.yes rfl rfl hc5) rfl hc7 rfl)<|
         .c (uPT rfl hc5)<|
         .c (uA rfl)<|.nil rfl
        ) ?_
        exact ⟨(decide (x8.1 ≠ x1.2.1)),(sJ h31),.w (wkF ⟨wD rfl,trivial⟩ trivial qC)⟩
       refine cwR (
        .c (uM rfl)<|
        .c (uM rfl)<|
        .c (o_mv rfl rfl (.yes rfl rfl hc2) rfl)<|
        .c (qj rfl rfl (.yes rfl rfl hc2) rfl rfl (q60 _ _) rfl)<|
        .c (uPT rfl hc2)<|
        .c (uM rfl)<|
        .c (o_mv rfl rfl (.yes rfl rfl hc3) rfl)<|
        .c (qj rfl rfl (.yes rfl rfl hc3) rfl rfl (q60 _ _) rfl)<|
        .c (uPT rfl hc3)<|
        .c (uM rfl)<|
        .c (o_mv rfl rfl (.yes rfl rfl hc4) rfl)<|
        .c (o_mv rfl rfl (.yes rfl rfl hc4) rfl)<|
        .c (qc0 rfl rfl (.yes rfl rfl hc4) Try.func19 rfl rfl (qY1 hx10) (.cons rfl .d (.cons rfl .d .nil)) ⟨trivial,trivial,trivial⟩ (.inl rfl))<|
        .c (uPT rfl hc4)<|
        .c (uM rfl)<|
        .c (uN rfl rfl hc5)<|
        .c (uN rfl rfl hc5)<|
        .c (uN rfl rfl hc5)<|
        .c (qF1 rfl rfl rfl rfl)<|
        .c (qF1 rfl rfl rfl rfl)<|
        .c (qF1 rfl rfl rfl rfl)<|
        .c (qF1 rfl rfl rfl rfl)<|
        .c (qF1 rfl rfl rfl rfl)<|
        .c (qF1 rfl rfl rfl rfl)<|
        .c (uN rfl rfl hc5)<|
        .c (uN rfl rfl hc5)<|
        .c (qF1 rfl rfl rfl rfl)<|
        .c (qF1 rfl rfl rfl rfl)<|
        .c (qF1 rfl rfl rfl rfl)<|
        .c (uN rfl rfl hc5)<|
        .c (uPF rfl hc5)<|
        .c (uA rfl)<|.nil rfl
       ) ?_
       exact ⟨false,(sJ h26),.w (wkF ⟨wD rfl,trivial⟩ trivial qC)⟩
      refine cwR (
       .c (uM rfl)<|
       .c (uM rfl)<|
       .c (o_mv rfl rfl (.yes rfl rfl hc2) rfl)<|
       .c (qj rfl rfl (.yes rfl rfl hc2) rfl rfl (q60 _ _) rfl)<|
       .c (uPT rfl hc2)<|
       .c (uM rfl)<|
       .c (o_mv rfl rfl (.yes rfl rfl hc3) rfl)<|
       .c (qj rfl rfl (.yes rfl rfl hc3) rfl rfl (q60 _ _) rfl)<|
       .c (uPT rfl hc3)<|
       .c (uM rfl)<|
       .c (uN rfl rfl hc4)<|
       .c (uN rfl rfl hc4)<|
       .c (uN rfl rfl hc4)<|
       .c (uPF rfl hc4)<|
       .c (uM rfl)<|
       .c (uN rfl rfl rfl)<|
       .c (uN rfl rfl rfl)<|
       .c (uN rfl rfl rfl)<|
       .c (qF1 rfl rfl rfl rfl)<|
       .c (qF1 rfl rfl rfl rfl)<|
       .c (qF1 rfl rfl rfl rfl)<|
       .c (qF1 rfl rfl rfl rfl)<|
       .c (qF1 rfl rfl rfl rfl)<|
       .c (qF1 rfl rfl rfl rfl)<|
       .c (uN rfl rfl rfl)<|
       .c (uN rfl rfl rfl)<|
       .c (qF1 rfl rfl rfl rfl)<|
       .c (qF1 rfl rfl rfl rfl)<|
       .c (qF1 rfl rfl rfl rfl)<|
       .c (uN rfl rfl rfl)<|
       .c (uPF rfl rfl)<|
       .c (uA rfl)<|.nil rfl
      ) ?_
      exact ⟨false,(sJ h23),.w (wkF ⟨wD rfl,trivial⟩ trivial qC)⟩
     refine cwR (
      .c (uM rfl)<|
      .c (uM rfl)<|
      .c (o_mv rfl rfl (.yes rfl rfl hc2) rfl)<|
      .c (qj rfl rfl (.yes rfl rfl hc2) rfl rfl (q60 _ _) rfl)<|
      .c (uPT rfl hc2)<|
      .c (uM rfl)<|
      .c (uN rfl rfl hc3)<|
      .c (uN rfl rfl hc3)<|
      .c (uPF rfl hc3)<|
      .c (uM rfl)<|
      .c (uN rfl rfl rfl)<|
      .c (uN rfl rfl rfl)<|
      .c (uN rfl rfl rfl)<|
      .c (uPF rfl rfl)<|
      .c (uM rfl)<|
      .c (uN rfl rfl rfl)<|
      .c (uN rfl rfl rfl)<|
      .c (uN rfl rfl rfl)<|
      .c (qF1 rfl rfl rfl rfl)<|
      .c (qF1 rfl rfl rfl rfl)<|
      .c (qF1 rfl rfl rfl rfl)<|
      .c (qF1 rfl rfl rfl rfl)<|
      .c (qF1 rfl rfl rfl rfl)<|
      .c (qF1 rfl rfl rfl rfl)<|
      .c (uN rfl rfl rfl)<|
      .c (uN rfl rfl rfl)<|
      .c (qF1 rfl rfl rfl rfl)<|
      .c (qF1 rfl rfl rfl rfl)<|
      .c (qF1 rfl rfl rfl rfl)<|
      .c (uN rfl rfl rfl)<|
      .c (uPF rfl rfl)<|
      .c (uA rfl)<|.nil rfl
     ) ?_
     exact ⟨false,(sJ h21),.w (wkF ⟨wD rfl,trivial⟩ trivial qC)⟩
    refine cwR (
     .c (uM rfl)<|
     .c (uM rfl)<|
     .c (uN rfl rfl hc2)<|
     .c (uN rfl rfl hc2)<|
     .c (uPF rfl hc2)<|
     .c (uM rfl)<|
     .c (uN rfl rfl rfl)<|
     .c (uN rfl rfl rfl)<|
     .c (uPF rfl rfl)<|
     .c (uM rfl)<|
     .c (uN rfl rfl rfl)<|
     .c (uN rfl rfl rfl)<|
     .c (uN rfl rfl rfl)<|
     .c (uPF rfl rfl)<|
     .c (uM rfl)<|
     .c (uN rfl rfl rfl)<|
     .c (uN rfl rfl rfl)<|
     .c (uN rfl rfl rfl)<|
     .c (qF1 rfl rfl rfl rfl)<|
     .c (qF1 rfl rfl rfl rfl)<|
     .c (qF1 rfl rfl rfl rfl)<|
     .c (qF1 rfl rfl rfl rfl)<|
     .c (qF1 rfl rfl rfl rfl)<|
     .c (qF1 rfl rfl rfl rfl)<|
     .c (uN rfl rfl rfl)<|
     .c (uN rfl rfl rfl)<|
     .c (qF1 rfl rfl rfl rfl)<|
     .c (qF1 rfl rfl rfl rfl)<|
     .c (qF1 rfl rfl rfl rfl)<|
     .c (uN rfl rfl rfl)<|
     .c (uPF rfl rfl)<|
     .c (uA rfl)<|.nil rfl
    ) ?_
    exact ⟨false,(sJ h19),.w (wkF ⟨wD rfl,trivial⟩ trivial qC)⟩
   rcases cdS hj2 with ⟨hc8,h32⟩ | ⟨hc8,h33⟩
   ·skip
    refine cwR (
     .c (uM rfl)<|
     .c (uB rfl (qA2 _ _) rfl)<|
     .c (uM rfl)<|
     .c (uN rfl rfl hc8)<|
     .c (uN rfl rfl hc8)<|
     .c (uPT rfl hc8)<|
     .c (uM rfl)<|
     .c (uN rfl rfl rfl)<|
     .c (uN rfl rfl rfl)<|
     .c (uPT rfl rfl)<|
     .c (uM rfl)<|
     .c (uN rfl rfl rfl)<|
     .c (uN rfl rfl rfl)<|
     .c (uPT rfl rfl)<|
     .c (uM rfl)<|
     .c (uN rfl rfl rfl)<|
     .c (uN rfl rfl rfl)<|
     .c (uN rfl rfl rfl)<|
     .c (uN rfl rfl rfl)<|
     .c (uN rfl rfl rfl)<|
     .c (uPT rfl rfl)<|.nil rfl
    ) ?_
    exact ⟨(true,x5.2.2),(sJ h32),.w (wkF ⟨wD rfl,⟨_,rfl,.ptro rfl rfl⟩,wD rfl,wD rfl,wD rfl,trivial⟩ ⟨.own rfl (.of_eq rfl (q9 _)),trivial⟩ qC)⟩
   rcases cdS h33 with ⟨hc9,h34⟩ | ⟨hc9,h35⟩
   ·skip
    refine cwR (
     .c (uM rfl)<|
     .c (uB rfl (qA2 _ _) rfl)<|
     .c (uM rfl)<|
     .c (o_mv rfl rfl (.yes rfl rfl hc8) rfl)<|
     .c (qj rfl rfl (.yes rfl rfl hc8) rfl rfl (qA2 _ _) rfl)<|
     .c (uPF rfl hc8)<|
     .c (uM rfl)<|
     .c (uN rfl rfl hc9)<|
     .c (uN rfl rfl hc9)<|
     .c (uPT rfl hc9)<|
     .c (uM rfl)<|
     .c (uN rfl rfl rfl)<|
     .c (uN rfl rfl rfl)<|
     .c (uPT rfl rfl)<|
     .c (uM rfl)<|
     .c (uN rfl rfl rfl)<|
     .c (uN rfl rfl rfl)<|
     .c (uN rfl rfl rfl)<|
     .c (uN rfl rfl rfl)<|
     .c (uN rfl rfl rfl)<|
     .c (uPT rfl rfl)<|.nil rfl
    ) ?_
    exact ⟨(true,x5.2.2),(sJ h34),.w (wkF ⟨wD rfl,⟨_,rfl,.ptro rfl rfl⟩,wD rfl,wD rfl,wD rfl,trivial⟩ ⟨.own rfl (.of_eq rfl (q9 _)),trivial⟩ qC)⟩
   rcases cdS h35 with ⟨hc10,h36⟩ | ⟨hc10,h37⟩
   ·skip
    refine cwR (
     .c (uM rfl)<|
     .c (uB rfl (qA2 _ _) rfl)<|
     .c (uM rfl)<|
     .c (o_mv rfl rfl (.yes rfl rfl hc8) rfl)<|
     .c (qj rfl rfl (.yes rfl rfl hc8) rfl rfl (qA2 _ _) rfl)<|
     .c (uPF rfl hc8)<|
     .c (uM rfl)<|
     .c (o_mv rfl rfl (.yes rfl rfl hc9) rfl)<|
     .c (qj rfl rfl (.yes rfl rfl hc9) rfl rfl (qA2 _ _) rfl)<|
     .c (uPF rfl hc9)<|
     .c (uM rfl)<|
     .c (uN rfl rfl hc10)<|
     .c (uN rfl rfl hc10)<|
     .c (uPT rfl hc10)<|
     .c (uM rfl)<|
     .c (uN rfl rfl rfl)<|
     .c (uN rfl rfl rfl)<|
     .c (uN rfl rfl rfl)<|
     .c (uN rfl rfl rfl)<|
     .c (uN rfl rfl rfl)<|
     .c (uPT rfl rfl)<|.nil rfl
    ) ?_
    exact ⟨(true,x5.2.2),(sJ h36),.w (wkF ⟨wD rfl,⟨_,rfl,.ptro rfl rfl⟩,wD rfl,wD rfl,wD rfl,trivial⟩ ⟨.own rfl (.of_eq rfl (q9 _)),trivial⟩ qC)⟩
   rcases cdS h37 with ⟨hc11,h38⟩ | ⟨hc11,h39⟩
   ·skip
    refine cwR (
     .c (uM rfl)<|
     .c (uB rfl (qA2 _ _) rfl)<|
     .c (uM rfl)<|
     .c (o_mv rfl rfl (.yes rfl rfl hc8) rfl)<|
     .c (qj rfl rfl (.yes rfl rfl hc8) rfl rfl (qA2 _ _) rfl)<|
     .c (uPF rfl hc8)<|
     .c (uM rfl)<|
     .c (o_mv rfl rfl (.yes rfl rfl hc9) rfl)<|
     .c (qj rfl rfl (.yes rfl rfl hc9) rfl rfl (qA2 _ _) rfl)<|
     .c (uPF rfl hc9)<|
     .c (uM rfl)<|
     .c (o_mv rfl rfl (.yes rfl rfl hc10) rfl)<|
     .c (qJ4 rfl rfl (.yes rfl rfl hc10) rfl)<|
     .c (uPF rfl hc10)<|
     .c (uM rfl)<|
     .c (uN rfl rfl hc11)<|
     .c (uN rfl rfl hc11)<|
     .c (uN rfl rfl hc11)<|
     .c (uN rfl rfl hc11)<|
     .c (uN rfl rfl hc11)<|
     .c (uPT rfl hc11)<|.nil rfl
    ) ?_
    exact ⟨(true,x5.2.2),(sJ h38),.w (wkF ⟨wD rfl,⟨_,rfl,.ptro rfl rfl⟩,wD rfl,wD rfl,wD rfl,trivial⟩ ⟨.own rfl (.of_eq rfl (q9 _)),trivial⟩ qC)⟩
   have ⟨x12,hx12,h40⟩ := bdS (x := qt0 x5.2.2 x4.1) h39
   refine cwR (
    .c (uM rfl)<|
    .c (uB rfl (qA2 _ _) rfl)<|
    .c (uM rfl)<|
    .c (o_mv rfl rfl (.yes rfl rfl hc8) rfl)<|
    .c (qj rfl rfl (.yes rfl rfl hc8) rfl rfl (qA2 _ _) rfl)<|
    .c (uPF rfl hc8)<|
    .c (uM rfl)<|
    .c (o_mv rfl rfl (.yes rfl rfl hc9) rfl)<|
    .c (qj rfl rfl (.yes rfl rfl hc9) rfl rfl (qA2 _ _) rfl)<|
    .c (uPF rfl hc9)<|
    .c (uM rfl)<|
    .c (o_mv rfl rfl (.yes rfl rfl hc10) rfl)<|
    .c (qJ4 rfl rfl (.yes rfl rfl hc10) rfl)<|
    .c (uPF rfl hc10)<|
    .c (uM rfl)<|
    .c (o_mv rfl rfl (.yes rfl rfl hc11) rfl)<|
    .c (qe3 rfl rfl (.yes rfl rfl hc11) rfl qW4)<|
    .c (o_mv rfl rfl (.yes rfl rfl hc11) rfl)<|
    .c (qE (fun _ => 0) rfl rfl (.yes rfl rfl hc11) Try.func22 rfl rfl (qh1 hx12) (.cons rfl (.ip rfl) (.cons rfl .d .nil)) (qK rfl ⟨(by simp [AV.live,lk,Nat.beq]),trivial,trivial⟩ rfl (OD.dat_live (q9 _)) (by simp)) (.inl rfl))<|
    .c (qj rfl rfl (.yes rfl rfl hc11) rfl rfl (qA2 _ _) rfl)<|
    .c (uPF rfl hc11)<|.nil rfl
   ) ?_
   exact ⟨((decide (x12.1 ≠ 0)),x12.2),(sJ h40),.w (wkF ⟨wD rfl,⟨_,rfl,.ptro rfl rfl⟩,wD rfl,wD rfl,wD rfl,trivial⟩ ⟨.own rfl (.of_eq rfl (q9 _)),trivial⟩ qC)⟩
  refine cwS (cwR (
   .c (uA rfl)<|.nil rfl) ?_)
  refine cwB ?_
  refine qG (V := (Int × (List ttC))) (O := (List ttC)) (fun (z : (Int × (List ttC))) => St.of [(1,.d (qI2 a1)),(5,.d (qT x0)),(6,.ptr 0 0),(7,.d (eint x1.2.1)),(9,.d (eSP_ x3.1)),(10,.d (eErr x3.2.1)),(11,.arr 1 0),(13,.d (eint z.1))] [(0,.own (qc x3.2.2)),(1,.arr 0 26 (z.2.map eCg))]) hj1 (.w (wkF ⟨wD rfl,wD rfl,⟨_,rfl,.ptro rfl rfl⟩,wD rfl,wD rfl,wD rfl,⟨_,rfl,.arr rfl rfl⟩,wD rfl,trivial⟩ ⟨.own rfl (.of_eq rfl (q9 _)),.arr rfl rfl,trivial⟩ qC)) ?_
  intro v4 x13 hb0 hx13
  refine cwS ?_
  have ⟨o4,hj4,h41⟩ := bdS hb0
  refine cwJ (fun (z : Bool) => St.of [(1,.d (qI2 a1)),(5,.d (qT x0)),(6,.ptr 0 0),(7,.d (eint x1.2.1)),(9,.d (eSP_ x3.1)),(10,.d (eErr x3.2.1)),(11,.arr 1 0),(13,.d (eint v4.1)),(70,.d (qT z))] [(0,.own (qc x3.2.2)),(1,.arr 0 26 (v4.2.map eCg))]) (fun (z : Bool) => o4 = z) ?_ ?_
  ·intro v5 hv4; subst hv4
   rcases cdS h41 with ⟨hc12,h42⟩ | ⟨hc12,h43⟩
   ·refine cwT rfl hc12 ?_
    refine cwK ?_
    have ⟨o5,hj5,h44⟩ := bdS h42
    refine cwJ (fun (z : (List ttC)) => St.of [(1,.d (qI2 a1)),(5,.d (qT x0)),(6,.ptr 0 0),(7,.d (eint x1.2.1)),(9,.d (eSP_ x3.1)),(10,.d (eErr x3.2.1)),(11,.arr 1 0),(13,.d (eint v4.1))] [(0,.own (qc x3.2.2)),(1,.arr 0 26 (z.map eCg))]) (fun (z : (List ttC)) => o5 = z) ?_ ?_
    ·intro v6 hv5; subst hv5
     refine cwR (
      .c (uM rfl)<|
      .c (uB rfl (qG0 _ _) rfl)<|
      .c (uA rfl)<|.nil rfl
     ) ?_
     exact ⟨((IntKind.wrap .i64 (v4.1 + 1)),o5),(sJ h44),.w (wkF ⟨wD rfl,wD rfl,⟨_,rfl,.ptro rfl rfl⟩,wD rfl,wD rfl,wD rfl,⟨_,rfl,.arr rfl rfl⟩,wD rfl,trivial⟩ ⟨.own rfl (.of_eq rfl (q9 _)),.arr rfl rfl,trivial⟩ qC)⟩
    refine cwB ?_
    have ⟨x14,hx14,h45⟩ := bdS hj5
    have hx14g := qA hx14
    have ⟨x15,hx15,h46⟩ := bdS (x := qD2 x3.1 x14) h45
    refine cwS (cwR (
     .c (uM rfl)<|
     .c (uM rfl)<|
     .c (uM rfl)<|
     .c (qr1 (enc := eK) (xs := a1) rfl rfl .no rfl rfl sl77 sz31 hx14g.1 hx14g.2)<|
     .c (o_ld rfl rfl .no rfl ta31 rfl rfl)<|
     .c (qc0 rfl rfl .no Try.func31 rfl rfl (ref07_Get_ok hx15) (.cons rfl .d (.cons rfl .d .nil)) ⟨trivial,trivial,trivial⟩ (.inl rfl))<|
     .c (uM rfl)<|
     .c (uE rfl)<|
     .c (uE rfl)<|
     .c (uA rfl)<|
     .c (uA rfl)<|.nil rfl) ?_)
    refine cwS (cwR (
     .c (uM rfl)<|
     .c (uT rfl)<|.nil rfl) ?_)
    rcases cdS h46 with ⟨hc13,h47⟩ | ⟨hc13,h48⟩
    ·refine cwT rfl hc13 ?_
     have ⟨x16,hx16,h49⟩ := bdS h47
     have hx16g := qd0 hx16
     refine cwR (
      .c (uM rfl)<|
      .c (uM rfl)<|
      .c (uM rfl)<|
      .c (qr1 (enc := eK) (xs := a1) rfl rfl .no rfl rfl sl77 sz31 hx14g.1 hx14g.2)<|
      .c (o_ld rfl rfl .no rfl ta31 rfl rfl)<|
      .c (qZ4 (ds := [eK x14,eStr (ByteArray.mk #[]),qT true]) rfl rfl .no zs33 rfl pl33 (.cons rfl rfl rfl rfl rfl rfl rfl (.cons rfl rfl rfl rfl rfl rfl rfl .nil)))<|
      .c (qV4 (rows := ([(x14,(ByteArray.mk #[]),true)] : List ttC).map eCg) rfl rfl .no (.cons rfl .nil) rfl sl22 sz33 ze33 rfl (qH1 qY) (by decide))<|
      .c (qe2 (enc := eCg) (xs := v4.2) (ys := [(x14,(ByteArray.mk #[]),true)]) rfl rfl .no rfl rfl rfl qY sl22 sl22 sz33 by33 ze33 rfl (by decide) hx16g)<|
      .c (uA rfl)<|.nil rfl
     ) ?_
     exact ⟨(v4.2 ++ [(x14,(ByteArray.mk #[]),true)]),(sJ h49),.w (wkF ⟨wD rfl,wD rfl,⟨_,rfl,.ptro rfl rfl⟩,wD rfl,wD rfl,wD rfl,⟨_,rfl,.arr rfl rfl⟩,wD rfl,trivial⟩ ⟨.own rfl (.of_eq rfl (q9 _)),.arr0 rfl rfl rfl,trivial⟩ qC)⟩
    refine cwF rfl hc13 ?_
    refine cwK ?_
    exact ⟨v4.2,(sJ h48),.w (wkF ⟨wD rfl,wD rfl,⟨_,rfl,.ptro rfl rfl⟩,wD rfl,wD rfl,wD rfl,⟨_,rfl,.arr rfl rfl⟩,wD rfl,trivial⟩ ⟨.own rfl (.of_eq rfl (q9 _)),.arr rfl rfl,trivial⟩ qC)⟩
   refine cwF rfl hc12 ?_
   refine qX ?_
   exact ⟨v4.2,(hx13 _ (sJ h43)).symm,.w (wkF ⟨wD rfl,⟨_,rfl,.ptro rfl rfl⟩,wD rfl,wD rfl,wD rfl,⟨_,rfl,.arr rfl rfl⟩,trivial⟩ ⟨.own rfl (.of_eq rfl (q9 _)),.arr rfl rfl,trivial⟩ qC)⟩
  rcases cdS hj4 with ⟨hc14,h50⟩ | ⟨hc14,h51⟩
  ·skip
   refine cwR (
    .c (uM rfl)<|
    .c (uM rfl)<|
    .c (qU (enc := eK) (xs := a1) rfl rfl .no rfl sl77)<|
    .c (uB rfl (qx0 _ _) rfl)<|
    .c (uM rfl)<|
    .c (o_mv rfl rfl (.yes rfl rfl hc14) rfl)<|
    .c (qj rfl rfl (.yes rfl rfl hc14) rfl rfl (qx0 _ _) rfl)<|
    .c (uPT rfl hc14)<|.nil rfl
   ) ?_
   exact ⟨(decide (v4.1 < 20)),(sJ h50),.w (wkF ⟨wD rfl,wD rfl,⟨_,rfl,.ptro rfl rfl⟩,wD rfl,wD rfl,wD rfl,⟨_,rfl,.arr rfl rfl⟩,wD rfl,wD rfl,trivial⟩ ⟨.own rfl (.of_eq rfl (q9 _)),.arr rfl rfl,trivial⟩ qC)⟩
  refine cwR (
   .c (uM rfl)<|
   .c (uM rfl)<|
   .c (qU (enc := eK) (xs := a1) rfl rfl .no rfl sl77)<|
   .c (uB rfl (qx0 _ _) rfl)<|
   .c (uM rfl)<|
   .c (uN rfl rfl hc14)<|
   .c (uN rfl rfl hc14)<|
   .c (uPF rfl hc14)<|.nil rfl
  ) ?_
  exact ⟨false,(sJ h51),.w (wkF ⟨wD rfl,wD rfl,⟨_,rfl,.ptro rfl rfl⟩,wD rfl,wD rfl,wD rfl,⟨_,rfl,.arr rfl rfl⟩,wD rfl,wD rfl,trivial⟩ ⟨.own rfl (.of_eq rfl (q9 _)),.arr rfl rfl,trivial⟩ qC)⟩
 refine cwS (cwR (
  .c (uA rfl)<|.nil rfl) ?_)
 refine cwB ?_
 refine qG (V := (Int × (List ttC))) (O := (List ttC)) (fun (z : (Int × (List ttC))) => St.of [(1,.d (qI2 a1)),(5,.d (qT x0)),(6,.ptr 0 0),(7,.d (eint x1.2.1)),(9,.d (eSP_ x3.1)),(10,.d (eErr x3.2.1)),(11,.arr 1 0),(12,.d (eint z.1))] [(0,.own (qc x3.2.2)),(1,.arr 0 26 (z.2.map eCg))]) hj0 (.w (wkF ⟨wD rfl,wD rfl,⟨_,rfl,.ptro rfl rfl⟩,wD rfl,wD rfl,wD rfl,⟨_,rfl,.nila rfl rfl⟩,wD rfl,trivial⟩ ⟨.own rfl (.of_eq rfl (q9 _)),.nil rfl,trivial⟩ qC)) ?_
 intro v7 x17 hb1 hx17
 refine cwS ?_
 refine cwS (cwR (
  .c (uM rfl)<|
  .c (uM rfl)<|
  .c (qU (enc := ePr) (xs := x3.1) rfl rfl .no rfl sl34)<|
  .c (uB rfl (qx0 _ _) rfl)<|.nil rfl) ?_)
 rcases cdS hb1 with ⟨hc15,h52⟩ | ⟨hc15,h53⟩
 ·refine cwT rfl hc15 ?_
  refine cwK ?_
  refine cwS ?_
  refine cwB ?_
  have ⟨x18,hx18,h54⟩ := bdS h52
  have hx18g := qA hx18
  have ⟨x19,hx19,h55⟩ := bdS h54
  have hx19g := qd0 hx19
  refine cwRA mixed (by kernel_rfl) (
   .c (uM rfl)<|
   .c (uM rfl)<|
   .c (uM rfl)<|
   .c (qr1 (enc := ePr) (xs := x3.1) rfl rfl .no rfl rfl sl34 sz52 hx18g.1 hx18g.2)<|
   .c (q72 rfl rfl .no rfl qT3 (by decide) rfl rfl)<|
   .c (o_ld rfl rfl .no rfl ta31 rfl rfl)<|
   .c (uM rfl)<|
   .c (uM rfl)<|
   .c (qr1 (enc := ePr) (xs := x3.1) rfl rfl .no rfl rfl sl34 sz52 hx18g.1 hx18g.2)<|
   .c (q72 rfl rfl .no rfl fld52_1 (by decide) rfl rfl)<|
   .c (o_ld rfl rfl .no rfl ta9 rfl rfl)<|
   .c (qZ4 (ds := [eK x18.1,eStr x18.2,qT false]) rfl rfl .no zs33 rfl pl33 (.cons rfl rfl rfl rfl rfl rfl rfl (.cons rfl rfl rfl rfl rfl rfl rfl .nil)))<|
   .c (qV4 (rows := ([(x18.1,x18.2,false)] : List ttC).map eCg) rfl rfl .no (.cons rfl .nil) rfl sl22 sz33 ze33 rfl (qH1 qY) (by decide))<|
   .c (qe2 (enc := eCg) (xs := v7.2) (ys := [(x18.1,x18.2,false)]) rfl rfl .no rfl rfl rfl qY sl22 sl22 sz33 by33 ze33 rfl (by decide) hx19g)<|
   .c (uA rfl)<|.nil rfl) (by kernel_rfl) ?_
  refine cwR (
   .c (uM rfl)<|
   .c (uB rfl (qG0 _ _) rfl)<|
   .c (uA rfl)<|.nil rfl
  ) ?_
  exact ⟨((IntKind.wrap .i64 (v7.1 + 1)),(v7.2 ++ [(x18.1,x18.2,false)])),(sJ h55),.w (wkF ⟨wD rfl,wD rfl,⟨_,rfl,.ptro rfl rfl⟩,wD rfl,wD rfl,wD rfl,⟨_,rfl,.arr rfl rfl⟩,wD rfl,trivial⟩ ⟨.own rfl (.of_eq rfl (q9 _)),.arr0 rfl rfl rfl,trivial⟩ qC)⟩
 refine cwF rfl hc15 ?_
 refine qX ?_
 exact ⟨v7.2,(hx17 _ (sJ h53)).symm,.w (wkF ⟨wD rfl,wD rfl,⟨_,rfl,.ptro rfl rfl⟩,wD rfl,wD rfl,wD rfl,⟨_,rfl,.arr rfl rfl⟩,trivial⟩ ⟨.own rfl (.of_eq rfl (q9 _)),.arr rfl rfl,trivial⟩ qC)⟩
end
end Go.Val
